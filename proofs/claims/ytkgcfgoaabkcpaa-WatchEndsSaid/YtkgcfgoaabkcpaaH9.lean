import Derived.Test.YtkgcfgoaabkcpaaH7
import Derived.Test.YtkgcfgoaabkcpaaH8
namespace Go.Proofs.Ytkgcfgoaabkcpaa.Pa
open Go.RowKit Go.Proofs.YtkgcfgoaabkcpaaW.PrintWords Go.Proofs.YtkgcfgoaabkcpaaW.PrintLast Go.Proofs.YtkgcfgoaabkcpaaW.PrintMore
set_option linter.unusedVariables false
set_option linter.unusedSimpArgs false

/-! ### The three protocols, plain -/
def rg3 (a b c : Nat) : List (Nat × S25) := [(a, pF), (b, pS), (c, pI)]
theorem right_F : (wrongF pF.f1 pF.f2).1 = 0 := by decide +kernel
theorem right_S : (wrongF pS.f1 pS.f2).1 = 0 := by decide +kernel
theorem right_I : (wrongF pI.f1 pI.f2).1 = 0 := by decide +kernel
theorem reg_all : regP allP [] = allP := by kernel_rfl
def sW (a b c : Nat) (hs : List (Nat × Int)) (bad : Int) (ended : Bool) : WSt := ⟨rg3 a b c, hs, bad, ended⟩
theorem feed_open (a b c : Nat) : FeedC (sW a b c [] 0 false) 0 0 ⟨#[70, 105, 108, 101]⟩ ⟨#[]⟩ = (0, sW a b c [(a, 0)] 0 false) := by kernel_rfl
theorem autoOf_F (a b c : Nat) : autoOf (rg3 a b c) a = pF := by simp [autoOf, rg3]
theorem feed_do (a b c : Nat) (st : Int) (bad : Int) (nm out : ByteArray) : FeedC (sW a b c [(a, st)] bad false) 2 0 nm out =
    ((doneR [(a, st)] 0 a (outsF st nm pF.f2) 2 out).1, if (doneR [(a, st)] 0 a (outsF st nm pF.f2) 2 out).1 = 0 then sW a b c (doneR [(a, st)] 0 a (outsF st nm pF.f2) 2 out).2 bad false else sW a b c (doneR [(a, st)] 0 a (outsF st nm pF.f2) 2 out).2 (bad + 1) false) := by
  have h := doneC_in (sW a b c [(a, st)] bad false) 2 0 nm out Nat.one_pos
  have e : (sW a b c [(a, st)] bad false).hs[0]'Nat.one_pos = (a, st) := rfl
  rw [e] at h
  simp only [show (sW a b c [(a, st)] bad false).rg = rg3 a b c from rfl, autoOf_F] at h
  rw [show (((0 : Nat) : Int)) = 0 from rfl] at h
  have hf : feedC (sW a b c [(a, st)] bad false) 2 0 nm out = ((doneR [(a, st)] 0 a (outsF st nm pF.f2) 2 out).1, sW a b c (doneR [(a, st)] 0 a (outsF st nm pF.f2) 2 out).2 bad false) := by
    unfold feedC
    rw [if_neg (by simp [sW]), if_neg (by decide), if_pos rfl, h]
    rfl
  unfold FeedC
  rw [hf]
  rfl
theorem feed_close0 (a b c : Nat) (bad : Int) : FeedC (sW a b c [(a, 0)] bad false) 2 0 ⟨#[99, 108, 111, 115, 101]⟩ ⟨#[111, 107]⟩ = (0, sW a b c [(a, 2)] bad false) := (feed_do ..).trans (by kernel_rfl)
theorem feed_close1 (a b c : Nat) (bad : Int) : FeedC (sW a b c [(a, 1)] bad false) 2 0 ⟨#[99, 108, 111, 115, 101]⟩ ⟨#[111, 107]⟩ = (0, sW a b c [(a, 2)] bad false) := (feed_do ..).trans (by kernel_rfl)
theorem feed_close2 (a b c : Nat) (bad : Int) : FeedC (sW a b c [(a, 2)] bad false) 2 0 ⟨#[99, 108, 111, 115, 101]⟩ ⟨#[111, 107]⟩ = (3, sW a b c [(a, 2)] (bad + 1) false) := (feed_do ..).trans (by kernel_rfl)
theorem feed_some (a b c : Nat) (bad : Int) : FeedC (sW a b c [(a, 0)] bad false) 2 0 ⟨#[114, 101, 97, 100]⟩ ⟨#[115, 111, 109, 101]⟩ = (0, sW a b c [(a, 0)] bad false) := (feed_do ..).trans (by kernel_rfl)
theorem feed_none (a b c : Nat) (bad : Int) : FeedC (sW a b c [(a, 0)] bad false) 2 0 ⟨#[114, 101, 97, 100]⟩ ⟨#[110, 111, 110, 101]⟩ = (0, sW a b c [(a, 1)] bad false) := (feed_do ..).trans (by kernel_rfl)
theorem feed_read1 (a b c : Nat) (bad : Int) (out : ByteArray) : FeedC (sW a b c [(a, 1)] bad false) 2 0 ⟨#[114, 101, 97, 100]⟩ out = (3, sW a b c [(a, 1)] (bad + 1) false) := (feed_do ..).trans (by kernel_rfl)
theorem open_nil (a b c : Nat) : openL (rg3 a b c) [] 0 = [] := rfl
theorem open_0 (a b c : Nat) : openL (rg3 a b c) [(a, 0)] 0 = [0] := by
  rw [openL, autoOf_F]; rfl
theorem open_1 (a b c : Nat) : openL (rg3 a b c) [(a, 1)] 0 = [0] := by
  rw [openL, autoOf_F]; rfl
theorem open_2 (a b c : Nat) : openL (rg3 a b c) [(a, 2)] 0 = [] := by
  rw [openL, autoOf_F]; rfl
/-! An iterator's -/
theorem feed_openI (a b c : Nat) : FeedC (sW a b c [] 0 false) 0 0 ⟨#[73, 116, 101, 114]⟩ ⟨#[]⟩ = (0, sW a b c [(c, 0)] 0 false) := by kernel_rfl
theorem feed_end (a b c : Nat) (hs : List (Nat × Int)) (kind : Int) (h : kind = 4 ∨ kind = 5) : FeedC (sW a b c hs 0 false) kind 0 ⟨#[]⟩ ⟨#[]⟩ = (0, sW a b c hs 0 true) := by
  rcases h with rfl | rfl <;> kernel_rfl
theorem feed_behind (a b c : Nat) (hs : List (Nat × Int)) (bad kind hd : Int) (nm out : ByteArray) : FeedC (sW a b c hs bad true) kind hd nm out = (5, sW a b c hs (bad + 1) true) := by
  have hf : feedC (sW a b c hs bad true) kind hd nm out = (5, sW a b c hs bad true) := by unfold feedC; rw [if_pos (.inl rfl)]
  unfold FeedC
  rw [hf]; rfl
theorem start_fin (p : S25) (h : p ∈ allP) : (rd_T62 p.f1 0).f1 = false := by
  simp only [allP, List.mem_cons, List.not_mem_nil, or_false] at h
  rcases h with rfl | rfl | rfl <;> rfl
theorem autoOf_all (a b c g : Nat) (h : ∃ e ∈ rg3 a b c, g = e.1) : autoOf (rg3 a b c) g ∈ allP := by
  have := autoOf_mem h
  have h2 := List.mem_map_of_mem (f := Prod.snd) this
  exact h2
theorem open_I (a b c : Nat) : openL (rg3 a b c) [(c, 0)] 0 = [0] := by
  rw [openL, start_fin _ (autoOf_all a b c c ⟨(c, pI), by simp [rg3], rfl⟩)]
  rfl
theorem fits_all (p : S25) (h : p ∈ allP) : Fits1 p ∧ p.f0.size ≤ 140737488351232 := by
  simp only [allP, List.mem_cons, List.not_mem_nil, or_false] at h
  rcases h with rfl | rfl | rfl
  · exact ⟨⟨by decide, by decide, by decide⟩, by decide⟩
  · exact ⟨⟨by decide, by decide, by decide⟩, by decide⟩
  · exact ⟨⟨by decide, by decide, by decide⟩, by decide⟩
theorem right_all (p : S25) (h : p ∈ allP) : Right p.f1 p.f2 := by
  simp only [allP, List.mem_cons, List.not_mem_nil, or_false] at h
  rcases h with rfl | rfl | rfl
  · exact right_of right_F
  · exact right_of right_S
  · exact right_of right_I
theorem len_all (p : S25) (h : p ∈ allP) : 2 ≤ p.f1.length := by
  simp only [allP, List.mem_cons, List.not_mem_nil, or_false] at h
  rcases h with rfl | rfl | rfl <;> decide
theorem mem3 {a b c : Nat} {e : Nat × S25} (h : e ∈ rg3 a b c) : e.2 ∈ allP := by
  have h2 := List.mem_map_of_mem (f := Prod.snd) h
  exact h2
theorem good_nil (a b c : Nat) (bad : Int) (en : Bool) : GoodW (sW a b c [] bad en) := ⟨fun e he => ⟨right_all _ (mem3 he), (fits_all _ (mem3 he)).1⟩, fun h hh => by cases hh⟩
theorem good_F (a b c : Nat) (st bad : Int) (en : Bool) (h0 : 0 ≤ st) (h1 : st < 3) : GoodW (sW a b c [(a, st)] bad en) := ⟨fun e he => ⟨right_all _ (mem3 he), (fits_all _ (mem3 he)).1⟩, fun h hh => by
  obtain rfl : h = (a, st) := by simpa [sW] using hh
  refine ⟨⟨(a, pF), by simp [sW, rg3], rfl⟩, h0, ?_⟩
  show st < (autoOf (rg3 a b c) a).f1.length
  rw [autoOf_F]
  exact h1⟩
theorem good_I (a b c : Nat) (bad : Int) (en : Bool) : GoodW (sW a b c [(c, 0)] bad en) := ⟨fun e he => ⟨right_all _ (mem3 he), (fits_all _ (mem3 he)).1⟩, fun h hh => by
  obtain rfl : h = (c, 0) := by simpa [sW] using hh
  have hm : ∃ e ∈ rg3 a b c, c = e.1 := ⟨(c, pI), by simp [rg3], rfl⟩
  refine ⟨hm, Int.le_refl 0, ?_⟩
  have := len_all _ (autoOf_all a b c c hm)
  show (0 : Int) < (autoOf (rg3 a b c) c).f1.length
  omega⟩
theorem rg_of {rg : List (Nat × S25)} (h : rg.map Prod.snd = allP) : ∃ a b c, rg = rg3 a b c := by
  match rg, h with
  | [(a, x), (b, y), (c, z)], h =>
    simp only [List.map_cons, List.map_nil, allP, List.cons.injEq, and_true] at h
    obtain ⟨rfl, rfl, rfl⟩ := h
    exact ⟨a, b, c, rfl⟩

/-! ### One watch at a time -/
def One (w0 W : World) (N gm gw : Nat) (s : WSt) : Prop := WatchAt w0 W N gm gw (fun k => N ≤ k) s ∧ N ≤ W.heap.size
theorem One.of_fed {w0 W w' : World} {N gm gw : Nat} {s : WSt} (hN : N ≤ W.heap.size) (h : WatchAt w0 w' N gm gw (fun k => N ≤ k ∨ W.heap.size ≤ k) s) (hk : W.heap.size ≤ w'.heap.size) : One w0 w' N gm gw s :=
  ⟨h.mono (fun k h => h.elim id (fun h => Nat.le_trans hN h)) (fun k h => h), Nat.le_trans hN hk⟩
theorem One.base {w0 W : World} {N gm gw : Nat} {s : WSt} (h : One w0 W N gm gw s) : Below w0.heap.size w0 W := by
  obtain ⟨⟨_, _, _, _, _, _, _, _, _, _, _, h, _⟩, _⟩ := h
  exact h
theorem One.below {w0 W w' : World} {N gm gw : Nat} {s : WSt} (h : One w0 W N gm gw s) (hb : Below W.heap.size W w') : One w0 w' N gm gw s := ⟨h.1.below hb, Nat.le_trans h.2 hb.size⟩
theorem Feed1 (w0 W : World) (N gm gw : Nat) (s s' : WSt) (kind hd r : Int) (nm out : ByteArray) (nn : Int) (hW : One w0 W N gm gw s) (hG : GoodW s) (hnm : nm.size ≤ 140737488351232) (hl : s.hs.length ≤ 1000000) (hb0 : 0 ≤ s.bad) (hb1 : s.bad ≤ 1000000) (hr : FeedC s kind hd nm out = (r, s')) :
    Calls Try.prog 37 #[.pointer (some ⟨gw, 0, none⟩), .agg #[.int .i64 kind, .int .i64 hd, .string nm, .string out, .int .i64 nn]] W fun e w' => e = .returned (.int .i64 r) ∧ One w0 w' N gm gw s' :=
  (Feed_calls w0 W N gm gw _ s kind hd nm out nn hW.1 hG hW.2 hnm hl hb0 hb1).mono fun e w' ⟨h1, h2, h3⟩ => by
    rw [hr] at h1 h2
    exact ⟨h1, One.of_fed hW.2 h2 h3.1⟩
theorem New1 (A : Option Addr) (c : Nat) (w : World) (hr : Kd.C k25 w A 3 allP) : Calls Try.prog 35 #[.slice A 3 c] w fun e w' => ∃ N gm gw a b d, e = .returned (.pointer (some ⟨gw, 0, none⟩)) ∧ One w w' N gm gw (sW a b d [] 0 false) :=
  (WNew_calls A c allP w w (Below.refl _ _) hr fits_all (by decide)).mono fun e w' ⟨gw, rg, h1, h2, h3, h4, h5⟩ => by
    rw [reg_all] at h2
    obtain ⟨a, b, d, rfl⟩ := rg_of h2
    exact ⟨_, _, gw, a, b, d, h1, WatchAt.of_taking h3 h5 (Nat.le_refl _) (fun k h => h), Nat.le_refl _⟩
end Go.Proofs.Ytkgcfgoaabkcpaa.Pa
