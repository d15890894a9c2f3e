import Derived.Test.YtkgcfgoaabkcpaaPa0
import Derived.Shelf.SlicesQ.Load
import Derived.Deep.DeepFit
import Derived.Lib.Hide
namespace Go.Proofs.Ytkgcfgoaabkcpaa.Pa
open Go.RowKit Go.Proofs.YtkgcfgoaabkcpaaW.PrintWords Go.Proofs.YtkgcfgoaabkcpaaW.PrintLast Go.Proofs.YtkgcfgoaabkcpaaW.PrintMore
set_option linter.unusedVariables false
set_option linter.unusedSimpArgs false

theorem bch {w W w' : World} (h : Below w.heap.size w W) (k : Below W.heap.size W w') : Below w.heap.size w w' := h.trans (k.mono h.size)
theorem ret_i {a b : Int} (h : a = b) : Ending.returned (.int .i64 a) = .returned (.int .i64 b) := by rw [h]
theorem ret_b {a b : Bool} (h : a = b) : Ending.returned (.bool a) = .returned (.bool b) := by rw [h]

/-- What a function value answers of an element that lies in memory, at whatever later world. -/
def Tells {α : Type} (g : Nat) (lb : Array Value) (d : Kd α) (w : World) (xs : List α) (p : α → Bool) : Prop :=
  ∀ (W : World) (x : α) (cs : List Value), x ∈ xs → Below w.heap.size w W → d.K W x cs → Calls Try.prog g (#[.agg cs.toArray] ++ lb) W fun e w' => e = .returned (.bool (p x)) ∧ Below W.heap.size W w'

/-- The first place of an element that is so; -1. -/
def idxP {α : Type} (p : α → Bool) : List α → Int
  | [] => -1
  | x :: xs => if p x then 0 else if idxP p xs < 0 then -1 else idxP p xs + 1

theorem idxP_hit {α : Type} (p : α → Bool) (xs : List α) (k : Nat) (x : α) (hx : xs[k]? = some x) (hp : p x = true) (hb : ∀ j y, j < k → xs[j]? = some y → p y = false) : idxP p xs = k := by
  induction xs generalizing k with
  | nil => simp at hx
  | cons y ys ih =>
    cases k with
    | zero => simp at hx; subst hx; simp [idxP, hp]
    | succ k =>
      have h0 := hb 0 y (by omega) rfl
      have := ih k (by simpa using hx) (fun j z hj hz => hb (j + 1) z (by omega) (by simpa using hz))
      simp only [idxP, h0, this]
      rw [if_neg (by simp), if_neg (by omega)]; omega
theorem idxP_miss {α : Type} (p : α → Bool) (xs : List α) (hb : ∀ y, y ∈ xs → p y = false) : idxP p xs = -1 := by
  induction xs with
  | nil => rfl
  | cons y ys ih =>
    have := ih (fun z hz => hb z (List.mem_cons_of_mem _ hz))
    simp [idxP, hb y List.mem_cons_self, this]
theorem idxP_ge' {α : Type} (p : α → Bool) (xs : List α) : 0 ≤ idxP p xs ↔ xs.any p = true := by
  induction xs with
  | nil => simp [idxP]
  | cons y ys ih =>
    rw [List.any_cons, Bool.or_eq_true, ← ih]
    show 0 ≤ (if p y then (0 : Int) else if idxP p ys < 0 then -1 else idxP p ys + 1) ↔ _
    by_cases hy : p y = true
    · rw [if_pos hy]; simp [hy]
    · rw [if_neg hy]
      by_cases h : idxP p ys < 0
      · rw [if_pos h]; constructor
        · intro h'; omega
        · rintro (h' | h')
          · exact absurd h' hy
          · omega
      · rw [if_neg h]; constructor
        · intro h'; right; omega
        · intro _; omega
theorem idxP_ge {α : Type} (p : α → Bool) (xs : List α) : decide (idxP p xs ≥ 0) = xs.any p := by
  have h := idxP_ge' p xs
  cases hx : xs.any p with
  | true => exact decide_eq_true (h.mpr hx)
  | false => exact decide_eq_false (fun h' => by rw [h.mp h'] at hx; cases hx)


set_option maxHeartbeats 2000000 in
theorem indexFunc42 (p : S42 → Bool) (g : Nat) (lb : Array Value) (eg : ∀ args w, (callFunc g args).run Try.prog w = .ok (.enter g args) w) (A : Option Addr) (c : Nat) (l : List S42) (w : World)
    (hr : Kd.C k42 w A l.length l) (hc : l.length ≤ c) (hp : Tells g lb k42 w l p) (hbig : l.length ≤ 9223372036854775807) :
    Calls Try.prog 96 #[.slice A l.length c, .func (.func g) #[] lb] w fun e w' => e = .returned (.int .i64 (idxP p l)) ∧ Below w.heap.size w w' := by
  have HP := Lib.hid hp; clear hp
  have HR := Lib.hid hr; clear hr
  go_enter Try.func96, Try.ntmps96
  go_wp2
  go_loopg [5, 8] l.length (fun gg _ s8 wr => ∃ kk : Nat, kk ≤ l.length ∧ l.length - kk ≤ gg ∧ s8 = .int .i64 kk ∧ Aside0 (Below w.heap.size w wr) ∧ Aside0 (∀ j y, j < kk → l[j]? = some y → p y = false))
  case atStart => exact ⟨0, Nat.zero_le _, by omega, rfl, ⟨Below.refl _ w⟩, ⟨fun j y hj => absurd hj (Nat.not_lt_zero _)⟩⟩
  case round =>
    obtain ⟨kk, hkk, hg, rfl, BW, A1⟩ := hrel
    by_cases hlt : kk < l.length
    · have hltz : (kk : Int) < (l.length : Int) := by omega
      obtain ⟨ad, e0, h0, h1⟩ := at_T42 (Kd.C_below HR.out BW.out) kk (by omega) hltz
      have hget : l[kk]? = some (rd_T42 l kk) := by unfold rd_T42; simp [List.getD_eq_getElem?_getD, hlt]
      have hcall := HP.out wr (rd_T42 l kk) _ (List.mem_of_getElem? hget) BW.out (k42_mk _ _)
      have HG := Lib.hid hget; clear hget
      generalize rd_T42 l kk = y at h0 h1 hcall HG
      cases e0
      simp only [Int.toNat_natCast] at h0 h1
      skip
      cases hq : p y with
      | true =>
        rw [hq] at hcall
        go_wp2_with (go_at_fn g; refine hcall.mono ?_; rintro e w' ⟨rfl, hb'⟩)
        go_ret
        exact ⟨ret_i (idxP_hit p l kk y HG.out hq A1.out).symm, bch BW.out hb'⟩
      | false =>
        rw [hq] at hcall
        go_wp2_with (go_at_fn g; refine hcall.mono ?_; rintro e w' ⟨rfl, hb'⟩)
        go_roundg (l.length - (kk + 1))
        case measure => omega
        case rel =>
          refine ⟨kk + 1, by omega, by omega, by go_num, ⟨bch BW.out hb'⟩, ⟨fun j z hj hz => ?_⟩⟩
          by_cases e : j = kk
          · subst e; rw [HG.out] at hz; cases hz; exact hq
          · exact A1.out j z (by omega) hz
    · have hltz : ¬ (kk : Int) < (l.length : Int) := by omega
      go_wp2
      go_ret
      refine ⟨ret_i (idxP_miss p l (fun y hy => ?_)).symm, BW.out⟩
      obtain ⟨j, hj, rfl⟩ := List.getElem_of_mem hy
      exact A1.out j _ (by omega) (List.getElem?_eq_getElem hj)


set_option maxHeartbeats 1000000 in
theorem containsFunc42 (p : S42 → Bool) (g : Nat) (lb : Array Value) (eg : ∀ args w, (callFunc g args).run Try.prog w = .ok (.enter g args) w) (A : Option Addr) (c : Nat) (l : List S42) (w : World)
    (hr : Kd.C k42 w A l.length l) (hc : l.length ≤ c) (hp : Tells g lb k42 w l p) (hbig : l.length ≤ 9223372036854775807) :
    Calls Try.prog 61 #[.slice A l.length c, .func (.func g) #[] lb] w fun e w' => e = .returned (.bool (l.any p)) ∧ Below w.heap.size w w' := by
  have hcall := indexFunc42 p g lb eg A c l w hr hc hp hbig
  have hge := Lib.hid (idxP_ge p l)
  clear hr hp eg
  go_enter Try.func61, Try.ntmps61
  go_wp2_with (go_at_call 96; refine hcall.mono ?_; rintro e w' ⟨rfl, hb'⟩)
  go_ret
  exact ⟨ret_b hge.out, hb'⟩


set_option maxHeartbeats 2000000 in
theorem indexFunc39 (p : S39 → Bool) (g : Nat) (lb : Array Value) (eg : ∀ args w, (callFunc g args).run Try.prog w = .ok (.enter g args) w) (A : Option Addr) (c : Nat) (l : List S39) (w : World)
    (hr : Kd.C k39 w A l.length l) (hc : l.length ≤ c) (hp : Tells g lb k39 w l p) (hbig : l.length ≤ 9223372036854775807) :
    Calls Try.prog 112 #[.slice A l.length c, .func (.func g) #[] lb] w fun e w' => e = .returned (.int .i64 (idxP p l)) ∧ Below w.heap.size w w' := by
  have HP := Lib.hid hp; clear hp
  have HR := Lib.hid hr; clear hr
  go_enter Try.func112, Try.ntmps112
  go_wp2
  go_loopg [5, 8] l.length (fun gg _ s8 wr => ∃ kk : Nat, kk ≤ l.length ∧ l.length - kk ≤ gg ∧ s8 = .int .i64 kk ∧ Aside0 (Below w.heap.size w wr) ∧ Aside0 (∀ j y, j < kk → l[j]? = some y → p y = false))
  case atStart => exact ⟨0, Nat.zero_le _, by omega, rfl, ⟨Below.refl _ w⟩, ⟨fun j y hj => absurd hj (Nat.not_lt_zero _)⟩⟩
  case round =>
    obtain ⟨kk, hkk, hg, rfl, BW, A1⟩ := hrel
    by_cases hlt : kk < l.length
    · have hltz : (kk : Int) < (l.length : Int) := by omega
      obtain ⟨ad, A2_, c2_, e0, h0, h1, h2, l2, g2⟩ := at_T39 (Kd.C_below HR.out BW.out) kk (by omega) hltz
      have hget : l[kk]? = some (rd_T39 l kk) := by unfold rd_T39; simp [List.getD_eq_getElem?_getD, hlt]
      have hcall := HP.out wr (rd_T39 l kk) _ (List.mem_of_getElem? hget) BW.out (k39_mk _ _ l2 g2)
      have HG := Lib.hid hget; clear hget
      generalize rd_T39 l kk = y at h0 h1 h2 hcall HG l2 g2
      cases e0
      simp only [Int.toNat_natCast] at h0 h1 h2
      clear l2 g2
      cases hq : p y with
      | true =>
        rw [hq] at hcall
        go_wp2_with (go_at_fn g; refine hcall.mono ?_; rintro e w' ⟨rfl, hb'⟩)
        go_ret
        exact ⟨ret_i (idxP_hit p l kk y HG.out hq A1.out).symm, bch BW.out hb'⟩
      | false =>
        rw [hq] at hcall
        go_wp2_with (go_at_fn g; refine hcall.mono ?_; rintro e w' ⟨rfl, hb'⟩)
        go_roundg (l.length - (kk + 1))
        case measure => omega
        case rel =>
          refine ⟨kk + 1, by omega, by omega, by go_num, ⟨bch BW.out hb'⟩, ⟨fun j z hj hz => ?_⟩⟩
          by_cases e : j = kk
          · subst e; rw [HG.out] at hz; cases hz; exact hq
          · exact A1.out j z (by omega) hz
    · have hltz : ¬ (kk : Int) < (l.length : Int) := by omega
      go_wp2
      go_ret
      refine ⟨ret_i (idxP_miss p l (fun y hy => ?_)).symm, BW.out⟩
      obtain ⟨j, hj, rfl⟩ := List.getElem_of_mem hy
      exact A1.out j _ (by omega) (List.getElem?_eq_getElem hj)


set_option maxHeartbeats 1000000 in
theorem containsFunc39 (p : S39 → Bool) (g : Nat) (lb : Array Value) (eg : ∀ args w, (callFunc g args).run Try.prog w = .ok (.enter g args) w) (A : Option Addr) (c : Nat) (l : List S39) (w : World)
    (hr : Kd.C k39 w A l.length l) (hc : l.length ≤ c) (hp : Tells g lb k39 w l p) (hbig : l.length ≤ 9223372036854775807) :
    Calls Try.prog 90 #[.slice A l.length c, .func (.func g) #[] lb] w fun e w' => e = .returned (.bool (l.any p)) ∧ Below w.heap.size w w' := by
  have hcall := indexFunc39 p g lb eg A c l w hr hc hp hbig
  have hge := Lib.hid (idxP_ge p l)
  clear hr hp eg
  go_enter Try.func90, Try.ntmps90
  go_wp2_with (go_at_call 112; refine hcall.mono ?_; rintro e w' ⟨rfl, hb'⟩)
  go_ret
  exact ⟨ret_b hge.out, hb'⟩


set_option maxHeartbeats 2000000 in
theorem indexFunc62 (p : S62 → Bool) (g : Nat) (lb : Array Value) (eg : ∀ args w, (callFunc g args).run Try.prog w = .ok (.enter g args) w) (A : Option Addr) (c : Nat) (l : List S62) (w : World)
    (hr : Kd.C k62 w A l.length l) (hc : l.length ≤ c) (hp : Tells g lb k62 w l p) (hbig : l.length ≤ 9223372036854775807) :
    Calls Try.prog 67 #[.slice A l.length c, .func (.func g) #[] lb] w fun e w' => e = .returned (.int .i64 (idxP p l)) ∧ Below w.heap.size w w' := by
  have HP := Lib.hid hp; clear hp
  have HR := Lib.hid hr; clear hr
  go_enter Try.func67, Try.ntmps67
  go_wp2
  go_loopg [5, 8] l.length (fun gg _ s8 wr => ∃ kk : Nat, kk ≤ l.length ∧ l.length - kk ≤ gg ∧ s8 = .int .i64 kk ∧ Aside0 (Below w.heap.size w wr) ∧ Aside0 (∀ j y, j < kk → l[j]? = some y → p y = false))
  case atStart => exact ⟨0, Nat.zero_le _, by omega, rfl, ⟨Below.refl _ w⟩, ⟨fun j y hj => absurd hj (Nat.not_lt_zero _)⟩⟩
  case round =>
    obtain ⟨kk, hkk, hg, rfl, BW, A1⟩ := hrel
    by_cases hlt : kk < l.length
    · have hltz : (kk : Int) < (l.length : Int) := by omega
      obtain ⟨ad, e0, h0, h1⟩ := at_T62 (Kd.C_below HR.out BW.out) kk (by omega) hltz
      have hget : l[kk]? = some (rd_T62 l kk) := by unfold rd_T62; simp [List.getD_eq_getElem?_getD, hlt]
      have hcall := HP.out wr (rd_T62 l kk) _ (List.mem_of_getElem? hget) BW.out (k62_mk _ _)
      have HG := Lib.hid hget; clear hget
      generalize rd_T62 l kk = y at h0 h1 hcall HG
      cases e0
      simp only [Int.toNat_natCast] at h0 h1
      skip
      cases hq : p y with
      | true =>
        rw [hq] at hcall
        go_wp2_with (go_at_fn g; refine hcall.mono ?_; rintro e w' ⟨rfl, hb'⟩)
        go_ret
        exact ⟨ret_i (idxP_hit p l kk y HG.out hq A1.out).symm, bch BW.out hb'⟩
      | false =>
        rw [hq] at hcall
        go_wp2_with (go_at_fn g; refine hcall.mono ?_; rintro e w' ⟨rfl, hb'⟩)
        go_roundg (l.length - (kk + 1))
        case measure => omega
        case rel =>
          refine ⟨kk + 1, by omega, by omega, by go_num, ⟨bch BW.out hb'⟩, ⟨fun j z hj hz => ?_⟩⟩
          by_cases e : j = kk
          · subst e; rw [HG.out] at hz; cases hz; exact hq
          · exact A1.out j z (by omega) hz
    · have hltz : ¬ (kk : Int) < (l.length : Int) := by omega
      go_wp2
      go_ret
      refine ⟨ret_i (idxP_miss p l (fun y hy => ?_)).symm, BW.out⟩
      obtain ⟨j, hj, rfl⟩ := List.getElem_of_mem hy
      exact A1.out j _ (by omega) (List.getElem?_eq_getElem hj)

end Go.Proofs.Ytkgcfgoaabkcpaa.Pa
