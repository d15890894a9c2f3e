import Derived.Test.YtkgcfgoaabkcpaaE3
import Derived.Deep.RegionWith
import Derived.Deep.DeepCutAuto
namespace Go.Proofs.Ytkgcfgoaabkcpaa.Pa
open Go.RowKit Go.Proofs.YtkgcfgoaabkcpaaW.PrintWords Go.Proofs.YtkgcfgoaabkcpaaW.PrintLast Go.Proofs.YtkgcfgoaabkcpaaW.PrintMore
set_option linter.unusedVariables false
set_option linter.unusedSimpArgs false

/-- What clone's first statement leaves: its box holds two rows of its own. -/
def Cloned (w0 w wc : World) (a0 : ByteArray) (l1 : List S62) (l2 : List S39) : Prop :=
  ∃ v1 v2, wc.heap[w.heap.size]? = some (.cells #[.string a0, v1, v2] 25 (0, 0)) ∧ wc.heap[w.heap.size + 1]? = some (.cells #[.string ⟨#[]⟩, .slice none 0 0, .slice none 0 0] 25 (0, 0)) ∧ Below w.heap.size w wc ∧
    (Kd.fixed k62 w0).R 62 wc (w.heap.size + 2) (fun k => w.heap.size + 2 ≤ k) v1 l1 ∧ (Kd.fixed k39 w0).R 39 wc (w.heap.size + 2) (fun k => w.heap.size + 2 ≤ k) v2 l2
theorem R_from {α : Type} {d : Kd α} {e : Nat} {w : World} {base : Nat} {v : Value} {xs : List α} (h : d.R e w base (fun _ => True) v xs) : d.R e w base (fun k => base ≤ k) v xs :=
  Kd.R_mono (Kd.R_bound h) (fun _ hk => hk.2.1)
theorem cloned_mk {w0 w W2 w1 w2 : World} {a0 : ByteArray} {l1 : List S62} {l2 : List S39} {u1 u2 v1 v2 : Value} (hbw : Below w.heap.size w W2) (hsz : W2.heap.size = w.heap.size + 2)
    (hk0 : W2.heap[w.heap.size]? = some (.cells #[.string a0, u1, u2] 25 (0, 0))) (hk1 : W2.heap[w.heap.size + 1]? = some (.cells #[.string ⟨#[]⟩, .slice none 0 0, .slice none 0 0] 25 (0, 0)))
    (hb1 : Below W2.drew.heap.size W2.drew w1) (hv1 : (Kd.fixed k62 w0).R 62 w1 W2.drew.heap.size (fun _ => True) v1 l1)
    (hb2 : Below w1.heap.size w1 w2) (hv2 : (Kd.fixed k39 w0).R 39 w2 w1.heap.size (fun _ => True) v2 l2) :
    Cloned w0 w ((w2.setCell ⟨w.heap.size, 1, none⟩ v1).setCell ⟨w.heap.size, 2, none⟩ v2) a0 l1 l2 := by
  have hs : W2.drew.heap.size = w.heap.size + 2 := hsz
  have hb1' : Below (w.heap.size + 2) W2.drew w1 := hs ▸ hb1
  have hs1 : w.heap.size + 2 ≤ w1.heap.size := hs ▸ hb1.size
  have hb12 : Below (w.heap.size + 2) W2.drew w2 := hb1'.trans (hb2.mono hs1)
  have hw2 : Below w.heap.size w w2 := (Below.drew hbw).trans (hb12.mono (by omega))
  refine ⟨v1, v2, ?_, ?_, ?_, ?_, ?_⟩
  · have h := (hb12.block w.heap.size (by omega)).trans (show W2.drew.heap[w.heap.size]? = _ from hk0)
    exact blk_put (blk_put h 1 v1 rfl) 2 v2 rfl
  · rw [Below.heap_setCell _ _ _ _ (by simp), Below.heap_setCell _ _ _ _ (by simp)]
    exact (hb12.block (w.heap.size + 1) (by omega)).trans hk1
  · exact (hw2.setCell (by simp) _).setCell (by simp) _
  · refine Kd.R_far (Kd.R_far ?_ (fun k hk => by simp; omega) _) (fun k hk => by simp; omega) _
    have := R_from hv1
    rw [hs] at this
    exact Kd.R_below this hb2
  · refine Kd.R_far (Kd.R_far ?_ (fun k hk => by simp; omega) _) (fun k hk => by simp; omega) _
    exact Kd.R_lower (Kd.R_mono (R_from hv2) (fun k hk => Nat.le_trans hs1 hk)) hs1

/-- A move whose outcomes came in, or were made. -/
def d2 (w0 : World) : Kd S39 := Kd.iso (Kd.pair Kd.string (Kd.pair (Kd.int .i64) (Kd.mix 42 k42 k42 w0))) (fun x : S39 => (x.f0, x.f1, x.f2))
theorem d2_of_fixed {w W : World} {base : Nat} {ok : Nat → Prop} {v : Value} {l2 : List S39} (h : (Kd.fixed k39 w).R 39 W base ok v l2) : (d2 w).R 39 W base ok v l2 := by
  obtain ⟨h0, inner, ho, hr⟩ := h
  refine ⟨h0, inner, ho, hr.imp_ (fun x cs hx => ?_)⟩
  obtain ⟨A, c, rfl, hl, hc⟩ := k39_open (show k39.K w x cs from hx)
  exact ⟨[.string x.f0], [.int .i64 x.f1, .slice A x.f2.length c], rfl, rfl, [.int .i64 x.f1], [.slice A x.f2.length c], rfl, rfl, Kd.mix_came hl hc⟩

theorem blk_lt {w : World} {g : Nat} {o : Obj} (h : w.heap[g]? = some o) : g < w.heap.size := by
  by_cases hg : g < w.heap.size
  · exact hg
  · rw [Array.getElem?_eq_none (by omega)] at h; cases h
/-- An element of the row of moves. -/
theorem row_elem {w W : World} {base : Nat} {ok : Nat → Prop} {A : Option Addr} {c : Nat} {l2 : List S39} (hbw : Below w.heap.size w W) (h : (d2 w).R 39 W base ok (.slice A l2.length c) l2) {i : Nat} (hi : i < l2.length) :
    ∃ g cap cur, (Value.slice A l2.length c) = .slice (some ⟨g, 0, none⟩) l2.length cap ∧ base ≤ g ∧ W.heap[g]? = some (.cells cur 39 (0, 0)) ∧ ∃ A' c', Kd.C k42 W A' (rd_T39 l2 i).f2.length (rd_T39 l2 i).f2 ∧ (rd_T39 l2 i).f2.length ≤ c' ∧ W.cell? ⟨g, i * 3, none⟩ = some (.string (rd_T39 l2 i).f0) ∧ W.cell? ⟨g, i * 3 + 1, none⟩ = some (.int .i64 (rd_T39 l2 i).f1) ∧ W.cell? ⟨g, i * 3 + 2, none⟩ = some (.slice A' (rd_T39 l2 i).f2.length c') := by
  obtain ⟨inner, ho⟩ := Kd.R_own h
  rcases ho.2 with ⟨_, h0⟩ | ⟨g, cap, cur, he, hg, hh, _⟩
  · omega
  refine ⟨g, cap, cur, he, hg, hh, ?_⟩
  obtain ⟨A1, c1, he1, _, hC⟩ := Kd.R_reads h
  rw [he] at he1
  injection he1 with ha _ hc
  subst ha
  obtain ⟨ad, cs, ea, hl, hK, hcs⟩ := Kd.C_get hC z39 i (by omega) (by omega)
  cases ea
  obtain ⟨_, _, rfl, rfl, _, _, rfl, rfl, hm⟩ := hK
  obtain ⟨A', c', rfl, hl', hr'⟩ := Kd.mix_read rfl (fun _ _ hx => hx) hbw hm
  refine ⟨A', c', hr', hl', ?_, ?_, ?_⟩
  · have := hcs 0 _ rfl; rw [show (d2 w).sz = 3 from rfl] at this; unfold rd_T39; simpa only [Addr.add_lit, Nat.zero_add, Nat.add_zero, Int.toNat_natCast] using this
  · have := hcs 1 _ rfl; rw [show (d2 w).sz = 3 from rfl] at this; unfold rd_T39; simpa only [Addr.add_lit, Nat.zero_add, Nat.add_zero, Int.toNat_natCast] using this
  · have := hcs 2 _ rfl; rw [show (d2 w).sz = 3 from rfl] at this; unfold rd_T39; simpa only [Addr.add_lit, Nat.zero_add, Nat.add_zero, Int.toNat_natCast] using this
theorem d2_k39 {w W : World} (hbw : Below w.heap.size w W) {x : S39} {cs : List Value} (h : (d2 w).K W x cs) : k39.K W x cs := by
  obtain ⟨_, _, rfl, rfl, _, _, rfl, rfl, hm⟩ := h
  obtain ⟨A', c', rfl, hl', hr'⟩ := Kd.mix_read rfl (fun _ _ hx => hx) hbw hm
  exact k39_mk W x hl' hr'
theorem k42_fixed {w0 W : World} {base : Nat} {ok : Nat → Prop} {v : Value} {l : List S42} (h : (Kd.fixed k42 w0).R 42 W base ok v l) : k42.R 42 W base ok v l := by
  obtain ⟨h0, inner, ho, hr⟩ := h
  refine ⟨h0, inner, ho, hr.imp_ (fun x cs hx => ?_)⟩
  obtain rfl := k42_open (show k42.K w0 x cs from hx)
  exact k42_mkM _ _ _ _
theorem set_getD {α : Type} (l : List α) (i : Nat) (d : α) (h : i < l.length) : l.set i (l.getD i d) = l := by
  apply List.ext_getElem?
  intro j
  by_cases e : i = j
  · subst e; simp [h]
  · rw [List.getElem?_set_ne e]
theorem round_mk {w0 w wr w1 : World} {a0 : ByteArray} {v1 u1 u2 : Value} {l1 : List S62} {l2 : List S39} {g c2 : Nat} {Ay : Option Addr} {cy i : Nat}
    (hk0 : wr.heap[w.heap.size]? = some (.cells #[.string a0, u1, u2] 25 (0, 0))) (hk1 : wr.heap[w.heap.size + 1]? = some (.cells #[.string ⟨#[]⟩, .slice none 0 0, .slice none 0 0] 25 (0, 0))) (hbw : Below w.heap.size w wr) (hb0 : Below w0.heap.size w0 w)
    (hv1 : (Kd.fixed k62 w0).R 62 wr (w.heap.size + 2) (fun k => w.heap.size + 2 ≤ k) v1 l1) (hv2 : (d2 w0).R 39 wr (w.heap.size + 2) (fun k => w.heap.size + 2 ≤ k) (.slice (some ⟨g, 0, none⟩) l2.length c2) l2) (hi : i < l2.length)
    (hb : Below wr.heap.size wr.drew w1) (hy : (Kd.fixed k42 wr).R 42 w1 wr.heap.size (fun _ => True) (.slice Ay (rd_T39 l2 i).f2.length cy) (rd_T39 l2 i).f2) :
    (w1.setCell ⟨g, i * 3 + 2, none⟩ (.slice Ay (rd_T39 l2 i).f2.length cy)).heap[w.heap.size]? = some (.cells #[.string a0, u1, u2] 25 (0, 0)) ∧ (w1.setCell ⟨g, i * 3 + 2, none⟩ (.slice Ay (rd_T39 l2 i).f2.length cy)).heap[w.heap.size + 1]? = some (.cells #[.string ⟨#[]⟩, .slice none 0 0, .slice none 0 0] 25 (0, 0)) ∧ Below w.heap.size w (w1.setCell ⟨g, i * 3 + 2, none⟩ (.slice Ay (rd_T39 l2 i).f2.length cy)) ∧
    (Kd.fixed k62 w0).R 62 (w1.setCell ⟨g, i * 3 + 2, none⟩ (.slice Ay (rd_T39 l2 i).f2.length cy)) (w.heap.size + 2) (fun k => w.heap.size + 2 ≤ k) v1 l1 ∧ (d2 w0).R 39 (w1.setCell ⟨g, i * 3 + 2, none⟩ (.slice Ay (rd_T39 l2 i).f2.length cy)) (w.heap.size + 2) (fun k => w.heap.size + 2 ≤ k) (.slice (some ⟨g, 0, none⟩) l2.length c2) l2 := by
  have hs0 : w.heap.size < wr.heap.size := blk_lt hk0
  have hs1 : w.heap.size + 1 < wr.heap.size := blk_lt hk1
  have hb' : Below wr.heap.size wr w1 := (Below.drew (Below.refl _ _)).trans hb
  obtain ⟨g', cap, cur, he, hgb, hgh, A', c', hA', hc', hx0, hx1, hx2⟩ := row_elem (bch hb0 hbw) hv2 hi
  injection he with he1 _ _
  injection he1 with he1
  injection he1 with he1 _ _
  subst he1
  have hgl : g < wr.heap.size := blk_lt hgh
  have hgh1 : w1.heap[g]? = some (.cells cur 39 (0, 0)) := (hb'.block g hgl).trans hgh
  have hv21 := Kd.R_below hv2 hb'
  refine ⟨?_, ?_, ?_, ?_, ?_⟩
  · rw [Below.heap_setCell _ _ _ _ (by simp; omega)]; exact (hb'.block _ hs0).trans hk0
  · rw [Below.heap_setCell _ _ _ _ (by simp; omega)]; exact (hb'.block _ hs1).trans hk1
  · exact (bch hbw hb').setCell (by simp; omega) _
  · exact Kd.R_set (Kd.R_below hv1 hb') hgh1 (by simp [Kd.fixed]) _ _
  · have hseg := (Kd.R_seg (okp := fun k => wr.heap.size ≤ k) hv21 i (by omega) (by omega) (c := [.string (rd_T39 l2 i).f0, .int .i64 (rd_T39 l2 i).f1, .slice A' (rd_T39 l2 i).f2.length c']) (seg := [.slice Ay (rd_T39 l2 i).f2.length cy]) (j := 2) rfl
      (fun j u hu => by
        have hd : (d2 w0).sz = 3 := rfl
        rw [hd, Int.toNat_natCast]
        rw [hb'.cell (p := ⟨g, i * 3 + j, none⟩) hgl]
        match j, hu with
        | 0, hu => cases hu; exact hx0
        | 1, hu => cases hu; exact hx1
        | 2, hu => cases hu; exact hx2)
      (show 2 + 1 ≤ 3 by decide) (x' := rd_T39 l2 i) ⟨[.string (rd_T39 l2 i).f0], [.int .i64 (rd_T39 l2 i).f1, .slice Ay (rd_T39 l2 i).f2.length cy], rfl, rfl, [.int .i64 (rd_T39 l2 i).f1], [.slice Ay (rd_T39 l2 i).f2.length cy], rfl, rfl, Kd.mix_made (Kd.R_lower (k42_fixed (R_from hy)) (by omega))⟩ (fun k hk => ⟨by omega, by omega⟩)).1
    rw [Int.toNat_natCast] at hseg
    have : l2.set i (rd_T39 l2 i) = l2 := set_getD l2 i z39 hi
    rw [this] at hseg
    exact hseg

set_option maxHeartbeats 4000000 in
theorem clone_own (a0 : ByteArray) (A1 : Option Addr) (c1 : Nat) (l1 : List S62) (A2 : Option Addr) (c2 : Nat) (l2 : List S39) (w0 w : World) (hb0 : Below w0.heap.size w0 w)
    (hr1 : Kd.C k62 w0 A1 l1.length l1) (hc1 : l1.length ≤ c1) (hr2 : Kd.C k39 w0 A2 l2.length l2) (hc2 : l2.length ≤ c2) (hl1 : l1.length ≤ 1000) (hl2 : l2.length ≤ 1000) (hl3 : ∀ m ∈ l2, m.f2.length ≤ 1000) :
    Calls Try.prog 56 #[.agg #[.string a0, .slice A1 l1.length c1, .slice A2 l2.length c2]] w fun e w' => ∃ A1' c1' A2' c2', e = .returned (.agg #[.string a0, .slice A1' l1.length c1', .slice A2' l2.length c2']) ∧ (Kd.fixed k62 w0).R 62 w' w.heap.size (fun k => w.heap.size ≤ k) (.slice A1' l1.length c1') l1 ∧ (d2 w0).R 39 w' w.heap.size (fun k => w.heap.size ≤ k) (.slice A2' l2.length c2') l2 ∧ Below w.heap.size w w' := by
  have HR1 := Aside0.mk hr1
  have HR2 := Aside0.mk hr2
  have HL3 := Lib.hid hl3
  clear hr1 hr2 hl3
  obtain ⟨W2, hW2⟩ : ∃ W2, W2 = (w.alloc (.cells #[.string a0, .slice A1 l1.length c1, .slice A2 l2.length c2] 25)).alloc (.cells #[.string ⟨#[]⟩, .slice none 0 0, .slice none 0 0] 25) := ⟨_, rfl⟩
  have hsz : W2.heap.size = w.heap.size + 2 := by rw [hW2]; simp
  have hbw : Below w.heap.size w W2 := by rw [hW2]; exact ((Below.refl w.heap.size w).alloc (Nat.le_refl _) _).alloc (by simp) _
  have hk0 : W2.heap[w.heap.size]? = some (.cells #[.string a0, .slice A1 l1.length c1, .slice A2 l2.length c2] 25 (0, 0)) := by rw [hW2, Below.heap_alloc _ _ _ (by simp)]; exact heap_alloc_new w _
  have hk1 : W2.heap[w.heap.size + 1]? = some (.cells #[.string ⟨#[]⟩, .slice none 0 0, .slice none 0 0] 25 (0, 0)) := by rw [hW2]; have h := heap_alloc_new (w.alloc (.cells #[.string a0, .slice A1 l1.length c1, .slice A2 l2.length c2] 25)) (.cells #[.string ⟨#[]⟩, .slice none 0 0, .slice none 0 0] 25); rwa [show (w.alloc (.cells #[.string a0, .slice A1 l1.length c1, .slice A2 l2.length c2] 25)).heap.size = w.heap.size + 1 by simp] at h
  have HW2 := Lib.hid hW2
  have HSZ := Lib.hid hsz; have HK0 := Lib.hid hk0; have HK1 := Lib.hid hk1
  clear hW2 hsz hk0 hk1
  go_enter Try.func56, Try.ntmps56
  go_upto_region 1 with fail
  go_cut [] (fun wc => Cloned w0 w wc a0 l1 l2)
  case first =>
    rw [← HW2.out]
    have hc94 := clone62 A1 c1 l1 w0 W2.drew HR1.out (Below.drew (bch hb0 hbw)) hc1 (by omega)
    have f1 : W2.cell? ⟨w.heap.size, 1, none⟩ = some (.slice A1 l1.length c1) := by simp [World.cell?, HK0.out]
    have f2 : W2.cell? ⟨w.heap.size, 2, none⟩ = some (.slice A2 l2.length c2) := by simp [World.cell?, HK0.out]
    have HC94 := Lib.hid hc94; clear hc94
    have z1 : W2.frozen? ⟨w.heap.size, 1, none⟩ = false := by simp [World.frozen?, HK0.out]
    have z2 : W2.frozen? ⟨w.heap.size, 2, none⟩ = false := by simp [World.frozen?, HK0.out]
    have F1 := Lib.hid f1; have F2 := Lib.hid f2; have Z1 := Lib.hid z1; have Z2 := Lib.hid z2; clear z1 z2
    have hlt : w.heap.size < W2.heap.size := by rw [HSZ.out]; omega
    go_region_with (first | (go_at_call 94; refine HC94.out.mono ?_; rintro e w1 ⟨Ax1, cx1, rfl, hv1, hb1⟩; have HV1 := Aside0.mk hv1; have hb1' := Aside0.mk hb1; clear hv1; have g2 := (hb1.cell (p := ⟨w.heap.size, 2, none⟩) (show w.heap.size < W2.heap.size by rw [HSZ.out]; omega)).trans (show W2.drew.cell? ⟨w.heap.size, 2, none⟩ = _ from f2); clear hb1) | (go_at_call 95; refine (clone39 A2 c2 l2 w0 _ HR2.out (bch (Below.drew (bch hb0 hbw)) hb1'.out) hc2 (by omega)).mono ?_; rintro e w2 ⟨Ax2, cx2, rfl, hv2, hb2⟩; have HV2 := Aside0.mk hv2; have HB2 := Aside0.mk hb2; have hlt2 : w.heap.size < w1.heap.size := Nat.lt_of_lt_of_le hlt hb1'.out.size; have q1 := (hb2.cell (p := ⟨w.heap.size, 1, none⟩) hlt2).trans ((hb1'.out.cell (p := ⟨w.heap.size, 1, none⟩) hlt).trans (show W2.drew.cell? _ = _ from F1.out)); have q2 := (hb2.cell (p := ⟨w.heap.size, 2, none⟩) hlt2).trans ((hb1'.out.cell (p := ⟨w.heap.size, 2, none⟩) hlt).trans (show W2.drew.cell? _ = _ from F2.out)); have r1 := (hb2.frozen (p := ⟨w.heap.size, 1, none⟩) hlt2).trans ((hb1'.out.frozen (p := ⟨w.heap.size, 1, none⟩) hlt).trans (show W2.drew.frozen? _ = _ from Z1.out)); have r2 := (hb2.frozen (p := ⟨w.heap.size, 2, none⟩) hlt2).trans ((hb1'.out.frozen (p := ⟨w.heap.size, 2, none⟩) hlt).trans (show W2.drew.frozen? _ = _ from Z2.out)); clear hv2 hb2))
    all_goals (go_wp2_with fail; go_meet; exact cloned_mk hbw HSZ.out HK0.out HK1.out hb1'.out HV1.out HB2.out HV2.out)
  case rest =>
    clear HK0 HK1 HSZ HW2 hbw
    obtain ⟨v1, v2, hK0, hK1, hbw, hv1, hv2⟩ := hcut
    obtain ⟨Av1, cv1, rfl⟩ := Kd.R_slice hv1
    obtain ⟨Av2, cv2, rfl⟩ := Kd.R_slice hv2
    have HK0 := Aside0.mk hK0
    have HK1 := Aside0.mk hK1
    have HBW := Aside0.mk hbw
    have HV1 := Aside0.mk hv1
    have HV2 := Aside0.mk (d2_of_fixed hv2)
    have f2 : wc.cell? ⟨w.heap.size, 2, none⟩ = some (.slice Av2 l2.length cv2) := by simp [World.cell?, hK0]
    clear hK0 hK1 hbw hv1 hv2
    go_wp2
    clear f2
    go_loopg [3, 15] l2.length (fun gg _ s15 wr => ∃ i : Nat, i ≤ l2.length ∧ l2.length - i ≤ gg ∧ s15 = .int .i64 i ∧ Aside0 (wr.heap[w.heap.size]? = some (.cells #[.string a0, .slice Av1 l1.length cv1, .slice Av2 l2.length cv2] 25 (0, 0))) ∧ Aside0 (wr.heap[w.heap.size + 1]? = some (.cells #[.string ⟨#[]⟩, .slice none 0 0, .slice none 0 0] 25 (0, 0))) ∧ Aside0 (Below w.heap.size w wr) ∧ Aside0 ((Kd.fixed k62 w0).R 62 wr (w.heap.size + 2) (fun k => w.heap.size + 2 ≤ k) (.slice Av1 l1.length cv1) l1) ∧ Aside0 ((d2 w0).R 39 wr (w.heap.size + 2) (fun k => w.heap.size + 2 ≤ k) (.slice Av2 l2.length cv2) l2))
    case atStart => exact ⟨0, Nat.zero_le _, by omega, rfl, HK0, HK1, HBW, HV1, HV2⟩
    case round =>
      clear HK0 HK1 HBW HV1 HV2
      obtain ⟨i, hi, hg, rfl, HK0, HK1, HBW, HV1, HV2⟩ := hrel
      by_cases hlt : i < l2.length
      · have hltz : (i : Int) < (l2.length : Int) := by omega
        obtain ⟨g, cap, cur, he, hgb, hgh, A', c', hA', hc', hx0, hx1, hx2⟩ := row_elem (bch hb0 HBW.out) HV2.out hlt
        injection he with he1 he2 he3
        subst he1; subst he3
        have hglt := blk_lt hgh
        have HA' := Aside0.mk hA'
        have HGH := Aside0.mk hgh
        have f2 : wr.cell? ⟨w.heap.size, 2, none⟩ = some (.slice (some ⟨g, 0, none⟩) l2.length cv2) := by simp [World.cell?, HK0.out]
        have zx : wr.frozen? ⟨g, i * 3 + 2, none⟩ = false := by simp [World.frozen?, hgh]
        have hBlt : w.heap.size < wr.heap.size := blk_lt HK0.out
        have F2 := Lib.hid f2; have HX2 := Lib.hid hx2; have ZX := Lib.hid zx
        have hml : (rd_T39 l2 i).f2.length ≤ 1000 := HL3.out _ (rd39_mem hlt)
        clear hgh hA' he2
        go_wp2
        go_region_with (go_at_call 66; refine (clone42 A' c' (rd_T39 l2 i).f2 wr _ HA'.out (by first | exact Below.drew (Below.refl _ _) | exact Below.refl _ _) hc' (by omega)).mono ?_; rintro e w1 ⟨Ay, cy, rfl, hvy, hby⟩; have HVY := Aside0.mk hvy; have HBY := Aside0.mk hby; have q2 := (hby.cell (p := ⟨w.heap.size, 2, none⟩) hBlt).trans F2.out; have qx := (hby.cell (p := ⟨g, i * 3 + 2, none⟩) hglt).trans HX2.out; have qz := (hby.frozen (p := ⟨g, i * 3 + 2, none⟩) hglt).trans ZX.out; clear hvy hby)
        all_goals
          go_wp2
          go_roundg (l2.length - (i + 1))
          case measure => omega
          case rel =>
            obtain ⟨p0, p1, p2, p3, p4⟩ := round_mk HK0.out HK1.out HBW.out hb0 HV1.out HV2.out hlt HBY.out HVY.out
            exact ⟨i + 1, by omega, by omega, by go_num, ⟨p0⟩, ⟨p1⟩, ⟨p2⟩, ⟨p3⟩, ⟨p4⟩⟩
      · have hltz : ¬ (i : Int) < (l2.length : Int) := by omega
        have f0 : wr.cell? ⟨w.heap.size, 0, none⟩ = some (.string a0) := by simp [World.cell?, HK0.out]
        have f1 : wr.cell? ⟨w.heap.size, 1, none⟩ = some (.slice Av1 l1.length cv1) := by simp [World.cell?, HK0.out]
        have f2 : wr.cell? ⟨w.heap.size, 2, none⟩ = some (.slice Av2 l2.length cv2) := by simp [World.cell?, HK0.out]
        have h0 : wr.cell? ⟨w.heap.size + 1, 0, none⟩ = some (.string ⟨#[]⟩) := by simp [World.cell?, HK1.out]
        have h1 : wr.cell? ⟨w.heap.size + 1, 1, none⟩ = some (.slice none 0 0) := by simp [World.cell?, HK1.out]
        have h2 : wr.cell? ⟨w.heap.size + 1, 2, none⟩ = some (.slice none 0 0) := by simp [World.cell?, HK1.out]
        have z0 : wr.frozen? ⟨w.heap.size + 1, 0, none⟩ = false := by simp [World.frozen?, HK1.out]
        have z1 : wr.frozen? ⟨w.heap.size + 1, 1, none⟩ = false := by simp [World.frozen?, HK1.out]
        have z2 : wr.frozen? ⟨w.heap.size + 1, 2, none⟩ = false := by simp [World.frozen?, HK1.out]
        have hBlt : w.heap.size < wr.heap.size := blk_lt HK0.out
        have hend : Below w.heap.size w (((wr.setCell ⟨w.heap.size + 1, 0, none⟩ (.string a0)).setCell ⟨w.heap.size + 1, 1, none⟩ (.slice Av1 l1.length cv1)).setCell ⟨w.heap.size + 1, 2, none⟩ (.slice Av2 l2.length cv2)) := ((HBW.out.setCell (by simp) _).setCell (by simp) _).setCell (by simp) _
        have P1 := Aside0.mk (Kd.R_lower (Kd.R_mono (Kd.R_far (Kd.R_far (Kd.R_far (p := ⟨w.heap.size + 1, 0, none⟩) HV1.out (fun k hk => by simp; omega) (.string a0)) (p := ⟨w.heap.size + 1, 1, none⟩) (fun k hk => by simp; omega) (.slice Av1 l1.length cv1)) (p := ⟨w.heap.size + 1, 2, none⟩) (fun k hk => by simp; omega) (.slice Av2 l2.length cv2)) (fun k hk => show w.heap.size ≤ k by omega)) (show w.heap.size ≤ w.heap.size + 2 by omega))
        have P2 := Aside0.mk (Kd.R_lower (Kd.R_mono (Kd.R_far (Kd.R_far (Kd.R_far (p := ⟨w.heap.size + 1, 0, none⟩) HV2.out (fun k hk => by simp; omega) (.string a0)) (p := ⟨w.heap.size + 1, 1, none⟩) (fun k hk => by simp; omega) (.slice Av1 l1.length cv1)) (p := ⟨w.heap.size + 1, 2, none⟩) (fun k hk => by simp; omega) (.slice Av2 l2.length cv2)) (fun k hk => show w.heap.size ≤ k by omega)) (show w.heap.size ≤ w.heap.size + 2 by omega))
        have HE := Aside0.mk hend; clear hend
        have HF := Aside0.mk (blk_put (blk_put (blk_put HK1.out 0 (.string a0) rfl) 1 (.slice Av1 l1.length cv1) rfl) 2 (.slice Av2 l2.length cv2) rfl)
        go_wp2
        refine bodyPost_ret (v := .agg #[.string a0, .slice Av1 l1.length cv1, .slice Av2 l2.length cv2]) (results_cell_row rfl _ _ (w.heap.size + 1) 25 #[.string a0, .slice Av1 l1.length cv1, .slice Av2 l2.length cv2] (0, 0) _ rfl HF.out Try.underlying25 rfl (by kernel_rfl)) rfl ⟨_, _, _, _, rfl, P1.out, P2.out, HE.out⟩

/-- Rows of clone's read. -/
theorem own_reads62 {w W : World} (hb : Below w.heap.size w W) {base : Nat} {ok : Nat → Prop} {A : Option Addr} {c : Nat} {l : List S62} (h : (Kd.fixed k62 w).R 62 W base ok (.slice A l.length c) l) : l.length ≤ c ∧ Kd.C k62 W A l.length l := by
  obtain ⟨A', c', he, hl, hC⟩ := Kd.R_reads h
  injection he with e1 _ e2
  subst e1; subst e2
  exact ⟨hl, ReadsRow.imp_ hC (Below.refl _ _) (fun x cs hx => k62.K_below hb hx)⟩
theorem own_reads39 {w W : World} (hb : Below w.heap.size w W) {base : Nat} {ok : Nat → Prop} {A : Option Addr} {c : Nat} {l : List S39} (h : (d2 w).R 39 W base ok (.slice A l.length c) l) : l.length ≤ c ∧ Kd.C k39 W A l.length l := by
  obtain ⟨A', c', he, hl, hC⟩ := Kd.R_reads h
  injection he with e1 _ e2
  subst e1; subst e2
  exact ⟨hl, ReadsRow.imp_ hC (Below.refl _ _) (fun x cs hx => d2_k39 hb hx)⟩
theorem clone_calls (a0 : ByteArray) (A1 : Option Addr) (c1 : Nat) (l1 : List S62) (A2 : Option Addr) (c2 : Nat) (l2 : List S39) (w : World)
    (hr1 : Kd.C k62 w A1 l1.length l1) (hc1 : l1.length ≤ c1) (hr2 : Kd.C k39 w A2 l2.length l2) (hc2 : l2.length ≤ c2) (hl1 : l1.length ≤ 1000) (hl2 : l2.length ≤ 1000) (hl3 : ∀ m ∈ l2, m.f2.length ≤ 1000) :
    Calls Try.prog 56 #[.agg #[.string a0, .slice A1 l1.length c1, .slice A2 l2.length c2]] w fun e w' => ∃ A1' c1' A2' c2', e = .returned (.agg #[.string a0, .slice A1' l1.length c1', .slice A2' l2.length c2']) ∧ l1.length ≤ c1' ∧ Kd.C k62 w' A1' l1.length l1 ∧ l2.length ≤ c2' ∧ Kd.C k39 w' A2' l2.length l2 ∧ Below w.heap.size w w' :=
  (clone_own a0 A1 c1 l1 A2 c2 l2 w w (Below.refl _ _) hr1 hc1 hr2 hc2 hl1 hl2 hl3).mono fun e w' ⟨A1', c1', A2', c2', he, h1, h2, hb⟩ => by
    obtain ⟨k1, p1⟩ := own_reads62 hb h1
    obtain ⟨k2, p2⟩ := own_reads39 hb h2
    exact ⟨A1', c1', A2', c2', he, k1, p1, k2, p2, hb⟩
end Go.Proofs.Ytkgcfgoaabkcpaa.Pa
