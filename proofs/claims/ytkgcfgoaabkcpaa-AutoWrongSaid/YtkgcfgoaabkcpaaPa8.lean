-- PRINTED by print.py (a twelfth state) out of the translation. Not trusted: Lean checks it.
import Derived.Test.YtkgcfgoaabkcpaaPa0
namespace Go.Proofs.Ytkgcfgoaabkcpaa.Pa
open Go.RowKit Go.Proofs.YtkgcfgoaabkcpaaW.PrintWords Go.Proofs.YtkgcfgoaabkcpaaW.PrintLast Go.Proofs.YtkgcfgoaabkcpaaW.PrintMore
attribute [local go_sem] max2_int min2_int max_two min_two max_three min_three max_four min_four   -- for this text's walks alone
set_option linter.unusedVariables false
set_option linter.unusedSimpArgs false

/-! ### ballcockref09_again: function 54 -/
mutual
def ballcockref09_again.l0 : Nat → Int → Int → ByteArray → List (S62) → List (S39) → ByteArray → Int → List (S42) → Option (Bool)
  | 0, _, _, _, _, _, _, _, _ => none
  | k + 1, x1, x6, x140000, x140001, x140002, x142000, x142001, x142002 => if x6 < x1 then (if 0 ≤ x6 then (if x6 < (x140002.length : Int) then (if ((rd_T39 x140002 x6).f0).toList = x142000.toList then (if ((rd_T39 x140002 x6).f1) = x142001 then (some true) else (ballcockref09_again.l0 k x1 (wrap64 (x6 + 1)) x140000 x140001 x140002 x142000 x142001 x142002)) else (ballcockref09_again.l0 k x1 (wrap64 (x6 + 1)) x140000 x140001 x140002 x142000 x142001 x142002)) else (none)) else (none)) else (ballcockref09_again.l1 k 0 x142000 x142001 x142002)
def ballcockref09_again.l1 : Nat → Int → ByteArray → Int → List (S42) → Option (Bool)
  | 0, _, _, _, _ => none
  | k + 1, x7, x142000, x142001, x142002 => if x7 < (x142002.length : Int) then (ballcockref09_again.l2 k x7 0 x142000 x142001 x142002) else (some false)
def ballcockref09_again.l2 : Nat → Int → Int → ByteArray → Int → List (S42) → Option (Bool)
  | 0, _, _, _, _, _ => none
  | k + 1, x7, x8, x142000, x142001, x142002 => if x8 < x7 then (if 0 ≤ x7 then (if x7 < (x142002.length : Int) then (if 0 ≤ x8 then (if x8 < (x142002.length : Int) then (if ((rd_T42 x142002 x7).f0).toList = ((rd_T42 x142002 x8).f0).toList then (some true) else (ballcockref09_again.l2 k x7 (wrap64 (x8 + 1)) x142000 x142001 x142002)) else (none)) else (none)) else (none)) else (none)) else (ballcockref09_again.l1 k (wrap64 (x7 + 1)) x142000 x142001 x142002)
end
def ballcockref09_again.f (k : Nat) (a0_0 : ByteArray) (l0_1 : List (S62)) (l0_2 : List (S39)) (a1 : Int) : Option (Bool) := if 0 ≤ a1 then (if a1 < (l0_2.length : Int) then (ballcockref09_again.l0 k a1 0 a0_0 l0_1 l0_2 ((rd_T39 l0_2 a1).f0) ((rd_T39 l0_2 a1).f1) ((rd_T39 l0_2 a1).f2)) else (none)) else (none)
theorem ballcockref09_again.mono_l : ∀ k, (∀ y0 y1 y2 y3 y4 y5 y6 y7, LeO (ballcockref09_again.l0 k y0 y1 y2 y3 y4 y5 y6 y7) (ballcockref09_again.l0 (k + 1) y0 y1 y2 y3 y4 y5 y6 y7)) ∧ (∀ y0 y1 y2 y3, LeO (ballcockref09_again.l1 k y0 y1 y2 y3) (ballcockref09_again.l1 (k + 1) y0 y1 y2 y3)) ∧ (∀ y0 y1 y2 y3 y4, LeO (ballcockref09_again.l2 k y0 y1 y2 y3 y4) (ballcockref09_again.l2 (k + 1) y0 y1 y2 y3 y4))
  | 0 => ⟨fun _ _ _ _ _ _ _ _ r h => by simp [ballcockref09_again.l0] at h, fun _ _ _ _ r h => by simp [ballcockref09_again.l1] at h, fun _ _ _ _ _ r h => by simp [ballcockref09_again.l2] at h⟩
  | k + 1 => by
    obtain ⟨ih0, ih1, ih2⟩ := ballcockref09_again.mono_l k
    refine ⟨?_, ?_, ?_⟩
    · intro y0 y1 y2 y3 y4 y5 y6 y7
      unfold ballcockref09_again.l0
      repeat' first
      | (with_reducible exact ih0 _ _ _ _ _ _ _ _)
      | (with_reducible exact ih1 _ _ _ _)
      | (with_reducible exact ih2 _ _ _ _ _)
      | (with_reducible exact LeO.refl _)
      | (with_reducible exact LeO.none _)
      | (with_reducible refine LeO.ite ?_ ?_)
      | (with_reducible refine LeO.bind ?_ (fun _ => ?_))
      | exact ih0 _ _ _ _ _ _ _ _
      | exact ih1 _ _ _ _
      | exact ih2 _ _ _ _ _
      | exact LeO.none _
      | refine LeO.ite ?_ ?_
      | refine LeO.bind ?_ (fun _ => ?_)
    · intro y0 y1 y2 y3
      unfold ballcockref09_again.l1
      repeat' first
      | (with_reducible exact ih0 _ _ _ _ _ _ _ _)
      | (with_reducible exact ih1 _ _ _ _)
      | (with_reducible exact ih2 _ _ _ _ _)
      | (with_reducible exact LeO.refl _)
      | (with_reducible exact LeO.none _)
      | (with_reducible refine LeO.ite ?_ ?_)
      | (with_reducible refine LeO.bind ?_ (fun _ => ?_))
      | exact ih0 _ _ _ _ _ _ _ _
      | exact ih1 _ _ _ _
      | exact ih2 _ _ _ _ _
      | exact LeO.none _
      | refine LeO.ite ?_ ?_
      | refine LeO.bind ?_ (fun _ => ?_)
    · intro y0 y1 y2 y3 y4
      unfold ballcockref09_again.l2
      repeat' first
      | (with_reducible exact ih0 _ _ _ _ _ _ _ _)
      | (with_reducible exact ih1 _ _ _ _)
      | (with_reducible exact ih2 _ _ _ _ _)
      | (with_reducible exact LeO.refl _)
      | (with_reducible exact LeO.none _)
      | (with_reducible refine LeO.ite ?_ ?_)
      | (with_reducible refine LeO.bind ?_ (fun _ => ?_))
      | exact ih0 _ _ _ _ _ _ _ _
      | exact ih1 _ _ _ _
      | exact ih2 _ _ _ _ _
      | exact LeO.none _
      | refine LeO.ite ?_ ?_
      | refine LeO.bind ?_ (fun _ => ?_)
theorem ballcockref09_again.mono : ∀ a0 a1 a2 a3 k, LeO (ballcockref09_again.f k a0 a1 a2 a3) (ballcockref09_again.f (k + 1) a0 a1 a2 a3) := by
  intro a0 a1 a2 a3 k
  obtain ⟨ih0, ih1, ih2⟩ := ballcockref09_again.mono_l k
  unfold ballcockref09_again.f
  repeat' first
      | (with_reducible exact ih0 _ _ _ _ _ _ _ _)
      | (with_reducible exact ih1 _ _ _ _)
      | (with_reducible exact ih2 _ _ _ _ _)
      | (with_reducible exact LeO.refl _)
      | (with_reducible exact LeO.none _)
      | (with_reducible refine LeO.ite ?_ ?_)
      | (with_reducible refine LeO.bind ?_ (fun _ => ?_))
      | exact ih0 _ _ _ _ _ _ _ _
      | exact ih1 _ _ _ _
      | exact ih2 _ _ _ _ _
      | exact LeO.none _
      | refine LeO.ite ?_ ?_
      | refine LeO.bind ?_ (fun _ => ?_)
set_option maxHeartbeats 8000000 in
set_option maxRecDepth 100000 in
theorem ballcockref09_again.calls (k : Nat) (a0_0 : ByteArray) (A0_1 : Option Addr) (c0_1 : Nat) (l0_1 : List (S62)) (A0_2 : Option Addr) (c0_2 : Nat) (l0_2 : List (S39)) (a1 : Int) (r : Bool) (w : World) (hr0_1 : Kd.C k62 w A0_1 l0_1.length l0_1) (hc0_1 : l0_1.length ≤ c0_1) (hr0_2 : Kd.C k39 w A0_2 l0_2.length l0_2) (hc0_2 : l0_2.length ≤ c0_2) (h : ballcockref09_again.f k a0_0 l0_1 l0_2 a1 = some r) :
    Calls Try.prog 54 #[.agg #[.string a0_0, .slice A0_1 l0_1.length c0_1, .slice A0_2 l0_2.length c0_2], .int .i64 a1] w fun e w' => e = .returned (.bool r) ∧ Below w.heap.size w w' := by
  have hu25 := Try.underlying25
  have hu39 := Try.underlying39
  have HR0_1 := Aside0.mk hr0_1
  have HC0_1 := Aside0.mk hc0_1
  clear hr0_1 hc0_1
  have HR0_2 := Aside0.mk hr0_2
  have HC0_2 := Aside0.mk hc0_2
  clear hr0_2 hc0_2
  have HB := Aside0.mk (Below.refl w.heap.size w)
  have H : (if 0 ≤ a1 then (if a1 < (l0_2.length : Int) then (ballcockref09_again.l0 k a1 0 a0_0 l0_1 l0_2 ((rd_T39 l0_2 a1).f0) ((rd_T39 l0_2 a1).f1) ((rd_T39 l0_2 a1).f2)) else (none)) else (none)) = some r := h
  clear h
  by_cases c3 : 0 ≤ a1
  · rw [if_pos c3] at H
    have c3b0 : decide (0 ≤ a1) = true := decide_eq_true c3
    clear c3
    by_cases c4 : a1 < (l0_2.length : Int)
    · rw [if_pos c4] at H
      have c4b0 : decide (a1 < (l0_2.length : Int)) = true := decide_eq_true c4
      clear c4
      have H' := Aside0.mk H
      clear H
      go_enter Try.func54, Try.ntmps54
      go_wp2_with (first | ((with_reducible refine gate_dst (N := 2) rfl ?_); refine box_event ?hg (N := 2) ?hd (cs := #[.string a0_0, .slice A0_1 l0_1.length c0_1, .slice A0_2 l0_2.length c0_2]) (t := 25) ?hr ?_; (case hd => rfl); (case hg => rfl); (case hr => first | (go_simp; done) | (go_simp; rfl)); intro gb139 hg w5 hbox hb; have n0_ := Aside0.mk (below_step (by repeat (first | (with_reducible first | exact HB.out | apply below_alloc | apply pw_below_drewN | apply below_drew1) | exact HB.out)) hb); have n1_ := Aside0.mk (hbox); have n2_ := Aside0.mk ((by rw [hg]; exact (below_size (by repeat (first | (with_reducible first | exact HB.out | apply below_alloc | apply pw_below_drewN | apply below_drew1) | exact HB.out))) : w.heap.size ≤ gb139)); have n3_ := Aside0.mk ((by rw [hg]; exact (below_size (by repeat (first | (with_reducible first | exact HB.out | apply below_alloc | apply pw_below_drewN | apply below_drew1) | exact HB.out))) : w.heap.size ≤ gb139)); clear HB; have HB := n0_; have BK139 := n1_; have GW139 := n2_; have GE139 := n3_; clear n0_ n1_ n2_ n3_; clear hb hbox hg; have hcz6_0 : w5.cell? ⟨gb139, 0, none⟩ = some (.string a0_0) := (blk_cell BK139.out 0).trans rfl; have hcz6_1 : w5.cell? ⟨gb139, 1, none⟩ = some (.slice A0_1 l0_1.length c0_1) := (blk_cell BK139.out 1).trans rfl; have hcz6_2 : w5.cell? ⟨gb139, 2, none⟩ = some (.slice A0_2 l0_2.length c0_2) := (blk_cell BK139.out 2).trans rfl; have hfz6_0 := blk_frozen BK139.out 0; have hfz6_1 := blk_frozen BK139.out 1; have hfz6_2 := blk_frozen BK139.out 2; have p140 : 0 ≤ (a1 : Int) := of_decide_eq_true (by first | (with_reducible assumption) | assumption); have q140 : a1 < (l0_2.length : Int) := of_decide_eq_true (by first | (with_reducible assumption) | assumption); obtain ⟨ad140, A140_2, c140_2, e140, hx140_0, hx140_1, hx140_2, hl140_2, hi140_2⟩ := at_T39 HR0_2.out a1 p140 q140; cases e140; replace hx140_0 := (HB.out.cell (World.block_lt_of_cell? w _ hx140_0)).trans hx140_0; replace hx140_1 := (HB.out.cell (World.block_lt_of_cell? w _ hx140_1)).trans hx140_1; replace hx140_2 := (HB.out.cell (World.block_lt_of_cell? w _ hx140_2)).trans hx140_2; have HR140_2 := Aside0.mk hi140_2; have HC140_2 := Aside0.mk hl140_2; clear hi140_2 hl140_2; replace p140 := eq_true p140; replace q140 := eq_true q140) | ((with_reducible refine gate_dst (N := 5) rfl ?_); refine box_event ?hg (N := 5) ?hd (cs := #[.string (⟨#[]⟩ : ByteArray), .int .i64 0, .slice none 0 0]) (t := 39) ?hr ?_; (case hd => rfl); (case hg => rfl); (case hr => first | (go_simp; done) | (go_simp; rfl)); intro gb141 hg w7 hbox hb; have n0_ := Aside0.mk (blk_below (g := gb139) (o := .cells #[.string a0_0, .slice A0_1 l0_1.length c0_1, .slice (some ad140) l0_2.length c0_2] 25 (0, 0)) (by (with_reducible repeat (first | refine blk_drewN ?_ _ | refine blk_drew ?_ | refine blk_alloc ?_ _)); exact BK139.out) hb); have n1_ := Aside0.mk (below_step (by repeat (first | (with_reducible first | exact HB.out | apply below_alloc | apply pw_below_drewN | apply below_drew1 | refine below_set ?_ GE139.out) | exact HB.out)) hb); have n2_ := Aside0.mk (hbox); have n3_ := Aside0.mk ((by rw [hg]; exact (below_size (by repeat (first | (with_reducible first | exact HB.out | apply below_alloc | apply pw_below_drewN | apply below_drew1 | refine below_set ?_ GE139.out) | exact HB.out))) : w.heap.size ≤ gb141)); have n4_ := Aside0.mk ((by rw [hg]; exact (below_size (by repeat (first | (with_reducible first | exact HB.out | apply below_alloc | apply pw_below_drewN | apply below_drew1 | refine below_set ?_ GE139.out) | exact HB.out))) : w.heap.size ≤ gb141)); have n5_ := Aside0.mk ((by rw [hg]; exact Nat.ne_of_lt (blk_lt (g := gb139) (o := .cells #[.string a0_0, .slice A0_1 l0_1.length c0_1, .slice (some ad140) l0_2.length c0_2] 25 (0, 0)) (by (with_reducible repeat (first | refine blk_drewN ?_ _ | refine blk_drew ?_ | refine blk_alloc ?_ _)); exact BK139.out)) : gb139 ≠ gb141)); have n6_ := Aside0.mk ((by rw [hg]; exact Nat.ne_of_gt (blk_lt (g := gb139) (o := .cells #[.string a0_0, .slice A0_1 l0_1.length c0_1, .slice (some ad140) l0_2.length c0_2] 25 (0, 0)) (by (with_reducible repeat (first | refine blk_drewN ?_ _ | refine blk_drew ?_ | refine blk_alloc ?_ _)); exact BK139.out)) : gb141 ≠ gb139)); clear BK139; clear HB; have BK139 := n0_; have HB := n1_; have BK141 := n2_; have GW141 := n3_; have GE141 := n4_; have NB139_141 := n5_; have NB141_139 := n6_; clear n0_ n1_ n2_ n3_ n4_ n5_ n6_; clear hb hbox hg; have hnb8 := NB141_139.out; have hnc8 := NB139_141.out; have hcz9_0 : w7.cell? ⟨gb141, 0, none⟩ = some (.string (⟨#[]⟩ : ByteArray)) := (blk_cell BK141.out 0).trans rfl; have hcz9_1 : w7.cell? ⟨gb141, 1, none⟩ = some (.int .i64 0) := (blk_cell BK141.out 1).trans rfl; have hcz9_2 : w7.cell? ⟨gb141, 2, none⟩ = some (.slice none 0 0) := (blk_cell BK141.out 2).trans rfl; have hfz9_0 := blk_frozen BK141.out 0; have hfz9_1 := blk_frozen BK141.out 1; have hfz9_2 := blk_frozen BK141.out 2))
      repeat (go_quiet (first | ((with_reducible refine gate_dst (N := 2) rfl ?_); refine box_event ?hg (N := 2) ?hd (cs := #[.string a0_0, .slice A0_1 l0_1.length c0_1, .slice A0_2 l0_2.length c0_2]) (t := 25) ?hr ?_; (case hd => rfl); (case hg => rfl); (case hr => first | (go_simp; done) | (go_simp; rfl)); intro gb139 hg w5 hbox hb; have n0_ := Aside0.mk (below_step (by repeat (first | (with_reducible first | exact HB.out | apply below_alloc | apply pw_below_drewN | apply below_drew1) | exact HB.out)) hb); have n1_ := Aside0.mk (hbox); have n2_ := Aside0.mk ((by rw [hg]; exact (below_size (by repeat (first | (with_reducible first | exact HB.out | apply below_alloc | apply pw_below_drewN | apply below_drew1) | exact HB.out))) : w.heap.size ≤ gb139)); have n3_ := Aside0.mk ((by rw [hg]; exact (below_size (by repeat (first | (with_reducible first | exact HB.out | apply below_alloc | apply pw_below_drewN | apply below_drew1) | exact HB.out))) : w.heap.size ≤ gb139)); clear HB; have HB := n0_; have BK139 := n1_; have GW139 := n2_; have GE139 := n3_; clear n0_ n1_ n2_ n3_; clear hb hbox hg; have hcz6_0 : w5.cell? ⟨gb139, 0, none⟩ = some (.string a0_0) := (blk_cell BK139.out 0).trans rfl; have hcz6_1 : w5.cell? ⟨gb139, 1, none⟩ = some (.slice A0_1 l0_1.length c0_1) := (blk_cell BK139.out 1).trans rfl; have hcz6_2 : w5.cell? ⟨gb139, 2, none⟩ = some (.slice A0_2 l0_2.length c0_2) := (blk_cell BK139.out 2).trans rfl; have hfz6_0 := blk_frozen BK139.out 0; have hfz6_1 := blk_frozen BK139.out 1; have hfz6_2 := blk_frozen BK139.out 2; have p140 : 0 ≤ (a1 : Int) := of_decide_eq_true (by first | (with_reducible assumption) | assumption); have q140 : a1 < (l0_2.length : Int) := of_decide_eq_true (by first | (with_reducible assumption) | assumption); obtain ⟨ad140, A140_2, c140_2, e140, hx140_0, hx140_1, hx140_2, hl140_2, hi140_2⟩ := at_T39 HR0_2.out a1 p140 q140; cases e140; replace hx140_0 := (HB.out.cell (World.block_lt_of_cell? w _ hx140_0)).trans hx140_0; replace hx140_1 := (HB.out.cell (World.block_lt_of_cell? w _ hx140_1)).trans hx140_1; replace hx140_2 := (HB.out.cell (World.block_lt_of_cell? w _ hx140_2)).trans hx140_2; have HR140_2 := Aside0.mk hi140_2; have HC140_2 := Aside0.mk hl140_2; clear hi140_2 hl140_2; replace p140 := eq_true p140; replace q140 := eq_true q140) | ((with_reducible refine gate_dst (N := 5) rfl ?_); refine box_event ?hg (N := 5) ?hd (cs := #[.string (⟨#[]⟩ : ByteArray), .int .i64 0, .slice none 0 0]) (t := 39) ?hr ?_; (case hd => rfl); (case hg => rfl); (case hr => first | (go_simp; done) | (go_simp; rfl)); intro gb141 hg w7 hbox hb; have n0_ := Aside0.mk (blk_below (g := gb139) (o := .cells #[.string a0_0, .slice A0_1 l0_1.length c0_1, .slice (some ad140) l0_2.length c0_2] 25 (0, 0)) (by (with_reducible repeat (first | refine blk_drewN ?_ _ | refine blk_drew ?_ | refine blk_alloc ?_ _)); exact BK139.out) hb); have n1_ := Aside0.mk (below_step (by repeat (first | (with_reducible first | exact HB.out | apply below_alloc | apply pw_below_drewN | apply below_drew1 | refine below_set ?_ GE139.out) | exact HB.out)) hb); have n2_ := Aside0.mk (hbox); have n3_ := Aside0.mk ((by rw [hg]; exact (below_size (by repeat (first | (with_reducible first | exact HB.out | apply below_alloc | apply pw_below_drewN | apply below_drew1 | refine below_set ?_ GE139.out) | exact HB.out))) : w.heap.size ≤ gb141)); have n4_ := Aside0.mk ((by rw [hg]; exact (below_size (by repeat (first | (with_reducible first | exact HB.out | apply below_alloc | apply pw_below_drewN | apply below_drew1 | refine below_set ?_ GE139.out) | exact HB.out))) : w.heap.size ≤ gb141)); have n5_ := Aside0.mk ((by rw [hg]; exact Nat.ne_of_lt (blk_lt (g := gb139) (o := .cells #[.string a0_0, .slice A0_1 l0_1.length c0_1, .slice (some ad140) l0_2.length c0_2] 25 (0, 0)) (by (with_reducible repeat (first | refine blk_drewN ?_ _ | refine blk_drew ?_ | refine blk_alloc ?_ _)); exact BK139.out)) : gb139 ≠ gb141)); have n6_ := Aside0.mk ((by rw [hg]; exact Nat.ne_of_gt (blk_lt (g := gb139) (o := .cells #[.string a0_0, .slice A0_1 l0_1.length c0_1, .slice (some ad140) l0_2.length c0_2] 25 (0, 0)) (by (with_reducible repeat (first | refine blk_drewN ?_ _ | refine blk_drew ?_ | refine blk_alloc ?_ _)); exact BK139.out)) : gb141 ≠ gb139)); clear BK139; clear HB; have BK139 := n0_; have HB := n1_; have BK141 := n2_; have GW141 := n3_; have GE141 := n4_; have NB139_141 := n5_; have NB141_139 := n6_; clear n0_ n1_ n2_ n3_ n4_ n5_ n6_; clear hb hbox hg; have hnb8 := NB141_139.out; have hnc8 := NB139_141.out; have hcz9_0 : w7.cell? ⟨gb141, 0, none⟩ = some (.string (⟨#[]⟩ : ByteArray)) := (blk_cell BK141.out 0).trans rfl; have hcz9_1 : w7.cell? ⟨gb141, 1, none⟩ = some (.int .i64 0) := (blk_cell BK141.out 1).trans rfl; have hcz9_2 : w7.cell? ⟨gb141, 2, none⟩ = some (.slice none 0 0) := (blk_cell BK141.out 2).trans rfl; have hfz9_0 := blk_frozen BK141.out 0; have hfz9_1 := blk_frozen BK141.out 1; have hfz9_2 := blk_frozen BK141.out 2)); try go_wp2_with (first | ((with_reducible refine gate_dst (N := 2) rfl ?_); refine box_event ?hg (N := 2) ?hd (cs := #[.string a0_0, .slice A0_1 l0_1.length c0_1, .slice A0_2 l0_2.length c0_2]) (t := 25) ?hr ?_; (case hd => rfl); (case hg => rfl); (case hr => first | (go_simp; done) | (go_simp; rfl)); intro gb139 hg w5 hbox hb; have n0_ := Aside0.mk (below_step (by repeat (first | (with_reducible first | exact HB.out | apply below_alloc | apply pw_below_drewN | apply below_drew1) | exact HB.out)) hb); have n1_ := Aside0.mk (hbox); have n2_ := Aside0.mk ((by rw [hg]; exact (below_size (by repeat (first | (with_reducible first | exact HB.out | apply below_alloc | apply pw_below_drewN | apply below_drew1) | exact HB.out))) : w.heap.size ≤ gb139)); have n3_ := Aside0.mk ((by rw [hg]; exact (below_size (by repeat (first | (with_reducible first | exact HB.out | apply below_alloc | apply pw_below_drewN | apply below_drew1) | exact HB.out))) : w.heap.size ≤ gb139)); clear HB; have HB := n0_; have BK139 := n1_; have GW139 := n2_; have GE139 := n3_; clear n0_ n1_ n2_ n3_; clear hb hbox hg; have hcz6_0 : w5.cell? ⟨gb139, 0, none⟩ = some (.string a0_0) := (blk_cell BK139.out 0).trans rfl; have hcz6_1 : w5.cell? ⟨gb139, 1, none⟩ = some (.slice A0_1 l0_1.length c0_1) := (blk_cell BK139.out 1).trans rfl; have hcz6_2 : w5.cell? ⟨gb139, 2, none⟩ = some (.slice A0_2 l0_2.length c0_2) := (blk_cell BK139.out 2).trans rfl; have hfz6_0 := blk_frozen BK139.out 0; have hfz6_1 := blk_frozen BK139.out 1; have hfz6_2 := blk_frozen BK139.out 2; have p140 : 0 ≤ (a1 : Int) := of_decide_eq_true (by first | (with_reducible assumption) | assumption); have q140 : a1 < (l0_2.length : Int) := of_decide_eq_true (by first | (with_reducible assumption) | assumption); obtain ⟨ad140, A140_2, c140_2, e140, hx140_0, hx140_1, hx140_2, hl140_2, hi140_2⟩ := at_T39 HR0_2.out a1 p140 q140; cases e140; replace hx140_0 := (HB.out.cell (World.block_lt_of_cell? w _ hx140_0)).trans hx140_0; replace hx140_1 := (HB.out.cell (World.block_lt_of_cell? w _ hx140_1)).trans hx140_1; replace hx140_2 := (HB.out.cell (World.block_lt_of_cell? w _ hx140_2)).trans hx140_2; have HR140_2 := Aside0.mk hi140_2; have HC140_2 := Aside0.mk hl140_2; clear hi140_2 hl140_2; replace p140 := eq_true p140; replace q140 := eq_true q140) | ((with_reducible refine gate_dst (N := 5) rfl ?_); refine box_event ?hg (N := 5) ?hd (cs := #[.string (⟨#[]⟩ : ByteArray), .int .i64 0, .slice none 0 0]) (t := 39) ?hr ?_; (case hd => rfl); (case hg => rfl); (case hr => first | (go_simp; done) | (go_simp; rfl)); intro gb141 hg w7 hbox hb; have n0_ := Aside0.mk (blk_below (g := gb139) (o := .cells #[.string a0_0, .slice A0_1 l0_1.length c0_1, .slice (some ad140) l0_2.length c0_2] 25 (0, 0)) (by (with_reducible repeat (first | refine blk_drewN ?_ _ | refine blk_drew ?_ | refine blk_alloc ?_ _)); exact BK139.out) hb); have n1_ := Aside0.mk (below_step (by repeat (first | (with_reducible first | exact HB.out | apply below_alloc | apply pw_below_drewN | apply below_drew1 | refine below_set ?_ GE139.out) | exact HB.out)) hb); have n2_ := Aside0.mk (hbox); have n3_ := Aside0.mk ((by rw [hg]; exact (below_size (by repeat (first | (with_reducible first | exact HB.out | apply below_alloc | apply pw_below_drewN | apply below_drew1 | refine below_set ?_ GE139.out) | exact HB.out))) : w.heap.size ≤ gb141)); have n4_ := Aside0.mk ((by rw [hg]; exact (below_size (by repeat (first | (with_reducible first | exact HB.out | apply below_alloc | apply pw_below_drewN | apply below_drew1 | refine below_set ?_ GE139.out) | exact HB.out))) : w.heap.size ≤ gb141)); have n5_ := Aside0.mk ((by rw [hg]; exact Nat.ne_of_lt (blk_lt (g := gb139) (o := .cells #[.string a0_0, .slice A0_1 l0_1.length c0_1, .slice (some ad140) l0_2.length c0_2] 25 (0, 0)) (by (with_reducible repeat (first | refine blk_drewN ?_ _ | refine blk_drew ?_ | refine blk_alloc ?_ _)); exact BK139.out)) : gb139 ≠ gb141)); have n6_ := Aside0.mk ((by rw [hg]; exact Nat.ne_of_gt (blk_lt (g := gb139) (o := .cells #[.string a0_0, .slice A0_1 l0_1.length c0_1, .slice (some ad140) l0_2.length c0_2] 25 (0, 0)) (by (with_reducible repeat (first | refine blk_drewN ?_ _ | refine blk_drew ?_ | refine blk_alloc ?_ _)); exact BK139.out)) : gb141 ≠ gb139)); clear BK139; clear HB; have BK139 := n0_; have HB := n1_; have BK141 := n2_; have GW141 := n3_; have GE141 := n4_; have NB139_141 := n5_; have NB141_139 := n6_; clear n0_ n1_ n2_ n3_ n4_ n5_ n6_; clear hb hbox hg; have hnb8 := NB141_139.out; have hnc8 := NB139_141.out; have hcz9_0 : w7.cell? ⟨gb141, 0, none⟩ = some (.string (⟨#[]⟩ : ByteArray)) := (blk_cell BK141.out 0).trans rfl; have hcz9_1 : w7.cell? ⟨gb141, 1, none⟩ = some (.int .i64 0) := (blk_cell BK141.out 1).trans rfl; have hcz9_2 : w7.cell? ⟨gb141, 2, none⟩ = some (.slice none 0 0) := (blk_cell BK141.out 2).trans rfl; have hfz9_0 := blk_frozen BK141.out 0; have hfz9_1 := blk_frozen BK141.out 1; have hfz9_2 := blk_frozen BK141.out 2)))
      go_loopg [6] k (fun kq v6 w' => ∃ (x6_1 : Int), v6 = .int .i64 x6_1 ∧ Aside0 (ballcockref09_again.l0 kq a1 x6_1 a0_0 l0_1 l0_2 ((rd_T39 l0_2 a1).f0) ((rd_T39 l0_2 a1).f1) ((rd_T39 l0_2 a1).f2) = some r) ∧ Aside0 (kq ≤ k) ∧ Aside0 (w'.heap[gb139]? = some (.cells #[.string a0_0, (.slice A0_1 l0_1.length c0_1), (.slice (some ad140) l0_2.length c0_2)] 25 (0, 0))) ∧ Aside0 (w'.heap[gb141]? = some (.cells #[.string ((rd_T39 l0_2 a1).f0), .int .i64 ((rd_T39 l0_2 a1).f1), (.slice A140_2 ((rd_T39 l0_2 a1).f2).length c140_2)] 39 (0, 0))) ∧ Aside0 (Below w.heap.size w w'))
      case atStart => exact ⟨(0), (by first | rfl | (simp; done) | (simp [*]; done)), H', ⟨Nat.le_refl _⟩, ⟨by (with_reducible repeat (first | refine blk_drewN ?_ _ | refine blk_drew ?_ | refine blk_alloc ?_ _)); refine blk_far ?_ NB139_141.out _; (with_reducible repeat (first | refine blk_drewN ?_ _ | refine blk_drew ?_ | refine blk_alloc ?_ _)); refine blk_far ?_ NB139_141.out _; (with_reducible repeat (first | refine blk_drewN ?_ _ | refine blk_drew ?_ | refine blk_alloc ?_ _)); refine blk_far ?_ NB139_141.out _; (with_reducible repeat (first | refine blk_drewN ?_ _ | refine blk_drew ?_ | refine blk_alloc ?_ _)); exact BK139.out⟩, ⟨by (with_reducible repeat (first | refine blk_drewN ?_ _ | refine blk_drew ?_ | refine blk_alloc ?_ _)); refine blk_put (cs := #[.string ((rd_T39 l0_2 a1).f0), .int .i64 ((rd_T39 l0_2 a1).f1), .slice none 0 0]) ?_ 2 _ rfl; (with_reducible repeat (first | refine blk_drewN ?_ _ | refine blk_drew ?_ | refine blk_alloc ?_ _)); refine blk_put (cs := #[.string ((rd_T39 l0_2 a1).f0), .int .i64 0, .slice none 0 0]) ?_ 1 _ rfl; (with_reducible repeat (first | refine blk_drewN ?_ _ | refine blk_drew ?_ | refine blk_alloc ?_ _)); refine blk_put (cs := #[.string (⟨#[]⟩ : ByteArray), .int .i64 0, .slice none 0 0]) ?_ 0 _ rfl; (with_reducible repeat (first | refine blk_drewN ?_ _ | refine blk_drew ?_ | refine blk_alloc ?_ _)); exact BK141.out⟩, ⟨by repeat (first | (with_reducible first | exact HB.out | apply below_alloc | apply pw_below_drewN | apply below_drew1 | refine below_set ?_ GE139.out | refine below_set ?_ GE141.out) | exact HB.out)⟩⟩
      case round =>
        clear H'
        try clear c1
        try clear p1
        try clear q1
        try clear hx1
        try clear p2
        try clear c3
        try clear c3b0
        try clear c4
        try clear c4b0
        try clear c5
        try clear c8
        try clear hcz6_0
        try clear hcz6_1
        try clear hcz6_2
        try clear hcz9_0
        try clear hcz9_1
        try clear hcz9_2
        try clear hfz6_0
        try clear hfz6_1
        try clear hfz6_2
        try clear hfz9_0
        try clear hfz9_1
        try clear hfz9_2
        try clear hx140_0
        try clear hx140_1
        try clear hx140_2
        try clear p140
        try clear q140
        obtain ⟨x6_1, rfl, HA, HK1, BK139, BK141, HB⟩ := hrel
        cases gk with
        | zero => exact absurd HA.out (by simp [ballcockref09_again.l0])
        | succ k1 =>
          have H := HA.out
          clear HA
          simp only [ballcockref09_again.l0] at H
          by_cases c10 : x6_1 < a1
          · rw [if_pos c10] at H
            have c10b0 : decide (x6_1 < a1) = true := decide_eq_true c10
            clear c10
            by_cases c11 : 0 ≤ x6_1
            · rw [if_pos c11] at H
              have c11b0 : decide (0 ≤ x6_1) = true := decide_eq_true c11
              clear c11
              by_cases c12 : x6_1 < (l0_2.length : Int)
              · rw [if_pos c12] at H
                have c12b0 : decide (x6_1 < (l0_2.length : Int)) = true := decide_eq_true c12
                clear c12
                by_cases c13 : ((rd_T39 l0_2 x6_1).f0).toList = ((rd_T39 l0_2 a1).f0).toList
                · rw [if_pos c13] at H
                  have c13b0 : (((rd_T39 l0_2 x6_1).f0).toList == ((rd_T39 l0_2 a1).f0).toList) = true := beq_iff_eq.mpr c13
                  have c13b1 : (((rd_T39 l0_2 x6_1).f0).toList != ((rd_T39 l0_2 a1).f0).toList) = false := bne_eq_false_iff_eq.mpr c13
                  clear c13
                  by_cases c14 : ((rd_T39 l0_2 x6_1).f1) = ((rd_T39 l0_2 a1).f1)
                  · rw [if_pos c14] at H
                    have c14b0 : (((rd_T39 l0_2 x6_1).f1) == ((rd_T39 l0_2 a1).f1)) = true := beq_iff_eq.mpr c14
                    have c14b1 : (((rd_T39 l0_2 x6_1).f1) != ((rd_T39 l0_2 a1).f1)) = false := bne_eq_false_iff_eq.mpr c14
                    clear c14
                    obtain rfl := Option.some.inj H
                    have hnb15 := NB139_141.out
                    have hnc15 := NB141_139.out
                    have hcz16_0 : wr.cell? ⟨gb139, 0, none⟩ = some (.string a0_0) := (blk_cell BK139.out 0).trans rfl
                    have hcz16_1 : wr.cell? ⟨gb139, 1, none⟩ = some (.slice A0_1 l0_1.length c0_1) := (blk_cell BK139.out 1).trans rfl
                    have hcz16_2 : wr.cell? ⟨gb139, 2, none⟩ = some (.slice (some ad140) l0_2.length c0_2) := (blk_cell BK139.out 2).trans rfl
                    have hfz16_0 := blk_frozen BK139.out 0
                    have hfz16_1 := blk_frozen BK139.out 1
                    have hfz16_2 := blk_frozen BK139.out 2
                    have p142 : 0 ≤ (x6_1 : Int) := of_decide_eq_true (by first | (with_reducible assumption) | assumption)
                    have q142 : x6_1 < (l0_2.length : Int) := of_decide_eq_true (by first | (with_reducible assumption) | assumption)
                    obtain ⟨ad142, A142_2, c142_2, e142, hx142_0, hx142_1, hx142_2, hl142_2, hi142_2⟩ := at_T39 HR0_2.out x6_1 p142 q142
                    obtain rfl : ad140 = ad142 := (by injection e142)
                    replace hx142_0 := (HB.out.cell (World.block_lt_of_cell? w _ hx142_0)).trans hx142_0
                    replace hx142_1 := (HB.out.cell (World.block_lt_of_cell? w _ hx142_1)).trans hx142_1
                    replace hx142_2 := (HB.out.cell (World.block_lt_of_cell? w _ hx142_2)).trans hx142_2
                    have HR142_2 := Aside0.mk hi142_2
                    have HC142_2 := Aside0.mk hl142_2
                    clear hi142_2 hl142_2
                    replace p142 := eq_true p142
                    replace q142 := eq_true q142
                    have hcz17_0 : wr.cell? ⟨gb141, 0, none⟩ = some (.string ((rd_T39 l0_2 a1).f0)) := (blk_cell BK141.out 0).trans rfl
                    have hcz17_1 : wr.cell? ⟨gb141, 1, none⟩ = some (.int .i64 ((rd_T39 l0_2 a1).f1)) := (blk_cell BK141.out 1).trans rfl
                    have hcz17_2 : wr.cell? ⟨gb141, 2, none⟩ = some (.slice A140_2 ((rd_T39 l0_2 a1).f2).length c140_2) := (blk_cell BK141.out 2).trans rfl
                    have hfz17_0 := blk_frozen BK141.out 0
                    have hfz17_1 := blk_frozen BK141.out 1
                    have hfz17_2 := blk_frozen BK141.out 2
                    have p143 : 0 ≤ (x6_1 : Int) := of_decide_eq_true (by first | (with_reducible assumption) | assumption)
                    have q143 : x6_1 < (l0_2.length : Int) := of_decide_eq_true (by first | (with_reducible assumption) | assumption)
                    obtain ⟨ad143, A143_2, c143_2, e143, hx143_0, hx143_1, hx143_2, hl143_2, hi143_2⟩ := at_T39 HR0_2.out x6_1 p143 q143
                    obtain rfl : ad140 = ad143 := (by injection e143)
                    replace hx143_0 := (HB.out.cell (World.block_lt_of_cell? w _ hx143_0)).trans hx143_0
                    replace hx143_1 := (HB.out.cell (World.block_lt_of_cell? w _ hx143_1)).trans hx143_1
                    replace hx143_2 := (HB.out.cell (World.block_lt_of_cell? w _ hx143_2)).trans hx143_2
                    have HR143_2 := Aside0.mk hi143_2
                    have HC143_2 := Aside0.mk hl143_2
                    clear hi143_2 hl143_2
                    replace p143 := eq_true p143
                    replace q143 := eq_true q143
                    have ea_ := Option.some.inj (hx142_2.symm.trans hx143_2)
                    injection ea_ with ea_ en_ ec_
                    subst ea_
                    subst ec_
                    clear en_
                    go_wp2
                    repeat (go_quiet (fail); try go_wp2)
                    go_ret
                    exact ⟨by first | rfl | (simp [errW_none, errW_some] <;> rfl) | (simp [*, errW_none, errW_some] <;> rfl), by repeat (first | (with_reducible first | exact HB.out | apply below_alloc | apply pw_below_drewN | apply below_drew1 | refine below_set ?_ GE139.out | refine below_set ?_ GE141.out) | exact HB.out)⟩
                  · rw [if_neg c14] at H
                    have c14b0 : (((rd_T39 l0_2 x6_1).f1) == ((rd_T39 l0_2 a1).f1)) = false := beq_eq_false_iff_ne.mpr c14
                    have c14b1 : (((rd_T39 l0_2 x6_1).f1) != ((rd_T39 l0_2 a1).f1)) = true := bne_iff_ne.mpr c14
                    have H' := Aside0.mk H
                    clear H
                    have hnb18 := NB139_141.out
                    have hnc18 := NB141_139.out
                    have hcz19_0 : wr.cell? ⟨gb139, 0, none⟩ = some (.string a0_0) := (blk_cell BK139.out 0).trans rfl
                    have hcz19_1 : wr.cell? ⟨gb139, 1, none⟩ = some (.slice A0_1 l0_1.length c0_1) := (blk_cell BK139.out 1).trans rfl
                    have hcz19_2 : wr.cell? ⟨gb139, 2, none⟩ = some (.slice (some ad140) l0_2.length c0_2) := (blk_cell BK139.out 2).trans rfl
                    have hfz19_0 := blk_frozen BK139.out 0
                    have hfz19_1 := blk_frozen BK139.out 1
                    have hfz19_2 := blk_frozen BK139.out 2
                    have p142 : 0 ≤ (x6_1 : Int) := of_decide_eq_true (by first | (with_reducible assumption) | assumption)
                    have q142 : x6_1 < (l0_2.length : Int) := of_decide_eq_true (by first | (with_reducible assumption) | assumption)
                    obtain ⟨ad142, A142_2, c142_2, e142, hx142_0, hx142_1, hx142_2, hl142_2, hi142_2⟩ := at_T39 HR0_2.out x6_1 p142 q142
                    obtain rfl : ad140 = ad142 := (by injection e142)
                    replace hx142_0 := (HB.out.cell (World.block_lt_of_cell? w _ hx142_0)).trans hx142_0
                    replace hx142_1 := (HB.out.cell (World.block_lt_of_cell? w _ hx142_1)).trans hx142_1
                    replace hx142_2 := (HB.out.cell (World.block_lt_of_cell? w _ hx142_2)).trans hx142_2
                    have HR142_2 := Aside0.mk hi142_2
                    have HC142_2 := Aside0.mk hl142_2
                    clear hi142_2 hl142_2
                    replace p142 := eq_true p142
                    replace q142 := eq_true q142
                    have hcz20_0 : wr.cell? ⟨gb141, 0, none⟩ = some (.string ((rd_T39 l0_2 a1).f0)) := (blk_cell BK141.out 0).trans rfl
                    have hcz20_1 : wr.cell? ⟨gb141, 1, none⟩ = some (.int .i64 ((rd_T39 l0_2 a1).f1)) := (blk_cell BK141.out 1).trans rfl
                    have hcz20_2 : wr.cell? ⟨gb141, 2, none⟩ = some (.slice A140_2 ((rd_T39 l0_2 a1).f2).length c140_2) := (blk_cell BK141.out 2).trans rfl
                    have hfz20_0 := blk_frozen BK141.out 0
                    have hfz20_1 := blk_frozen BK141.out 1
                    have hfz20_2 := blk_frozen BK141.out 2
                    have p143 : 0 ≤ (x6_1 : Int) := of_decide_eq_true (by first | (with_reducible assumption) | assumption)
                    have q143 : x6_1 < (l0_2.length : Int) := of_decide_eq_true (by first | (with_reducible assumption) | assumption)
                    obtain ⟨ad143, A143_2, c143_2, e143, hx143_0, hx143_1, hx143_2, hl143_2, hi143_2⟩ := at_T39 HR0_2.out x6_1 p143 q143
                    obtain rfl : ad140 = ad143 := (by injection e143)
                    replace hx143_0 := (HB.out.cell (World.block_lt_of_cell? w _ hx143_0)).trans hx143_0
                    replace hx143_1 := (HB.out.cell (World.block_lt_of_cell? w _ hx143_1)).trans hx143_1
                    replace hx143_2 := (HB.out.cell (World.block_lt_of_cell? w _ hx143_2)).trans hx143_2
                    have HR143_2 := Aside0.mk hi143_2
                    have HC143_2 := Aside0.mk hl143_2
                    clear hi143_2 hl143_2
                    replace p143 := eq_true p143
                    replace q143 := eq_true q143
                    have ea_ := Option.some.inj (hx142_2.symm.trans hx143_2)
                    injection ea_ with ea_ en_ ec_
                    subst ea_
                    subst ec_
                    clear en_
                    go_wp2
                    repeat (go_quiet (fail); try go_wp2)
                    go_roundg k1
                    case measure => have := HK1.out; omega
                    case rel => exact ⟨(wrap64 (x6_1 + 1)), (by first | rfl | (simp; done) | (simp [*]; done)), H', ⟨by have := HK1.out; omega⟩, ⟨by (with_reducible repeat (first | refine blk_drewN ?_ _ | refine blk_drew ?_ | refine blk_alloc ?_ _)); exact BK139.out⟩, ⟨by (with_reducible repeat (first | refine blk_drewN ?_ _ | refine blk_drew ?_ | refine blk_alloc ?_ _)); exact BK141.out⟩, ⟨by repeat (first | (with_reducible first | exact HB.out | apply below_alloc | apply pw_below_drewN | apply below_drew1 | refine below_set ?_ GE139.out | refine below_set ?_ GE141.out) | exact HB.out)⟩⟩
                · rw [if_neg c13] at H
                  have c13b0 : (((rd_T39 l0_2 x6_1).f0).toList == ((rd_T39 l0_2 a1).f0).toList) = false := beq_eq_false_iff_ne.mpr c13
                  have c13b1 : (((rd_T39 l0_2 x6_1).f0).toList != ((rd_T39 l0_2 a1).f0).toList) = true := bne_iff_ne.mpr c13
                  have H' := Aside0.mk H
                  clear H
                  have hnb21 := NB139_141.out
                  have hnc21 := NB141_139.out
                  have hcz22_0 : wr.cell? ⟨gb139, 0, none⟩ = some (.string a0_0) := (blk_cell BK139.out 0).trans rfl
                  have hcz22_1 : wr.cell? ⟨gb139, 1, none⟩ = some (.slice A0_1 l0_1.length c0_1) := (blk_cell BK139.out 1).trans rfl
                  have hcz22_2 : wr.cell? ⟨gb139, 2, none⟩ = some (.slice (some ad140) l0_2.length c0_2) := (blk_cell BK139.out 2).trans rfl
                  have hfz22_0 := blk_frozen BK139.out 0
                  have hfz22_1 := blk_frozen BK139.out 1
                  have hfz22_2 := blk_frozen BK139.out 2
                  have p142 : 0 ≤ (x6_1 : Int) := of_decide_eq_true (by first | (with_reducible assumption) | assumption)
                  have q142 : x6_1 < (l0_2.length : Int) := of_decide_eq_true (by first | (with_reducible assumption) | assumption)
                  obtain ⟨ad142, A142_2, c142_2, e142, hx142_0, hx142_1, hx142_2, hl142_2, hi142_2⟩ := at_T39 HR0_2.out x6_1 p142 q142
                  obtain rfl : ad140 = ad142 := (by injection e142)
                  replace hx142_0 := (HB.out.cell (World.block_lt_of_cell? w _ hx142_0)).trans hx142_0
                  replace hx142_1 := (HB.out.cell (World.block_lt_of_cell? w _ hx142_1)).trans hx142_1
                  replace hx142_2 := (HB.out.cell (World.block_lt_of_cell? w _ hx142_2)).trans hx142_2
                  have HR142_2 := Aside0.mk hi142_2
                  have HC142_2 := Aside0.mk hl142_2
                  clear hi142_2 hl142_2
                  replace p142 := eq_true p142
                  replace q142 := eq_true q142
                  have hcz23_0 : wr.cell? ⟨gb141, 0, none⟩ = some (.string ((rd_T39 l0_2 a1).f0)) := (blk_cell BK141.out 0).trans rfl
                  have hcz23_1 : wr.cell? ⟨gb141, 1, none⟩ = some (.int .i64 ((rd_T39 l0_2 a1).f1)) := (blk_cell BK141.out 1).trans rfl
                  have hcz23_2 : wr.cell? ⟨gb141, 2, none⟩ = some (.slice A140_2 ((rd_T39 l0_2 a1).f2).length c140_2) := (blk_cell BK141.out 2).trans rfl
                  have hfz23_0 := blk_frozen BK141.out 0
                  have hfz23_1 := blk_frozen BK141.out 1
                  have hfz23_2 := blk_frozen BK141.out 2
                  go_wp2
                  repeat (go_quiet (fail); try go_wp2)
                  go_roundg k1
                  case measure => have := HK1.out; omega
                  case rel => exact ⟨(wrap64 (x6_1 + 1)), (by first | rfl | (simp; done) | (simp [*]; done)), H', ⟨by have := HK1.out; omega⟩, ⟨by (with_reducible repeat (first | refine blk_drewN ?_ _ | refine blk_drew ?_ | refine blk_alloc ?_ _)); exact BK139.out⟩, ⟨by (with_reducible repeat (first | refine blk_drewN ?_ _ | refine blk_drew ?_ | refine blk_alloc ?_ _)); exact BK141.out⟩, ⟨by repeat (first | (with_reducible first | exact HB.out | apply below_alloc | apply pw_below_drewN | apply below_drew1 | refine below_set ?_ GE139.out | refine below_set ?_ GE141.out) | exact HB.out)⟩⟩
              · rw [if_neg c12] at H
                exact absurd H (by simp)
            · rw [if_neg c11] at H
              exact absurd H (by simp)
          · rw [if_neg c10] at H
            have c10b0 : decide (x6_1 < a1) = false := decide_eq_false c10
            clear c10
            have H' := Aside0.mk H
            clear H
            go_wp2
            repeat (go_quiet (fail); try go_wp2)
            go_loopg [7] k1 (fun kq v7 w' => ∃ (x7_2 : Int), v7 = .int .i64 x7_2 ∧ Aside0 (ballcockref09_again.l1 kq x7_2 ((rd_T39 l0_2 a1).f0) ((rd_T39 l0_2 a1).f1) ((rd_T39 l0_2 a1).f2) = some r) ∧ Aside0 (kq ≤ k1) ∧ Aside0 (w'.heap[gb139]? = some (.cells #[.string a0_0, (.slice A0_1 l0_1.length c0_1), (.slice (some ad140) l0_2.length c0_2)] 25 (0, 0))) ∧ Aside0 (w'.heap[gb141]? = some (.cells #[.string ((rd_T39 l0_2 a1).f0), .int .i64 ((rd_T39 l0_2 a1).f1), (.slice A140_2 ((rd_T39 l0_2 a1).f2).length c140_2)] 39 (0, 0))) ∧ Aside0 (Below w.heap.size w w'))
            case atStart => exact ⟨(0), (by first | rfl | (simp; done) | (simp [*]; done)), H', ⟨Nat.le_refl _⟩, ⟨by (with_reducible repeat (first | refine blk_drewN ?_ _ | refine blk_drew ?_ | refine blk_alloc ?_ _)); exact BK139.out⟩, ⟨by (with_reducible repeat (first | refine blk_drewN ?_ _ | refine blk_drew ?_ | refine blk_alloc ?_ _)); exact BK141.out⟩, ⟨by repeat (first | (with_reducible first | exact HB.out | apply below_alloc | apply pw_below_drewN | apply below_drew1 | refine below_set ?_ GE139.out | refine below_set ?_ GE141.out) | exact HB.out)⟩⟩
            case round =>
              clear H'
              try clear c1
              try clear p1
              try clear q1
              try clear hx1
              try clear c2
              try clear p2
              try clear c3
              try clear c3b0
              try clear c4
              try clear c4b0
              try clear c5
              try clear p6
              try clear c8
              try clear c10
              try clear c10b0
              try clear c11
              try clear c11b0
              try clear c12
              try clear c12b0
              try clear c13
              try clear c13b0
              try clear c13b1
              try clear c14
              try clear c14b0
              try clear c14b1
              try clear p14
              try clear q14
              try clear hx14
              try clear c15
              try clear c18
              try clear c21
              try clear hcz16_0
              try clear hcz16_1
              try clear hcz16_2
              try clear hcz17_0
              try clear hcz17_1
              try clear hcz17_2
              try clear hcz19_0
              try clear hcz19_1
              try clear hcz19_2
              try clear hcz20_0
              try clear hcz20_1
              try clear hcz20_2
              try clear hcz22_0
              try clear hcz22_1
              try clear hcz22_2
              try clear hcz23_0
              try clear hcz23_1
              try clear hcz23_2
              try clear hcz6_0
              try clear hcz6_1
              try clear hcz6_2
              try clear hcz9_0
              try clear hcz9_1
              try clear hcz9_2
              try clear hfz16_0
              try clear hfz16_1
              try clear hfz16_2
              try clear hfz17_0
              try clear hfz17_1
              try clear hfz17_2
              try clear hfz19_0
              try clear hfz19_1
              try clear hfz19_2
              try clear hfz20_0
              try clear hfz20_1
              try clear hfz20_2
              try clear hfz22_0
              try clear hfz22_1
              try clear hfz22_2
              try clear hfz23_0
              try clear hfz23_1
              try clear hfz23_2
              try clear hfz6_0
              try clear hfz6_1
              try clear hfz6_2
              try clear hfz9_0
              try clear hfz9_1
              try clear hfz9_2
              try clear hx140_0
              try clear hx140_1
              try clear hx140_2
              try clear hx142_0
              try clear hx142_1
              try clear hx142_2
              try clear hx143_0
              try clear hx143_1
              try clear hx143_2
              try clear p1
              try clear p140
              try clear p142
              try clear p143
              try clear p2
              try clear q1
              try clear q140
              try clear q142
              try clear q143
              obtain ⟨x7_2, rfl, HA, HK2, BK139, BK141, HB⟩ := hrel
              cases gk with
              | zero => exact absurd HA.out (by simp [ballcockref09_again.l1])
              | succ k2 =>
                have H := HA.out
                clear HA
                simp only [ballcockref09_again.l1] at H
                by_cases c24 : x7_2 < (((rd_T39 l0_2 a1).f2).length : Int)
                · rw [if_pos c24] at H
                  have c24b0 : decide (x7_2 < (((rd_T39 l0_2 a1).f2).length : Int)) = true := decide_eq_true c24
                  clear c24
                  have H' := Aside0.mk H
                  clear H
                  have hnb25 := NB141_139.out
                  have hnc25 := NB139_141.out
                  have hcz26_0 : wr.cell? ⟨gb141, 0, none⟩ = some (.string ((rd_T39 l0_2 a1).f0)) := (blk_cell BK141.out 0).trans rfl
                  have hcz26_1 : wr.cell? ⟨gb141, 1, none⟩ = some (.int .i64 ((rd_T39 l0_2 a1).f1)) := (blk_cell BK141.out 1).trans rfl
                  have hcz26_2 : wr.cell? ⟨gb141, 2, none⟩ = some (.slice A140_2 ((rd_T39 l0_2 a1).f2).length c140_2) := (blk_cell BK141.out 2).trans rfl
                  have hfz26_0 := blk_frozen BK141.out 0
                  have hfz26_1 := blk_frozen BK141.out 1
                  have hfz26_2 := blk_frozen BK141.out 2
                  go_wp2
                  repeat (go_quiet (fail); try go_wp2)
                  go_loopg [8] k2 (fun kq v8 w' => ∃ (x8_3 : Int), v8 = .int .i64 x8_3 ∧ Aside0 (ballcockref09_again.l2 kq x7_2 x8_3 ((rd_T39 l0_2 a1).f0) ((rd_T39 l0_2 a1).f1) ((rd_T39 l0_2 a1).f2) = some r) ∧ Aside0 (kq ≤ k2) ∧ Aside0 (w'.heap[gb139]? = some (.cells #[.string a0_0, (.slice A0_1 l0_1.length c0_1), (.slice (some ad140) l0_2.length c0_2)] 25 (0, 0))) ∧ Aside0 (w'.heap[gb141]? = some (.cells #[.string ((rd_T39 l0_2 a1).f0), .int .i64 ((rd_T39 l0_2 a1).f1), (.slice A140_2 ((rd_T39 l0_2 a1).f2).length c140_2)] 39 (0, 0))) ∧ Aside0 (Below w.heap.size w w'))
                  case atStart => exact ⟨(0), (by first | rfl | (simp; done) | (simp [*]; done)), H', ⟨Nat.le_refl _⟩, ⟨by (with_reducible repeat (first | refine blk_drewN ?_ _ | refine blk_drew ?_ | refine blk_alloc ?_ _)); exact BK139.out⟩, ⟨by (with_reducible repeat (first | refine blk_drewN ?_ _ | refine blk_drew ?_ | refine blk_alloc ?_ _)); exact BK141.out⟩, ⟨by repeat (first | (with_reducible first | exact HB.out | apply below_alloc | apply pw_below_drewN | apply below_drew1 | refine below_set ?_ GE139.out | refine below_set ?_ GE141.out) | exact HB.out)⟩⟩
                  case round =>
                    clear H'
                    try clear c1
                    try clear p1
                    try clear q1
                    try clear hx1
                    try clear c2
                    try clear p2
                    try clear c3
                    try clear c3b0
                    try clear c4
                    try clear c4b0
                    try clear c5
                    try clear p6
                    try clear c8
                    try clear c10
                    try clear c10b0
                    try clear c11
                    try clear c11b0
                    try clear c12
                    try clear c12b0
                    try clear c13
                    try clear c13b0
                    try clear c13b1
                    try clear c14
                    try clear c14b0
                    try clear c14b1
                    try clear p14
                    try clear q14
                    try clear hx14
                    try clear c15
                    try clear c18
                    try clear c21
                    try clear c24
                    try clear c24b0
                    try clear c25
                    try clear hcz16_0
                    try clear hcz16_1
                    try clear hcz16_2
                    try clear hcz17_0
                    try clear hcz17_1
                    try clear hcz17_2
                    try clear hcz19_0
                    try clear hcz19_1
                    try clear hcz19_2
                    try clear hcz20_0
                    try clear hcz20_1
                    try clear hcz20_2
                    try clear hcz22_0
                    try clear hcz22_1
                    try clear hcz22_2
                    try clear hcz23_0
                    try clear hcz23_1
                    try clear hcz23_2
                    try clear hcz26_0
                    try clear hcz26_1
                    try clear hcz26_2
                    try clear hcz6_0
                    try clear hcz6_1
                    try clear hcz6_2
                    try clear hcz9_0
                    try clear hcz9_1
                    try clear hcz9_2
                    try clear hfz16_0
                    try clear hfz16_1
                    try clear hfz16_2
                    try clear hfz17_0
                    try clear hfz17_1
                    try clear hfz17_2
                    try clear hfz19_0
                    try clear hfz19_1
                    try clear hfz19_2
                    try clear hfz20_0
                    try clear hfz20_1
                    try clear hfz20_2
                    try clear hfz22_0
                    try clear hfz22_1
                    try clear hfz22_2
                    try clear hfz23_0
                    try clear hfz23_1
                    try clear hfz23_2
                    try clear hfz26_0
                    try clear hfz26_1
                    try clear hfz26_2
                    try clear hfz6_0
                    try clear hfz6_1
                    try clear hfz6_2
                    try clear hfz9_0
                    try clear hfz9_1
                    try clear hfz9_2
                    try clear hx140_0
                    try clear hx140_1
                    try clear hx140_2
                    try clear hx142_0
                    try clear hx142_1
                    try clear hx142_2
                    try clear hx143_0
                    try clear hx143_1
                    try clear hx143_2
                    try clear p1
                    try clear p14
                    try clear p140
                    try clear p142
                    try clear p143
                    try clear p2
                    try clear p6
                    try clear q1
                    try clear q14
                    try clear q140
                    try clear q142
                    try clear q143
                    obtain ⟨x8_3, rfl, HA, HK3, BK139, BK141, HB⟩ := hrel
                    cases gk with
                    | zero => exact absurd HA.out (by simp [ballcockref09_again.l2])
                    | succ k3 =>
                      have H := HA.out
                      clear HA
                      simp only [ballcockref09_again.l2] at H
                      by_cases c27 : x8_3 < x7_2
                      · rw [if_pos c27] at H
                        have c27b0 : decide (x8_3 < x7_2) = true := decide_eq_true c27
                        clear c27
                        by_cases c28 : 0 ≤ x7_2
                        · rw [if_pos c28] at H
                          have c28b0 : decide (0 ≤ x7_2) = true := decide_eq_true c28
                          clear c28
                          by_cases c29 : x7_2 < (((rd_T39 l0_2 a1).f2).length : Int)
                          · rw [if_pos c29] at H
                            have c29b0 : decide (x7_2 < (((rd_T39 l0_2 a1).f2).length : Int)) = true := decide_eq_true c29
                            clear c29
                            by_cases c30 : 0 ≤ x8_3
                            · rw [if_pos c30] at H
                              have c30b0 : decide (0 ≤ x8_3) = true := decide_eq_true c30
                              clear c30
                              by_cases c31 : x8_3 < (((rd_T39 l0_2 a1).f2).length : Int)
                              · rw [if_pos c31] at H
                                have c31b0 : decide (x8_3 < (((rd_T39 l0_2 a1).f2).length : Int)) = true := decide_eq_true c31
                                clear c31
                                by_cases c32 : ((rd_T42 ((rd_T39 l0_2 a1).f2) x7_2).f0).toList = ((rd_T42 ((rd_T39 l0_2 a1).f2) x8_3).f0).toList
                                · rw [if_pos c32] at H
                                  have c32b0 : (((rd_T42 ((rd_T39 l0_2 a1).f2) x7_2).f0).toList == ((rd_T42 ((rd_T39 l0_2 a1).f2) x8_3).f0).toList) = true := beq_iff_eq.mpr c32
                                  have c32b1 : (((rd_T42 ((rd_T39 l0_2 a1).f2) x7_2).f0).toList != ((rd_T42 ((rd_T39 l0_2 a1).f2) x8_3).f0).toList) = false := bne_eq_false_iff_eq.mpr c32
                                  clear c32
                                  obtain rfl := Option.some.inj H
                                  have hnb33 := NB141_139.out
                                  have hnc33 := NB139_141.out
                                  have hcz34_0 : wr.cell? ⟨gb141, 0, none⟩ = some (.string ((rd_T39 l0_2 a1).f0)) := (blk_cell BK141.out 0).trans rfl
                                  have hcz34_1 : wr.cell? ⟨gb141, 1, none⟩ = some (.int .i64 ((rd_T39 l0_2 a1).f1)) := (blk_cell BK141.out 1).trans rfl
                                  have hcz34_2 : wr.cell? ⟨gb141, 2, none⟩ = some (.slice A140_2 ((rd_T39 l0_2 a1).f2).length c140_2) := (blk_cell BK141.out 2).trans rfl
                                  have hfz34_0 := blk_frozen BK141.out 0
                                  have hfz34_1 := blk_frozen BK141.out 1
                                  have hfz34_2 := blk_frozen BK141.out 2
                                  have p144 : 0 ≤ (x7_2 : Int) := of_decide_eq_true (by first | (with_reducible assumption) | assumption)
                                  have q144 : x7_2 < (((rd_T39 l0_2 a1).f2).length : Int) := of_decide_eq_true (by first | (with_reducible assumption) | assumption)
                                  obtain ⟨ad144, e144, hx144_0, hx144_1⟩ := at_T42 HR140_2.out x7_2 p144 q144
                                  cases e144
                                  replace hx144_0 := (HB.out.cell (World.block_lt_of_cell? w _ hx144_0)).trans hx144_0
                                  replace hx144_1 := (HB.out.cell (World.block_lt_of_cell? w _ hx144_1)).trans hx144_1
                                  replace p144 := eq_true p144
                                  replace q144 := eq_true q144
                                  have p145 : 0 ≤ (x8_3 : Int) := of_decide_eq_true (by first | (with_reducible assumption) | assumption)
                                  have q145 : x8_3 < (((rd_T39 l0_2 a1).f2).length : Int) := of_decide_eq_true (by first | (with_reducible assumption) | assumption)
                                  obtain ⟨ad145, e145, hx145_0, hx145_1⟩ := at_T42 HR140_2.out x8_3 p145 q145
                                  obtain rfl : ad144 = ad145 := (by injection e145)
                                  replace hx145_0 := (HB.out.cell (World.block_lt_of_cell? w _ hx145_0)).trans hx145_0
                                  replace hx145_1 := (HB.out.cell (World.block_lt_of_cell? w _ hx145_1)).trans hx145_1
                                  replace p145 := eq_true p145
                                  replace q145 := eq_true q145
                                  go_wp2
                                  repeat (go_quiet (fail); try go_wp2)
                                  go_ret
                                  exact ⟨by first | rfl | (simp [errW_none, errW_some] <;> rfl) | (simp [*, errW_none, errW_some] <;> rfl), by repeat (first | (with_reducible first | exact HB.out | apply below_alloc | apply pw_below_drewN | apply below_drew1 | refine below_set ?_ GE139.out | refine below_set ?_ GE141.out) | exact HB.out)⟩
                                · rw [if_neg c32] at H
                                  have c32b0 : (((rd_T42 ((rd_T39 l0_2 a1).f2) x7_2).f0).toList == ((rd_T42 ((rd_T39 l0_2 a1).f2) x8_3).f0).toList) = false := beq_eq_false_iff_ne.mpr c32
                                  have c32b1 : (((rd_T42 ((rd_T39 l0_2 a1).f2) x7_2).f0).toList != ((rd_T42 ((rd_T39 l0_2 a1).f2) x8_3).f0).toList) = true := bne_iff_ne.mpr c32
                                  have H' := Aside0.mk H
                                  clear H
                                  have hnb35 := NB141_139.out
                                  have hnc35 := NB139_141.out
                                  have hcz36_0 : wr.cell? ⟨gb141, 0, none⟩ = some (.string ((rd_T39 l0_2 a1).f0)) := (blk_cell BK141.out 0).trans rfl
                                  have hcz36_1 : wr.cell? ⟨gb141, 1, none⟩ = some (.int .i64 ((rd_T39 l0_2 a1).f1)) := (blk_cell BK141.out 1).trans rfl
                                  have hcz36_2 : wr.cell? ⟨gb141, 2, none⟩ = some (.slice A140_2 ((rd_T39 l0_2 a1).f2).length c140_2) := (blk_cell BK141.out 2).trans rfl
                                  have hfz36_0 := blk_frozen BK141.out 0
                                  have hfz36_1 := blk_frozen BK141.out 1
                                  have hfz36_2 := blk_frozen BK141.out 2
                                  have p144 : 0 ≤ (x7_2 : Int) := of_decide_eq_true (by first | (with_reducible assumption) | assumption)
                                  have q144 : x7_2 < (((rd_T39 l0_2 a1).f2).length : Int) := of_decide_eq_true (by first | (with_reducible assumption) | assumption)
                                  obtain ⟨ad144, e144, hx144_0, hx144_1⟩ := at_T42 HR140_2.out x7_2 p144 q144
                                  cases e144
                                  replace hx144_0 := (HB.out.cell (World.block_lt_of_cell? w _ hx144_0)).trans hx144_0
                                  replace hx144_1 := (HB.out.cell (World.block_lt_of_cell? w _ hx144_1)).trans hx144_1
                                  replace p144 := eq_true p144
                                  replace q144 := eq_true q144
                                  have p145 : 0 ≤ (x8_3 : Int) := of_decide_eq_true (by first | (with_reducible assumption) | assumption)
                                  have q145 : x8_3 < (((rd_T39 l0_2 a1).f2).length : Int) := of_decide_eq_true (by first | (with_reducible assumption) | assumption)
                                  obtain ⟨ad145, e145, hx145_0, hx145_1⟩ := at_T42 HR140_2.out x8_3 p145 q145
                                  obtain rfl : ad144 = ad145 := (by injection e145)
                                  replace hx145_0 := (HB.out.cell (World.block_lt_of_cell? w _ hx145_0)).trans hx145_0
                                  replace hx145_1 := (HB.out.cell (World.block_lt_of_cell? w _ hx145_1)).trans hx145_1
                                  replace p145 := eq_true p145
                                  replace q145 := eq_true q145
                                  go_wp2
                                  repeat (go_quiet (fail); try go_wp2)
                                  go_roundg k3
                                  case measure => have := HK1.out; have := HK2.out; have := HK3.out; omega
                                  case rel => exact ⟨(wrap64 (x8_3 + 1)), (by first | rfl | (simp; done) | (simp [*]; done)), H', ⟨by have := HK1.out; have := HK2.out; have := HK3.out; omega⟩, ⟨by (with_reducible repeat (first | refine blk_drewN ?_ _ | refine blk_drew ?_ | refine blk_alloc ?_ _)); exact BK139.out⟩, ⟨by (with_reducible repeat (first | refine blk_drewN ?_ _ | refine blk_drew ?_ | refine blk_alloc ?_ _)); exact BK141.out⟩, ⟨by repeat (first | (with_reducible first | exact HB.out | apply below_alloc | apply pw_below_drewN | apply below_drew1 | refine below_set ?_ GE139.out | refine below_set ?_ GE141.out) | exact HB.out)⟩⟩
                              · rw [if_neg c31] at H
                                exact absurd H (by simp)
                            · rw [if_neg c30] at H
                              exact absurd H (by simp)
                          · rw [if_neg c29] at H
                            exact absurd H (by simp)
                        · rw [if_neg c28] at H
                          exact absurd H (by simp)
                      · rw [if_neg c27] at H
                        have c27b0 : decide (x8_3 < x7_2) = false := decide_eq_false c27
                        clear c27
                        have H' := Aside0.mk H
                        clear H
                        go_wp2
                        repeat (go_quiet (fail); try go_wp2)
                        go_roundg k3
                        case measure => have := HK1.out; have := HK2.out; have := HK3.out; omega
                        case rel => exact ⟨(wrap64 (x7_2 + 1)), (by first | rfl | (simp; done) | (simp [*]; done)), H', ⟨by have := HK1.out; have := HK2.out; have := HK3.out; omega⟩, ⟨by (with_reducible repeat (first | refine blk_drewN ?_ _ | refine blk_drew ?_ | refine blk_alloc ?_ _)); exact BK139.out⟩, ⟨by (with_reducible repeat (first | refine blk_drewN ?_ _ | refine blk_drew ?_ | refine blk_alloc ?_ _)); exact BK141.out⟩, ⟨by repeat (first | (with_reducible first | exact HB.out | apply below_alloc | apply pw_below_drewN | apply below_drew1 | refine below_set ?_ GE139.out | refine below_set ?_ GE141.out) | exact HB.out)⟩⟩
                · rw [if_neg c24] at H
                  have c24b0 : decide (x7_2 < (((rd_T39 l0_2 a1).f2).length : Int)) = false := decide_eq_false c24
                  clear c24
                  obtain rfl := Option.some.inj H
                  have hnb37 := NB141_139.out
                  have hnc37 := NB139_141.out
                  have hcz38_0 : wr.cell? ⟨gb141, 0, none⟩ = some (.string ((rd_T39 l0_2 a1).f0)) := (blk_cell BK141.out 0).trans rfl
                  have hcz38_1 : wr.cell? ⟨gb141, 1, none⟩ = some (.int .i64 ((rd_T39 l0_2 a1).f1)) := (blk_cell BK141.out 1).trans rfl
                  have hcz38_2 : wr.cell? ⟨gb141, 2, none⟩ = some (.slice A140_2 ((rd_T39 l0_2 a1).f2).length c140_2) := (blk_cell BK141.out 2).trans rfl
                  have hfz38_0 := blk_frozen BK141.out 0
                  have hfz38_1 := blk_frozen BK141.out 1
                  have hfz38_2 := blk_frozen BK141.out 2
                  go_wp2
                  repeat (go_quiet (fail); try go_wp2)
                  go_ret
                  exact ⟨by first | rfl | (simp [errW_none, errW_some] <;> rfl) | (simp [*, errW_none, errW_some] <;> rfl), by repeat (first | (with_reducible first | exact HB.out | apply below_alloc | apply pw_below_drewN | apply below_drew1 | refine below_set ?_ GE139.out | refine below_set ?_ GE141.out) | exact HB.out)⟩
    · rw [if_neg c4] at H
      exact absurd H (by simp)
  · rw [if_neg c3] at H
    exact absurd H (by simp)

end Go.Proofs.Ytkgcfgoaabkcpaa.Pa
