-- PRINTED by print.py (a twelfth state) out of the translation. Not trusted: Lean checks it.
import Derived.Test.YtkgcfgoaabkcpaaPa0
import Derived.Test.YtkgcfgoaabkcpaaPa4
import Derived.Test.YtkgcfgoaabkcpaaE1e
namespace Go.Proofs.Ytkgcfgoaabkcpaa.Pa
open Go.RowKit Go.Proofs.YtkgcfgoaabkcpaaW.PrintWords Go.Proofs.YtkgcfgoaabkcpaaW.PrintLast Go.Proofs.YtkgcfgoaabkcpaaW.PrintMore
attribute [local go_sem] max2_int min2_int max_two min_two max_three min_three max_four min_four   -- for this text's walks alone
set_option linter.unusedVariables false
set_option linter.unusedSimpArgs false

/-! ### auto_Wrong: function 14 -/
mutual
def auto_Wrong.l0 : Nat → List (S39) → Int → Int → ByteArray → List (S62) → List (S39) → Option (Int × Int)
  | 0, _, _, _, _, _, _ => none
  | k + 1, x18, x19, x20, x111000, x111001, x111002 => if x20 < x19 then (if 0 ≤ x20 then (if x20 < (x18.length : Int) then ((auto_move.f x111000 x111001 x111002 ((rd_T39 x18 x20).f0) ((rd_T39 x18 x20).f1) ((rd_T39 x18 x20).f2)).bind fun t114 => (if t114 = true then (auto_Wrong.l0 k x18 x19 (wrap64 (x20 + 1)) x111000 x111001 x111002) else (some (2, x20)))) else (none)) else (none)) else (auto_Wrong.l1 k (x111002.length : Int) 0 x111000 x111001 x111002)
def auto_Wrong.l1 : Nat → Int → Int → ByteArray → List (S62) → List (S39) → Option (Int × Int)
  | 0, _, _, _, _, _ => none
  | k + 1, x33, x34, x111000, x111001, x111002 => if x34 < x33 then ((auto_once.f x111000 x111001 x111002 x34).bind fun t115 => (if t115 = true then (auto_Wrong.l1 k x33 (wrap64 (x34 + 1)) x111000 x111001 x111002) else (some (3, x34)))) else (auto_Wrong.l2 k x111002 (x111002.length : Int) 0 x111000 x111001 x111002)
def auto_Wrong.l2 : Nat → List (S39) → Int → Int → ByteArray → List (S62) → List (S39) → Option (Int × Int)
  | 0, _, _, _, _, _, _ => none
  | k + 1, x44, x45, x46, x111000, x111001, x111002 => if x46 < x45 then (if 0 ≤ x46 then (if x46 < (x44.length : Int) then (if 0 ≤ ((rd_T39 x44 x46).f1) then (if ((rd_T39 x44 x46).f1) < (x111001.length : Int) then (if (rd_T62 x111001 ((rd_T39 x44 x46).f1)).f1 = true then (some (4, x46)) else (auto_Wrong.l2 k x44 x45 (wrap64 (x46 + 1)) x111000 x111001 x111002)) else (none)) else (none)) else (none)) else (none)) else ((auto_ends.f k x111000 x111001 x111002).bind fun t119 => (auto_Wrong.l3 k t119 (x111001.length : Int) 0))
def auto_Wrong.l3 : Nat → Int → Int → Int → Option (Int × Int)
  | 0, _, _, _ => none
  | k + 1, x10, x64, x65 => if x65 < x64 then (if 0 ≤ x65 then (if (Go.bits .and .u32 (shr .u32 x10 x65) 1) = 0 then (some (5, x65)) else (auto_Wrong.l3 k x10 x64 (wrap64 (x65 + 1)))) else (none)) else (some (0, 0))
end
def auto_Wrong.f (k : Nat) (a0_0 : ByteArray) (l0_1 : List (S62)) (l0_2 : List (S39)) : Option (Int × Int) := (auto_states.f a0_0 l0_1 l0_2).bind fun t111 => (if t111 ≥ 0 then (some (1, t111)) else (auto_Wrong.l0 k l0_2 (l0_2.length : Int) 0 a0_0 l0_1 l0_2))
theorem auto_Wrong.mono_l : ∀ k, (∀ y0 y1 y2 y3 y4 y5, LeO (auto_Wrong.l0 k y0 y1 y2 y3 y4 y5) (auto_Wrong.l0 (k + 1) y0 y1 y2 y3 y4 y5)) ∧ (∀ y0 y1 y2 y3 y4, LeO (auto_Wrong.l1 k y0 y1 y2 y3 y4) (auto_Wrong.l1 (k + 1) y0 y1 y2 y3 y4)) ∧ (∀ y0 y1 y2 y3 y4 y5, LeO (auto_Wrong.l2 k y0 y1 y2 y3 y4 y5) (auto_Wrong.l2 (k + 1) y0 y1 y2 y3 y4 y5)) ∧ (∀ y0 y1 y2, LeO (auto_Wrong.l3 k y0 y1 y2) (auto_Wrong.l3 (k + 1) y0 y1 y2))
  | 0 => ⟨fun _ _ _ _ _ _ r h => by simp [auto_Wrong.l0] at h, fun _ _ _ _ _ r h => by simp [auto_Wrong.l1] at h, fun _ _ _ _ _ _ r h => by simp [auto_Wrong.l2] at h, fun _ _ _ r h => by simp [auto_Wrong.l3] at h⟩
  | k + 1 => by
    obtain ⟨ih0, ih1, ih2, ih3⟩ := auto_Wrong.mono_l k
    refine ⟨?_, ?_, ?_, ?_⟩
    · intro y0 y1 y2 y3 y4 y5
      unfold auto_Wrong.l0
      repeat' first
      | (with_reducible exact ih0 _ _ _ _ _ _)
      | (with_reducible exact ih1 _ _ _ _ _)
      | (with_reducible exact ih2 _ _ _ _ _ _)
      | (with_reducible exact ih3 _ _ _)
      | (with_reducible exact auto_ends.mono _ _ _ _)
      | (with_reducible exact LeO.refl _)
      | (with_reducible exact LeO.none _)
      | (with_reducible refine LeO.ite ?_ ?_)
      | (with_reducible refine LeO.bind ?_ (fun _ => ?_))
      | exact ih0 _ _ _ _ _ _
      | exact ih1 _ _ _ _ _
      | exact ih2 _ _ _ _ _ _
      | exact ih3 _ _ _
      | exact auto_ends.mono _ _ _ _
      | exact LeO.none _
      | refine LeO.ite ?_ ?_
      | refine LeO.bind ?_ (fun _ => ?_)
    · intro y0 y1 y2 y3 y4
      unfold auto_Wrong.l1
      repeat' first
      | (with_reducible exact ih0 _ _ _ _ _ _)
      | (with_reducible exact ih1 _ _ _ _ _)
      | (with_reducible exact ih2 _ _ _ _ _ _)
      | (with_reducible exact ih3 _ _ _)
      | (with_reducible exact auto_ends.mono _ _ _ _)
      | (with_reducible exact LeO.refl _)
      | (with_reducible exact LeO.none _)
      | (with_reducible refine LeO.ite ?_ ?_)
      | (with_reducible refine LeO.bind ?_ (fun _ => ?_))
      | exact ih0 _ _ _ _ _ _
      | exact ih1 _ _ _ _ _
      | exact ih2 _ _ _ _ _ _
      | exact ih3 _ _ _
      | exact auto_ends.mono _ _ _ _
      | exact LeO.none _
      | refine LeO.ite ?_ ?_
      | refine LeO.bind ?_ (fun _ => ?_)
    · intro y0 y1 y2 y3 y4 y5
      unfold auto_Wrong.l2
      repeat' first
      | (with_reducible exact ih0 _ _ _ _ _ _)
      | (with_reducible exact ih1 _ _ _ _ _)
      | (with_reducible exact ih2 _ _ _ _ _ _)
      | (with_reducible exact ih3 _ _ _)
      | (with_reducible exact auto_ends.mono _ _ _ _)
      | (with_reducible exact LeO.refl _)
      | (with_reducible exact LeO.none _)
      | (with_reducible refine LeO.ite ?_ ?_)
      | (with_reducible refine LeO.bind ?_ (fun _ => ?_))
      | exact ih0 _ _ _ _ _ _
      | exact ih1 _ _ _ _ _
      | exact ih2 _ _ _ _ _ _
      | exact ih3 _ _ _
      | exact auto_ends.mono _ _ _ _
      | exact LeO.none _
      | refine LeO.ite ?_ ?_
      | refine LeO.bind ?_ (fun _ => ?_)
    · intro y0 y1 y2
      unfold auto_Wrong.l3
      repeat' first
      | (with_reducible exact ih0 _ _ _ _ _ _)
      | (with_reducible exact ih1 _ _ _ _ _)
      | (with_reducible exact ih2 _ _ _ _ _ _)
      | (with_reducible exact ih3 _ _ _)
      | (with_reducible exact auto_ends.mono _ _ _ _)
      | (with_reducible exact LeO.refl _)
      | (with_reducible exact LeO.none _)
      | (with_reducible refine LeO.ite ?_ ?_)
      | (with_reducible refine LeO.bind ?_ (fun _ => ?_))
      | exact ih0 _ _ _ _ _ _
      | exact ih1 _ _ _ _ _
      | exact ih2 _ _ _ _ _ _
      | exact ih3 _ _ _
      | exact auto_ends.mono _ _ _ _
      | exact LeO.none _
      | refine LeO.ite ?_ ?_
      | refine LeO.bind ?_ (fun _ => ?_)
theorem auto_Wrong.mono : ∀ a0 a1 a2 k, LeO (auto_Wrong.f k a0 a1 a2) (auto_Wrong.f (k + 1) a0 a1 a2) := by
  intro a0 a1 a2 k
  obtain ⟨ih0, ih1, ih2, ih3⟩ := auto_Wrong.mono_l k
  unfold auto_Wrong.f
  repeat' first
      | (with_reducible exact ih0 _ _ _ _ _ _)
      | (with_reducible exact ih1 _ _ _ _ _)
      | (with_reducible exact ih2 _ _ _ _ _ _)
      | (with_reducible exact ih3 _ _ _)
      | (with_reducible exact auto_ends.mono _ _ _ _)
      | (with_reducible exact LeO.refl _)
      | (with_reducible exact LeO.none _)
      | (with_reducible refine LeO.ite ?_ ?_)
      | (with_reducible refine LeO.bind ?_ (fun _ => ?_))
      | exact ih0 _ _ _ _ _ _
      | exact ih1 _ _ _ _ _
      | exact ih2 _ _ _ _ _ _
      | exact ih3 _ _ _
      | exact auto_ends.mono _ _ _ _
      | exact LeO.none _
      | refine LeO.ite ?_ ?_
      | refine LeO.bind ?_ (fun _ => ?_)
set_option maxHeartbeats 8000000 in
set_option maxRecDepth 100000 in
theorem auto_Wrong.calls (k : Nat) (a0_0 : ByteArray) (A0_1 : Option Addr) (c0_1 : Nat) (l0_1 : List (S62)) (A0_2 : Option Addr) (c0_2 : Nat) (l0_2 : List (S39)) (r1 : Int) (r2 : Int) (w : World) (hr0_1 : Kd.C k62 w A0_1 l0_1.length l0_1) (hc0_1 : l0_1.length ≤ c0_1) (hr0_2 : Kd.C k39 w A0_2 l0_2.length l0_2) (hc0_2 : l0_2.length ≤ c0_2) (h : auto_Wrong.f k a0_0 l0_1 l0_2 = some (r1, r2)) :
    Calls Try.prog 14 #[.agg #[.string a0_0, .slice A0_1 l0_1.length c0_1, .slice A0_2 l0_2.length c0_2]] w fun e w' => e = .returned (.tuple #[.int .i64 r1, .int .i64 r2]) ∧ Below w.heap.size w w' := by
  have hu25 := Try.underlying25
  have hu39 := Try.underlying39
  have HR0_1 := Aside0.mk hr0_1
  have HC0_1 := Aside0.mk hc0_1
  clear hr0_1 hc0_1
  have HR0_2 := Aside0.mk hr0_2
  have HC0_2 := Aside0.mk hc0_2
  clear hr0_2 hc0_2
  have HB := Aside0.mk (Below.refl w.heap.size w)
  have H : ((auto_states.f a0_0 l0_1 l0_2).bind fun t111 => (if t111 ≥ 0 then (some (1, t111)) else (auto_Wrong.l0 k l0_2 (l0_2.length : Int) 0 a0_0 l0_1 l0_2))) = some (r1, r2) := h
  clear h
  replace H := Option.bind_eq_some_iff.mp H
  obtain ⟨t111, A20, H⟩ := H
  replace H : (if t111 ≥ 0 then (some (1, t111)) else (auto_Wrong.l0 k l0_2 (l0_2.length : Int) 0 a0_0 l0_1 l0_2)) = some (r1, r2) := H
  have A2 := Aside0.mk A20
  clear A20
  by_cases c3 : t111 ≥ 0
  · rw [if_pos c3] at H
    have c3b0 : decide (0 ≤ t111) = true := decide_eq_true c3
    clear c3
    simp only [Option.some.injEq, Prod.mk.injEq] at H
    obtain ⟨rfl, rfl⟩ := H
    go_enter Try.func14, Try.ntmps14
    go_wp2_with (first | ((with_reducible refine gate_dst (N := 1) rfl ?_); refine box_event ?hg (N := 1) ?hd (cs := #[.string a0_0, .slice A0_1 l0_1.length c0_1, .slice A0_2 l0_2.length c0_2]) (t := 25) ?hr ?_; (case hd => rfl); (case hg => rfl); (case hr => first | (go_simp; done) | (go_simp; rfl)); intro gb110 hg w4 hbox hb; have n0_ := Aside0.mk (below_step (by repeat (first | (with_reducible first | exact HB.out | apply below_alloc | apply pw_below_drewN | apply below_drew1) | exact HB.out)) hb); have n1_ := Aside0.mk (hbox); have n2_ := Aside0.mk ((by rw [hg]; exact (below_size (by repeat (first | (with_reducible first | exact HB.out | apply below_alloc | apply pw_below_drewN | apply below_drew1) | exact HB.out))) : w.heap.size ≤ gb110)); have n3_ := Aside0.mk ((by rw [hg]; exact (below_size (by repeat (first | (with_reducible first | exact HB.out | apply below_alloc | apply pw_below_drewN | apply below_drew1) | exact HB.out))) : w.heap.size ≤ gb110)); clear HB; have HB := n0_; have BK110 := n1_; have GW110 := n2_; have GE110 := n3_; clear n0_ n1_ n2_ n3_; clear hb hbox hg; have hcz5_0 : w4.cell? ⟨gb110, 0, none⟩ = some (.string a0_0) := (blk_cell BK110.out 0).trans rfl; have hcz5_1 : w4.cell? ⟨gb110, 1, none⟩ = some (.slice A0_1 l0_1.length c0_1) := (blk_cell BK110.out 1).trans rfl; have hcz5_2 : w4.cell? ⟨gb110, 2, none⟩ = some (.slice A0_2 l0_2.length c0_2) := (blk_cell BK110.out 2).trans rfl; have hfz5_0 := blk_frozen BK110.out 0; have hfz5_1 := blk_frozen BK110.out 1; have hfz5_2 := blk_frozen BK110.out 2) | ((with_reducible refine gate_callee (f := 49) rfl ?_); refine goesL_ (some 13) rfl rfl Try.func49 (by kernel_rfl) rfl #[.agg #[.string a0_0, .slice A0_1 l0_1.length c0_1, .slice A0_2 l0_2.length c0_2]] rfl (by (try simp only [List.map_toArray, List.map_cons, List.map_nil]); first | done | rfl | (simp only [List.length_drop, List.length_take]; rfl)) ?_; (with_reducible refine (auto_states.calls a0_0 _ _ l0_1 _ _ l0_2 t111 _ ?side1 ?side2 ?side3 ?side4 A2.out).mono ?_); (case side1 => repeat (first | exact (Kd.C_below HR0_1.out HB.out) | (with_reducible refine Kd.C_alloc ?_ _) | (with_reducible refine Kd.C_drewN ?_ _) | (with_reducible refine Kd.C_drew ?_))); (case side2 => exact HC0_1.out); (case side3 => repeat (first | exact (Kd.C_below HR0_2.out HB.out) | (with_reducible refine Kd.C_alloc ?_ _) | (with_reducible refine Kd.C_drewN ?_ _) | (with_reducible refine Kd.C_drew ?_))); (case side4 => exact HC0_2.out); rintro e w6 ⟨rfl, hb⟩; refine ⟨_, rfl, ?_⟩; have n0_ := Aside0.mk (blk_below (g := gb110) (o := .cells #[.string a0_0, .slice A0_1 l0_1.length c0_1, .slice A0_2 l0_2.length c0_2] 25 (0, 0)) (by (with_reducible repeat (first | refine blk_drewN ?_ _ | refine blk_drew ?_ | refine blk_alloc ?_ _)); exact BK110.out) hb); have n1_ := Aside0.mk (below_step (by repeat (first | (with_reducible first | exact HB.out | apply below_alloc | apply pw_below_drewN | apply below_drew1 | refine below_set ?_ GE110.out) | exact HB.out)) hb); clear BK110; clear HB; have BK110 := n0_; have HB := n1_; clear n0_ n1_; (try clear hb); (try clear hb2); (try clear hk); (try clear hi)))
    go_ret2
    exact ⟨by first | rfl | (simp [errW_none, errW_some] <;> rfl) | (simp [*, errW_none, errW_some] <;> rfl), by repeat (first | (with_reducible first | exact HB.out | apply below_alloc | apply pw_below_drewN | apply below_drew1 | refine below_set ?_ GE110.out) | exact HB.out)⟩
  · rw [if_neg c3] at H
    have c3b0 : decide (0 ≤ t111) = false := decide_eq_false c3
    clear c3
    have H' := Aside0.mk H
    clear H
    go_enter Try.func14, Try.ntmps14
    go_wp2_with (first | ((with_reducible refine gate_dst (N := 1) rfl ?_); refine box_event ?hg (N := 1) ?hd (cs := #[.string a0_0, .slice A0_1 l0_1.length c0_1, .slice A0_2 l0_2.length c0_2]) (t := 25) ?hr ?_; (case hd => rfl); (case hg => rfl); (case hr => first | (go_simp; done) | (go_simp; rfl)); intro gb110 hg w7 hbox hb; have n0_ := Aside0.mk (below_step (by repeat (first | (with_reducible first | exact HB.out | apply below_alloc | apply pw_below_drewN | apply below_drew1) | exact HB.out)) hb); have n1_ := Aside0.mk (hbox); have n2_ := Aside0.mk ((by rw [hg]; exact (below_size (by repeat (first | (with_reducible first | exact HB.out | apply below_alloc | apply pw_below_drewN | apply below_drew1) | exact HB.out))) : w.heap.size ≤ gb110)); have n3_ := Aside0.mk ((by rw [hg]; exact (below_size (by repeat (first | (with_reducible first | exact HB.out | apply below_alloc | apply pw_below_drewN | apply below_drew1) | exact HB.out))) : w.heap.size ≤ gb110)); clear HB; have HB := n0_; have BK110 := n1_; have GW110 := n2_; have GE110 := n3_; clear n0_ n1_ n2_ n3_; clear hb hbox hg; have hcz8_0 : w7.cell? ⟨gb110, 0, none⟩ = some (.string a0_0) := (blk_cell BK110.out 0).trans rfl; have hcz8_1 : w7.cell? ⟨gb110, 1, none⟩ = some (.slice A0_1 l0_1.length c0_1) := (blk_cell BK110.out 1).trans rfl; have hcz8_2 : w7.cell? ⟨gb110, 2, none⟩ = some (.slice A0_2 l0_2.length c0_2) := (blk_cell BK110.out 2).trans rfl; have hfz8_0 := blk_frozen BK110.out 0; have hfz8_1 := blk_frozen BK110.out 1; have hfz8_2 := blk_frozen BK110.out 2) | ((with_reducible refine gate_callee (f := 49) rfl ?_); refine goesL_ (some 13) rfl rfl Try.func49 (by kernel_rfl) rfl #[.agg #[.string a0_0, .slice A0_1 l0_1.length c0_1, .slice A0_2 l0_2.length c0_2]] rfl (by (try simp only [List.map_toArray, List.map_cons, List.map_nil]); first | done | rfl | (simp only [List.length_drop, List.length_take]; rfl)) ?_; (with_reducible refine (auto_states.calls a0_0 _ _ l0_1 _ _ l0_2 t111 _ ?side1 ?side2 ?side3 ?side4 A2.out).mono ?_); (case side1 => repeat (first | exact (Kd.C_below HR0_1.out HB.out) | (with_reducible refine Kd.C_alloc ?_ _) | (with_reducible refine Kd.C_drewN ?_ _) | (with_reducible refine Kd.C_drew ?_))); (case side2 => exact HC0_1.out); (case side3 => repeat (first | exact (Kd.C_below HR0_2.out HB.out) | (with_reducible refine Kd.C_alloc ?_ _) | (with_reducible refine Kd.C_drewN ?_ _) | (with_reducible refine Kd.C_drew ?_))); (case side4 => exact HC0_2.out); rintro e w9 ⟨rfl, hb⟩; refine ⟨_, rfl, ?_⟩; have n0_ := Aside0.mk (blk_below (g := gb110) (o := .cells #[.string a0_0, .slice A0_1 l0_1.length c0_1, .slice A0_2 l0_2.length c0_2] 25 (0, 0)) (by (with_reducible repeat (first | refine blk_drewN ?_ _ | refine blk_drew ?_ | refine blk_alloc ?_ _)); exact BK110.out) hb); have n1_ := Aside0.mk (below_step (by repeat (first | (with_reducible first | exact HB.out | apply below_alloc | apply pw_below_drewN | apply below_drew1 | refine below_set ?_ GE110.out) | exact HB.out)) hb); clear BK110; clear HB; have BK110 := n0_; have HB := n1_; clear n0_ n1_; (try clear hb); (try clear hb2); (try clear hk); (try clear hi); have hcz10_0 : w9.cell? ⟨gb110, 0, none⟩ = some (.string a0_0) := (blk_cell BK110.out 0).trans rfl; have hcz10_1 : w9.cell? ⟨gb110, 1, none⟩ = some (.slice A0_1 l0_1.length c0_1) := (blk_cell BK110.out 1).trans rfl; have hcz10_2 : w9.cell? ⟨gb110, 2, none⟩ = some (.slice A0_2 l0_2.length c0_2) := (blk_cell BK110.out 2).trans rfl; have hfz10_0 := blk_frozen BK110.out 0; have hfz10_1 := blk_frozen BK110.out 1; have hfz10_2 := blk_frozen BK110.out 2))
    go_loopg [20] k (fun kq v20 w' => ∃ (x20_1 : Int), v20 = .int .i64 x20_1 ∧ Aside0 (auto_Wrong.l0 kq l0_2 (l0_2.length : Int) x20_1 a0_0 l0_1 l0_2 = some (r1, r2)) ∧ Aside0 (kq ≤ k) ∧ Aside0 (w'.heap[gb110]? = some (.cells #[.string a0_0, (.slice A0_1 l0_1.length c0_1), (.slice A0_2 l0_2.length c0_2)] 25 (0, 0))) ∧ Aside0 (Below w.heap.size w w'))
    case atStart => exact ⟨(0), (by first | rfl | (simp; done) | (simp [*]; done)), H', ⟨Nat.le_refl _⟩, ⟨by (with_reducible repeat (first | refine blk_drewN ?_ _ | refine blk_drew ?_ | refine blk_alloc ?_ _)); exact BK110.out⟩, ⟨by repeat (first | (with_reducible first | exact HB.out | apply below_alloc | apply pw_below_drewN | apply below_drew1 | refine below_set ?_ GE110.out) | exact HB.out)⟩⟩
    case round =>
      clear H'
      try clear c1
      try clear p2
      try clear c3
      try clear c3b0
      try clear c4
      try clear hcz10_0
      try clear hcz10_1
      try clear hcz10_2
      try clear hcz5_0
      try clear hcz5_1
      try clear hcz5_2
      try clear hcz8_0
      try clear hcz8_1
      try clear hcz8_2
      try clear hfz10_0
      try clear hfz10_1
      try clear hfz10_2
      try clear hfz5_0
      try clear hfz5_1
      try clear hfz5_2
      try clear hfz8_0
      try clear hfz8_1
      try clear hfz8_2
      obtain ⟨x20_1, rfl, HA, HK1, BK110, HB⟩ := hrel
      cases gk with
      | zero => exact absurd HA.out (by simp [auto_Wrong.l0])
      | succ k1 =>
        have H := HA.out
        clear HA
        simp only [auto_Wrong.l0] at H
        by_cases c11 : x20_1 < (l0_2.length : Int)
        · rw [if_pos c11] at H
          have c11b0 : decide (x20_1 < (l0_2.length : Int)) = true := decide_eq_true c11
          clear c11
          by_cases c12 : 0 ≤ x20_1
          · rw [if_pos c12] at H
            have c12b0 : decide (0 ≤ x20_1) = true := decide_eq_true c12
            clear c12
            by_cases c13 : x20_1 < (l0_2.length : Int)
            · rw [if_pos c13] at H
              have c13b0 : decide (x20_1 < (l0_2.length : Int)) = true := decide_eq_true c13
              clear c13
              replace H := Option.bind_eq_some_iff.mp H
              obtain ⟨t114, A140, H⟩ := H
              replace H : (if t114 = true then (auto_Wrong.l0 k1 l0_2 (l0_2.length : Int) (wrap64 (x20_1 + 1)) a0_0 l0_1 l0_2) else (some (2, x20_1))) = some (r1, r2) := H
              have A14 := Aside0.mk A140
              clear A140
              by_cases c15 : t114 = true
              · subst c15
                have H1 : (auto_Wrong.l0 k1 l0_2 (l0_2.length : Int) (wrap64 (x20_1 + 1)) a0_0 l0_1 l0_2) = some (r1, r2) := by rw [if_pos rfl] at H; exact H
                clear H
                have H := H1
                clear H1
                have H' := Aside0.mk H
                clear H
                have p112 : 0 ≤ (x20_1 : Int) := of_decide_eq_true (by first | (with_reducible assumption) | assumption)
                have q112 : x20_1 < (l0_2.length : Int) := of_decide_eq_true (by first | (with_reducible assumption) | assumption)
                obtain ⟨ad112, A112_2, c112_2, e112, hx112_0, hx112_1, hx112_2, hl112_2, hi112_2⟩ := at_T39 HR0_2.out x20_1 p112 q112
                cases e112
                replace hx112_0 := (HB.out.cell (World.block_lt_of_cell? w _ hx112_0)).trans hx112_0
                replace hx112_1 := (HB.out.cell (World.block_lt_of_cell? w _ hx112_1)).trans hx112_1
                replace hx112_2 := (HB.out.cell (World.block_lt_of_cell? w _ hx112_2)).trans hx112_2
                have HR112_2 := Aside0.mk hi112_2
                have HC112_2 := Aside0.mk hl112_2
                clear hi112_2 hl112_2
                replace p112 := eq_true p112
                replace q112 := eq_true q112
                go_wp2_with (first | ((with_reducible refine gate_dst (N := 6) rfl ?_); refine box_event ?hg (N := 6) ?hd (cs := #[.string (⟨#[]⟩ : ByteArray), .int .i64 0, .slice none 0 0]) (t := 39) ?hr ?_; (case hd => rfl); (case hg => rfl); (case hr => first | (go_simp; done) | (go_simp; rfl)); intro gb113 hg w16 hbox hb; have n0_ := Aside0.mk (blk_below (g := gb110) (o := .cells #[.string a0_0, .slice A0_1 l0_1.length c0_1, .slice (some ad112) l0_2.length c0_2] 25 (0, 0)) (by (with_reducible repeat (first | refine blk_drewN ?_ _ | refine blk_drew ?_ | refine blk_alloc ?_ _)); exact BK110.out) hb); have n1_ := Aside0.mk (below_step (by repeat (first | (with_reducible first | exact HB.out | apply below_alloc | apply pw_below_drewN | apply below_drew1 | refine below_set ?_ GE110.out) | exact HB.out)) hb); have n2_ := Aside0.mk (hbox); have n3_ := Aside0.mk ((by rw [hg]; exact (below_size (by repeat (first | (with_reducible first | exact HB.out | apply below_alloc | apply pw_below_drewN | apply below_drew1 | refine below_set ?_ GE110.out) | exact HB.out))) : w.heap.size ≤ gb113)); have n4_ := Aside0.mk ((by rw [hg]; exact (below_size (by repeat (first | (with_reducible first | exact HB.out | apply below_alloc | apply pw_below_drewN | apply below_drew1 | refine below_set ?_ GE110.out) | exact HB.out))) : w.heap.size ≤ gb113)); have n5_ := Aside0.mk ((by rw [hg]; exact Nat.ne_of_lt (blk_lt (g := gb110) (o := .cells #[.string a0_0, .slice A0_1 l0_1.length c0_1, .slice (some ad112) l0_2.length c0_2] 25 (0, 0)) (by (with_reducible repeat (first | refine blk_drewN ?_ _ | refine blk_drew ?_ | refine blk_alloc ?_ _)); exact BK110.out)) : gb110 ≠ gb113)); have n6_ := Aside0.mk ((by rw [hg]; exact Nat.ne_of_gt (blk_lt (g := gb110) (o := .cells #[.string a0_0, .slice A0_1 l0_1.length c0_1, .slice (some ad112) l0_2.length c0_2] 25 (0, 0)) (by (with_reducible repeat (first | refine blk_drewN ?_ _ | refine blk_drew ?_ | refine blk_alloc ?_ _)); exact BK110.out)) : gb113 ≠ gb110)); clear BK110; clear HB; have BK110 := n0_; have HB := n1_; have BK113 := n2_; have GW113 := n3_; have GE113 := n4_; have NB110_113 := n5_; have NB113_110 := n6_; clear n0_ n1_ n2_ n3_ n4_ n5_ n6_; clear hb hbox hg; have hnb17 := NB113_110.out; have hnc17 := NB110_113.out; have hcz18_0 : w16.cell? ⟨gb113, 0, none⟩ = some (.string (⟨#[]⟩ : ByteArray)) := (blk_cell BK113.out 0).trans rfl; have hcz18_1 : w16.cell? ⟨gb113, 1, none⟩ = some (.int .i64 0) := (blk_cell BK113.out 1).trans rfl; have hcz18_2 : w16.cell? ⟨gb113, 2, none⟩ = some (.slice none 0 0) := (blk_cell BK113.out 2).trans rfl; have hfz18_0 := blk_frozen BK113.out 0; have hfz18_1 := blk_frozen BK113.out 1; have hfz18_2 := blk_frozen BK113.out 2; have hcz19_0 : w16.cell? ⟨gb110, 0, none⟩ = some (.string a0_0) := (blk_cell BK110.out 0).trans rfl; have hcz19_1 : w16.cell? ⟨gb110, 1, none⟩ = some (.slice A0_1 l0_1.length c0_1) := (blk_cell BK110.out 1).trans rfl; have hcz19_2 : w16.cell? ⟨gb110, 2, none⟩ = some (.slice (some ad112) l0_2.length c0_2) := (blk_cell BK110.out 2).trans rfl; have hfz19_0 := blk_frozen BK110.out 0; have hfz19_1 := blk_frozen BK110.out 1; have hfz19_2 := blk_frozen BK110.out 2) | ((with_reducible refine gate_callee (f := 50) rfl ?_); refine goesL_ (some 27) rfl rfl Try.func50 (by kernel_rfl) rfl #[.agg #[.string a0_0, .slice A0_1 l0_1.length c0_1, .slice (some ad112) l0_2.length c0_2], .agg #[.string ((rd_T39 l0_2 x20_1).f0), .int .i64 ((rd_T39 l0_2 x20_1).f1), .slice A112_2 ((rd_T39 l0_2 x20_1).f2).length c112_2]] rfl (by (try simp only [List.map_toArray, List.map_cons, List.map_nil]); first | done | rfl | (simp only [List.length_drop, List.length_take]; rfl)) ?_; (with_reducible refine (auto_move.calls a0_0 _ _ l0_1 _ _ l0_2 ((rd_T39 l0_2 x20_1).f0) ((rd_T39 l0_2 x20_1).f1) _ _ ((rd_T39 l0_2 x20_1).f2) true _ ?side1 ?side2 ?side3 ?side4 ?side5 ?side6 A14.out).mono ?_); (case side1 => exact Kd.C_below HR0_1.out (by repeat (first | (with_reducible first | exact HB.out | apply below_alloc | apply pw_below_drewN | apply below_drew1 | refine below_set ?_ GE110.out | refine below_set ?_ GE113.out) | exact HB.out))); (case side2 => exact HC0_1.out); (case side3 => exact Kd.C_below HR0_2.out (by repeat (first | (with_reducible first | exact HB.out | apply below_alloc | apply pw_below_drewN | apply below_drew1 | refine below_set ?_ GE110.out | refine below_set ?_ GE113.out) | exact HB.out))); (case side4 => exact HC0_2.out); (case side5 => exact Kd.C_below HR112_2.out (by repeat (first | (with_reducible first | exact HB.out | apply below_alloc | apply pw_below_drewN | apply below_drew1 | refine below_set ?_ GE110.out | refine below_set ?_ GE113.out) | exact HB.out))); (case side6 => exact HC112_2.out); rintro e w20 ⟨rfl, hb⟩; refine ⟨_, rfl, ?_⟩; have n0_ := Aside0.mk (blk_below (g := gb110) (o := .cells #[.string a0_0, .slice A0_1 l0_1.length c0_1, .slice (some ad112) l0_2.length c0_2] 25 (0, 0)) (by (with_reducible repeat (first | refine blk_drewN ?_ _ | refine blk_drew ?_ | refine blk_alloc ?_ _)); refine blk_far ?_ NB110_113.out _; (with_reducible repeat (first | refine blk_drewN ?_ _ | refine blk_drew ?_ | refine blk_alloc ?_ _)); refine blk_far ?_ NB110_113.out _; (with_reducible repeat (first | refine blk_drewN ?_ _ | refine blk_drew ?_ | refine blk_alloc ?_ _)); refine blk_far ?_ NB110_113.out _; (with_reducible repeat (first | refine blk_drewN ?_ _ | refine blk_drew ?_ | refine blk_alloc ?_ _)); exact BK110.out) hb); have n1_ := Aside0.mk (blk_below (g := gb113) (o := .cells #[.string ((rd_T39 l0_2 x20_1).f0), .int .i64 ((rd_T39 l0_2 x20_1).f1), .slice A112_2 ((rd_T39 l0_2 x20_1).f2).length c112_2] 39 (0, 0)) (by (with_reducible repeat (first | refine blk_drewN ?_ _ | refine blk_drew ?_ | refine blk_alloc ?_ _)); refine blk_put (cs := #[.string ((rd_T39 l0_2 x20_1).f0), .int .i64 ((rd_T39 l0_2 x20_1).f1), .slice none 0 0]) ?_ 2 _ rfl; (with_reducible repeat (first | refine blk_drewN ?_ _ | refine blk_drew ?_ | refine blk_alloc ?_ _)); refine blk_put (cs := #[.string ((rd_T39 l0_2 x20_1).f0), .int .i64 0, .slice none 0 0]) ?_ 1 _ rfl; (with_reducible repeat (first | refine blk_drewN ?_ _ | refine blk_drew ?_ | refine blk_alloc ?_ _)); refine blk_put (cs := #[.string (⟨#[]⟩ : ByteArray), .int .i64 0, .slice none 0 0]) ?_ 0 _ rfl; (with_reducible repeat (first | refine blk_drewN ?_ _ | refine blk_drew ?_ | refine blk_alloc ?_ _)); exact BK113.out) hb); have n2_ := Aside0.mk (below_step (by repeat (first | (with_reducible first | exact HB.out | apply below_alloc | apply pw_below_drewN | apply below_drew1 | refine below_set ?_ GE110.out | refine below_set ?_ GE113.out) | exact HB.out)) hb); clear BK110; clear BK113; clear HB; have BK110 := n0_; have BK113 := n1_; have HB := n2_; clear n0_ n1_ n2_; (try clear hb); (try clear hb2); (try clear hk); (try clear hi)))
                go_roundg k1
                case measure => have := HK1.out; omega
                case rel => exact ⟨(wrap64 (x20_1 + 1)), (by first | rfl | (simp; done) | (simp [*]; done)), H', ⟨by have := HK1.out; omega⟩, ⟨by (with_reducible repeat (first | refine blk_drewN ?_ _ | refine blk_drew ?_ | refine blk_alloc ?_ _)); exact BK110.out⟩, ⟨by repeat (first | (with_reducible first | exact HB.out | apply below_alloc | apply pw_below_drewN | apply below_drew1 | refine below_set ?_ GE110.out | refine below_set ?_ GE113.out) | exact HB.out)⟩⟩
              · replace c15 := Bool.eq_false_iff.mpr c15
                subst c15
                have H1 : (some (2, x20_1)) = some (r1, r2) := by rw [if_neg (show ¬ (false = true) by decide)] at H; exact H
                clear H
                have H := H1
                clear H1
                simp only [Option.some.injEq, Prod.mk.injEq] at H
                obtain ⟨rfl, rfl⟩ := H
                have p112 : 0 ≤ (x20_1 : Int) := of_decide_eq_true (by first | (with_reducible assumption) | assumption)
                have q112 : x20_1 < (l0_2.length : Int) := of_decide_eq_true (by first | (with_reducible assumption) | assumption)
                obtain ⟨ad112, A112_2, c112_2, e112, hx112_0, hx112_1, hx112_2, hl112_2, hi112_2⟩ := at_T39 HR0_2.out x20_1 p112 q112
                cases e112
                replace hx112_0 := (HB.out.cell (World.block_lt_of_cell? w _ hx112_0)).trans hx112_0
                replace hx112_1 := (HB.out.cell (World.block_lt_of_cell? w _ hx112_1)).trans hx112_1
                replace hx112_2 := (HB.out.cell (World.block_lt_of_cell? w _ hx112_2)).trans hx112_2
                have HR112_2 := Aside0.mk hi112_2
                have HC112_2 := Aside0.mk hl112_2
                clear hi112_2 hl112_2
                replace p112 := eq_true p112
                replace q112 := eq_true q112
                go_wp2_with (first | ((with_reducible refine gate_dst (N := 6) rfl ?_); refine box_event ?hg (N := 6) ?hd (cs := #[.string (⟨#[]⟩ : ByteArray), .int .i64 0, .slice none 0 0]) (t := 39) ?hr ?_; (case hd => rfl); (case hg => rfl); (case hr => first | (go_simp; done) | (go_simp; rfl)); intro gb113 hg w21 hbox hb; have n0_ := Aside0.mk (blk_below (g := gb110) (o := .cells #[.string a0_0, .slice A0_1 l0_1.length c0_1, .slice (some ad112) l0_2.length c0_2] 25 (0, 0)) (by (with_reducible repeat (first | refine blk_drewN ?_ _ | refine blk_drew ?_ | refine blk_alloc ?_ _)); exact BK110.out) hb); have n1_ := Aside0.mk (below_step (by repeat (first | (with_reducible first | exact HB.out | apply below_alloc | apply pw_below_drewN | apply below_drew1 | refine below_set ?_ GE110.out) | exact HB.out)) hb); have n2_ := Aside0.mk (hbox); have n3_ := Aside0.mk ((by rw [hg]; exact (below_size (by repeat (first | (with_reducible first | exact HB.out | apply below_alloc | apply pw_below_drewN | apply below_drew1 | refine below_set ?_ GE110.out) | exact HB.out))) : w.heap.size ≤ gb113)); have n4_ := Aside0.mk ((by rw [hg]; exact (below_size (by repeat (first | (with_reducible first | exact HB.out | apply below_alloc | apply pw_below_drewN | apply below_drew1 | refine below_set ?_ GE110.out) | exact HB.out))) : w.heap.size ≤ gb113)); have n5_ := Aside0.mk ((by rw [hg]; exact Nat.ne_of_lt (blk_lt (g := gb110) (o := .cells #[.string a0_0, .slice A0_1 l0_1.length c0_1, .slice (some ad112) l0_2.length c0_2] 25 (0, 0)) (by (with_reducible repeat (first | refine blk_drewN ?_ _ | refine blk_drew ?_ | refine blk_alloc ?_ _)); exact BK110.out)) : gb110 ≠ gb113)); have n6_ := Aside0.mk ((by rw [hg]; exact Nat.ne_of_gt (blk_lt (g := gb110) (o := .cells #[.string a0_0, .slice A0_1 l0_1.length c0_1, .slice (some ad112) l0_2.length c0_2] 25 (0, 0)) (by (with_reducible repeat (first | refine blk_drewN ?_ _ | refine blk_drew ?_ | refine blk_alloc ?_ _)); exact BK110.out)) : gb113 ≠ gb110)); clear BK110; clear HB; have BK110 := n0_; have HB := n1_; have BK113 := n2_; have GW113 := n3_; have GE113 := n4_; have NB110_113 := n5_; have NB113_110 := n6_; clear n0_ n1_ n2_ n3_ n4_ n5_ n6_; clear hb hbox hg; have hnb22 := NB113_110.out; have hnc22 := NB110_113.out; have hcz23_0 : w21.cell? ⟨gb113, 0, none⟩ = some (.string (⟨#[]⟩ : ByteArray)) := (blk_cell BK113.out 0).trans rfl; have hcz23_1 : w21.cell? ⟨gb113, 1, none⟩ = some (.int .i64 0) := (blk_cell BK113.out 1).trans rfl; have hcz23_2 : w21.cell? ⟨gb113, 2, none⟩ = some (.slice none 0 0) := (blk_cell BK113.out 2).trans rfl; have hfz23_0 := blk_frozen BK113.out 0; have hfz23_1 := blk_frozen BK113.out 1; have hfz23_2 := blk_frozen BK113.out 2; have hcz24_0 : w21.cell? ⟨gb110, 0, none⟩ = some (.string a0_0) := (blk_cell BK110.out 0).trans rfl; have hcz24_1 : w21.cell? ⟨gb110, 1, none⟩ = some (.slice A0_1 l0_1.length c0_1) := (blk_cell BK110.out 1).trans rfl; have hcz24_2 : w21.cell? ⟨gb110, 2, none⟩ = some (.slice (some ad112) l0_2.length c0_2) := (blk_cell BK110.out 2).trans rfl; have hfz24_0 := blk_frozen BK110.out 0; have hfz24_1 := blk_frozen BK110.out 1; have hfz24_2 := blk_frozen BK110.out 2) | ((with_reducible refine gate_callee (f := 50) rfl ?_); refine goesL_ (some 27) rfl rfl Try.func50 (by kernel_rfl) rfl #[.agg #[.string a0_0, .slice A0_1 l0_1.length c0_1, .slice (some ad112) l0_2.length c0_2], .agg #[.string ((rd_T39 l0_2 x20_1).f0), .int .i64 ((rd_T39 l0_2 x20_1).f1), .slice A112_2 ((rd_T39 l0_2 x20_1).f2).length c112_2]] rfl (by (try simp only [List.map_toArray, List.map_cons, List.map_nil]); first | done | rfl | (simp only [List.length_drop, List.length_take]; rfl)) ?_; (with_reducible refine (auto_move.calls a0_0 _ _ l0_1 _ _ l0_2 ((rd_T39 l0_2 x20_1).f0) ((rd_T39 l0_2 x20_1).f1) _ _ ((rd_T39 l0_2 x20_1).f2) false _ ?side1 ?side2 ?side3 ?side4 ?side5 ?side6 A14.out).mono ?_); (case side1 => exact Kd.C_below HR0_1.out (by repeat (first | (with_reducible first | exact HB.out | apply below_alloc | apply pw_below_drewN | apply below_drew1 | refine below_set ?_ GE110.out | refine below_set ?_ GE113.out) | exact HB.out))); (case side2 => exact HC0_1.out); (case side3 => exact Kd.C_below HR0_2.out (by repeat (first | (with_reducible first | exact HB.out | apply below_alloc | apply pw_below_drewN | apply below_drew1 | refine below_set ?_ GE110.out | refine below_set ?_ GE113.out) | exact HB.out))); (case side4 => exact HC0_2.out); (case side5 => exact Kd.C_below HR112_2.out (by repeat (first | (with_reducible first | exact HB.out | apply below_alloc | apply pw_below_drewN | apply below_drew1 | refine below_set ?_ GE110.out | refine below_set ?_ GE113.out) | exact HB.out))); (case side6 => exact HC112_2.out); rintro e w25 ⟨rfl, hb⟩; refine ⟨_, rfl, ?_⟩; have n0_ := Aside0.mk (blk_below (g := gb110) (o := .cells #[.string a0_0, .slice A0_1 l0_1.length c0_1, .slice (some ad112) l0_2.length c0_2] 25 (0, 0)) (by (with_reducible repeat (first | refine blk_drewN ?_ _ | refine blk_drew ?_ | refine blk_alloc ?_ _)); refine blk_far ?_ NB110_113.out _; (with_reducible repeat (first | refine blk_drewN ?_ _ | refine blk_drew ?_ | refine blk_alloc ?_ _)); refine blk_far ?_ NB110_113.out _; (with_reducible repeat (first | refine blk_drewN ?_ _ | refine blk_drew ?_ | refine blk_alloc ?_ _)); refine blk_far ?_ NB110_113.out _; (with_reducible repeat (first | refine blk_drewN ?_ _ | refine blk_drew ?_ | refine blk_alloc ?_ _)); exact BK110.out) hb); have n1_ := Aside0.mk (blk_below (g := gb113) (o := .cells #[.string ((rd_T39 l0_2 x20_1).f0), .int .i64 ((rd_T39 l0_2 x20_1).f1), .slice A112_2 ((rd_T39 l0_2 x20_1).f2).length c112_2] 39 (0, 0)) (by (with_reducible repeat (first | refine blk_drewN ?_ _ | refine blk_drew ?_ | refine blk_alloc ?_ _)); refine blk_put (cs := #[.string ((rd_T39 l0_2 x20_1).f0), .int .i64 ((rd_T39 l0_2 x20_1).f1), .slice none 0 0]) ?_ 2 _ rfl; (with_reducible repeat (first | refine blk_drewN ?_ _ | refine blk_drew ?_ | refine blk_alloc ?_ _)); refine blk_put (cs := #[.string ((rd_T39 l0_2 x20_1).f0), .int .i64 0, .slice none 0 0]) ?_ 1 _ rfl; (with_reducible repeat (first | refine blk_drewN ?_ _ | refine blk_drew ?_ | refine blk_alloc ?_ _)); refine blk_put (cs := #[.string (⟨#[]⟩ : ByteArray), .int .i64 0, .slice none 0 0]) ?_ 0 _ rfl; (with_reducible repeat (first | refine blk_drewN ?_ _ | refine blk_drew ?_ | refine blk_alloc ?_ _)); exact BK113.out) hb); have n2_ := Aside0.mk (below_step (by repeat (first | (with_reducible first | exact HB.out | apply below_alloc | apply pw_below_drewN | apply below_drew1 | refine below_set ?_ GE110.out | refine below_set ?_ GE113.out) | exact HB.out)) hb); clear BK110; clear BK113; clear HB; have BK110 := n0_; have BK113 := n1_; have HB := n2_; clear n0_ n1_ n2_; (try clear hb); (try clear hb2); (try clear hk); (try clear hi)))
                go_ret2
                exact ⟨by first | rfl | (simp [errW_none, errW_some] <;> rfl) | (simp [*, errW_none, errW_some] <;> rfl), by repeat (first | (with_reducible first | exact HB.out | apply below_alloc | apply pw_below_drewN | apply below_drew1 | refine below_set ?_ GE110.out | refine below_set ?_ GE113.out) | exact HB.out)⟩
            · rw [if_neg c13] at H
              exact absurd H (by simp)
          · rw [if_neg c12] at H
            exact absurd H (by simp)
        · rw [if_neg c11] at H
          have c11b0 : decide (x20_1 < (l0_2.length : Int)) = false := decide_eq_false c11
          clear c11
          have H' := Aside0.mk H
          clear H
          have hcz26_0 : wr.cell? ⟨gb110, 0, none⟩ = some (.string a0_0) := (blk_cell BK110.out 0).trans rfl
          have hcz26_1 : wr.cell? ⟨gb110, 1, none⟩ = some (.slice A0_1 l0_1.length c0_1) := (blk_cell BK110.out 1).trans rfl
          have hcz26_2 : wr.cell? ⟨gb110, 2, none⟩ = some (.slice A0_2 l0_2.length c0_2) := (blk_cell BK110.out 2).trans rfl
          have hfz26_0 := blk_frozen BK110.out 0
          have hfz26_1 := blk_frozen BK110.out 1
          have hfz26_2 := blk_frozen BK110.out 2
          go_wp2
          go_loopg [34] k1 (fun kq v34 w' => ∃ (x34_2 : Int), v34 = .int .i64 x34_2 ∧ Aside0 (auto_Wrong.l1 kq (l0_2.length : Int) x34_2 a0_0 l0_1 l0_2 = some (r1, r2)) ∧ Aside0 (kq ≤ k1) ∧ Aside0 (w'.heap[gb110]? = some (.cells #[.string a0_0, (.slice A0_1 l0_1.length c0_1), (.slice A0_2 l0_2.length c0_2)] 25 (0, 0))) ∧ Aside0 (Below w.heap.size w w'))
          case atStart => exact ⟨(0), (by first | rfl | (simp; done) | (simp [*]; done)), H', ⟨Nat.le_refl _⟩, ⟨by (with_reducible repeat (first | refine blk_drewN ?_ _ | refine blk_drew ?_ | refine blk_alloc ?_ _)); exact BK110.out⟩, ⟨by repeat (first | (with_reducible first | exact HB.out | apply below_alloc | apply pw_below_drewN | apply below_drew1 | refine below_set ?_ GE110.out) | exact HB.out)⟩⟩
          case round =>
            clear H'
            try clear c1
            try clear p1
            try clear q1
            try clear hx1
            try clear c2
            try clear p2
            try clear c3
            try clear c3b0
            try clear c4
            try clear c5
            try clear p6
            try clear c11
            try clear c11b0
            try clear p11
            try clear q11
            try clear hx11
            try clear c12
            try clear c12b0
            try clear c13
            try clear c13b0
            try clear c14
            try clear c15
            try clear c17
            try clear c22
            try clear hcz10_0
            try clear hcz10_1
            try clear hcz10_2
            try clear hcz18_0
            try clear hcz18_1
            try clear hcz18_2
            try clear hcz19_0
            try clear hcz19_1
            try clear hcz19_2
            try clear hcz23_0
            try clear hcz23_1
            try clear hcz23_2
            try clear hcz24_0
            try clear hcz24_1
            try clear hcz24_2
            try clear hcz26_0
            try clear hcz26_1
            try clear hcz26_2
            try clear hcz5_0
            try clear hcz5_1
            try clear hcz5_2
            try clear hcz8_0
            try clear hcz8_1
            try clear hcz8_2
            try clear hfz10_0
            try clear hfz10_1
            try clear hfz10_2
            try clear hfz18_0
            try clear hfz18_1
            try clear hfz18_2
            try clear hfz19_0
            try clear hfz19_1
            try clear hfz19_2
            try clear hfz23_0
            try clear hfz23_1
            try clear hfz23_2
            try clear hfz24_0
            try clear hfz24_1
            try clear hfz24_2
            try clear hfz26_0
            try clear hfz26_1
            try clear hfz26_2
            try clear hfz5_0
            try clear hfz5_1
            try clear hfz5_2
            try clear hfz8_0
            try clear hfz8_1
            try clear hfz8_2
            try clear hx112_0
            try clear hx112_1
            try clear hx112_2
            try clear p112
            try clear p2
            try clear q112
            obtain ⟨x34_2, rfl, HA, HK2, BK110, HB⟩ := hrel
            cases gk with
            | zero => exact absurd HA.out (by simp [auto_Wrong.l1])
            | succ k2 =>
              have H := HA.out
              clear HA
              simp only [auto_Wrong.l1] at H
              by_cases c27 : x34_2 < (l0_2.length : Int)
              · rw [if_pos c27] at H
                have c27b0 : decide (x34_2 < (l0_2.length : Int)) = true := decide_eq_true c27
                clear c27
                replace H := Option.bind_eq_some_iff.mp H
                obtain ⟨t115, A280, H⟩ := H
                replace H : (if t115 = true then (auto_Wrong.l1 k2 (l0_2.length : Int) (wrap64 (x34_2 + 1)) a0_0 l0_1 l0_2) else (some (3, x34_2))) = some (r1, r2) := H
                have A28 := Aside0.mk A280
                clear A280
                by_cases c29 : t115 = true
                · subst c29
                  have H1 : (auto_Wrong.l1 k2 (l0_2.length : Int) (wrap64 (x34_2 + 1)) a0_0 l0_1 l0_2) = some (r1, r2) := by rw [if_pos rfl] at H; exact H
                  clear H
                  have H := H1
                  clear H1
                  have H' := Aside0.mk H
                  clear H
                  have hcz30_0 : wr.cell? ⟨gb110, 0, none⟩ = some (.string a0_0) := (blk_cell BK110.out 0).trans rfl
                  have hcz30_1 : wr.cell? ⟨gb110, 1, none⟩ = some (.slice A0_1 l0_1.length c0_1) := (blk_cell BK110.out 1).trans rfl
                  have hcz30_2 : wr.cell? ⟨gb110, 2, none⟩ = some (.slice A0_2 l0_2.length c0_2) := (blk_cell BK110.out 2).trans rfl
                  have hfz30_0 := blk_frozen BK110.out 0
                  have hfz30_1 := blk_frozen BK110.out 1
                  have hfz30_2 := blk_frozen BK110.out 2
                  go_wp2_with (first | ((with_reducible refine gate_callee (f := 51) rfl ?_); refine goesL_ (some 39) rfl rfl Try.func51 (by kernel_rfl) rfl #[.agg #[.string a0_0, .slice A0_1 l0_1.length c0_1, .slice A0_2 l0_2.length c0_2], .int .i64 x34_2] rfl (by (try simp only [List.map_toArray, List.map_cons, List.map_nil]); first | done | rfl | (simp only [List.length_drop, List.length_take]; rfl)) ?_; (with_reducible refine (auto_once.calls a0_0 _ _ l0_1 _ _ l0_2 x34_2 true _ ?side1 ?side2 ?side3 ?side4 A28.out).mono ?_); (case side1 => repeat (first | exact (Kd.C_below HR0_1.out HB.out) | (with_reducible refine Kd.C_alloc ?_ _) | (with_reducible refine Kd.C_drewN ?_ _) | (with_reducible refine Kd.C_drew ?_))); (case side2 => exact HC0_1.out); (case side3 => repeat (first | exact (Kd.C_below HR0_2.out HB.out) | (with_reducible refine Kd.C_alloc ?_ _) | (with_reducible refine Kd.C_drewN ?_ _) | (with_reducible refine Kd.C_drew ?_))); (case side4 => exact HC0_2.out); rintro e w31 ⟨rfl, hb⟩; refine ⟨_, rfl, ?_⟩; have n0_ := Aside0.mk (blk_below (g := gb110) (o := .cells #[.string a0_0, .slice A0_1 l0_1.length c0_1, .slice A0_2 l0_2.length c0_2] 25 (0, 0)) (by (with_reducible repeat (first | refine blk_drewN ?_ _ | refine blk_drew ?_ | refine blk_alloc ?_ _)); exact BK110.out) hb); have n1_ := Aside0.mk (below_step (by repeat (first | (with_reducible first | exact HB.out | apply below_alloc | apply pw_below_drewN | apply below_drew1 | refine below_set ?_ GE110.out) | exact HB.out)) hb); clear BK110; clear HB; have BK110 := n0_; have HB := n1_; clear n0_ n1_; (try clear hb); (try clear hb2); (try clear hk); (try clear hi)))
                  go_roundg k2
                  case measure => have := HK1.out; have := HK2.out; omega
                  case rel => exact ⟨(wrap64 (x34_2 + 1)), (by first | rfl | (simp; done) | (simp [*]; done)), H', ⟨by have := HK1.out; have := HK2.out; omega⟩, ⟨by (with_reducible repeat (first | refine blk_drewN ?_ _ | refine blk_drew ?_ | refine blk_alloc ?_ _)); exact BK110.out⟩, ⟨by repeat (first | (with_reducible first | exact HB.out | apply below_alloc | apply pw_below_drewN | apply below_drew1 | refine below_set ?_ GE110.out) | exact HB.out)⟩⟩
                · replace c29 := Bool.eq_false_iff.mpr c29
                  subst c29
                  have H1 : (some (3, x34_2)) = some (r1, r2) := by rw [if_neg (show ¬ (false = true) by decide)] at H; exact H
                  clear H
                  have H := H1
                  clear H1
                  simp only [Option.some.injEq, Prod.mk.injEq] at H
                  obtain ⟨rfl, rfl⟩ := H
                  have hcz32_0 : wr.cell? ⟨gb110, 0, none⟩ = some (.string a0_0) := (blk_cell BK110.out 0).trans rfl
                  have hcz32_1 : wr.cell? ⟨gb110, 1, none⟩ = some (.slice A0_1 l0_1.length c0_1) := (blk_cell BK110.out 1).trans rfl
                  have hcz32_2 : wr.cell? ⟨gb110, 2, none⟩ = some (.slice A0_2 l0_2.length c0_2) := (blk_cell BK110.out 2).trans rfl
                  have hfz32_0 := blk_frozen BK110.out 0
                  have hfz32_1 := blk_frozen BK110.out 1
                  have hfz32_2 := blk_frozen BK110.out 2
                  go_wp2_with (first | ((with_reducible refine gate_callee (f := 51) rfl ?_); refine goesL_ (some 39) rfl rfl Try.func51 (by kernel_rfl) rfl #[.agg #[.string a0_0, .slice A0_1 l0_1.length c0_1, .slice A0_2 l0_2.length c0_2], .int .i64 x34_2] rfl (by (try simp only [List.map_toArray, List.map_cons, List.map_nil]); first | done | rfl | (simp only [List.length_drop, List.length_take]; rfl)) ?_; (with_reducible refine (auto_once.calls a0_0 _ _ l0_1 _ _ l0_2 x34_2 false _ ?side1 ?side2 ?side3 ?side4 A28.out).mono ?_); (case side1 => repeat (first | exact (Kd.C_below HR0_1.out HB.out) | (with_reducible refine Kd.C_alloc ?_ _) | (with_reducible refine Kd.C_drewN ?_ _) | (with_reducible refine Kd.C_drew ?_))); (case side2 => exact HC0_1.out); (case side3 => repeat (first | exact (Kd.C_below HR0_2.out HB.out) | (with_reducible refine Kd.C_alloc ?_ _) | (with_reducible refine Kd.C_drewN ?_ _) | (with_reducible refine Kd.C_drew ?_))); (case side4 => exact HC0_2.out); rintro e w33 ⟨rfl, hb⟩; refine ⟨_, rfl, ?_⟩; have n0_ := Aside0.mk (blk_below (g := gb110) (o := .cells #[.string a0_0, .slice A0_1 l0_1.length c0_1, .slice A0_2 l0_2.length c0_2] 25 (0, 0)) (by (with_reducible repeat (first | refine blk_drewN ?_ _ | refine blk_drew ?_ | refine blk_alloc ?_ _)); exact BK110.out) hb); have n1_ := Aside0.mk (below_step (by repeat (first | (with_reducible first | exact HB.out | apply below_alloc | apply pw_below_drewN | apply below_drew1 | refine below_set ?_ GE110.out) | exact HB.out)) hb); clear BK110; clear HB; have BK110 := n0_; have HB := n1_; clear n0_ n1_; (try clear hb); (try clear hb2); (try clear hk); (try clear hi)))
                  go_ret2
                  exact ⟨by first | rfl | (simp [errW_none, errW_some] <;> rfl) | (simp [*, errW_none, errW_some] <;> rfl), by repeat (first | (with_reducible first | exact HB.out | apply below_alloc | apply pw_below_drewN | apply below_drew1 | refine below_set ?_ GE110.out) | exact HB.out)⟩
              · rw [if_neg c27] at H
                have c27b0 : decide (x34_2 < (l0_2.length : Int)) = false := decide_eq_false c27
                clear c27
                have H' := Aside0.mk H
                clear H
                have hcz34_0 : wr.cell? ⟨gb110, 0, none⟩ = some (.string a0_0) := (blk_cell BK110.out 0).trans rfl
                have hcz34_1 : wr.cell? ⟨gb110, 1, none⟩ = some (.slice A0_1 l0_1.length c0_1) := (blk_cell BK110.out 1).trans rfl
                have hcz34_2 : wr.cell? ⟨gb110, 2, none⟩ = some (.slice A0_2 l0_2.length c0_2) := (blk_cell BK110.out 2).trans rfl
                have hfz34_0 := blk_frozen BK110.out 0
                have hfz34_1 := blk_frozen BK110.out 1
                have hfz34_2 := blk_frozen BK110.out 2
                go_wp2
                go_loopg [46] k2 (fun kq v46 w' => ∃ (x46_3 : Int), v46 = .int .i64 x46_3 ∧ Aside0 (auto_Wrong.l2 kq l0_2 (l0_2.length : Int) x46_3 a0_0 l0_1 l0_2 = some (r1, r2)) ∧ Aside0 (kq ≤ k2) ∧ Aside0 (w'.heap[gb110]? = some (.cells #[.string a0_0, (.slice A0_1 l0_1.length c0_1), (.slice A0_2 l0_2.length c0_2)] 25 (0, 0))) ∧ Aside0 (Below w.heap.size w w'))
                case atStart => exact ⟨(0), (by first | rfl | (simp; done) | (simp [*]; done)), H', ⟨Nat.le_refl _⟩, ⟨by (with_reducible repeat (first | refine blk_drewN ?_ _ | refine blk_drew ?_ | refine blk_alloc ?_ _)); exact BK110.out⟩, ⟨by repeat (first | (with_reducible first | exact HB.out | apply below_alloc | apply pw_below_drewN | apply below_drew1 | refine below_set ?_ GE110.out) | exact HB.out)⟩⟩
                case round =>
                  clear H'
                  try clear c1
                  try clear p1
                  try clear q1
                  try clear hx1
                  try clear c2
                  try clear p2
                  try clear c3
                  try clear c3b0
                  try clear c4
                  try clear c5
                  try clear p6
                  try clear c11
                  try clear c11b0
                  try clear p11
                  try clear q11
                  try clear hx11
                  try clear c12
                  try clear c12b0
                  try clear c13
                  try clear c13b0
                  try clear c14
                  try clear c15
                  try clear c17
                  try clear c22
                  try clear c27
                  try clear c27b0
                  try clear c29
                  try clear hcz10_0
                  try clear hcz10_1
                  try clear hcz10_2
                  try clear hcz18_0
                  try clear hcz18_1
                  try clear hcz18_2
                  try clear hcz19_0
                  try clear hcz19_1
                  try clear hcz19_2
                  try clear hcz23_0
                  try clear hcz23_1
                  try clear hcz23_2
                  try clear hcz24_0
                  try clear hcz24_1
                  try clear hcz24_2
                  try clear hcz26_0
                  try clear hcz26_1
                  try clear hcz26_2
                  try clear hcz30_0
                  try clear hcz30_1
                  try clear hcz30_2
                  try clear hcz32_0
                  try clear hcz32_1
                  try clear hcz32_2
                  try clear hcz34_0
                  try clear hcz34_1
                  try clear hcz34_2
                  try clear hcz5_0
                  try clear hcz5_1
                  try clear hcz5_2
                  try clear hcz8_0
                  try clear hcz8_1
                  try clear hcz8_2
                  try clear hfz10_0
                  try clear hfz10_1
                  try clear hfz10_2
                  try clear hfz18_0
                  try clear hfz18_1
                  try clear hfz18_2
                  try clear hfz19_0
                  try clear hfz19_1
                  try clear hfz19_2
                  try clear hfz23_0
                  try clear hfz23_1
                  try clear hfz23_2
                  try clear hfz24_0
                  try clear hfz24_1
                  try clear hfz24_2
                  try clear hfz26_0
                  try clear hfz26_1
                  try clear hfz26_2
                  try clear hfz30_0
                  try clear hfz30_1
                  try clear hfz30_2
                  try clear hfz32_0
                  try clear hfz32_1
                  try clear hfz32_2
                  try clear hfz34_0
                  try clear hfz34_1
                  try clear hfz34_2
                  try clear hfz5_0
                  try clear hfz5_1
                  try clear hfz5_2
                  try clear hfz8_0
                  try clear hfz8_1
                  try clear hfz8_2
                  try clear hx112_0
                  try clear hx112_1
                  try clear hx112_2
                  try clear p1
                  try clear p11
                  try clear p112
                  try clear p2
                  try clear p6
                  try clear q1
                  try clear q11
                  try clear q112
                  obtain ⟨x46_3, rfl, HA, HK3, BK110, HB⟩ := hrel
                  cases gk with
                  | zero => exact absurd HA.out (by simp [auto_Wrong.l2])
                  | succ k3 =>
                    have H := HA.out
                    clear HA
                    simp only [auto_Wrong.l2] at H
                    by_cases c35 : x46_3 < (l0_2.length : Int)
                    · rw [if_pos c35] at H
                      have c35b0 : decide (x46_3 < (l0_2.length : Int)) = true := decide_eq_true c35
                      clear c35
                      by_cases c36 : 0 ≤ x46_3
                      · rw [if_pos c36] at H
                        have c36b0 : decide (0 ≤ x46_3) = true := decide_eq_true c36
                        clear c36
                        by_cases c37 : x46_3 < (l0_2.length : Int)
                        · rw [if_pos c37] at H
                          have c37b0 : decide (x46_3 < (l0_2.length : Int)) = true := decide_eq_true c37
                          clear c37
                          by_cases c38 : 0 ≤ ((rd_T39 l0_2 x46_3).f1)
                          · rw [if_pos c38] at H
                            have c38b0 : decide (0 ≤ ((rd_T39 l0_2 x46_3).f1)) = true := decide_eq_true c38
                            clear c38
                            by_cases c39 : ((rd_T39 l0_2 x46_3).f1) < (l0_1.length : Int)
                            · rw [if_pos c39] at H
                              have c39b0 : decide (((rd_T39 l0_2 x46_3).f1) < (l0_1.length : Int)) = true := decide_eq_true c39
                              clear c39
                              obtain ⟨bq40, hbq40⟩ : ∃ b_ : Bool, b_ = ((rd_T62 l0_1 ((rd_T39 l0_2 x46_3).f1)).f1) := ⟨_, rfl⟩
                              replace H : (if bq40 = true then (some (4, x46_3)) else (auto_Wrong.l2 k3 l0_2 (l0_2.length : Int) (wrap64 (x46_3 + 1)) a0_0 l0_1 l0_2)) = some (r1, r2) := by rw [← hbq40] at H; exact H
                              have Nbq40 := Aside0.mk hbq40
                              clear hbq40
                              by_cases c41 : bq40 = true
                              · subst c41
                                have H1 : (some (4, x46_3)) = some (r1, r2) := by rw [if_pos rfl] at H; exact H
                                clear H
                                have H := H1
                                clear H1
                                simp only [Option.some.injEq, Prod.mk.injEq] at H
                                obtain ⟨rfl, rfl⟩ := H
                                have p116 : 0 ≤ (x46_3 : Int) := of_decide_eq_true (by first | (with_reducible assumption) | assumption)
                                have q116 : x46_3 < (l0_2.length : Int) := of_decide_eq_true (by first | (with_reducible assumption) | assumption)
                                obtain ⟨ad116, A116_2, c116_2, e116, hx116_0, hx116_1, hx116_2, hl116_2, hi116_2⟩ := at_T39 HR0_2.out x46_3 p116 q116
                                cases e116
                                replace hx116_0 := (HB.out.cell (World.block_lt_of_cell? w _ hx116_0)).trans hx116_0
                                replace hx116_1 := (HB.out.cell (World.block_lt_of_cell? w _ hx116_1)).trans hx116_1
                                replace hx116_2 := (HB.out.cell (World.block_lt_of_cell? w _ hx116_2)).trans hx116_2
                                have HR116_2 := Aside0.mk hi116_2
                                have HC116_2 := Aside0.mk hl116_2
                                clear hi116_2 hl116_2
                                replace p116 := eq_true p116
                                replace q116 := eq_true q116
                                go_wp2_with (first | ((with_reducible refine gate_dst (N := 9) rfl ?_); refine box_event ?hg (N := 9) ?hd (cs := #[.string (⟨#[]⟩ : ByteArray), .int .i64 0, .slice none 0 0]) (t := 39) ?hr ?_; (case hd => rfl); (case hg => rfl); (case hr => first | (go_simp; done) | (go_simp; rfl)); intro gb117 hg w42 hbox hb; have n0_ := Aside0.mk (blk_below (g := gb110) (o := .cells #[.string a0_0, .slice A0_1 l0_1.length c0_1, .slice (some ad116) l0_2.length c0_2] 25 (0, 0)) (by (with_reducible repeat (first | refine blk_drewN ?_ _ | refine blk_drew ?_ | refine blk_alloc ?_ _)); exact BK110.out) hb); have n1_ := Aside0.mk (below_step (by repeat (first | (with_reducible first | exact HB.out | apply below_alloc | apply pw_below_drewN | apply below_drew1 | refine below_set ?_ GE110.out) | exact HB.out)) hb); have n2_ := Aside0.mk (hbox); have n3_ := Aside0.mk ((by rw [hg]; exact (below_size (by repeat (first | (with_reducible first | exact HB.out | apply below_alloc | apply pw_below_drewN | apply below_drew1 | refine below_set ?_ GE110.out) | exact HB.out))) : w.heap.size ≤ gb117)); have n4_ := Aside0.mk ((by rw [hg]; exact (below_size (by repeat (first | (with_reducible first | exact HB.out | apply below_alloc | apply pw_below_drewN | apply below_drew1 | refine below_set ?_ GE110.out) | exact HB.out))) : w.heap.size ≤ gb117)); have n5_ := Aside0.mk ((by rw [hg]; exact Nat.ne_of_lt (blk_lt (g := gb110) (o := .cells #[.string a0_0, .slice A0_1 l0_1.length c0_1, .slice (some ad116) l0_2.length c0_2] 25 (0, 0)) (by (with_reducible repeat (first | refine blk_drewN ?_ _ | refine blk_drew ?_ | refine blk_alloc ?_ _)); exact BK110.out)) : gb110 ≠ gb117)); have n6_ := Aside0.mk ((by rw [hg]; exact Nat.ne_of_gt (blk_lt (g := gb110) (o := .cells #[.string a0_0, .slice A0_1 l0_1.length c0_1, .slice (some ad116) l0_2.length c0_2] 25 (0, 0)) (by (with_reducible repeat (first | refine blk_drewN ?_ _ | refine blk_drew ?_ | refine blk_alloc ?_ _)); exact BK110.out)) : gb117 ≠ gb110)); clear BK110; clear HB; have BK110 := n0_; have HB := n1_; have BK117 := n2_; have GW117 := n3_; have GE117 := n4_; have NB110_117 := n5_; have NB117_110 := n6_; clear n0_ n1_ n2_ n3_ n4_ n5_ n6_; clear hb hbox hg; have hnb43 := NB117_110.out; have hnc43 := NB110_117.out; have hcz44_0 : w42.cell? ⟨gb117, 0, none⟩ = some (.string (⟨#[]⟩ : ByteArray)) := (blk_cell BK117.out 0).trans rfl; have hcz44_1 : w42.cell? ⟨gb117, 1, none⟩ = some (.int .i64 0) := (blk_cell BK117.out 1).trans rfl; have hcz44_2 : w42.cell? ⟨gb117, 2, none⟩ = some (.slice none 0 0) := (blk_cell BK117.out 2).trans rfl; have hfz44_0 := blk_frozen BK117.out 0; have hfz44_1 := blk_frozen BK117.out 1; have hfz44_2 := blk_frozen BK117.out 2; have hcz45_0 : w42.cell? ⟨gb110, 0, none⟩ = some (.string a0_0) := (blk_cell BK110.out 0).trans rfl; have hcz45_1 : w42.cell? ⟨gb110, 1, none⟩ = some (.slice A0_1 l0_1.length c0_1) := (blk_cell BK110.out 1).trans rfl; have hcz45_2 : w42.cell? ⟨gb110, 2, none⟩ = some (.slice (some ad116) l0_2.length c0_2) := (blk_cell BK110.out 2).trans rfl; have hfz45_0 := blk_frozen BK110.out 0; have hfz45_1 := blk_frozen BK110.out 1; have hfz45_2 := blk_frozen BK110.out 2; have p118 : 0 ≤ (((rd_T39 l0_2 x46_3).f1) : Int) := of_decide_eq_true (by first | (with_reducible assumption) | assumption); have q118 : ((rd_T39 l0_2 x46_3).f1) < (l0_1.length : Int) := of_decide_eq_true (by first | (with_reducible assumption) | assumption); obtain ⟨ad118, e118, hx118_0, hx118_1⟩ := at_T62 HR0_1.out ((rd_T39 l0_2 x46_3).f1) p118 q118; (try rw [← Nbq40.out] at hx118_1); cases e118; have hn118_0 : ad118.block ≠ gb117 := Nat.ne_of_lt (Nat.lt_of_lt_of_le (by have := World.block_lt_of_cell? _ _ hx118_0; first | rwa [add_block] at this | exact this) GW117.out); have hn118_1 : ad118.block ≠ gb117 := Nat.ne_of_lt (Nat.lt_of_lt_of_le (by have := World.block_lt_of_cell? _ _ hx118_0; first | rwa [add_block] at this | exact this) GW117.out); have hn118_2 : ad118.block ≠ gb117 := Nat.ne_of_lt (Nat.lt_of_lt_of_le (by have := World.block_lt_of_cell? _ _ hx118_0; first | rwa [add_block] at this | exact this) GW117.out); replace hx118_0 := (HB.out.cell (World.block_lt_of_cell? w _ hx118_0)).trans hx118_0; replace hx118_1 := (HB.out.cell (World.block_lt_of_cell? w _ hx118_1)).trans hx118_1; replace hx118_0 := (cell_far (p := ⟨gb117, 0, none⟩) (by first | (rw [add_block]; exact hn118_0) | (show (Addr.add _ _).block ≠ _; rw [add_block]; exact hn118_0) | exact hn118_0) (.string ((rd_T39 l0_2 x46_3).f0))).trans hx118_0; replace hx118_1 := (cell_far (p := ⟨gb117, 0, none⟩) (by first | (rw [add_block]; exact hn118_0) | (show (Addr.add _ _).block ≠ _; rw [add_block]; exact hn118_0) | exact hn118_0) (.string ((rd_T39 l0_2 x46_3).f0))).trans hx118_1; replace hx118_0 := (cell_far (p := ⟨gb117, 1, none⟩) (by first | (rw [add_block]; exact hn118_1) | (show (Addr.add _ _).block ≠ _; rw [add_block]; exact hn118_1) | exact hn118_1) (.int .i64 ((rd_T39 l0_2 x46_3).f1))).trans hx118_0; replace hx118_1 := (cell_far (p := ⟨gb117, 1, none⟩) (by first | (rw [add_block]; exact hn118_1) | (show (Addr.add _ _).block ≠ _; rw [add_block]; exact hn118_1) | exact hn118_1) (.int .i64 ((rd_T39 l0_2 x46_3).f1))).trans hx118_1; replace hx118_0 := (cell_far (p := ⟨gb117, 2, none⟩) (by first | (rw [add_block]; exact hn118_2) | (show (Addr.add _ _).block ≠ _; rw [add_block]; exact hn118_2) | exact hn118_2) (.slice A116_2 ((rd_T39 l0_2 x46_3).f2).length c116_2)).trans hx118_0; replace hx118_1 := (cell_far (p := ⟨gb117, 2, none⟩) (by first | (rw [add_block]; exact hn118_2) | (show (Addr.add _ _).block ≠ _; rw [add_block]; exact hn118_2) | exact hn118_2) (.slice A116_2 ((rd_T39 l0_2 x46_3).f2).length c116_2)).trans hx118_1; clear hn118_0; clear hn118_1; clear hn118_2; replace p118 := eq_true p118; replace q118 := eq_true q118))
                                go_ret2
                                exact ⟨by first | rfl | (simp [errW_none, errW_some] <;> rfl) | (simp [*, errW_none, errW_some] <;> rfl), by repeat (first | (with_reducible first | exact HB.out | apply below_alloc | apply pw_below_drewN | apply below_drew1 | refine below_set ?_ GE110.out | refine below_set ?_ GE117.out) | exact HB.out)⟩
                              · replace c41 := Bool.eq_false_iff.mpr c41
                                subst c41
                                have H1 : (auto_Wrong.l2 k3 l0_2 (l0_2.length : Int) (wrap64 (x46_3 + 1)) a0_0 l0_1 l0_2) = some (r1, r2) := by rw [if_neg (show ¬ (false = true) by decide)] at H; exact H
                                clear H
                                have H := H1
                                clear H1
                                have H' := Aside0.mk H
                                clear H
                                have p116 : 0 ≤ (x46_3 : Int) := of_decide_eq_true (by first | (with_reducible assumption) | assumption)
                                have q116 : x46_3 < (l0_2.length : Int) := of_decide_eq_true (by first | (with_reducible assumption) | assumption)
                                obtain ⟨ad116, A116_2, c116_2, e116, hx116_0, hx116_1, hx116_2, hl116_2, hi116_2⟩ := at_T39 HR0_2.out x46_3 p116 q116
                                cases e116
                                replace hx116_0 := (HB.out.cell (World.block_lt_of_cell? w _ hx116_0)).trans hx116_0
                                replace hx116_1 := (HB.out.cell (World.block_lt_of_cell? w _ hx116_1)).trans hx116_1
                                replace hx116_2 := (HB.out.cell (World.block_lt_of_cell? w _ hx116_2)).trans hx116_2
                                have HR116_2 := Aside0.mk hi116_2
                                have HC116_2 := Aside0.mk hl116_2
                                clear hi116_2 hl116_2
                                replace p116 := eq_true p116
                                replace q116 := eq_true q116
                                go_wp2_with (first | ((with_reducible refine gate_dst (N := 9) rfl ?_); refine box_event ?hg (N := 9) ?hd (cs := #[.string (⟨#[]⟩ : ByteArray), .int .i64 0, .slice none 0 0]) (t := 39) ?hr ?_; (case hd => rfl); (case hg => rfl); (case hr => first | (go_simp; done) | (go_simp; rfl)); intro gb117 hg w46 hbox hb; have n0_ := Aside0.mk (blk_below (g := gb110) (o := .cells #[.string a0_0, .slice A0_1 l0_1.length c0_1, .slice (some ad116) l0_2.length c0_2] 25 (0, 0)) (by (with_reducible repeat (first | refine blk_drewN ?_ _ | refine blk_drew ?_ | refine blk_alloc ?_ _)); exact BK110.out) hb); have n1_ := Aside0.mk (below_step (by repeat (first | (with_reducible first | exact HB.out | apply below_alloc | apply pw_below_drewN | apply below_drew1 | refine below_set ?_ GE110.out) | exact HB.out)) hb); have n2_ := Aside0.mk (hbox); have n3_ := Aside0.mk ((by rw [hg]; exact (below_size (by repeat (first | (with_reducible first | exact HB.out | apply below_alloc | apply pw_below_drewN | apply below_drew1 | refine below_set ?_ GE110.out) | exact HB.out))) : w.heap.size ≤ gb117)); have n4_ := Aside0.mk ((by rw [hg]; exact (below_size (by repeat (first | (with_reducible first | exact HB.out | apply below_alloc | apply pw_below_drewN | apply below_drew1 | refine below_set ?_ GE110.out) | exact HB.out))) : w.heap.size ≤ gb117)); have n5_ := Aside0.mk ((by rw [hg]; exact Nat.ne_of_lt (blk_lt (g := gb110) (o := .cells #[.string a0_0, .slice A0_1 l0_1.length c0_1, .slice (some ad116) l0_2.length c0_2] 25 (0, 0)) (by (with_reducible repeat (first | refine blk_drewN ?_ _ | refine blk_drew ?_ | refine blk_alloc ?_ _)); exact BK110.out)) : gb110 ≠ gb117)); have n6_ := Aside0.mk ((by rw [hg]; exact Nat.ne_of_gt (blk_lt (g := gb110) (o := .cells #[.string a0_0, .slice A0_1 l0_1.length c0_1, .slice (some ad116) l0_2.length c0_2] 25 (0, 0)) (by (with_reducible repeat (first | refine blk_drewN ?_ _ | refine blk_drew ?_ | refine blk_alloc ?_ _)); exact BK110.out)) : gb117 ≠ gb110)); clear BK110; clear HB; have BK110 := n0_; have HB := n1_; have BK117 := n2_; have GW117 := n3_; have GE117 := n4_; have NB110_117 := n5_; have NB117_110 := n6_; clear n0_ n1_ n2_ n3_ n4_ n5_ n6_; clear hb hbox hg; have hnb47 := NB117_110.out; have hnc47 := NB110_117.out; have hcz48_0 : w46.cell? ⟨gb117, 0, none⟩ = some (.string (⟨#[]⟩ : ByteArray)) := (blk_cell BK117.out 0).trans rfl; have hcz48_1 : w46.cell? ⟨gb117, 1, none⟩ = some (.int .i64 0) := (blk_cell BK117.out 1).trans rfl; have hcz48_2 : w46.cell? ⟨gb117, 2, none⟩ = some (.slice none 0 0) := (blk_cell BK117.out 2).trans rfl; have hfz48_0 := blk_frozen BK117.out 0; have hfz48_1 := blk_frozen BK117.out 1; have hfz48_2 := blk_frozen BK117.out 2; have hcz49_0 : w46.cell? ⟨gb110, 0, none⟩ = some (.string a0_0) := (blk_cell BK110.out 0).trans rfl; have hcz49_1 : w46.cell? ⟨gb110, 1, none⟩ = some (.slice A0_1 l0_1.length c0_1) := (blk_cell BK110.out 1).trans rfl; have hcz49_2 : w46.cell? ⟨gb110, 2, none⟩ = some (.slice (some ad116) l0_2.length c0_2) := (blk_cell BK110.out 2).trans rfl; have hfz49_0 := blk_frozen BK110.out 0; have hfz49_1 := blk_frozen BK110.out 1; have hfz49_2 := blk_frozen BK110.out 2; have p118 : 0 ≤ (((rd_T39 l0_2 x46_3).f1) : Int) := of_decide_eq_true (by first | (with_reducible assumption) | assumption); have q118 : ((rd_T39 l0_2 x46_3).f1) < (l0_1.length : Int) := of_decide_eq_true (by first | (with_reducible assumption) | assumption); obtain ⟨ad118, e118, hx118_0, hx118_1⟩ := at_T62 HR0_1.out ((rd_T39 l0_2 x46_3).f1) p118 q118; (try rw [← Nbq40.out] at hx118_1); cases e118; have hn118_0 : ad118.block ≠ gb117 := Nat.ne_of_lt (Nat.lt_of_lt_of_le (by have := World.block_lt_of_cell? _ _ hx118_0; first | rwa [add_block] at this | exact this) GW117.out); have hn118_1 : ad118.block ≠ gb117 := Nat.ne_of_lt (Nat.lt_of_lt_of_le (by have := World.block_lt_of_cell? _ _ hx118_0; first | rwa [add_block] at this | exact this) GW117.out); have hn118_2 : ad118.block ≠ gb117 := Nat.ne_of_lt (Nat.lt_of_lt_of_le (by have := World.block_lt_of_cell? _ _ hx118_0; first | rwa [add_block] at this | exact this) GW117.out); replace hx118_0 := (HB.out.cell (World.block_lt_of_cell? w _ hx118_0)).trans hx118_0; replace hx118_1 := (HB.out.cell (World.block_lt_of_cell? w _ hx118_1)).trans hx118_1; replace hx118_0 := (cell_far (p := ⟨gb117, 0, none⟩) (by first | (rw [add_block]; exact hn118_0) | (show (Addr.add _ _).block ≠ _; rw [add_block]; exact hn118_0) | exact hn118_0) (.string ((rd_T39 l0_2 x46_3).f0))).trans hx118_0; replace hx118_1 := (cell_far (p := ⟨gb117, 0, none⟩) (by first | (rw [add_block]; exact hn118_0) | (show (Addr.add _ _).block ≠ _; rw [add_block]; exact hn118_0) | exact hn118_0) (.string ((rd_T39 l0_2 x46_3).f0))).trans hx118_1; replace hx118_0 := (cell_far (p := ⟨gb117, 1, none⟩) (by first | (rw [add_block]; exact hn118_1) | (show (Addr.add _ _).block ≠ _; rw [add_block]; exact hn118_1) | exact hn118_1) (.int .i64 ((rd_T39 l0_2 x46_3).f1))).trans hx118_0; replace hx118_1 := (cell_far (p := ⟨gb117, 1, none⟩) (by first | (rw [add_block]; exact hn118_1) | (show (Addr.add _ _).block ≠ _; rw [add_block]; exact hn118_1) | exact hn118_1) (.int .i64 ((rd_T39 l0_2 x46_3).f1))).trans hx118_1; replace hx118_0 := (cell_far (p := ⟨gb117, 2, none⟩) (by first | (rw [add_block]; exact hn118_2) | (show (Addr.add _ _).block ≠ _; rw [add_block]; exact hn118_2) | exact hn118_2) (.slice A116_2 ((rd_T39 l0_2 x46_3).f2).length c116_2)).trans hx118_0; replace hx118_1 := (cell_far (p := ⟨gb117, 2, none⟩) (by first | (rw [add_block]; exact hn118_2) | (show (Addr.add _ _).block ≠ _; rw [add_block]; exact hn118_2) | exact hn118_2) (.slice A116_2 ((rd_T39 l0_2 x46_3).f2).length c116_2)).trans hx118_1; clear hn118_0; clear hn118_1; clear hn118_2; replace p118 := eq_true p118; replace q118 := eq_true q118))
                                go_roundg k3
                                case measure => have := HK1.out; have := HK2.out; have := HK3.out; omega
                                case rel => exact ⟨(wrap64 (x46_3 + 1)), (by first | rfl | (simp; done) | (simp [*]; done)), H', ⟨by have := HK1.out; have := HK2.out; have := HK3.out; omega⟩, ⟨by (with_reducible repeat (first | refine blk_drewN ?_ _ | refine blk_drew ?_ | refine blk_alloc ?_ _)); refine blk_far ?_ NB110_117.out _; (with_reducible repeat (first | refine blk_drewN ?_ _ | refine blk_drew ?_ | refine blk_alloc ?_ _)); refine blk_far ?_ NB110_117.out _; (with_reducible repeat (first | refine blk_drewN ?_ _ | refine blk_drew ?_ | refine blk_alloc ?_ _)); refine blk_far ?_ NB110_117.out _; (with_reducible repeat (first | refine blk_drewN ?_ _ | refine blk_drew ?_ | refine blk_alloc ?_ _)); exact BK110.out⟩, ⟨by repeat (first | (with_reducible first | exact HB.out | apply below_alloc | apply pw_below_drewN | apply below_drew1 | refine below_set ?_ GE110.out | refine below_set ?_ GE117.out) | exact HB.out)⟩⟩
                            · rw [if_neg c39] at H
                              exact absurd H (by simp)
                          · rw [if_neg c38] at H
                            exact absurd H (by simp)
                        · rw [if_neg c37] at H
                          exact absurd H (by simp)
                      · rw [if_neg c36] at H
                        exact absurd H (by simp)
                    · rw [if_neg c35] at H
                      have c35b0 : decide (x46_3 < (l0_2.length : Int)) = false := decide_eq_false c35
                      clear c35
                      replace H := Option.bind_eq_some_iff.mp H
                      obtain ⟨t119, A500, H⟩ := H
                      replace H : (auto_Wrong.l3 k3 t119 (l0_1.length : Int) 0) = some (r1, r2) := H
                      have A50 := Aside0.mk A500
                      clear A500
                      have H' := Aside0.mk H
                      clear H
                      have hcz51_0 : wr.cell? ⟨gb110, 0, none⟩ = some (.string a0_0) := (blk_cell BK110.out 0).trans rfl
                      have hcz51_1 : wr.cell? ⟨gb110, 1, none⟩ = some (.slice A0_1 l0_1.length c0_1) := (blk_cell BK110.out 1).trans rfl
                      have hcz51_2 : wr.cell? ⟨gb110, 2, none⟩ = some (.slice A0_2 l0_2.length c0_2) := (blk_cell BK110.out 2).trans rfl
                      have hfz51_0 := blk_frozen BK110.out 0
                      have hfz51_1 := blk_frozen BK110.out 1
                      have hfz51_2 := blk_frozen BK110.out 2
                      go_wp2_with (first | ((with_reducible refine gate_callee (f := 52) rfl ?_); refine goesL_ (some 61) rfl rfl Try.func52 (by kernel_rfl) rfl #[.agg #[.string a0_0, .slice A0_1 l0_1.length c0_1, .slice A0_2 l0_2.length c0_2]] rfl (by (try simp only [List.map_toArray, List.map_cons, List.map_nil]); first | done | rfl | (simp only [List.length_drop, List.length_take]; rfl)) ?_; (with_reducible refine (auto_ends.calls k3 a0_0 _ _ l0_1 _ _ l0_2 t119 _ ?side1 ?side2 ?side3 ?side4 A50.out).mono ?_); (case side1 => repeat (first | exact (Kd.C_below HR0_1.out HB.out) | (with_reducible refine Kd.C_alloc ?_ _) | (with_reducible refine Kd.C_drewN ?_ _) | (with_reducible refine Kd.C_drew ?_))); (case side2 => exact HC0_1.out); (case side3 => repeat (first | exact (Kd.C_below HR0_2.out HB.out) | (with_reducible refine Kd.C_alloc ?_ _) | (with_reducible refine Kd.C_drewN ?_ _) | (with_reducible refine Kd.C_drew ?_))); (case side4 => exact HC0_2.out); rintro e w52 ⟨rfl, hb⟩; refine ⟨_, rfl, ?_⟩; have n0_ := Aside0.mk (blk_below (g := gb110) (o := .cells #[.string a0_0, .slice A0_1 l0_1.length c0_1, .slice A0_2 l0_2.length c0_2] 25 (0, 0)) (by (with_reducible repeat (first | refine blk_drewN ?_ _ | refine blk_drew ?_ | refine blk_alloc ?_ _)); exact BK110.out) hb); have n1_ := Aside0.mk (below_step (by repeat (first | (with_reducible first | exact HB.out | apply below_alloc | apply pw_below_drewN | apply below_drew1 | refine below_set ?_ GE110.out) | exact HB.out)) hb); clear BK110; clear HB; have BK110 := n0_; have HB := n1_; clear n0_ n1_; (try clear hb); (try clear hb2); (try clear hk); (try clear hi); have hcz53_0 : w52.cell? ⟨gb110, 0, none⟩ = some (.string a0_0) := (blk_cell BK110.out 0).trans rfl; have hcz53_1 : w52.cell? ⟨gb110, 1, none⟩ = some (.slice A0_1 l0_1.length c0_1) := (blk_cell BK110.out 1).trans rfl; have hcz53_2 : w52.cell? ⟨gb110, 2, none⟩ = some (.slice A0_2 l0_2.length c0_2) := (blk_cell BK110.out 2).trans rfl; have hfz53_0 := blk_frozen BK110.out 0; have hfz53_1 := blk_frozen BK110.out 1; have hfz53_2 := blk_frozen BK110.out 2))
                      go_loopg [65] k3 (fun kq v65 w' => ∃ (x65_4 : Int), v65 = .int .i64 x65_4 ∧ Aside0 (auto_Wrong.l3 kq t119 (l0_1.length : Int) x65_4 = some (r1, r2)) ∧ Aside0 (kq ≤ k3) ∧ Aside0 (w'.heap[gb110]? = some (.cells #[.string a0_0, (.slice A0_1 l0_1.length c0_1), (.slice A0_2 l0_2.length c0_2)] 25 (0, 0))) ∧ Aside0 (Below w.heap.size w w'))
                      case atStart => exact ⟨(0), (by first | rfl | (simp; done) | (simp [*]; done)), H', ⟨Nat.le_refl _⟩, ⟨by (with_reducible repeat (first | refine blk_drewN ?_ _ | refine blk_drew ?_ | refine blk_alloc ?_ _)); exact BK110.out⟩, ⟨by repeat (first | (with_reducible first | exact HB.out | apply below_alloc | apply pw_below_drewN | apply below_drew1 | refine below_set ?_ GE110.out) | exact HB.out)⟩⟩
                      case round =>
                        clear H'
                        try clear c1
                        try clear p1
                        try clear q1
                        try clear hx1
                        try clear c2
                        try clear p2
                        try clear c3
                        try clear c3b0
                        try clear c4
                        try clear q4
                        try clear c5
                        try clear p6
                        try clear c11
                        try clear c11b0
                        try clear p11
                        try clear q11
                        try clear hx11
                        try clear c12
                        try clear c12b0
                        try clear c13
                        try clear c13b0
                        try clear c14
                        try clear c15
                        try clear c17
                        try clear c22
                        try clear c27
                        try clear c27b0
                        try clear c29
                        try clear c35
                        try clear c35b0
                        try clear c36
                        try clear c36b0
                        try clear c37
                        try clear c37b0
                        try clear c38
                        try clear c38b0
                        try clear c39
                        try clear c39b0
                        try clear q40
                        try clear c41
                        try clear c43
                        try clear c47
                        try clear c49
                        try clear c50
                        try clear c51
                        try clear c52
                        try clear hcz10_0
                        try clear hcz10_1
                        try clear hcz10_2
                        try clear hcz18_0
                        try clear hcz18_1
                        try clear hcz18_2
                        try clear hcz19_0
                        try clear hcz19_1
                        try clear hcz19_2
                        try clear hcz23_0
                        try clear hcz23_1
                        try clear hcz23_2
                        try clear hcz24_0
                        try clear hcz24_1
                        try clear hcz24_2
                        try clear hcz26_0
                        try clear hcz26_1
                        try clear hcz26_2
                        try clear hcz30_0
                        try clear hcz30_1
                        try clear hcz30_2
                        try clear hcz32_0
                        try clear hcz32_1
                        try clear hcz32_2
                        try clear hcz34_0
                        try clear hcz34_1
                        try clear hcz34_2
                        try clear hcz44_0
                        try clear hcz44_1
                        try clear hcz44_2
                        try clear hcz45_0
                        try clear hcz45_1
                        try clear hcz45_2
                        try clear hcz48_0
                        try clear hcz48_1
                        try clear hcz48_2
                        try clear hcz49_0
                        try clear hcz49_1
                        try clear hcz49_2
                        try clear hcz51_0
                        try clear hcz51_1
                        try clear hcz51_2
                        try clear hcz53_0
                        try clear hcz53_1
                        try clear hcz53_2
                        try clear hcz5_0
                        try clear hcz5_1
                        try clear hcz5_2
                        try clear hcz8_0
                        try clear hcz8_1
                        try clear hcz8_2
                        try clear hfz10_0
                        try clear hfz10_1
                        try clear hfz10_2
                        try clear hfz18_0
                        try clear hfz18_1
                        try clear hfz18_2
                        try clear hfz19_0
                        try clear hfz19_1
                        try clear hfz19_2
                        try clear hfz23_0
                        try clear hfz23_1
                        try clear hfz23_2
                        try clear hfz24_0
                        try clear hfz24_1
                        try clear hfz24_2
                        try clear hfz26_0
                        try clear hfz26_1
                        try clear hfz26_2
                        try clear hfz30_0
                        try clear hfz30_1
                        try clear hfz30_2
                        try clear hfz32_0
                        try clear hfz32_1
                        try clear hfz32_2
                        try clear hfz34_0
                        try clear hfz34_1
                        try clear hfz34_2
                        try clear hfz44_0
                        try clear hfz44_1
                        try clear hfz44_2
                        try clear hfz45_0
                        try clear hfz45_1
                        try clear hfz45_2
                        try clear hfz48_0
                        try clear hfz48_1
                        try clear hfz48_2
                        try clear hfz49_0
                        try clear hfz49_1
                        try clear hfz49_2
                        try clear hfz51_0
                        try clear hfz51_1
                        try clear hfz51_2
                        try clear hfz53_0
                        try clear hfz53_1
                        try clear hfz53_2
                        try clear hfz5_0
                        try clear hfz5_1
                        try clear hfz5_2
                        try clear hfz8_0
                        try clear hfz8_1
                        try clear hfz8_2
                        try clear hx112_0
                        try clear hx112_1
                        try clear hx112_2
                        try clear hx116_0
                        try clear hx116_1
                        try clear hx116_2
                        try clear hx118_0
                        try clear hx118_1
                        try clear p1
                        try clear p11
                        try clear p112
                        try clear p116
                        try clear p118
                        try clear p2
                        try clear p6
                        try clear q1
                        try clear q11
                        try clear q112
                        try clear q116
                        try clear q118
                        obtain ⟨x65_4, rfl, HA, HK4, BK110, HB⟩ := hrel
                        cases gk with
                        | zero => exact absurd HA.out (by simp [auto_Wrong.l3])
                        | succ k4 =>
                          have H := HA.out
                          clear HA
                          simp only [auto_Wrong.l3] at H
                          by_cases c54 : x65_4 < (l0_1.length : Int)
                          · rw [if_pos c54] at H
                            have c54b0 : decide (x65_4 < (l0_1.length : Int)) = true := decide_eq_true c54
                            clear c54
                            by_cases c55 : 0 ≤ x65_4
                            · rw [if_pos c55] at H
                              have c55b0 := eq_true c55
                              have c55b1 : decide (0 ≤ x65_4) = true := decide_eq_true c55
                              clear c55
                              obtain ⟨ji56, hji56⟩ : ∃ j_ : Int, (shr .u32 t119 x65_4) = j_ := ⟨_, rfl⟩
                              replace H : (if (Go.bits .and .u32 (ji56) 1) = 0 then (some (5, x65_4)) else (auto_Wrong.l3 k4 t119 (l0_1.length : Int) (wrap64 (x65_4 + 1)))) = some (r1, r2) := by first | (rw [hji56] at H; exact H) | (simp only [hji56] at H ⊢; exact H)
                              have hji56_ : (t119 / 2 ^ min x65_4.toNat 32) = ji56 := hji56
                              have hji56z : x65_4 ≤ 32 → (t119 / 2 ^ x65_4.toNat) = ji56 := shr_small hji56
                              by_cases c57 : (Go.bits .and .u32 (ji56) 1) = 0
                              · rw [if_pos c57] at H
                                have c57b0 : ((Go.bits .and .u32 (ji56) 1) == 0) = true := beq_iff_eq.mpr c57
                                have c57b1 : ((Go.bits .and .u32 (ji56) 1) != 0) = false := bne_eq_false_iff_eq.mpr c57
                                clear c57
                                simp only [Option.some.injEq, Prod.mk.injEq] at H
                                obtain ⟨rfl, rfl⟩ := H
                                go_wp2
                                go_ret2
                                exact ⟨by first | rfl | (simp [errW_none, errW_some] <;> rfl) | (simp only [← hji56]; first | rfl | (simp [errW_none, errW_some] <;> rfl)) | (simp [*, errW_none, errW_some] <;> rfl), by repeat (first | (with_reducible first | exact HB.out | apply below_alloc | apply pw_below_drewN | apply below_drew1 | refine below_set ?_ GE110.out) | exact HB.out)⟩
                              · rw [if_neg c57] at H
                                have c57b0 : ((Go.bits .and .u32 (ji56) 1) == 0) = false := beq_eq_false_iff_ne.mpr c57
                                have c57b1 : ((Go.bits .and .u32 (ji56) 1) != 0) = true := bne_iff_ne.mpr c57
                                have H' := Aside0.mk H
                                clear H
                                go_wp2
                                go_roundg k4
                                case measure => have := HK1.out; have := HK2.out; have := HK3.out; have := HK4.out; omega
                                case rel => exact ⟨(wrap64 (x65_4 + 1)), (by first | rfl | (simp; done) | (simp [*]; done)), H', ⟨by have := HK1.out; have := HK2.out; have := HK3.out; have := HK4.out; omega⟩, ⟨by (with_reducible repeat (first | refine blk_drewN ?_ _ | refine blk_drew ?_ | refine blk_alloc ?_ _)); exact BK110.out⟩, ⟨by repeat (first | (with_reducible first | exact HB.out | apply below_alloc | apply pw_below_drewN | apply below_drew1 | refine below_set ?_ GE110.out) | exact HB.out)⟩⟩
                            · rw [if_neg c55] at H
                              exact absurd H (by simp)
                          · rw [if_neg c54] at H
                            have c54b0 : decide (x65_4 < (l0_1.length : Int)) = false := decide_eq_false c54
                            clear c54
                            simp only [Option.some.injEq, Prod.mk.injEq] at H
                            obtain ⟨rfl, rfl⟩ := H
                            go_wp2
                            go_ret2
                            exact ⟨by first | rfl | (simp [errW_none, errW_some] <;> rfl) | (simp [*, errW_none, errW_some] <;> rfl), by repeat (first | (with_reducible first | exact HB.out | apply below_alloc | apply pw_below_drewN | apply below_drew1 | refine below_set ?_ GE110.out) | exact HB.out)⟩

end Go.Proofs.Ytkgcfgoaabkcpaa.Pa
