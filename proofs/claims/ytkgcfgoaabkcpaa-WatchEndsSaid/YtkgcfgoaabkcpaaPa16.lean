-- PRINTED by print.py (a twelfth state) out of the translation. Not trusted: Lean checks it.
import Derived.Test.YtkgcfgoaabkcpaaB1
import Derived.Test.YtkgcfgoaabkcpaaPa12
namespace Go.Proofs.Ytkgcfgoaabkcpaa.Pa
open Go.RowKit Go.Proofs.YtkgcfgoaabkcpaaW.PrintWords Go.Proofs.YtkgcfgoaabkcpaaW.PrintLast Go.Proofs.YtkgcfgoaabkcpaaW.PrintMore
attribute [local go_sem] max2_int min2_int max_two min_two max_three min_three max_four min_four   -- for this text's walks alone
set_option linter.unusedVariables false
set_option linter.unusedSimpArgs false

/-! ### ballcockref09_Outcomes: function 29 -/
mutual
def ballcockref09_Outcomes.l0 : Nat → ByteArray → List ByteArray → Int → ByteArray → List (S62) → List (S39) → Option (List ByteArray)
  | 0, _, _, _, _, _, _ => none
  | k + 1, x1, x5, x6, x195000, x195001, x195002 => if x6 < (x195002.length : Int) then (ballcockref09_Outcomes.l1 k x1 x5 x6 0 x195000 x195001 x195002) else (some x5)
def ballcockref09_Outcomes.l1 : Nat → ByteArray → List ByteArray → Int → Int → ByteArray → List (S62) → List (S39) → Option (List ByteArray)
  | 0, _, _, _, _, _, _, _ => none
  | k + 1, x1, x5, x6, x7, x195000, x195001, x195002 => if 0 ≤ x6 then (if x6 < (x195002.length : Int) then (if x7 < (((rd_T39 x195002 x6).f2).length : Int) then (if ((rd_T39 x195002 x6).f0).toList = x1.toList then (if 0 ≤ x7 then ((ballcockref09_add.f k x5 ((rd_T42 ((rd_T39 x195002 x6).f2) x7).f0)).bind fun t199 => (ballcockref09_Outcomes.l1 k x1 t199 x6 (wrap64 (x7 + 1)) x195000 x195001 x195002)) else (none)) else (ballcockref09_Outcomes.l0 k x1 x5 (wrap64 (x6 + 1)) x195000 x195001 x195002)) else (ballcockref09_Outcomes.l0 k x1 x5 (wrap64 (x6 + 1)) x195000 x195001 x195002)) else (none)) else (none)
end
def ballcockref09_Outcomes.f (k : Nat) (a0_0 : ByteArray) (l0_1 : List (S62)) (l0_2 : List (S39)) (a1 : ByteArray) : Option (List ByteArray) := ballcockref09_Outcomes.l0 k a1 ([] : List ByteArray) 0 a0_0 l0_1 l0_2
theorem ballcockref09_Outcomes.mono_l : ∀ k, (∀ y0 y1 y2 y3 y4 y5, LeO (ballcockref09_Outcomes.l0 k y0 y1 y2 y3 y4 y5) (ballcockref09_Outcomes.l0 (k + 1) y0 y1 y2 y3 y4 y5)) ∧ (∀ y0 y1 y2 y3 y4 y5 y6, LeO (ballcockref09_Outcomes.l1 k y0 y1 y2 y3 y4 y5 y6) (ballcockref09_Outcomes.l1 (k + 1) y0 y1 y2 y3 y4 y5 y6))
  | 0 => ⟨fun _ _ _ _ _ _ r h => by simp [ballcockref09_Outcomes.l0] at h, fun _ _ _ _ _ _ _ r h => by simp [ballcockref09_Outcomes.l1] at h⟩
  | k + 1 => by
    obtain ⟨ih0, ih1⟩ := ballcockref09_Outcomes.mono_l k
    refine ⟨?_, ?_⟩
    · intro y0 y1 y2 y3 y4 y5
      unfold ballcockref09_Outcomes.l0
      repeat' first
      | (with_reducible exact ih0 _ _ _ _ _ _)
      | (with_reducible exact ih1 _ _ _ _ _ _ _)
      | (with_reducible exact ballcockref09_add.mono _ _ _)
      | (with_reducible exact LeO.refl _)
      | (with_reducible exact LeO.none _)
      | (with_reducible refine LeO.ite ?_ ?_)
      | (with_reducible refine LeO.bind ?_ (fun _ => ?_))
      | exact ih0 _ _ _ _ _ _
      | exact ih1 _ _ _ _ _ _ _
      | exact ballcockref09_add.mono _ _ _
      | exact LeO.none _
      | refine LeO.ite ?_ ?_
      | refine LeO.bind ?_ (fun _ => ?_)
    · intro y0 y1 y2 y3 y4 y5 y6
      unfold ballcockref09_Outcomes.l1
      repeat' first
      | (with_reducible exact ih0 _ _ _ _ _ _)
      | (with_reducible exact ih1 _ _ _ _ _ _ _)
      | (with_reducible exact ballcockref09_add.mono _ _ _)
      | (with_reducible exact LeO.refl _)
      | (with_reducible exact LeO.none _)
      | (with_reducible refine LeO.ite ?_ ?_)
      | (with_reducible refine LeO.bind ?_ (fun _ => ?_))
      | exact ih0 _ _ _ _ _ _
      | exact ih1 _ _ _ _ _ _ _
      | exact ballcockref09_add.mono _ _ _
      | exact LeO.none _
      | refine LeO.ite ?_ ?_
      | refine LeO.bind ?_ (fun _ => ?_)
theorem ballcockref09_Outcomes.mono : ∀ a0 a1 a2 a3 k, LeO (ballcockref09_Outcomes.f k a0 a1 a2 a3) (ballcockref09_Outcomes.f (k + 1) a0 a1 a2 a3) := by
  intro a0 a1 a2 a3 k
  obtain ⟨ih0, ih1⟩ := ballcockref09_Outcomes.mono_l k
  unfold ballcockref09_Outcomes.f
  repeat' first
      | (with_reducible exact ih0 _ _ _ _ _ _)
      | (with_reducible exact ih1 _ _ _ _ _ _ _)
      | (with_reducible exact ballcockref09_add.mono _ _ _)
      | (with_reducible exact LeO.refl _)
      | (with_reducible exact LeO.none _)
      | (with_reducible refine LeO.ite ?_ ?_)
      | (with_reducible refine LeO.bind ?_ (fun _ => ?_))
      | exact ih0 _ _ _ _ _ _
      | exact ih1 _ _ _ _ _ _ _
      | exact ballcockref09_add.mono _ _ _
      | exact LeO.none _
      | refine LeO.ite ?_ ?_
      | refine LeO.bind ?_ (fun _ => ?_)
set_option maxHeartbeats 8000000 in
set_option maxRecDepth 100000 in
theorem ballcockref09_Outcomes.calls (k : Nat) (a0_0 : ByteArray) (A0_1 : Option Addr) (c0_1 : Nat) (l0_1 : List (S62)) (A0_2 : Option Addr) (c0_2 : Nat) (l0_2 : List (S39)) (a1 : ByteArray) (r : List ByteArray) (w : World) (hr0_1 : Kd.C k62 w A0_1 l0_1.length l0_1) (hc0_1 : l0_1.length ≤ c0_1) (hr0_2 : Kd.C k39 w A0_2 l0_2.length l0_2) (hc0_2 : l0_2.length ≤ c0_2) (h : ballcockref09_Outcomes.f k a0_0 l0_1 l0_2 a1 = some r) :
    Calls Try.prog 29 #[.agg #[.string a0_0, .slice A0_1 l0_1.length c0_1, .slice A0_2 l0_2.length c0_2], .string a1] w fun e w' => ∃ v0_ : Value, e = .returned (v0_) ∧ Kd.R Kd.string 9 w' w.heap.size (fun _ => True) v0_ r ∧ Below w.heap.size w w' := by
  have hu25 := Try.underlying25
  have HR0_1 := Aside0.mk hr0_1
  have HC0_1 := Aside0.mk hc0_1
  clear hr0_1 hc0_1
  have HR0_2 := Aside0.mk hr0_2
  have HC0_2 := Aside0.mk hc0_2
  clear hr0_2 hc0_2
  have HB := Aside0.mk (Below.refl w.heap.size w)
  have H : (ballcockref09_Outcomes.l0 k a1 ([] : List ByteArray) 0 a0_0 l0_1 l0_2) = some r := h
  clear h
  have H' := Aside0.mk H
  clear H
  go_enter Try.func29, Try.ntmps29
  go_wp2_with (first | ((with_reducible refine gate_dst (N := 2) rfl ?_); refine box_event ?hg (N := 2) ?hd (cs := #[.string a0_0, .slice A0_1 l0_1.length c0_1, .slice A0_2 l0_2.length c0_2]) (t := 25) ?hr ?_; (case hd => rfl); (case hg => rfl); (case hr => first | (go_simp; done) | (go_simp; rfl)); intro gb194 hg w3 hbox hb; have n0_ := Aside0.mk (below_step (by repeat (first | (with_reducible first | exact HB.out | apply below_alloc | apply pw_below_drewN | apply below_drew1) | exact HB.out)) hb); have n1_ := Aside0.mk (hbox); have n2_ := Aside0.mk ((by rw [hg]; exact (below_size (by repeat (first | (with_reducible first | exact HB.out | apply below_alloc | apply pw_below_drewN | apply below_drew1) | exact HB.out))) : w.heap.size ≤ gb194)); have n3_ := Aside0.mk ((by rw [hg]; exact (below_size (by repeat (first | (with_reducible first | exact HB.out | apply below_alloc | apply pw_below_drewN | apply below_drew1) | exact HB.out))) : w.heap.size ≤ gb194)); clear HB; have HB := n0_; have BK194 := n1_; have GW194 := n2_; have GE194 := n3_; clear n0_ n1_ n2_ n3_; clear hb hbox hg))
  go_loopg [5, 6] k (fun kq v5 v6 w' => ∃ (x5_1 : List ByteArray) (x6_1 : Int), v6 = .int .i64 x6_1 ∧ Aside0 (ballcockref09_Outcomes.l0 kq a1 x5_1 x6_1 a0_0 l0_1 l0_2 = some r) ∧ Aside0 (kq ≤ k) ∧ Aside0 (Kd.R Kd.string 9 w' w.heap.size (fun _ => True) v5 x5_1) ∧ Aside0 (w'.heap[gb194]? = some (.cells #[.string a0_0, (.slice A0_1 l0_1.length c0_1), (.slice A0_2 l0_2.length c0_2)] 25 (0, 0))) ∧ Aside0 (Below w.heap.size w w'))
  case atStart => exact ⟨(([] : List ByteArray)), (0), (by first | rfl | (simp; done) | (simp [*]; done)), H', ⟨Nat.le_refl _⟩, ⟨by first | exact Kd.R_nil _ _ _ _ _ | exact Kd.N_nil _ _ _ _ _ | exact Kd.V_nil _ _ _ _ _ | exact Kd.Q_nil _ _ _ _ _ | exact Kd.S_nil _ _ _ _ _⟩, ⟨by (with_reducible repeat (first | refine blk_drewN ?_ _ | refine blk_drew ?_ | refine blk_alloc ?_ _)); exact BK194.out⟩, ⟨by repeat (first | (with_reducible first | exact HB.out | apply below_alloc | apply pw_below_drewN | apply below_drew1 | refine below_set ?_ GE194.out) | exact HB.out)⟩⟩
  case round =>
    clear H'
    try clear c2
    try clear p2
    obtain ⟨x5_1, x6_1, rfl, HA, HK1, HO_5, BK194, HB⟩ := hrel
    cases gk with
    | zero => exact absurd HA.out (by simp [ballcockref09_Outcomes.l0])
    | succ k1 =>
      have H := HA.out
      clear HA
      simp only [ballcockref09_Outcomes.l0] at H
      by_cases c4 : x6_1 < (l0_2.length : Int)
      · rw [if_pos c4] at H
        have c4b0 : decide (x6_1 < (l0_2.length : Int)) = true := decide_eq_true c4
        clear c4
        have H' := Aside0.mk H
        clear H
        have hcz5_0 : wr.cell? ⟨gb194, 0, none⟩ = some (.string a0_0) := (blk_cell BK194.out 0).trans rfl
        have hcz5_1 : wr.cell? ⟨gb194, 1, none⟩ = some (.slice A0_1 l0_1.length c0_1) := (blk_cell BK194.out 1).trans rfl
        have hcz5_2 : wr.cell? ⟨gb194, 2, none⟩ = some (.slice A0_2 l0_2.length c0_2) := (blk_cell BK194.out 2).trans rfl
        have hfz5_0 := blk_frozen BK194.out 0
        have hfz5_1 := blk_frozen BK194.out 1
        have hfz5_2 := blk_frozen BK194.out 2
        go_wp2
        go_loopg [5, 7] k1 (fun kq v5 v7 w' => ∃ (x5_2 : List ByteArray) (x7_2 : Int), v7 = .int .i64 x7_2 ∧ Aside0 (ballcockref09_Outcomes.l1 kq a1 x5_2 x6_1 x7_2 a0_0 l0_1 l0_2 = some r) ∧ Aside0 (kq ≤ k1) ∧ Aside0 (Kd.R Kd.string 9 w' w.heap.size (fun _ => True) v5 x5_2) ∧ Aside0 (w'.heap[gb194]? = some (.cells #[.string a0_0, (.slice A0_1 l0_1.length c0_1), (.slice A0_2 l0_2.length c0_2)] 25 (0, 0))) ∧ Aside0 (Below w.heap.size w w'))
        case atStart => exact ⟨(x5_1), (0), (by first | rfl | (simp; done) | (simp [*]; done)), H', ⟨Nat.le_refl _⟩, ⟨by (with_reducible repeat (first | apply Kd.R_alloc | apply Kd.R_drewN | apply Kd.R_drew)); exact HO_5.out⟩, ⟨by (with_reducible repeat (first | refine blk_drewN ?_ _ | refine blk_drew ?_ | refine blk_alloc ?_ _)); exact BK194.out⟩, ⟨by repeat (first | (with_reducible first | exact HB.out | apply below_alloc | apply pw_below_drewN | apply below_drew1 | refine below_set ?_ GE194.out) | exact HB.out)⟩⟩
        case round =>
          clear H'
          try clear c2
          try clear p2
          try clear c4
          try clear c4b0
          try clear hcz5_0
          try clear hcz5_1
          try clear hcz5_2
          try clear hfz5_0
          try clear hfz5_1
          try clear hfz5_2
          try clear p2
          obtain ⟨x5_2, x7_2, rfl, HA, HK2, HO_5, BK194, HB⟩ := hrel
          cases gk with
          | zero => exact absurd HA.out (by simp [ballcockref09_Outcomes.l1])
          | succ k2 =>
            have H := HA.out
            clear HA
            simp only [ballcockref09_Outcomes.l1] at H
            by_cases c6 : 0 ≤ x6_1
            · rw [if_pos c6] at H
              have c6b0 : decide (0 ≤ x6_1) = true := decide_eq_true c6
              clear c6
              by_cases c7 : x6_1 < (l0_2.length : Int)
              · rw [if_pos c7] at H
                have c7b0 : decide (x6_1 < (l0_2.length : Int)) = true := decide_eq_true c7
                clear c7
                by_cases c8 : x7_2 < (((rd_T39 l0_2 x6_1).f2).length : Int)
                · rw [if_pos c8] at H
                  have c8b0 : decide (x7_2 < (((rd_T39 l0_2 x6_1).f2).length : Int)) = true := decide_eq_true c8
                  clear c8
                  by_cases c9 : ((rd_T39 l0_2 x6_1).f0).toList = a1.toList
                  · rw [if_pos c9] at H
                    have c9b0 : (((rd_T39 l0_2 x6_1).f0).toList == a1.toList) = true := beq_iff_eq.mpr c9
                    have c9b1 : (((rd_T39 l0_2 x6_1).f0).toList != a1.toList) = false := bne_eq_false_iff_eq.mpr c9
                    clear c9
                    by_cases c10 : 0 ≤ x7_2
                    · rw [if_pos c10] at H
                      have c10b0 : decide (0 ≤ x7_2) = true := decide_eq_true c10
                      clear c10
                      replace H := Option.bind_eq_some_iff.mp H
                      obtain ⟨t199, A110, H⟩ := H
                      replace H : (ballcockref09_Outcomes.l1 k2 a1 t199 x6_1 (wrap64 (x7_2 + 1)) a0_0 l0_1 l0_2) = some r := H
                      have A11 := Aside0.mk A110
                      clear A110
                      have H' := Aside0.mk H
                      clear H
                      have hcz12_0 : wr.cell? ⟨gb194, 0, none⟩ = some (.string a0_0) := (blk_cell BK194.out 0).trans rfl
                      have hcz12_1 : wr.cell? ⟨gb194, 1, none⟩ = some (.slice A0_1 l0_1.length c0_1) := (blk_cell BK194.out 1).trans rfl
                      have hcz12_2 : wr.cell? ⟨gb194, 2, none⟩ = some (.slice A0_2 l0_2.length c0_2) := (blk_cell BK194.out 2).trans rfl
                      have hfz12_0 := blk_frozen BK194.out 0
                      have hfz12_1 := blk_frozen BK194.out 1
                      have hfz12_2 := blk_frozen BK194.out 2
                      have p195 : 0 ≤ (x6_1 : Int) := of_decide_eq_true (by first | (with_reducible assumption) | assumption)
                      have q195 : x6_1 < (l0_2.length : Int) := of_decide_eq_true (by first | (with_reducible assumption) | assumption)
                      obtain ⟨ad195, A195_2, c195_2, e195, hx195_0, hx195_1, hx195_2, hl195_2, hi195_2⟩ := at_T39 HR0_2.out x6_1 p195 q195
                      cases e195
                      replace hx195_0 := (HB.out.cell (World.block_lt_of_cell? w _ hx195_0)).trans hx195_0
                      replace hx195_1 := (HB.out.cell (World.block_lt_of_cell? w _ hx195_1)).trans hx195_1
                      replace hx195_2 := (HB.out.cell (World.block_lt_of_cell? w _ hx195_2)).trans hx195_2
                      have HR195_2 := Aside0.mk hi195_2
                      have HC195_2 := Aside0.mk hl195_2
                      clear hi195_2 hl195_2
                      replace p195 := eq_true p195
                      replace q195 := eq_true q195
                      have p196 : 0 ≤ (x6_1 : Int) := of_decide_eq_true (by first | (with_reducible assumption) | assumption)
                      have q196 : x6_1 < (l0_2.length : Int) := of_decide_eq_true (by first | (with_reducible assumption) | assumption)
                      obtain ⟨ad196, A196_2, c196_2, e196, hx196_0, hx196_1, hx196_2, hl196_2, hi196_2⟩ := at_T39 HR0_2.out x6_1 p196 q196
                      obtain rfl : ad195 = ad196 := (by injection e196)
                      replace hx196_0 := (HB.out.cell (World.block_lt_of_cell? w _ hx196_0)).trans hx196_0
                      replace hx196_1 := (HB.out.cell (World.block_lt_of_cell? w _ hx196_1)).trans hx196_1
                      replace hx196_2 := (HB.out.cell (World.block_lt_of_cell? w _ hx196_2)).trans hx196_2
                      have HR196_2 := Aside0.mk hi196_2
                      have HC196_2 := Aside0.mk hl196_2
                      clear hi196_2 hl196_2
                      replace p196 := eq_true p196
                      replace q196 := eq_true q196
                      have ea_ := Option.some.inj (hx195_2.symm.trans hx196_2)
                      injection ea_ with ea_ en_ ec_
                      subst ea_
                      subst ec_
                      clear en_
                      have p197 : 0 ≤ (x6_1 : Int) := of_decide_eq_true (by first | (with_reducible assumption) | assumption)
                      have q197 : x6_1 < (l0_2.length : Int) := of_decide_eq_true (by first | (with_reducible assumption) | assumption)
                      obtain ⟨ad197, A197_2, c197_2, e197, hx197_0, hx197_1, hx197_2, hl197_2, hi197_2⟩ := at_T39 HR0_2.out x6_1 p197 q197
                      obtain rfl : ad195 = ad197 := (by injection e197)
                      replace hx197_0 := (HB.out.cell (World.block_lt_of_cell? w _ hx197_0)).trans hx197_0
                      replace hx197_1 := (HB.out.cell (World.block_lt_of_cell? w _ hx197_1)).trans hx197_1
                      replace hx197_2 := (HB.out.cell (World.block_lt_of_cell? w _ hx197_2)).trans hx197_2
                      have HR197_2 := Aside0.mk hi197_2
                      have HC197_2 := Aside0.mk hl197_2
                      clear hi197_2 hl197_2
                      replace p197 := eq_true p197
                      replace q197 := eq_true q197
                      have ea_ := Option.some.inj (hx195_2.symm.trans hx197_2)
                      injection ea_ with ea_ en_ ec_
                      subst ea_
                      subst ec_
                      clear en_
                      have p198 : 0 ≤ (x7_2 : Int) := of_decide_eq_true (by first | (with_reducible assumption) | assumption)
                      have q198 : x7_2 < (((rd_T39 l0_2 x6_1).f2).length : Int) := of_decide_eq_true (by first | (with_reducible assumption) | assumption)
                      obtain ⟨ad198, e198, hx198_0, hx198_1⟩ := at_T42 HR197_2.out x7_2 p198 q198
                      cases e198
                      replace hx198_0 := (HB.out.cell (World.block_lt_of_cell? w _ hx198_0)).trans hx198_0
                      replace hx198_1 := (HB.out.cell (World.block_lt_of_cell? w _ hx198_1)).trans hx198_1
                      replace p198 := eq_true p198
                      replace q198 := eq_true q198
                      obtain ⟨Ao13, co13, eo13⟩ := Kd.R_slice HO_5.out
                      subst eo13
                      go_wp2_with (first | ((with_reducible refine gate_callee (f := 65) rfl ?_); refine goesL_ (some 47) rfl rfl Try.func65 (by kernel_rfl) rfl #[.slice Ao13 x5_2.length co13, .string ((rd_T42 ((rd_T39 l0_2 x6_1).f2) x7_2).f0)] rfl (by (try simp only [List.map_toArray, List.map_cons, List.map_nil]); first | done | rfl | (simp only [List.length_drop, List.length_take]; rfl)) ?_; (with_reducible refine (ballcockref09_add.calls k2 (fun k_ => some k_ = (.slice Ao13 x5_2.length co13 : Value).ownBlock) (.slice Ao13 x5_2.length co13) x5_2 ((rd_T42 ((rd_T39 l0_2 x6_1).f2) x7_2).f0) t199 w _ ?side1 ?side2 A11.out).mono ?_); (case side1 => repeat (first | (with_reducible first | exact HB.out | apply below_alloc | apply pw_below_drewN | apply below_drew1 | refine below_set ?_ GE194.out) | exact HB.out)); (case side2 => exact Kd.R_tight rfl HO_5.out); rintro e w14 ⟨v200, rfl, ho0, hb, hkp⟩; refine ⟨_, rfl, ?_⟩; have n0_ := Aside0.mk (blk_kept (by (with_reducible repeat (first | refine blk_drewN ?_ _ | refine blk_drew ?_ | refine blk_alloc ?_ _)); exact BK194.out) hkp (fun hs_ => (fun e_ => (Kd.R_ne HO_5.out BK194.out (by decide)) e_) hs_)); have n1_ := Aside0.mk (Kd.R_mono (ok' := fun k_ => True) ho0 (fun k_ hk_ => trivial)); have n2_ := Aside0.mk (hb); clear BK194; clear HB; clear HO_5; have BK194 := n0_; have HO201 := n1_; have HB := n2_; clear n0_ n1_ n2_; (try clear hb); (try clear hkp); (try clear ho0)))
                      go_roundg k2
                      case measure => have := HK1.out; have := HK2.out; omega
                      case rel => exact ⟨(t199), (wrap64 (x7_2 + 1)), (by first | rfl | (simp; done) | (simp [*]; done)), H', ⟨by have := HK1.out; have := HK2.out; omega⟩, ⟨by (with_reducible repeat (first | apply Kd.R_alloc | apply Kd.R_drewN | apply Kd.R_drew)); exact HO201.out⟩, ⟨by (with_reducible repeat (first | refine blk_drewN ?_ _ | refine blk_drew ?_ | refine blk_alloc ?_ _)); exact BK194.out⟩, ⟨by repeat (first | (with_reducible first | exact HB.out | apply below_alloc | apply pw_below_drewN | apply below_drew1 | refine below_set ?_ GE194.out) | exact HB.out)⟩⟩
                    · rw [if_neg c10] at H
                      exact absurd H (by simp)
                  · rw [if_neg c9] at H
                    have c9b0 : (((rd_T39 l0_2 x6_1).f0).toList == a1.toList) = false := beq_eq_false_iff_ne.mpr c9
                    have c9b1 : (((rd_T39 l0_2 x6_1).f0).toList != a1.toList) = true := bne_iff_ne.mpr c9
                    have H' := Aside0.mk H
                    clear H
                    have hcz15_0 : wr.cell? ⟨gb194, 0, none⟩ = some (.string a0_0) := (blk_cell BK194.out 0).trans rfl
                    have hcz15_1 : wr.cell? ⟨gb194, 1, none⟩ = some (.slice A0_1 l0_1.length c0_1) := (blk_cell BK194.out 1).trans rfl
                    have hcz15_2 : wr.cell? ⟨gb194, 2, none⟩ = some (.slice A0_2 l0_2.length c0_2) := (blk_cell BK194.out 2).trans rfl
                    have hfz15_0 := blk_frozen BK194.out 0
                    have hfz15_1 := blk_frozen BK194.out 1
                    have hfz15_2 := blk_frozen BK194.out 2
                    have p195 : 0 ≤ (x6_1 : Int) := of_decide_eq_true (by first | (with_reducible assumption) | assumption)
                    have q195 : x6_1 < (l0_2.length : Int) := of_decide_eq_true (by first | (with_reducible assumption) | assumption)
                    obtain ⟨ad195, A195_2, c195_2, e195, hx195_0, hx195_1, hx195_2, hl195_2, hi195_2⟩ := at_T39 HR0_2.out x6_1 p195 q195
                    cases e195
                    replace hx195_0 := (HB.out.cell (World.block_lt_of_cell? w _ hx195_0)).trans hx195_0
                    replace hx195_1 := (HB.out.cell (World.block_lt_of_cell? w _ hx195_1)).trans hx195_1
                    replace hx195_2 := (HB.out.cell (World.block_lt_of_cell? w _ hx195_2)).trans hx195_2
                    have HR195_2 := Aside0.mk hi195_2
                    have HC195_2 := Aside0.mk hl195_2
                    clear hi195_2 hl195_2
                    replace p195 := eq_true p195
                    replace q195 := eq_true q195
                    have p196 : 0 ≤ (x6_1 : Int) := of_decide_eq_true (by first | (with_reducible assumption) | assumption)
                    have q196 : x6_1 < (l0_2.length : Int) := of_decide_eq_true (by first | (with_reducible assumption) | assumption)
                    obtain ⟨ad196, A196_2, c196_2, e196, hx196_0, hx196_1, hx196_2, hl196_2, hi196_2⟩ := at_T39 HR0_2.out x6_1 p196 q196
                    obtain rfl : ad195 = ad196 := (by injection e196)
                    replace hx196_0 := (HB.out.cell (World.block_lt_of_cell? w _ hx196_0)).trans hx196_0
                    replace hx196_1 := (HB.out.cell (World.block_lt_of_cell? w _ hx196_1)).trans hx196_1
                    replace hx196_2 := (HB.out.cell (World.block_lt_of_cell? w _ hx196_2)).trans hx196_2
                    have HR196_2 := Aside0.mk hi196_2
                    have HC196_2 := Aside0.mk hl196_2
                    clear hi196_2 hl196_2
                    replace p196 := eq_true p196
                    replace q196 := eq_true q196
                    have ea_ := Option.some.inj (hx195_2.symm.trans hx196_2)
                    injection ea_ with ea_ en_ ec_
                    subst ea_
                    subst ec_
                    clear en_
                    go_wp2
                    go_roundg k2
                    case measure => have := HK1.out; have := HK2.out; omega
                    case rel => exact ⟨(x5_2), (wrap64 (x6_1 + 1)), (by first | rfl | (simp; done) | (simp [*]; done)), H', ⟨by have := HK1.out; have := HK2.out; omega⟩, ⟨by (with_reducible repeat (first | apply Kd.R_alloc | apply Kd.R_drewN | apply Kd.R_drew)); exact HO_5.out⟩, ⟨by (with_reducible repeat (first | refine blk_drewN ?_ _ | refine blk_drew ?_ | refine blk_alloc ?_ _)); exact BK194.out⟩, ⟨by repeat (first | (with_reducible first | exact HB.out | apply below_alloc | apply pw_below_drewN | apply below_drew1 | refine below_set ?_ GE194.out) | exact HB.out)⟩⟩
                · rw [if_neg c8] at H
                  have c8b0 : decide (x7_2 < (((rd_T39 l0_2 x6_1).f2).length : Int)) = false := decide_eq_false c8
                  clear c8
                  have H' := Aside0.mk H
                  clear H
                  have hcz16_0 : wr.cell? ⟨gb194, 0, none⟩ = some (.string a0_0) := (blk_cell BK194.out 0).trans rfl
                  have hcz16_1 : wr.cell? ⟨gb194, 1, none⟩ = some (.slice A0_1 l0_1.length c0_1) := (blk_cell BK194.out 1).trans rfl
                  have hcz16_2 : wr.cell? ⟨gb194, 2, none⟩ = some (.slice A0_2 l0_2.length c0_2) := (blk_cell BK194.out 2).trans rfl
                  have hfz16_0 := blk_frozen BK194.out 0
                  have hfz16_1 := blk_frozen BK194.out 1
                  have hfz16_2 := blk_frozen BK194.out 2
                  have p195 : 0 ≤ (x6_1 : Int) := of_decide_eq_true (by first | (with_reducible assumption) | assumption)
                  have q195 : x6_1 < (l0_2.length : Int) := of_decide_eq_true (by first | (with_reducible assumption) | assumption)
                  obtain ⟨ad195, A195_2, c195_2, e195, hx195_0, hx195_1, hx195_2, hl195_2, hi195_2⟩ := at_T39 HR0_2.out x6_1 p195 q195
                  cases e195
                  replace hx195_0 := (HB.out.cell (World.block_lt_of_cell? w _ hx195_0)).trans hx195_0
                  replace hx195_1 := (HB.out.cell (World.block_lt_of_cell? w _ hx195_1)).trans hx195_1
                  replace hx195_2 := (HB.out.cell (World.block_lt_of_cell? w _ hx195_2)).trans hx195_2
                  have HR195_2 := Aside0.mk hi195_2
                  have HC195_2 := Aside0.mk hl195_2
                  clear hi195_2 hl195_2
                  replace p195 := eq_true p195
                  replace q195 := eq_true q195
                  go_wp2
                  go_roundg k2
                  case measure => have := HK1.out; have := HK2.out; omega
                  case rel => exact ⟨(x5_2), (wrap64 (x6_1 + 1)), (by first | rfl | (simp; done) | (simp [*]; done)), H', ⟨by have := HK1.out; have := HK2.out; omega⟩, ⟨by (with_reducible repeat (first | apply Kd.R_alloc | apply Kd.R_drewN | apply Kd.R_drew)); exact HO_5.out⟩, ⟨by (with_reducible repeat (first | refine blk_drewN ?_ _ | refine blk_drew ?_ | refine blk_alloc ?_ _)); exact BK194.out⟩, ⟨by repeat (first | (with_reducible first | exact HB.out | apply below_alloc | apply pw_below_drewN | apply below_drew1 | refine below_set ?_ GE194.out) | exact HB.out)⟩⟩
              · rw [if_neg c7] at H
                exact absurd H (by simp)
            · rw [if_neg c6] at H
              exact absurd H (by simp)
      · rw [if_neg c4] at H
        have c4b0 : decide (x6_1 < (l0_2.length : Int)) = false := decide_eq_false c4
        clear c4
        obtain rfl := Option.some.inj H
        have hcz17_0 : wr.cell? ⟨gb194, 0, none⟩ = some (.string a0_0) := (blk_cell BK194.out 0).trans rfl
        have hcz17_1 : wr.cell? ⟨gb194, 1, none⟩ = some (.slice A0_1 l0_1.length c0_1) := (blk_cell BK194.out 1).trans rfl
        have hcz17_2 : wr.cell? ⟨gb194, 2, none⟩ = some (.slice A0_2 l0_2.length c0_2) := (blk_cell BK194.out 2).trans rfl
        have hfz17_0 := blk_frozen BK194.out 0
        have hfz17_1 := blk_frozen BK194.out 1
        have hfz17_2 := blk_frozen BK194.out 2
        go_wp2
        go_ret
        exact ⟨_, by first | rfl | (simp [errW_none, errW_some] <;> rfl) | (simp [*, errW_none, errW_some] <;> rfl), by (with_reducible repeat (first | apply Kd.R_alloc | apply Kd.R_drewN | apply Kd.R_drew)); exact HO_5.out, by repeat (first | (with_reducible first | exact HB.out | apply below_alloc | apply pw_below_drewN | apply below_drew1 | refine below_set ?_ GE194.out) | exact HB.out)⟩

end Go.Proofs.Ytkgcfgoaabkcpaa.Pa
