import Derived.Test.YtkgcfgoaabkcpaaH9
namespace Go.Proofs.Ytkgcfgoaabkcpaa.Pa
open Go.RowKit Go.Proofs.YtkgcfgoaabkcpaaW.PrintWords Go.Proofs.YtkgcfgoaabkcpaaW.PrintLast Go.Proofs.YtkgcfgoaabkcpaaW.PrintMore
set_option linter.unusedVariables false
set_option linter.unusedSimpArgs false

theorem l1 : (1 : Nat) ≤ 1000000 := by decide
theorem lz : (0 : Int) ≤ 1000000 := by decide
set_option maxHeartbeats 8000000 in
theorem wawake_calls (w : World) : Calls Try.prog 34 #[] w fun e w' => e = .returned (.bool true) ∧ Below w.heap.size w w' := by
  go_enter Try.func34, Try.ntmps34
  go_wp2_with fail
  refine (All_calls w).mono ?_
  rintro e w1 ⟨A, c, rfl, hc, hC, hb1⟩
  have HC := Aside0.mk hC; have HB1 := Aside0.mk hb1
  clear hC hb1
  go_wp2_with fail
  refine (New1 A c w1 HC.out).mono ?_
  rintro e w2 ⟨N, gm, gw, a, b, d, rfl, hO⟩
  have HO2 := Aside0.mk hO
  clear hO
  go_wp2_with fail
  refine (Feed1 w1 w2 N gm gw _ _ 0 0 _ _ _ 0 HO2.out (good_nil a b d 0 false) (by decide) (Nat.zero_le _) (Int.le_refl 0) lz (feed_open a b d)).mono ?_
  rintro e w3 ⟨rfl, hO⟩
  have HO3 := Aside0.mk hO
  clear hO HO2
  go_wp2_with fail
  refine (Feed1 w1 w3 N gm gw _ _ 2 0 _ _ _ 0 HO3.out (good_F a b d 0 0 false (by decide) (by decide)) (by decide) l1 (Int.le_refl 0) lz (feed_close0 a b d 0)).mono ?_
  rintro e w4 ⟨rfl, hO⟩
  have HO4 := Aside0.mk hO
  clear hO HO3
  go_wp2_with fail
  refine (Violations_calls w1 w4 N gm gw _ _ HO4.out.1).mono ?_
  rintro e w5 ⟨rfl, rfl⟩
  go_wp2_with fail
  refine (Open_calls w1 _ N gm gw _ _ HO4.out.1 (good_F a b d 2 0 false (by decide) (by decide)) l1).mono ?_
  rintro e w6 ⟨v, rfl, ⟨Ao, co, rfl, hco, hCo⟩, hb6⟩
  have HO6 := Aside0.mk (HO4.out.below hb6)
  have ho : openL (sW a b d [(a, 2)] 0 false).rg (sW a b d [(a, 2)] 0 false).hs 0 = [] := open_2 a b d
  rw [ho]
  clear hb6 HO4 hco hCo ho
  go_wp2_with fail
  refine (Feed1 w1 w6 N gm gw _ _ 2 0 _ _ _ 0 HO6.out (good_F a b d 2 0 false (by decide) (by decide)) (by decide) l1 (Int.le_refl 0) lz (feed_close2 a b d 0)).mono ?_
  rintro e w7 ⟨rfl, hO⟩
  have HO7 := Aside0.mk hO
  clear hO HO6
  go_wp2_with fail
  refine (Violations_calls w1 w7 N gm gw _ _ HO7.out.1).mono ?_
  rintro e w8 ⟨rfl, rfl⟩
  go_wp2
  go_ret
  exact ⟨rfl, bch HB1.out HO7.out.base⟩
end Go.Proofs.Ytkgcfgoaabkcpaa.Pa
