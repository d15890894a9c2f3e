import Derived.Test.YtkgcfgoaabkcpaaE11
namespace Go.Proofs.Ytkgcfgoaabkcpaa.Pa
open Go.RowKit Go.Proofs.YtkgcfgoaabkcpaaW.PrintWords Go.Proofs.YtkgcfgoaabkcpaaW.PrintLast Go.Proofs.YtkgcfgoaabkcpaaW.PrintMore
set_option linter.unusedVariables false
set_option linter.unusedSimpArgs false

theorem wrong_stuck : wrongF [⟨⟨#[65]⟩, false⟩] [] = (5, 0) := by decide
theorem wrong_right : wrongF [⟨⟨#[65]⟩, true⟩] [] = (0, 0) := by decide
theorem fins_one : finS [⟨⟨#[65]⟩, true⟩] 1 = 1 := by decide
theorem C_one62 (W : World) (x : S62) : Kd.C k62 (W.alloc (.cells #[.string x.f0, .bool x.f1] 62)) (some ⟨W.heap.size, 0, none⟩) 1 [x] := by
  refine ⟨rfl, by decide, fun _ => ⟨_, rfl, fun j p hj => ?_⟩⟩
  cases j with
  | zero =>
    cases hj
    refine ⟨_, rfl, k62_mk _ _, fun i u hu => ?_⟩
    match i, hu with
    | 0, hu => cases hu; exact World.cell?_alloc_at _ _ _ _ rfl
    | 1, hu => cases hu; exact World.cell?_alloc_at _ _ _ _ rfl
  | succ j => simp at hj

set_option maxHeartbeats 2000000 in
theorem awake_calls (w : World) : Calls Try.prog 12 #[] w fun e w' => e = .returned (.bool true) ∧ Below w.heap.size w w' := by
  obtain ⟨ka, hka⟩ := wrong_f ⟨#[]⟩ [⟨⟨#[65]⟩, false⟩] [] ⟨by decide, by decide, fun m hm => by cases hm⟩
  obtain ⟨kb, hkb⟩ := wrong_f ⟨#[]⟩ [⟨⟨#[65]⟩, true⟩] [] ⟨by decide, by decide, fun m hm => by cases hm⟩
  rw [wrong_stuck] at hka
  rw [wrong_right] at hkb
  have HKA := Lib.hid hka; have HKB := Lib.hid hkb
  clear hka hkb
  go_enter Try.func12, Try.ntmps12
  go_wp2_with fail
  refine (auto_Wrong.calls ka ⟨#[]⟩ (some ⟨w.heap.size, 0, none⟩) 1 [⟨⟨#[65]⟩, false⟩] none 0 [] 5 0 _ (C_one62 w ⟨⟨#[65]⟩, false⟩) (Nat.le_refl _) (Kd.C_nil _ _) (Nat.le_refl _) HKA.out).mono ?_
  rintro e w1 ⟨rfl, hb1⟩
  have HB1 := Aside0.mk (((Below.refl w.heap.size w).alloc (Nat.le_refl _) (.cells #[.string ⟨#[65]⟩, .bool false] 62)).trans (hb1.mono (by simp)))
  clear hb1
  go_wp2_with fail
  refine (New_yes kb ⟨#[]⟩ (some ⟨w1.heap.size, 0, none⟩) 1 [⟨⟨#[65]⟩, true⟩] none 0 [] 0 _ (C_one62 w1 ⟨⟨#[65]⟩, true⟩) (Nat.le_refl _) (Kd.C_nil _ _) (Nat.le_refl _) HKB.out ⟨by decide, by decide, fun m hm => by cases hm⟩).mono ?_
  rintro e w2 ⟨g, rfl, hat, hg, hb2⟩
  have HB2 := Aside0.mk (HB1.out.trans ((((Below.refl w1.heap.size w1).alloc (Nat.le_refl _) (.cells #[.string ⟨#[65]⟩, .bool true] 62)).trans (hb2.mono (by simp))).mono HB1.out.size))
  have HAT := Aside0.mk hat
  clear hat hg hb2
  go_wp2_with fail
  refine (Finals_calls g ⟨#[]⟩ [⟨⟨#[65]⟩, true⟩] [] w2 HAT.out (by decide)).mono ?_
  rintro e w3 ⟨rfl, hb3⟩
  rw [show finS [⟨⟨#[65]⟩, true⟩] [(⟨⟨#[65]⟩, true⟩ : S62)].length = 1 from fins_one]
  go_wp2
  go_ret
  exact ⟨rfl, bch HB2.out hb3⟩
end Go.Proofs.Ytkgcfgoaabkcpaa.Pa
