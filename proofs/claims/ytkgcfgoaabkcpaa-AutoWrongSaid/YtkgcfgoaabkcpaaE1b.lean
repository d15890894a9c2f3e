import Derived.Test.YtkgcfgoaabkcpaaE1
namespace Go.Proofs.Ytkgcfgoaabkcpaa.Pa
open Go.RowKit Go.Proofs.YtkgcfgoaabkcpaaW.PrintWords Go.Proofs.YtkgcfgoaabkcpaaW.PrintLast Go.Proofs.YtkgcfgoaabkcpaaW.PrintMore
set_option linter.unusedVariables false
set_option linter.unusedSimpArgs false

set_option maxHeartbeats 1000000 in
theorem states1 (B : Nat) (A1 : Option Addr) (c1 : Nat) (l1 : List S62) (i : Nat) (w : World) (hc : w.cell? ⟨B, 1, none⟩ = some (.slice A1 l1.length c1)) (hr : Kd.C k62 w A1 l1.length l1) (hi : i < l1.length) :
    Calls Try.prog 86 #[.int .i64 i, .pointer (some ⟨B, 0, none⟩)] w fun e w' => e = .returned (.string (rd_T62 l1 i).f0) ∧ Below w.heap.size w w' := by
  have hltz : (i : Int) < (l1.length : Int) := by omega
  obtain ⟨ad, e0, h0, h1⟩ := at_T62 hr i (by omega) hltz
  simp only [Int.toNat_natCast] at h0 h1
  clear hr
  cases e0
  go_enter Try.func86, Try.ntmps86
  go_wp2
  go_ret
  exact ⟨rfl, Below.refl _ _⟩

/-- The program's protocol in a block of its own. -/
theorem enters86 : ∀ args w, (callFunc 86 args).run Try.prog w = .ok (.enter 86 args) w := enters_of Try.func86 (by kernel_rfl) rfl

theorem cell_box1 (w : World) (x0 x1 x2 : Value) (T : TypeId) : (w.alloc (.cells #[x0, x1, x2] T)).cell? ⟨w.heap.size, 1, none⟩ = some x1 := by
  simp

set_option maxHeartbeats 1000000 in
theorem states_calls' (a0_0 : ByteArray) (A0_1 : Option Addr) (c0_1 : Nat) (l0_1 : List S62) (A0_2 : Option Addr) (c0_2 : Nat) (l0_2 : List S39) (w : World) (hr0_1 : Kd.C k62 w A0_1 l0_1.length l0_1) (hn : l0_1.length ≤ 16) (h0 : 1 ≤ l0_1.length) :
    Calls Try.prog 49 #[.agg #[.string a0_0, .slice A0_1 l0_1.length c0_1, .slice A0_2 l0_2.length c0_2]] w fun e w' => e = .returned (.int .i64 (twiceF l0_1.length fun i => (rd_T62 l0_1 i).f0)) ∧ Below w.heap.size w w' := by
  have HR := Lib.hid hr0_1; clear hr0_1
  have h0' : decide (l0_1.length < 1) = false := decide_eq_false (by omega)
  have h1' : decide (16 < l0_1.length) = false := decide_eq_false (by omega)
  have hw : (w.alloc (.cells #[.string a0_0, .slice A0_1 l0_1.length c0_1, .slice A0_2 l0_2.length c0_2] 25)).cell? ⟨w.heap.size, 1, none⟩ = some (.slice A0_1 l0_1.length c0_1) := cell_box1 w _ _ _ _
  have HW := Lib.hid hw; clear hw
  have hb := (Below.refl w.heap.size w).alloc (Nat.le_refl _) (.cells #[.string a0_0, .slice A0_1 l0_1.length c0_1, .slice A0_2 l0_2.length c0_2] 25)
  go_enter Try.func49, Try.ntmps49
  go_wp2_with fail
  refine (twice_calls l0_1.length (fun i => (rd_T62 l0_1 i).f0) 86 #[.pointer (some ⟨w.heap.size, 0, none⟩)] enters86 _ (by omega) (fun W i hi hW => ?_)).mono ?_
  · exact states1 w.heap.size A0_1 c0_1 l0_1 i W ((hW.cell (p := ⟨w.heap.size, 1, none⟩) (by simp)).trans HW.out) (Kd.C_below HR.out (bch hb hW)) hi
  · rintro e w' ⟨rfl, hb'⟩
    go_wp2
    go_ret
    exact ⟨rfl, bch hb hb'⟩
end Go.Proofs.Ytkgcfgoaabkcpaa.Pa
