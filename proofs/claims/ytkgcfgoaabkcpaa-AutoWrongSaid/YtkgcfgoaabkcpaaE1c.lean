import Derived.Test.YtkgcfgoaabkcpaaE1b
namespace Go.Proofs.Ytkgcfgoaabkcpaa.Pa
open Go.RowKit Go.Proofs.YtkgcfgoaabkcpaaW.PrintWords Go.Proofs.YtkgcfgoaabkcpaaW.PrintLast Go.Proofs.YtkgcfgoaabkcpaaW.PrintMore
set_option linter.unusedVariables false
set_option linter.unusedSimpArgs false

def inB (n : Nat) (i : Int) : Bool := decide (0 ≤ i) && decide (i < n)
theorem enters87 : ∀ args w, (callFunc 87 args).run Try.prog w = .ok (.enter 87 args) w := enters_of Try.func87 (by kernel_rfl) rfl
theorem enters88 : ∀ args w, (callFunc 88 args).run Try.prog w = .ok (.enter 88 args) w := enters_of Try.func88 (by kernel_rfl) rfl

set_option maxHeartbeats 1000000 in
theorem in_calls (B : Nat) (A1 : Option Addr) (c1 : Nat) (n : Nat) (i : Int) (w : World) (hc : w.cell? ⟨B, 1, none⟩ = some (.slice A1 n c1)) :
    Calls Try.prog 87 #[.int .i64 i, .pointer (some ⟨B, 0, none⟩)] w fun e w' => e = .returned (.bool (inB n i)) ∧ Below w.heap.size w w' := by
  by_cases h : 0 ≤ i
  · have h' : decide (0 ≤ i) = true := decide_eq_true h
    have hfin := Lib.hid (show inB n i = decide (i < n) by unfold inB; rw [h', Bool.true_and])
    go_enter Try.func87, Try.ntmps87
    go_wp2
    go_ret
    exact ⟨ret_b hfin.out.symm, Below.refl _ _⟩
  · have h' : decide (0 ≤ i) = false := decide_eq_false h
    have hfin := Lib.hid (show inB n i = false by unfold inB; rw [h', Bool.false_and])
    go_enter Try.func87, Try.ntmps87
    go_wp2
    go_ret
    exact ⟨ret_b hfin.out.symm, Below.refl _ _⟩

set_option maxHeartbeats 1000000 in
theorem notin_calls (B C : Nat) (A1 : Option Addr) (c1 : Nat) (n : Nat) (x : S42) (w : World) (hc : w.cell? ⟨B, 1, none⟩ = some (.slice A1 n c1)) (hB : B < w.heap.size) (hC : w.cell? ⟨C, 0, none⟩ = some (.func (.func 87) #[] #[.pointer (some ⟨B, 0, none⟩)])) (hCs : C < w.heap.size) :
    Calls Try.prog 88 #[.agg #[.string x.f0, .int .i64 x.f1], .pointer (some ⟨C, 0, none⟩)] w fun e w' => e = .returned (.bool (!inB n x.f1)) ∧ Below w.heap.size w w' := by
  have hb := (Below.refl w.heap.size w).alloc (Nat.le_refl _) (.cells #[.string x.f0, .int .i64 x.f1] 42)
  have hC' := (hb.cell (p := ⟨C, 0, none⟩) hCs).trans hC
  have hc' := Lib.hid ((hb.cell (p := ⟨B, 1, none⟩) hB).trans hc)
  have eg := enters87
  clear hC hc
  go_enter Try.func88, Try.ntmps88
  go_wp2_with fail
  go_outline
  go_ways
  refine (in_calls B A1 c1 n x.f1 _ hc'.out).mono ?_
  rintro e w' ⟨rfl, hb'⟩
  go_wp2
  go_ret
  exact ⟨rfl, bch hb hb'⟩
end Go.Proofs.Ytkgcfgoaabkcpaa.Pa
