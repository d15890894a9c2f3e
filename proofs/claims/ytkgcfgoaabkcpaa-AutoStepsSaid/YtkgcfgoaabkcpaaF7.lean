import Derived.Test.YtkgcfgoaabkcpaaF6
import Derived.Test.YtkgcfgoaabkcpaaB7
namespace Go.Proofs.Ytkgcfgoaabkcpaa.Pa
open Go.RowKit Go.Proofs.YtkgcfgoaabkcpaaW.PrintWords Go.Proofs.YtkgcfgoaabkcpaaW.PrintLast Go.Proofs.YtkgcfgoaabkcpaaW.PrintMore
theorem u32_nat {a : Int} (h : (Lit.int .u32 a).wf = true) : ∃ n : Nat, a = (n : Int) ∧ n < 2 ^ 32 := by
  simp [Lit.wf, IntKind.min, IntKind.max, IntKind.signed, IntKind.bits] at h
  exact ⟨a.toNat, by omega, by omega⟩
theorem AutoSteps_row (x : S25) (cs : List Value) (a b : Int) (w : World) (hk : k25.K w x cs) (hq : Q25 x) (ha : (Lit.int .u32 a).wf = true) (hb : (Lit.int .u32 b).wf = true) : Calls Try.prog 4 #[.agg cs.toArray, .int .u32 a, .int .u32 b] w fun e w' => e = .returned (.bool true) ∧ Below w.heap.size w w' := by
  obtain ⟨A1, c1, A2, c2, rfl, h1, h2, h3, h4⟩ := open25 hk
  obtain ⟨a, rfl, ha2⟩ := u32_nat ha
  obtain ⟨b, rfl, hb2⟩ := u32_nat hb
  exact AutoSteps_walk x.f0 A1 c1 x.f1 A2 c2 x.f2 a b w h2 h1 h4 h3 hq.sz ha2 hb2
end Go.Proofs.Ytkgcfgoaabkcpaa.Pa
