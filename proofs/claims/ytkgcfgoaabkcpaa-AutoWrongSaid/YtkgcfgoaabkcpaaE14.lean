import Derived.Test.YtkgcfgoaabkcpaaE13
import Derived.Test.YtkgcfgoaabkcpaaO
namespace Go.Proofs.Ytkgcfgoaabkcpaa.Pa
open Go.RowKit Go.Proofs.YtkgcfgoaabkcpaaW.PrintWords Go.Proofs.YtkgcfgoaabkcpaaW.PrintLast Go.Proofs.YtkgcfgoaabkcpaaW.PrintMore
set_option linter.unusedVariables false
set_option linter.unusedSimpArgs false

theorem opens9 : Opens Try.prog 9 Kd.string (fun s => s.size ≤ reachBytes) := opens_string Try.underlying9 (by kernel_rfl)
theorem opens3 : Opens Try.prog 3 (Kd.int .i64) (fun x => (Lit.int .i64 x).wf = true) := opens_int Try.underlying3 (by kernel_rfl)
theorem opens4 : Opens Try.prog 4 Kd.bool (fun _ => True) := opens_bool Try.underlying4 (by kernel_rfl)
def Q42 (x : S42) : Prop := x.f0.size ≤ reachBytes ∧ (Lit.int .i64 x.f1).wf = true
def Q37 (l : List S42) : Prop := l.length * Try.prog.bytesOf 42 ≤ reachBytes ∧ ∀ a ∈ l, Q42 a
def Q39 (x : S39) : Prop := x.f0.size ≤ reachBytes ∧ (Lit.int .i64 x.f1).wf = true ∧ Q37 x.f2
def Q62 (x : S62) : Prop := x.f0.size ≤ reachBytes ∧ True
def Q22 (l : List S62) : Prop := l.length * Try.prog.bytesOf 62 ≤ reachBytes ∧ ∀ a ∈ l, Q62 a
def Q23 (l : List S39) : Prop := l.length * Try.prog.bytesOf 39 ≤ reachBytes ∧ ∀ a ∈ l, Q39 a
def Q25 (x : S25) : Prop := x.f0.size ≤ reachBytes ∧ Q22 x.f1 ∧ Q23 x.f2
theorem opens42 : Opens Try.prog 42 k42 Q42 := by
  have h := opens_iso (opens_struct2 Try.underlying42 rfl rfl (by kernel_rfl) opens9 opens3) (fun x : S42 => (x.f0, x.f1)) (fun x => ⟨x.1, x.2⟩) (fun _ => rfl)
  exact h
theorem opens37 : Opens Try.prog 37 (Kd.slice 42 k42) Q37 := by
  have h := opens_slice Try.underlying37 (by kernel_rfl) opens42
  exact h
theorem opens39 : Opens Try.prog 39 k39 Q39 := by
  have h := opens_iso (opens_struct3 Try.underlying39 rfl rfl rfl (by kernel_rfl) opens9 opens3 opens37) (fun x : S39 => (x.f0, x.f1, x.f2)) (fun x => ⟨x.1, x.2.1, x.2.2⟩) (fun _ => rfl)
  exact h
theorem opens62 : Opens Try.prog 62 k62 Q62 := by
  have h := opens_iso (opens_struct2 Try.underlying62 rfl rfl (by kernel_rfl) opens9 opens4) (fun x : S62 => (x.f0, x.f1)) (fun x => ⟨x.1, x.2⟩) (fun _ => rfl)
  exact h
theorem opens22 : Opens Try.prog 22 (Kd.slice 62 k62) Q22 := by
  have h := opens_slice Try.underlying22 (by kernel_rfl) opens62
  exact h
theorem opens23 : Opens Try.prog 23 (Kd.slice 39 k39) Q23 := by
  have h := opens_slice Try.underlying23 (by kernel_rfl) opens39
  exact h
theorem opens25 : Opens Try.prog 25 k25 Q25 := by
  have h := opens_iso (opens_struct3 Try.underlying25 rfl rfl rfl (by kernel_rfl) opens9 opens22 opens23) (fun x : S25 => (x.f0, x.f1, x.f2)) (fun x => ⟨x.1, x.2.1, x.2.2⟩) (fun _ => rfl)
  exact h
theorem bytes42 : Try.prog.bytesOf 42 = 24 := by kernel_rfl
theorem bytes62 : Try.prog.bytesOf 62 = 24 := by kernel_rfl
theorem bytes39 : Try.prog.bytesOf 39 = 48 := by kernel_rfl
theorem Q25.sz {x : S25} (h : Q25 x) : SzP x.f1 x.f2 := by
  obtain ⟨_, ⟨h1, _⟩, ⟨h2, h3⟩⟩ := h
  rw [bytes62] at h1
  rw [bytes39] at h2
  have hb : reachBytes = 140737488351232 := by decide
  rw [hb] at h1 h2
  refine ⟨by omega, by omega, fun m hm => ?_⟩
  have h4 := (h3 m hm).2.2.1
  rw [bytes42, hb] at h4
  omega
/-- A protocol by value. -/
theorem open25 {W : World} {x : S25} {cs : List Value} (h : k25.K W x cs) : ∃ A1 c1 A2 c2, cs = [.string x.f0, .slice A1 x.f1.length c1, .slice A2 x.f2.length c2] ∧ x.f1.length ≤ c1 ∧ Kd.C k62 W A1 x.f1.length x.f1 ∧ x.f2.length ≤ c2 ∧ Kd.C k39 W A2 x.f2.length x.f2 := by
  obtain ⟨_, _, rfl, rfl, _, _, rfl, ⟨A1, c1, rfl, h1, h2⟩, ⟨A2, c2, rfl, h3, h4⟩⟩ := h
  exact ⟨A1, c1, A2, c2, rfl, h1, h2, h3, h4⟩
theorem AutoWrong_row (x : S25) (cs : List Value) (w : World) (hk : k25.K w x cs) (hq : Q25 x) : Calls Try.prog 3 #[.agg cs.toArray] w fun e w' => e = .returned (.bool true) ∧ Below w.heap.size w w' := by
  obtain ⟨A1, c1, A2, c2, rfl, h1, h2, h3, h4⟩ := open25 hk
  exact AutoWrong_walk x.f0 A1 c1 x.f1 A2 c2 x.f2 w h2 h1 h4 h3 hq.sz
end Go.Proofs.Ytkgcfgoaabkcpaa.Pa
