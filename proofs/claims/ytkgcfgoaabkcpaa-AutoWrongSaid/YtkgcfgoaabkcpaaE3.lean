import Derived.Test.YtkgcfgoaabkcpaaE2
import Derived.Lib.SliceRun
namespace Go.Proofs.Ytkgcfgoaabkcpaa.Pa
open Go.RowKit Go.Proofs.YtkgcfgoaabkcpaaW.PrintWords Go.Proofs.YtkgcfgoaabkcpaaW.PrintLast Go.Proofs.YtkgcfgoaabkcpaaW.PrintMore
set_option linter.unusedVariables false
set_option linter.unusedSimpArgs false

theorem C_none {α : Type} {d : Kd α} {w : World} {n : Nat} {xs : List α} (h : d.C w none n xs) : n = 0 := by
  by_cases hn : 0 < n
  · obtain ⟨ad, he, _⟩ := h.2.2 hn
    cases he
  · omega
theorem empty_row {α : Type} (d : Kd α) (e : Nat) (W : World) (base : Nat) (hb : base ≤ W.heap.size) : d.R e (W.alloc (.cells #[] e)) base (fun _ => True) (.slice (some ⟨W.heap.size, 0, none⟩) 0 0) [] :=
  ⟨fun _ _ => trivial, OwnRow.lit (inner := []) (ps := []) W base (Reps.none _ _) hb (by simp)⟩


theorem infoc42 : ∃ z b, (Try.prog.info? 42).map (fun i => (i.zero, i.size, i.bytes)) = some (some z, k42.sz, b) ∧ z.cells.size = k42.sz ∧ 0 < b ∧ b ≤ 1000 := ⟨(.agg #[.string ⟨#[]⟩, .int .i64 0]), 24, by kernel_rfl, rfl, by decide, by decide⟩
set_option maxHeartbeats 2000000 in
theorem clone42 (A : Option Addr) (c : Nat) (l : List S42) (w0 w : World) (hr : Kd.C k42 w0 A l.length l) (hbw : Below w0.heap.size w0 w) (hc : l.length ≤ c) (hl : l.length ≤ 1000000) :
    Calls Try.prog 66 #[.slice A l.length c] w fun e w' => ∃ A' c', e = .returned (.slice A' l.length c') ∧ (Kd.fixed k42 w0).R 42 w' w.heap.size (fun _ => True) (.slice A' l.length c') l ∧ Below w.heap.size w w' := by
  have qT : ∀ (w : World) (a : Option Addr) (n c n' c' : Nat), (binOp .eql 37 (.slice a n c) (.slice none n' c')).run Try.prog w = .ok (.bool a.isNone) w := fun w a n c n' c' => Lib.run_eql_slice_nil w _ _ a n c n' c' Try.underlying37
  obtain ⟨z, b, hi, hz, hb0, hb1⟩ := infoc42
  have HI := Lib.hid hi; clear hi
  cases A with
  | none =>
    have h0 := C_none hr
    have h0' : l = [] := List.length_eq_zero_iff.1 h0
    subst h0'
    clear h0 hr hl hbw
    go_enter Try.func66, Try.ntmps66
    go_wp2
    go_ret
    exact ⟨none, 0, rfl, Kd.R_nil _ _ _ _ _, Below.refl _ _⟩
  | some ad =>
    have HEm := Aside0.mk (empty_row (Kd.fixed k42 w0) 42 w w.heap.size (Nat.le_refl _))
    have HB := Aside0.mk ((Below.refl w.heap.size w).alloc (Nat.le_refl _) (.cells #[] 42))
    have HR : Aside0 (ReadsRow (k42.K w0) (Kd.fixed k42 w0).sz (w.alloc (.cells #[] 42)) (some ad) l.length l) := ⟨ReadsRow.imp_ hr (bch hbw HB.out) (fun _ _ hp => hp)⟩
    have hlim : l.length * b ≤ 140737488355328 := Nat.le_trans (Nat.mul_le_mul hl hb1) (by decide)
    clear hr hbw
    go_enter Try.func66, Try.ntmps66
    go_wp2_with (at_builtin; refine Kd.R_append_rows (Kd.fixed k42 w0) (w0 := w) w.heap.size rfl _ _ 37 42 z b rfl Try.underlying37 HI.out hz (show 0 < k42.sz by decide) hb0 _ [] l (some ad) l.length c (fun _ => True) (fun _ => False) rfl rfl HEm.out HR.out (fun _ _ h => h) (fun _ h => h.elim) (fun _ _ => trivial) HB.out (by simp) (by simpa using hlim) ?_; intro v1 w1 hR1 hB1 hg1 _hat1; have HR1' := Aside0.mk hR1; have HB1' := Aside0.mk hB1; clear hR1 hB1 hg1 _hat1)
    go_ret
    obtain ⟨A', c', hv⟩ := Kd.R_slice HR1'.out
    exact ⟨A', c', congrArg Ending.returned hv, hv ▸ HR1'.out, HB1'.out⟩


theorem infoc62 : ∃ z b, (Try.prog.info? 62).map (fun i => (i.zero, i.size, i.bytes)) = some (some z, k62.sz, b) ∧ z.cells.size = k62.sz ∧ 0 < b ∧ b ≤ 1000 := ⟨(.agg #[.string ⟨#[]⟩, .bool false]), 24, by kernel_rfl, rfl, by decide, by decide⟩
set_option maxHeartbeats 2000000 in
theorem clone62 (A : Option Addr) (c : Nat) (l : List S62) (w0 w : World) (hr : Kd.C k62 w0 A l.length l) (hbw : Below w0.heap.size w0 w) (hc : l.length ≤ c) (hl : l.length ≤ 1000000) :
    Calls Try.prog 94 #[.slice A l.length c] w fun e w' => ∃ A' c', e = .returned (.slice A' l.length c') ∧ (Kd.fixed k62 w0).R 62 w' w.heap.size (fun _ => True) (.slice A' l.length c') l ∧ Below w.heap.size w w' := by
  have qT : ∀ (w : World) (a : Option Addr) (n c n' c' : Nat), (binOp .eql 22 (.slice a n c) (.slice none n' c')).run Try.prog w = .ok (.bool a.isNone) w := fun w a n c n' c' => Lib.run_eql_slice_nil w _ _ a n c n' c' Try.underlying22
  obtain ⟨z, b, hi, hz, hb0, hb1⟩ := infoc62
  have HI := Lib.hid hi; clear hi
  cases A with
  | none =>
    have h0 := C_none hr
    have h0' : l = [] := List.length_eq_zero_iff.1 h0
    subst h0'
    clear h0 hr hl hbw
    go_enter Try.func94, Try.ntmps94
    go_wp2
    go_ret
    exact ⟨none, 0, rfl, Kd.R_nil _ _ _ _ _, Below.refl _ _⟩
  | some ad =>
    have HEm := Aside0.mk (empty_row (Kd.fixed k62 w0) 62 w w.heap.size (Nat.le_refl _))
    have HB := Aside0.mk ((Below.refl w.heap.size w).alloc (Nat.le_refl _) (.cells #[] 62))
    have HR : Aside0 (ReadsRow (k62.K w0) (Kd.fixed k62 w0).sz (w.alloc (.cells #[] 62)) (some ad) l.length l) := ⟨ReadsRow.imp_ hr (bch hbw HB.out) (fun _ _ hp => hp)⟩
    have hlim : l.length * b ≤ 140737488355328 := Nat.le_trans (Nat.mul_le_mul hl hb1) (by decide)
    clear hr hbw
    go_enter Try.func94, Try.ntmps94
    go_wp2_with (at_builtin; refine Kd.R_append_rows (Kd.fixed k62 w0) (w0 := w) w.heap.size rfl _ _ 22 62 z b rfl Try.underlying22 HI.out hz (show 0 < k62.sz by decide) hb0 _ [] l (some ad) l.length c (fun _ => True) (fun _ => False) rfl rfl HEm.out HR.out (fun _ _ h => h) (fun _ h => h.elim) (fun _ _ => trivial) HB.out (by simp) (by simpa using hlim) ?_; intro v1 w1 hR1 hB1 hg1 _hat1; have HR1' := Aside0.mk hR1; have HB1' := Aside0.mk hB1; clear hR1 hB1 hg1 _hat1)
    go_ret
    obtain ⟨A', c', hv⟩ := Kd.R_slice HR1'.out
    exact ⟨A', c', congrArg Ending.returned hv, hv ▸ HR1'.out, HB1'.out⟩


theorem infoc39 : ∃ z b, (Try.prog.info? 39).map (fun i => (i.zero, i.size, i.bytes)) = some (some z, k39.sz, b) ∧ z.cells.size = k39.sz ∧ 0 < b ∧ b ≤ 1000 := ⟨(.agg #[.string ⟨#[]⟩, .int .i64 0, .slice none 0 0]), 48, by kernel_rfl, rfl, by decide, by decide⟩
set_option maxHeartbeats 2000000 in
theorem clone39 (A : Option Addr) (c : Nat) (l : List S39) (w0 w : World) (hr : Kd.C k39 w0 A l.length l) (hbw : Below w0.heap.size w0 w) (hc : l.length ≤ c) (hl : l.length ≤ 1000000) :
    Calls Try.prog 95 #[.slice A l.length c] w fun e w' => ∃ A' c', e = .returned (.slice A' l.length c') ∧ (Kd.fixed k39 w0).R 39 w' w.heap.size (fun _ => True) (.slice A' l.length c') l ∧ Below w.heap.size w w' := by
  have qT : ∀ (w : World) (a : Option Addr) (n c n' c' : Nat), (binOp .eql 23 (.slice a n c) (.slice none n' c')).run Try.prog w = .ok (.bool a.isNone) w := fun w a n c n' c' => Lib.run_eql_slice_nil w _ _ a n c n' c' Try.underlying23
  obtain ⟨z, b, hi, hz, hb0, hb1⟩ := infoc39
  have HI := Lib.hid hi; clear hi
  cases A with
  | none =>
    have h0 := C_none hr
    have h0' : l = [] := List.length_eq_zero_iff.1 h0
    subst h0'
    clear h0 hr hl hbw
    go_enter Try.func95, Try.ntmps95
    go_wp2
    go_ret
    exact ⟨none, 0, rfl, Kd.R_nil _ _ _ _ _, Below.refl _ _⟩
  | some ad =>
    have HEm := Aside0.mk (empty_row (Kd.fixed k39 w0) 39 w w.heap.size (Nat.le_refl _))
    have HB := Aside0.mk ((Below.refl w.heap.size w).alloc (Nat.le_refl _) (.cells #[] 39))
    have HR : Aside0 (ReadsRow (k39.K w0) (Kd.fixed k39 w0).sz (w.alloc (.cells #[] 39)) (some ad) l.length l) := ⟨ReadsRow.imp_ hr (bch hbw HB.out) (fun _ _ hp => hp)⟩
    have hlim : l.length * b ≤ 140737488355328 := Nat.le_trans (Nat.mul_le_mul hl hb1) (by decide)
    clear hr hbw
    go_enter Try.func95, Try.ntmps95
    go_wp2_with (at_builtin; refine Kd.R_append_rows (Kd.fixed k39 w0) (w0 := w) w.heap.size rfl _ _ 23 39 z b rfl Try.underlying23 HI.out hz (show 0 < k39.sz by decide) hb0 _ [] l (some ad) l.length c (fun _ => True) (fun _ => False) rfl rfl HEm.out HR.out (fun _ _ h => h) (fun _ h => h.elim) (fun _ _ => trivial) HB.out (by simp) (by simpa using hlim) ?_; intro v1 w1 hR1 hB1 hg1 _hat1; have HR1' := Aside0.mk hR1; have HB1' := Aside0.mk hB1; clear hR1 hB1 hg1 _hat1)
    go_ret
    obtain ⟨A', c', hv⟩ := Kd.R_slice HR1'.out
    exact ⟨A', c', congrArg Ending.returned hv, hv ▸ HR1'.out, HB1'.out⟩

end Go.Proofs.Ytkgcfgoaabkcpaa.Pa
