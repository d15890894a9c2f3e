import Derived.Test.YtkgcfgoaabkcpaaE4
import Derived.Test.YtkgcfgoaabkcpaaPa5
namespace Go.Proofs.Ytkgcfgoaabkcpaa.Pa
open Go.RowKit Go.Proofs.YtkgcfgoaabkcpaaW.PrintWords Go.Proofs.YtkgcfgoaabkcpaaW.PrintLast Go.Proofs.YtkgcfgoaabkcpaaW.PrintMore
set_option linter.unusedVariables false
set_option linter.unusedSimpArgs false

/-- An automaton in memory: a block that holds its protocol. -/
def AutoAt (w : World) (g : Nat) (a0 : ByteArray) (l1 : List S62) (l2 : List S39) : Prop :=
  ∃ A1 c1 A2 c2, w.heap[g]? = some (.cells #[.string a0, .slice A1 l1.length c1, .slice A2 l2.length c2] 107 (0, 0)) ∧ l1.length ≤ c1 ∧ Kd.C k62 w A1 l1.length l1 ∧ l2.length ≤ c2 ∧ Kd.C k39 w A2 l2.length l2
theorem AutoAt.below {w w' : World} {g : Nat} {a0 : ByteArray} {l1 : List S62} {l2 : List S39} (h : AutoAt w g a0 l1 l2) (hb : Below w.heap.size w w') : AutoAt w' g a0 l1 l2 := by
  obtain ⟨A1, c1, A2, c2, hh, h1, k1, h2, k2⟩ := h
  exact ⟨A1, c1, A2, c2, (hb.block g (blk_lt hh)).trans hh, h1, Kd.C_below k1 hb, h2, Kd.C_below k2 hb⟩
theorem AutoAt.lt {w : World} {g : Nat} {a0 : ByteArray} {l1 : List S62} {l2 : List S39} (h : AutoAt w g a0 l1 l2) : g < w.heap.size := by
  obtain ⟨A1, c1, A2, c2, hh, _⟩ := h
  exact blk_lt hh

/-- What a small protocol is, for the machine's sake. -/
def Fits (l1 : List S62) (l2 : List S39) : Prop := l1.length ≤ 1000 ∧ l2.length ≤ 1000 ∧ ∀ m ∈ l2, m.f2.length ≤ 1000

set_option maxHeartbeats 4000000 in
theorem New_no (k : Nat) (a0 : ByteArray) (A1 : Option Addr) (c1 : Nat) (l1 : List S62) (A2 : Option Addr) (c2 : Nat) (l2 : List S39) (r1 r2 : Int) (w : World)
    (hr1 : Kd.C k62 w A1 l1.length l1) (hc1 : l1.length ≤ c1) (hr2 : Kd.C k39 w A2 l2.length l2) (hc2 : l2.length ≤ c2) (h : auto_Wrong.f k a0 l1 l2 = some (r1, r2)) (hr : r1 ≠ 0) :
    Calls Try.prog 16 #[.agg #[.string a0, .slice A1 l1.length c1, .slice A2 l2.length c2]] w fun e w' => e = .returned (.tuple #[.pointer none, .int .i64 2]) ∧ Below w.heap.size w w' := by
  have hb := (Below.refl w.heap.size w).alloc (Nat.le_refl _) (.cells #[.string a0, .slice A1 l1.length c1, .slice A2 l2.length c2] 25)
  have hcall := Lib.hid (auto_Wrong.calls k a0 A1 c1 l1 A2 c2 l2 r1 r2 _ (Kd.C_below hr1 hb) hc1 (Kd.C_below hr2 hb) hc2 h)
  have hr' : (r1 != 0) = true := bne_iff_ne.mpr hr
  clear hr1 hr2 h hr
  go_enter Try.func16, Try.ntmps16
  go_wp2_with (go_at_call 14; refine hcall.out.mono ?_; rintro e w1 ⟨rfl, hb1⟩; have HB1 := Aside0.mk hb1; clear hb1)
  go_ret2
  exact ⟨rfl, bch hb HB1.out⟩

set_option maxHeartbeats 4000000 in
theorem New_yes (k : Nat) (a0 : ByteArray) (A1 : Option Addr) (c1 : Nat) (l1 : List S62) (A2 : Option Addr) (c2 : Nat) (l2 : List S39) (r2 : Int) (w : World)
    (hr1 : Kd.C k62 w A1 l1.length l1) (hc1 : l1.length ≤ c1) (hr2 : Kd.C k39 w A2 l2.length l2) (hc2 : l2.length ≤ c2) (h : auto_Wrong.f k a0 l1 l2 = some (0, r2)) (hf : Fits l1 l2) :
    Calls Try.prog 16 #[.agg #[.string a0, .slice A1 l1.length c1, .slice A2 l2.length c2]] w fun e w' => ∃ g, e = .returned (.tuple #[.pointer (some ⟨g, 0, none⟩), .int .i64 0]) ∧ AutoAt w' g a0 l1 l2 ∧ w.heap.size ≤ g ∧ Below w.heap.size w w' := by
  have hb := (Below.refl w.heap.size w).alloc (Nat.le_refl _) (.cells #[.string a0, .slice A1 l1.length c1, .slice A2 l2.length c2] 25)
  have hcall := Lib.hid (auto_Wrong.calls k a0 A1 c1 l1 A2 c2 l2 0 r2 _ (Kd.C_below hr1 hb) hc1 (Kd.C_below hr2 hb) hc2 h)
  have HR1 := Aside0.mk hr1; have HR2 := Aside0.mk hr2; have HF := Aside0.mk hf
  clear hr1 hr2 h hf
  go_enter Try.func16, Try.ntmps16
  go_wp2_with fail
  refine hcall.out.mono ?_
  rintro e w1 ⟨rfl, hb1⟩
  have f0 := (hb1.cell (p := ⟨w.heap.size, 0, none⟩) (by simp)).trans (World.cell?_alloc_at _ _ _ _ rfl)
  have f1 := (hb1.cell (p := ⟨w.heap.size, 1, none⟩) (by simp)).trans (World.cell?_alloc_at _ _ _ _ rfl)
  have f2 := (hb1.cell (p := ⟨w.heap.size, 2, none⟩) (by simp)).trans (World.cell?_alloc_at _ _ _ _ rfl)
  have hb1' := bch hb hb1
  have HCL := Lib.hid (clone_calls a0 A1 c1 l1 A2 c2 l2 w1 (Kd.C_below HR1.out hb1') hc1 (Kd.C_below HR2.out hb1') hc2 HF.out.1 HF.out.2.1 HF.out.2.2)
  simp only [List.getElem?_toArray, List.getElem?_cons_zero, List.getElem?_cons_succ] at f0 f1 f2
  clear hb1 hb HR1 HR2 HF hcall
  go_wp2_with fail
  refine HCL.out.mono ?_
  rintro e w2 ⟨A1', c1', A2', c2', rfl, k1, p1, k2, p2, hb2⟩
  have K1 := Aside0.mk p1; have K2 := Aside0.mk p2; have HB2 := Aside0.mk (bch hb1' hb2)
  clear p1 p2 hb2 hb1' f0 f1 f2
  go_wp2
  go_ret2
  exact ⟨_, rfl, ⟨A1', c1', A2', c2', heap_alloc_new _ _, k1, Kd.C_alloc K1.out _, k2, Kd.C_alloc K2.out _⟩, HB2.out.size, HB2.out.alloc HB2.out.size _⟩
end Go.Proofs.Ytkgcfgoaabkcpaa.Pa
