import Derived.Test.YtkgcfgoaabkcpaaE1c
import Derived.Laws.EntriesVeiled
namespace Go.Proofs.Ytkgcfgoaabkcpaa.Pa
open Go.RowKit Go.Proofs.YtkgcfgoaabkcpaaW.PrintWords Go.Proofs.YtkgcfgoaabkcpaaW.PrintLast Go.Proofs.YtkgcfgoaabkcpaaW.PrintMore
set_option linter.unusedVariables false
set_option linter.unusedSimpArgs false


abbrev bxP (a0 : ByteArray) (A1 : Option Addr) (n c1 : Nat) (A2 : Option Addr) (n2 c2 : Nat) : Obj := .cells #[.string a0, .slice A1 n c1, .slice A2 n2 c2] 25
abbrev bxM (a0 : ByteArray) (i : Int) (A2 : Option Addr) (n2 c2 : Nat) : Obj := .cells #[.string a0, .int .i64 i, .slice A2 n2 c2] 39

set_option maxHeartbeats 2000000 in
theorem move_calls' (a0_0 : ByteArray) (A0_1 : Option Addr) (c0_1 : Nat) (n : Nat) (A0_2 : Option Addr) (c0_2 : Nat) (n2 : Nat) (m0 : ByteArray) (m1 : Int) (A2 : Option Addr) (c2 : Nat) (m2 : List S42) (w : World)
    (hr : Kd.C k42 w A2 m2.length m2) (hc : m2.length ≤ c2) :
    Calls Try.prog 50 #[.agg #[.string a0_0, .slice A0_1 n c0_1, .slice A0_2 n2 c0_2], .agg #[.string m0, .int .i64 m1, .slice A2 m2.length c2]] w fun e w' => e = .returned (.bool (inB n m1 && decide (0 < m2.length) && !(m2.any fun o => !inB n o.f1))) ∧ Below w.heap.size w w' := by
  have hbig := Kd.C_max hr
  have HR := Lib.hid hr; clear hr
  have hb := (((Below.refl w.heap.size w).alloc (Nat.le_refl _) (bxP a0_0 A0_1 n c0_1 A0_2 n2 c0_2)).alloc (by simp) (bxM m0 m1 A2 m2.length c2)).alloc (by simp; omega) (.cells #[.func (.func 87) #[] #[.pointer (some ⟨w.heap.size, 0, none⟩)]] 147)
  have f1 : (((w.alloc (bxP a0_0 A0_1 n c0_1 A0_2 n2 c0_2)).alloc (bxM m0 m1 A2 m2.length c2)).alloc (.cells #[.func (.func 87) #[] #[.pointer (some ⟨w.heap.size, 0, none⟩)]] 147)).cell? ⟨w.heap.size, 1, none⟩ = some (.slice A0_1 n c0_1) := by
    rw [World.cell?_alloc_past _ _ _ (by simp; omega), World.cell?_alloc_past _ _ _ (by simp), World.cell?_alloc_at _ _ _ _ rfl]; rfl
  have f2 : (((w.alloc (bxP a0_0 A0_1 n c0_1 A0_2 n2 c0_2)).alloc (bxM m0 m1 A2 m2.length c2)).alloc (.cells #[.func (.func 87) #[] #[.pointer (some ⟨w.heap.size, 0, none⟩)]] 147)).cell? ⟨w.heap.size + 1, 2, none⟩ = some (.slice A2 m2.length c2) := by
    rw [World.cell?_alloc_past _ _ _ (by simp), World.cell?_alloc_at _ _ _ _ (by simp)]; rfl
  have f3 : (((w.alloc (bxP a0_0 A0_1 n c0_1 A0_2 n2 c0_2)).alloc (bxM m0 m1 A2 m2.length c2)).alloc (.cells #[.func (.func 87) #[] #[.pointer (some ⟨w.heap.size, 0, none⟩)]] 147)).cell? ⟨w.heap.size + 2, 0, none⟩ = some (.func (.func 87) #[] #[.pointer (some ⟨w.heap.size, 0, none⟩)]) := by
    rw [World.cell?_alloc_at _ _ _ _ (by simp)]; rfl
  have f4 : (((w.alloc (bxP a0_0 A0_1 n c0_1 A0_2 n2 c0_2)).alloc (bxM m0 m1 A2 m2.length c2)).alloc (.cells #[.func (.func 87) #[] #[.pointer (some ⟨w.heap.size, 0, none⟩)]] 147)).heap.size = w.heap.size + 3 := by simp
  have F1 := Lib.hid f1; have F2 := Lib.hid f2; have F3 := Lib.hid f3; have F4 := Lib.hid f4
  clear f1 f2 f3 f4
  have eg := enters87
  have hmf : ∀ (fn : Fn) (first cap : Array Value) (w : World), (Instr.makeFunc fn first cap).run Try.prog w = .ok (.func fn first cap) w := fun _ _ _ _ => rfl
  go_enter Try.func50, Try.ntmps50
  go_wp2_with fail
  refine (in_calls w.heap.size A0_1 c0_1 n m1 _ F1.out).mono ?_
  rintro e w4 ⟨rfl, hb4⟩
  have hb' := bch hb hb4
  have G1 := Lib.hid ((hb4.cell (p := ⟨w.heap.size, 1, none⟩) (by rw [F4.out]; simp)).trans F1.out)
  have g2 := (hb4.cell (p := ⟨w.heap.size + 1, 2, none⟩) (by rw [F4.out]; simp)).trans F2.out
  have G3 := Lib.hid ((hb4.cell (p := ⟨w.heap.size + 2, 0, none⟩) (by rw [F4.out]; simp)).trans F3.out)
  have hs4 : w.heap.size + 3 ≤ w4.heap.size := by have := hb4.size; rw [F4.out] at this; exact this
  clear F1 F2 F3 F4 hb hb4
  cases hq : inB n m1 with
  | false =>
    go_wp2_with fail
    go_ret
    exact ⟨ret_b (by rw [hq]; rfl), hb'⟩
  | true =>
    by_cases hl : 0 < m2.length
    · have hl' : decide (0 < m2.length) = true := decide_eq_true hl
      go_wp2_with fail
      refine (containsFunc42 (fun o => !inB n o.f1) 88 #[.pointer (some ⟨w.heap.size + 2, 0, none⟩)] enters88 A2 c2 m2 w4 (Kd.C_below HR.out hb') hc (fun W x cs hx hW hK => ?_) (by omega)).mono ?_
      · rw [k42_open hK]
        exact notin_calls w.heap.size (w.heap.size + 2) A0_1 c0_1 n x W ((hW.cell (p := ⟨w.heap.size, 1, none⟩) (by simp; omega)).trans G1.out) (by have := hW.size; omega) ((hW.cell (p := ⟨w.heap.size + 2, 0, none⟩) (by simp; omega)).trans G3.out) (by have := hW.size; omega)
      · rintro e w5 ⟨rfl, hb5⟩
        go_wp2_with fail
        go_ret
        exact ⟨ret_b (by rw [hq, hl']; rfl), bch hb' hb5⟩
    · have hl' : decide (0 < m2.length) = false := decide_eq_false hl
      go_wp2_with fail
      go_ret
      exact ⟨ret_b (by rw [hq, hl']; rfl), hb'⟩
end Go.Proofs.Ytkgcfgoaabkcpaa.Pa
