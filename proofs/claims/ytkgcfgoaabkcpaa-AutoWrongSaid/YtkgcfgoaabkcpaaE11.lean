import Derived.Test.YtkgcfgoaabkcpaaE10
import Derived.Test.YtkgcfgoaabkcpaaPa18
import Derived.Test.YtkgcfgoaabkcpaaPa6
namespace Go.Proofs.Ytkgcfgoaabkcpaa.Pa
open Go.RowKit Go.Proofs.YtkgcfgoaabkcpaaW.PrintWords Go.Proofs.YtkgcfgoaabkcpaaW.PrintLast Go.Proofs.YtkgcfgoaabkcpaaW.PrintMore
set_option linter.unusedVariables false
set_option linter.unusedSimpArgs false

/-- Sizes that a row owes. -/
def SzP (l1 : List S62) (l2 : List S39) : Prop := l1.length ≤ 10000000000000 ∧ l2.length ≤ 10000000000000 ∧ ∀ m ∈ l2, m.f2.length ≤ 10000000000000
theorem wrap_nat {n : Nat} (h : n ≤ 4611686018427387904) : wrap64 (n : Int) = n := by unfold wrap64; omega
theorem small_l0 (a0 : ByteArray) (l1 : List S62) (l2 : List S39) (hz : SzP l1 l2) : ∀ (d i s : Nat), i + d = l2.length → s ≤ 100000000000000 →
    ∃ b, Ev (fun k => ballcockref09_Small.l0 k (s : Int) (i : Int) a0 l1 l2) b ∧ (b = true → s ≤ 80 ∧ ∀ m ∈ l2.drop i, m.f2.length ≤ 80) := by
  intro d
  induction d with
  | zero =>
    intro i s hi hs
    refine ⟨decide ((s : Int) ≤ 80), Ev.step (fun k => ballcockref09_Small.l0.eq_2 _ _ _ _ _ k) (Ev.neg (by omega) (Ev.now _)), fun hb => ?_⟩
    have := of_decide_eq_true hb
    refine ⟨by omega, fun m hm => ?_⟩
    rw [List.drop_of_length_le (by omega)] at hm; cases hm
  | succ d ih =>
    intro i s hi hs
    have hil : i < l2.length := by omega
    by_cases h80 : (s : Int) ≤ 80
    · have hm := hz.2.2 _ (rd39_mem hil)
      obtain ⟨b, h1, h2⟩ := ih (i + 1) (s + (rd_T39 l2 i).f2.length) (by omega) (by omega)
      refine ⟨b, Ev.step (fun k => ballcockref09_Small.l0.eq_2 _ _ _ _ _ k) (Ev.pos (by omega) (Ev.pos h80 (Ev.pos (by omega) ?_))), fun hb => ?_⟩
      · rw [wrap_succ (by have := hz.2.1; omega)]
        have : wrap64 ((s : Int) + ((rd_T39 l2 i).f2.length : Int)) = ((s + (rd_T39 l2 i).f2.length : Nat) : Int) := by
          rw [show ((s : Int) + ((rd_T39 l2 i).f2.length : Int)) = ((s + (rd_T39 l2 i).f2.length : Nat) : Int) by omega]
          exact wrap_nat (by omega)
        rw [this]; exact h1
      · obtain ⟨h3, h4⟩ := h2 hb
        refine ⟨by omega, fun m hm => ?_⟩
        rw [drop39 hil] at hm
        rcases List.mem_cons.1 hm with rfl | hm
        · omega
        · exact h4 m hm
    · exact ⟨decide ((s : Int) ≤ 80), Ev.step (fun k => ballcockref09_Small.l0.eq_2 _ _ _ _ _ k) (Ev.pos (by omega) (Ev.neg h80 (Ev.now _))), fun hb => absurd (of_decide_eq_true hb) h80⟩
theorem small_f (a0 : ByteArray) (l1 : List S62) (l2 : List S39) (hz : SzP l1 l2) : ∃ b k, ballcockref09_Small.f k a0 l1 l2 = some b ∧ (b = true → l1.length ≤ 80 ∧ l2.length ≤ 80 ∧ ∀ m ∈ l2, m.f2.length ≤ 80) := by
  obtain ⟨b, h1, h2⟩ := small_l0 a0 l1 l2 hz l2.length 0 (l1.length + l2.length) (by omega) (by have := hz.1; have := hz.2.1; omega)
  obtain ⟨k, hk⟩ := h1.rounds
  refine ⟨b, k, ?_, fun hb => ?_⟩
  · unfold ballcockref09_Small.f
    have : wrap64 ((l1.length : Int) + (l2.length : Int)) = ((l1.length + l2.length : Nat) : Int) := by
      rw [show ((l1.length : Int) + (l2.length : Int)) = ((l1.length + l2.length : Nat) : Int) by omega]
      exact wrap_nat (by have := hz.1; have := hz.2.1; omega)
    rw [this]; exact hk
  · obtain ⟨h3, h4⟩ := h2 hb
    rw [List.drop_zero] at h4
    exact ⟨by omega, by omega, h4⟩

/-! ### Like, of a protocol and itself -/
theorem same_l0 (l : List S42) (hl : l.length ≤ 1000) : ∀ (d i : Nat), i + d = l.length → Ev (fun k => ballcockref09_Same.l0 k l l (i : Int)) true := by
  intro d
  induction d with
  | zero => intro i hi; exact Ev.step (fun k => ballcockref09_Same.l0.eq_2 _ _ _ k) (Ev.neg (by omega) (Ev.now _))
  | succ d ih =>
    intro i hi
    refine Ev.step (fun k => ballcockref09_Same.l0.eq_2 _ _ _ k) (Ev.pos (by omega) (Ev.pos (by omega) (Ev.pos (by omega) (Ev.neg (by simp) ?_))))
    rw [wrap_succ (by omega)]; exact ih (i + 1) (by omega)
theorem same_f (l : List S42) (hl : l.length ≤ 1000) : Ev (fun k => ballcockref09_Same.f k l l) true :=
  Ev.congr (fun k => if_pos rfl) (same_l0 l hl l.length 0 (by omega))
theorem like_l1 (a0 : ByteArray) (l1 : List S62) (l2 : List S39) (hf : Fits l1 l2) : ∀ (d i : Nat), i + d = l2.length → Ev (fun k => ballcockref09_Like.l1 k (i : Int) a0 l1 l2 a0 l1 l2) true := by
  intro d
  induction d with
  | zero => intro i hi; exact Ev.step (fun k => ballcockref09_Like.l1.eq_2 _ _ _ _ _ _ _ k) (Ev.neg (by omega) (Ev.now _))
  | succ d ih =>
    intro i hi
    have hil : i < l2.length := by omega
    refine Ev.step (fun k => ballcockref09_Like.l1.eq_2 _ _ _ _ _ _ _ k) (Ev.pos (by omega) (Ev.pos (by omega) (Ev.pos (by omega) (Ev.pos rfl (Ev.pos rfl ?_)))))
    refine Ev.bind (a := true) (same_f _ (hf.2.2 _ (rd39_mem hil))) (Ev.pos rfl ?_)
    rw [wrap_succ (by have := hf.2.1; omega)]; exact ih (i + 1) (by omega)
theorem like_l0 (a0 : ByteArray) (l1 : List S62) (l2 : List S39) (hf : Fits l1 l2) : ∀ (d i : Nat), i + d = l1.length → Ev (fun k => ballcockref09_Like.l0 k (i : Int) a0 l1 l2 a0 l1 l2) true := by
  intro d
  induction d with
  | zero => intro i hi; exact Ev.step (fun k => ballcockref09_Like.l0.eq_2 _ _ _ _ _ _ _ k) (Ev.neg (by omega) (like_l1 a0 l1 l2 hf l2.length 0 (by omega)))
  | succ d ih =>
    intro i hi
    refine Ev.step (fun k => ballcockref09_Like.l0.eq_2 _ _ _ _ _ _ _ k) (Ev.pos (by omega) (Ev.pos (by omega) (Ev.pos (by omega) (Ev.neg (by simp) ?_))))
    rw [wrap_succ (by have := hf.1; omega)]; exact ih (i + 1) (by omega)
theorem like_f (a0 : ByteArray) (l1 : List S62) (l2 : List S39) (hf : Fits l1 l2) : ∃ k, ballcockref09_Like.f k a0 l1 l2 a0 l1 l2 = some true := by
  have h : Ev (fun k => ballcockref09_Like.f k a0 l1 l2 a0 l1 l2) true := by
    refine Ev.congr (fun k => if_pos rfl) (Ev.congr (fun k => if_pos rfl) ?_)
    refine Ev.step (fun k => ballcockref09_Like.j0.eq_2 _ _ _ _ _ _ _ k) (Ev.neg (by simp) ?_)
    exact like_l0 a0 l1 l2 hf l1.length 0 (by omega)
  exact h.rounds

/-! ### Proto, Finals -/
set_option maxHeartbeats 1000000 in
theorem Proto_calls (g : Nat) (a0 : ByteArray) (l1 : List S62) (l2 : List S39) (w : World) (h : AutoAt w g a0 l1 l2) (hf : Fits l1 l2) :
    Calls Try.prog 18 #[.pointer (some ⟨g, 0, none⟩)] w fun e w' => ∃ A1' c1' A2' c2', e = .returned (.agg #[.string a0, .slice A1' l1.length c1', .slice A2' l2.length c2']) ∧ l1.length ≤ c1' ∧ Kd.C k62 w' A1' l1.length l1 ∧ l2.length ≤ c2' ∧ Kd.C k39 w' A2' l2.length l2 ∧ Below w.heap.size w w' := by
  obtain ⟨A1, c1, A2, c2, hh, k1, p1, k2, p2⟩ := h
  have hg := blk_lt hh
  have hb := (Below.refl w.heap.size w).alloc (Nat.le_refl _) (.cells #[.string ⟨#[]⟩, .slice none 0 0, .slice none 0 0] 25)
  have hh' := (hb.block g hg).trans hh
  have f0 : (w.alloc (.cells #[.string ⟨#[]⟩, .slice none 0 0, .slice none 0 0] 25)).cell? ⟨g, 0, none⟩ = some (.string a0) := by simp [World.cell?, hh']
  have f1 : (w.alloc (.cells #[.string ⟨#[]⟩, .slice none 0 0, .slice none 0 0] 25)).cell? ⟨g, 1, none⟩ = some (.slice A1 l1.length c1) := by simp [World.cell?, hh']
  have f2 : (w.alloc (.cells #[.string ⟨#[]⟩, .slice none 0 0, .slice none 0 0] 25)).cell? ⟨g, 2, none⟩ = some (.slice A2 l2.length c2) := by simp [World.cell?, hh']
  have HC := Lib.hid (clone_own a0 A1 c1 l1 A2 c2 l2 w _ hb p1 k1 p2 k2 hf.1 hf.2.1 hf.2.2)
  clear hh hh' p1 p2 hf
  go_enter Try.func18, Try.ntmps18
  go_wp2_with fail
  refine HC.out.mono ?_
  rintro e w1 ⟨A1', c1', A2', c2', rfl, p1', p2', hb1⟩
  have K1 := Aside0.mk p1'; have K2 := Aside0.mk p2'
  have hbk := (hb1.block w.heap.size (by simp)).trans (heap_alloc_new w _)
  have hlt : w.heap.size < w1.heap.size := blk_lt hbk
  have q0 : w1.cell? ⟨w.heap.size, 0, none⟩ = some (.string ⟨#[]⟩) := by simp [World.cell?, hbk]
  have q1 : w1.cell? ⟨w.heap.size, 1, none⟩ = some (.slice none 0 0) := by simp [World.cell?, hbk]
  have q2 : w1.cell? ⟨w.heap.size, 2, none⟩ = some (.slice none 0 0) := by simp [World.cell?, hbk]
  have z0 : w1.frozen? ⟨w.heap.size, 0, none⟩ = false := by simp [World.frozen?, hbk]
  have z1 : w1.frozen? ⟨w.heap.size, 1, none⟩ = false := by simp [World.frozen?, hbk]
  have z2 : w1.frozen? ⟨w.heap.size, 2, none⟩ = false := by simp [World.frozen?, hbk]
  have HF := Aside0.mk (blk_put (blk_put (blk_put hbk 0 (.string a0) rfl) 1 (.slice A1' l1.length c1') rfl) 2 (.slice A2' l2.length c2') rfl)
  have HE := Aside0.mk (((((bch hb hb1).setCell (p := ⟨w.heap.size, 0, none⟩) (Nat.le_refl _) (.string a0)).setCell (p := ⟨w.heap.size, 1, none⟩) (Nat.le_refl _) (.slice A1' l1.length c1')).setCell (p := ⟨w.heap.size, 2, none⟩) (Nat.le_refl _) (.slice A2' l2.length c2')))
  have HQ : Aside0 (Below (w.alloc (.cells #[.string ⟨#[]⟩, .slice none 0 0, .slice none 0 0] 25)).heap.size (w.alloc (.cells #[.string ⟨#[]⟩, .slice none 0 0, .slice none 0 0] 25)) w1) := ⟨hb1⟩
  clear hbk hb1
  go_wp2
  have hsz : (w.alloc (.cells #[.string ⟨#[]⟩, .slice none 0 0, .slice none 0 0] 25)).heap.size = w.heap.size + 1 := by simp
  obtain ⟨r1, s1⟩ := own_reads62 HE.out (Kd.R_far (Kd.R_far (Kd.R_far (p := ⟨w.heap.size, 0, none⟩) K1.out (fun k hk => by rw [hsz] at hk; simp; omega) (.string a0)) (p := ⟨w.heap.size, 1, none⟩) (fun k hk => by rw [hsz] at hk; simp; omega) (.slice A1' l1.length c1')) (p := ⟨w.heap.size, 2, none⟩) (fun k hk => by rw [hsz] at hk; simp; omega) (.slice A2' l2.length c2'))
  obtain ⟨r2, s2⟩ := own_reads39 HE.out (Kd.R_far (Kd.R_far (Kd.R_far (p := ⟨w.heap.size, 0, none⟩) K2.out (fun k hk => by rw [hsz] at hk; simp; omega) (.string a0)) (p := ⟨w.heap.size, 1, none⟩) (fun k hk => by rw [hsz] at hk; simp; omega) (.slice A1' l1.length c1')) (p := ⟨w.heap.size, 2, none⟩) (fun k hk => by rw [hsz] at hk; simp; omega) (.slice A2' l2.length c2'))
  exact bodyPost_ret (v := .agg #[.string a0, .slice A1' l1.length c1', .slice A2' l2.length c2']) (results_cell_row rfl _ _ w.heap.size 25 #[.string a0, .slice A1' l1.length c1', .slice A2' l2.length c2'] (0, 0) _ rfl HF.out Try.underlying25 rfl (by kernel_rfl)) rfl ⟨_, _, _, _, rfl, r1, s1, r2, s2, HE.out⟩

set_option maxHeartbeats 1000000 in
theorem Finals_calls (g : Nat) (a0 : ByteArray) (l1 : List S62) (l2 : List S39) (w : World) (h : AutoAt w g a0 l1 l2) (hn : l1.length ≤ 16) :
    Calls Try.prog 21 #[.pointer (some ⟨g, 0, none⟩)] w fun e w' => e = .returned (.int .u32 (finS l1 l1.length : Nat)) ∧ Below w.heap.size w w' := by
  obtain ⟨A1, c1, A2, c2, hh, k1, p1, k2, p2⟩ := h
  have f0 : w.cell? ⟨g, 0, none⟩ = some (.string a0) := by simp [World.cell?, hh]
  have f1 : w.cell? ⟨g, 1, none⟩ = some (.slice A1 l1.length c1) := by simp [World.cell?, hh]
  have f2 : w.cell? ⟨g, 2, none⟩ = some (.slice A2 l2.length c2) := by simp [World.cell?, hh]
  obtain ⟨k, hk⟩ := (finals_l0 l1 hn l1.length 0 (by omega)).rounds
  have HC := Lib.hid (auto_finals.calls k a0 A1 c1 l1 A2 c2 l2 _ w p1 k1 p2 k2 hk)
  clear hh p1 p2 hk
  go_enter Try.func21, Try.ntmps21
  go_wp2_with fail
  refine HC.out.mono ?_
  rintro e w1 ⟨rfl, hb1⟩
  go_wp2
  go_ret
  exact ⟨rfl, hb1⟩
end Go.Proofs.Ytkgcfgoaabkcpaa.Pa
