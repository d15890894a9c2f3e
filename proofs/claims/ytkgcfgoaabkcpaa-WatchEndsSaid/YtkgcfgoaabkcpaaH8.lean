import Derived.Test.YtkgcfgoaabkcpaaB8
import Derived.Test.YtkgcfgoaabkcpaaPa20
namespace Go.Proofs.Ytkgcfgoaabkcpaa.Pa
open Go.RowKit Go.Proofs.YtkgcfgoaabkcpaaW.PrintWords Go.Proofs.YtkgcfgoaabkcpaaW.PrintLast Go.Proofs.YtkgcfgoaabkcpaaW.PrintMore
set_option linter.unusedVariables false
set_option linter.unusedSimpArgs false

/-! ### The reference's protocols -/
theorem C_of_blk {α : Type} {d : Kd α} {W : World} {g e : Nat} {xs : List α} {inner : List Value} (hb : W.heap[g]? = some (.cells inner.toArray e (0, 0))) (hr : Reps (d.K W) d.sz xs inner) (hn : xs.length ≤ 1000) : Kd.C d W (some ⟨g, 0, none⟩) xs.length xs := by
  refine ⟨rfl, by omega, fun _ => ⟨_, rfl, fun j p hj => ⟨_, ?_, hr.2 j p hj, fun i u hu => ?_⟩⟩⟩
  · exact d.K_len (hr.2 j p hj)
  · rw [add_plain, blk_cell hb]
    have hlen := d.K_len (hr.2 j p hj)
    have hi : i < d.sz := by
      rw [← hlen]; exact (List.getElem?_eq_some_iff.1 hu).1
    rw [List.getElem?_take_of_lt hi, List.getElem?_drop] at hu
    rw [List.getElem?_toArray]
    exact hu
theorem out_c (nm : ByteArray) (t : Int) (w : World) : Calls Try.prog 71 #[.string nm, .int .i64 t] w fun e w' => e = .returned (.agg #[.string nm, .int .i64 t]) ∧ Below w.heap.size w w' :=
  ballcockref10_out.calls nm t nm t w rfl
set_option maxHeartbeats 1000000 in
theorem move_c (op : ByteArray) (fr : Int) (A : Option Addr) (n c : Nat) (w : World) : Calls Try.prog 70 #[.string op, .int .i64 fr, .slice A n c] w fun e w' => e = .returned (.agg #[.string op, .int .i64 fr, .slice A n c]) ∧ Below w.heap.size w w' := by
  go_enter Try.func70, Try.ntmps70
  go_wp2
  refine bodyPost_ret (v := .agg #[.string op, .int .i64 fr, .slice A n c]) (results_cell_row rfl _ _ w.heap.size 39 #[.string op, .int .i64 fr, .slice A n c] (0, 0) _ rfl (heap_alloc_new _ _) Try.underlying39 rfl (by kernel_rfl)) rfl ⟨rfl, (Below.refl w.heap.size w).alloc (Nat.le_refl _) _⟩
theorem states3 (a b c : ByteArray) : ∃ k, ballcockref10_states.f k [a, b, c] = some [⟨a, false⟩, ⟨b, false⟩, ⟨c, true⟩] := ⟨10, by kernel_rfl⟩
theorem states4 (a b c d : ByteArray) : ∃ k, ballcockref10_states.f k [a, b, c, d] = some [⟨a, false⟩, ⟨b, false⟩, ⟨c, false⟩, ⟨d, true⟩] := ⟨10, by kernel_rfl⟩
theorem states2 (a b : ByteArray) : ∃ k, ballcockref10_states.f k [a, b] = some [⟨a, false⟩, ⟨b, true⟩] := ⟨10, by kernel_rfl⟩
/-- A row of names handed to states. -/
theorem states_c (names : List ByteArray) (r : List S62) (g : Nat) (w : World) (hb : w.heap[g]? = some (.cells (pw_strs names).toArray 9 (0, 0))) (hn : names.length ≤ 1000) (hf : ∃ k, ballcockref10_states.f k names = some r) :
    Calls Try.prog 69 #[.slice (some ⟨g, 0, none⟩) names.length names.length] w fun e w' => ∃ A c, e = .returned (.slice A r.length c) ∧ r.length ≤ c ∧ Kd.C k62 w' A r.length r ∧ Below w.heap.size w w' := by
  obtain ⟨k, hk⟩ := hf
  have hC : Kd.C Kd.string w (some ⟨g, 0, none⟩) names.length names := C_of_blk hb ⟨by simp [pw_strs, Kd.string, Kd.scalar], fun j p hj => by
    show _ = [Value.string p]
    simp only [Kd.string, Kd.scalar, Nat.mul_one, pw_strs]
    rw [List.take_one, List.head?_drop, List.getElem?_map, hj]; rfl⟩ hn
  refine (ballcockref10_states.calls k _ names.length names r w hC (Nat.le_refl _) hk).mono ?_
  rintro e w' ⟨v, rfl, hR, hb⟩
  obtain ⟨A, c, rfl, h1, h2⟩ := Kd.R_reads hR
  exact ⟨A, c, rfl, h1, h2, hb⟩
/-! All -/
theorem heap2 (w : World) (o1 o2 : Obj) : ((w.alloc o1).alloc o2).heap[w.heap.size + 1]? = some o2 := by
  have := heap_alloc_new (w.alloc o1) o2
  rwa [show (w.alloc o1).heap.size = w.heap.size + 1 by simp] at this
theorem blkfact1 {w w' : World} {o : Obj} (hb : Below (w.alloc o).heap.size (w.alloc o) w') : w'.heap[w.heap.size]? = some o ∧ Below w.heap.size w w' :=
  ⟨blk_below (heap_alloc_new w o) hb, bch ((Below.refl _ _).alloc (Nat.le_refl _) _) hb⟩
theorem blkfact2 {w w' : World} {o1 o2 : Obj} (hb : Below ((w.alloc o1).alloc o2).heap.size ((w.alloc o1).alloc o2) w') : w'.heap[w.heap.size]? = some o1 ∧ w'.heap[w.heap.size + 1]? = some o2 ∧ Below w.heap.size w w' :=
  ⟨blk_below (blk_alloc (heap_alloc_new w o1) o2) hb, blk_below (heap2 w o1 o2) hb, bch (((Below.refl _ _).alloc (Nat.le_refl _) _).alloc (by simp) _) hb⟩
def pF : S25 := ⟨⟨#[70, 105, 108, 101]⟩, [⟨⟨#[79, 112, 101, 110]⟩, false⟩, ⟨⟨#[69, 110, 100]⟩, false⟩, ⟨⟨#[83, 104, 117, 116]⟩, true⟩], [⟨⟨#[114, 101, 97, 100]⟩, 0, [⟨⟨#[115, 111, 109, 101]⟩, 0⟩, ⟨⟨#[110, 111, 110, 101]⟩, 1⟩]⟩, ⟨⟨#[119, 114, 105, 116, 101]⟩, 0, [⟨⟨#[111, 107]⟩, 0⟩, ⟨⟨#[111, 118, 101, 114]⟩, 1⟩]⟩, ⟨⟨#[115, 105, 122, 101]⟩, 0, [⟨⟨#[111, 107]⟩, 0⟩]⟩, ⟨⟨#[115, 105, 122, 101]⟩, 1, [⟨⟨#[111, 107]⟩, 1⟩]⟩, ⟨⟨#[99, 108, 111, 115, 101]⟩, 0, [⟨⟨#[111, 107]⟩, 2⟩]⟩, ⟨⟨#[99, 108, 111, 115, 101]⟩, 1, [⟨⟨#[111, 107]⟩, 2⟩]⟩]⟩
def pS : S25 := ⟨⟨#[83, 111, 99, 107, 101, 116]⟩, [⟨⟨#[70, 114, 101, 115, 104]⟩, false⟩, ⟨⟨#[76, 105, 118, 101]⟩, false⟩, ⟨⟨#[68, 101, 97, 100]⟩, false⟩, ⟨⟨#[67, 108, 111, 115, 101, 100]⟩, true⟩], [⟨⟨#[99, 111, 110, 110, 101, 99, 116]⟩, 0, [⟨⟨#[111, 107]⟩, 1⟩, ⟨⟨#[102, 97, 105, 108]⟩, 2⟩]⟩, ⟨⟨#[115, 101, 110, 100]⟩, 1, [⟨⟨#[111, 107]⟩, 1⟩, ⟨⟨#[108, 111, 115, 116]⟩, 2⟩]⟩, ⟨⟨#[114, 101, 99, 118]⟩, 1, [⟨⟨#[115, 111, 109, 101]⟩, 1⟩, ⟨⟨#[110, 111, 110, 101]⟩, 1⟩, ⟨⟨#[108, 111, 115, 116]⟩, 2⟩]⟩, ⟨⟨#[112, 101, 101, 107]⟩, 1, [⟨⟨#[115, 111, 109, 101]⟩, 1⟩, ⟨⟨#[110, 111, 110, 101]⟩, 1⟩]⟩, ⟨⟨#[99, 108, 111, 115, 101]⟩, 0, [⟨⟨#[111, 107]⟩, 3⟩]⟩, ⟨⟨#[99, 108, 111, 115, 101]⟩, 1, [⟨⟨#[111, 107]⟩, 3⟩]⟩, ⟨⟨#[99, 108, 111, 115, 101]⟩, 2, [⟨⟨#[111, 107]⟩, 3⟩]⟩]⟩
def pI : S25 := ⟨⟨#[73, 116, 101, 114]⟩, [⟨⟨#[82, 101, 97, 100, 121]⟩, false⟩, ⟨⟨#[79, 118, 101, 114]⟩, true⟩], [⟨⟨#[110, 101, 120, 116]⟩, 0, [⟨⟨#[105, 116, 101, 109]⟩, 0⟩, ⟨⟨#[100, 111, 110, 101]⟩, 1⟩]⟩, ⟨⟨#[115, 116, 111, 112]⟩, 0, [⟨⟨#[111, 107]⟩, 1⟩]⟩, ⟨⟨#[108, 101, 102, 116]⟩, 0, [⟨⟨#[111, 107]⟩, 0⟩]⟩]⟩
def allP : List S25 := [pF, pS, pI]
set_option maxRecDepth 100000 in
set_option maxHeartbeats 16000000 in
theorem All_calls (w : World) : Calls Try.prog 36 #[] w fun e w' => ∃ A c, e = .returned (.slice A 3 c) ∧ 3 ≤ c ∧ Kd.C k25 w' A 3 allP ∧ Below w.heap.size w w' := by
  go_enter Try.func36, Try.ntmps36
  go_wp2_with fail
  refine (states_c [⟨#[79, 112, 101, 110]⟩, ⟨#[69, 110, 100]⟩, ⟨#[83, 104, 117, 116]⟩] [⟨⟨#[79, 112, 101, 110]⟩, false⟩, ⟨⟨#[69, 110, 100]⟩, false⟩, ⟨⟨#[83, 104, 117, 116]⟩, true⟩] (w.heap.size) _ (heap_alloc_new w _) (by decide) (states3 _ _ _)).mono ?_
  rintro e w2 ⟨A2, c2, rfl, hc2, hC2, hb⟩
  have HC2 := Aside0.mk hC2
  clear hC2
  obtain ⟨hk1, hq⟩ := blkfact1 hb
  have HK1 := Aside0.mk hk1
  have HB2 := Aside0.mk hq
  clear hb hq hk1
  go_wp2_with fail
  refine (out_c ⟨#[115, 111, 109, 101]⟩ 0 _).mono ?_
  rintro e w3 ⟨rfl, hb⟩
  have HB3 := Aside0.mk hb
  clear hb
  go_wp2_with fail
  refine (out_c ⟨#[110, 111, 110, 101]⟩ 1 _).mono ?_
  rintro e w4 ⟨rfl, hb⟩
  have HB4 := Aside0.mk hb
  clear hb
  go_wp2_with fail
  refine (move_c ⟨#[114, 101, 97, 100]⟩ 0 _ _ _ _).mono ?_
  rintro e w6 ⟨rfl, hb⟩
  obtain ⟨hk5, hq⟩ := blkfact1 hb
  have HK5 := Aside0.mk hk5
  have HB6 := Aside0.mk hq
  clear hb hq hk5
  go_wp2_with fail
  refine (out_c ⟨#[111, 107]⟩ 0 _).mono ?_
  rintro e w7 ⟨rfl, hb⟩
  have HB7 := Aside0.mk hb
  clear hb
  go_wp2_with fail
  refine (out_c ⟨#[111, 118, 101, 114]⟩ 1 _).mono ?_
  rintro e w8 ⟨rfl, hb⟩
  have HB8 := Aside0.mk hb
  clear hb
  go_wp2_with fail
  refine (move_c ⟨#[119, 114, 105, 116, 101]⟩ 0 _ _ _ _).mono ?_
  rintro e w10 ⟨rfl, hb⟩
  obtain ⟨hk9, hq⟩ := blkfact1 hb
  have HK9 := Aside0.mk hk9
  have HB10 := Aside0.mk hq
  clear hb hq hk9
  go_wp2_with fail
  refine (out_c ⟨#[111, 107]⟩ 0 _).mono ?_
  rintro e w11 ⟨rfl, hb⟩
  have HB11 := Aside0.mk hb
  clear hb
  go_wp2_with fail
  refine (move_c ⟨#[115, 105, 122, 101]⟩ 0 _ _ _ _).mono ?_
  rintro e w13 ⟨rfl, hb⟩
  obtain ⟨hk12, hq⟩ := blkfact1 hb
  have HK12 := Aside0.mk hk12
  have HB13 := Aside0.mk hq
  clear hb hq hk12
  go_wp2_with fail
  refine (out_c ⟨#[111, 107]⟩ 1 _).mono ?_
  rintro e w14 ⟨rfl, hb⟩
  have HB14 := Aside0.mk hb
  clear hb
  go_wp2_with fail
  refine (move_c ⟨#[115, 105, 122, 101]⟩ 1 _ _ _ _).mono ?_
  rintro e w16 ⟨rfl, hb⟩
  obtain ⟨hk15, hq⟩ := blkfact1 hb
  have HK15 := Aside0.mk hk15
  have HB16 := Aside0.mk hq
  clear hb hq hk15
  go_wp2_with fail
  refine (out_c ⟨#[111, 107]⟩ 2 _).mono ?_
  rintro e w17 ⟨rfl, hb⟩
  have HB17 := Aside0.mk hb
  clear hb
  go_wp2_with fail
  refine (move_c ⟨#[99, 108, 111, 115, 101]⟩ 0 _ _ _ _).mono ?_
  rintro e w19 ⟨rfl, hb⟩
  obtain ⟨hk18, hq⟩ := blkfact1 hb
  have HK18 := Aside0.mk hk18
  have HB19 := Aside0.mk hq
  clear hb hq hk18
  go_wp2_with fail
  refine (out_c ⟨#[111, 107]⟩ 2 _).mono ?_
  rintro e w20 ⟨rfl, hb⟩
  have HB20 := Aside0.mk hb
  clear hb
  go_wp2_with fail
  refine (move_c ⟨#[99, 108, 111, 115, 101]⟩ 1 _ _ _ _).mono ?_
  rintro e w22 ⟨rfl, hb⟩
  obtain ⟨hk21, hq⟩ := blkfact1 hb
  have HK21 := Aside0.mk hk21
  have HB22 := Aside0.mk hq
  clear hb hq hk21
  go_wp2_with fail
  refine (states_c [⟨#[70, 114, 101, 115, 104]⟩, ⟨#[76, 105, 118, 101]⟩, ⟨#[68, 101, 97, 100]⟩, ⟨#[67, 108, 111, 115, 101, 100]⟩] [⟨⟨#[70, 114, 101, 115, 104]⟩, false⟩, ⟨⟨#[76, 105, 118, 101]⟩, false⟩, ⟨⟨#[68, 101, 97, 100]⟩, false⟩, ⟨⟨#[67, 108, 111, 115, 101, 100]⟩, true⟩] (w22.heap.size + 1) _ (heap2 w22 _ _) (by decide) (states4 _ _ _ _)).mono ?_
  rintro e w26 ⟨A26, c26, rfl, hc26, hC26, hb⟩
  have HC26 := Aside0.mk hC26
  clear hC26
  obtain ⟨hk23, hk25, hq⟩ := blkfact2 hb
  have HK23 := Aside0.mk hk23
  have HK25 := Aside0.mk hk25
  have HB26 := Aside0.mk hq
  clear hb hq hk23 hk25
  go_wp2_with fail
  refine (out_c ⟨#[111, 107]⟩ 1 _).mono ?_
  rintro e w27 ⟨rfl, hb⟩
  have HB27 := Aside0.mk hb
  clear hb
  go_wp2_with fail
  refine (out_c ⟨#[102, 97, 105, 108]⟩ 2 _).mono ?_
  rintro e w28 ⟨rfl, hb⟩
  have HB28 := Aside0.mk hb
  clear hb
  go_wp2_with fail
  refine (move_c ⟨#[99, 111, 110, 110, 101, 99, 116]⟩ 0 _ _ _ _).mono ?_
  rintro e w30 ⟨rfl, hb⟩
  obtain ⟨hk29, hq⟩ := blkfact1 hb
  have HK29 := Aside0.mk hk29
  have HB30 := Aside0.mk hq
  clear hb hq hk29
  go_wp2_with fail
  refine (out_c ⟨#[111, 107]⟩ 1 _).mono ?_
  rintro e w31 ⟨rfl, hb⟩
  have HB31 := Aside0.mk hb
  clear hb
  go_wp2_with fail
  refine (out_c ⟨#[108, 111, 115, 116]⟩ 2 _).mono ?_
  rintro e w32 ⟨rfl, hb⟩
  have HB32 := Aside0.mk hb
  clear hb
  go_wp2_with fail
  refine (move_c ⟨#[115, 101, 110, 100]⟩ 1 _ _ _ _).mono ?_
  rintro e w34 ⟨rfl, hb⟩
  obtain ⟨hk33, hq⟩ := blkfact1 hb
  have HK33 := Aside0.mk hk33
  have HB34 := Aside0.mk hq
  clear hb hq hk33
  go_wp2_with fail
  refine (out_c ⟨#[115, 111, 109, 101]⟩ 1 _).mono ?_
  rintro e w35 ⟨rfl, hb⟩
  have HB35 := Aside0.mk hb
  clear hb
  go_wp2_with fail
  refine (out_c ⟨#[110, 111, 110, 101]⟩ 1 _).mono ?_
  rintro e w36 ⟨rfl, hb⟩
  have HB36 := Aside0.mk hb
  clear hb
  go_wp2_with fail
  refine (out_c ⟨#[108, 111, 115, 116]⟩ 2 _).mono ?_
  rintro e w37 ⟨rfl, hb⟩
  have HB37 := Aside0.mk hb
  clear hb
  go_wp2_with fail
  refine (move_c ⟨#[114, 101, 99, 118]⟩ 1 _ _ _ _).mono ?_
  rintro e w39 ⟨rfl, hb⟩
  obtain ⟨hk38, hq⟩ := blkfact1 hb
  have HK38 := Aside0.mk hk38
  have HB39 := Aside0.mk hq
  clear hb hq hk38
  go_wp2_with fail
  refine (out_c ⟨#[115, 111, 109, 101]⟩ 1 _).mono ?_
  rintro e w40 ⟨rfl, hb⟩
  have HB40 := Aside0.mk hb
  clear hb
  go_wp2_with fail
  refine (out_c ⟨#[110, 111, 110, 101]⟩ 1 _).mono ?_
  rintro e w41 ⟨rfl, hb⟩
  have HB41 := Aside0.mk hb
  clear hb
  go_wp2_with fail
  refine (move_c ⟨#[112, 101, 101, 107]⟩ 1 _ _ _ _).mono ?_
  rintro e w43 ⟨rfl, hb⟩
  obtain ⟨hk42, hq⟩ := blkfact1 hb
  have HK42 := Aside0.mk hk42
  have HB43 := Aside0.mk hq
  clear hb hq hk42
  go_wp2_with fail
  refine (out_c ⟨#[111, 107]⟩ 3 _).mono ?_
  rintro e w44 ⟨rfl, hb⟩
  have HB44 := Aside0.mk hb
  clear hb
  go_wp2_with fail
  refine (move_c ⟨#[99, 108, 111, 115, 101]⟩ 0 _ _ _ _).mono ?_
  rintro e w46 ⟨rfl, hb⟩
  obtain ⟨hk45, hq⟩ := blkfact1 hb
  have HK45 := Aside0.mk hk45
  have HB46 := Aside0.mk hq
  clear hb hq hk45
  go_wp2_with fail
  refine (out_c ⟨#[111, 107]⟩ 3 _).mono ?_
  rintro e w47 ⟨rfl, hb⟩
  have HB47 := Aside0.mk hb
  clear hb
  go_wp2_with fail
  refine (move_c ⟨#[99, 108, 111, 115, 101]⟩ 1 _ _ _ _).mono ?_
  rintro e w49 ⟨rfl, hb⟩
  obtain ⟨hk48, hq⟩ := blkfact1 hb
  have HK48 := Aside0.mk hk48
  have HB49 := Aside0.mk hq
  clear hb hq hk48
  go_wp2_with fail
  refine (out_c ⟨#[111, 107]⟩ 3 _).mono ?_
  rintro e w50 ⟨rfl, hb⟩
  have HB50 := Aside0.mk hb
  clear hb
  go_wp2_with fail
  refine (move_c ⟨#[99, 108, 111, 115, 101]⟩ 2 _ _ _ _).mono ?_
  rintro e w52 ⟨rfl, hb⟩
  obtain ⟨hk51, hq⟩ := blkfact1 hb
  have HK51 := Aside0.mk hk51
  have HB52 := Aside0.mk hq
  clear hb hq hk51
  go_wp2_with fail
  refine (states_c [⟨#[82, 101, 97, 100, 121]⟩, ⟨#[79, 118, 101, 114]⟩] [⟨⟨#[82, 101, 97, 100, 121]⟩, false⟩, ⟨⟨#[79, 118, 101, 114]⟩, true⟩] (w52.heap.size + 1) _ (heap2 w52 _ _) (by decide) (states2 _ _)).mono ?_
  rintro e w56 ⟨A56, c56, rfl, hc56, hC56, hb⟩
  have HC56 := Aside0.mk hC56
  clear hC56
  obtain ⟨hk53, hk55, hq⟩ := blkfact2 hb
  have HK53 := Aside0.mk hk53
  have HK55 := Aside0.mk hk55
  have HB56 := Aside0.mk hq
  clear hb hq hk53 hk55
  go_wp2_with fail
  refine (out_c ⟨#[105, 116, 101, 109]⟩ 0 _).mono ?_
  rintro e w57 ⟨rfl, hb⟩
  have HB57 := Aside0.mk hb
  clear hb
  go_wp2_with fail
  refine (out_c ⟨#[100, 111, 110, 101]⟩ 1 _).mono ?_
  rintro e w58 ⟨rfl, hb⟩
  have HB58 := Aside0.mk hb
  clear hb
  go_wp2_with fail
  refine (move_c ⟨#[110, 101, 120, 116]⟩ 0 _ _ _ _).mono ?_
  rintro e w60 ⟨rfl, hb⟩
  obtain ⟨hk59, hq⟩ := blkfact1 hb
  have HK59 := Aside0.mk hk59
  have HB60 := Aside0.mk hq
  clear hb hq hk59
  go_wp2_with fail
  refine (out_c ⟨#[111, 107]⟩ 1 _).mono ?_
  rintro e w61 ⟨rfl, hb⟩
  have HB61 := Aside0.mk hb
  clear hb
  go_wp2_with fail
  refine (move_c ⟨#[115, 116, 111, 112]⟩ 0 _ _ _ _).mono ?_
  rintro e w63 ⟨rfl, hb⟩
  obtain ⟨hk62, hq⟩ := blkfact1 hb
  have HK62 := Aside0.mk hk62
  have HB63 := Aside0.mk hq
  clear hb hq hk62
  go_wp2_with fail
  refine (out_c ⟨#[111, 107]⟩ 0 _).mono ?_
  rintro e w64 ⟨rfl, hb⟩
  have HB64 := Aside0.mk hb
  clear hb
  go_wp2_with fail
  refine (move_c ⟨#[108, 101, 102, 116]⟩ 0 _ _ _ _).mono ?_
  rintro e w66 ⟨rfl, hb⟩
  obtain ⟨hk65, hq⟩ := blkfact1 hb
  have HK65 := Aside0.mk hk65
  have HB66 := Aside0.mk hq
  clear hb hq hk65
  go_wp2
  go_ret
  generalize hF : (w66.alloc _).alloc _ = wF
  obtain ⟨hk67, hk69, cF⟩ : wF.heap[w66.heap.size]? = some (.cells #[.string ⟨#[110, 101, 120, 116]⟩, .int .i64 0, .slice (some ⟨w58.heap.size, 0, none⟩) 2 2, .string ⟨#[115, 116, 111, 112]⟩, .int .i64 0, .slice (some ⟨w61.heap.size, 0, none⟩) 1 1, .string ⟨#[108, 101, 102, 116]⟩, .int .i64 0, .slice (some ⟨w64.heap.size, 0, none⟩) 1 1] 39 (0, 0)) ∧ wF.heap[w66.heap.size + 1]? = some (.cells #[.string ⟨#[70, 105, 108, 101]⟩, .slice A2 3 c2, .slice (some ⟨w22.heap.size, 0, none⟩) 6 6, .string ⟨#[83, 111, 99, 107, 101, 116]⟩, .slice A26 4 c26, .slice (some ⟨w52.heap.size, 0, none⟩) 7 7, .string ⟨#[73, 116, 101, 114]⟩, .slice A56 2 c56, .slice (some ⟨w66.heap.size, 0, none⟩) 3 3] 25 (0, 0)) ∧ Below w66.heap.size w66 wF := by rw [← hF]; exact blkfact2 (Below.refl _ _)
  have d66 := cF
  have d64 := bch HB66.out d66
  have d63 := bch HB64.out d64
  have d61 := bch HB63.out d63
  have d60 := bch HB61.out d61
  have d58 := bch HB60.out d60
  have d57 := bch HB58.out d58
  have d56 := bch HB57.out d57
  have d52 := bch HB56.out d56
  have d50 := bch HB52.out d52
  have d49 := bch HB50.out d50
  have d47 := bch HB49.out d49
  have d46 := bch HB47.out d47
  have d44 := bch HB46.out d46
  have d43 := bch HB44.out d44
  have d41 := bch HB43.out d43
  have d40 := bch HB41.out d41
  have d39 := bch HB40.out d40
  have d37 := bch HB39.out d39
  have d36 := bch HB37.out d37
  have d35 := bch HB36.out d36
  have d34 := bch HB35.out d35
  have d32 := bch HB34.out d34
  have d31 := bch HB32.out d32
  have d30 := bch HB31.out d31
  have d28 := bch HB30.out d30
  have d27 := bch HB28.out d28
  have d26 := bch HB27.out d27
  have d22 := bch HB26.out d26
  have d20 := bch HB22.out d22
  have d19 := bch HB20.out d20
  have d17 := bch HB19.out d19
  have d16 := bch HB17.out d17
  have d14 := bch HB16.out d16
  have d13 := bch HB14.out d14
  have d11 := bch HB13.out d13
  have d10 := bch HB11.out d11
  have d8 := bch HB10.out d10
  have d7 := bch HB8.out d8
  have d6 := bch HB7.out d7
  have d4 := bch HB6.out d6
  have d3 := bch HB4.out d4
  have d2 := bch HB3.out d3
  have d0 := bch HB2.out d2
  have r5 : Kd.C k42 wF (some ⟨w4.heap.size, 0, none⟩) 2 [⟨⟨#[115, 111, 109, 101]⟩, 0⟩, ⟨⟨#[110, 111, 110, 101]⟩, 1⟩] := C_of_blk (d := k42) (xs := [⟨⟨#[115, 111, 109, 101]⟩, 0⟩, ⟨⟨#[110, 111, 110, 101]⟩, 1⟩]) (blk_below HK5.out d6) (Reps.snoc (Reps.snoc (Reps.none _ _) (k42_mk wF ⟨⟨#[115, 111, 109, 101]⟩, 0⟩) rfl) (k42_mk wF ⟨⟨#[110, 111, 110, 101]⟩, 1⟩) rfl) (by decide)
  have r9 : Kd.C k42 wF (some ⟨w8.heap.size, 0, none⟩) 2 [⟨⟨#[111, 107]⟩, 0⟩, ⟨⟨#[111, 118, 101, 114]⟩, 1⟩] := C_of_blk (d := k42) (xs := [⟨⟨#[111, 107]⟩, 0⟩, ⟨⟨#[111, 118, 101, 114]⟩, 1⟩]) (blk_below HK9.out d10) (Reps.snoc (Reps.snoc (Reps.none _ _) (k42_mk wF ⟨⟨#[111, 107]⟩, 0⟩) rfl) (k42_mk wF ⟨⟨#[111, 118, 101, 114]⟩, 1⟩) rfl) (by decide)
  have r12 : Kd.C k42 wF (some ⟨w11.heap.size, 0, none⟩) 1 [⟨⟨#[111, 107]⟩, 0⟩] := C_of_blk (d := k42) (xs := [⟨⟨#[111, 107]⟩, 0⟩]) (blk_below HK12.out d13) (Reps.snoc (Reps.none _ _) (k42_mk wF ⟨⟨#[111, 107]⟩, 0⟩) rfl) (by decide)
  have r15 : Kd.C k42 wF (some ⟨w14.heap.size, 0, none⟩) 1 [⟨⟨#[111, 107]⟩, 1⟩] := C_of_blk (d := k42) (xs := [⟨⟨#[111, 107]⟩, 1⟩]) (blk_below HK15.out d16) (Reps.snoc (Reps.none _ _) (k42_mk wF ⟨⟨#[111, 107]⟩, 1⟩) rfl) (by decide)
  have r18 : Kd.C k42 wF (some ⟨w17.heap.size, 0, none⟩) 1 [⟨⟨#[111, 107]⟩, 2⟩] := C_of_blk (d := k42) (xs := [⟨⟨#[111, 107]⟩, 2⟩]) (blk_below HK18.out d19) (Reps.snoc (Reps.none _ _) (k42_mk wF ⟨⟨#[111, 107]⟩, 2⟩) rfl) (by decide)
  have r21 : Kd.C k42 wF (some ⟨w20.heap.size, 0, none⟩) 1 [⟨⟨#[111, 107]⟩, 2⟩] := C_of_blk (d := k42) (xs := [⟨⟨#[111, 107]⟩, 2⟩]) (blk_below HK21.out d22) (Reps.snoc (Reps.none _ _) (k42_mk wF ⟨⟨#[111, 107]⟩, 2⟩) rfl) (by decide)
  have r29 : Kd.C k42 wF (some ⟨w28.heap.size, 0, none⟩) 2 [⟨⟨#[111, 107]⟩, 1⟩, ⟨⟨#[102, 97, 105, 108]⟩, 2⟩] := C_of_blk (d := k42) (xs := [⟨⟨#[111, 107]⟩, 1⟩, ⟨⟨#[102, 97, 105, 108]⟩, 2⟩]) (blk_below HK29.out d30) (Reps.snoc (Reps.snoc (Reps.none _ _) (k42_mk wF ⟨⟨#[111, 107]⟩, 1⟩) rfl) (k42_mk wF ⟨⟨#[102, 97, 105, 108]⟩, 2⟩) rfl) (by decide)
  have r33 : Kd.C k42 wF (some ⟨w32.heap.size, 0, none⟩) 2 [⟨⟨#[111, 107]⟩, 1⟩, ⟨⟨#[108, 111, 115, 116]⟩, 2⟩] := C_of_blk (d := k42) (xs := [⟨⟨#[111, 107]⟩, 1⟩, ⟨⟨#[108, 111, 115, 116]⟩, 2⟩]) (blk_below HK33.out d34) (Reps.snoc (Reps.snoc (Reps.none _ _) (k42_mk wF ⟨⟨#[111, 107]⟩, 1⟩) rfl) (k42_mk wF ⟨⟨#[108, 111, 115, 116]⟩, 2⟩) rfl) (by decide)
  have r38 : Kd.C k42 wF (some ⟨w37.heap.size, 0, none⟩) 3 [⟨⟨#[115, 111, 109, 101]⟩, 1⟩, ⟨⟨#[110, 111, 110, 101]⟩, 1⟩, ⟨⟨#[108, 111, 115, 116]⟩, 2⟩] := C_of_blk (d := k42) (xs := [⟨⟨#[115, 111, 109, 101]⟩, 1⟩, ⟨⟨#[110, 111, 110, 101]⟩, 1⟩, ⟨⟨#[108, 111, 115, 116]⟩, 2⟩]) (blk_below HK38.out d39) (Reps.snoc (Reps.snoc (Reps.snoc (Reps.none _ _) (k42_mk wF ⟨⟨#[115, 111, 109, 101]⟩, 1⟩) rfl) (k42_mk wF ⟨⟨#[110, 111, 110, 101]⟩, 1⟩) rfl) (k42_mk wF ⟨⟨#[108, 111, 115, 116]⟩, 2⟩) rfl) (by decide)
  have r42 : Kd.C k42 wF (some ⟨w41.heap.size, 0, none⟩) 2 [⟨⟨#[115, 111, 109, 101]⟩, 1⟩, ⟨⟨#[110, 111, 110, 101]⟩, 1⟩] := C_of_blk (d := k42) (xs := [⟨⟨#[115, 111, 109, 101]⟩, 1⟩, ⟨⟨#[110, 111, 110, 101]⟩, 1⟩]) (blk_below HK42.out d43) (Reps.snoc (Reps.snoc (Reps.none _ _) (k42_mk wF ⟨⟨#[115, 111, 109, 101]⟩, 1⟩) rfl) (k42_mk wF ⟨⟨#[110, 111, 110, 101]⟩, 1⟩) rfl) (by decide)
  have r45 : Kd.C k42 wF (some ⟨w44.heap.size, 0, none⟩) 1 [⟨⟨#[111, 107]⟩, 3⟩] := C_of_blk (d := k42) (xs := [⟨⟨#[111, 107]⟩, 3⟩]) (blk_below HK45.out d46) (Reps.snoc (Reps.none _ _) (k42_mk wF ⟨⟨#[111, 107]⟩, 3⟩) rfl) (by decide)
  have r48 : Kd.C k42 wF (some ⟨w47.heap.size, 0, none⟩) 1 [⟨⟨#[111, 107]⟩, 3⟩] := C_of_blk (d := k42) (xs := [⟨⟨#[111, 107]⟩, 3⟩]) (blk_below HK48.out d49) (Reps.snoc (Reps.none _ _) (k42_mk wF ⟨⟨#[111, 107]⟩, 3⟩) rfl) (by decide)
  have r51 : Kd.C k42 wF (some ⟨w50.heap.size, 0, none⟩) 1 [⟨⟨#[111, 107]⟩, 3⟩] := C_of_blk (d := k42) (xs := [⟨⟨#[111, 107]⟩, 3⟩]) (blk_below HK51.out d52) (Reps.snoc (Reps.none _ _) (k42_mk wF ⟨⟨#[111, 107]⟩, 3⟩) rfl) (by decide)
  have r59 : Kd.C k42 wF (some ⟨w58.heap.size, 0, none⟩) 2 [⟨⟨#[105, 116, 101, 109]⟩, 0⟩, ⟨⟨#[100, 111, 110, 101]⟩, 1⟩] := C_of_blk (d := k42) (xs := [⟨⟨#[105, 116, 101, 109]⟩, 0⟩, ⟨⟨#[100, 111, 110, 101]⟩, 1⟩]) (blk_below HK59.out d60) (Reps.snoc (Reps.snoc (Reps.none _ _) (k42_mk wF ⟨⟨#[105, 116, 101, 109]⟩, 0⟩) rfl) (k42_mk wF ⟨⟨#[100, 111, 110, 101]⟩, 1⟩) rfl) (by decide)
  have r62 : Kd.C k42 wF (some ⟨w61.heap.size, 0, none⟩) 1 [⟨⟨#[111, 107]⟩, 1⟩] := C_of_blk (d := k42) (xs := [⟨⟨#[111, 107]⟩, 1⟩]) (blk_below HK62.out d63) (Reps.snoc (Reps.none _ _) (k42_mk wF ⟨⟨#[111, 107]⟩, 1⟩) rfl) (by decide)
  have r65 : Kd.C k42 wF (some ⟨w64.heap.size, 0, none⟩) 1 [⟨⟨#[111, 107]⟩, 0⟩] := C_of_blk (d := k42) (xs := [⟨⟨#[111, 107]⟩, 0⟩]) (blk_below HK65.out d66) (Reps.snoc (Reps.none _ _) (k42_mk wF ⟨⟨#[111, 107]⟩, 0⟩) rfl) (by decide)
  have r23 : Kd.C k39 wF (some ⟨w22.heap.size, 0, none⟩) 6 [⟨⟨#[114, 101, 97, 100]⟩, 0, [⟨⟨#[115, 111, 109, 101]⟩, 0⟩, ⟨⟨#[110, 111, 110, 101]⟩, 1⟩]⟩, ⟨⟨#[119, 114, 105, 116, 101]⟩, 0, [⟨⟨#[111, 107]⟩, 0⟩, ⟨⟨#[111, 118, 101, 114]⟩, 1⟩]⟩, ⟨⟨#[115, 105, 122, 101]⟩, 0, [⟨⟨#[111, 107]⟩, 0⟩]⟩, ⟨⟨#[115, 105, 122, 101]⟩, 1, [⟨⟨#[111, 107]⟩, 1⟩]⟩, ⟨⟨#[99, 108, 111, 115, 101]⟩, 0, [⟨⟨#[111, 107]⟩, 2⟩]⟩, ⟨⟨#[99, 108, 111, 115, 101]⟩, 1, [⟨⟨#[111, 107]⟩, 2⟩]⟩] := C_of_blk (d := k39) (xs := [⟨⟨#[114, 101, 97, 100]⟩, 0, [⟨⟨#[115, 111, 109, 101]⟩, 0⟩, ⟨⟨#[110, 111, 110, 101]⟩, 1⟩]⟩, ⟨⟨#[119, 114, 105, 116, 101]⟩, 0, [⟨⟨#[111, 107]⟩, 0⟩, ⟨⟨#[111, 118, 101, 114]⟩, 1⟩]⟩, ⟨⟨#[115, 105, 122, 101]⟩, 0, [⟨⟨#[111, 107]⟩, 0⟩]⟩, ⟨⟨#[115, 105, 122, 101]⟩, 1, [⟨⟨#[111, 107]⟩, 1⟩]⟩, ⟨⟨#[99, 108, 111, 115, 101]⟩, 0, [⟨⟨#[111, 107]⟩, 2⟩]⟩, ⟨⟨#[99, 108, 111, 115, 101]⟩, 1, [⟨⟨#[111, 107]⟩, 2⟩]⟩]) (blk_below HK23.out d26) (Reps.snoc (Reps.snoc (Reps.snoc (Reps.snoc (Reps.snoc (Reps.snoc (Reps.none _ _) (k39_mk wF ⟨⟨#[114, 101, 97, 100]⟩, 0, [⟨⟨#[115, 111, 109, 101]⟩, 0⟩, ⟨⟨#[110, 111, 110, 101]⟩, 1⟩]⟩ (Nat.le_refl _) r5) rfl) (k39_mk wF ⟨⟨#[119, 114, 105, 116, 101]⟩, 0, [⟨⟨#[111, 107]⟩, 0⟩, ⟨⟨#[111, 118, 101, 114]⟩, 1⟩]⟩ (Nat.le_refl _) r9) rfl) (k39_mk wF ⟨⟨#[115, 105, 122, 101]⟩, 0, [⟨⟨#[111, 107]⟩, 0⟩]⟩ (Nat.le_refl _) r12) rfl) (k39_mk wF ⟨⟨#[115, 105, 122, 101]⟩, 1, [⟨⟨#[111, 107]⟩, 1⟩]⟩ (Nat.le_refl _) r15) rfl) (k39_mk wF ⟨⟨#[99, 108, 111, 115, 101]⟩, 0, [⟨⟨#[111, 107]⟩, 2⟩]⟩ (Nat.le_refl _) r18) rfl) (k39_mk wF ⟨⟨#[99, 108, 111, 115, 101]⟩, 1, [⟨⟨#[111, 107]⟩, 2⟩]⟩ (Nat.le_refl _) r21) rfl) (by decide)
  have r53 : Kd.C k39 wF (some ⟨w52.heap.size, 0, none⟩) 7 [⟨⟨#[99, 111, 110, 110, 101, 99, 116]⟩, 0, [⟨⟨#[111, 107]⟩, 1⟩, ⟨⟨#[102, 97, 105, 108]⟩, 2⟩]⟩, ⟨⟨#[115, 101, 110, 100]⟩, 1, [⟨⟨#[111, 107]⟩, 1⟩, ⟨⟨#[108, 111, 115, 116]⟩, 2⟩]⟩, ⟨⟨#[114, 101, 99, 118]⟩, 1, [⟨⟨#[115, 111, 109, 101]⟩, 1⟩, ⟨⟨#[110, 111, 110, 101]⟩, 1⟩, ⟨⟨#[108, 111, 115, 116]⟩, 2⟩]⟩, ⟨⟨#[112, 101, 101, 107]⟩, 1, [⟨⟨#[115, 111, 109, 101]⟩, 1⟩, ⟨⟨#[110, 111, 110, 101]⟩, 1⟩]⟩, ⟨⟨#[99, 108, 111, 115, 101]⟩, 0, [⟨⟨#[111, 107]⟩, 3⟩]⟩, ⟨⟨#[99, 108, 111, 115, 101]⟩, 1, [⟨⟨#[111, 107]⟩, 3⟩]⟩, ⟨⟨#[99, 108, 111, 115, 101]⟩, 2, [⟨⟨#[111, 107]⟩, 3⟩]⟩] := C_of_blk (d := k39) (xs := [⟨⟨#[99, 111, 110, 110, 101, 99, 116]⟩, 0, [⟨⟨#[111, 107]⟩, 1⟩, ⟨⟨#[102, 97, 105, 108]⟩, 2⟩]⟩, ⟨⟨#[115, 101, 110, 100]⟩, 1, [⟨⟨#[111, 107]⟩, 1⟩, ⟨⟨#[108, 111, 115, 116]⟩, 2⟩]⟩, ⟨⟨#[114, 101, 99, 118]⟩, 1, [⟨⟨#[115, 111, 109, 101]⟩, 1⟩, ⟨⟨#[110, 111, 110, 101]⟩, 1⟩, ⟨⟨#[108, 111, 115, 116]⟩, 2⟩]⟩, ⟨⟨#[112, 101, 101, 107]⟩, 1, [⟨⟨#[115, 111, 109, 101]⟩, 1⟩, ⟨⟨#[110, 111, 110, 101]⟩, 1⟩]⟩, ⟨⟨#[99, 108, 111, 115, 101]⟩, 0, [⟨⟨#[111, 107]⟩, 3⟩]⟩, ⟨⟨#[99, 108, 111, 115, 101]⟩, 1, [⟨⟨#[111, 107]⟩, 3⟩]⟩, ⟨⟨#[99, 108, 111, 115, 101]⟩, 2, [⟨⟨#[111, 107]⟩, 3⟩]⟩]) (blk_below HK53.out d56) (Reps.snoc (Reps.snoc (Reps.snoc (Reps.snoc (Reps.snoc (Reps.snoc (Reps.snoc (Reps.none _ _) (k39_mk wF ⟨⟨#[99, 111, 110, 110, 101, 99, 116]⟩, 0, [⟨⟨#[111, 107]⟩, 1⟩, ⟨⟨#[102, 97, 105, 108]⟩, 2⟩]⟩ (Nat.le_refl _) r29) rfl) (k39_mk wF ⟨⟨#[115, 101, 110, 100]⟩, 1, [⟨⟨#[111, 107]⟩, 1⟩, ⟨⟨#[108, 111, 115, 116]⟩, 2⟩]⟩ (Nat.le_refl _) r33) rfl) (k39_mk wF ⟨⟨#[114, 101, 99, 118]⟩, 1, [⟨⟨#[115, 111, 109, 101]⟩, 1⟩, ⟨⟨#[110, 111, 110, 101]⟩, 1⟩, ⟨⟨#[108, 111, 115, 116]⟩, 2⟩]⟩ (Nat.le_refl _) r38) rfl) (k39_mk wF ⟨⟨#[112, 101, 101, 107]⟩, 1, [⟨⟨#[115, 111, 109, 101]⟩, 1⟩, ⟨⟨#[110, 111, 110, 101]⟩, 1⟩]⟩ (Nat.le_refl _) r42) rfl) (k39_mk wF ⟨⟨#[99, 108, 111, 115, 101]⟩, 0, [⟨⟨#[111, 107]⟩, 3⟩]⟩ (Nat.le_refl _) r45) rfl) (k39_mk wF ⟨⟨#[99, 108, 111, 115, 101]⟩, 1, [⟨⟨#[111, 107]⟩, 3⟩]⟩ (Nat.le_refl _) r48) rfl) (k39_mk wF ⟨⟨#[99, 108, 111, 115, 101]⟩, 2, [⟨⟨#[111, 107]⟩, 3⟩]⟩ (Nat.le_refl _) r51) rfl) (by decide)
  have r67 : Kd.C k39 wF (some ⟨w66.heap.size, 0, none⟩) 3 [⟨⟨#[110, 101, 120, 116]⟩, 0, [⟨⟨#[105, 116, 101, 109]⟩, 0⟩, ⟨⟨#[100, 111, 110, 101]⟩, 1⟩]⟩, ⟨⟨#[115, 116, 111, 112]⟩, 0, [⟨⟨#[111, 107]⟩, 1⟩]⟩, ⟨⟨#[108, 101, 102, 116]⟩, 0, [⟨⟨#[111, 107]⟩, 0⟩]⟩] := C_of_blk (d := k39) (xs := [⟨⟨#[110, 101, 120, 116]⟩, 0, [⟨⟨#[105, 116, 101, 109]⟩, 0⟩, ⟨⟨#[100, 111, 110, 101]⟩, 1⟩]⟩, ⟨⟨#[115, 116, 111, 112]⟩, 0, [⟨⟨#[111, 107]⟩, 1⟩]⟩, ⟨⟨#[108, 101, 102, 116]⟩, 0, [⟨⟨#[111, 107]⟩, 0⟩]⟩]) hk67 (Reps.snoc (Reps.snoc (Reps.snoc (Reps.none _ _) (k39_mk wF ⟨⟨#[110, 101, 120, 116]⟩, 0, [⟨⟨#[105, 116, 101, 109]⟩, 0⟩, ⟨⟨#[100, 111, 110, 101]⟩, 1⟩]⟩ (Nat.le_refl _) r59) rfl) (k39_mk wF ⟨⟨#[115, 116, 111, 112]⟩, 0, [⟨⟨#[111, 107]⟩, 1⟩]⟩ (Nat.le_refl _) r62) rfl) (k39_mk wF ⟨⟨#[108, 101, 102, 116]⟩, 0, [⟨⟨#[111, 107]⟩, 0⟩]⟩ (Nat.le_refl _) r65) rfl) (by decide)
  have rF : Kd.C k25 wF (some ⟨w66.heap.size + 1, 0, none⟩) 3 allP := C_of_blk (d := k25) (xs := allP) hk69 (Reps.snoc (Reps.snoc (Reps.snoc (Reps.none _ _) (k25_mk wF pF hc2 (Kd.C_below HC2.out d2) (Nat.le_refl _) r23) rfl) (k25_mk wF pS hc26 (Kd.C_below HC26.out d26) (Nat.le_refl _) r53) rfl) (k25_mk wF pI hc56 (Kd.C_below HC56.out d56) (Nat.le_refl _) r67) rfl) (by decide)
  exact ⟨_, _, rfl, by decide, rF, d0⟩
end Go.Proofs.Ytkgcfgoaabkcpaa.Pa
