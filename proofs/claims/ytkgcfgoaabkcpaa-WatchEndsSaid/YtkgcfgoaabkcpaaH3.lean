import Derived.Test.YtkgcfgoaabkcpaaH2
namespace Go.Proofs.Ytkgcfgoaabkcpaa.Pa
open Go.RowKit Go.Proofs.YtkgcfgoaabkcpaaW.PrintWords Go.Proofs.YtkgcfgoaabkcpaaW.PrintLast Go.Proofs.YtkgcfgoaabkcpaaW.PrintMore
set_option linter.unusedVariables false
set_option linter.unusedSimpArgs false

/-! ### A watch in memory -/
/-- An automaton's address, by its block. -/
def kp : Kd Nat := Kd.scalar (fun g : Nat => Value.pointer (some ⟨g, 0, none⟩)) (fun _ => rfl)
def kh : Kd (Nat × Int) := Kd.pair kp (Kd.int .i64)
theorem kh_M {W : World} {base : Nat} {ok : Nat → Prop} {x : Nat × Int} {cs : List Value} (h : kh.M W base ok x cs) : cs = [.pointer (some ⟨x.1, 0, none⟩), .int .i64 x.2] := by
  obtain ⟨c0, c1, rfl, h0, h1⟩ := h
  rw [show c0 = [Value.pointer (some ⟨x.1, 0, none⟩)] from h0, show c1 = [Value.int .i64 x.2] from h1]; rfl
theorem kh_mk (W : World) (base : Nat) (ok : Nat → Prop) (x : Nat × Int) : kh.M W base ok x [.pointer (some ⟨x.1, 0, none⟩), .int .i64 x.2] := ⟨[_], [_], rfl, rfl, rfl⟩

structure WSt where
  rg : List (Nat × S25)
  hs : List (Nat × Int)
  bad : Int
  ended : Bool
/-- A watch. mu: where its handles may lie. -/
def WatchAt (w0 W : World) (N gm gw : Nat) (mu : Nat → Prop) (s : WSt) : Prop :=
  ∃ D A c, W.heap[gw]? = some (.cells #[.map (some gm), .slice A s.hs.length c, .int .i64 s.bad, .bool s.ended] 121 (0, 0)) ∧ W.ownsMap Try.prog 9 Rp gm s.rg.length D ∧ DatOf D s.rg ∧ kh.R 127 W w0.heap.size mu (.slice A s.hs.length c) s.hs ∧
    (∀ e ∈ s.rg, AutoOwn w0 W (fun k => gw < k ∧ k < N) e.1 e.2) ∧ gm < gw ∧ gw < N ∧ (∀ k, mu k → N ≤ k) ∧ Below w0.heap.size w0 W ∧ w0.heap.size ≤ gm
theorem WatchAt.below {w0 W W' : World} {N gm gw : Nat} {mu : Nat → Prop} {s : WSt} (h : WatchAt w0 W N gm gw mu s) (hb : Below W.heap.size W W') : WatchAt w0 W' N gm gw mu s := by
  obtain ⟨D, A, c, h1, h2, h3, h4, h5, h6, h7, h8, h9, h10⟩ := h
  exact ⟨D, A, c, blk_below h1 hb, h2.kept (grown_of_below hb none) (by simp), h3, Kd.R_below h4 hb, fun e he => (h5 e he).move (fun k _ hk => hb.block k hk), h6, h7, h8, bch h9 hb, h10⟩
theorem WatchAt.drewN {w0 W : World} {N gm gw : Nat} {mu : Nat → Prop} {s : WSt} (h : WatchAt w0 W N gm gw mu s) (n : Nat) : WatchAt w0 (W.drewN n) N gm gw mu s := h.below (pw_below_drewN (Below.refl _ _) n)
theorem WatchAt.mono {w0 W : World} {N gm gw : Nat} {mu mu' : Nat → Prop} {s : WSt} (h : WatchAt w0 W N gm gw mu s) (hm : ∀ k, mu k → mu' k) (hN : ∀ k, mu' k → N ≤ k) : WatchAt w0 W N gm gw mu' s := by
  obtain ⟨D, A, c, h1, h2, h3, h4, h5, h6, h7, h8, h9, h10⟩ := h
  exact ⟨D, A, c, h1, h2, h3, Kd.R_mono h4 hm, h5, h6, h7, hN, h9, h10⟩
theorem WatchAt.of_taking {w0 W : World} {gm gw : Nat} {mu : Nat → Prop} {rg : List (Nat × S25)} (h : Taking w0 W gm gw rg) (hb : Below w0.heap.size w0 W) (hm : w0.heap.size ≤ gm) (hN : ∀ k, mu k → W.heap.size ≤ k) : WatchAt w0 W W.heap.size gm gw mu ⟨rg, [], 0, false⟩ := by
  have hlt := h.lt
  obtain ⟨D, h1, h2, h3, h4, h5⟩ := h
  exact ⟨D, none, 0, h1, h2, h3, Kd.R_nil _ _ _ _ _, fun e he => (h5 e he).bound, h4, hlt, hN, hb, hm⟩
/-- Another world in which only a watch's own blocks have changed. -/
theorem WatchAt.kept_old {w0 W W' : World} {N gm gw : Nat} {mu S : Nat → Prop} {s : WSt} (h : WatchAt w0 W N gm gw mu s) (hk : Kept W W' S) (hS : ∀ k, S k → N ≤ k ∧ ¬ mu k) (hb : Below w0.heap.size w0 W') : WatchAt w0 W' N gm gw mu s := by
  obtain ⟨D, A, c, h1, h2, h3, h4, h5, h6, h7, h8, h9, h10⟩ := h
  have hgm : gm < W.heap.size := h2.lt
  have e1 : W'.heap[gw]? = W.heap[gw]? := hk.2 gw (blk_lt h1) (fun h => by have := (hS _ h).1; omega)
  have e2 : W'.heap[gm]? = W.heap[gm]? := hk.2 gm hgm (fun h => by have := (hS _ h).1; omega)
  obtain ⟨es, cl, m1, m2, m3, m4⟩ := h2
  exact ⟨D, A, c, e1.trans h1, ⟨es, cl, e2.trans m1, m2, m3, m4⟩, h3, Kd.R_step h4 (fun k hk2 hlt => hk.2 k hlt (fun h => (hS _ h).2 hk2)), fun e he => (h5 e he).move (fun k hk2 hlt => hk.2 k hlt (fun h => by have := (hS _ h).1; omega)), h6, h7, h8, hb, h10⟩

/-- A handle's cells. -/
theorem kh_at {W : World} {base n cap : Nat} {mu : Nat → Prop} {A : Option Addr} {hs : List (Nat × Int)} (h : kh.R 127 W base mu (.slice A n cap) hs) {i : Nat} (hi : i < hs.length) :
    ∃ g, A = some ⟨g, 0, none⟩ ∧ mu g ∧ base ≤ g ∧ g < W.heap.size ∧ (∃ cells, W.heap[g]? = some (.cells cells 127 (0, 0))) ∧ W.cell? ⟨g, i * 2, none⟩ = some (.pointer (some ⟨hs[i].1, 0, none⟩)) ∧ W.cell? ⟨g, i * 2 + 1, none⟩ = some (.int .i64 hs[i].2) ∧
      W.frozen? ⟨g, i * 2 + 1, none⟩ = false ∧ ∀ st, kh.R 127 (W.setCell ⟨g, i * 2 + 1, none⟩ (.int .i64 st)) base mu (.slice A n cap) (hs.set i (hs[i].1, st)) ∧ W.grownBy (W.setCell ⟨g, i * 2 + 1, none⟩ (.int .i64 st)) (some g) := by
  obtain ⟨hn, hc, _⟩ := Kd.R_reads' h
  obtain ⟨g, cap', he, hb, hlt, hcells⟩ := Kd.R_form h (by omega)
  injection he with e1 e2 e3
  subst e1
  have hR := h
  obtain ⟨c, hcl, hM, hcc⟩ := Kd.R_get h (0, 0) (i : Int) (by omega) (by omega)
  have hx : hs.getD (i : Int).toNat (0, 0) = hs[i] := by simp [List.getD_eq_getElem?_getD, hi]
  rw [hx] at hM
  obtain rfl := kh_M hM
  have hcc' : ∀ j u, ([Value.pointer (some ⟨hs[i].1, 0, none⟩), Value.int .i64 hs[i].2] : List Value)[j]? = some u → W.cell? ⟨g, (i : Int).toNat * kh.sz + j, none⟩ = some u := fun j u hu => by
    have := hcc j u hu; rwa [add_plain] at this
  have hsz : kh.sz = 2 := rfl
  refine ⟨g, rfl, h.1 g rfl, hb, hlt, hcells, ?_, ?_, ?_, fun st => ?_⟩
  · have := hcc' 0 _ rfl; simpa [hsz] using this
  · have := hcc' 1 _ rfl; simpa [hsz] using this
  · obtain ⟨cells, hce⟩ := hcells
    exact blk_frozen hce _
  · have := Kd.R_seg hR (i : Int) (by omega) (by omega) hcl hcc' (j := 1) (seg := [Value.int .i64 st]) (Nat.le_refl 2) (x' := (hs[i].1, st)) (okp := fun _ => False) (kh_mk _ _ _ _) (fun _ h => h.elim)
    simpa [hsz, World.setCells] using this
end Go.Proofs.Ytkgcfgoaabkcpaa.Pa
