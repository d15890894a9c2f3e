import Derived.Test.YtkgcfgoaabkcpaaH4
namespace Go.Proofs.Ytkgcfgoaabkcpaa.Pa
open Go.RowKit Go.Proofs.YtkgcfgoaabkcpaaW.PrintWords Go.Proofs.YtkgcfgoaabkcpaaW.PrintLast Go.Proofs.YtkgcfgoaabkcpaaW.PrintMore
set_option linter.unusedVariables false
set_option linter.unusedSimpArgs false

/-! ### feed -/
theorem WatchAt.cells {w0 W : World} {N gm gw : Nat} {mu : Nat → Prop} {s : WSt} (h : WatchAt w0 W N gm gw mu s) : ∃ A c, W.cell? ⟨gw, 0, none⟩ = some (.map (some gm)) ∧ W.cell? ⟨gw, 1, none⟩ = some (.slice A s.hs.length c) ∧ W.cell? ⟨gw, 2, none⟩ = some (.int .i64 s.bad) ∧ W.cell? ⟨gw, 3, none⟩ = some (.bool s.ended) ∧ (∀ j, W.frozen? ⟨gw, j, none⟩ = false) ∧ gw < W.heap.size ∧ kh.R 127 W w0.heap.size mu (.slice A s.hs.length c) s.hs ∧ s.hs.length ≤ 9223372036854775807 := by
  obtain ⟨D, A, c, h1, h2, h3, h4, _⟩ := h
  exact ⟨A, c, by simpa using blk_cell h1 0, by simpa using blk_cell h1 1, by simpa using blk_cell h1 2, by simpa using blk_cell h1 3, fun j => blk_frozen h1 j, blk_lt h1, h4, Kd.C_max (Kd.R_reads' h4).2.2⟩
/-- The watch's own block written. -/
theorem WatchAt.put {w0 W : World} {N gm gw : Nat} {mu : Nat → Prop} {s : WSt} (h : WatchAt w0 W N gm gw mu s) (bad : Int) (ended : Bool) {W' : World} (hg : W.grownBy W' (some gw))
    (hb : ∀ A c, W.heap[gw]? = some (.cells #[.map (some gm), .slice A s.hs.length c, .int .i64 s.bad, .bool s.ended] 121 (0, 0)) → W'.heap[gw]? = some (.cells #[.map (some gm), .slice A s.hs.length c, .int .i64 bad, .bool ended] 121 (0, 0))) :
    WatchAt w0 W' N gm gw mu { s with bad := bad, ended := ended } ∧ Kept W W' (fun k => k = gw) := by
  obtain ⟨D, A, c, h1, h2, h3, h4, h5, h6, h7, h8, h9, h10⟩ := h
  exact ⟨⟨D, A, c, hb A c h1, h2.kept hg (by simp; omega), h3, Kd.R_step h4 (fun k hk hlt => hg.block k hlt (by simp; have := h8 k hk; omega)), fun e he => (h5 e he).move (fun k hk hlt => hg.block k hlt (by simp; omega)), h6, h7, h8, h9.grown hg h9.size (by intro k hk; cases hk; omega), h10⟩,
    ⟨hg.size, fun k hk hne => hg.block k hk (by simpa using hne)⟩⟩
theorem grown_setCell {W : World} {g j : Nat} {cs : Array Value} {t : TypeId} (u : Value) (h : W.heap[g]? = some (.cells cs t (0, 0))) : W.grownBy (W.setCell ⟨g, j, none⟩ u) (some g) :=
  ⟨rfl, rfl, rfl, by simp, fun i _ hi => Below.heap_setCell W ⟨g, j, none⟩ u i (by intro e; exact hi (by rw [e]))⟩
theorem WatchAt.setEnded {w0 W : World} {N gm gw : Nat} {mu : Nat → Prop} {s : WSt} (h : WatchAt w0 W N gm gw mu s) (b : Bool) : WatchAt w0 (W.setCell ⟨gw, 3, none⟩ (.bool b)) N gm gw mu { s with ended := b } ∧ Kept W (W.setCell ⟨gw, 3, none⟩ (.bool b)) (fun k => k = gw) := by
  have h' := h
  obtain ⟨D, A, c, h1, _⟩ := h'
  exact h.put s.bad b (grown_setCell _ h1) (fun A c hh => by have := blk_set hh 3 (.bool b); simpa using this)
theorem WatchAt.setBad {w0 W : World} {N gm gw : Nat} {mu : Nat → Prop} {s : WSt} (h : WatchAt w0 W N gm gw mu s) (n : Int) : WatchAt w0 (W.setCell ⟨gw, 2, none⟩ (.int .i64 n)) N gm gw mu { s with bad := n } ∧ Kept W (W.setCell ⟨gw, 2, none⟩ (.int .i64 n)) (fun k => k = gw) := by
  have h' := h
  obtain ⟨D, A, c, h1, _⟩ := h'
  exact h.put n s.ended (grown_setCell _ h1) (fun A c hh => by have := blk_set hh 2 (.int .i64 n); simpa using this)
/-- A handle more: the row has been appended to, its slice stored. -/
theorem WatchAt.add {w0 W W' : World} {N gm gw : Nat} {mu mu' : Nat → Prop} {s : WSt} (h : WatchAt w0 W N gm gw mu s) {A1 : Option Addr} {c1 : Nat} {x : Nat × Int} (hmu : ∀ k, mu k → mu' k) (hN : ∀ k, mu' k → N ≤ k)
    (hR : kh.R 127 W' w0.heap.size mu' (.slice A1 (s.hs ++ [x]).length c1) (s.hs ++ [x])) (hb : Below w0.heap.size w0 W') (hg : Kept W W' mu') :
    WatchAt w0 (W'.setCell ⟨gw, 1, none⟩ (.slice A1 (s.hs ++ [x]).length c1)) N gm gw mu' { s with hs := s.hs ++ [x] } ∧ Kept W (W'.setCell ⟨gw, 1, none⟩ (.slice A1 (s.hs ++ [x]).length c1)) (fun k => k = gw ∨ mu' k) := by
  obtain ⟨D, A, c, h1, h2, h3, h4, h5, h6, h7, h8, h9, h10⟩ := h
  have hgm : gm < W.heap.size := h2.lt
  have e1 : W'.heap[gw]? = some (.cells #[.map (some gm), .slice A s.hs.length c, .int .i64 s.bad, .bool s.ended] 121 (0, 0)) := (hg.2 gw (blk_lt h1) (fun h => by have := hN _ h; omega)).trans h1
  have e2 : W'.heap[gm]? = W.heap[gm]? := hg.2 gm hgm (fun h => by have := hN _ h; omega)
  obtain ⟨es, cl, m1, m2, m3, m4⟩ := h2
  have hs := grown_setCell (j := 1) (.slice A1 (s.hs ++ [x]).length c1) e1
  refine ⟨⟨D, A1, c1, by have := blk_set e1 1 (.slice A1 (s.hs ++ [x]).length c1); simpa using this, World.ownsMap.kept (⟨es, cl, e2.trans m1, m2, m3, m4⟩ : W'.ownsMap Try.prog 9 Rp gm s.rg.length D) hs (by simp; omega), h3,
    Kd.R_step hR (fun k hk hlt => hs.block k hlt (by simp; have := hN k hk; omega)), fun e he => ((h5 e he).move (fun k hk hlt => hg.2 k hlt (fun h => by have := hN _ h; omega))).move (fun k hk hlt => hs.block k hlt (by simp; omega)), h6, h7, hN, hb.grown hs hb.size (by intro k hk; cases hk; omega), h10⟩,
    ⟨Nat.le_trans hg.1 hs.size, fun k hk hne => ?_⟩⟩
  rw [hs.block k (Nat.lt_of_lt_of_le hk hg.1) (by simp; intro e; exact hne (.inl e))]
  exact hg.2 k hk (fun h => hne (.inr h))
theorem Kept.trans' {W W1 W2 : World} {S S1 S2 : Nat → Prop} (h : Kept W W1 S1) (k : Kept W1 W2 S2) (h1 : ∀ i, S1 i → S i) (h2 : ∀ i, S2 i → S i) : Kept W W2 S :=
  ⟨Nat.le_trans h.1 k.1, fun i hi hn => (k.2 i (Nat.lt_of_lt_of_le hi h.1) (fun h => hn (h2 i h))).trans (h.2 i hi (fun h => hn (h1 i h)))⟩
theorem Kept.of_below' {W W1 : World} (h : Below W.heap.size W W1) (S : Nat → Prop) : Kept W W1 S := ⟨h.size, fun k hk _ => h.block k hk⟩

def feedC (s : WSt) (kind hd : Int) (nm out : ByteArray) : Int × WSt :=
  if s.ended = true ∨ kind < 0 ∨ 5 < kind then (5, s) else
  if kind = 0 then (match findR s.rg nm with | none => (1, s) | some e => if hd = s.hs.length then (0, { s with hs := s.hs ++ [(e.1, 0)] }) else (1, s)) else
  if kind = 2 then ((doneC s kind hd nm out).1, { s with hs := (doneC s kind hd nm out).2 }) else
  if kind = 3 then ((doneC s kind hd nm out).1, { s with hs := (doneC s kind hd nm out).2, ended := (doneC s kind hd nm out).1 == 3 }) else
  if kind = 1 then (0, s) else (0, { s with ended := true })
/-- What is left behind feed. -/
def WFed (w0 W : World) (N gm gw : Nat) (mu : Nat → Prop) (r : Int × WSt) (e : Ending) (w' : World) : Prop :=
  e = .returned (.int .i64 r.1) ∧ WatchAt w0 w' N gm gw (fun k => mu k ∨ W.heap.size ≤ k) r.2 ∧ Kept W w' (fun k => k = gw ∨ mu k)

set_option maxHeartbeats 1000000 in
theorem Violations_calls (w0 W : World) (N gm gw : Nat) (mu : Nat → Prop) (s : WSt) (hW : WatchAt w0 W N gm gw mu s) :
    Calls Try.prog 38 #[.pointer (some ⟨gw, 0, none⟩)] W fun e w' => e = .returned (.int .i64 s.bad) ∧ w' = W := by
  obtain ⟨A, c, g0, g1, g2, g3, gf, hlt, gr, gl⟩ := hW.cells
  clear gr gl g0 g1 g3 gf hW
  go_enter Try.func38, Try.ntmps38
  go_wp2
  go_ret
  exact ⟨rfl, rfl⟩
set_option maxHeartbeats 1000000 in
theorem Ended_calls (w0 W : World) (N gm gw : Nat) (mu : Nat → Prop) (s : WSt) (hW : WatchAt w0 W N gm gw mu s) :
    Calls Try.prog 42 #[.pointer (some ⟨gw, 0, none⟩)] W fun e w' => e = .returned (.bool s.ended) ∧ w' = W := by
  obtain ⟨A, c, g0, g1, g2, g3, gf, hlt, gr, gl⟩ := hW.cells
  clear gr gl g0 g1 g2 gf hW
  go_enter Try.func42, Try.ntmps42
  go_wp2
  go_ret
  exact ⟨rfl, rfl⟩
end Go.Proofs.Ytkgcfgoaabkcpaa.Pa
