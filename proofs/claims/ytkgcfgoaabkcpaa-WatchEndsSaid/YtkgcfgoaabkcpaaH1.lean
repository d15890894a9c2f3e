import Derived.Test.YtkgcfgoaabkcpaaG5
import Derived.Maps.Own
import Derived.Maps.Views
namespace Go.Proofs.Ytkgcfgoaabkcpaa.Pa
open Go.RowKit Go.Proofs.YtkgcfgoaabkcpaaW.PrintWords Go.Proofs.YtkgcfgoaabkcpaaW.PrintLast Go.Proofs.YtkgcfgoaabkcpaaW.PrintMore
set_option linter.unusedVariables false
set_option linter.unusedSimpArgs false

/-! ### An automaton of the call's own -/
/-- An automaton in blocks that are so; what it was made of is read in w0. -/
def AutoOwn (w0 W : World) (ok : Nat → Prop) (g : Nat) (x : S25) : Prop :=
  ∃ B A1 c1 A2 c2, W.heap[g]? = some (.cells #[.string x.f0, .slice A1 x.f1.length c1, .slice A2 x.f2.length c2] 107 (0, 0)) ∧ ok g ∧ (Kd.fixed k62 w0).R 62 W B ok (.slice A1 x.f1.length c1) x.f1 ∧ (d2 w0).R 39 W B ok (.slice A2 x.f2.length c2) x.f2
theorem AutoOwn.mono {w0 W : World} {ok ok' : Nat → Prop} {g : Nat} {x : S25} (h : AutoOwn w0 W ok g x) (hk : ∀ k, ok k → ok' k) : AutoOwn w0 W ok' g x := by
  obtain ⟨B, A1, c1, A2, c2, h1, h2, h3, h4⟩ := h
  exact ⟨B, A1, c1, A2, c2, h1, hk _ h2, Kd.R_mono h3 hk, Kd.R_mono h4 hk⟩
theorem AutoOwn.lt {w0 W : World} {ok : Nat → Prop} {g : Nat} {x : S25} (h : AutoOwn w0 W ok g x) : g < W.heap.size := by
  obtain ⟨B, A1, c1, A2, c2, h1, _⟩ := h
  exact blk_lt h1
theorem AutoOwn.bound {w0 W : World} {ok : Nat → Prop} {g : Nat} {x : S25} (h : AutoOwn w0 W ok g x) : AutoOwn w0 W (fun k => ok k ∧ k < W.heap.size) g x := by
  obtain ⟨B, A1, c1, A2, c2, h1, h2, h3, h4⟩ := h
  exact ⟨B, A1, c1, A2, c2, h1, ⟨h2, blk_lt h1⟩, Kd.R_mono (Kd.R_bound h3) (fun k hk => ⟨hk.1, hk.2.2.1⟩), Kd.R_mono (Kd.R_bound h4) (fun k hk => ⟨hk.1, hk.2.2.1⟩)⟩
theorem AutoOwn.move {w0 W W' : World} {ok : Nat → Prop} {g : Nat} {x : S25} (h : AutoOwn w0 W ok g x) (hm : ∀ k, ok k → k < W.heap.size → W'.heap[k]? = W.heap[k]?) : AutoOwn w0 W' ok g x := by
  obtain ⟨B, A1, c1, A2, c2, h1, h2, h3, h4⟩ := h
  exact ⟨B, A1, c1, A2, c2, (hm g h2 (blk_lt h1)).trans h1, h2, Kd.R_step h3 hm, Kd.R_step h4 hm⟩
theorem AutoOwn.at_ {w0 W : World} {ok : Nat → Prop} {g : Nat} {x : S25} (h : AutoOwn w0 W ok g x) (hb : Below w0.heap.size w0 W) : AutoAt W g x.f0 x.f1 x.f2 := by
  obtain ⟨B, A1, c1, A2, c2, h1, h2, h3, h4⟩ := h
  obtain ⟨k1, p1⟩ := own_reads62 hb h3
  obtain ⟨k2, p2⟩ := own_reads39 hb h4
  exact ⟨A1, c1, A2, c2, h1, k1, p1, k2, p2⟩

set_option maxHeartbeats 4000000 in
theorem New_own (k : Nat) (a0 : ByteArray) (A1 : Option Addr) (c1 : Nat) (l1 : List S62) (A2 : Option Addr) (c2 : Nat) (l2 : List S39) (r2 : Int) (w0 w : World) (hb0 : Below w0.heap.size w0 w)
    (hr1 : Kd.C k62 w0 A1 l1.length l1) (hc1 : l1.length ≤ c1) (hr2 : Kd.C k39 w0 A2 l2.length l2) (hc2 : l2.length ≤ c2) (h : auto_Wrong.f k a0 l1 l2 = some (0, r2)) (hf : Fits l1 l2) :
    Calls Try.prog 16 #[.agg #[.string a0, .slice A1 l1.length c1, .slice A2 l2.length c2]] w fun e w' => ∃ g, e = .returned (.tuple #[.pointer (some ⟨g, 0, none⟩), .int .i64 0]) ∧ AutoOwn w0 w' (fun k => w.heap.size ≤ k) g ⟨a0, l1, l2⟩ ∧ Below w.heap.size w w' := by
  have hb := (Below.refl w.heap.size w).alloc (Nat.le_refl _) (.cells #[.string a0, .slice A1 l1.length c1, .slice A2 l2.length c2] 25)
  have hcall := Lib.hid (auto_Wrong.calls k a0 A1 c1 l1 A2 c2 l2 0 r2 _ (Kd.C_below hr1 (bch hb0 hb)) hc1 (Kd.C_below hr2 (bch hb0 hb)) hc2 h)
  have HR1 := Aside0.mk hr1; have HR2 := Aside0.mk hr2; have HF := Aside0.mk hf
  have HB0 := Lib.hid hb0
  clear hr1 hr2 h hf hb0
  go_enter Try.func16, Try.ntmps16
  go_wp2_with fail
  refine hcall.out.mono ?_
  rintro e w1 ⟨rfl, hb1⟩
  have f0 := (hb1.cell (p := ⟨w.heap.size, 0, none⟩) (by simp)).trans (World.cell?_alloc_at _ _ _ _ rfl)
  have f1 := (hb1.cell (p := ⟨w.heap.size, 1, none⟩) (by simp)).trans (World.cell?_alloc_at _ _ _ _ rfl)
  have f2 := (hb1.cell (p := ⟨w.heap.size, 2, none⟩) (by simp)).trans (World.cell?_alloc_at _ _ _ _ rfl)
  have hb1' := bch hb hb1
  have HCL := Lib.hid (clone_own a0 A1 c1 l1 A2 c2 l2 w0 w1 (bch HB0.out hb1') HR1.out hc1 HR2.out hc2 HF.out.1 HF.out.2.1 HF.out.2.2)
  simp only [List.getElem?_toArray, List.getElem?_cons_zero, List.getElem?_cons_succ] at f0 f1 f2
  clear hb1 hb HR1 HR2 HF hcall
  go_wp2_with fail
  refine HCL.out.mono ?_
  rintro e w2 ⟨A1', c1', A2', c2', rfl, p1, p2, hb2⟩
  have K1 := Aside0.mk p1; have K2 := Aside0.mk p2; have HB2 := Aside0.mk (bch hb1' hb2)
  have HZ1 := Lib.hid hb1'.size
  clear p1 p2 hb2 hb1' f0 f1 f2
  go_wp2
  go_ret2
  exact ⟨_, rfl, ⟨w1.heap.size, A1', c1', A2', c2', heap_alloc_new _ _, HB2.out.size, Kd.R_mono (Kd.R_alloc K1.out _) (fun k hk => Nat.le_trans HZ1.out hk), Kd.R_mono (Kd.R_alloc K2.out _) (fun k hk => Nat.le_trans HZ1.out hk)⟩, HB2.out.alloc HB2.out.size _⟩

/-! ### The map of automata -/
/-- How an automaton's address reads. -/
def Rp (v : Value) : Option (DataW Unit × List MemPlace) :=
  match v with
  | .pointer (some ⟨g, 0, none⟩) => some (.lit (.int .i64 g), [])
  | .pointer none => some (.lit (.int .i64 (-1)), [])
  | _ => none
theorem Rp_some (g : Nat) : Rp (.pointer (some ⟨g, 0, none⟩)) = some (.lit (.int .i64 g), []) := rfl
theorem Rp_inv {v : Value} {g : Nat} {ps : List MemPlace} (h : Rp v = some (.lit (.int .i64 (g : Int)), ps)) : v = .pointer (some ⟨g, 0, none⟩) := by
  unfold Rp at h
  split at h
  · rename_i g'
    simp only [Option.some.injEq, Prod.mk.injEq, DataW.lit.injEq, Lit.int.injEq, true_and] at h
    rw [show g' = g by omega]
  · simp only [Option.some.injEq, Prod.mk.injEq, DataW.lit.injEq, Lit.int.injEq, true_and] at h
    omega
  · cases h
def findR (rg : List (Nat × S25)) (nm : ByteArray) : Option (Nat × S25) := rg.find? fun e => e.2.f0.toList == nm.toList
def keyL (nm : ByteArray) : Lit := .string nm.data.toList
/-- The map reads as what was registered. -/
structure DatOf (D : DataW Unit) (rg : List (Nat × S25)) : Prop where
  map : Maps.IsMap D
  at_ : ∀ nm zd, D.atKey (keyL nm) zd = match findR rg nm with | none => zd | some e => .lit (.int .i64 e.1)
theorem DatOf.nil : DatOf (.map []) [] := ⟨Maps.isMap_empty, fun nm zd => rfl⟩
theorem keyL_eq {a b : ByteArray} : keyL a = keyL b ↔ a.toList = b.toList := by
  unfold keyL
  rw [Go.ByteArray.toList_eq, Go.ByteArray.toList_eq, Lit.string.injEq]
theorem findR_congr (rg : List (Nat × S25)) {a b : ByteArray} (h : a.toList = b.toList) : findR rg a = findR rg b := by unfold findR; rw [h]
theorem DatOf.put {D : DataW Unit} {rg : List (Nat × S25)} (h : DatOf D rg) (g : Nat) (x : S25) (hn : findR rg x.f0 = none) : DatOf (D.put (keyL x.f0) (.lit (.int .i64 g))) (rg ++ [(g, x)]) := by
  have hk : WideAt.IsKeyLit (keyL x.f0) := trivial
  refine ⟨h.map.put _ _, fun nm zd => ?_⟩
  have hf : findR (rg ++ [(g, x)]) nm = (findR rg nm).or (if (x.f0.toList == nm.toList) = true then some (g, x) else none) := by
    unfold findR
    rw [List.find?_append, List.find?_singleton]
  rw [hf]
  by_cases e : keyL nm = keyL x.f0
  · have e' := keyL_eq.1 e
    rw [e, Maps.atKey_put_same h.map hk, findR_congr rg e', hn, if_pos (ba_eq.2 e'.symm)]
    rfl
  · have e' : ¬ (x.f0.toList == nm.toList) = true := fun h' => e (keyL_eq.2 (ba_eq.1 h').symm)
    rw [Maps.atKey_put_other e, h.at_ nm zd, if_neg e']
    cases findR rg nm <;> rfl
theorem lookup_ok {w : World} {P : Program} {k t e : TypeId} {b n : Nat} {D : DataW Unit} {R : Value → Option (DataW Unit × List MemPlace)} (h : w.ownsMap P k R b n D) (K : Maps.Keyed P k) (ht : P.underlying t = some (.map k e)) {z : Value} (hz : (zeroValue e).run P w = .ok z w)
    {key : Value} {kl : Lit} (hkey : keyOf P k key = some kl) :
    ((Instr.lookup t (.map (some b)) key true).run P w = .ok (.tuple #[z, .bool false]) w ∧ ∀ zd, D.atKey kl zd = zd) ∨
    ∃ v y, (Instr.lookup t (.map (some b)) key true).run P w = .ok (.tuple #[v, .bool true]) w ∧ R v = some y ∧ ∀ zd, D.atKey kl zd = y.1 := by
  obtain ⟨es, clock, hb, F, _, rfl⟩ := h
  rcases Maps.fit_look true K ht hz hb F hkey with ⟨hrun, _, hat⟩ | ⟨e0, y, _, _, hrun, hRv, hat, _⟩
  · exact .inl ⟨hrun, hat⟩
  · exact .inr ⟨e0.val, y, hrun, hRv, hat⟩
theorem law9 : Maps.Keyed Try.prog 9 := Maps.string_keyed Try.underlying9
theorem zero30 (w : World) : (zeroValue 30).run Try.prog w = .ok (.pointer none) w := by kernel_rfl
/-- What a lookup by a name answers. -/
theorem look_none {w : World} {b n : Nat} {D : DataW Unit} {rg : List (Nat × S25)} (h : w.ownsMap Try.prog 9 Rp b n D) (hd : DatOf D rg) {nm : ByteArray} (hnm : nm.size ≤ maxLen) (hf : findR rg nm = none) :
    (Instr.lookup 118 (.map (some b)) (.string nm) true).run Try.prog w = .ok (.tuple #[.pointer none, .bool false]) w := by
  rcases lookup_ok h law9 Try.underlying118 (zero30 w) (Go.WideMaps.keyOf_string_mk Try.underlying9 hnm) with ⟨h1, _⟩ | ⟨v, y, _, _, h3⟩
  · exact h1
  · have h4 := fun zd => (hd.at_ nm zd).symm.trans (h3 zd)
    rw [hf] at h4
    have h5 : (DataW.lit (.int .i64 0) : DataW Unit) = .lit (.int .i64 1) := (h4 _).trans (h4 _).symm
    simp at h5
theorem look_some {w : World} {b n : Nat} {D : DataW Unit} {rg : List (Nat × S25)} (h : w.ownsMap Try.prog 9 Rp b n D) (hd : DatOf D rg) {nm : ByteArray} (hnm : nm.size ≤ maxLen) {e : Nat × S25} (hf : findR rg nm = some e) :
    (Instr.lookup 118 (.map (some b)) (.string nm) true).run Try.prog w = .ok (.tuple #[.pointer (some ⟨e.1, 0, none⟩), .bool true]) w := by
  rcases lookup_ok h law9 Try.underlying118 (zero30 w) (Go.WideMaps.keyOf_string_mk Try.underlying9 hnm) with ⟨_, h2⟩ | ⟨v, y, h1, h2, h3⟩
  · have h4 := fun zd => (hd.at_ nm zd).symm.trans (h2 zd)
    rw [hf] at h4
    have h5 : (DataW.lit (.int .i64 0) : DataW Unit) = .lit (.int .i64 1) := (h4 _).symm.trans (h4 (.lit (.int .i64 1)) |>.trans rfl) |>.trans rfl
    simp at h5
  · have h4 := (hd.at_ nm (.lit (.int .i64 0))).symm.trans (h3 _)
    rw [hf] at h4
    obtain ⟨d, ps⟩ := y
    simp only at h4
    subst h4
    rw [Rp_inv h2] at h1
    exact h1
end Go.Proofs.Ytkgcfgoaabkcpaa.Pa
