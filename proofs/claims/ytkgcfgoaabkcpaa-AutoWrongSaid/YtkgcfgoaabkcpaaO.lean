import Derived.Test.YtkgcfgoaabkcpaaWWords
import Derived.SizedLaws
import Derived.ChangeSlices
import Derived.ChangeArms
import Derived.Deep.Slices
namespace Go.Proofs.Ytkgcfgoaabkcpaa.Pa
open Go.RowKit Go.Proofs.YtkgcfgoaabkcpaaW.PrintWords
set_option linter.unusedVariables false
set_option linter.unusedSimpArgs false

/-- How data of a type read as a kind; Q: what is known of what was read. -/
structure Opens (P : Program) (t : TypeId) {α : Type} (d : Kd α) (Q : α → Prop) : Prop where
  size : P.cellsOf t = d.sz
  read : ∀ {H : Type} {enc : TypeId × Value → H} {W : World} {base : Nat} {spare : Nat → Bool} {held : Bool} {fuel : Nat} {cs : List Value} {D : DataW H} {ps : List MemPlace},
    DataW.trod enc P W base spare held fuel t cs = some (D, ps) → (∀ n ∈ DataW.weights P t D, n ≤ reachBytes) → ∃ a, d.K W a cs ∧ Q a

theorem opens_int {P : Program} {t : TypeId} {k : IntKind} (ht : P.underlying t = some (.int k)) (hc : P.cellsOf t = 1) : Opens P t (Kd.int k) (fun x => (Lit.int k x).wf = true) where
  size := hc
  read := by
    intro H enc W base spare held fuel cs D ps h _
    obtain ⟨n, rfl, _, hw⟩ := DataW.trod_int ht h
    exact ⟨n, rfl, hw⟩
theorem opens_bool {P : Program} {t : TypeId} (ht : P.underlying t = some .bool) (hc : P.cellsOf t = 1) : Opens P t Kd.bool (fun _ => True) where
  size := hc
  read := by
    intro H enc W base spare held fuel cs D ps h _
    obtain ⟨n, rfl, _⟩ := DataW.trod_bool ht h
    exact ⟨n, rfl, trivial⟩
theorem opens_string {P : Program} {t : TypeId} (ht : P.underlying t = some .string) (hc : P.cellsOf t = 1) : Opens P t Kd.string (fun s => s.size ≤ reachBytes) where
  size := hc
  read := by
    intro H enc W base spare held fuel cs D ps h hw
    obtain ⟨s, rfl, hx, _⟩ := DataW.trod_string ht h
    obtain ⟨rfl, _⟩ := Prod.mk.inj hx
    refine ⟨s, rfl, ?_⟩
    have := hw s.data.toList.length (by rw [DataW.weights]; exact List.mem_singleton.2 rfl)
    show s.data.size ≤ _
    rw [← Array.length_toList]; exact this
theorem opens_iso {P : Program} {t : TypeId} {α β : Type} {d : Kd α} {Q : α → Prop} (h : Opens P t d Q) (f : β → α) (g : α → β) (hfg : ∀ a, f (g a) = a) : Opens P t (Kd.iso d f) (fun x => Q (f x)) where
  size := h.size
  read := by
    intro H enc W base spare held fuel cs D ps hr hw
    obtain ⟨a, hk, hq⟩ := h.read hr hw
    exact ⟨g a, by show d.K W (f (g a)) cs; rw [hfg]; exact hk, by rw [hfg]; exact hq⟩

theorem mem_weightsAll {H : Type} {P : Program} {e : TypeId} {ds : List (DataW H)} {d : DataW H} (h : d ∈ ds) {n : Nat} (hn : n ∈ d.weights P e) : n ∈ DataW.weightsAll P e ds := by
  induction ds with
  | nil => cases h
  | cons x xs ih =>
    rw [DataW.weightsAll]
    rcases List.mem_cons.1 h with rfl | h
    · exact List.mem_append_left _ hn
    · exact List.mem_append_right _ (ih h)
theorem mapM_idx {α β : Type} {f : α → Option β} : ∀ {l : List α} {r : List β}, l.mapM f = some r → r.length = l.length ∧ ∀ (i : Nat) (x : α), l[i]? = some x → f x = r[i]?
  | [], r, h => by
    rw [List.mapM_nil] at h
    cases h
    exact ⟨rfl, fun i x hx => by simp at hx⟩
  | a :: l, r, h => by
    rw [List.mapM_cons] at h
    obtain ⟨y, hy, h⟩ := Option.bind_eq_some_iff.1 h
    obtain ⟨ys, hys, h⟩ := Option.bind_eq_some_iff.1 h
    cases h
    obtain ⟨hl, hi⟩ := mapM_idx hys
    refine ⟨by simp [hl], fun i x hx => ?_⟩
    cases i with
    | zero => simp at hx; subst hx; exact hy
    | succ i => simpa using hi i x (by simpa using hx)
theorem cells_get {w : World} {base : Nat} {a : Addr} {n : Nat} {cs : List Value} (h : w.cells? base a n = some cs) : cs.length = n ∧ ∀ (i : Nat) (u : Value), cs[i]? = some u → w.cell? (a.add i) = some u := by
  unfold World.cells? at h
  split at h
  · obtain ⟨hl, hi⟩ := mapM_idx h
    rw [List.length_range] at hl
    refine ⟨hl, fun i u hu => ?_⟩
    have hin : i < n := by
      by_cases hin : i < cs.length
      · omega
      · rw [List.getElem?_eq_none (by omega)] at hu; cases hu
    rw [hi i i (by rw [List.getElem?_range hin]), hu]
  · cases h
theorem choose_list {α β : Type} {R : α → β → Prop} : ∀ {l : List α}, (∀ x ∈ l, ∃ y, R x y) → ∃ r : List β, r.length = l.length ∧ ∀ (i : Nat) (x : α) (y : β), l[i]? = some x → r[i]? = some y → R x y
  | [], _ => ⟨[], rfl, fun i x y hx => by simp at hx⟩
  | a :: l, h => by
    obtain ⟨y, hy⟩ := h a List.mem_cons_self
    obtain ⟨r, hl, hr⟩ := choose_list (l := l) (fun x hx => h x (List.mem_cons_of_mem _ hx))
    refine ⟨y :: r, by simp [hl], fun i x z hx hz => ?_⟩
    cases i with
    | zero => simp at hx hz; subst hx; subst hz; exact hy
    | succ i => exact hr i x z (by simpa using hx) (by simpa using hz)
theorem opens_slice {P : Program} {t e : TypeId} {α : Type} {d : Kd α} {Q : α → Prop} (ht : P.underlying t = some (.slice e)) (hc : P.cellsOf t = 1) (h : Opens P e d Q) :
    Opens P t (Kd.slice e d) (fun l => l.length * P.bytesOf e ≤ reachBytes ∧ ∀ a ∈ l, Q a) where
  size := hc
  read := by
    intro H enc W base spare held fuel cs D ps hr hw
    rcases DataW.trod_slice ht hr with ⟨rfl, hx⟩ | ⟨a, len, cap, elems, rest, n, _, rfl, hx, hb, hl, hm, hlen, hel, _⟩
    · exact ⟨[], ⟨none, 0, rfl, Nat.le_refl _, Kd.C_nil d W⟩, by simp, fun a ha => by cases ha⟩
    · obtain ⟨rfl, _⟩ := Prod.mk.inj hx
      have hwt : ∀ q : DataW H, q ∈ elems.map (·.1) → ∀ n ∈ q.weights P e, n ≤ reachBytes := fun q hq n hn => hw n (by
        rw [DataW.weights, ht]
        exact List.mem_cons_of_mem _ (List.mem_append_left _ (mem_weightsAll hq hn)))
      obtain ⟨r, hrl, hrr⟩ := choose_list (l := List.range len) (R := fun (i : Nat) (y : α) => ∃ cs', W.cells? base (a.add (i * P.cellsOf e)) (P.cellsOf e) = some cs' ∧ d.K W y cs' ∧ Q y) (fun i hi => by
        rw [List.mem_range] at hi
        have h1 := hel i hi
        rw [List.getElem?_eq_getElem (by omega)] at h1
        obtain ⟨cs', hcs, htr⟩ := Option.bind_eq_some_iff.1 h1
        obtain ⟨y, hy, hq⟩ := h.read (D := (elems[i]'(by omega)).1) (ps := (elems[i]'(by omega)).2) htr (hwt _ (List.mem_map_of_mem (List.getElem_mem (by omega))))
        exact ⟨y, cs', hcs, hy, hq⟩)
      rw [List.length_range] at hrl
      have hget : ∀ j y, r[j]? = some y → ∃ cs', W.cells? base (a.add (j * P.cellsOf e)) (P.cellsOf e) = some cs' ∧ d.K W y cs' ∧ Q y := fun j y hj => by
        have hjl : j < len := by
          by_cases hjl : j < r.length
          · omega
          · rw [List.getElem?_eq_none (by omega)] at hj; cases hj
        exact hrr j j y (by rw [List.getElem?_range hjl]) hj
      refine ⟨r, ⟨some a, cap, by rw [hrl], by omega, rfl, by unfold maxLen at hm; omega, fun _ => ⟨a, rfl, fun j y hj => ?_⟩⟩, ?_, fun y hy => ?_⟩
      · obtain ⟨cs', h1, h2, _⟩ := hget j y hj
        obtain ⟨h3, h4⟩ := cells_get h1
        rw [h.size] at h3 h4
        refine ⟨cs', h3, h2, fun i u hu => ?_⟩
        have := h4 i u hu
        rw [add_add] at this
        exact this
      · have := hw ((elems.map (·.1)).length * P.bytesOf e + (rest.map (·.1)).length * P.bytesOf e) (by
          rw [DataW.weights, ht]
          exact List.mem_cons.2 (.inl (by rw [Nat.add_mul])))
        rw [List.length_map, hlen] at this
        rw [hrl]; omega
      · obtain ⟨j, hj, rfl⟩ := List.getElem_of_mem hy
        obtain ⟨_, _, _, hq⟩ := hget j _ (List.getElem?_eq_getElem hj)
        exact hq
theorem weights_agg {H : Type} {P : Program} {t : TypeId} {fs : Array Field} (ht : P.underlying t = some (.struct fs)) {parts : List (DataW H)} {i : Nat} {f : Field} {x : DataW H} (hf : fs[i]? = some f) (hx : parts[i]? = some x) {n : Nat} (hn : n ∈ x.weights P f.type) : n ∈ DataW.weights P t (.agg parts) := by
  rw [DataW.weights, ht]
  exact DataW.weights_mem_each (j := i) (t := f.type) (by rw [List.getElem?_map, Array.getElem?_toList, hf]; rfl) hx n hn
/-- A field of what was read. -/
theorem field_of {H : Type} {enc : TypeId × Value → H} {P : Program} {W : World} {base : Nat} {spare : Nat → Bool} {held : Bool} {n : Nat} {t : TypeId} {fs : Array Field} (ht : P.underlying t = some (.struct fs)) {cs : List Value} {xs : List (DataW H × List MemPlace)} (hlen : xs.length = fs.size)
    (hf : ∀ (i : Nat) (f : Field), fs[i]? = some f → DataW.trod enc P W base spare held n f.type ((cs.drop f.offset).take (P.cellsOf f.type)) = xs[i]?) (hw : ∀ n ∈ DataW.weights P t (.agg (xs.map (·.1))), n ≤ reachBytes)
    {α : Type} {d : Kd α} {Q : α → Prop} {i : Nat} {f : Field} (hi : fs[i]? = some f) (h : Opens P f.type d Q) {off : Nat} (ho : f.offset = off) : ∃ a, d.K W a ((cs.drop off).take d.sz) ∧ Q a := by
  have hil : i < xs.length := by
    rw [hlen]
    by_cases hil : i < fs.size
    · exact hil
    · rw [Array.getElem?_eq_none (by omega)] at hi; cases hi
  have h1 := hf i f hi
  rw [List.getElem?_eq_getElem hil, ho, h.size] at h1
  exact h.read (D := xs[i].1) (ps := xs[i].2) h1 (fun n hn => hw n (weights_agg ht hi (by rw [List.getElem?_map, List.getElem?_eq_getElem hil]; rfl) hn))

theorem opens_struct2 {P : Program} {t : TypeId} {f0 f1 : Field} {α0 : Type} {d0 : Kd α0} {Q0 : α0 → Prop} {α1 : Type} {d1 : Kd α1} {Q1 : α1 → Prop} (ht : P.underlying t = some (.struct #[f0, f1])) (o0 : f0.offset = 0) (o1 : f1.offset = d0.sz) (hs : P.cellsOf t = d0.sz + d1.sz)
    (h0 : Opens P f0.type d0 Q0) (h1 : Opens P f1.type d1 Q1) : Opens P t (Kd.pair d0 d1) (fun x : α0 × α1 => Q0 (x.1) ∧ Q1 (x.2)) where
  size := by rw [hs]; show _ = (d0.sz + d1.sz); omega
  read := by
    intro H enc W base spare held fuel cs D ps hr hw
    obtain ⟨xs, n, _, hx, hl, hlen, hf⟩ := DataW.trod_struct ht hr
    obtain ⟨rfl, _⟩ := Prod.mk.inj hx
    obtain ⟨a0, k0, q0⟩ := field_of ht hlen hf hw (i := 0) rfl h0 o0
    obtain ⟨a1, k1, q1⟩ := field_of ht hlen hf hw (i := 1) rfl h1 o1
    rw [hs] at hl
    have hcs : cs = ((cs.drop (0)).take d0.sz ++ ((cs.drop (d0.sz)).take d1.sz)) := by
      have e1 : (cs.drop (d0.sz)).take d1.sz = cs.drop (d0.sz) := List.take_of_length_le (by rw [List.length_drop]; omega)
      rw [e1]
      have e0 : (cs.drop (0)).take d0.sz ++ cs.drop (d0.sz) = cs.drop (0) := by
        have := List.take_append_drop d0.sz (cs.drop (0))
        rw [List.drop_drop] at this
        rw [Nat.zero_add] at this; exact this
      rw [e0]
      rfl
    rw [hcs]
    exact ⟨(a0, a1), ⟨_, _, rfl, k0, k1⟩, q0, q1⟩
theorem opens_struct3 {P : Program} {t : TypeId} {f0 f1 f2 : Field} {α0 : Type} {d0 : Kd α0} {Q0 : α0 → Prop} {α1 : Type} {d1 : Kd α1} {Q1 : α1 → Prop} {α2 : Type} {d2 : Kd α2} {Q2 : α2 → Prop} (ht : P.underlying t = some (.struct #[f0, f1, f2])) (o0 : f0.offset = 0) (o1 : f1.offset = d0.sz) (o2 : f2.offset = d0.sz + d1.sz) (hs : P.cellsOf t = d0.sz + d1.sz + d2.sz)
    (h0 : Opens P f0.type d0 Q0) (h1 : Opens P f1.type d1 Q1) (h2 : Opens P f2.type d2 Q2) : Opens P t (Kd.pair d0 (Kd.pair d1 d2)) (fun x : α0 × α1 × α2 => Q0 (x.1) ∧ Q1 (x.2.1) ∧ Q2 (x.2.2)) where
  size := by rw [hs]; show _ = (d0.sz + (d1.sz + d2.sz)); omega
  read := by
    intro H enc W base spare held fuel cs D ps hr hw
    obtain ⟨xs, n, _, hx, hl, hlen, hf⟩ := DataW.trod_struct ht hr
    obtain ⟨rfl, _⟩ := Prod.mk.inj hx
    obtain ⟨a0, k0, q0⟩ := field_of ht hlen hf hw (i := 0) rfl h0 o0
    obtain ⟨a1, k1, q1⟩ := field_of ht hlen hf hw (i := 1) rfl h1 o1
    obtain ⟨a2, k2, q2⟩ := field_of ht hlen hf hw (i := 2) rfl h2 o2
    rw [hs] at hl
    have hcs : cs = ((cs.drop (0)).take d0.sz ++ ((cs.drop (d0.sz)).take d1.sz ++ ((cs.drop (d0.sz + d1.sz)).take d2.sz))) := by
      have e2 : (cs.drop (d0.sz + d1.sz)).take d2.sz = cs.drop (d0.sz + d1.sz) := List.take_of_length_le (by rw [List.length_drop]; omega)
      rw [e2]
      have e1 : (cs.drop (d0.sz)).take d1.sz ++ cs.drop (d0.sz + d1.sz) = cs.drop (d0.sz) := by
        have := List.take_append_drop d1.sz (cs.drop (d0.sz))
        rw [List.drop_drop] at this
        exact this
      rw [e1]
      have e0 : (cs.drop (0)).take d0.sz ++ cs.drop (d0.sz) = cs.drop (0) := by
        have := List.take_append_drop d0.sz (cs.drop (0))
        rw [List.drop_drop] at this
        rw [Nat.zero_add] at this; exact this
      rw [e0]
      rfl
    rw [hcs]
    exact ⟨(a0, (a1, a2)), ⟨_, _, rfl, k0, ⟨_, _, rfl, k1, k2⟩⟩, q0, q1, q2⟩
theorem opens_struct4 {P : Program} {t : TypeId} {f0 f1 f2 f3 : Field} {α0 : Type} {d0 : Kd α0} {Q0 : α0 → Prop} {α1 : Type} {d1 : Kd α1} {Q1 : α1 → Prop} {α2 : Type} {d2 : Kd α2} {Q2 : α2 → Prop} {α3 : Type} {d3 : Kd α3} {Q3 : α3 → Prop} (ht : P.underlying t = some (.struct #[f0, f1, f2, f3])) (o0 : f0.offset = 0) (o1 : f1.offset = d0.sz) (o2 : f2.offset = d0.sz + d1.sz) (o3 : f3.offset = d0.sz + d1.sz + d2.sz) (hs : P.cellsOf t = d0.sz + d1.sz + d2.sz + d3.sz)
    (h0 : Opens P f0.type d0 Q0) (h1 : Opens P f1.type d1 Q1) (h2 : Opens P f2.type d2 Q2) (h3 : Opens P f3.type d3 Q3) : Opens P t (Kd.pair d0 (Kd.pair d1 (Kd.pair d2 d3))) (fun x : α0 × α1 × α2 × α3 => Q0 (x.1) ∧ Q1 (x.2.1) ∧ Q2 (x.2.2.1) ∧ Q3 (x.2.2.2)) where
  size := by rw [hs]; show _ = (d0.sz + (d1.sz + (d2.sz + d3.sz))); omega
  read := by
    intro H enc W base spare held fuel cs D ps hr hw
    obtain ⟨xs, n, _, hx, hl, hlen, hf⟩ := DataW.trod_struct ht hr
    obtain ⟨rfl, _⟩ := Prod.mk.inj hx
    obtain ⟨a0, k0, q0⟩ := field_of ht hlen hf hw (i := 0) rfl h0 o0
    obtain ⟨a1, k1, q1⟩ := field_of ht hlen hf hw (i := 1) rfl h1 o1
    obtain ⟨a2, k2, q2⟩ := field_of ht hlen hf hw (i := 2) rfl h2 o2
    obtain ⟨a3, k3, q3⟩ := field_of ht hlen hf hw (i := 3) rfl h3 o3
    rw [hs] at hl
    have hcs : cs = ((cs.drop (0)).take d0.sz ++ ((cs.drop (d0.sz)).take d1.sz ++ ((cs.drop (d0.sz + d1.sz)).take d2.sz ++ ((cs.drop (d0.sz + d1.sz + d2.sz)).take d3.sz)))) := by
      have e3 : (cs.drop (d0.sz + d1.sz + d2.sz)).take d3.sz = cs.drop (d0.sz + d1.sz + d2.sz) := List.take_of_length_le (by rw [List.length_drop]; omega)
      rw [e3]
      have e2 : (cs.drop (d0.sz + d1.sz)).take d2.sz ++ cs.drop (d0.sz + d1.sz + d2.sz) = cs.drop (d0.sz + d1.sz) := by
        have := List.take_append_drop d2.sz (cs.drop (d0.sz + d1.sz))
        rw [List.drop_drop] at this
        exact this
      rw [e2]
      have e1 : (cs.drop (d0.sz)).take d1.sz ++ cs.drop (d0.sz + d1.sz) = cs.drop (d0.sz) := by
        have := List.take_append_drop d1.sz (cs.drop (d0.sz))
        rw [List.drop_drop] at this
        exact this
      rw [e1]
      have e0 : (cs.drop (0)).take d0.sz ++ cs.drop (d0.sz) = cs.drop (0) := by
        have := List.take_append_drop d0.sz (cs.drop (0))
        rw [List.drop_drop] at this
        rw [Nat.zero_add] at this; exact this
      rw [e0]
      rfl
    rw [hcs]
    exact ⟨(a0, (a1, (a2, a3))), ⟨_, _, rfl, k0, ⟨_, _, rfl, k1, ⟨_, _, rfl, k2, k3⟩⟩⟩, q0, q1, q2, q3⟩
theorem opens_struct5 {P : Program} {t : TypeId} {f0 f1 f2 f3 f4 : Field} {α0 : Type} {d0 : Kd α0} {Q0 : α0 → Prop} {α1 : Type} {d1 : Kd α1} {Q1 : α1 → Prop} {α2 : Type} {d2 : Kd α2} {Q2 : α2 → Prop} {α3 : Type} {d3 : Kd α3} {Q3 : α3 → Prop} {α4 : Type} {d4 : Kd α4} {Q4 : α4 → Prop} (ht : P.underlying t = some (.struct #[f0, f1, f2, f3, f4])) (o0 : f0.offset = 0) (o1 : f1.offset = d0.sz) (o2 : f2.offset = d0.sz + d1.sz) (o3 : f3.offset = d0.sz + d1.sz + d2.sz) (o4 : f4.offset = d0.sz + d1.sz + d2.sz + d3.sz) (hs : P.cellsOf t = d0.sz + d1.sz + d2.sz + d3.sz + d4.sz)
    (h0 : Opens P f0.type d0 Q0) (h1 : Opens P f1.type d1 Q1) (h2 : Opens P f2.type d2 Q2) (h3 : Opens P f3.type d3 Q3) (h4 : Opens P f4.type d4 Q4) : Opens P t (Kd.pair d0 (Kd.pair d1 (Kd.pair d2 (Kd.pair d3 d4)))) (fun x : α0 × α1 × α2 × α3 × α4 => Q0 (x.1) ∧ Q1 (x.2.1) ∧ Q2 (x.2.2.1) ∧ Q3 (x.2.2.2.1) ∧ Q4 (x.2.2.2.2)) where
  size := by rw [hs]; show _ = (d0.sz + (d1.sz + (d2.sz + (d3.sz + d4.sz)))); omega
  read := by
    intro H enc W base spare held fuel cs D ps hr hw
    obtain ⟨xs, n, _, hx, hl, hlen, hf⟩ := DataW.trod_struct ht hr
    obtain ⟨rfl, _⟩ := Prod.mk.inj hx
    obtain ⟨a0, k0, q0⟩ := field_of ht hlen hf hw (i := 0) rfl h0 o0
    obtain ⟨a1, k1, q1⟩ := field_of ht hlen hf hw (i := 1) rfl h1 o1
    obtain ⟨a2, k2, q2⟩ := field_of ht hlen hf hw (i := 2) rfl h2 o2
    obtain ⟨a3, k3, q3⟩ := field_of ht hlen hf hw (i := 3) rfl h3 o3
    obtain ⟨a4, k4, q4⟩ := field_of ht hlen hf hw (i := 4) rfl h4 o4
    rw [hs] at hl
    have hcs : cs = ((cs.drop (0)).take d0.sz ++ ((cs.drop (d0.sz)).take d1.sz ++ ((cs.drop (d0.sz + d1.sz)).take d2.sz ++ ((cs.drop (d0.sz + d1.sz + d2.sz)).take d3.sz ++ ((cs.drop (d0.sz + d1.sz + d2.sz + d3.sz)).take d4.sz))))) := by
      have e4 : (cs.drop (d0.sz + d1.sz + d2.sz + d3.sz)).take d4.sz = cs.drop (d0.sz + d1.sz + d2.sz + d3.sz) := List.take_of_length_le (by rw [List.length_drop]; omega)
      rw [e4]
      have e3 : (cs.drop (d0.sz + d1.sz + d2.sz)).take d3.sz ++ cs.drop (d0.sz + d1.sz + d2.sz + d3.sz) = cs.drop (d0.sz + d1.sz + d2.sz) := by
        have := List.take_append_drop d3.sz (cs.drop (d0.sz + d1.sz + d2.sz))
        rw [List.drop_drop] at this
        exact this
      rw [e3]
      have e2 : (cs.drop (d0.sz + d1.sz)).take d2.sz ++ cs.drop (d0.sz + d1.sz + d2.sz) = cs.drop (d0.sz + d1.sz) := by
        have := List.take_append_drop d2.sz (cs.drop (d0.sz + d1.sz))
        rw [List.drop_drop] at this
        exact this
      rw [e2]
      have e1 : (cs.drop (d0.sz)).take d1.sz ++ cs.drop (d0.sz + d1.sz) = cs.drop (d0.sz) := by
        have := List.take_append_drop d1.sz (cs.drop (d0.sz))
        rw [List.drop_drop] at this
        exact this
      rw [e1]
      have e0 : (cs.drop (0)).take d0.sz ++ cs.drop (d0.sz) = cs.drop (0) := by
        have := List.take_append_drop d0.sz (cs.drop (0))
        rw [List.drop_drop] at this
        rw [Nat.zero_add] at this; exact this
      rw [e0]
      rfl
    rw [hcs]
    exact ⟨(a0, (a1, (a2, (a3, a4)))), ⟨_, _, rfl, k0, ⟨_, _, rfl, k1, ⟨_, _, rfl, k2, ⟨_, _, rfl, k3, k4⟩⟩⟩⟩, q0, q1, q2, q3, q4⟩
end Go.Proofs.Ytkgcfgoaabkcpaa.Pa