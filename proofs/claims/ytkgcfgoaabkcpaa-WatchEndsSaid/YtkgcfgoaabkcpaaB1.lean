import Derived.Test.YtkgcfgoaabkcpaaProg
import Derived.Below
import Derived.Deep.Draws
import Derived.Deep.AppendLies
import Derived.Maps.AppendAt
import Derived.OwnWalk
import Derived.Laws.BytesArg
import Derived.Laws.MakeOwn
import Derived.Laws.OwnMore
import Derived.Deep.OwnRows
import Derived.Tactics
import Derived.Lib.ConvBytes
import Derived.Laws.Slices
import Derived.WalkKit
import Derived.KernelRfl
import Derived.RowKit3
import Derived.Deep.LoopGhost
import Derived.Deep.QuietTactic
import Derived.BigQuiet
import Derived.WideLaws
import Derived.Deep.DeepCutAuto
import Derived.Deep.CutBlock
import Derived.Deep.RegionHeld3
import Derived.Laws.Rows
import Derived.Lib.AppendStr
import Derived.ArgAppend
import Derived.Laws.IdiomCopy
import Derived.OrdersHeld
import Derived.Laws.BitsLemmas
import Derived.RowKit
import Derived.Test.YtkgcfgoaabkcpaaWWords
import Derived.Test.YtkgcfgoaabkcpaaWLast
import Derived.Test.YtkgcfgoaabkcpaaWTab
import Derived.Test.YtkgcfgoaabkcpaaWFour
import Derived.Test.YtkgcfgoaabkcpaaWQPut
import Derived.Test.YtkgcfgoaabkcpaaWApart
import Derived.Test.YtkgcfgoaabkcpaaWArr
import Derived.Test.YtkgcfgoaabkcpaaWZeros
import Derived.Test.YtkgcfgoaabkcpaaWFoot
import Derived.Test.YtkgcfgoaabkcpaaWKept
import Derived.Test.YtkgcfgoaabkcpaaWShare
import Derived.Test.YtkgcfgoaabkcpaaWN
import Derived.Test.YtkgcfgoaabkcpaaWFootNe
import Derived.Test.YtkgcfgoaabkcpaaWAt
import Derived.Test.YtkgcfgoaabkcpaaWEqStruct
import Derived.Test.YtkgcfgoaabkcpaaWRepsOne
import Derived.Test.YtkgcfgoaabkcpaaWInv
import Derived.Test.YtkgcfgoaabkcpaaWInvWords
import Derived.Test.YtkgcfgoaabkcpaaWGuard
import Derived.Test.YtkgcfgoaabkcpaaWNEv
import Derived.Test.YtkgcfgoaabkcpaaWMore
import Derived.Shelf.SlicesQ.Load
import Derived.Deep.DeepFit
import Derived.Lib.Hide
import Derived.Laws.EntriesVeiled

/-! ## part Pa0 -/
-- PRINTED by print.py (a twelfth state) out of the translation. Not trusted: Lean checks it.
namespace Go.Proofs.Ytkgcfgoaabkcpaa.Pa
open Go.RowKit Go.Proofs.YtkgcfgoaabkcpaaW.PrintWords Go.Proofs.YtkgcfgoaabkcpaaW.PrintLast Go.Proofs.YtkgcfgoaabkcpaaW.PrintMore
attribute [local go_sem] max2_int min2_int max_two min_two max_three min_three max_four min_four   -- for this text's walks alone
set_option linter.unusedVariables false
set_option linter.unusedSimpArgs false



def errW : Option Int → Value
  | none => .nilIface
  | some c => .iface 0 (.int .i64 c)
theorem errW_none : errW none = .nilIface := rfl
theorem errW_some (c : Int) : errW (some c) = .iface 0 (.int .i64 c) := rfl

theorem info3 : (Try.prog.info? 3).map (fun i => (i.zero, i.size, i.bytes)) = some (some (.int .i64 0), 1, 8) := by kernel_rfl
theorem info9 : (Try.prog.info? 9).map (fun i => (i.zero, i.size, i.bytes)) = some (some (.string ⟨#[]⟩), 1, 16) := by kernel_rfl
theorem info25 : (Try.prog.info? 25).map (fun i => (i.zero, i.size, i.bytes)) = some (some (.agg #[(.string ⟨#[]⟩), (.slice none 0 0), (.slice none 0 0)]), 3, 64) := by kernel_rfl
theorem info39 : (Try.prog.info? 39).map (fun i => (i.zero, i.size, i.bytes)) = some (some (.agg #[(.string ⟨#[]⟩), (.int .i64 0), (.slice none 0 0)]), 3, 48) := by kernel_rfl
theorem info42 : (Try.prog.info? 42).map (fun i => (i.zero, i.size, i.bytes)) = some (some (.agg #[(.string ⟨#[]⟩), (.int .i64 0)]), 2, 24) := by kernel_rfl
theorem info62 : (Try.prog.info? 62).map (fun i => (i.zero, i.size, i.bytes)) = some (some (.agg #[(.string ⟨#[]⟩), (.bool false)]), 2, 24) := by kernel_rfl
-- the values' own types
/-! #### struct type 62 -/
structure S62 where
  f0 : ByteArray
  f1 : Bool
def z62 : S62 := ⟨(⟨#[]⟩ : ByteArray), false⟩
def k62 : Kd S62 := Kd.iso (Kd.pair Kd.string Kd.bool) (fun x : S62 => (x.f0, x.f1))
theorem k62_heap : Kd.Heap k62 := Kd.heap_iso _ (Kd.heap_pair Kd.heap_string Kd.heap_bool)
theorem k62_open {w : World} {x : S62} {cs : List Value} (h : k62.K w x cs) : cs = [.string x.f0, .bool x.f1] := by
  obtain ⟨_, _, rfl, rfl, rfl⟩ := h
  exact rfl
theorem k62_openM {w : World} {base : Nat} {ok : Nat → Prop} {x : S62} {cs : List Value} (h : k62.M w base ok x cs) : cs = [.string x.f0, .bool x.f1] := by
  obtain ⟨_, _, rfl, rfl, rfl⟩ := h
  exact rfl
theorem k62_mk (w : World) (x : S62)  : k62.K w x [.string x.f0, .bool x.f1] := ⟨[.string x.f0], [.bool x.f1], rfl, rfl, rfl⟩
theorem k62_mkM (w : World) (base : Nat) (ok : Nat → Prop) (x : S62)  : k62.M w base ok x [.string x.f0, .bool x.f1] := ⟨[.string x.f0], [.bool x.f1], rfl, rfl, rfl⟩
theorem k62_mkF (W : World) (ok : Nat → Prop) (x : S62) : Kd.FK k62 W ok x [.string x.f0, .bool x.f1] := fun W2 _ => k62_mk W2 x
def rd_T62 (xs : List S62) (i : Int) : S62 := xs.getD i.toNat z62
theorem at_T62 {w : World} {A : Option Addr} {n : Nat} {xs : List S62} (h : Kd.C k62 w A n xs) (i : Int) (h0 : 0 ≤ i) (h1 : i < n) : ∃ ad , A = some ad ∧ w.cell? (ad.add (i.toNat * 2)) = some (.string (rd_T62 xs i).f0) ∧ w.cell? ⟨(ad.add (i.toNat * 2)).block, (ad.add (i.toNat * 2)).off + 1, none⟩ = some (.bool (rd_T62 xs i).f1) := by
  obtain ⟨ad, c, e, _, hK, hc0⟩ := Kd.C_get h z62 i h0 h1
  have hc : ∀ j u, c[j]? = some u → w.cell? (ad.add (i.toNat * 2 + j)) = some u := hc0
  obtain rfl := k62_open hK
  exact ⟨ad, e, hc 0 _ rfl, by rw [← add_field _ _ 1 (by omega)]; exact hc 1 _ rfl⟩

def rd_L3 (xs : List (List S62)) (i : Int) : (List S62) := xs.getD i.toNat ([] : List S62)
theorem at_L3 {w : World} {A : Option Addr} {n : Nat} {xs : List (List S62)} (h : Kd.C (Kd.slice 62 k62) w A n xs) (i : Int) (h0 : 0 ≤ i) (h1 : i < n) : ∃ ad A0 c0, A = some ad ∧ w.cell? (ad.add i.toNat) = some (.slice A0 (rd_L3 xs i).length c0) ∧ (rd_L3 xs i).length ≤ c0 ∧ k62.C w A0 (rd_L3 xs i).length (rd_L3 xs i) := by
  obtain ⟨ad, c, e, _, hK, hc0⟩ := Kd.C_get h ([] : List S62) i h0 h1
  have hc : ∀ j u, c[j]? = some u → w.cell? (ad.add (i.toNat * 1 + j)) = some u := hc0
  obtain ⟨A0, c0, rfl, l0, g0⟩ := hK
  exact ⟨ad, A0, c0, e, by have hq := hc 0 _ rfl; rwa [Nat.mul_one, Nat.add_zero] at hq, l0, g0⟩

/-! #### struct type 42 -/
structure S42 where
  f0 : ByteArray
  f1 : Int
def z42 : S42 := ⟨(⟨#[]⟩ : ByteArray), (0 : Int)⟩
def k42 : Kd S42 := Kd.iso (Kd.pair Kd.string (Kd.int .i64)) (fun x : S42 => (x.f0, x.f1))
theorem k42_heap : Kd.Heap k42 := Kd.heap_iso _ (Kd.heap_pair Kd.heap_string (Kd.heap_int .i64))
theorem k42_open {w : World} {x : S42} {cs : List Value} (h : k42.K w x cs) : cs = [.string x.f0, .int .i64 x.f1] := by
  obtain ⟨_, _, rfl, rfl, rfl⟩ := h
  exact rfl
theorem k42_openM {w : World} {base : Nat} {ok : Nat → Prop} {x : S42} {cs : List Value} (h : k42.M w base ok x cs) : cs = [.string x.f0, .int .i64 x.f1] := by
  obtain ⟨_, _, rfl, rfl, rfl⟩ := h
  exact rfl
theorem k42_mk (w : World) (x : S42)  : k42.K w x [.string x.f0, .int .i64 x.f1] := ⟨[.string x.f0], [.int .i64 x.f1], rfl, rfl, rfl⟩
theorem k42_mkM (w : World) (base : Nat) (ok : Nat → Prop) (x : S42)  : k42.M w base ok x [.string x.f0, .int .i64 x.f1] := ⟨[.string x.f0], [.int .i64 x.f1], rfl, rfl, rfl⟩
theorem k42_mkF (W : World) (ok : Nat → Prop) (x : S42) : Kd.FK k42 W ok x [.string x.f0, .int .i64 x.f1] := fun W2 _ => k42_mk W2 x
def rd_T42 (xs : List S42) (i : Int) : S42 := xs.getD i.toNat z42
theorem at_T42 {w : World} {A : Option Addr} {n : Nat} {xs : List S42} (h : Kd.C k42 w A n xs) (i : Int) (h0 : 0 ≤ i) (h1 : i < n) : ∃ ad , A = some ad ∧ w.cell? (ad.add (i.toNat * 2)) = some (.string (rd_T42 xs i).f0) ∧ w.cell? ⟨(ad.add (i.toNat * 2)).block, (ad.add (i.toNat * 2)).off + 1, none⟩ = some (.int .i64 (rd_T42 xs i).f1) := by
  obtain ⟨ad, c, e, _, hK, hc0⟩ := Kd.C_get h z42 i h0 h1
  have hc : ∀ j u, c[j]? = some u → w.cell? (ad.add (i.toNat * 2 + j)) = some u := hc0
  obtain rfl := k42_open hK
  exact ⟨ad, e, hc 0 _ rfl, by rw [← add_field _ _ 1 (by omega)]; exact hc 1 _ rfl⟩

def rd_L6 (xs : List (List S42)) (i : Int) : (List S42) := xs.getD i.toNat ([] : List S42)
theorem at_L6 {w : World} {A : Option Addr} {n : Nat} {xs : List (List S42)} (h : Kd.C (Kd.slice 42 k42) w A n xs) (i : Int) (h0 : 0 ≤ i) (h1 : i < n) : ∃ ad A0 c0, A = some ad ∧ w.cell? (ad.add i.toNat) = some (.slice A0 (rd_L6 xs i).length c0) ∧ (rd_L6 xs i).length ≤ c0 ∧ k42.C w A0 (rd_L6 xs i).length (rd_L6 xs i) := by
  obtain ⟨ad, c, e, _, hK, hc0⟩ := Kd.C_get h ([] : List S42) i h0 h1
  have hc : ∀ j u, c[j]? = some u → w.cell? (ad.add (i.toNat * 1 + j)) = some u := hc0
  obtain ⟨A0, c0, rfl, l0, g0⟩ := hK
  exact ⟨ad, A0, c0, e, by have hq := hc 0 _ rfl; rwa [Nat.mul_one, Nat.add_zero] at hq, l0, g0⟩

/-! #### struct type 39 -/
structure S39 where
  f0 : ByteArray
  f1 : Int
  f2 : (List S42)
def z39 : S39 := ⟨(⟨#[]⟩ : ByteArray), (0 : Int), ([] : List S42)⟩
def k39 : Kd S39 := Kd.iso (Kd.pair Kd.string (Kd.pair (Kd.int .i64) (Kd.slice 42 k42))) (fun x : S39 => (x.f0, x.f1, x.f2))
theorem k39_heap : Kd.Heap k39 := Kd.heap_iso _ (Kd.heap_pair Kd.heap_string (Kd.heap_pair (Kd.heap_int .i64) (Kd.heap_slice 42 k42_heap)))
theorem k39_open {w : World} {x : S39} {cs : List Value} (h : k39.K w x cs) : ∃ A2 c2, cs = [.string x.f0, .int .i64 x.f1, .slice A2 x.f2.length c2] ∧ x.f2.length ≤ c2 ∧ k42.C w A2 x.f2.length x.f2 := by
  obtain ⟨_, _, rfl, rfl, ⟨_, _, rfl, rfl, ⟨A2, c2, rfl, l2, g2⟩⟩⟩ := h
  exact ⟨A2, c2, rfl, l2, g2⟩
theorem k39_openM {w : World} {base : Nat} {ok : Nat → Prop} {x : S39} {cs : List Value} (h : k39.M w base ok x cs) : ∃ v2, cs = [.string x.f0, .int .i64 x.f1, v2] ∧ k42.R 42 w base ok v2 x.f2 := by
  obtain ⟨_, _, rfl, rfl, ⟨_, _, rfl, rfl, ⟨v2, rfl, g2⟩⟩⟩ := h
  exact ⟨v2, rfl, g2⟩
theorem k39_mk (w : World) (x : S39) {A2 : Option Addr} {c2 : Nat} (l2 : x.f2.length ≤ c2) (g2 : k42.C w A2 x.f2.length x.f2) : k39.K w x [.string x.f0, .int .i64 x.f1, .slice A2 x.f2.length c2] := ⟨[.string x.f0], [.int .i64 x.f1, .slice A2 x.f2.length c2], rfl, rfl, ⟨[.int .i64 x.f1], [.slice A2 x.f2.length c2], rfl, rfl, ⟨A2, c2, rfl, l2, g2⟩⟩⟩
theorem k39_mkM (w : World) (base : Nat) (ok : Nat → Prop) (x : S39) {v2 : Value} (g2 : k42.R 42 w base ok v2 x.f2) : k39.M w base ok x [.string x.f0, .int .i64 x.f1, v2] := ⟨[.string x.f0], [.int .i64 x.f1, v2], rfl, rfl, ⟨[.int .i64 x.f1], [v2], rfl, rfl, ⟨v2, rfl, g2⟩⟩⟩
theorem k39_openF {W : World} {ok : Nat → Prop} {x : S39} {cs : List Value} (h : Kd.FK k39 W ok x cs) : ∃ A2 c2, cs = [.string x.f0, .int .i64 x.f1, .slice A2 x.f2.length c2] ∧ x.f2.length ≤ c2 ∧ Kd.F k42 W ok A2 x.f2.length x.f2 := by
  obtain ⟨A2, c2, rfl, l2, _⟩ := k39_open (Kd.FK_now h)
  exact ⟨A2, c2, rfl, l2, (fun W' hW => by obtain ⟨A2_, c2_, he, l2_, g2_⟩ := k39_open (h W' hW); injection (Option.some.inj (show some (Value.slice A2 x.f2.length c2) = some (Value.slice A2_ x.f2.length c2_) from congrArg (fun l => l[2]?) he)) with ha_ _ _; rw [ha_]; exact g2_)⟩
theorem k39_mkF (W : World) (ok : Nat → Prop) (x : S39) {A2 : Option Addr} {c2 : Nat} (l2 : x.f2.length ≤ c2) (g2 : Kd.F k42 W ok A2 x.f2.length x.f2) : Kd.FK k39 W ok x [.string x.f0, .int .i64 x.f1, .slice A2 x.f2.length c2] := fun W2 hW => k39_mk W2 x l2 (g2 W2 hW)
def rd_T39 (xs : List S39) (i : Int) : S39 := xs.getD i.toNat z39
theorem at_T39 {w : World} {A : Option Addr} {n : Nat} {xs : List S39} (h : Kd.C k39 w A n xs) (i : Int) (h0 : 0 ≤ i) (h1 : i < n) : ∃ ad A2 c2, A = some ad ∧ w.cell? (ad.add (i.toNat * 3)) = some (.string (rd_T39 xs i).f0) ∧ w.cell? ⟨(ad.add (i.toNat * 3)).block, (ad.add (i.toNat * 3)).off + 1, none⟩ = some (.int .i64 (rd_T39 xs i).f1) ∧ w.cell? ⟨(ad.add (i.toNat * 3)).block, (ad.add (i.toNat * 3)).off + 2, none⟩ = some (.slice A2 (rd_T39 xs i).f2.length c2) ∧ (rd_T39 xs i).f2.length ≤ c2 ∧ k42.C w A2 (rd_T39 xs i).f2.length (rd_T39 xs i).f2 := by
  obtain ⟨ad, c, e, _, hK, hc0⟩ := Kd.C_get h z39 i h0 h1
  have hc : ∀ j u, c[j]? = some u → w.cell? (ad.add (i.toNat * 3 + j)) = some u := hc0
  obtain ⟨A2, c2, rfl, l2, g2⟩ := k39_open hK
  exact ⟨ad, A2, c2, e, hc 0 _ rfl, by rw [← add_field _ _ 1 (by omega)]; exact hc 1 _ rfl, by rw [← add_field _ _ 2 (by omega)]; exact hc 2 _ rfl, l2, g2⟩

def rd_L8 (xs : List (List S39)) (i : Int) : (List S39) := xs.getD i.toNat ([] : List S39)
theorem at_L8 {w : World} {A : Option Addr} {n : Nat} {xs : List (List S39)} (h : Kd.C (Kd.slice 39 k39) w A n xs) (i : Int) (h0 : 0 ≤ i) (h1 : i < n) : ∃ ad A0 c0, A = some ad ∧ w.cell? (ad.add i.toNat) = some (.slice A0 (rd_L8 xs i).length c0) ∧ (rd_L8 xs i).length ≤ c0 ∧ k39.C w A0 (rd_L8 xs i).length (rd_L8 xs i) := by
  obtain ⟨ad, c, e, _, hK, hc0⟩ := Kd.C_get h ([] : List S39) i h0 h1
  have hc : ∀ j u, c[j]? = some u → w.cell? (ad.add (i.toNat * 1 + j)) = some u := hc0
  obtain ⟨A0, c0, rfl, l0, g0⟩ := hK
  exact ⟨ad, A0, c0, e, by have hq := hc 0 _ rfl; rwa [Nat.mul_one, Nat.add_zero] at hq, l0, g0⟩

/-! #### struct type 25 -/
structure S25 where
  f0 : ByteArray
  f1 : (List S62)
  f2 : (List S39)
def z25 : S25 := ⟨(⟨#[]⟩ : ByteArray), ([] : List S62), ([] : List S39)⟩
def k25 : Kd S25 := Kd.iso (Kd.pair Kd.string (Kd.pair (Kd.slice 62 k62) (Kd.slice 39 k39))) (fun x : S25 => (x.f0, x.f1, x.f2))
theorem k25_heap : Kd.Heap k25 := Kd.heap_iso _ (Kd.heap_pair Kd.heap_string (Kd.heap_pair (Kd.heap_slice 62 k62_heap) (Kd.heap_slice 39 k39_heap)))
theorem k25_open {w : World} {x : S25} {cs : List Value} (h : k25.K w x cs) : ∃ A1 c1 A2 c2, cs = [.string x.f0, .slice A1 x.f1.length c1, .slice A2 x.f2.length c2] ∧ x.f1.length ≤ c1 ∧ k62.C w A1 x.f1.length x.f1 ∧ x.f2.length ≤ c2 ∧ k39.C w A2 x.f2.length x.f2 := by
  obtain ⟨_, _, rfl, rfl, ⟨_, _, rfl, ⟨A1, c1, rfl, l1, g1⟩, ⟨A2, c2, rfl, l2, g2⟩⟩⟩ := h
  exact ⟨A1, c1, A2, c2, rfl, l1, g1, l2, g2⟩
theorem k25_openM {w : World} {base : Nat} {ok : Nat → Prop} {x : S25} {cs : List Value} (h : k25.M w base ok x cs) : ∃ v1 v2, cs = [.string x.f0, v1, v2] ∧ k62.R 62 w base ok v1 x.f1 ∧ k39.R 39 w base ok v2 x.f2 := by
  obtain ⟨_, _, rfl, rfl, ⟨_, _, rfl, ⟨v1, rfl, g1⟩, ⟨v2, rfl, g2⟩⟩⟩ := h
  exact ⟨v1, v2, rfl, g1, g2⟩
theorem k25_mk (w : World) (x : S25) {A1 : Option Addr} {c1 : Nat} (l1 : x.f1.length ≤ c1) (g1 : k62.C w A1 x.f1.length x.f1) {A2 : Option Addr} {c2 : Nat} (l2 : x.f2.length ≤ c2) (g2 : k39.C w A2 x.f2.length x.f2) : k25.K w x [.string x.f0, .slice A1 x.f1.length c1, .slice A2 x.f2.length c2] := ⟨[.string x.f0], [.slice A1 x.f1.length c1, .slice A2 x.f2.length c2], rfl, rfl, ⟨[.slice A1 x.f1.length c1], [.slice A2 x.f2.length c2], rfl, ⟨A1, c1, rfl, l1, g1⟩, ⟨A2, c2, rfl, l2, g2⟩⟩⟩
theorem k25_mkM (w : World) (base : Nat) (ok : Nat → Prop) (x : S25) {v1 : Value} (g1 : k62.R 62 w base ok v1 x.f1) {v2 : Value} (g2 : k39.R 39 w base ok v2 x.f2) : k25.M w base ok x [.string x.f0, v1, v2] := ⟨[.string x.f0], [v1, v2], rfl, rfl, ⟨[v1], [v2], rfl, ⟨v1, rfl, g1⟩, ⟨v2, rfl, g2⟩⟩⟩
theorem k25_openF {W : World} {ok : Nat → Prop} {x : S25} {cs : List Value} (h : Kd.FK k25 W ok x cs) : ∃ A1 c1 A2 c2, cs = [.string x.f0, .slice A1 x.f1.length c1, .slice A2 x.f2.length c2] ∧ x.f1.length ≤ c1 ∧ Kd.F k62 W ok A1 x.f1.length x.f1 ∧ x.f2.length ≤ c2 ∧ Kd.F k39 W ok A2 x.f2.length x.f2 := by
  obtain ⟨A1, c1, A2, c2, rfl, l1, _, l2, _⟩ := k25_open (Kd.FK_now h)
  exact ⟨A1, c1, A2, c2, rfl, l1, (fun W' hW => by obtain ⟨A1_, c1_, A2_, c2_, he, l1_, g1_, l2_, g2_⟩ := k25_open (h W' hW); injection (Option.some.inj (show some (Value.slice A1 x.f1.length c1) = some (Value.slice A1_ x.f1.length c1_) from congrArg (fun l => l[1]?) he)) with ha_ _ _; rw [ha_]; exact g1_), l2, (fun W' hW => by obtain ⟨A1_, c1_, A2_, c2_, he, l1_, g1_, l2_, g2_⟩ := k25_open (h W' hW); injection (Option.some.inj (show some (Value.slice A2 x.f2.length c2) = some (Value.slice A2_ x.f2.length c2_) from congrArg (fun l => l[2]?) he)) with ha_ _ _; rw [ha_]; exact g2_)⟩
theorem k25_mkF (W : World) (ok : Nat → Prop) (x : S25) {A1 : Option Addr} {c1 : Nat} (l1 : x.f1.length ≤ c1) (g1 : Kd.F k62 W ok A1 x.f1.length x.f1) {A2 : Option Addr} {c2 : Nat} (l2 : x.f2.length ≤ c2) (g2 : Kd.F k39 W ok A2 x.f2.length x.f2) : Kd.FK k25 W ok x [.string x.f0, .slice A1 x.f1.length c1, .slice A2 x.f2.length c2] := fun W2 hW => k25_mk W2 x l1 (g1 W2 hW) l2 (g2 W2 hW)
def rd_T25 (xs : List S25) (i : Int) : S25 := xs.getD i.toNat z25
theorem at_T25 {w : World} {A : Option Addr} {n : Nat} {xs : List S25} (h : Kd.C k25 w A n xs) (i : Int) (h0 : 0 ≤ i) (h1 : i < n) : ∃ ad A1 c1 A2 c2, A = some ad ∧ w.cell? (ad.add (i.toNat * 3)) = some (.string (rd_T25 xs i).f0) ∧ w.cell? ⟨(ad.add (i.toNat * 3)).block, (ad.add (i.toNat * 3)).off + 1, none⟩ = some (.slice A1 (rd_T25 xs i).f1.length c1) ∧ w.cell? ⟨(ad.add (i.toNat * 3)).block, (ad.add (i.toNat * 3)).off + 2, none⟩ = some (.slice A2 (rd_T25 xs i).f2.length c2) ∧ (rd_T25 xs i).f1.length ≤ c1 ∧ k62.C w A1 (rd_T25 xs i).f1.length (rd_T25 xs i).f1 ∧ (rd_T25 xs i).f2.length ≤ c2 ∧ k39.C w A2 (rd_T25 xs i).f2.length (rd_T25 xs i).f2 := by
  obtain ⟨ad, c, e, _, hK, hc0⟩ := Kd.C_get h z25 i h0 h1
  have hc : ∀ j u, c[j]? = some u → w.cell? (ad.add (i.toNat * 3 + j)) = some u := hc0
  obtain ⟨A1, c1, A2, c2, rfl, l1, g1, l2, g2⟩ := k25_open hK
  exact ⟨ad, A1, c1, A2, c2, e, hc 0 _ rfl, by rw [← add_field _ _ 1 (by omega)]; exact hc 1 _ rfl, by rw [← add_field _ _ 2 (by omega)]; exact hc 2 _ rfl, l1, g1, l2, g2⟩

/-! #### struct type 131 -/
structure S131 where
  f0 : S25
  f1 : Int
def z131 : S131 := ⟨z25, (0 : Int)⟩
def k131 : Kd S131 := Kd.iso (Kd.pair k25 (Kd.int .i64)) (fun x : S131 => (x.f0, x.f1))
theorem k131_heap : Kd.Heap k131 := Kd.heap_iso _ (Kd.heap_pair k25_heap (Kd.heap_int .i64))
theorem k131_open {w : World} {x : S131} {cs : List Value} (h : k131.K w x cs) : ∃ A1 c1 A2 c2, cs = [.string x.f0.f0, .slice A1 x.f0.f1.length c1, .slice A2 x.f0.f2.length c2, .int .i64 x.f1] ∧ x.f0.f1.length ≤ c1 ∧ k62.C w A1 x.f0.f1.length x.f0.f1 ∧ x.f0.f2.length ≤ c2 ∧ k39.C w A2 x.f0.f2.length x.f0.f2 := by
  obtain ⟨_, _, rfl, s0, rfl⟩ := h
  obtain ⟨A1, c1, A2, c2, rfl, l1, g1, l2, g2⟩ := k25_open s0
  exact ⟨A1, c1, A2, c2, rfl, l1, g1, l2, g2⟩
theorem k131_openM {w : World} {base : Nat} {ok : Nat → Prop} {x : S131} {cs : List Value} (h : k131.M w base ok x cs) : ∃ v1 v2, cs = [.string x.f0.f0, v1, v2, .int .i64 x.f1] ∧ k62.R 62 w base ok v1 x.f0.f1 ∧ k39.R 39 w base ok v2 x.f0.f2 := by
  obtain ⟨_, _, rfl, s0, rfl⟩ := h
  obtain ⟨v1, v2, rfl, g1, g2⟩ := k25_openM s0
  exact ⟨v1, v2, rfl, g1, g2⟩
theorem k131_mk (w : World) (x : S131) {A1 : Option Addr} {c1 : Nat} (l1 : x.f0.f1.length ≤ c1) (g1 : k62.C w A1 x.f0.f1.length x.f0.f1) {A2 : Option Addr} {c2 : Nat} (l2 : x.f0.f2.length ≤ c2) (g2 : k39.C w A2 x.f0.f2.length x.f0.f2) : k131.K w x [.string x.f0.f0, .slice A1 x.f0.f1.length c1, .slice A2 x.f0.f2.length c2, .int .i64 x.f1] := ⟨[.string x.f0.f0, .slice A1 x.f0.f1.length c1, .slice A2 x.f0.f2.length c2], [.int .i64 x.f1], rfl, (k25_mk w x.f0 l1 g1 l2 g2), rfl⟩
theorem k131_mkM (w : World) (base : Nat) (ok : Nat → Prop) (x : S131) {v1 : Value} (g1 : k62.R 62 w base ok v1 x.f0.f1) {v2 : Value} (g2 : k39.R 39 w base ok v2 x.f0.f2) : k131.M w base ok x [.string x.f0.f0, v1, v2, .int .i64 x.f1] := ⟨[.string x.f0.f0, v1, v2], [.int .i64 x.f1], rfl, (k25_mkM w base ok x.f0 g1 g2), rfl⟩
theorem k131_openF {W : World} {ok : Nat → Prop} {x : S131} {cs : List Value} (h : Kd.FK k131 W ok x cs) : ∃ A1 c1 A2 c2, cs = [.string x.f0.f0, .slice A1 x.f0.f1.length c1, .slice A2 x.f0.f2.length c2, .int .i64 x.f1] ∧ x.f0.f1.length ≤ c1 ∧ Kd.F k62 W ok A1 x.f0.f1.length x.f0.f1 ∧ x.f0.f2.length ≤ c2 ∧ Kd.F k39 W ok A2 x.f0.f2.length x.f0.f2 := by
  obtain ⟨A1, c1, A2, c2, rfl, l1, _, l2, _⟩ := k131_open (Kd.FK_now h)
  exact ⟨A1, c1, A2, c2, rfl, l1, (fun W' hW => by obtain ⟨A1_, c1_, A2_, c2_, he, l1_, g1_, l2_, g2_⟩ := k131_open (h W' hW); injection (Option.some.inj (show some (Value.slice A1 x.f0.f1.length c1) = some (Value.slice A1_ x.f0.f1.length c1_) from congrArg (fun l => l[1]?) he)) with ha_ _ _; rw [ha_]; exact g1_), l2, (fun W' hW => by obtain ⟨A1_, c1_, A2_, c2_, he, l1_, g1_, l2_, g2_⟩ := k131_open (h W' hW); injection (Option.some.inj (show some (Value.slice A2 x.f0.f2.length c2) = some (Value.slice A2_ x.f0.f2.length c2_) from congrArg (fun l => l[2]?) he)) with ha_ _ _; rw [ha_]; exact g2_)⟩
theorem k131_mkF (W : World) (ok : Nat → Prop) (x : S131) {A1 : Option Addr} {c1 : Nat} (l1 : x.f0.f1.length ≤ c1) (g1 : Kd.F k62 W ok A1 x.f0.f1.length x.f0.f1) {A2 : Option Addr} {c2 : Nat} (l2 : x.f0.f2.length ≤ c2) (g2 : Kd.F k39 W ok A2 x.f0.f2.length x.f0.f2) : Kd.FK k131 W ok x [.string x.f0.f0, .slice A1 x.f0.f1.length c1, .slice A2 x.f0.f2.length c2, .int .i64 x.f1] := fun W2 hW => k131_mk W2 x l1 (g1 W2 hW) l2 (g2 W2 hW)
def rd_T131 (xs : List S131) (i : Int) : S131 := xs.getD i.toNat z131
theorem at_T131 {w : World} {A : Option Addr} {n : Nat} {xs : List S131} (h : Kd.C k131 w A n xs) (i : Int) (h0 : 0 ≤ i) (h1 : i < n) : ∃ ad A1 c1 A2 c2, A = some ad ∧ w.cell? (ad.add (i.toNat * 4)) = some (.string (rd_T131 xs i).f0.f0) ∧ w.cell? ⟨(ad.add (i.toNat * 4)).block, (ad.add (i.toNat * 4)).off + 1, none⟩ = some (.slice A1 (rd_T131 xs i).f0.f1.length c1) ∧ w.cell? ⟨(ad.add (i.toNat * 4)).block, (ad.add (i.toNat * 4)).off + 2, none⟩ = some (.slice A2 (rd_T131 xs i).f0.f2.length c2) ∧ w.cell? ⟨(ad.add (i.toNat * 4)).block, (ad.add (i.toNat * 4)).off + 3, none⟩ = some (.int .i64 (rd_T131 xs i).f1) ∧ (rd_T131 xs i).f0.f1.length ≤ c1 ∧ k62.C w A1 (rd_T131 xs i).f0.f1.length (rd_T131 xs i).f0.f1 ∧ (rd_T131 xs i).f0.f2.length ≤ c2 ∧ k39.C w A2 (rd_T131 xs i).f0.f2.length (rd_T131 xs i).f0.f2 := by
  obtain ⟨ad, c, e, _, hK, hc0⟩ := Kd.C_get h z131 i h0 h1
  have hc : ∀ j u, c[j]? = some u → w.cell? (ad.add (i.toNat * 4 + j)) = some u := hc0
  obtain ⟨A1, c1, A2, c2, rfl, l1, g1, l2, g2⟩ := k131_open hK
  exact ⟨ad, A1, c1, A2, c2, e, hc 0 _ rfl, by rw [← add_field _ _ 1 (by omega)]; exact hc 1 _ rfl, by rw [← add_field _ _ 2 (by omega)]; exact hc 2 _ rfl, by rw [← add_field _ _ 3 (by omega)]; exact hc 3 _ rfl, l1, g1, l2, g2⟩

end Go.Proofs.Ytkgcfgoaabkcpaa.Pa


/-! ## part E0 -/
namespace Go.Proofs.Ytkgcfgoaabkcpaa.Pa
open Go.RowKit Go.Proofs.YtkgcfgoaabkcpaaW.PrintWords Go.Proofs.YtkgcfgoaabkcpaaW.PrintLast Go.Proofs.YtkgcfgoaabkcpaaW.PrintMore
set_option linter.unusedVariables false
set_option linter.unusedSimpArgs false

theorem bch {w W w' : World} (h : Below w.heap.size w W) (k : Below W.heap.size W w') : Below w.heap.size w w' := h.trans (k.mono h.size)
theorem ret_i {a b : Int} (h : a = b) : Ending.returned (.int .i64 a) = .returned (.int .i64 b) := by rw [h]
theorem ret_b {a b : Bool} (h : a = b) : Ending.returned (.bool a) = .returned (.bool b) := by rw [h]

/-- What a function value answers of an element that lies in memory, at whatever later world. -/
def Tells {α : Type} (g : Nat) (lb : Array Value) (d : Kd α) (w : World) (xs : List α) (p : α → Bool) : Prop :=
  ∀ (W : World) (x : α) (cs : List Value), x ∈ xs → Below w.heap.size w W → d.K W x cs → Calls Try.prog g (#[.agg cs.toArray] ++ lb) W fun e w' => e = .returned (.bool (p x)) ∧ Below W.heap.size W w'

/-- The first place of an element that is so; -1. -/
def idxP {α : Type} (p : α → Bool) : List α → Int
  | [] => -1
  | x :: xs => if p x then 0 else if idxP p xs < 0 then -1 else idxP p xs + 1

theorem idxP_hit {α : Type} (p : α → Bool) (xs : List α) (k : Nat) (x : α) (hx : xs[k]? = some x) (hp : p x = true) (hb : ∀ j y, j < k → xs[j]? = some y → p y = false) : idxP p xs = k := by
  induction xs generalizing k with
  | nil => simp at hx
  | cons y ys ih =>
    cases k with
    | zero => simp at hx; subst hx; simp [idxP, hp]
    | succ k =>
      have h0 := hb 0 y (by omega) rfl
      have := ih k (by simpa using hx) (fun j z hj hz => hb (j + 1) z (by omega) (by simpa using hz))
      simp only [idxP, h0, this]
      rw [if_neg (by simp), if_neg (by omega)]; omega
theorem idxP_miss {α : Type} (p : α → Bool) (xs : List α) (hb : ∀ y, y ∈ xs → p y = false) : idxP p xs = -1 := by
  induction xs with
  | nil => rfl
  | cons y ys ih =>
    have := ih (fun z hz => hb z (List.mem_cons_of_mem _ hz))
    simp [idxP, hb y List.mem_cons_self, this]
theorem idxP_ge' {α : Type} (p : α → Bool) (xs : List α) : 0 ≤ idxP p xs ↔ xs.any p = true := by
  induction xs with
  | nil => simp [idxP]
  | cons y ys ih =>
    rw [List.any_cons, Bool.or_eq_true, ← ih]
    show 0 ≤ (if p y then (0 : Int) else if idxP p ys < 0 then -1 else idxP p ys + 1) ↔ _
    by_cases hy : p y = true
    · rw [if_pos hy]; simp [hy]
    · rw [if_neg hy]
      by_cases h : idxP p ys < 0
      · rw [if_pos h]; constructor
        · intro h'; omega
        · rintro (h' | h')
          · exact absurd h' hy
          · omega
      · rw [if_neg h]; constructor
        · intro h'; right; omega
        · intro _; omega
theorem idxP_ge {α : Type} (p : α → Bool) (xs : List α) : decide (idxP p xs ≥ 0) = xs.any p := by
  have h := idxP_ge' p xs
  cases hx : xs.any p with
  | true => exact decide_eq_true (h.mpr hx)
  | false => exact decide_eq_false (fun h' => by rw [h.mp h'] at hx; cases hx)


set_option maxHeartbeats 2000000 in
theorem indexFunc42 (p : S42 → Bool) (g : Nat) (lb : Array Value) (eg : ∀ args w, (callFunc g args).run Try.prog w = .ok (.enter g args) w) (A : Option Addr) (c : Nat) (l : List S42) (w : World)
    (hr : Kd.C k42 w A l.length l) (hc : l.length ≤ c) (hp : Tells g lb k42 w l p) (hbig : l.length ≤ 9223372036854775807) :
    Calls Try.prog 96 #[.slice A l.length c, .func (.func g) #[] lb] w fun e w' => e = .returned (.int .i64 (idxP p l)) ∧ Below w.heap.size w w' := by
  have HP := Lib.hid hp; clear hp
  have HR := Lib.hid hr; clear hr
  go_enter Try.func96, Try.ntmps96
  go_wp2
  go_loopg [5, 8] l.length (fun gg _ s8 wr => ∃ kk : Nat, kk ≤ l.length ∧ l.length - kk ≤ gg ∧ s8 = .int .i64 kk ∧ Aside0 (Below w.heap.size w wr) ∧ Aside0 (∀ j y, j < kk → l[j]? = some y → p y = false))
  case atStart => exact ⟨0, Nat.zero_le _, by omega, rfl, ⟨Below.refl _ w⟩, ⟨fun j y hj => absurd hj (Nat.not_lt_zero _)⟩⟩
  case round =>
    obtain ⟨kk, hkk, hg, rfl, BW, A1⟩ := hrel
    by_cases hlt : kk < l.length
    · have hltz : (kk : Int) < (l.length : Int) := by omega
      obtain ⟨ad, e0, h0, h1⟩ := at_T42 (Kd.C_below HR.out BW.out) kk (by omega) hltz
      have hget : l[kk]? = some (rd_T42 l kk) := by unfold rd_T42; simp [List.getD_eq_getElem?_getD, hlt]
      have hcall := HP.out wr (rd_T42 l kk) _ (List.mem_of_getElem? hget) BW.out (k42_mk _ _)
      have HG := Lib.hid hget; clear hget
      generalize rd_T42 l kk = y at h0 h1 hcall HG
      cases e0
      simp only [Int.toNat_natCast] at h0 h1
      skip
      cases hq : p y with
      | true =>
        rw [hq] at hcall
        go_wp2_with (go_at_fn g; refine hcall.mono ?_; rintro e w' ⟨rfl, hb'⟩)
        go_ret
        exact ⟨ret_i (idxP_hit p l kk y HG.out hq A1.out).symm, bch BW.out hb'⟩
      | false =>
        rw [hq] at hcall
        go_wp2_with (go_at_fn g; refine hcall.mono ?_; rintro e w' ⟨rfl, hb'⟩)
        go_roundg (l.length - (kk + 1))
        case measure => omega
        case rel =>
          refine ⟨kk + 1, by omega, by omega, by go_num, ⟨bch BW.out hb'⟩, ⟨fun j z hj hz => ?_⟩⟩
          by_cases e : j = kk
          · subst e; rw [HG.out] at hz; cases hz; exact hq
          · exact A1.out j z (by omega) hz
    · have hltz : ¬ (kk : Int) < (l.length : Int) := by omega
      go_wp2
      go_ret
      refine ⟨ret_i (idxP_miss p l (fun y hy => ?_)).symm, BW.out⟩
      obtain ⟨j, hj, rfl⟩ := List.getElem_of_mem hy
      exact A1.out j _ (by omega) (List.getElem?_eq_getElem hj)


set_option maxHeartbeats 1000000 in
theorem containsFunc42 (p : S42 → Bool) (g : Nat) (lb : Array Value) (eg : ∀ args w, (callFunc g args).run Try.prog w = .ok (.enter g args) w) (A : Option Addr) (c : Nat) (l : List S42) (w : World)
    (hr : Kd.C k42 w A l.length l) (hc : l.length ≤ c) (hp : Tells g lb k42 w l p) (hbig : l.length ≤ 9223372036854775807) :
    Calls Try.prog 61 #[.slice A l.length c, .func (.func g) #[] lb] w fun e w' => e = .returned (.bool (l.any p)) ∧ Below w.heap.size w w' := by
  have hcall := indexFunc42 p g lb eg A c l w hr hc hp hbig
  have hge := Lib.hid (idxP_ge p l)
  clear hr hp eg
  go_enter Try.func61, Try.ntmps61
  go_wp2_with (go_at_call 96; refine hcall.mono ?_; rintro e w' ⟨rfl, hb'⟩)
  go_ret
  exact ⟨ret_b hge.out, hb'⟩


set_option maxHeartbeats 2000000 in
theorem indexFunc39 (p : S39 → Bool) (g : Nat) (lb : Array Value) (eg : ∀ args w, (callFunc g args).run Try.prog w = .ok (.enter g args) w) (A : Option Addr) (c : Nat) (l : List S39) (w : World)
    (hr : Kd.C k39 w A l.length l) (hc : l.length ≤ c) (hp : Tells g lb k39 w l p) (hbig : l.length ≤ 9223372036854775807) :
    Calls Try.prog 112 #[.slice A l.length c, .func (.func g) #[] lb] w fun e w' => e = .returned (.int .i64 (idxP p l)) ∧ Below w.heap.size w w' := by
  have HP := Lib.hid hp; clear hp
  have HR := Lib.hid hr; clear hr
  go_enter Try.func112, Try.ntmps112
  go_wp2
  go_loopg [5, 8] l.length (fun gg _ s8 wr => ∃ kk : Nat, kk ≤ l.length ∧ l.length - kk ≤ gg ∧ s8 = .int .i64 kk ∧ Aside0 (Below w.heap.size w wr) ∧ Aside0 (∀ j y, j < kk → l[j]? = some y → p y = false))
  case atStart => exact ⟨0, Nat.zero_le _, by omega, rfl, ⟨Below.refl _ w⟩, ⟨fun j y hj => absurd hj (Nat.not_lt_zero _)⟩⟩
  case round =>
    obtain ⟨kk, hkk, hg, rfl, BW, A1⟩ := hrel
    by_cases hlt : kk < l.length
    · have hltz : (kk : Int) < (l.length : Int) := by omega
      obtain ⟨ad, A2_, c2_, e0, h0, h1, h2, l2, g2⟩ := at_T39 (Kd.C_below HR.out BW.out) kk (by omega) hltz
      have hget : l[kk]? = some (rd_T39 l kk) := by unfold rd_T39; simp [List.getD_eq_getElem?_getD, hlt]
      have hcall := HP.out wr (rd_T39 l kk) _ (List.mem_of_getElem? hget) BW.out (k39_mk _ _ l2 g2)
      have HG := Lib.hid hget; clear hget
      generalize rd_T39 l kk = y at h0 h1 h2 hcall HG l2 g2
      cases e0
      simp only [Int.toNat_natCast] at h0 h1 h2
      clear l2 g2
      cases hq : p y with
      | true =>
        rw [hq] at hcall
        go_wp2_with (go_at_fn g; refine hcall.mono ?_; rintro e w' ⟨rfl, hb'⟩)
        go_ret
        exact ⟨ret_i (idxP_hit p l kk y HG.out hq A1.out).symm, bch BW.out hb'⟩
      | false =>
        rw [hq] at hcall
        go_wp2_with (go_at_fn g; refine hcall.mono ?_; rintro e w' ⟨rfl, hb'⟩)
        go_roundg (l.length - (kk + 1))
        case measure => omega
        case rel =>
          refine ⟨kk + 1, by omega, by omega, by go_num, ⟨bch BW.out hb'⟩, ⟨fun j z hj hz => ?_⟩⟩
          by_cases e : j = kk
          · subst e; rw [HG.out] at hz; cases hz; exact hq
          · exact A1.out j z (by omega) hz
    · have hltz : ¬ (kk : Int) < (l.length : Int) := by omega
      go_wp2
      go_ret
      refine ⟨ret_i (idxP_miss p l (fun y hy => ?_)).symm, BW.out⟩
      obtain ⟨j, hj, rfl⟩ := List.getElem_of_mem hy
      exact A1.out j _ (by omega) (List.getElem?_eq_getElem hj)


set_option maxHeartbeats 1000000 in
theorem containsFunc39 (p : S39 → Bool) (g : Nat) (lb : Array Value) (eg : ∀ args w, (callFunc g args).run Try.prog w = .ok (.enter g args) w) (A : Option Addr) (c : Nat) (l : List S39) (w : World)
    (hr : Kd.C k39 w A l.length l) (hc : l.length ≤ c) (hp : Tells g lb k39 w l p) (hbig : l.length ≤ 9223372036854775807) :
    Calls Try.prog 90 #[.slice A l.length c, .func (.func g) #[] lb] w fun e w' => e = .returned (.bool (l.any p)) ∧ Below w.heap.size w w' := by
  have hcall := indexFunc39 p g lb eg A c l w hr hc hp hbig
  have hge := Lib.hid (idxP_ge p l)
  clear hr hp eg
  go_enter Try.func90, Try.ntmps90
  go_wp2_with (go_at_call 112; refine hcall.mono ?_; rintro e w' ⟨rfl, hb'⟩)
  go_ret
  exact ⟨ret_b hge.out, hb'⟩


set_option maxHeartbeats 2000000 in
theorem indexFunc62 (p : S62 → Bool) (g : Nat) (lb : Array Value) (eg : ∀ args w, (callFunc g args).run Try.prog w = .ok (.enter g args) w) (A : Option Addr) (c : Nat) (l : List S62) (w : World)
    (hr : Kd.C k62 w A l.length l) (hc : l.length ≤ c) (hp : Tells g lb k62 w l p) (hbig : l.length ≤ 9223372036854775807) :
    Calls Try.prog 67 #[.slice A l.length c, .func (.func g) #[] lb] w fun e w' => e = .returned (.int .i64 (idxP p l)) ∧ Below w.heap.size w w' := by
  have HP := Lib.hid hp; clear hp
  have HR := Lib.hid hr; clear hr
  go_enter Try.func67, Try.ntmps67
  go_wp2
  go_loopg [5, 8] l.length (fun gg _ s8 wr => ∃ kk : Nat, kk ≤ l.length ∧ l.length - kk ≤ gg ∧ s8 = .int .i64 kk ∧ Aside0 (Below w.heap.size w wr) ∧ Aside0 (∀ j y, j < kk → l[j]? = some y → p y = false))
  case atStart => exact ⟨0, Nat.zero_le _, by omega, rfl, ⟨Below.refl _ w⟩, ⟨fun j y hj => absurd hj (Nat.not_lt_zero _)⟩⟩
  case round =>
    obtain ⟨kk, hkk, hg, rfl, BW, A1⟩ := hrel
    by_cases hlt : kk < l.length
    · have hltz : (kk : Int) < (l.length : Int) := by omega
      obtain ⟨ad, e0, h0, h1⟩ := at_T62 (Kd.C_below HR.out BW.out) kk (by omega) hltz
      have hget : l[kk]? = some (rd_T62 l kk) := by unfold rd_T62; simp [List.getD_eq_getElem?_getD, hlt]
      have hcall := HP.out wr (rd_T62 l kk) _ (List.mem_of_getElem? hget) BW.out (k62_mk _ _)
      have HG := Lib.hid hget; clear hget
      generalize rd_T62 l kk = y at h0 h1 hcall HG
      cases e0
      simp only [Int.toNat_natCast] at h0 h1
      skip
      cases hq : p y with
      | true =>
        rw [hq] at hcall
        go_wp2_with (go_at_fn g; refine hcall.mono ?_; rintro e w' ⟨rfl, hb'⟩)
        go_ret
        exact ⟨ret_i (idxP_hit p l kk y HG.out hq A1.out).symm, bch BW.out hb'⟩
      | false =>
        rw [hq] at hcall
        go_wp2_with (go_at_fn g; refine hcall.mono ?_; rintro e w' ⟨rfl, hb'⟩)
        go_roundg (l.length - (kk + 1))
        case measure => omega
        case rel =>
          refine ⟨kk + 1, by omega, by omega, by go_num, ⟨bch BW.out hb'⟩, ⟨fun j z hj hz => ?_⟩⟩
          by_cases e : j = kk
          · subst e; rw [HG.out] at hz; cases hz; exact hq
          · exact A1.out j z (by omega) hz
    · have hltz : ¬ (kk : Int) < (l.length : Int) := by omega
      go_wp2
      go_ret
      refine ⟨ret_i (idxP_miss p l (fun y hy => ?_)).symm, BW.out⟩
      obtain ⟨j, hj, rfl⟩ := List.getElem_of_mem hy
      exact A1.out j _ (by omega) (List.getElem?_eq_getElem hj)

end Go.Proofs.Ytkgcfgoaabkcpaa.Pa


/-! ## part E1 -/
namespace Go.Proofs.Ytkgcfgoaabkcpaa.Pa
open Go.RowKit Go.Proofs.YtkgcfgoaabkcpaaW.PrintWords Go.Proofs.YtkgcfgoaabkcpaaW.PrintLast Go.Proofs.YtkgcfgoaabkcpaaW.PrintMore
set_option linter.unusedVariables false
set_option linter.unusedSimpArgs false

/-- Does a name stand ahead of its place? -/
def dupAt (f : Nat → ByteArray) (i : Nat) : Bool := (List.range i).any fun k => (f k).toList == (f i).toList
def twiceF (n : Nat) (f : Nat → ByteArray) : Int := idxP (dupAt f) (List.range n)

theorem dup_none (f : Nat → ByteArray) (i : Nat) (h : ∀ q, q < i → ((f q).toList == (f i).toList) = false) : dupAt f i = false := by
  unfold dupAt
  rw [List.any_eq_false]
  intro q hq
  rw [List.mem_range] at hq
  rw [h q hq]; simp
theorem twice_hit (n : Nat) (f : Nat → ByteArray) (i k : Nat) (hi : i < n) (hk : k < i) (h : ((f k).toList == (f i).toList) = true) (hb : ∀ j, j < i → dupAt f j = false) : (i : Int) = twiceF n f := by
  unfold twiceF
  refine (idxP_hit _ _ i i (by simp [hi]) ?_ (fun j y hj hy => ?_)).symm
  · unfold dupAt
    rw [List.any_eq_true]
    exact ⟨k, by simpa using hk, h⟩
  · rw [List.getElem?_range (by omega)] at hy; cases hy; exact hb j hj
theorem twice_miss (n : Nat) (f : Nat → ByteArray) (hb : ∀ j, j < n → dupAt f j = false) : (-1 : Int) = twiceF n f :=
  (idxP_miss _ _ (fun y hy => hb y (by simpa using hy))).symm

set_option maxHeartbeats 4000000 in
theorem twice_calls (n : Nat) (f : Nat → ByteArray) (g : Nat) (lb : Array Value) (eg : ∀ args w, (callFunc g args).run Try.prog w = .ok (.enter g args) w) (w : World) (hn : n ≤ 9223372036854775807)
    (hp : ∀ (W : World) (i : Nat), i < n → Below w.heap.size w W → Calls Try.prog g (#[.int .i64 i] ++ lb) W fun e w' => e = .returned (.string (f i)) ∧ Below W.heap.size W w') :
    Calls Try.prog 85 #[.int .i64 n, .func (.func g) #[] lb] w fun e w' => e = .returned (.int .i64 (twiceF n f)) ∧ Below w.heap.size w w' := by
  have HP := Lib.hid hp; clear hp
  go_enter Try.func85, Try.ntmps85
  go_wp2
  go_loopg [5, 6, 8] n (fun gg _ _ s8 wr => ∃ i : Nat, i ≤ n ∧ n - i ≤ gg ∧ s8 = .int .i64 i ∧ Aside0 (Below w.heap.size w wr) ∧ Aside0 (∀ j, j < i → dupAt f j = false))
  case atStart => exact ⟨0, Nat.zero_le _, by omega, rfl, ⟨Below.refl _ w⟩, ⟨fun j hj => absurd hj (Nat.not_lt_zero _)⟩⟩
  case round =>
    obtain ⟨i, hi, hg, rfl, BW, A1⟩ := hrel
    by_cases hlt : i < n
    · have hltz : (i : Int) < (n : Int) := by omega
      obtain ⟨wo, rfl⟩ : ∃ wo : World, wo = wr := ⟨_, rfl⟩
      go_wp2
      go_loopg [6, 12] i (fun g2 _ s12 wq => ∃ k : Nat, k ≤ i ∧ i - k ≤ g2 ∧ s12 = .int .i64 k ∧ Aside0 (Below w.heap.size w wq) ∧ Aside0 (∀ j, j < k → ((f j).toList == (f i).toList) = false))
      case atStart => exact ⟨0, Nat.zero_le _, by omega, rfl, BW, ⟨fun j hj => absurd hj (Nat.not_lt_zero _)⟩⟩
      case round =>
        obtain ⟨k, hk, hg2, rfl, BQ, A2⟩ := hrel
        by_cases hlk : k < i
        · have hlkz : (k : Int) < (i : Int) := by omega
          have c1 := HP.out wr k (by omega) BQ.out
          go_wp2_with (go_at_fn g; refine c1.mono ?_; rintro e w1 ⟨rfl, hb1⟩)
          have c2 := HP.out w1 i hlt (bch BQ.out hb1)
          cases hq : ((f k).toList == (f i).toList) with
          | true =>
            go_wp2_with (go_at_fn g; refine c2.mono ?_; rintro e w2 ⟨rfl, hb2⟩)
            go_ret
            exact ⟨ret_i (twice_hit n f i k hlt hlk hq A1.out), bch (bch BQ.out hb1) hb2⟩
          | false =>
            go_wp2_with (go_at_fn g; refine c2.mono ?_; rintro e w2 ⟨rfl, hb2⟩)
            go_roundg (i - (k + 1))
            case measure => omega
            case rel =>
              refine ⟨k + 1, by omega, by omega, by go_num, ⟨bch (bch BQ.out hb1) hb2⟩, ⟨fun j hj => ?_⟩⟩
              by_cases e : j = k
              · subst e; exact hq
              · exact A2.out j (by omega)
        · have hlkz : ¬ (k : Int) < (i : Int) := by omega
          go_wp2
          go_roundg (n - (i + 1))
          case measure => omega
          case rel =>
            refine ⟨i + 1, by omega, by omega, by go_num, BQ, ⟨fun j hj => ?_⟩⟩
            by_cases e : j = i
            · subst e
              exact dup_none f j (fun q hq => A2.out q (by omega))
            · exact A1.out j (by omega)
    · have hltz : ¬ (i : Int) < (n : Int) := by omega
      go_wp2
      go_ret
      exact ⟨ret_i (twice_miss n f (fun j hj => A1.out j (by omega))), BW.out⟩
end Go.Proofs.Ytkgcfgoaabkcpaa.Pa


/-! ## part E1b -/
namespace Go.Proofs.Ytkgcfgoaabkcpaa.Pa
open Go.RowKit Go.Proofs.YtkgcfgoaabkcpaaW.PrintWords Go.Proofs.YtkgcfgoaabkcpaaW.PrintLast Go.Proofs.YtkgcfgoaabkcpaaW.PrintMore
set_option linter.unusedVariables false
set_option linter.unusedSimpArgs false

set_option maxHeartbeats 1000000 in
theorem states1 (B : Nat) (A1 : Option Addr) (c1 : Nat) (l1 : List S62) (i : Nat) (w : World) (hc : w.cell? ⟨B, 1, none⟩ = some (.slice A1 l1.length c1)) (hr : Kd.C k62 w A1 l1.length l1) (hi : i < l1.length) :
    Calls Try.prog 86 #[.int .i64 i, .pointer (some ⟨B, 0, none⟩)] w fun e w' => e = .returned (.string (rd_T62 l1 i).f0) ∧ Below w.heap.size w w' := by
  have hltz : (i : Int) < (l1.length : Int) := by omega
  obtain ⟨ad, e0, h0, h1⟩ := at_T62 hr i (by omega) hltz
  simp only [Int.toNat_natCast] at h0 h1
  clear hr
  cases e0
  go_enter Try.func86, Try.ntmps86
  go_wp2
  go_ret
  exact ⟨rfl, Below.refl _ _⟩

/-- The program's protocol in a block of its own. -/
theorem enters86 : ∀ args w, (callFunc 86 args).run Try.prog w = .ok (.enter 86 args) w := enters_of Try.func86 (by kernel_rfl) rfl

theorem cell_box1 (w : World) (x0 x1 x2 : Value) (T : TypeId) : (w.alloc (.cells #[x0, x1, x2] T)).cell? ⟨w.heap.size, 1, none⟩ = some x1 := by
  simp

set_option maxHeartbeats 1000000 in
theorem states_calls' (a0_0 : ByteArray) (A0_1 : Option Addr) (c0_1 : Nat) (l0_1 : List S62) (A0_2 : Option Addr) (c0_2 : Nat) (l0_2 : List S39) (w : World) (hr0_1 : Kd.C k62 w A0_1 l0_1.length l0_1) (hn : l0_1.length ≤ 16) (h0 : 1 ≤ l0_1.length) :
    Calls Try.prog 49 #[.agg #[.string a0_0, .slice A0_1 l0_1.length c0_1, .slice A0_2 l0_2.length c0_2]] w fun e w' => e = .returned (.int .i64 (twiceF l0_1.length fun i => (rd_T62 l0_1 i).f0)) ∧ Below w.heap.size w w' := by
  have HR := Lib.hid hr0_1; clear hr0_1
  have h0' : decide (l0_1.length < 1) = false := decide_eq_false (by omega)
  have h1' : decide (16 < l0_1.length) = false := decide_eq_false (by omega)
  have hw : (w.alloc (.cells #[.string a0_0, .slice A0_1 l0_1.length c0_1, .slice A0_2 l0_2.length c0_2] 25)).cell? ⟨w.heap.size, 1, none⟩ = some (.slice A0_1 l0_1.length c0_1) := cell_box1 w _ _ _ _
  have HW := Lib.hid hw; clear hw
  have hb := (Below.refl w.heap.size w).alloc (Nat.le_refl _) (.cells #[.string a0_0, .slice A0_1 l0_1.length c0_1, .slice A0_2 l0_2.length c0_2] 25)
  go_enter Try.func49, Try.ntmps49
  go_wp2_with fail
  refine (twice_calls l0_1.length (fun i => (rd_T62 l0_1 i).f0) 86 #[.pointer (some ⟨w.heap.size, 0, none⟩)] enters86 _ (by omega) (fun W i hi hW => ?_)).mono ?_
  · exact states1 w.heap.size A0_1 c0_1 l0_1 i W ((hW.cell (p := ⟨w.heap.size, 1, none⟩) (by simp)).trans HW.out) (Kd.C_below HR.out (bch hb hW)) hi
  · rintro e w' ⟨rfl, hb'⟩
    go_wp2
    go_ret
    exact ⟨rfl, bch hb hb'⟩
end Go.Proofs.Ytkgcfgoaabkcpaa.Pa


/-! ## part E1c -/
namespace Go.Proofs.Ytkgcfgoaabkcpaa.Pa
open Go.RowKit Go.Proofs.YtkgcfgoaabkcpaaW.PrintWords Go.Proofs.YtkgcfgoaabkcpaaW.PrintLast Go.Proofs.YtkgcfgoaabkcpaaW.PrintMore
set_option linter.unusedVariables false
set_option linter.unusedSimpArgs false

def inB (n : Nat) (i : Int) : Bool := decide (0 ≤ i) && decide (i < n)
theorem enters87 : ∀ args w, (callFunc 87 args).run Try.prog w = .ok (.enter 87 args) w := enters_of Try.func87 (by kernel_rfl) rfl
theorem enters88 : ∀ args w, (callFunc 88 args).run Try.prog w = .ok (.enter 88 args) w := enters_of Try.func88 (by kernel_rfl) rfl

set_option maxHeartbeats 1000000 in
theorem in_calls (B : Nat) (A1 : Option Addr) (c1 : Nat) (n : Nat) (i : Int) (w : World) (hc : w.cell? ⟨B, 1, none⟩ = some (.slice A1 n c1)) :
    Calls Try.prog 87 #[.int .i64 i, .pointer (some ⟨B, 0, none⟩)] w fun e w' => e = .returned (.bool (inB n i)) ∧ Below w.heap.size w w' := by
  by_cases h : 0 ≤ i
  · have h' : decide (0 ≤ i) = true := decide_eq_true h
    have hfin := Lib.hid (show inB n i = decide (i < n) by unfold inB; rw [h', Bool.true_and])
    go_enter Try.func87, Try.ntmps87
    go_wp2
    go_ret
    exact ⟨ret_b hfin.out.symm, Below.refl _ _⟩
  · have h' : decide (0 ≤ i) = false := decide_eq_false h
    have hfin := Lib.hid (show inB n i = false by unfold inB; rw [h', Bool.false_and])
    go_enter Try.func87, Try.ntmps87
    go_wp2
    go_ret
    exact ⟨ret_b hfin.out.symm, Below.refl _ _⟩

set_option maxHeartbeats 1000000 in
theorem notin_calls (B C : Nat) (A1 : Option Addr) (c1 : Nat) (n : Nat) (x : S42) (w : World) (hc : w.cell? ⟨B, 1, none⟩ = some (.slice A1 n c1)) (hB : B < w.heap.size) (hC : w.cell? ⟨C, 0, none⟩ = some (.func (.func 87) #[] #[.pointer (some ⟨B, 0, none⟩)])) (hCs : C < w.heap.size) :
    Calls Try.prog 88 #[.agg #[.string x.f0, .int .i64 x.f1], .pointer (some ⟨C, 0, none⟩)] w fun e w' => e = .returned (.bool (!inB n x.f1)) ∧ Below w.heap.size w w' := by
  have hb := (Below.refl w.heap.size w).alloc (Nat.le_refl _) (.cells #[.string x.f0, .int .i64 x.f1] 42)
  have hC' := (hb.cell (p := ⟨C, 0, none⟩) hCs).trans hC
  have hc' := Lib.hid ((hb.cell (p := ⟨B, 1, none⟩) hB).trans hc)
  have eg := enters87
  clear hC hc
  go_enter Try.func88, Try.ntmps88
  go_wp2_with fail
  go_outline
  go_ways
  refine (in_calls B A1 c1 n x.f1 _ hc'.out).mono ?_
  rintro e w' ⟨rfl, hb'⟩
  go_wp2
  go_ret
  exact ⟨rfl, bch hb hb'⟩
end Go.Proofs.Ytkgcfgoaabkcpaa.Pa


/-! ## part E1d -/
namespace Go.Proofs.Ytkgcfgoaabkcpaa.Pa
open Go.RowKit Go.Proofs.YtkgcfgoaabkcpaaW.PrintWords Go.Proofs.YtkgcfgoaabkcpaaW.PrintLast Go.Proofs.YtkgcfgoaabkcpaaW.PrintMore
set_option linter.unusedVariables false
set_option linter.unusedSimpArgs false


abbrev bxP (a0 : ByteArray) (A1 : Option Addr) (n c1 : Nat) (A2 : Option Addr) (n2 c2 : Nat) : Obj := .cells #[.string a0, .slice A1 n c1, .slice A2 n2 c2] 25
abbrev bxM (a0 : ByteArray) (i : Int) (A2 : Option Addr) (n2 c2 : Nat) : Obj := .cells #[.string a0, .int .i64 i, .slice A2 n2 c2] 39

set_option maxHeartbeats 2000000 in
theorem move_calls' (a0_0 : ByteArray) (A0_1 : Option Addr) (c0_1 : Nat) (n : Nat) (A0_2 : Option Addr) (c0_2 : Nat) (n2 : Nat) (m0 : ByteArray) (m1 : Int) (A2 : Option Addr) (c2 : Nat) (m2 : List S42) (w : World)
    (hr : Kd.C k42 w A2 m2.length m2) (hc : m2.length ≤ c2) :
    Calls Try.prog 50 #[.agg #[.string a0_0, .slice A0_1 n c0_1, .slice A0_2 n2 c0_2], .agg #[.string m0, .int .i64 m1, .slice A2 m2.length c2]] w fun e w' => e = .returned (.bool (inB n m1 && decide (0 < m2.length) && !(m2.any fun o => !inB n o.f1))) ∧ Below w.heap.size w w' := by
  have hbig := Kd.C_max hr
  have HR := Lib.hid hr; clear hr
  have hb := (((Below.refl w.heap.size w).alloc (Nat.le_refl _) (bxP a0_0 A0_1 n c0_1 A0_2 n2 c0_2)).alloc (by simp) (bxM m0 m1 A2 m2.length c2)).alloc (by simp; omega) (.cells #[.func (.func 87) #[] #[.pointer (some ⟨w.heap.size, 0, none⟩)]] 147)
  have f1 : (((w.alloc (bxP a0_0 A0_1 n c0_1 A0_2 n2 c0_2)).alloc (bxM m0 m1 A2 m2.length c2)).alloc (.cells #[.func (.func 87) #[] #[.pointer (some ⟨w.heap.size, 0, none⟩)]] 147)).cell? ⟨w.heap.size, 1, none⟩ = some (.slice A0_1 n c0_1) := by
    rw [World.cell?_alloc_past _ _ _ (by simp; omega), World.cell?_alloc_past _ _ _ (by simp), World.cell?_alloc_at _ _ _ _ rfl]; rfl
  have f2 : (((w.alloc (bxP a0_0 A0_1 n c0_1 A0_2 n2 c0_2)).alloc (bxM m0 m1 A2 m2.length c2)).alloc (.cells #[.func (.func 87) #[] #[.pointer (some ⟨w.heap.size, 0, none⟩)]] 147)).cell? ⟨w.heap.size + 1, 2, none⟩ = some (.slice A2 m2.length c2) := by
    rw [World.cell?_alloc_past _ _ _ (by simp), World.cell?_alloc_at _ _ _ _ (by simp)]; rfl
  have f3 : (((w.alloc (bxP a0_0 A0_1 n c0_1 A0_2 n2 c0_2)).alloc (bxM m0 m1 A2 m2.length c2)).alloc (.cells #[.func (.func 87) #[] #[.pointer (some ⟨w.heap.size, 0, none⟩)]] 147)).cell? ⟨w.heap.size + 2, 0, none⟩ = some (.func (.func 87) #[] #[.pointer (some ⟨w.heap.size, 0, none⟩)]) := by
    rw [World.cell?_alloc_at _ _ _ _ (by simp)]; rfl
  have f4 : (((w.alloc (bxP a0_0 A0_1 n c0_1 A0_2 n2 c0_2)).alloc (bxM m0 m1 A2 m2.length c2)).alloc (.cells #[.func (.func 87) #[] #[.pointer (some ⟨w.heap.size, 0, none⟩)]] 147)).heap.size = w.heap.size + 3 := by simp
  have F1 := Lib.hid f1; have F2 := Lib.hid f2; have F3 := Lib.hid f3; have F4 := Lib.hid f4
  clear f1 f2 f3 f4
  have eg := enters87
  have hmf : ∀ (fn : Fn) (first cap : Array Value) (w : World), (Instr.makeFunc fn first cap).run Try.prog w = .ok (.func fn first cap) w := fun _ _ _ _ => rfl
  go_enter Try.func50, Try.ntmps50
  go_wp2_with fail
  refine (in_calls w.heap.size A0_1 c0_1 n m1 _ F1.out).mono ?_
  rintro e w4 ⟨rfl, hb4⟩
  have hb' := bch hb hb4
  have G1 := Lib.hid ((hb4.cell (p := ⟨w.heap.size, 1, none⟩) (by rw [F4.out]; simp)).trans F1.out)
  have g2 := (hb4.cell (p := ⟨w.heap.size + 1, 2, none⟩) (by rw [F4.out]; simp)).trans F2.out
  have G3 := Lib.hid ((hb4.cell (p := ⟨w.heap.size + 2, 0, none⟩) (by rw [F4.out]; simp)).trans F3.out)
  have hs4 : w.heap.size + 3 ≤ w4.heap.size := by have := hb4.size; rw [F4.out] at this; exact this
  clear F1 F2 F3 F4 hb hb4
  cases hq : inB n m1 with
  | false =>
    go_wp2_with fail
    go_ret
    exact ⟨ret_b (by rw [hq]; rfl), hb'⟩
  | true =>
    by_cases hl : 0 < m2.length
    · have hl' : decide (0 < m2.length) = true := decide_eq_true hl
      go_wp2_with fail
      refine (containsFunc42 (fun o => !inB n o.f1) 88 #[.pointer (some ⟨w.heap.size + 2, 0, none⟩)] enters88 A2 c2 m2 w4 (Kd.C_below HR.out hb') hc (fun W x cs hx hW hK => ?_) (by omega)).mono ?_
      · rw [k42_open hK]
        exact notin_calls w.heap.size (w.heap.size + 2) A0_1 c0_1 n x W ((hW.cell (p := ⟨w.heap.size, 1, none⟩) (by simp; omega)).trans G1.out) (by have := hW.size; omega) ((hW.cell (p := ⟨w.heap.size + 2, 0, none⟩) (by simp; omega)).trans G3.out) (by have := hW.size; omega)
      · rintro e w5 ⟨rfl, hb5⟩
        go_wp2_with fail
        go_ret
        exact ⟨ret_b (by rw [hq, hl']; rfl), bch hb' hb5⟩
    · have hl' : decide (0 < m2.length) = false := decide_eq_false hl
      go_wp2_with fail
      go_ret
      exact ⟨ret_b (by rw [hq, hl']; rfl), hb'⟩
end Go.Proofs.Ytkgcfgoaabkcpaa.Pa


/-! ## part E1e -/
namespace Go.Proofs.Ytkgcfgoaabkcpaa.Pa
open Go.RowKit Go.Proofs.YtkgcfgoaabkcpaaW.PrintWords Go.Proofs.YtkgcfgoaabkcpaaW.PrintLast Go.Proofs.YtkgcfgoaabkcpaaW.PrintMore
set_option linter.unusedVariables false
set_option linter.unusedSimpArgs false

def sameMv (m0 : ByteArray) (m1 : Int) (x : S39) : Bool := (x.f0.toList == m0.toList) && (x.f1 == m1)
theorem enters89 : ∀ args w, (callFunc 89 args).run Try.prog w = .ok (.enter 89 args) w := enters_of Try.func89 (by kernel_rfl) rfl
theorem enters91 : ∀ args w, (callFunc 91 args).run Try.prog w = .ok (.enter 91 args) w := enters_of Try.func91 (by kernel_rfl) rfl

set_option maxHeartbeats 1000000 in
theorem same_calls (B : Nat) (m0 : ByteArray) (m1 : Int) (x : S39) (A : Option Addr) (n c : Nat) (w : World) (hB : B < w.heap.size) (h0 : w.cell? ⟨B, 0, none⟩ = some (.string m0)) (h1 : w.cell? ⟨B, 1, none⟩ = some (.int .i64 m1)) :
    Calls Try.prog 89 #[.agg #[.string x.f0, .int .i64 x.f1, .slice A n c], .pointer (some ⟨B, 0, none⟩)] w fun e w' => e = .returned (.bool (sameMv m0 m1 x)) ∧ Below w.heap.size w w' := by
  have hb := (Below.refl w.heap.size w).alloc (Nat.le_refl _) (bxM x.f0 x.f1 A n c)
  cases h : (x.f0.toList == m0.toList) with
  | true =>
    have hfin := Lib.hid (show sameMv m0 m1 x = (x.f1 == m1) by unfold sameMv; rw [h, Bool.true_and])
    go_enter Try.func89, Try.ntmps89
    go_wp2
    go_ret
    exact ⟨ret_b hfin.out.symm, hb⟩
  | false =>
    have hfin := Lib.hid (show sameMv m0 m1 x = false by unfold sameMv; rw [h, Bool.false_and])
    go_enter Try.func89, Try.ntmps89
    go_wp2
    go_ret
    exact ⟨ret_b hfin.out.symm, hb⟩

set_option maxHeartbeats 1000000 in
theorem outname (B : Nat) (A1 : Option Addr) (c1 : Nat) (l1 : List S42) (i : Nat) (w : World) (hc : w.cell? ⟨B, 2, none⟩ = some (.slice A1 l1.length c1)) (hr : Kd.C k42 w A1 l1.length l1) (hi : i < l1.length) :
    Calls Try.prog 91 #[.int .i64 i, .pointer (some ⟨B, 0, none⟩)] w fun e w' => e = .returned (.string (rd_T42 l1 i).f0) ∧ Below w.heap.size w w' := by
  have hltz : (i : Int) < (l1.length : Int) := by omega
  obtain ⟨ad, e0, h0, h1⟩ := at_T42 hr i (by omega) hltz
  simp only [Int.toNat_natCast] at h0 h1
  clear hr
  cases e0
  go_enter Try.func91, Try.ntmps91
  go_wp2
  go_ret
  exact ⟨rfl, Below.refl _ _⟩


/-- What once finds of a move and its place. -/
def onceB (l2 : List S39) (i : Nat) (m0 : ByteArray) (m1 : Int) (m2 : List S42) : Bool := !((l2.take i).any (sameMv m0 m1)) && decide (twiceF m2.length (fun k => (rd_T42 m2 k).f0) < 0)

set_option maxHeartbeats 4000000 in
theorem once_calls' (a0_0 : ByteArray) (A0_1 : Option Addr) (c0_1 : Nat) (n : Nat) (A0_2 : Option Addr) (c0_2 : Nat) (l2 : List S39) (i : Nat) (w : World)
    (hr : Kd.C k39 w A0_2 l2.length l2) (hc : l2.length ≤ c0_2) (hi : i < l2.length) :
    Calls Try.prog 51 #[.agg #[.string a0_0, .slice A0_1 n c0_1, .slice A0_2 l2.length c0_2], .int .i64 i] w fun e w' => e = .returned (.bool (onceB l2 i (rd_T39 l2 i).f0 (rd_T39 l2 i).f1 (rd_T39 l2 i).f2)) ∧ Below w.heap.size w w' := by
  have hltz : (i : Int) < (l2.length : Int) := by omega
  obtain ⟨ad, A2, c2, e0, h0, h1, h2, hlen, hg⟩ := at_T39 (Kd.C_alloc hr (.cells #[.string a0_0, .slice A0_1 n c0_1, .slice A0_2 l2.length c0_2] 25)) i (by omega) hltz
  have hbig := Kd.C_max hr
  have hbig2 := Kd.C_max hg
  have HT := Lib.hid (Kd.C_take (m := i) hr (by omega))
  have htl : (l2.take i).length = i := by rw [List.length_take]; omega
  have HTL := Lib.hid htl; clear htl
  have HG := Lib.hid hg
  clear hr hg
  generalize rd_T39 l2 i = m at *
  obtain ⟨m0, m1, m2⟩ := m
  simp only at *
  simp only [Int.toNat_natCast] at h0 h1 h2
  cases e0
  have hb0 := (Below.refl w.heap.size w).alloc (Nat.le_refl _) (bxP a0_0 A0_1 n c0_1 (some ad) l2.length c0_2)
  have hb := hb0.alloc (by simp) (bxM m0 m1 A2 m2.length c2)
  have F0 := Lib.hid (show ((w.alloc (bxP a0_0 A0_1 n c0_1 (some ad) l2.length c0_2)).alloc (bxM m0 m1 A2 m2.length c2)).cell? ⟨w.heap.size + 1, 0, none⟩ = some (.string m0) by rw [World.cell?_alloc_at _ _ _ _ (by simp)]; rfl)
  have F1 := Lib.hid (show ((w.alloc (bxP a0_0 A0_1 n c0_1 (some ad) l2.length c0_2)).alloc (bxM m0 m1 A2 m2.length c2)).cell? ⟨w.heap.size + 1, 1, none⟩ = some (.int .i64 m1) by rw [World.cell?_alloc_at _ _ _ _ (by simp)]; rfl)
  have F2 := Lib.hid (show ((w.alloc (bxP a0_0 A0_1 n c0_1 (some ad) l2.length c0_2)).alloc (bxM m0 m1 A2 m2.length c2)).cell? ⟨w.heap.size + 1, 2, none⟩ = some (.slice A2 m2.length c2) by rw [World.cell?_alloc_at _ _ _ _ (by simp)]; rfl)
  have F4 := Lib.hid (show ((w.alloc (bxP a0_0 A0_1 n c0_1 (some ad) l2.length c0_2)).alloc (bxM m0 m1 A2 m2.length c2)).heap.size = w.heap.size + 2 by simp)
  have hcall := containsFunc39 (sameMv m0 m1) 89 #[.pointer (some ⟨w.heap.size + 1, 0, none⟩)] enters89 (some ad) c0_2 (l2.take i) _ (Kd.C_alloc (Kd.C_alloc HT.out (bxP a0_0 A0_1 n c0_1 (some ad) l2.length c0_2)) (bxM m0 m1 A2 m2.length c2)) (by rw [HTL.out]; omega) (fun W x cs hx hW hK => by
    obtain ⟨Ax, cx, rfl, _, _⟩ := k39_open hK
    exact same_calls (w.heap.size + 1) m0 m1 x Ax _ cx W (by have := hW.size; rw [F4.out] at this; omega) ((hW.cell (p := ⟨w.heap.size + 1, 0, none⟩) (by rw [F4.out]; simp)).trans F0.out) ((hW.cell (p := ⟨w.heap.size + 1, 1, none⟩) (by rw [F4.out]; simp)).trans F1.out)) (by rw [HTL.out]; omega)
  rw [HTL.out] at hcall
  have hmf : ∀ (fn : Fn) (first cap : Array Value) (w : World), (Instr.makeFunc fn first cap).run Try.prog w = .ok (.func fn first cap) w := fun _ _ _ _ => rfl
  cases ha : (l2.take i).any (sameMv m0 m1) with
  | true =>
    rw [ha] at hcall
    have hfin := Lib.hid (show onceB l2 i m0 m1 m2 = false by unfold onceB; rw [ha]; rfl)
    clear ha F0 F1 F2
    go_enter Try.func51, Try.ntmps51
    go_wp2_with fail
    refine hcall.mono ?_
    rintro e w1 ⟨rfl, hb1⟩
    go_wp2_with fail
    go_ret
    exact ⟨ret_b hfin.out.symm, bch hb hb1⟩
  | false =>
    rw [ha] at hcall
    have hfin := Lib.hid (show onceB l2 i m0 m1 m2 = decide (twiceF m2.length (fun k => (rd_T42 m2 k).f0) < 0) by unfold onceB; rw [ha]; rfl)
    clear ha F0 F1
    go_enter Try.func51, Try.ntmps51
    go_wp2_with fail
    refine hcall.mono ?_
    rintro e w1 ⟨rfl, hb1⟩
    have g2 := (hb1.cell (p := ⟨w.heap.size + 1, 2, none⟩) (by rw [F4.out]; simp)).trans F2.out
    have hs1 : w.heap.size + 2 ≤ w1.heap.size := by have := hb1.size; rw [F4.out] at this; exact this
    have hbw := bch hb hb1
    have HGw := Lib.hid (Kd.C_below (Kd.C_alloc HG.out (bxM m0 m1 A2 m2.length c2)) hb1)
    go_wp2_with fail
    refine (twice_calls m2.length (fun k => (rd_T42 m2 k).f0) 91 #[.pointer (some ⟨w.heap.size + 1, 0, none⟩)] enters91 w1 hbig2 (fun W k hk hW => ?_)).mono ?_
    · exact outname (w.heap.size + 1) A2 c2 m2 k W ((hW.cell (p := ⟨w.heap.size + 1, 2, none⟩) (by simp; omega)).trans g2) (Kd.C_below HGw.out hW) hk
    · rintro e w2 ⟨rfl, hb2⟩
      go_wp2_with fail
      go_ret
      exact ⟨ret_b hfin.out.symm, bch hbw hb2⟩

/-! The three as the print's callers take them. -/
def auto_states.f (a0_0 : ByteArray) (l0_1 : List S62) (l0_2 : List S39) : Option Int := some (if l0_1.length < 1 ∨ 16 < l0_1.length then 0 else twiceF l0_1.length fun i => (rd_T62 l0_1 i).f0)
theorem auto_states.calls (a0_0 : ByteArray) (A0_1 : Option Addr) (c0_1 : Nat) (l0_1 : List (S62)) (A0_2 : Option Addr) (c0_2 : Nat) (l0_2 : List (S39)) (r : Int) (w : World) (hr0_1 : Kd.C k62 w A0_1 l0_1.length l0_1) (hc0_1 : l0_1.length ≤ c0_1) (hr0_2 : Kd.C k39 w A0_2 l0_2.length l0_2) (hc0_2 : l0_2.length ≤ c0_2) (h : auto_states.f a0_0 l0_1 l0_2 = some r) :
    Calls Try.prog 49 #[.agg #[.string a0_0, .slice A0_1 l0_1.length c0_1, .slice A0_2 l0_2.length c0_2]] w fun e w' => e = .returned (.int .i64 r) ∧ Below w.heap.size w w' := by
  obtain rfl := Option.some.inj h
  by_cases h1 : l0_1.length < 1
  · rw [if_pos (.inl h1)]
    have h1' : decide (l0_1.length < 1) = true := decide_eq_true h1
    have hb := (Below.refl w.heap.size w).alloc (Nat.le_refl _) (bxP a0_0 A0_1 l0_1.length c0_1 A0_2 l0_2.length c0_2)
    clear hr0_1 hr0_2 h
    go_enter Try.func49, Try.ntmps49
    go_wp2_with fail
    go_ret
    exact ⟨rfl, hb⟩
  · by_cases h2 : 16 < l0_1.length
    · rw [if_pos (.inr h2)]
      have h1' : decide (l0_1.length < 1) = false := decide_eq_false h1
      have h2' : decide (16 < l0_1.length) = true := decide_eq_true h2
      have hb := (Below.refl w.heap.size w).alloc (Nat.le_refl _) (bxP a0_0 A0_1 l0_1.length c0_1 A0_2 l0_2.length c0_2)
      clear hr0_1 hr0_2 h
      go_enter Try.func49, Try.ntmps49
      go_wp2_with fail
      go_ret
      exact ⟨rfl, hb⟩
    · rw [if_neg (by omega)]
      exact states_calls' a0_0 A0_1 c0_1 l0_1 A0_2 c0_2 l0_2 w hr0_1 (by omega) (by omega)

def auto_move.f (a0_0 : ByteArray) (l0_1 : List S62) (l0_2 : List S39) (a1_0 : ByteArray) (a1_1 : Int) (l1_2 : List S42) : Option Bool := some (inB l0_1.length a1_1 && decide (0 < l1_2.length) && !(l1_2.any fun o => !inB l0_1.length o.f1))
theorem auto_move.calls (a0_0 : ByteArray) (A0_1 : Option Addr) (c0_1 : Nat) (l0_1 : List (S62)) (A0_2 : Option Addr) (c0_2 : Nat) (l0_2 : List (S39)) (a1_0 : ByteArray) (a1_1 : Int) (A1_2 : Option Addr) (c1_2 : Nat) (l1_2 : List S42) (r : Bool) (w : World) (hr0_1 : Kd.C k62 w A0_1 l0_1.length l0_1) (hc0_1 : l0_1.length ≤ c0_1) (hr0_2 : Kd.C k39 w A0_2 l0_2.length l0_2) (hc0_2 : l0_2.length ≤ c0_2) (hr1_2 : Kd.C k42 w A1_2 l1_2.length l1_2) (hc1_2 : l1_2.length ≤ c1_2) (h : auto_move.f a0_0 l0_1 l0_2 a1_0 a1_1 l1_2 = some r) :
    Calls Try.prog 50 #[.agg #[.string a0_0, .slice A0_1 l0_1.length c0_1, .slice A0_2 l0_2.length c0_2], .agg #[.string a1_0, .int .i64 a1_1, .slice A1_2 l1_2.length c1_2]] w fun e w' => e = .returned (.bool r) ∧ Below w.heap.size w w' := by
  obtain rfl := Option.some.inj h
  exact move_calls' a0_0 A0_1 c0_1 l0_1.length A0_2 c0_2 l0_2.length a1_0 a1_1 A1_2 c1_2 l1_2 w hr1_2 hc1_2

def auto_once.f (a0_0 : ByteArray) (l0_1 : List S62) (l0_2 : List S39) (a1 : Int) : Option Bool := if 0 ≤ a1 ∧ a1 < l0_2.length then some (onceB l0_2 a1.toNat (rd_T39 l0_2 a1).f0 (rd_T39 l0_2 a1).f1 (rd_T39 l0_2 a1).f2) else none
theorem auto_once.calls (a0_0 : ByteArray) (A0_1 : Option Addr) (c0_1 : Nat) (l0_1 : List (S62)) (A0_2 : Option Addr) (c0_2 : Nat) (l0_2 : List (S39)) (a1 : Int) (r : Bool) (w : World) (hr0_1 : Kd.C k62 w A0_1 l0_1.length l0_1) (hc0_1 : l0_1.length ≤ c0_1) (hr0_2 : Kd.C k39 w A0_2 l0_2.length l0_2) (hc0_2 : l0_2.length ≤ c0_2) (h : auto_once.f a0_0 l0_1 l0_2 a1 = some r) :
    Calls Try.prog 51 #[.agg #[.string a0_0, .slice A0_1 l0_1.length c0_1, .slice A0_2 l0_2.length c0_2], .int .i64 a1] w fun e w' => e = .returned (.bool r) ∧ Below w.heap.size w w' := by
  unfold auto_once.f at h
  by_cases h1 : 0 ≤ a1 ∧ a1 < l0_2.length
  · rw [if_pos h1] at h
    obtain rfl := Option.some.inj h
    obtain ⟨i, rfl⟩ := Int.eq_ofNat_of_zero_le h1.1
    rw [Int.toNat_natCast]
    exact once_calls' a0_0 A0_1 c0_1 l0_1.length A0_2 c0_2 l0_2 i w hr0_2 hc0_2 (by omega)
  · rw [if_neg h1] at h
    cases h
end Go.Proofs.Ytkgcfgoaabkcpaa.Pa

