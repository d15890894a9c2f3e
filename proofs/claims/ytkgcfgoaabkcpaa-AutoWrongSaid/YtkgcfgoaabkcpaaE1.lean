import Derived.Test.YtkgcfgoaabkcpaaE0
namespace Go.Proofs.Ytkgcfgoaabkcpaa.Pa
open Go.RowKit Go.Proofs.YtkgcfgoaabkcpaaW.PrintWords Go.Proofs.YtkgcfgoaabkcpaaW.PrintLast Go.Proofs.YtkgcfgoaabkcpaaW.PrintMore
set_option linter.unusedVariables false
set_option linter.unusedSimpArgs false

/-- Does a name stand ahead of its place? -/
def dupAt (f : Nat → ByteArray) (i : Nat) : Bool := (List.range i).any fun k => (f k).toList == (f i).toList
def twiceF (n : Nat) (f : Nat → ByteArray) : Int := idxP (dupAt f) (List.range n)

theorem dup_none (f : Nat → ByteArray) (i : Nat) (h : ∀ q, q < i → ((f q).toList == (f i).toList) = false) : dupAt f i = false := by
  unfold dupAt
  rw [List.any_eq_false]
  intro q hq
  rw [List.mem_range] at hq
  rw [h q hq]; simp
theorem twice_hit (n : Nat) (f : Nat → ByteArray) (i k : Nat) (hi : i < n) (hk : k < i) (h : ((f k).toList == (f i).toList) = true) (hb : ∀ j, j < i → dupAt f j = false) : (i : Int) = twiceF n f := by
  unfold twiceF
  refine (idxP_hit _ _ i i (by simp [hi]) ?_ (fun j y hj hy => ?_)).symm
  · unfold dupAt
    rw [List.any_eq_true]
    exact ⟨k, by simpa using hk, h⟩
  · rw [List.getElem?_range (by omega)] at hy; cases hy; exact hb j hj
theorem twice_miss (n : Nat) (f : Nat → ByteArray) (hb : ∀ j, j < n → dupAt f j = false) : (-1 : Int) = twiceF n f :=
  (idxP_miss _ _ (fun y hy => hb y (by simpa using hy))).symm

set_option maxHeartbeats 4000000 in
theorem twice_calls (n : Nat) (f : Nat → ByteArray) (g : Nat) (lb : Array Value) (eg : ∀ args w, (callFunc g args).run Try.prog w = .ok (.enter g args) w) (w : World) (hn : n ≤ 9223372036854775807)
    (hp : ∀ (W : World) (i : Nat), i < n → Below w.heap.size w W → Calls Try.prog g (#[.int .i64 i] ++ lb) W fun e w' => e = .returned (.string (f i)) ∧ Below W.heap.size W w') :
    Calls Try.prog 85 #[.int .i64 n, .func (.func g) #[] lb] w fun e w' => e = .returned (.int .i64 (twiceF n f)) ∧ Below w.heap.size w w' := by
  have HP := Lib.hid hp; clear hp
  go_enter Try.func85, Try.ntmps85
  go_wp2
  go_loopg [5, 6, 8] n (fun gg _ _ s8 wr => ∃ i : Nat, i ≤ n ∧ n - i ≤ gg ∧ s8 = .int .i64 i ∧ Aside0 (Below w.heap.size w wr) ∧ Aside0 (∀ j, j < i → dupAt f j = false))
  case atStart => exact ⟨0, Nat.zero_le _, by omega, rfl, ⟨Below.refl _ w⟩, ⟨fun j hj => absurd hj (Nat.not_lt_zero _)⟩⟩
  case round =>
    obtain ⟨i, hi, hg, rfl, BW, A1⟩ := hrel
    by_cases hlt : i < n
    · have hltz : (i : Int) < (n : Int) := by omega
      obtain ⟨wo, rfl⟩ : ∃ wo : World, wo = wr := ⟨_, rfl⟩
      go_wp2
      go_loopg [6, 12] i (fun g2 _ s12 wq => ∃ k : Nat, k ≤ i ∧ i - k ≤ g2 ∧ s12 = .int .i64 k ∧ Aside0 (Below w.heap.size w wq) ∧ Aside0 (∀ j, j < k → ((f j).toList == (f i).toList) = false))
      case atStart => exact ⟨0, Nat.zero_le _, by omega, rfl, BW, ⟨fun j hj => absurd hj (Nat.not_lt_zero _)⟩⟩
      case round =>
        obtain ⟨k, hk, hg2, rfl, BQ, A2⟩ := hrel
        by_cases hlk : k < i
        · have hlkz : (k : Int) < (i : Int) := by omega
          have c1 := HP.out wr k (by omega) BQ.out
          go_wp2_with (go_at_fn g; refine c1.mono ?_; rintro e w1 ⟨rfl, hb1⟩)
          have c2 := HP.out w1 i hlt (bch BQ.out hb1)
          cases hq : ((f k).toList == (f i).toList) with
          | true =>
            go_wp2_with (go_at_fn g; refine c2.mono ?_; rintro e w2 ⟨rfl, hb2⟩)
            go_ret
            exact ⟨ret_i (twice_hit n f i k hlt hlk hq A1.out), bch (bch BQ.out hb1) hb2⟩
          | false =>
            go_wp2_with (go_at_fn g; refine c2.mono ?_; rintro e w2 ⟨rfl, hb2⟩)
            go_roundg (i - (k + 1))
            case measure => omega
            case rel =>
              refine ⟨k + 1, by omega, by omega, by go_num, ⟨bch (bch BQ.out hb1) hb2⟩, ⟨fun j hj => ?_⟩⟩
              by_cases e : j = k
              · subst e; exact hq
              · exact A2.out j (by omega)
        · have hlkz : ¬ (k : Int) < (i : Int) := by omega
          go_wp2
          go_roundg (n - (i + 1))
          case measure => omega
          case rel =>
            refine ⟨i + 1, by omega, by omega, by go_num, BQ, ⟨fun j hj => ?_⟩⟩
            by_cases e : j = i
            · subst e
              exact dup_none f j (fun q hq => A2.out q (by omega))
            · exact A1.out j (by omega)
    · have hltz : ¬ (i : Int) < (n : Int) := by omega
      go_wp2
      go_ret
      exact ⟨ret_i (twice_miss n f (fun j hj => A1.out j (by omega))), BW.out⟩
end Go.Proofs.Ytkgcfgoaabkcpaa.Pa
