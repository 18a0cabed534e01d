/- Two slices of the same ints are the same; the law is awake. No conditions. -/
import Derived.Test.YtccaegiceneegaaRArenaD
namespace Go.Proofs.Ytccaegiceneegaa
open Go.RowKit

/-- the value is a slice of these ints -/
def HasInts (w : World) (v : Value) (xs : List Int) : Prop := (xs = [] ∧ v = .slice none 0 0) ∨ ∃ g cap, v = .slice (some ⟨g, 0, none⟩) xs.length cap ∧ xs.length ≤ cap ∧ cap ≤ maxLen ∧ Arr w g 3 (ints xs)
theorem IntSl.has {w : World} {base : Nat} {v : Value} {xs : List Int} (h : IntSl w base v xs) : HasInts w v xs := by
  rcases h.shape with h | ⟨g, cap, h1, _, h2, h3, h4⟩
  · exact .inl h
  · exact .inr ⟨g, cap, h1, h2, h3, h4⟩
theorem HasInts.below {w w' : World} {v : Value} {xs : List Int} (h : HasInts w v xs) (hb : Below w.heap.size w w') : HasInts w' v xs := by
  rcases h with h | ⟨g, cap, h1, h2, h3, h4⟩
  · exact .inl h
  · exact .inr ⟨g, cap, h1, h2, h3, h4.belowAll hb⟩

theorem plainOne (x y : Int) (w : World) : Calls Try.prog 94 #[.int .i64 x, .int .i64 y] w fun e w' => e = .returned (.bool (x == y)) ∧ w = w' := by
  go_enter Try.func94, Try.ntmps94
  go_wp2
  go_ret
  exact ⟨rfl, rfl⟩

set_option maxRecDepth 100000 in
theorem helpSame {w : World} {v1 v2 : Value} {xs : List Int} (h1 : HasInts w v1 xs) (h2 : HasInts w v2 xs) (hl : xs.length ≤ 100000) : Calls Try.prog 93 #[v1, v2, .func (.func 94) #[] #[]] w fun e w' => e = .returned (.bool true) ∧ Below w.heap.size w w' := by
  rcases h1 with ⟨rfl, rfl⟩ | ⟨g1, c1, rfl, a1, a2, a3⟩
  · rcases h2 with ⟨_, rfl⟩ | ⟨g2, c2, rfl, b1, b2, b3⟩
    · simp only [List.length_nil] at *
      go_enter Try.func93, Try.ntmps93
      go_wp2
      go_loopw [7] (fun i wr => i = .int .i64 0 ∧ wr = w) (fun _ _ => 0)
      case atStart => exact ⟨rfl, rfl⟩
      case round =>
        obtain ⟨rfl, rfl⟩ := hrel
        go_wp2
        go_ret
        exact ⟨rfl, Below.refl _ _⟩
    · simp only [List.length_nil] at *
      go_enter Try.func93, Try.ntmps93
      go_wp2
      go_loopw [7] (fun i wr => i = .int .i64 0 ∧ wr = w) (fun _ _ => 0)
      case atStart => exact ⟨rfl, rfl⟩
      case round =>
        obtain ⟨rfl, rfl⟩ := hrel
        go_wp2
        go_ret
        exact ⟨rfl, Below.refl _ _⟩
  · rcases h2 with ⟨rfl, rfl⟩ | ⟨g2, c2, rfl, b1, b2, b3⟩
    · simp only [List.length_nil] at *
      go_enter Try.func93, Try.ntmps93
      go_wp2
      go_loopw [7] (fun i wr => i = .int .i64 0 ∧ wr = w) (fun _ _ => 0)
      case atStart => exact ⟨rfl, rfl⟩
      case round =>
        obtain ⟨rfl, rfl⟩ := hrel
        go_wp2
        go_ret
        exact ⟨rfl, Below.refl _ _⟩
    · unfold maxLen at a2 b2
      go_enter Try.func93, Try.ntmps93
      go_wp2
      go_loopw [7] (fun i wr => ∃ m : Nat, m ≤ xs.length ∧ i = .int .i64 m ∧ Below w.heap.size w wr) (fun i _ => xs.length - (intOf i).toNat)
      case atStart => exact ⟨0, by omega, rfl, Below.refl _ _⟩
      case round =>
        obtain ⟨m, hm, rfl, hb⟩ := hrel
        have a4 := a3.belowAll hb
        have b4 := b3.belowAll hb
        by_cases hlt : m < xs.length
        · have e1 : (ints xs)[m]? = some (.int .i64 xs[m]) := by simp [ints, hlt]
          have k1 := a4.cell e1
          have k2 := b4.cell e1
          have HP := Lib.hid (fun w1 => plainOne xs[m] xs[m] w1)
          clear e1 a3 b3 a4 b4
          generalize xs[m] = x at *
          go_wp2
          go_quiet ((go_at_call 94; exact Calls.quiet_of_same ((HP.out _).mono (fun _ _ h => ⟨h.1, h.2.symm⟩))))
          go_wp2
          go_roundw
          case rel => exact ⟨m + 1, by omega, by go_num, below_drewNs hb _⟩
          case measure => simp [intOf]; omega
        · obtain rfl : m = xs.length := by omega
          go_wp2
          go_ret
          exact ⟨rfl, hb⟩

theorem helpPlain {w : World} {v1 v2 : Value} {xs : List Int} (h1 : HasInts w v1 xs) (h2 : HasInts w v2 xs) (hl : xs.length ≤ 100000) : Calls Try.prog 31 #[v1, v2] w fun e w' => e = .returned (.bool true) ∧ Below w.heap.size w w' := by
  have HS := helpSame h1 h2 hl
  go_enter Try.func31, Try.ntmps31
  go_wp2_with (go_at_call 93; refine HS.mono ?_; rintro e w1 ⟨rfl, hb⟩)
  go_ret
  exact ⟨rfl, hb⟩
end Go.Proofs.Ytccaegiceneegaa
