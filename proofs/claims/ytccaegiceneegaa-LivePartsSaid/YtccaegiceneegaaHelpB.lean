/- Two slices of the same ints are the same; whether one holds a number. No conditions. -/
import Derived.Test.YtccaegiceneegaaSl
import Derived.Test.YtccaegiceneegaaBelow
namespace Go.Proofs.Ytccaegiceneegaa
open Go.RowKit

/-- the value is a slice of these numbers -/
def HasSv (w : World) (v : Value) (xs : List Int) : Prop := (xs = [] ∧ v = .slice none 0 0) ∨ ∃ g off cap, v = .slice (some ⟨g, off, none⟩) xs.length cap ∧ xs.length ≤ cap ∧ cap ≤ 9223372036854775807 ∧ g < w.heap.size ∧ ∀ j x, xs[j]? = some x → w.cell? ⟨g, off + j, none⟩ = some (.int .i64 x)
theorem IntSv.sv {w : World} {O : Nat → Prop} {v : Value} {xs : List Int} (h : IntSv w O v xs) : HasSv w v xs := by
  rcases h.shape with h | ⟨g, off, cap, h1, _, h2, h3, h4, h5⟩
  · exact .inl h
  · exact .inr ⟨g, off, cap, h1, h2, h3, h4, h5⟩
theorem IntSl.sv {w : World} {base : Nat} {v : Value} {xs : List Int} (h : IntSl w base v xs) : HasSv w v xs := (IntSv.of_sl h).sv
theorem HasSv.below {w w' : World} {v : Value} {xs : List Int} (h : HasSv w v xs) (hb : Below w.heap.size w w') : HasSv w' v xs := by
  rcases h with h | ⟨g, off, cap, h1, h2, h3, h4, h5⟩
  · exact .inl h
  · exact .inr ⟨g, off, cap, h1, h2, h3, Nat.lt_of_lt_of_le h4 hb.size, fun j x hj => (hb.cell h4).trans (h5 j x hj)⟩
theorem HasSv.made (w : World) (xs : List Int) (hl : xs.length ≤ 1000000) : HasSv (w.alloc (.cells (ints xs).toArray 3)) (.slice (some ⟨w.heap.size, 0, none⟩) xs.length xs.length) xs :=
  .inr ⟨_, 0, _, rfl, Nat.le_refl _, by omega, by simp, fun j x hj => by rw [Nat.zero_add]; exact (Arr.made w 3 (ints xs)).cell (by simp [ints, hj])⟩
theorem HasSv.ofLen {w : World} {v : Value} {xs : List Int} (h : HasSv w v xs) {n : Nat} (hn : xs.length = n) : ∃ a c, v = .slice a n c := by
  subst hn
  rcases h with ⟨rfl, h⟩ | ⟨g, off, cap, h, _⟩
  · exact ⟨_, _, h⟩
  · exact ⟨_, _, h⟩

theorem plainOneB (x y : Int) (w : World) : Calls Try.prog 94 #[.int .i64 x, .int .i64 y] w fun e w' => e = .returned (.bool (x == y)) ∧ w = w' := by
  go_enter Try.func94, Try.ntmps94
  go_wp2
  go_ret
  exact ⟨rfl, rfl⟩
theorem below_drewNs' {B : Nat} {w w' : World} (h : Below B w w') (n : Nat) : Below B w (w'.drewN n) := ⟨h.os, h.tape, h.output, h.size, h.block⟩

set_option maxRecDepth 100000 in
theorem helpSameB {w : World} {v1 v2 : Value} {xs : List Int} (h1 : HasSv w v1 xs) (h2 : HasSv w v2 xs) (hl : xs.length ≤ 100000) : Calls Try.prog 93 #[v1, v2, .func (.func 94) #[] #[]] w fun e w' => e = .returned (.bool true) ∧ Below w.heap.size w w' := by
  by_cases h0 : xs.length = 0
  · obtain ⟨a1, c1, rfl⟩ := h1.ofLen h0
    obtain ⟨a2, c2, rfl⟩ := h2.ofLen h0
    clear h1 h2 h0
    go_enter Try.func93, Try.ntmps93
    go_wp2
    go_loopw [7] (fun i wr => i = .int .i64 0 ∧ wr = w) (fun _ _ => 0)
    case atStart => exact ⟨rfl, rfl⟩
    case round =>
      obtain ⟨rfl, rfl⟩ := hrel
      go_wp2
      go_ret
      exact ⟨rfl, Below.refl _ _⟩
  rcases h1 with ⟨rfl, _⟩ | ⟨g1, o1, c1, rfl, a1, a2, a3, a4⟩
  · simp at h0
  rcases h2 with ⟨rfl, _⟩ | ⟨g2, o2, c2, rfl, b1, b2, b3, b4⟩
  · simp at h0
  have HA := Lib.hid (fun wr (hb : Below w.heap.size w wr) (m : Nat) (hm : m < xs.length) => (hb.cell (p := ⟨g1, o1 + m, none⟩) a3).trans (a4 m _ (List.getElem?_eq_getElem hm)))
  have HB := Lib.hid (fun wr (hb : Below w.heap.size w wr) (m : Nat) (hm : m < xs.length) => (hb.cell (p := ⟨g2, o2 + m, none⟩) b3).trans (b4 m _ (List.getElem?_eq_getElem hm)))
  clear a3 a4 b3 b4
  go_enter Try.func93, Try.ntmps93
  go_wp2
  go_loopw [7] (fun i wr => ∃ m : Nat, m ≤ xs.length ∧ i = .int .i64 m ∧ Below w.heap.size w wr) (fun i _ => xs.length - (intOf i).toNat)
  case atStart => exact ⟨0, by omega, rfl, Below.refl _ _⟩
  case round =>
    obtain ⟨m, hm, rfl, hb⟩ := hrel
    by_cases hlt : m < xs.length
    · have k1 := HA.out wr hb m hlt
      have k2 := HB.out wr hb m hlt
      have HP := Lib.hid (fun w1 => plainOneB xs[m] xs[m] w1)
      generalize xs[m] = x at *
      go_wp2
      go_quiet ((go_at_call 94; exact Calls.quiet_of_same ((HP.out _).mono (fun _ _ h => ⟨h.1, h.2.symm⟩))))
      go_wp2
      go_roundw
      case rel => exact ⟨m + 1, by omega, by go_num, below_drewNs' hb _⟩
      case measure => simp [intOf]; omega
    · obtain rfl : m = xs.length := by omega
      go_wp2
      go_ret
      exact ⟨rfl, hb⟩
theorem helpPlainB {w : World} {v1 v2 : Value} {xs : List Int} (h1 : HasSv w v1 xs) (h2 : HasSv w v2 xs) (hl : xs.length ≤ 100000) : Calls Try.prog 31 #[v1, v2] w fun e w' => e = .returned (.bool true) ∧ Below w.heap.size w w' := by
  have HS := helpSameB h1 h2 hl
  go_enter Try.func31, Try.ntmps31
  go_wp2_with (go_at_call 93; refine HS.mono ?_; rintro e w1 ⟨rfl, hb⟩)
  go_ret
  exact ⟨rfl, hb⟩

set_option maxRecDepth 100000 in
theorem helpIn {w : World} {v : Value} {xs : List Int} (h : HasSv w v xs) (hl : xs.length ≤ 100000) (x : Int) : Calls Try.prog 50 #[v, .int .i64 x] w fun e w' => e = .returned (.bool (decide (x ∈ xs))) ∧ w = w' := by
  rcases h with ⟨rfl, rfl⟩ | ⟨g, o, c, rfl, a1, a2, a3, a4⟩
  · go_enter Try.func50, Try.ntmps50
    go_wp2
    go_loopw [5] (fun i wr => i = .int .i64 0 ∧ wr = w) (fun _ _ => 0)
    case atStart => exact ⟨rfl, rfl⟩
    case round =>
      obtain ⟨rfl, rfl⟩ := hrel
      go_wp2
      go_ret
      exact ⟨ret_bool (by simp), rfl⟩
  · have HA := Lib.hid (fun (m : Nat) (hm : m < xs.length) => a4 m _ (List.getElem?_eq_getElem hm))
    clear a4
    go_enter Try.func50, Try.ntmps50
    go_wp2
    go_loopw [5] (fun i wr => ∃ m : Nat, m ≤ xs.length ∧ i = .int .i64 m ∧ wr = w ∧ ∀ j, (hj : j < xs.length) → j < m → xs[j] ≠ x) (fun i _ => xs.length - (intOf i).toNat)
    case atStart => exact ⟨0, by omega, rfl, rfl, fun j _ h => by omega⟩
    case round =>
      obtain ⟨m, hm, rfl, rfl, hne⟩ := hrel
      have HNE := Lib.hid hne
      clear hne
      by_cases hlt : m < xs.length
      · have k1 := HA.out m hlt
        by_cases he : xs[m] = x
        · have heb : (xs[m] == x) = true := by rw [beq_iff_eq]; exact he
          have hmem : decide (x ∈ xs) = true := by rw [decide_eq_true_eq, ← he]; exact List.getElem_mem hlt
          have HM := Lib.hid hmem
          clear hmem he
          generalize xs[m] = y at *
          go_wp2
          go_ret
          exact ⟨ret_bool HM.out.symm, rfl⟩
        · have heb : (xs[m] == x) = false := by rw [beq_eq_false_iff_ne]; exact he
          have HE := Lib.hid he
          have hcl : ∀ j, (hj : j < xs.length) → j < m + 1 → xs[j] ≠ x := by
            intro j hj hjm
            by_cases e : j = m
            · subst e; exact HE.out
            · exact HNE.out j hj (by omega)
          have HCL := Lib.hid hcl
          clear hcl he HE HNE
          generalize xs[m] = y at *
          go_wp2
          go_roundw
          case rel => exact ⟨m + 1, by omega, by go_num, trivial, HCL.out⟩
          case measure => simp [intOf]; omega
      · obtain rfl : m = xs.length := by omega
        go_wp2
        go_ret
        refine ⟨ret_bool ?_, rfl⟩
        symm
        rw [decide_eq_false_iff_not]
        intro hx
        obtain ⟨j, hj, e⟩ := List.getElem_of_mem hx
        exact HNE.out j hj hj e
end Go.Proofs.Ytccaegiceneegaa
