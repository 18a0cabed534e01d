/- The document's NewSpans: the walk (a region that draws its order around two appends). No conditions. -/
import Derived.Test.YtccaegiceneegaaRSpan
namespace Go.Proofs.Ytccaegiceneegaa
open Go.RowKit
def RNewPost (n : Nat) (w : World) (e : Ending) (w' : World) : Prop :=
  ∃ rs rc rl, e = .returned (.tuple #[.pointer (some ⟨rs, 0, none⟩), .int .i64 0]) ∧ IsRSpans w' rs rc rl (List.replicate n ⟨-1, []⟩) ∧ w.heap.size ≤ rs ∧ w.heap.size ≤ rc ∧ w.heap.size ≤ rl ∧ Below w.heap.size w w'
theorem info_b8 : (Try.prog.info? 132).map (fun i => (i.zero, i.size, i.bytes)) = some (some (.agg #[.bool false, .bool false, .bool false, .bool false, .bool false, .bool false, .bool false, .bool false]), 8, 8) := by kernel_rfl

set_option maxRecDepth 100000 in
set_option maxHeartbeats 1600000 in
theorem rSpNew (n : Nat) (h2 : 2 ≤ n) (h128 : n ≤ 128) (w : World) : Calls Try.prog 85 #[.int .i64 n] w (RNewPost n w) := by
  obtain ⟨i0, hi, hz0, hz1, hz2⟩ := info_parts info_int
  obtain ⟨j0, ji, jz0, jz1, jz2⟩ := info_parts info_b8
  go_enter Try.func85, Try.ntmps85
  go_wp2
  go_loopw [5] (fun i wr => ∃ (k : Nat) (v1 v2 : Value), k ≤ n ∧ i = .int .i64 k ∧ Arr wr w.heap.size 128 [v1, v2] ∧ wr.ownsRow (w.heap.size + 1) 3 1 v1 k (ints (clsCells (List.replicate k ⟨-1, []⟩))) ∧ wr.ownsRow (w.heap.size + 1) 132 8 v2 k (slotCells (List.replicate k ⟨-1, []⟩)) ∧ (v2.ownBlock = none ∨ v2.ownBlock ≠ v1.ownBlock) ∧ Below w.heap.size w wr ∧ w.heap.size + 1 ≤ wr.heap.size) (fun i _ => n - (intOf i).toNat)
  case atStart => exact ⟨0, _, _, by omega, rfl, Arr.made w _ _, World.ownsRow_nil _ _ _ _, World.ownsRow_nil _ _ _ _, .inl rfl, (Below.refl _ _).alloc (Nat.le_refl _) _, by simp⟩
  case round =>
    obtain ⟨k, v1, v2, hk, rfl, hA, hown1, hown2, hne, hb, hsz⟩ := hrel
    have c0 := hA.cell (j := 0) rfl
    have c1 := hA.cell (j := 1) rfl
    have f0 := hA.frozen 0
    have f1 := hA.frozen 1
    by_cases hlt : k < n
    · have hlt1 : w.heap.size < wr.heap.size := hA.lt
      have HNE := Lib.hid hne
      clear hne
      have hrs : ints (clsCells (List.replicate (k + 1) ⟨-1, []⟩)) = ints (clsCells (List.replicate k ⟨-1, []⟩)) ++ [.int .i64 (-1)] ∧ slotCells (List.replicate (k + 1) ⟨-1, []⟩) = slotCells (List.replicate k ⟨-1, []⟩) ++ [.bool false, .bool false, .bool false, .bool false, .bool false, .bool false, .bool false, .bool false] := by
        rw [List.replicate_succ']
        exact ⟨by simp [ints, clsCells], by simp [slotCells, pad8, List.replicate]⟩
      have HRS := Lib.hid hrs
      clear hrs
      have hmx : k + 1 ≤ maxLen := by unfold maxLen; omega
      go_wp2
      have hr1 : some w.heap.size ≠ v1.ownBlock := owns_row_ne hown1 (by omega)
      have hr2 : some w.heap.size ≠ v2.ownBlock := owns_row_ne hown2 (by omega)
      have HV1 : Hid (∀ b, wr.heap.size ≤ b → ¬ some b = v1.ownBlock) := fun b hb e => by have := (hown1.lt b e.symm).2; omega
      have HR1 : Hid (∀ b, v1.ownBlock = some b → w.heap.size ≤ b) := fun b e => by have := (hown1.lt b e).1; omega
      have HR2 : Hid (∀ b, v2.ownBlock = some b → w.heap.size ≤ b) := fun b e => by have := (hown2.lt b e).1; omega
      have HX : Hid (∀ (g : Nat) {S : Nat}, (v1.ownBlock = some g ∨ g = S) → wr.heap.size ≤ S → ¬ v2.ownBlock = some g) := by
        intro g S h hS e
        rcases h with h | h
        · rcases HNE.out with h' | h'
          · rw [h'] at e; cases e
          · exact h' (by rw [e, h])
        · have := (hown2.lt g e).2; omega
      go_region_law
        (first
          | (refine step_append rfl (.tmp 24) (.tmp 25) _ rfl (w.heap.size + 1) 3 i0 (.int .i64 0) 1 8 Try.underlying22 hi hz0 hz1 hz2 rfl (by decide) _ _ _ rfl _ _ 3 [.int .i64 (-1)] rfl rfl (by intro u hu; simp at hu; subst hu; rfl) hmx (by omega) (by first | exact hown1.drew.alloc _ | exact (hown1.drew.alloc _).alloc _) (by first | exact Arr.made' _ _ [_] (by simp) | exact (Arr.made' _ _ [_] (by simp)).alloc _) (by simp; omega) ?_; intro g1 cap1 w1 hown1' hg1 hat1 hlt1'; have hA1 : Arr w1 w.heap.size 128 [v1, v2] := (by first | exact (hA.drew.alloc _).same (hg1.block _ (by simp; omega) hr1) | exact ((hA.drew.alloc _).alloc _).same (hg1.block _ (by simp; omega) hr1)); have k1 := hA1.cell (j := 0) rfl; have k2 := hA1.cell (j := 1) rfl; have k3 := hA1.frozen 0; have k4 := hA1.frozen 1; have hz1 := hA1.lt; have hB1 : Below w.heap.size w w1 := (by first | exact (hb.drew.alloc hb.size _).grown hg1 (by simp; omega) HR1.out | exact ((hb.drew.alloc hb.size _).alloc (by simp; omega) _).grown hg1 (by simp; omega) HR1.out); have hs1 : wr.heap.size ≤ w1.heap.size := (by have := hg1.size; simp at this; omega); have hX1 : ¬ v2.ownBlock = some g1 := HX.out _ hat1 (by simp <;> omega); have hO2 : w1.ownsRow (w.heap.size + 1) 132 8 v2 k (slotCells (List.replicate k ⟨-1, []⟩)) := (by first | exact (hown2.drew.alloc _).kept hg1 HNE.out | exact ((hown2.drew.alloc _).alloc _).kept hg1 HNE.out))
          | (refine step_append rfl (.tmp 30) (.tmp 32) _ rfl (w.heap.size + 1) 132 j0 (.agg #[.bool false, .bool false, .bool false, .bool false, .bool false, .bool false, .bool false, .bool false]) 8 8 Try.underlying126 ji jz0 jz1 jz2 rfl (by decide) _ _ _ rfl _ _ 132 [.bool false, .bool false, .bool false, .bool false, .bool false, .bool false, .bool false, .bool false] rfl rfl (by intro u hu; simp at hu; subst hu; rfl) hmx (by omega) (by first | exact hO2 | exact hO2.alloc _) (by first | exact Arr.made' _ _ [_, _, _, _, _, _, _, _] (by simp) | exact (Arr.made' _ _ [_, _, _, _, _, _, _, _] (by simp)).same (hg1.block (wr.heap.size + 1) (by simp) (HV1.out _ (by omega))) | exact ((Arr.made' _ _ [_, _, _, _, _, _, _, _] (by simp)).alloc _).same (hg1.block wr.heap.size (by simp; omega) (HV1.out _ (by omega)))) (by have := hg1.size; simp at this ⊢; omega) ?_; intro g2 cap2 w2 hown2' hg2 hat2 hlt2'; have hA2 : Arr w2 w.heap.size 128 [v1, v2] := (by first | exact hA1.same (hg2.block _ (by have := hg1.size; simp at this; omega) hr2) | exact (hA1.alloc _).same (hg2.block _ (by have := hg1.size; simp at this ⊢; omega) hr2)); have q1 := hA2.cell (j := 0) rfl; have q2 := hA2.cell (j := 1) rfl; have q3 := hA2.frozen 0; have q4 := hA2.frozen 1; have hz2 := hA2.lt; have hB2 : Below w.heap.size w w2 := (by first | exact hB1.grown hg2 hB1.size HR2.out | exact (hB1.alloc hB1.size _).grown hg2 (hB1.alloc hB1.size _).size HR2.out); have hO1 : w2.ownsRow (w.heap.size + 1) 3 1 (.slice (some ⟨g1, 0, none⟩) (k + 1) cap1) (k + 1) _ := (by first | exact hown1'.kept hg2 (.inr (fun e => hX1 e.symm)) | exact (hown1'.alloc _).kept hg2 (.inr (fun e => hX1 e.symm))); have hX2 : g2 ≠ g1 := (by intro e; subst e; rcases hat2 with h | h; exact hX1 h; (first | omega | (simp at h; omega))); clear hg2 hat2 hlt2')
          )
      all_goals
        have hfin1 := ownsRow_setCell_below (ownsRow_setCell_below hO1 (a := ⟨w.heap.size, 0, none⟩) (by simp) (.slice (some ⟨g1, 0, none⟩) (k + 1) cap1)) (a := ⟨w.heap.size, 1, none⟩) (by simp) (.slice (some ⟨g2, 0, none⟩) (k + 1) cap2)
        have hfin2 := ownsRow_setCell_below (ownsRow_setCell_below hown2' (a := ⟨w.heap.size, 0, none⟩) (by simp) (.slice (some ⟨g1, 0, none⟩) (k + 1) cap1)) (a := ⟨w.heap.size, 1, none⟩) (by simp) (.slice (some ⟨g2, 0, none⟩) (k + 1) cap2)
        have hA3 := (hA2.set (j := 0) (by simp) (.slice (some ⟨g1, 0, none⟩) (k + 1) cap1)).set (j := 1) (by simp) (.slice (some ⟨g2, 0, none⟩) (k + 1) cap2)
        have hB3 := (hB2.setCell (p := ⟨w.heap.size, 0, none⟩) (Nat.le_refl _) (.slice (some ⟨g1, 0, none⟩) (k + 1) cap1)).setCell (p := ⟨w.heap.size, 1, none⟩) (Nat.le_refl _) (.slice (some ⟨g2, 0, none⟩) (k + 1) cap2)
        have hZ3 : w.heap.size + 1 ≤ w2.heap.size := hz2
        clear hown1 hown2 hown1' hown2' hO1 hO2 hA1 hA2 hA hg1 hat1 k1 k2 k3 k4 q1 q2 q3 q4 c0 c1 f0 f1
        go_wp2
        go_roundw
        case rel => exact ⟨k + 1, _, _, by omega, by go_num, hA3, by rw [HRS.out.1]; exact hfin1, by rw [HRS.out.2]; exact hfin2, .inr (by intro e; cases e; exact hX2 rfl), hB3, by simp; omega⟩
        case measure => simp [intOf]; omega
    · obtain rfl : k = n := by omega
      obtain ⟨g1, cap1, hv1, hg1, hg2, hg3⟩ := owns_shape hown1 (by omega)
      obtain ⟨g2, cap2, hv2, hg4, hg5, hg6⟩ := owns_shape hown2 (by omega)
      subst hv1
      subst hv2
      have hne' : g2 ≠ g1 := by
        rcases hne with h | h
        · simp [Value.ownBlock] at h
        · intro e; subst e; exact h rfl
      have hrows : IsRSpans wr w.heap.size g1 g2 (List.replicate k ⟨-1, []⟩) :=
        ⟨⟨cap1, cap2, by simpa using hA, by simpa using hg2, hg3, by simpa using hg5, hg6⟩, Arr.of_owns hown1, Arr.of_owns hown2, by omega, by omega, fun e => hne' e.symm, fun r hr => by rw [List.eq_of_mem_replicate hr]; exact .inl ⟨rfl, rfl⟩, by simpa using h128⟩
      clear hA hown1 hown2 c0 c1 f0 f1 hne
      go_wp2
      go_ret2
      exact ⟨_, g1, g2, rfl, hrows, Nat.le_refl _, by omega, by omega, hb⟩
end Go.Proofs.Ytccaegiceneegaa
