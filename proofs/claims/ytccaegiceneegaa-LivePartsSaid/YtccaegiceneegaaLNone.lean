/- Plain facts of the law LiveNone: what is reached, lost and broken in its heap. No conditions. -/
import Derived.Test.YtccaegiceneegaaReachB
import Derived.Test.YtccaegiceneegaaBoth
namespace Go.Proofs.Ytccaegiceneegaa

def ln1 : Ar := arAllocN (arNew 4) 4 10
def ln2 : Ar := arAllocN ln1 5 2
def ln3 (i : Int) : Ar := arStoreN ln2 0 i 65
def ln4 (i : Int) : Ar := arFreeN (ln3 i) 32
theorem ln_allocs : arAllocV (arNew 4) 4 10 = (0, 0) ∧ arAllocV ln1 5 2 = (32, 0) := by decide +kernel

theorem ln_facts (i : Int) (h : 0 ≤ i ∧ i < 10) : brokenL (ln3 i) [0] = [] ∧ reachL (ln3 i) [32] = [32] ∧ brokenL (ln4 i) [0] = [0] ∧ reachL (ln4 i) [0] = [0] ∧ lostL (ln4 i) [32] = [0] ∧ reachL (ln4 i) [] = [] ∧ (ln4 i).cells.length = 128 ∧ ((ln4 i).head 32).isSome = false ∧ ((ln4 i).head 0).isSome = true := by
  have hc : i = 0 ∨ i = 1 ∨ i = 2 ∨ i = 3 ∨ i = 4 ∨ i = 5 ∨ i = 6 ∨ i = 7 ∨ i = 8 ∨ i = 9 := by omega
  unfold lostL brokenL reachL
  have key : ∀ i : Int, bfs (ln3 i) 10 [] [0] = some [32, 0] → bfs (ln3 i) 10 [] [32] = some [32] → bfs (ln4 i) 10 [] [0] = some [0] → bfs (ln4 i) 10 [] [32] = some [] → bfs (ln4 i) 10 [] [] = some [] →
      ((((arObjs (ln3 i)).filter (fun p => [32, 0].contains p)).filter (leads (ln3 i)) = [] ∧ (arObjs (ln3 i)).filter (fun p => [32].contains p) = [32] ∧ ((arObjs (ln4 i)).filter (fun p => [0].contains p)).filter (leads (ln4 i)) = [0] ∧ (arObjs (ln4 i)).filter (fun p => [0].contains p) = [0] ∧ (arObjs (ln4 i)).filter (fun p => !([] : List Nat).contains p) = [0] ∧ (arObjs (ln4 i)).filter (fun p => ([] : List Nat).contains p) = [] ∧ (ln4 i).cells.length = 128 ∧ ((ln4 i).head 32).isSome = false ∧ ((ln4 i).head 0).isSome = true)) →
      (((arObjs (ln3 i)).filter (rchB (ln3 i) [0])).filter (leads (ln3 i)) = [] ∧ (arObjs (ln3 i)).filter (rchB (ln3 i) [32]) = [32] ∧ ((arObjs (ln4 i)).filter (rchB (ln4 i) [0])).filter (leads (ln4 i)) = [0] ∧ (arObjs (ln4 i)).filter (rchB (ln4 i) [0]) = [0] ∧ (arObjs (ln4 i)).filter (fun p => !rchB (ln4 i) [32] p) = [0] ∧ (arObjs (ln4 i)).filter (rchB (ln4 i) []) = [] ∧ (ln4 i).cells.length = 128 ∧ ((ln4 i).head 32).isSome = false ∧ ((ln4 i).head 0).isSome = true) := by
    intro i h1 h2 h3 h4 h5 h
    rw [reach_bfs h1, reach_bfs h2, reach_bfs h3, reach_bfs h4, reach_bfs h5]
    exact h
  rcases hc with rfl | rfl | rfl | rfl | rfl | rfl | rfl | rfl | rfl | rfl
  all_goals exact key _ (by decide +kernel) (by decide +kernel) (by decide +kernel) (by decide +kernel) (by decide +kernel) (by decide +kernel)

theorem ln_load (i : Int) (h : 0 ≤ i ∧ i < 10) : (arLoad ln2 0 i).2 = 0 := by
  have hc : i = 0 ∨ i = 1 ∨ i = 2 ∨ i = 3 ∨ i = 4 ∨ i = 5 ∨ i = 6 ∨ i = 7 ∨ i = 8 ∨ i = 9 := by omega
  rcases hc with rfl | rfl | rfl | rfl | rfl | rfl | rfl | rfl | rfl | rfl <;> decide +kernel
theorem ln3_ok (i : Int) : (ln3 i).ok := (((arNew_ok 4).alloc 4 10).alloc 5 2).store 0 i 65
theorem ln3_fit (i : Int) : (ln3 i).fit := arStore_fit (arAlloc_fit ((arNew_ok 4).alloc 4 10) (arAlloc_fit (arNew_ok 4) (arNew_fit 4) 4 10) 5 2) 0 i 65 ⟨by omega, by omega⟩
theorem ln4_fit (i : Int) : (ln4 i).fit := arFree_fit (ln3_ok i) (ln3_fit i) 32
/-- roots that are no objects do not count -/
theorem rch_filter (st : Ar) (roots : List Int) : rchB st roots = rchB st (roots.filter fun r => (st.head r).isSome) := by
  have h1 : ∀ (r1 r2 : List Int), (∀ x ∈ r1, (st.head x).isSome = true → x ∈ r2) → ∀ i, Rch st r1 i → Rch st r2 i := by
    intro r1 r2 hr i hi
    induction hi with
    | root a b => exact Rch.root (hr _ a b) b
    | step _ b c ih => exact Rch.step ih b c
  funext p
  have a := h1 roots (roots.filter fun r => (st.head r).isSome) (fun x hx hs => List.mem_filter.2 ⟨hx, hs⟩) p
  have b := h1 (roots.filter fun r => (st.head r).isSome) roots (fun x hx _ => (List.mem_filter.1 hx).1) p
  cases hc : rchB st (roots.filter fun r => (st.head r).isSome) p
  · cases hd : rchB st roots p
    · rfl
    · rw [rchB_iff] at hd; rw [rchB_iff.2 (a hd)] at hc; cases hc
  · rw [rchB_iff] at hc
    exact rchB_iff.2 (b hc)
theorem head_far {st : Ar} {x : Int} (h : (st.cells.length : Int) ≤ x) : (st.head x).isSome = false := by
  cases hc : (st.head x).isSome
  · rfl
  · obtain ⟨p, rfl, hp⟩ := Ar.head_bd hc; omega
theorem ln_far (i : Int) (h : 0 ≤ i ∧ i < 10) (out : Int) (ho : 1000 ≤ out) : reachL (ln4 i) [0, 32, out, -1] = [0] ∧ reachL (ln4 i) [out] = [] := by
  obtain ⟨_, _, _, f4, _, f6, f7, f8, f9⟩ := ln_facts i h
  have hf := head_far (st := ln4 i) (x := out) (by rw [f7]; omega)
  have hn : ((ln4 i).head (-1)).isSome = false := by simp [Ar.head]
  unfold reachL at f4 f6 ⊢
  rw [rch_filter _ [0, 32, out, -1], rch_filter _ [out]]
  simp only [List.filter_cons, f9, f8, hf, hn, if_true, Bool.false_eq_true, if_false, List.filter_nil]
  exact ⟨f4, f6⟩
end Go.Proofs.Ytccaegiceneegaa
