/- What can be reached, computed. No conditions. -/
import Derived.Test.YtccaegiceneegaaReach
namespace Go.Proofs.Ytccaegiceneegaa

def bfs (st : Ar) : Nat → List Nat → List Int → Option (List Nat)
  | _, vis, [] => some vis
  | 0, _, _ :: _ => none
  | f + 1, vis, t :: td => if (st.head t).isSome && !vis.contains t.toNat then bfs st f (t.toNat :: vis) (td ++ ptrsOf (wordsOf st t)) else bfs st f vis td
theorem bfs_scan {st : Ar} {roots : List Int} : ∀ (f : Nat) (vis : List Nat) (td : List Int) (v' : List Nat), Scan st roots (fun p => vis.contains p) td → bfs st f vis td = some v' → Scan st roots (fun p => v'.contains p) [] := by
  intro f
  induction f with
  | zero =>
    intro vis td v' h e
    cases td with
    | nil => simp [bfs] at e; subst e; exact h
    | cons t td => simp [bfs] at e
  | succ f ih =>
    intro vis td v' h e
    cases td with
    | nil => simp [bfs] at e; subst e; exact h
    | cons t td =>
      simp only [bfs] at e
      split at e
      · rename_i hc
        simp only [Bool.and_eq_true, Bool.not_eq_true'] at hc
        obtain ⟨p, rfl, _⟩ := Ar.head_bd hc.1
        have h2 := h.visit p hc.1 (todo' := td ++ ptrsOf (wordsOf st (p : Int))) (List.mem_cons_self ..) (fun x hx => (List.mem_cons.1 hx).imp id (fun h => List.mem_append_left _ h)) (fun x hx => (List.mem_append.1 hx).imp (fun h => List.mem_cons_of_mem _ h) id) (fun j hj => List.mem_append_right _ hj)
        refine ih _ _ _ ?_ e
        have e2 : (fun q => (((p : Int).toNat) :: vis).contains q) = setV (fun q => vis.contains q) p := by
          funext q
          simp only [Int.toNat_natCast, setV, List.contains_cons]
          by_cases hq : q = p
          · subst hq; simp
          · rw [if_neg hq]; simp [hq]
        rw [e2]; exact h2
      · rename_i hc
        refine ih _ _ _ ?_ e
        refine h.skip t (fun x hx => List.mem_cons.1 hx) (fun x hx => List.mem_cons_of_mem _ hx) ?_
        cases h1 : (st.head t).isSome
        · exact .inl rfl
        · right
          cases h2 : vis.contains t.toNat
          · rw [h1, h2] at hc; simp at hc
          · rfl
theorem reach_bfs {st : Ar} {roots : List Int} {f : Nat} {v' : List Nat} (h : bfs st f [] roots = some v') : rchB st roots = fun p => v'.contains p :=
  (vis_eq (bfs_scan f [] roots v' (by have := Scan.start st roots; simpa using this) h)).symm
end Go.Proofs.Ytccaegiceneegaa
