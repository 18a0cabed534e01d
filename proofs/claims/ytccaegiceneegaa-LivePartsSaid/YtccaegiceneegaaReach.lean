/- What can be reached in an arena: plain laws. No conditions. -/
import Derived.Test.YtccaegiceneegaaHpL
namespace Go.Proofs.Ytccaegiceneegaa

def fitsW (v : Int) : Prop := -9223372036854775808 ≤ v ∧ v ≤ 9223372036854775807
/-- all words fit -/
def Ar.fit (st : Ar) : Prop := ∀ (p : Nat) (v : Int), st.cells[p]? = some (.wd v) → fitsW v
theorem fits_zero : fitsW 0 := ⟨by omega, by omega⟩
theorem arNew_fit (n : Nat) : (arNew n).fit := by
  intro p v h
  simp only [arNew, List.getElem?_replicate] at h
  split at h <;> cases h
theorem arLoad_fit {st : Ar} (h : st.fit) (i j : Int) : fitsW (arLoad st i j).1 := by
  unfold arLoad
  split
  · exact fits_zero
  · split
    · exact fits_zero
    · simp only
      cases hc : st.cells[(i + 1 + j).toNat]? with
      | none => exact fits_zero
      | some c =>
        cases c with
        | nil => exact fits_zero
        | hdr k n => exact fits_zero
        | wd v => exact h _ _ hc
theorem arStore_fit {st : Ar} (h : st.fit) (i j v : Int) (hv : fitsW v) : (arStoreN st i j v).fit := by
  unfold arStoreN
  split
  · intro p u hu
    simp only at hu
    rw [List.getElem?_set] at hu
    split at hu
    · split at hu
      · simp only [Option.some.injEq, ACell.wd.injEq] at hu; subst hu; exact hv
      · cases hu
    · exact h p u hu
  · exact h
theorem arAlloc_fit {st : Ar} (hok : st.ok) (h : st.fit) (k n : Int) : (arAllocN st k n).fit := by
  by_cases h0 : (arAllocV st k n).2 = 0
  · obtain ⟨p, hp, hpl, hk1, hk6, hn0, hn32, hfit, hhd, hold, hnew, hwd, hout, _, _⟩ := arAlloc_at hok k n h0
    intro q v hq
    by_cases hin : p ≤ q ∧ q < p + (n.toNat + 1)
    · by_cases e : q = p
      · subst e
        rw [Ar.head_nat, hq] at hhd
        simp [hdrAt] at hhd
      · have := hwd (q - p - 1) (by omega)
        have e2 : p + 1 + (q - p - 1) = q := by omega
        rw [e2, hq] at this
        simp only [Option.some.injEq, ACell.wd.injEq] at this
        subst this; exact fits_zero
    · rw [hout q hin] at hq; exact h q v hq
  · have : arAllocN st k n = st := by
      have h3 := hpAlloc_st ⟨st, fun _ => 0, [], false, 0, 0, 0⟩ k n
      rw [← h3]
      show (hpAlloc _ k n).st = st
      unfold hpAlloc
      rw [if_neg h0]
    rw [this]; exact h
theorem arFree_fit {st : Ar} (hok : st.ok) (h : st.fit) (i : Int) : (arFreeN st i).fit := by
  unfold arFreeN
  cases hd : st.head i with
  | none => exact h
  | some kn =>
    obtain ⟨k, n⟩ := kn
    obtain ⟨p, rfl, hp⟩ := Ar.head_some hd
    obtain ⟨b1, b2, b3, b4, b5, b6⟩ := hok.fits hp
    simp only
    have hget := setRange_get (l := st.cells) (p := ((p : Int)).toNat) (xs := List.replicate (n.toNat + 1) ACell.nil) (by simp; omega)
    intro q v hq
    simp only at hq
    rw [hget] at hq
    split at hq
    · rw [List.getElem?_replicate] at hq; split at hq <;> cases hq
    · exact h q v hq

/-- the words of an object; the places that words lead to -/
def wordsOf (st : Ar) (i : Int) : List Int := (List.range (hN (st.head i)).toNat).map fun (j : Nat) => (arLoad st i (j : Int)).1
def ptrsOf (ws : List Int) : List Int := (ws.filter oddW).map ptrAt
theorem wordsOf_fit {st : Ar} (h : st.fit) (i : Int) : ∀ v ∈ wordsOf st i, fitsW v := by
  intro v hv
  obtain ⟨j, _, rfl⟩ := List.mem_map.1 hv
  exact arLoad_fit h i j
theorem wordsOf_len (st : Ar) (i : Int) : (wordsOf st i).length = (hN (st.head i)).toNat := by simp [wordsOf]
theorem ptrsOf_len (ws : List Int) : (ptrsOf ws).length ≤ ws.length := by
  simp only [ptrsOf, List.length_map]; exact List.length_filter_le _ _

/-- can be reached -/
inductive Rch (st : Ar) (roots : List Int) : Int → Prop
  | root {i : Int} : i ∈ roots → (st.head i).isSome = true → Rch st roots i
  | step {i j : Int} : Rch st roots i → j ∈ ptrsOf (wordsOf st i) → (st.head j).isSome = true → Rch st roots j
theorem Rch.obj {st : Ar} {roots : List Int} {i : Int} (h : Rch st roots i) : (st.head i).isSome = true := by cases h <;> assumption

def setV (vis : Nat → Bool) (p : Nat) : Nat → Bool := fun q => if q = p then true else vis q
/-- a search: what was seen, what is still to be looked at -/
structure Scan (st : Ar) (roots : List Int) (vis : Nat → Bool) (todo : List Int) : Prop where
  sound : ∀ p : Nat, vis p = true → Rch st roots p
  queue : ∀ t ∈ todo, (st.head t).isSome = true → Rch st roots t
  root : ∀ r ∈ roots, (st.head r).isSome = true → vis r.toNat = true ∨ r ∈ todo
  clos : ∀ p : Nat, vis p = true → ∀ j ∈ ptrsOf (wordsOf st p), (st.head j).isSome = true → vis j.toNat = true ∨ j ∈ todo
theorem Scan.start (st : Ar) (roots : List Int) : Scan st roots (fun _ => false) roots :=
  ⟨fun _ h => by (cases h), fun _ ht hs => Rch.root ht hs, fun r hr _ => .inr hr, fun _ h => by (cases h)⟩
theorem Scan.skip {st : Ar} {roots : List Int} {vis : Nat → Bool} {todo todo' : List Int} (h : Scan st roots vis todo) (t : Int) (hm : ∀ x ∈ todo, x = t ∨ x ∈ todo') (hs : ∀ x ∈ todo', x ∈ todo) (ht : (st.head t).isSome = false ∨ vis t.toNat = true) : Scan st roots vis todo' := by
  have key : ∀ j : Int, (st.head j).isSome = true → (vis j.toNat = true ∨ j ∈ todo) → (vis j.toNat = true ∨ j ∈ todo') := by
    intro j hj h1
    rcases h1 with h1 | h1
    · exact .inl h1
    · rcases hm j h1 with rfl | h2
      · rcases ht with ht | ht
        · rw [ht] at hj; cases hj
        · exact .inl ht
      · exact .inr h2
  exact ⟨h.sound, fun x hx hj => h.queue x (hs x hx) hj, fun r hr hj => key r hj (h.root r hr hj), fun p hp j hj hjs => key j hjs (h.clos p hp j hj hjs)⟩
theorem Scan.visit {st : Ar} {roots : List Int} {vis : Nat → Bool} {todo todo' : List Int} (h : Scan st roots vis todo) (p : Nat) (hp : (st.head p).isSome = true) (hpt : (p : Int) ∈ todo) (hm : ∀ x ∈ todo, x = p ∨ x ∈ todo') (hs : ∀ x ∈ todo', x ∈ todo ∨ x ∈ ptrsOf (wordsOf st p)) (hn : ∀ j ∈ ptrsOf (wordsOf st p), j ∈ todo') : Scan st roots (setV vis p) todo' := by
  have hR : Rch st roots p := h.queue _ hpt hp
  have key : ∀ j : Int, (st.head j).isSome = true → (vis j.toNat = true ∨ j ∈ todo) → (setV vis p j.toNat = true ∨ j ∈ todo') := by
    intro j hj h1
    rcases h1 with h1 | h1
    · left; unfold setV; split
      · rfl
      · exact h1
    · rcases hm j h1 with rfl | h2
      · left; simp [setV]
      · exact .inr h2
  refine ⟨?_, ?_, fun r hr hj => key r hj (h.root r hr hj), ?_⟩
  · intro q hq
    unfold setV at hq
    split at hq
    · rename_i e; subst e; exact hR
    · exact h.sound q hq
  · intro x hx hxs
    rcases hs x hx with h1 | h1
    · exact h.queue x h1 hxs
    · exact Rch.step hR h1 hxs
  · intro q hq j hj hjs
    unfold setV at hq
    split at hq
    · rename_i e; subst e; exact .inr (hn j hj)
    · exact key j hjs (h.clos q hq j hj hjs)
theorem Scan.done {st : Ar} {roots : List Int} {vis : Nat → Bool} (h : Scan st roots vis []) (p : Nat) : vis p = true ↔ Rch st roots p := by
  have key : ∀ i : Int, Rch st roots i → vis i.toNat = true := by
    intro i hi
    induction hi with
    | root hr hs => exact (h.root _ hr hs).resolve_right (by simp)
    | @step i j h1 h2 h3 ih =>
      obtain ⟨q, rfl, _⟩ := Ar.head_bd h1.obj
      exact (h.clos q (by simpa using ih) j h2 h3).resolve_right (by simp)
  exact ⟨h.sound p, fun hr => by simpa using key _ hr⟩

/-- how many are not seen yet -/
def unseen (st : Ar) (vis : Nat → Bool) : Nat := ((List.range st.cells.length).filter fun (p : Nat) => (st.head (p : Int)).isSome && !vis p).length
theorem unseen_le (st : Ar) (vis : Nat → Bool) : unseen st vis ≤ st.cells.length := by
  unfold unseen; exact Nat.le_trans (List.length_filter_le _ _) (by simp)
theorem filter_lt {α : Type} {f g : α → Bool} : ∀ (l : List α), (∀ x ∈ l, g x = true → f x = true) → (∃ x ∈ l, f x = true ∧ g x = false) → (l.filter g).length < (l.filter f).length := by
  intro l
  induction l with
  | nil => rintro _ ⟨x, hx, _⟩; cases hx
  | cons a l ih =>
    intro h1 h2
    have hle : (l.filter g).length ≤ (l.filter f).length := by
      clear ih h2
      induction l with
      | nil => simp
      | cons b l ih =>
        have := ih (fun x hx => h1 x (by simp only [List.mem_cons] at hx ⊢; rcases hx with rfl | hx <;> simp_all))
        have hb := h1 b (by simp)
        simp only [List.filter_cons]
        cases hg : g b
        · cases hf : f b <;> simp <;> omega
        · rw [hb hg]; simp; omega
    simp only [List.filter_cons]
    obtain ⟨x, hx, hf, hg⟩ := h2
    rcases List.mem_cons.1 hx with rfl | hx
    · rw [hf, hg]; simp; omega
    · have := ih (fun y hy => h1 y (List.mem_cons_of_mem _ hy)) ⟨x, hx, hf, hg⟩
      have ha := h1 a (List.mem_cons_self ..)
      cases hga : g a
      · cases hfa : f a <;> simp <;> omega
      · rw [ha hga]; simp; omega
theorem unseen_visit {st : Ar} {vis : Nat → Bool} {p : Nat} (hp : (st.head p).isSome = true) (hv : vis p = false) : unseen st (setV vis p) < unseen st vis := by
  obtain ⟨q, hq, hql⟩ := Ar.head_bd hp
  obtain rfl : p = q := by omega
  refine filter_lt _ (fun x _ hx => ?_) ⟨p, by simpa using hql, by simp [hp, hv], by simp [setV]⟩
  simp only [Bool.and_eq_true, Bool.not_eq_true'] at hx ⊢
  refine ⟨hx.1, ?_⟩
  have := hx.2
  unfold setV at this
  split at this
  · cases this
  · exact this

open Classical in
/-- is it reached? -/
noncomputable def rchB (st : Ar) (roots : List Int) (p : Nat) : Bool := decide (Rch st roots p)
theorem rchB_iff {st : Ar} {roots : List Int} {p : Nat} : rchB st roots p = true ↔ Rch st roots p := by simp [rchB]
noncomputable def reachL (st : Ar) (roots : List Int) : List Nat := (arObjs st).filter (rchB st roots)
noncomputable def lostL (st : Ar) (roots : List Int) : List Nat := (arObjs st).filter fun p => !rchB st roots p
/-- does an object lead to what is none? -/
def leads (st : Ar) (p : Nat) : Bool := (ptrsOf (wordsOf st p)).any fun j => !(st.head j).isSome
noncomputable def brokenL (st : Ar) (roots : List Int) : List Nat := (reachL st roots).filter (leads st)
theorem reachL_range (st : Ar) (roots : List Int) : (List.range st.cells.length).filter (rchB st roots) = reachL st roots := by
  unfold reachL arObjs objsTo
  rw [List.filter_filter]
  apply List.filter_congr
  intro p _
  cases h : rchB st roots p
  · rfl
  · have := (rchB_iff.1 h).obj
    simp [this]
theorem vis_eq {st : Ar} {roots : List Int} {vis : Nat → Bool} (h : Scan st roots vis []) : vis = rchB st roots := by
  funext p
  have := h.done p
  cases hv : vis p
  · cases hr : rchB st roots p
    · rfl
    · rw [rchB_iff] at hr; rw [this.2 hr] at hv; cases hv
  · exact (rchB_iff.2 (this.1 hv)).symm
end Go.Proofs.Ytccaegiceneegaa
