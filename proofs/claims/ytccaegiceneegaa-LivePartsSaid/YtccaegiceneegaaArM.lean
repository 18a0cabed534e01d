/- The plain model of the arena: what stands at each place, allotted, freed, loaded, stored; it stays as it may be. No conditions. -/
import Derived.Test.YtccaegiceneegaaModel
namespace Go.Proofs.Ytccaegiceneegaa

/-- what stands at a place: nothing, a header, a word -/
inductive ACell where
  | nil
  | hdr (k n : Int)
  | wd (v : Int)
  deriving Inhabited, DecidableEq
structure Ar where
  rows : List Row
  cells : List ACell
  deriving Inhabited
def hdrAt (c : ACell) : Option (Int × Int) := match c with | .hdr k n => some (k, n) | _ => none
def wordAt (c : ACell) : Int := match c with | .wd v => v | _ => 0
def Ar.head (st : Ar) (i : Int) : Option (Int × Int) := if 0 ≤ i then (st.cells[i.toNat]?).bind hdrAt else none
def hK (h : Option (Int × Int)) : Int := match h with | some (k, _) => k | none => 0
def hN (h : Option (Int × Int)) : Int := match h with | some (_, n) => n | none => 0
/-- so many cells from a place on are others -/
def setRange (l : List ACell) (p : Nat) (xs : List ACell) : List ACell := l.take p ++ xs ++ l.drop (p + xs.length)
theorem setRange_length {l : List ACell} {p : Nat} {xs : List ACell} (h : p + xs.length ≤ l.length) : (setRange l p xs).length = l.length := by
  simp only [setRange, List.length_append, List.length_take, List.length_drop]; omega
theorem setRange_get {l : List ACell} {p : Nat} {xs : List ACell} (h : p + xs.length ≤ l.length) (q : Nat) :
    (setRange l p xs)[q]? = if p ≤ q ∧ q < p + xs.length then xs[q - p]? else l[q]? := by
  unfold setRange
  have hl : (l.take p).length = p := by simp; omega
  by_cases h1 : q < p
  · rw [if_neg (by omega), List.append_assoc, List.getElem?_append_left (by omega), List.getElem?_take_of_lt h1]
  · by_cases h2 : q < p + xs.length
    · rw [if_pos ⟨by omega, h2⟩, List.append_assoc, List.getElem?_append_right (by omega), hl, List.getElem?_append_left (by omega)]
    · rw [if_neg (by omega), List.getElem?_append_right (by simp; omega), List.getElem?_drop]
      congr 1
      simp only [List.length_append, hl]; omega
theorem setRange_snoc {l : List ACell} {p : Nat} {xs : List ACell} (h : p + xs.length < l.length) (v : ACell) : (setRange l p xs).set (p + xs.length) v = setRange l p (xs ++ [v]) := by
  apply List.ext_getElem?
  intro q
  have h1 : p + (xs ++ [v]).length ≤ l.length := by simp only [List.length_append, List.length_singleton]; omega
  rw [List.getElem?_set, setRange_get h1, setRange_length (by omega), setRange_get (by omega)]
  have h2 : (xs ++ [v]).length = xs.length + 1 := by simp
  by_cases e : p + xs.length = q
  · subst e
    rw [if_pos rfl, if_pos h, if_pos (by omega)]
    simp
  · rw [if_neg e]
    by_cases h3 : p ≤ q ∧ q < p + xs.length
    · rw [if_pos h3, if_pos (by omega), List.getElem?_append_left (by omega)]
    · rw [if_neg h3, if_neg (by omega)]

def cw (k : Int) : Nat := (cwords k).toNat
/-- the arena as it may be: a header stands just at the used slots' first words; its words behind it -/
structure Ar.ok (st : Ar) : Prop where
  rows : ∀ r ∈ st.rows, r.ok
  len : st.cells.length = 32 * st.rows.length
  hdr : ∀ (p : Nat) (k n : Int), st.cells[p]? = some (.hdr k n) → 1 ≤ k ∧ k ≤ 6 ∧ 0 ≤ n ∧ ∃ r, st.rows[p / 32]? = some r ∧ n < cwords r.cls ∧ p % 32 % cw r.cls = 0 ∧ r.used[p % 32 / cw r.cls]? = some true ∧ ∀ j, j < n.toNat → ∃ v, st.cells[p + 1 + j]? = some (.wd v)
  usd : ∀ (i s : Nat) (r : Row), st.rows[i]? = some r → r.used[s]? = some true → ∃ k n, st.cells[32 * i + s * cw r.cls]? = some (.hdr k n)

def arLoad (st : Ar) (i j : Int) : Int × Int := match st.head i with
  | none => (0, 8)
  | some (_, n) => if j < 0 ∨ n ≤ j then (0, 1) else ((st.cells[(i + 1 + j).toNat]?).elim 0 wordAt, 0)
def arStoreN (st : Ar) (i j v : Int) : Ar := if (arLoad st i j).2 = 0 then ⟨st.rows, st.cells.set (i + 1 + j).toNat (.wd v)⟩ else st
def arAllocV (st : Ar) (k n : Int) : Int × Int := if k < 1 ∨ 6 < k ∨ clsB n = false then (0, 1) else match spAlloc st.rows (clsI n) with
  | none => (0, 9)
  | some (i, s, _) => (((i * 32 + s * cw (clsI n) : Nat) : Int), 0)
def arAllocN (st : Ar) (k n : Int) : Ar := if k < 1 ∨ 6 < k ∨ clsB n = false then st else match spAlloc st.rows (clsI n) with
  | none => st
  | some (i, s, l) => ⟨l, setRange st.cells (i * 32 + s * cw (clsI n)) (.hdr k n :: List.replicate n.toNat (.wd 0))⟩
def arFreeV (st : Ar) (i : Int) : Int := match st.head i with | none => 8 | some _ => 0
def arFreeN (st : Ar) (i : Int) : Ar := match st.head i with
  | none => st
  | some (_, n) => ⟨spFree st.rows (i.toNat / 32) (i.toNat % 32 / cw (spCls st.rows ((i.toNat / 32 : Nat) : Int))), setRange st.cells i.toNat (List.replicate (n.toNat + 1) .nil)⟩
def objsTo (st : Ar) (n : Nat) : List Nat := (List.range n).filter fun p => (st.head p).isSome
def arObjs (st : Ar) : List Nat := objsTo st st.cells.length
def arNew (n : Nat) : Ar := ⟨List.replicate n ⟨-1, []⟩, List.replicate (32 * n) .nil⟩

theorem Ar.head_some {st : Ar} {i : Int} {k n : Int} (h : st.head i = some (k, n)) : ∃ p : Nat, i = p ∧ st.cells[p]? = some (.hdr k n) := by
  unfold Ar.head at h
  split at h
  · rename_i h0
    refine ⟨i.toNat, by omega, ?_⟩
    cases hc : st.cells[i.toNat]? with
    | none => rw [hc] at h; cases h
    | some c =>
      rw [hc] at h
      cases c <;> simp [hdrAt] at h
      obtain ⟨rfl, rfl⟩ := h; rfl
  · cases h
theorem cw_cases (r : Row) (h : r.ok) (h1 : r.cls ≠ -1) : (cw r.cls = 4 ∧ r.used.length = 8) ∨ (cw r.cls = 8 ∧ r.used.length = 4) ∨ (cw r.cls = 16 ∧ r.used.length = 2) ∨ (cw r.cls = 32 ∧ r.used.length = 1) := by
  rcases h with ⟨h, _⟩ | ⟨h2, h3, h4⟩
  · exact absurd h h1
  · have : r.cls = 0 ∨ r.cls = 1 ∨ r.cls = 2 ∨ r.cls = 3 := by omega
    rcases this with e | e | e | e <;> rw [e] at h4 ⊢ <;> simp [cslots] at h4 <;> simp [cw, cwords] <;> omega
/-- an object lies in its span, before the next slot -/
theorem Ar.ok.fits {st : Ar} (h : st.ok) {p : Nat} {k n : Int} (hp : st.cells[p]? = some (.hdr k n)) : 1 ≤ k ∧ k ≤ 6 ∧ 0 ≤ n ∧ n < 32 ∧ p % 32 + n.toNat < 32 ∧ p + n.toNat < st.cells.length := by
  obtain ⟨h1, h2, h3, r, hr, hn, hm, hu, _⟩ := h.hdr p k n hp
  have hrok := h.rows r (List.mem_of_getElem? hr)
  have hne : r.cls ≠ -1 := by intro e; rw [e] at hn; simp [cwords] at hn; omega
  have hul : p % 32 / cw r.cls < r.used.length := (List.getElem?_eq_some_iff.1 hu).1
  have hrl : p / 32 < st.rows.length := (List.getElem?_eq_some_iff.1 hr).1
  have hcw : n < cw r.cls := by unfold cw; omega
  have hlen := h.len
  rcases cw_cases r hrok hne with ⟨e1, e2⟩ | ⟨e1, e2⟩ | ⟨e1, e2⟩ | ⟨e1, e2⟩ <;> rw [e1] at hm hul hcw <;> rw [e2] at hul <;> refine ⟨h1, h2, h3, ?_, ?_, ?_⟩ <;> omega
end Go.Proofs.Ytccaegiceneegaa
