/- The plain model: spans as rows of marks, the arena's cells, the heap: functions on lists and numbers alone. No conditions. -/
namespace Go.Proofs.Ytccaegiceneegaa

/-- the words of a class -/
def cwords (k : Int) : Int := if k = 0 then 4 else if k = 1 then 8 else if k = 2 then 16 else if k = 3 then 32 else 0
/-- the slots of a class -/
def cslots (k : Int) : Int := if k = 0 then 8 else if k = 1 then 4 else if k = 2 then 2 else if k = 3 then 1 else 0
/-- the class of so many words -/
def clsI (n : Int) : Int := if n < 8 then (if n < 4 then 0 else 1) else if n < 16 then 2 else if n < 32 then 3 else 0
def clsB (n : Int) : Bool := decide (0 ≤ n) && decide (n < 32)

/-- a row: its class (-1: none), which slots are used -/
structure Row where
  cls : Int
  used : List Bool
  deriving Inhabited

def marks (l : List Bool) : ByteArray := ⟨(l.map fun b => if b then (120 : UInt8) else 45).toArray⟩
@[simp] theorem marks_size (l : List Bool) : (marks l).size = l.length := by simp [marks, ByteArray.size]
theorem marks_get (l : List Bool) (p : Nat) (h : p < (marks l).size) : ((marks l)[p]'h).toNat = if l[p]'(by simpa using h) then 120 else 45 := by
  show ((marks l).data[p]'h).toNat = _
  simp only [marks, List.getElem_toArray, List.getElem_map]
  split <;> rfl
theorem marks_ascii (l : List Bool) (p : Nat) (h : p < (marks l).size) : ((marks l)[p]'h).toNat < 128 := by rw [marks_get]; split <;> omega

def firstFree (l : List Bool) : Nat := l.findIdx (! ·)
def rowFirstI (r : Row) : Int := if firstFree r.used < r.used.length then firstFree r.used else 0
def rowFirstB (r : Row) : Bool := decide (firstFree r.used < r.used.length)
def rowCount (r : Row) : Nat := r.used.countP id

/-- a row as it may be -/
def Row.ok (r : Row) : Prop := (r.cls = -1 ∧ r.used = []) ∨ (0 ≤ r.cls ∧ r.cls ≤ 3 ∧ (r.used.length : Int) = cslots r.cls)
theorem cslots_le (k : Int) : 0 ≤ cslots k ∧ cslots k ≤ 8 := by unfold cslots; split <;> (try split) <;> (try split) <;> (try split) <;> omega
theorem Row.ok.le {r : Row} (h : r.ok) : r.used.length ≤ 8 := by
  rcases h with ⟨_, h⟩ | ⟨_, _, h⟩
  · rw [h]; exact Nat.zero_le _
  · have := cslots_le r.cls; omega
def Sp := List Row
/-- the class of a span; -1: none -/
def spCls (sp : List Row) (i : Int) : Int := if 0 ≤ i then (match sp[i.toNat]? with | some r => r.cls | none => -1) else -1
/-- is a slot used? -/
def spUsed (sp : List Row) (i s : Int) : Bool := if 0 ≤ i then (match sp[i.toNat]? with | some r => decide (0 ≤ s) && r.used.getD s.toNat false | none => false) else false
def rowWords (r : Row) : Int := rowCount r * cwords r.cls
def spWords (sp : List Row) : Int := (sp.map rowWords).sum
theorem cwords_slots (k : Int) : cslots k * cwords k = 0 ∨ cslots k * cwords k = 32 := by
  unfold cslots cwords
  by_cases h0 : k = 0
  · subst h0; decide
  by_cases h1 : k = 1
  · subst h1; decide
  by_cases h2 : k = 2
  · subst h2; decide
  by_cases h3 : k = 3
  · subst h3; decide
  simp [h0, h1, h2, h3]
theorem cwords_nonneg (k : Int) : 0 ≤ cwords k ∧ cwords k ≤ 32 := by unfold cwords; split <;> (try split) <;> (try split) <;> (try split) <;> omega
theorem rowWords_bd {r : Row} (h : r.ok) : 0 ≤ rowWords r ∧ rowWords r ≤ 32 := by
  have h1 := cwords_nonneg r.cls
  have h2 := cwords_slots r.cls
  have h3 : rowCount r ≤ r.used.length := List.countP_le_length
  unfold rowWords
  refine ⟨Int.mul_nonneg (by omega) h1.1, ?_⟩
  rcases h with ⟨_, h⟩ | ⟨_, _, h⟩
  · rw [h] at h3; have : rowCount r = 0 := by simpa using h3
    rw [this]; simp
  · refine Int.le_trans (Int.mul_le_mul_of_nonneg_right (show (rowCount r : Int) ≤ cslots r.cls by omega) h1.1) (by omega)
theorem spWords_take_succ {sp : List Row} {k : Nat} (h : k < sp.length) : spWords (sp.take (k + 1)) = spWords (sp.take k) + rowWords sp[k] := by
  unfold spWords; rw [List.take_succ_eq_append_getElem h, List.map_append, List.sum_append]; simp [List.sum_cons, List.sum_nil]
theorem spWords_bd {sp : List Row} (h : ∀ r ∈ sp, r.ok) : 0 ≤ spWords sp ∧ spWords sp ≤ 32 * sp.length := by
  induction sp with
  | nil => simp [spWords]
  | cons r sp ih =>
    have := ih (fun q hq => h q (List.mem_cons_of_mem _ hq))
    have hr := rowWords_bd (h r (List.mem_cons_self ..))
    simp only [spWords, List.map_cons, List.sum_cons, List.length_cons] at this ⊢
    omega
/-- has a row of class k a free slot? -/
def rowFits (k : Int) (r : Row) : Bool := r.cls == k && rowFirstB r
def fitIdx (sp : List Row) (k : Int) : Nat := sp.findIdx (rowFits k)
def freshIdx (sp : List Row) : Nat := sp.findIdx (·.cls == -1)
/-- the slot that is given: its span, its place there, the rows then -/
def spAlloc (sp : List Row) (k : Int) : Option (Nat × Nat × List Row) :=
  if cslots k = 0 then none else
  match sp[fitIdx sp k]? with
  | some r => some (fitIdx sp k, firstFree r.used, sp.set (fitIdx sp k) ⟨r.cls, r.used.set (firstFree r.used) true⟩)
  | none => if freshIdx sp < sp.length then some (freshIdx sp, 0, sp.set (freshIdx sp) ⟨k, (List.replicate (cslots k).toNat false).set 0 true⟩) else none
/-- a slot is let go -/
def rowFree (r : Row) (s : Nat) : Row := if rowCount ⟨r.cls, r.used.set s false⟩ = 0 then ⟨-1, []⟩ else ⟨r.cls, r.used.set s false⟩
def spFree (sp : List Row) (i s : Nat) : List Row := match sp[i]? with | some r => sp.set i (rowFree r s) | none => sp
def spAllocV (sp : List Row) (k : Int) : Int × Int × Bool := match spAlloc sp k with | some (i, s, _) => (i, s, true) | none => (0, 0, false)
def spAllocN (sp : List Row) (k : Int) : List Row := match spAlloc sp k with | some (_, _, l) => l | none => sp
/-- the first row without a class among the first n; -1: none -/
def freshTo (sp : List Row) (n : Nat) : Int := if freshIdx sp < n then freshIdx sp else -1
theorem freshTo_succ {sp : List Row} {n : Nat} (h : n < sp.length) : freshTo sp (n + 1) = if freshTo sp n = -1 ∧ sp[n].cls = -1 then (n : Int) else freshTo sp n := by
  unfold freshTo
  by_cases h1 : freshIdx sp < n
  · rw [if_pos h1, if_pos (by omega), if_neg (by omega)]
  · rw [if_neg h1]
    by_cases h2 : sp[n].cls = -1
    · have : freshIdx sp ≤ n := by
        apply Nat.le_of_not_lt; intro h3
        have := List.not_of_lt_findIdx (p := fun r : Row => r.cls == -1) (xs := sp) (i := n) h3
        simp [h2] at this
      rw [if_pos (by omega), if_pos ⟨rfl, h2⟩]; omega
    · have : freshIdx sp ≠ n := by
        intro h3
        have h4 := List.findIdx_getElem (p := fun r : Row => r.cls == -1) (xs := sp) (w := by unfold freshIdx at h3; omega)
        unfold freshIdx at h3
        simp only [h3] at h4
        simp at h4; exact h2 h4
      rw [if_neg (by omega), if_neg (by simp [h2])]
theorem fitIdx_eq {sp : List Row} {k : Int} {n : Nat} (h : n < sp.length) (hb : ∀ j, (hj : j < sp.length) → j < n → rowFits k sp[j] = false) (hn : rowFits k sp[n] = true) : fitIdx sp k = n := by
  unfold fitIdx
  apply Nat.le_antisymm
  · apply Nat.le_of_not_lt; intro h3
    have := List.not_of_lt_findIdx (p := rowFits k) (xs := sp) (i := n) h3
    simp [hn] at this
  · apply Nat.le_of_not_lt; intro h3
    have h4 := List.findIdx_getElem (p := rowFits k) (xs := sp) (w := by omega)
    rw [hb _ _ h3] at h4; cases h4
theorem fitIdx_none {sp : List Row} {k : Int} (hb : ∀ j, (hj : j < sp.length) → rowFits k sp[j] = false) : fitIdx sp k = sp.length := by
  unfold fitIdx
  apply Nat.le_antisymm List.findIdx_le_length
  apply Nat.le_of_not_lt; intro h3
  have h4 := List.findIdx_getElem (p := rowFits k) (xs := sp) (w := h3)
  rw [hb _ _] at h4; cases h4
theorem firstFree_le (l : List Bool) : firstFree l ≤ l.length := List.findIdx_le_length
theorem firstFree_ge {l : List Bool} {p : Nat} (hp : p ≤ l.length) (h : ∀ j, (hj : j < p) → l[j]'(by omega) = true) : p ≤ firstFree l := by
  unfold firstFree
  apply Nat.le_of_not_lt
  intro hlt
  have h2 := List.findIdx_getElem (w := Nat.lt_of_lt_of_le hlt hp) (p := fun b : Bool => !b)
  have := h _ hlt
  simp [this] at h2
theorem firstFree_eq {l : List Bool} {p : Nat} (hp : p < l.length) (h : ∀ j, (hj : j < p) → l[j]'(by omega) = true) (h0 : l[p] = false) : firstFree l = p := by
  apply Nat.le_antisymm _ (firstFree_ge (by omega) h)
  apply Nat.le_of_not_lt
  intro hlt
  have := List.not_of_lt_findIdx (p := fun b : Bool => !b) (xs := l) (i := p) hlt
  simp [h0] at this
theorem countP_take_succ {l : List Bool} {p : Nat} (hp : p < l.length) : (l.take (p + 1)).countP id = (l.take p).countP id + if l[p] then 1 else 0 := by
  rw [List.take_succ_eq_append_getElem hp, List.countP_append]
  cases l[p] <;> simp
end Go.Proofs.Ytccaegiceneegaa
