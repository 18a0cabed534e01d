/- The walks of the document's answer: words, classes, spans. No conditions. -/
import Derived.Test.YtccaegiceneegaaArena
import Derived.Deep.AppendLies
import Derived.Deep.DeepCutAuto
namespace Go.Proofs.Ytccaegiceneegaa
open Go.RowKit

theorem Arr.made' (w : World) (e : Nat) (xs : List Value) {k : Nat} (hk : w.heap.size = k) : Arr (w.alloc (.cells xs.toArray e)) k e xs := by subst hk; exact Arr.made w e xs
/-- an append of a block that is known, as one step of a region -/
theorem step_append {ops : Array Oper} {o : Oper} {a : Act} {w : World} {K : Act → World → Prop} {Q : Exit → Act → World → Prop} {E : Prop} (hgd : o.guard = none) (s x : Operand) (t : TypeId)
    (ho : o.op = .call { callee := .builtin .append, args := #[s, x], argTypes := #[t, t] })
    (base : Nat) (e : TypeId) (i : TypeInfo) (z : Value) (size bytes : Nat) (ht : Try.prog.underlying t = some (.slice e)) (hi : Try.prog.info? e = some i) (hz : i.zero = some z)
    (hsize : i.size = size) (hby : i.bytes = bytes) (hzs : z.cells.size = size) (hsz : 0 < size)
    (v : Value) (n : Nat) (xs : List Value) (hs : a.eval s = v) (b c e' : Nat) (news : List Value) (hx : a.eval x = .slice (some ⟨b, 0, none⟩) 1 c) (hl : news.length = size) (h1 : ∀ u ∈ news, u.oneCell' = true)
    (h63 : n + 1 ≤ maxLen) (hbytes : (n + 1) * bytes ≤ 140737488355328) (hown : w.ownsRow base e size v n xs) (hA : Arr w b e' news) (hbase : base ≤ w.heap.size)
    (h : ∀ g cap w', w'.ownsRow base e size (.slice (some ⟨g, 0, none⟩) (n + 1) cap) (n + 1) (xs ++ news) → w.grownBy w' v.ownBlock → (v.ownBlock = some g ∨ g = w.heap.size) → g < w'.heap.size → K (a.put o.dst (.slice (some ⟨g, 0, none⟩) (n + 1) cap)) w') :
    if Region.wanted o (yielded ops a.tmps) = true then Oper.wp Try.prog o a w K Q else E :=
  step_append_lies w hgd s x t ho base e i z size bytes ht hi hz hsize hby hzs hsz v n xs hs hown ⟨b, 0, none⟩ 1 c news hx (by rw [hl, Nat.one_mul]) (fun j u hu => by rw [Addr.add_lit, Nat.zero_add]; exact hA.cell hu) h1 (by omega) h63 hbytes hbase _ rfl h

theorem rWords (k : Int) (w : World) : Calls Try.prog 19 #[.int .i64 k] w fun e w' => e = .returned (.int .i64 (cwords k)) ∧ Below w.heap.size w w' := by
  by_cases h : k = 0 ∨ k = 1 ∨ k = 2 ∨ k = 3
  · rcases h with rfl | rfl | rfl | rfl
    all_goals
      go_enter Try.func19, Try.ntmps19
      go_wp2
      go_ret
      exact ⟨rfl, by go_grown⟩
  · have e0 : cwords k = 0 := by unfold cwords; split <;> (try split) <;> (try split) <;> (try split) <;> omega
    rw [e0]
    clear e0
    by_cases h1 : k < 0
    · clear h
      go_enter Try.func19, Try.ntmps19
      go_wp2
      go_ret
      exact ⟨rfl, Below.refl _ _⟩
    · have h2 : 3 < k := by omega
      clear h h1
      go_enter Try.func19, Try.ntmps19
      go_wp2
      go_ret
      exact ⟨rfl, Below.refl _ _⟩
theorem rSlots (k : Int) (w : World) : Calls Try.prog 122 #[.int .i64 k] w fun e w' => e = .returned (.int .i64 (cslots k)) ∧ Below w.heap.size w w' := by
  by_cases h : k = 0 ∨ k = 1 ∨ k = 2 ∨ k = 3
  · rcases h with rfl | rfl | rfl | rfl
    all_goals
      go_enter Try.func122, Try.ntmps122
      go_wp2_with (go_at_call 19; refine (rWords _ _).mono ?_; rintro e w' ⟨rfl, hb⟩; simp only [cwords])
      go_ret
      exact ⟨rfl, hb⟩
  · have e0 : cslots k = 0 := by unfold cslots; split <;> (try split) <;> (try split) <;> (try split) <;> omega
    rw [e0]
    clear e0
    by_cases h1 : k < 0
    · clear h
      go_enter Try.func122, Try.ntmps122
      go_wp2
      go_ret
      exact ⟨rfl, Below.refl _ _⟩
    · have h2 : 3 < k := by omega
      clear h h1
      go_enter Try.func122, Try.ntmps122
      go_wp2
      go_ret
      exact ⟨rfl, Below.refl _ _⟩
set_option maxRecDepth 100000 in
theorem rClassOf (n : Int) (w : World) : Calls Try.prog 91 #[.int .i64 n] w fun e w' => e = .returned (.tuple #[.int .i64 (clsI n), .bool (clsB n)]) ∧ Below w.heap.size w w' := by
  by_cases hn : n < 0
  · have e0 : clsI n = 0 ∧ clsB n = false := ⟨by unfold clsI; rw [if_pos (by omega), if_pos (by omega)], by simp [clsB]; omega⟩
    rw [e0.1, e0.2]
    clear e0
    go_enter Try.func91, Try.ntmps91
    go_wp2
    go_rounds 1
    go_ret2
    exact ⟨rfl, Below.refl _ _⟩
  have hn0 : 0 ≤ n := by omega
  clear hn
  go_enter Try.func91, Try.ntmps91
  go_wp2
  go_loopw [4] (fun i wr => ∃ m : Nat, m ≤ 4 ∧ i = .int .i64 m ∧ (0 < m → cwords ((m : Int) - 1) ≤ n) ∧ Below w.heap.size w wr) (fun i _ => 4 - (intOf i).toNat)
  case atStart => exact ⟨0, by omega, rfl, fun h => by omega, Below.refl _ _⟩
  case round =>
    obtain ⟨m, hm, rfl, hlo, hb⟩ := hrel
    have HLO := Lib.hid hlo
    clear hlo
    by_cases h4 : m = 4
    · subst h4
      go_wp2
      go_ret2
      have : 32 ≤ n := HLO.out (by omega)
      exact ⟨ret_ib (by unfold clsI; rw [if_neg (by omega), if_neg (by omega), if_neg (by omega)]) (by simp [clsB]; omega), hb⟩
    · have h3 : m < 4 := by omega
      clear h4
      by_cases hlt : n < cwords m
      · have hc : (m : Int) = clsI n ∧ true = clsB n := by
          have h0 := HLO.out
          have : m = 0 ∨ m = 1 ∨ m = 2 ∨ m = 3 := by omega
          rcases this with rfl | rfl | rfl | rfl
          · simp [cwords] at hlt; unfold clsI; simp [clsB]; omega
          · simp [cwords] at hlt h0; unfold clsI; simp [clsB]; omega
          · simp [cwords] at hlt h0; unfold clsI; simp [clsB]; omega
          · simp [cwords] at hlt h0; unfold clsI; simp [clsB]; omega
        have HC := Lib.hid hc
        clear hc
        go_wp2_with fail
        refine (rWords _ _).mono ?_
        rintro e w1 ⟨rfl, hb1⟩
        go_wp2
        go_ret2
        exact ⟨ret_ib HC.out.1 HC.out.2, below_then' hb hb1⟩
      · have hge : cwords m ≤ n := by omega
        have HG := Lib.hid hge
        go_wp2_with fail
        refine (rWords _ _).mono ?_
        rintro e w1 ⟨rfl, hb1⟩
        go_wp2
        go_roundw
        case rel => exact ⟨m + 1, by omega, by go_num, fun _ => by have := HG.out; rw [show (((m + 1 : Nat) : Int) - 1) = (m : Int) from by omega]; exact this, below_then' hb hb1⟩
        case measure => simp [intOf]; omega

/-! ### the document's spans -/
def pad8 (l : List Bool) : List Bool := l ++ List.replicate (8 - l.length) false
def slotCells (sp : List Row) : List Value := sp.flatMap fun r => (pad8 r.used).map Value.bool
def clsCells (sp : List Row) : List Int := sp.map Row.cls
structure IsRSpans (w : World) (rs rc rl : Nat) (sp : List Row) : Prop where
  head : ∃ c1 c2, Arr w rs 128 [.slice (some ⟨rc, 0, none⟩) sp.length c1, .slice (some ⟨rl, 0, none⟩) sp.length c2] ∧ sp.length ≤ c1 ∧ c1 ≤ maxLen ∧ sp.length ≤ c2 ∧ c2 ≤ maxLen
  cls : Arr w rc 3 (ints (clsCells sp))
  slots : Arr w rl 132 (slotCells sp)
  ne1 : rs ≠ rc
  ne2 : rs ≠ rl
  ne3 : rc ≠ rl
  ok : ∀ r ∈ sp, r.ok
  len : sp.length ≤ 128


theorem pad8_length {l : List Bool} (h : l.length ≤ 8) : (pad8 l).length = 8 := by simp [pad8]; omega
theorem pad8_get {l : List Bool} (_h : l.length ≤ 8) (s : Nat) (hs : s < 8) : (pad8 l)[s]? = some (l.getD s false) := by
  unfold pad8
  by_cases h1 : s < l.length
  · rw [List.getElem?_append_left h1]; simp [h1]
  · rw [List.getElem?_append_right (by omega), List.getElem?_replicate, if_pos (by omega)]
    simp [List.getElem?_eq_none (Nat.le_of_not_lt h1)]
theorem pad8_set {l : List Bool} (_h : l.length ≤ 8) (s : Nat) (hs : s < l.length) (b : Bool) : (pad8 l).set s b = pad8 (l.set s b) := by
  unfold pad8
  rw [List.set_append_left _ _ hs, List.length_set]
theorem slotCells_length {sp : List Row} (hok : ∀ r ∈ sp, r.ok) : (slotCells sp).length = sp.length * 8 := by
  induction sp with
  | nil => rfl
  | cons r sp ih =>
    have h1 := ih (fun q hq => hok q (List.mem_cons_of_mem _ hq))
    have h2 := pad8_length (hok r (List.mem_cons_self ..)).le
    simp only [slotCells, List.flatMap_cons, List.length_append, List.length_map, h2, List.length_cons] at h1 ⊢
    omega
theorem slotCells_get {sp : List Row} (hok : ∀ r ∈ sp, r.ok) : ∀ (i s : Nat) (r : Row), sp[i]? = some r → s < 8 → (slotCells sp)[i * 8 + s]? = some (.bool (r.used.getD s false)) := by
  induction sp with
  | nil => intro i s r h; simp at h
  | cons q sp ih =>
    intro i s r h hs
    have hq := pad8_length (hok q (List.mem_cons_self ..)).le
    have hq' : ((pad8 q.used).map Value.bool).length = 8 := by simpa using hq
    cases i with
    | zero =>
      simp at h; subst h
      simp only [slotCells, List.flatMap_cons, Nat.zero_mul, Nat.zero_add]
      rw [List.getElem?_append_left (by omega), List.getElem?_map, pad8_get (hok q (List.mem_cons_self ..)).le s hs]; rfl
    | succ i =>
      have h1 := ih (fun q hq => hok q (List.mem_cons_of_mem _ hq)) i s r (by simpa using h) hs
      simp only [slotCells, List.flatMap_cons] at h1 ⊢
      rw [List.getElem?_append_right (by omega), hq', show (i + 1) * 8 + s - 8 = i * 8 + s from by omega]
      exact h1
theorem slotCells_set {sp : List Row} (hok : ∀ r ∈ sp, r.ok) : ∀ (i s : Nat) (r : Row) (b : Bool) (c : Int), sp[i]? = some r → s < r.used.length → (slotCells sp).set (i * 8 + s) (.bool b) = slotCells (sp.set i ⟨c, r.used.set s b⟩) := by
  induction sp with
  | nil => intro i s r b c h; simp at h
  | cons q sp ih =>
    intro i s r b c h hs
    have hql := (hok q (List.mem_cons_self ..)).le
    have hq' : ((pad8 q.used).map Value.bool).length = 8 := by simpa using pad8_length hql
    cases i with
    | zero =>
      simp at h; subst h
      simp only [slotCells, List.flatMap_cons, Nat.zero_mul, Nat.zero_add, List.set_cons_zero]
      rw [List.set_append_left _ _ (by omega), ← List.map_set, pad8_set hql s hs]
    | succ i =>
      have h1 := ih (fun q hq => hok q (List.mem_cons_of_mem _ hq)) i s r b c (by simpa using h) hs
      simp only [slotCells, List.flatMap_cons, List.set_cons_succ] at h1 ⊢
      rw [List.set_append_right _ _ (by omega), hq', show (i + 1) * 8 + s - 8 = i * 8 + s from by omega, h1]
theorem clsCells_get {sp : List Row} {i : Nat} {r : Row} (h : sp[i]? = some r) : (ints (clsCells sp))[i]? = some (.int .i64 r.cls) := by simp [ints, clsCells, h]

theorem IsRSpans.upd {w w' : World} {rs rc rl : Nat} {sp : List Row} (h : IsRSpans w rs rc rl sp) {S : Nat → Prop} (hu : Upd S w w') (h1 : ¬ S rs) (h2 : ¬ S rc) (h3 : ¬ S rl) : IsRSpans w' rs rc rl sp := by
  obtain ⟨c1, c2, hh, hc⟩ := h.head
  exact ⟨⟨c1, c2, hu.arr hh h1, hc⟩, hu.arr h.cls h2, hu.arr h.slots h3, h.ne1, h.ne2, h.ne3, h.ok, h.len⟩
theorem IsRSpans.below {w w' : World} {rs rc rl : Nat} {sp : List Row} (h : IsRSpans w rs rc rl sp) (hb : Below w.heap.size w w') : IsRSpans w' rs rc rl sp :=
  h.upd (Upd.of_below (S := fun _ => False) hb) (fun h => h) (fun h => h) (fun h => h)
theorem IsRSpans.turned {w w' : World} {rs rc rl : Nat} {sp sp' : List Row} (h : IsRSpans w rs rc rl sp) (hu : Upd (fun k => k = rc ∨ k = rl) w w') (h1 : Arr w' rc 3 (ints (clsCells sp'))) (h2 : Arr w' rl 132 (slotCells sp')) (hl : sp'.length = sp.length) (hok : ∀ r ∈ sp', r.ok) : IsRSpans w' rs rc rl sp' := by
  obtain ⟨c1, c2, hh, hc⟩ := h.head
  exact ⟨⟨c1, c2, by rw [hl]; exact hu.arr hh (fun e => e.elim h.ne1 h.ne2), by rw [hl]; exact hc⟩, h1, h2, h.ne1, h.ne2, h.ne3, hok, by rw [hl]; exact h.len⟩

set_option maxRecDepth 100000 in
theorem rUsed {w : World} {rs rc rl : Nat} {sp : List Row} (hs : IsRSpans w rs rc rl sp) (i s : Int) : Calls Try.prog 121 #[.pointer (some ⟨rs, 0, none⟩), .int .i64 i, .int .i64 s] w fun e w' =>
    e = .returned (.bool (spUsed sp i s)) ∧ w = w' := by
  obtain ⟨k1, k2, hh, hc1, hc2, hc3, hc4⟩ := hs.head
  have c0 := hh.cell (j := 0) rfl
  have c1 := hh.cell (j := 1) rfl
  have hl := hs.len
  unfold maxLen at hc2 hc4
  by_cases h0 : 0 ≤ i
  case neg =>
    have hres : spUsed sp i s = false := by simp [spUsed, h0]
    rw [hres]
    clear hres
    have h0' : i < 0 := by omega
    clear h0
    go_enter Try.func121, Try.ntmps121
    go_wp2
    go_ret
    exact ⟨rfl, rfl⟩
  obtain ⟨i, rfl⟩ := Int.eq_ofNat_of_zero_le h0
  by_cases h1 : i < sp.length
  case neg =>
    have hres : spUsed sp i s = false := by simp [spUsed, List.getElem?_eq_none (Nat.le_of_not_lt h1)]
    rw [hres]
    clear hres
    have h1' : sp.length ≤ i := by omega
    clear h1
    go_enter Try.func121, Try.ntmps121
    go_wp2
    go_ret
    exact ⟨rfl, rfl⟩
  have hr : sp[i]? = some sp[i] := List.getElem?_eq_getElem h1
  have hres : spUsed sp i s = (decide (0 ≤ s) && sp[i].used.getD s.toNat false) := by simp [spUsed, hr]
  rw [hres]
  clear hres
  have hle := (hs.ok _ (List.getElem_mem h1)).le
  by_cases h2 : 0 ≤ s
  case neg =>
    have hres : (decide (0 ≤ s) && sp[i].used.getD s.toNat false) = false := by simp [h2]
    rw [hres]
    clear hres
    have h2' : s < 0 := by omega
    clear h2
    go_enter Try.func121, Try.ntmps121
    go_wp2
    go_ret
    exact ⟨rfl, rfl⟩
  obtain ⟨s, rfl⟩ := Int.eq_ofNat_of_zero_le h2
  by_cases h3 : s < 8
  case neg =>
    have hres : (decide (0 ≤ (s : Int)) && sp[i].used.getD (s : Int).toNat false) = false := by simp [List.getElem?_eq_none (show sp[i].used.length ≤ s by omega)]
    rw [hres]
    clear hres
    have h3' : 8 ≤ s := by omega
    clear h3
    go_enter Try.func121, Try.ntmps121
    go_wp2
    go_ret
    exact ⟨rfl, rfl⟩
  have hres : (decide (0 ≤ (s : Int)) && sp[i].used.getD (s : Int).toNat false) = sp[i].used.getD s false := by simp
  rw [hres]
  have c2 := hs.slots.cell (slotCells_get hs.ok i s _ hr h3)
  clear hres hr
  generalize sp[i].used.getD s false = b at *
  go_enter Try.func121, Try.ntmps121
  go_wp2
  go_ret
  exact ⟨rfl, rfl⟩
theorem eq8 (b0 b1 b2 b3 b4 b5 b6 b7 : Bool) (w : World) : (Op.equalIn 10000 132 (.agg #[.bool b0, .bool b1, .bool b2, .bool b3, .bool b4, .bool b5, .bool b6, .bool b7]) (.agg #[.bool false, .bool false, .bool false, .bool false, .bool false, .bool false, .bool false, .bool false])).run Try.prog w = .ok (!(b0 || b1 || b2 || b3 || b4 || b5 || b6 || b7)) w := by
  cases b0
  case true => kernel_rfl
  cases b1
  case true => kernel_rfl
  cases b2
  case true => kernel_rfl
  cases b3
  case true => kernel_rfl
  cases b4
  case true => kernel_rfl
  cases b5
  case true => kernel_rfl
  cases b6
  case true => kernel_rfl
  cases b7
  case true => kernel_rfl
  kernel_rfl
theorem eight {l : List Bool} (h : l.length ≤ 8) : (!(l.getD 0 false || l.getD 1 false || l.getD 2 false || l.getD 3 false || l.getD 4 false || l.getD 5 false || l.getD 6 false || l.getD 7 false)) = decide (l.countP id = 0) := by
  have key : ∀ l : List Bool, l.length ≤ 8 → ((l.getD 0 false || l.getD 1 false || l.getD 2 false || l.getD 3 false || l.getD 4 false || l.getD 5 false || l.getD 6 false || l.getD 7 false) = false ↔ l.countP id = 0) := by
    intro l h
    rw [List.countP_eq_zero]
    simp only [Bool.or_eq_false_iff]
    constructor
    · rintro ⟨⟨⟨⟨⟨⟨⟨h0, h1⟩, h2⟩, h3⟩, h4⟩, h5⟩, h6⟩, h7⟩ a ha
      obtain ⟨j, hj, rfl⟩ := List.getElem_of_mem ha
      have hg : l[j] = l.getD j false := by simp [hj]
      rw [hg]
      have : j = 0 ∨ j = 1 ∨ j = 2 ∨ j = 3 ∨ j = 4 ∨ j = 5 ∨ j = 6 ∨ j = 7 := by omega
      rcases this with rfl | rfl | rfl | rfl | rfl | rfl | rfl | rfl <;> simp only [*] <;> simp
    · intro ha
      have hz : ∀ j, l.getD j false = false := by
        intro j
        by_cases hj : j < l.length
        · have := ha l[j] (List.getElem_mem hj)
          simp [hj]; simpa using this
        · simp [List.getElem?_eq_none (Nat.le_of_not_lt hj)]
      simp only [hz, and_self]
  have := key l h
  cases hb : (l.getD 0 false || l.getD 1 false || l.getD 2 false || l.getD 3 false || l.getD 4 false || l.getD 5 false || l.getD 6 false || l.getD 7 false)
  · rw [hb] at this; simp [this.1 rfl]
  · rw [hb] at this; simp at this; simp; exact this
set_option maxRecDepth 100000 in
theorem rFree_yes {w : World} {rs rc rl : Nat} {sp : List Row} (hs : IsRSpans w rs rc rl sp) (i s : Nat) (hu : spUsed sp i s = true) : Calls Try.prog 88 #[.pointer (some ⟨rs, 0, none⟩), .int .i64 i, .int .i64 s] w fun e w' =>
    e = .returned (.bool true) ∧ IsRSpans w' rs rc rl (spFree sp i s) ∧ Upd (fun k => k = rc ∨ k = rl) w w' := by
  obtain ⟨k1, k2, hh, hc1, hc2, hc3, hc4⟩ := hs.head
  have c0 := hh.cell (j := 0) rfl
  have c1 := hh.cell (j := 1) rfl
  have hl := hs.len
  unfold maxLen at hc2 hc4
  have hc := rUsed hs i s
  rw [hu] at hc
  obtain ⟨a, b, r, ha, hb0, hr, hus⟩ := spUsed_some hu
  obtain rfl : i = a := by omega
  obtain rfl : s = b := by omega
  have hil : i < sp.length := (List.getElem?_eq_some_iff.1 hr).1
  have hsl : s < r.used.length := (List.getElem?_eq_some_iff.1 hus).1
  have hrok := hs.ok _ (List.mem_of_getElem? hr)
  have hle := hrok.le
  have hfin : spFree sp i s = sp.set i (rowFree r s) := by simp [spFree, hr]
  rw [hfin]
  have d0 := hs.slots.cell (slotCells_get hs.ok i s _ hr (by omega))
  have f0 := hs.slots.frozen (i * 8 + s)
  have hset := hs.slots.set (j := i * 8 + s) (by rw [slotCells_length hs.ok]; omega) (.bool false)
  rw [slotCells_set hs.ok i s r false r.cls hr hsl] at hset
  have hset2 := (upd_setCell w rl (i * 8 + s) (.bool false)).arr hh hs.ne2
  have hset3 := (upd_setCell w rl (i * 8 + s) (.bool false)).arr hs.cls hs.ne3
  have HS := Lib.hid (And.intro hset (And.intro hset2 hset3))
  have HR := Lib.hid hr
  clear hu hr hus hfin ha hb0 hset hset2 hset3
  go_enter Try.func88, Try.ntmps88
  go_wp2_with fail
  refine hc.mono ?_
  rintro e w1 ⟨rfl, rfl⟩
  go_upto_region 4 with (fail)
  obtain ⟨hset, hset2, hset3⟩ := HS.out
  generalize hw2 : (w.setCell ⟨rl, i * 8 + s, none⟩ (.bool false)) = w2 at *
  have HW2 := Lib.hid hw2
  clear hw2
  have hi2 : (sp.set i ⟨r.cls, r.used.set s false⟩)[i]? = some ⟨r.cls, r.used.set s false⟩ := by simp [hil]
  have hokt := ok_set hs.ok i (hrok.turn s false)
  have g0 := hset.cell (slotCells_get hokt i 0 _ hi2 (by omega))
  have g1 := hset.cell (slotCells_get hokt i 1 _ hi2 (by omega))
  have g2 := hset.cell (slotCells_get hokt i 2 _ hi2 (by omega))
  have g3 := hset.cell (slotCells_get hokt i 3 _ hi2 (by omega))
  have g4 := hset.cell (slotCells_get hokt i 4 _ hi2 (by omega))
  have g5 := hset.cell (slotCells_get hokt i 5 _ hi2 (by omega))
  have g6 := hset.cell (slotCells_get hokt i 6 _ hi2 (by omega))
  have g7 := hset.cell (slotCells_get hokt i 7 _ hi2 (by omega))
  simp only [Nat.add_zero] at g0 g1 g2 g3 g4 g5 g6 g7
  have h8 := eight (l := r.used.set s false) (by simpa using hle)
  have heq := eq8 ((r.used.set s false).getD 0 false) ((r.used.set s false).getD 1 false) ((r.used.set s false).getD 2 false) ((r.used.set s false).getD 3 false) ((r.used.set s false).getD 4 false) ((r.used.set s false).getD 5 false) ((r.used.set s false).getD 6 false) ((r.used.set s false).getD 7 false)
  rw [h8] at heq
  clear h8
  generalize (r.used.set s false).getD 0 false = b0 at g0 heq
  generalize (r.used.set s false).getD 1 false = b1 at g1 heq
  generalize (r.used.set s false).getD 2 false = b2 at g2 heq
  generalize (r.used.set s false).getD 3 false = b3 at g3 heq
  generalize (r.used.set s false).getD 4 false = b4 at g4 heq
  generalize (r.used.set s false).getD 5 false = b5 at g5 heq
  generalize (r.used.set s false).getD 6 false = b6 at g6 heq
  generalize (r.used.set s false).getD 7 false = b7 at g7 heq
  have q0 := hset2.cell (j := 0) rfl
  have q1 := hset2.cell (j := 1) rfl
  have hupd : Upd (fun k => k = rc ∨ k = rl) w w2 := by rw [← HW2.out]; exact (upd_setCell w rl (i * 8 + s) (.bool false)).mono (fun k hk => .inl (.inr hk))
  clear hi2 c0 c1 d0 f0 hc
  by_cases h0 : rowCount ⟨r.cls, r.used.set s false⟩ = 0
  · have hrf : rowFree r s = ⟨-1, []⟩ := by simp [rowFree, h0]
    have HRF := Lib.hid hrf
    have hp0 : pad8 (r.used.set s false) = pad8 [] := by
      apply List.ext_getElem?
      intro j
      by_cases hj : j < 8
      · rw [pad8_get (by simpa using hle) j hj, pad8_get (by simp) j hj]
        congr 1
        have hz := List.countP_eq_zero.1 (show (r.used.set s false).countP id = 0 from h0)
        by_cases hjl : j < (r.used.set s false).length
        · have := hz _ (List.getElem_mem hjl)
          simp only [List.getD_eq_getElem?_getD, List.getElem?_eq_getElem hjl]
          simpa using this
        · simp only [List.getD_eq_getElem?_getD, List.getElem?_eq_none (Nat.le_of_not_lt hjl)]; rfl
      · rw [List.getElem?_eq_none (by rw [pad8_length (by simpa using hle)]; omega), List.getElem?_eq_none (by simp [pad8]; omega)]
    have hsl0 : slotCells (sp.set i ⟨r.cls, r.used.set s false⟩) = slotCells (sp.set i ⟨-1, []⟩) := by
      simp only [slotCells, List.flatMap_def, List.map_set, hp0]
    have hslots := hset
    rw [hsl0] at hslots
    have e0 := hset3.cell (clsCells_get HR.out)
    have f1 := hset3.frozen i
    have hcls := hset3.set (j := i) (by simp [clsCells, hil]) (.int .i64 (-1))
    have hcl1 : (ints (clsCells sp)).set i (.int .i64 (-1)) = ints (clsCells (sp.set i ⟨-1, []⟩)) := by simp [ints, clsCells, List.map_set]
    rw [hcl1] at hcls
    have hd0 : decide ((r.used.set s false).countP id = 0) = true := decide_eq_true h0
    rw [hd0] at heq
    have HC := Lib.hid hcls
    clear hd0 hsl0 hp0 hrf h0 hcls hcl1
    go_wp2
    go_ret
    rw [HRF.out]
    have hu5 := hupd.then ((upd_setCell w2 rc i (.int .i64 (-1))).mono (fun k hk => .inl (.inl hk)))
    exact ⟨rfl, hs.turned hu5 HC.out ((upd_setCell w2 rc i (.int .i64 (-1))).arr hslots (fun e => hs.ne3 e.symm)) (by simp) (ok_set hs.ok _ (.inl ⟨rfl, rfl⟩)), hu5⟩
  · have hrf : rowFree r s = ⟨r.cls, r.used.set s false⟩ := by simp [rowFree, h0]
    have HRF := Lib.hid hrf
    have hd0 : decide ((r.used.set s false).countP id = 0) = false := decide_eq_false h0
    rw [hd0] at heq
    clear hd0 hrf h0
    go_wp2
    go_ret
    rw [HRF.out]
    have hcl1 : ints (clsCells (sp.set i ⟨r.cls, r.used.set s false⟩)) = ints (clsCells sp) := by
      simp only [ints, clsCells, List.map_set]
      congr 1
      apply List.ext_getElem?
      intro j
      rw [List.getElem?_set]
      split
      · rename_i e; subst e; rw [List.length_map, List.length_map, if_pos hil, List.getElem?_map, List.getElem?_map, HR.out]; rfl
      · rfl
    exact ⟨rfl, hs.turned hupd (by rw [hcl1]; exact hset3) hset (by simp) hokt, hupd⟩

set_option maxRecDepth 100000 in
theorem rFree_no {w : World} {rs rc rl : Nat} {sp : List Row} (hs : IsRSpans w rs rc rl sp) (i s : Int) (hu : spUsed sp i s = false) : Calls Try.prog 88 #[.pointer (some ⟨rs, 0, none⟩), .int .i64 i, .int .i64 s] w fun e w' =>
    e = .returned (.bool false) ∧ w = w' := by
  have hc := rUsed hs i s
  rw [hu] at hc
  clear hu
  go_enter Try.func88, Try.ntmps88
  go_wp2_with (go_at_call 121; refine hc.mono ?_; rintro e w1 ⟨rfl, rfl⟩)
  go_ret
  exact ⟨rfl, rfl⟩

theorem rowCount_eq (r : Row) : rowCount r = r.used.countP id := rfl
/-- the words of a row's first slots -/
def rowTo (r : Row) (k : Nat) : Int := ((r.used.take k).countP id : Nat) * cwords r.cls
theorem rowTo_zero (r : Row) : rowTo r 0 = 0 := by simp [rowTo]
theorem rowTo_all {r : Row} {k : Nat} (h : r.used.length ≤ k) : rowTo r k = rowWords r := by simp [rowTo, rowWords, rowCount_eq, List.take_of_length_le h]
theorem rowTo_succ (r : Row) (k : Nat) : rowTo r (k + 1) = rowTo r k + (if r.used.getD k false then cwords r.cls else 0) := by
  unfold rowTo
  by_cases h : k < r.used.length
  · rw [countP_take_succ h]
    have : r.used.getD k false = r.used[k] := by simp [h]
    rw [this]
    cases r.used[k] <;> simp [Int.add_mul]
  · rw [List.take_of_length_le (show r.used.length ≤ k + 1 by omega), List.take_of_length_le (show r.used.length ≤ k by omega)]
    simp [List.getElem?_eq_none (Nat.le_of_not_lt h)]
theorem rowTo_bd {r : Row} (h : r.ok) (k : Nat) : 0 ≤ rowTo r k ∧ rowTo r k ≤ 256 := by
  have h1 := cwords_nonneg r.cls
  have h2 : (r.used.take k).countP id ≤ 8 := Nat.le_trans List.countP_le_length (by rw [List.length_take]; have := h.le; omega)
  unfold rowTo
  refine ⟨Int.mul_nonneg (by omega) h1.1, ?_⟩
  exact Int.le_trans (Int.mul_le_mul_of_nonneg_right (show (((r.used.take k).countP id : Nat) : Int) ≤ 8 by omega) h1.1) (by omega)

set_option maxRecDepth 100000 in
theorem rSpWords {w : World} {rs rc rl : Nat} {sp : List Row} (hs : IsRSpans w rs rc rl sp) : Calls Try.prog 34 #[.pointer (some ⟨rs, 0, none⟩)] w fun e w' =>
    e = .returned (.int .i64 (spWords sp)) ∧ Below w.heap.size w w' := by
  obtain ⟨k1, k2, hh, hc1, hc2, hc3, hc4⟩ := hs.head
  have hl := hs.len
  unfold maxLen at hc2 hc4
  go_enter Try.func34, Try.ntmps34
  go_wp2
  go_loopw [3, 4, 5] (fun n i _ wr => ∃ k : Nat, k ≤ sp.length ∧ i = .int .i64 k ∧ n = .int .i64 (spWords (sp.take k)) ∧ Below w.heap.size w wr) (fun _ i _ _ => sp.length - (intOf i).toNat)
  case atStart => exact ⟨0, by omega, rfl, rfl, Below.refl _ _⟩
  case round =>
    obtain ⟨k, hk, rfl, rfl, hb⟩ := hrel
    have c0 := (hs.below hb)
    obtain ⟨_, _, hh1, _⟩ := (hs.below hb).head
    have hhx := hh.belowAll hb
    have c0 := hhx.cell (j := 0) rfl
    have c1 := hhx.cell (j := 1) rfl
    clear hh1
    by_cases hlt : k < sp.length
    · have hr : sp[k]? = some sp[k] := List.getElem?_eq_getElem hlt
      have hrok := hs.ok _ (List.getElem_mem hlt)
      have hst := spWords_take_succ hlt
      have hbd1 := spWords_bd (sp := sp.take k) (fun r hr => hs.ok r (List.mem_of_mem_take hr))
      have hl1 : (sp.take k).length ≤ 128 := by simp; omega
      have hsum : 0 ≤ spWords (sp.take k) ∧ spWords (sp.take k) ≤ 5000 := by omega
      have HR := Lib.hid hr
      have HST := Lib.hid hst
      clear hst hbd1 hl1 hr
      generalize spWords (sp.take k) = S at *
      obtain ⟨hs1, hs2⟩ := hsum
      go_wp2
      go_loopw [3, 5] (fun n j wx => ∃ m : Nat, m ≤ 8 ∧ j = .int .i64 m ∧ n = .int .i64 (S + rowTo sp[k] m) ∧ Below w.heap.size w wx) (fun _ j _ => 8 - (intOf j).toNat)
      case atStart => exact ⟨0, by omega, rfl, by rw [rowTo_zero]; simp, hb⟩
      case round =>
        obtain ⟨m, hm, rfl, rfl, hbx⟩ := hrel
        have hhy := hh.belowAll hbx
        have d0 := hhy.cell (j := 0) rfl
        have d1 := hhy.cell (j := 1) rfl
        by_cases hm8 : m < 8
        · have d2 := (hs.slots.belowAll hbx).cell (slotCells_get hs.ok k m _ HR.out hm8)
          have d3 := (hs.cls.belowAll hbx).cell (clsCells_get HR.out)
          have hsc := rowTo_succ sp[k] m
          have hbd := rowTo_bd hrok m
          obtain ⟨hbd1, hbd2⟩ := hbd
          have hw1 := (cwords_nonneg sp[k].cls).1
          have hw2 := (cwords_nonneg sp[k].cls).2
          cases hb0 : sp[k].used.getD m false with
          | false =>
            rw [hb0] at hsc d2
            simp only [Bool.false_eq_true, if_false, Int.add_zero] at hsc
            have HSC := Lib.hid hsc
            clear hsc hb0 c0 c1
            generalize rowTo sp[k] m = T at *
            go_wp2
            go_roundw
            case rel => exact ⟨m + 1, by omega, by go_num, by rw [HSC.out], hbx⟩
            case measure => simp [intOf]; omega
          | true =>
            rw [hb0] at hsc d2
            simp only [if_true] at hsc
            have HSC := Lib.hid hsc
            clear hsc hb0 c0 c1
            generalize rowTo sp[k] m = T at *
            go_wp2_with fail
            refine (rWords _ _).mono ?_
            rintro e w3 ⟨rfl, hb3⟩
            have hbz := below_then' hbx hb3
            go_wp2
            go_roundw
            case rel => exact ⟨m + 1, by omega, by go_num, by rw [HSC.out, Int.add_assoc], hbz⟩
            case measure => simp [intOf]; omega
        · obtain rfl : m = 8 := by omega
          have hall := rowTo_all (r := sp[k]) (k := 8) hrok.le
          have HALL := Lib.hid hall
          clear hall c0 c1
          go_wp2
          go_roundw
          case rel => exact ⟨k + 1, by omega, by go_num, by rw [HST.out, HALL.out], hbx⟩
          case measure => simp [intOf]; omega
    · obtain rfl : k = sp.length := by omega
      go_wp2
      go_ret
      exact ⟨ret_int (by rw [List.take_of_length_le (by omega)]), hb⟩

theorem freshIdx_cls {sp : List Row} (h : freshIdx sp < sp.length) : sp[freshIdx sp].cls = -1 := by
  have h4 := List.findIdx_getElem (p := fun r : Row => r.cls == -1) (xs := sp) (w := h)
  have e : (sp[freshIdx sp].cls == -1) = true := h4
  simpa using e
theorem rowFits_no {r : Row} {k : Int} (h : ∀ j, (hj : j < r.used.length) → r.used[j] = true) : rowFits k r = false := by
  have := firstFree_ge (l := r.used) (Nat.le_refl _) (fun j hj => h j hj)
  simp [rowFits, rowFirstB]; omega

set_option maxRecDepth 100000 in
theorem rAlloc {w : World} {rs rc rl : Nat} {sp : List Row} (hs : IsRSpans w rs rc rl sp) (k : Int) : Calls Try.prog 92 #[.pointer (some ⟨rs, 0, none⟩), .int .i64 k] w fun e w' =>
    e = .returned (.tuple #[.int .i64 (spAllocV sp k).1, .int .i64 (spAllocV sp k).2.1, .bool (spAllocV sp k).2.2]) ∧ IsRSpans w' rs rc rl (spAllocN sp k) ∧ Upd (fun k => k = rc ∨ k = rl) w w' := by
  have hl := hs.len
  by_cases hk0 : cslots k = 0
  · have e1 : spAllocV sp k = (0, 0, false) := by simp [spAllocV, spAlloc, hk0]
    have e2 : spAllocN sp k = sp := by simp [spAllocN, spAlloc, hk0]
    have hsl := rSlots k w
    rw [hk0] at hsl
    rw [e1, e2]
    clear e1 e2 hk0
    go_enter Try.func92, Try.ntmps92
    go_wp2_with (go_at_call 122; refine hsl.mono ?_; rintro e w1 ⟨rfl, hb⟩)
    go_ret3
    exact ⟨rfl, hs.below hb, Upd.of_below hb⟩
  have hkne : (cslots k == 0) = false := by simpa using hk0
  have hkb := cslots_le k
  have hkr : 0 ≤ k ∧ k ≤ 3 := by unfold cslots at hk0; omega
  have hvn : ∀ i r, fitIdx sp k = i → sp[i]? = some r → spAllocV sp k = ((i : Int), (firstFree r.used : Int), true) ∧ spAllocN sp k = sp.set i ⟨r.cls, r.used.set (firstFree r.used) true⟩ := by
    intro i r h1 h2; subst h1; simp [spAllocV, spAllocN, spAlloc, hk0, h2]
  have hfn : fitIdx sp k = sp.length → (spAllocV sp k = if freshIdx sp < sp.length then ((freshIdx sp : Int), 0, true) else (0, 0, false)) ∧ spAllocN sp k = (if freshIdx sp < sp.length then sp.set (freshIdx sp) ⟨k, (List.replicate (cslots k).toNat false).set 0 true⟩ else sp) := by
    intro h1
    simp only [spAllocV, spAllocN, spAlloc, hk0, if_false, h1, List.getElem?_eq_none (Nat.le_refl sp.length)]
    by_cases h : freshIdx sp < sp.length <;> simp [h]
  have HVN := Lib.hid hvn
  have HFN := Lib.hid hfn
  obtain ⟨c, hc⟩ := Int.eq_ofNat_of_zero_le hkb.1
  have HC := Lib.hid hc
  have hsl := rSlots k w
  rw [hc] at hkne hsl hkb
  have hc8 : c ≤ 8 := by omega
  have hcpos : 0 < c := by rw [hc] at hk0; omega
  clear hvn hfn hk0 hc hkb
  go_enter Try.func92, Try.ntmps92
  go_wp2_with fail
  refine hsl.mono ?_
  rintro e w1 ⟨rfl, hb⟩
  have hs1 := hs.below hb
  clear hsl
  obtain ⟨k1, k2, hh, hc1, hc2, hc3, hc4⟩ := hs1.head
  have c0 := hh.cell (j := 0) rfl
  have c1 := hh.cell (j := 1) rfl
  unfold maxLen at hc2 hc4
  go_wp2
  go_loop [8, 9] (fun i _ => ∃ n : Nat, n ≤ sp.length ∧ i = .int .i64 n ∧ (∀ j, (hj : j < sp.length) → j < n → rowFits k sp[j] = false)) (fun i _ => sp.length - (intOf i).toNat)
  case atStart => exact ⟨0, by omega, rfl, fun _ _ h => by omega⟩
  case round =>
    obtain ⟨n, hn, rfl, hno⟩ := hrel
    have HNO := Lib.hid hno; clear hno
    by_cases hlt : n < sp.length
    · have hr : sp[n]? = some sp[n] := List.getElem?_eq_getElem hlt
      have hrok := hs.ok _ (List.getElem_mem hlt)
      have hle := hrok.le
      have d0 := hs1.cls.cell (clsCells_get hr)
      have HR := Lib.hid hr; clear hr
      generalize hrw : sp[n] = r at *
      have HRW := Lib.hid hrw; clear hrw
      go_wp2
      go_loop [9] (fun m => ∃ q : Nat, q ≤ c ∧ m = .int .i64 q ∧ (0 < q → r.cls = k) ∧ (∀ j, (hj : j < r.used.length) → j < q → r.used[j] = true)) (fun m => c - (intOf m).toNat)
      case atStart => exact ⟨0, by omega, rfl, fun h => by omega, fun _ _ h => by omega⟩
      case round =>
        obtain ⟨q, hq, rfl, hqk, hqa⟩ := hrel
        have HQK := Lib.hid hqk
        have HQA := Lib.hid hqa
        clear hqk hqa
        by_cases hcls : (r.cls == k) = true
        · have hul : (r.used.length : Int) = cslots k := by
            have e : r.cls = k := by simpa using hcls
            rcases hrok with ⟨h1, _⟩ | ⟨_, _, h3⟩
            · omega
            · rw [e] at h3; exact h3
          have hul2 : r.used.length = c := by have := HC.out; omega
          by_cases hqc : q < c
          · have d2 := hs1.slots.cell (slotCells_get hs.ok n q _ HR.out (by omega))
            have f2 := hs1.slots.frozen (n * 8 + q)
            have hql : q < r.used.length := by omega
            have hgq : r.used.getD q false = r.used[q] := by simp [hql]
            cases hu : r.used[q] with
            | true =>
              rw [hgq, hu] at d2
              have HU := Lib.hid hu
              have hq8 : q < 8 := by omega
              have HUL := Lib.hid hul2
              clear hul hul2 hgq hu
              go_wp2
              go_round
              case rel =>
                refine ⟨q + 1, by omega, by go_num, fun _ => by simpa using hcls, fun j hj hjq => ?_⟩
                by_cases e : j = q
                · subst e; exact HU.out
                · exact HQA.out j hj (by omega)
              case measure => simp [intOf]; omega
            | false =>
              rw [hgq, hu] at d2
              have hff := firstFree_eq (l := r.used) (p := q) (by omega) (fun j hj => HQA.out j (by omega) hj) hu
              have hfit : rowFits k sp[n] = true := by rw [HRW.out]; simp [rowFits, rowFirstB, hff]; exact ⟨by simpa using hcls, by omega⟩
              have hfin := HVN.out n r (fitIdx_eq hlt HNO.out hfit) HR.out
              rw [hff] at hfin
              have HFI := Lib.hid hfin
              have hq8 : q < 8 := by omega
              have hset := hs1.slots.set (j := n * 8 + q) (by rw [slotCells_length hs.ok]; omega) (.bool true)
              rw [slotCells_set hs.ok n q r true r.cls HR.out (by omega)] at hset
              have hcl1 : ints (clsCells (sp.set n ⟨r.cls, r.used.set q true⟩)) = ints (clsCells sp) := by
                simp only [ints, clsCells, List.map_set]
                congr 1
                apply List.ext_getElem?
                intro j
                rw [List.getElem?_set]
                split
                · rename_i e; subst e; rw [List.length_map, List.length_map, if_pos hlt, List.getElem?_map, List.getElem?_map, HR.out]; rfl
                · rfl
              have HSET := Lib.hid (And.intro hset hcl1)
              clear hul hul2 hgq hu hff hfit hfin hset hcl1
              go_wp2
              go_ret3
              rw [HFI.out.1, HFI.out.2]
              have hu1 := (upd_setCell w1 rl (n * 8 + q) (.bool true)).mono (T := fun k => k = rc ∨ k = rl) (fun k hk => .inl (.inr hk))
              exact ⟨rfl, hs1.turned hu1 (by rw [HSET.out.2]; exact (upd_setCell w1 rl (n * 8 + q) (.bool true)).arr hs1.cls hs.ne3) HSET.out.1 (by simp) (ok_set hs.ok _ (hrok.turn _ _)), (Upd.of_below hb).then hu1⟩
          · obtain rfl : q = c := by omega
            have hnf : rowFits k sp[n] = false := by rw [HRW.out]; exact rowFits_no (fun j hj => HQA.out j hj (by omega))
            have HNF := Lib.hid hnf
            clear hul hul2 hnf
            go_wp2
            go_round
            case rel =>
              refine ⟨n + 1, by omega, by go_num, fun j hj hjn => ?_⟩
              by_cases e : j = n
              · subst e; exact HNF.out
              · exact HNO.out j hj (by omega)
            case measure => simp [intOf]; omega
        · have hcls' : (r.cls == k) = false := by simpa using hcls
          have hnf : rowFits k sp[n] = false := by rw [HRW.out]; simp [rowFits, hcls']
          have HNF := Lib.hid hnf
          obtain rfl : q = 0 := by
            have := HQK.out
            rcases Nat.eq_zero_or_pos q with h | h
            · exact h
            · exact absurd (this h) (by simpa using hcls')
          clear hnf hcls
          go_wp2
          go_round
          case rel =>
            refine ⟨n + 1, by omega, by go_num, fun j hj hjn => ?_⟩
            by_cases e : j = n
            · subst e; exact HNF.out
            · exact HNO.out j hj (by omega)
          case measure => simp [intOf]; omega
    · obtain rfl : n = sp.length := by omega
      have hfin := HFN.out (fitIdx_none fun j hj => HNO.out j hj hj)
      go_wp2
      clear c0 c1
      have HFI := Lib.hid hfin
      clear hfin
      have c0 := hh.cell (j := 0) rfl
      have c1 := hh.cell (j := 1) rfl
      go_loop [10] (fun i => ∃ n : Nat, n ≤ sp.length ∧ i = .int .i64 n ∧ (∀ j, (hj : j < sp.length) → j < n → sp[j].cls ≠ -1)) (fun i => sp.length - (intOf i).toNat)
      case atStart => exact ⟨0, by omega, rfl, fun _ _ h => by omega⟩
      case round =>
        obtain ⟨n, hn, rfl, hnf⟩ := hrel
        have HNF := Lib.hid hnf
        clear hnf
        by_cases hlt2 : n < sp.length
        · have hr : sp[n]? = some sp[n] := List.getElem?_eq_getElem hlt2
          have hrok := hs.ok _ (List.getElem_mem hlt2)
          have d0 := hs1.cls.cell (clsCells_get hr)
          by_cases hneg : sp[n].cls = -1
          · have hfi : freshIdx sp = n := by
              apply Nat.le_antisymm
              · apply Nat.le_of_not_lt; intro h3
                have := List.not_of_lt_findIdx (p := fun r : Row => r.cls == -1) (xs := sp) (i := n) h3
                simp [hneg] at this
              · apply Nat.le_of_not_lt; intro h3
                exact HNF.out _ (by omega) h3 (freshIdx_cls (by omega))
            have hf2 := HFI.out
            rw [hfi, if_pos hlt2, if_pos hlt2] at hf2
            have hu0 : sp[n].used = [] := by
              rcases hrok with ⟨_, h2⟩ | ⟨h1, _⟩
              · exact h2
              · omega
            have HF2 := Lib.hid hf2
            have hset1 := hs1.cls.set (j := n) (by simp [clsCells, hlt2]) (.int .i64 k)
            have hset2 := hs1.slots.set (j := n * 8) (by rw [slotCells_length hs.ok]; omega) (.bool true)
            have e1 : (ints (clsCells sp)).set n (.int .i64 k) = ints (clsCells (sp.set n ⟨k, (List.replicate (cslots k).toNat false).set 0 true⟩)) := by simp [ints, clsCells, List.map_set]
            have hcl : (cslots k).toNat = c := by have := HC.out; omega
            have hsame : slotCells sp = slotCells (sp.set n ⟨k, List.replicate (cslots k).toNat false⟩) := by
              have hp : pad8 sp[n].used = pad8 (List.replicate (cslots k).toNat false) := by
                rw [hu0, hcl]
                simp only [pad8, List.nil_append, List.length_nil, List.length_replicate]
                rw [List.replicate_append_replicate]; congr 1; omega
              simp only [slotCells, List.flatMap_def]
              congr 1
              apply List.ext_getElem?
              intro j
              rw [List.getElem?_map, List.getElem?_map, List.getElem?_set]
              split
              · rename_i e; subst e; rw [hr]; first | (rw [if_pos hlt2]; simp only [Option.map_some]; rw [hp]) | (simp only [Option.map_some]; rw [hp])
              · rfl
            have hokn : ∀ q ∈ sp.set n ⟨k, List.replicate (cslots k).toNat false⟩, q.ok := ok_set hs.ok n (.inr ⟨hkr.1, hkr.2, by simp; omega⟩)
            have e2 : (slotCells sp).set (n * 8) (.bool true) = slotCells (sp.set n ⟨k, (List.replicate (cslots k).toNat false).set 0 true⟩) := by
              have := slotCells_set hokn n 0 ⟨k, List.replicate (cslots k).toNat false⟩ true k (by simp [hlt2]) (by simp; omega)
              rw [← hsame] at this
              simpa using this
            rw [e1] at hset1
            rw [e2] at hset2
            have hs2 := (upd_setCell w1 rc n (.int .i64 k)).arr hs1.slots (fun e => hs.ne3 e.symm)
            have hset2' := hs2.set (j := n * 8) (by rw [slotCells_length hs.ok]; omega) (.bool true)
            rw [e2] at hset2'
            have hset1' := (upd_setCell (w1.setCell ⟨rc, n, none⟩ (.int .i64 k)) rl (n * 8) (.bool true)).arr hset1 hs.ne3
            have HSET := Lib.hid (And.intro hset1' hset2')
            have d2 := hs1.slots.cell (slotCells_get hs.ok n 0 _ hr (by omega))
            simp only [Nat.add_zero] at d2
            rw [hneg] at d0
            have f1 := hs1.cls.frozen n
            have f2 := hs1.slots.frozen (n * 8)
            have hne3 := hs.ne3
            have d3 := hs2.cell (slotCells_get hs.ok n 0 _ hr (by omega))
            simp only [Nat.add_zero] at d3
            have f3 := hs2.frozen (n * 8)
            clear hset1 hset2 hset1' hset2' e1 e2 hcl hsame hr hneg hfi hf2 hu0
            go_wp2
            go_region
            go_wp2
            go_ret3
            rw [HF2.out.1, HF2.out.2]
            have hu1 : Upd (fun k => k = rc ∨ k = rl) w1 ((w1.setCell ⟨rc, n, none⟩ (.int .i64 k)).setCell ⟨rl, n * 8, none⟩ (.bool true)) := ((upd_setCell w1 rc n (.int .i64 k)).mono (T := fun k => k = rc ∨ k = rl) (fun k hk => .inl (.inl hk))).then ((upd_setCell _ rl (n * 8) (.bool true)).mono (fun k hk => .inl (.inr hk)))
            exact ⟨rfl, hs1.turned hu1.drew HSET.out.1 HSET.out.2 (by simp) (ok_set hs.ok _ (.inr ⟨hkr.1, hkr.2, by have := cslots_le k; simp; omega⟩)), ((Upd.of_below hb).then hu1).drew⟩
          · have hge : 0 ≤ sp[n].cls := by
              rcases hrok with ⟨h1, _⟩ | ⟨h1, _⟩
              · exact absurd h1 hneg
              · exact h1
            have HNEG := Lib.hid hneg
            clear hr hneg
            generalize hcc : sp[n].cls = cc at d0 hge
            clear hcc
            go_wp2
            go_round
            case rel =>
              refine ⟨n + 1, by omega, by go_num, fun j hj hjn => ?_⟩
              by_cases e : j = n
              · subst e; exact HNEG.out
              · exact HNF.out j hj (by omega)
            case measure => simp [intOf]; omega
        · obtain rfl : n = sp.length := by omega
          have hfi : ¬ freshIdx sp < sp.length := by
            intro h3
            exact HNF.out _ h3 h3 (freshIdx_cls h3)
          have hf2 := HFI.out
          rw [if_neg hfi, if_neg hfi] at hf2
          have HF2 := Lib.hid hf2
          clear hf2 hfi
          go_wp2
          go_ret3
          rw [HF2.out.1, HF2.out.2]
          exact ⟨rfl, hs1, Upd.of_below hb⟩
end Go.Proofs.Ytccaegiceneegaa
