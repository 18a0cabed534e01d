/- The walks of the packages class and span. No conditions. -/
import Derived.Test.YtccaegiceneegaaBase
import Derived.Test.YtccaegiceneegaaModel
namespace Go.Proofs.Ytccaegiceneegaa
open Go.RowKit

theorem sizes_next (w : World) :
  (∀ ty, (Instr.next (.pointer (some ⟨w.heap.size, 0, none⟩)) true ty).run Try.prog (w.iter ⟨#[4, 8, 16, 32]⟩ 0) = .ok (.tuple #[.bool true, .int .i64 0, .int .i32 4]) (w.iter ⟨#[4, 8, 16, 32]⟩ 1)) ∧
  (∀ ty, (Instr.next (.pointer (some ⟨w.heap.size, 0, none⟩)) true ty).run Try.prog (w.iter ⟨#[4, 8, 16, 32]⟩ 1) = .ok (.tuple #[.bool true, .int .i64 1, .int .i32 8]) (w.iter ⟨#[4, 8, 16, 32]⟩ 2)) ∧
  (∀ ty, (Instr.next (.pointer (some ⟨w.heap.size, 0, none⟩)) true ty).run Try.prog (w.iter ⟨#[4, 8, 16, 32]⟩ 2) = .ok (.tuple #[.bool true, .int .i64 2, .int .i32 16]) (w.iter ⟨#[4, 8, 16, 32]⟩ 3)) ∧
  (∀ ty, (Instr.next (.pointer (some ⟨w.heap.size, 0, none⟩)) true ty).run Try.prog (w.iter ⟨#[4, 8, 16, 32]⟩ 3) = .ok (.tuple #[.bool true, .int .i64 3, .int .i32 32]) (w.iter ⟨#[4, 8, 16, 32]⟩ 4)) ∧
  (∀ ty, (Instr.next (.pointer (some ⟨w.heap.size, 0, none⟩)) true ty).run Try.prog (w.iter ⟨#[4, 8, 16, 32]⟩ 4) = .ok (.tuple #[.bool false]) (w.iter ⟨#[4, 8, 16, 32]⟩ 4)) :=
  ⟨fun ty => run_next_ascii w ⟨#[4, 8, 16, 32]⟩ 0 ty (by decide) (by decide), fun ty => run_next_ascii w ⟨#[4, 8, 16, 32]⟩ 1 ty (by decide) (by decide),
   fun ty => run_next_ascii w ⟨#[4, 8, 16, 32]⟩ 2 ty (by decide) (by decide), fun ty => run_next_ascii w ⟨#[4, 8, 16, 32]⟩ 3 ty (by decide) (by decide),
   fun ty => run_next_end w ⟨#[4, 8, 16, 32]⟩ 4 ty (by decide)⟩

theorem classWords (k : Int) (w : World) : Calls Try.prog 84 #[.int .i64 k] w fun e w' => e = .returned (.int .i64 (cwords k)) ∧ Below w.heap.size w w' := by
  obtain ⟨n0, n1, n2, n3, n4⟩ := sizes_next w
  go_enter Try.func84, Try.ntmps84
  go_wp2
  go_rounds 5
  all_goals (go_ret; refine ⟨ret_int ?_, below_iter _ _ _⟩)
  all_goals (clear n0 n1 n2 n3 n4; simp only [beq_iff_eq, beq_eq_false_iff_ne, ne_eq] at *; unfold cwords; split <;> (try split) <;> (try split) <;> (try split) <;> omega)

theorem classOf (n : Int) (w : World) : Calls Try.prog 90 #[.int .i64 n] w fun e w' => e = .returned (.tuple #[.int .i64 (clsI n), .bool (clsB n)]) ∧ Below w.heap.size w w' := by
  obtain ⟨n0, n1, n2, n3, n4⟩ := sizes_next w
  go_enter Try.func90, Try.ntmps90
  go_wp2
  go_rounds 5
  all_goals (go_ret2; refine ⟨ret_ib ?_ ?_, below_iter _ _ _⟩)
  all_goals (clear n0 n1 n2 n3 n4; first | (unfold clsI; split <;> (try split) <;> (try split) <;> omega) | (unfold clsB; simp; omega))

theorem classSlots (k : Int) (w : World) : Calls Try.prog 79 #[.int .i64 k] w fun e w' => e = .returned (.int .i64 (cslots k)) ∧ Below w.heap.size w w' := by
  by_cases h : k = 0 ∨ k = 1 ∨ k = 2 ∨ k = 3
  · rcases h with rfl | rfl | rfl | rfl
    all_goals
      go_enter Try.func79, Try.ntmps79
      go_wp2_with (go_at_call 84; refine (classWords _ _).mono ?_; rintro e w' ⟨rfl, hb⟩; simp only [cwords])
      go_ret
      exact ⟨rfl, hb⟩
  · have hw : cwords k = 0 := by unfold cwords; split <;> (try split) <;> (try split) <;> (try split) <;> omega
    have hs : cslots k = 0 := by unfold cslots; split <;> (try split) <;> (try split) <;> (try split) <;> omega
    have HS := Lib.hid hs; clear hs h
    go_enter Try.func79, Try.ntmps79
    go_wp2_with (go_at_call 84; refine (classWords _ _).mono ?_; rintro e w' ⟨rfl, hb⟩)
    go_ret
    exact ⟨by rw [HS.out]; rfl, hb⟩

theorem below_boxed_iter (w : World) (o : Obj) (s : ByteArray) (p : Nat) : Below w.heap.size w ((w.alloc o).iter s p) := ((Below.refl _ _).alloc (Nat.le_refl _) _).alloc (by simp) _

theorem marks_next (w : World) (k : Nat) (l : List Bool) (p : Nat) (h : p < l.length) (hk : w.heap.size = k) (ty : TypeId) :
    (Instr.next (.pointer (some ⟨k, 0, none⟩)) true ty).run Try.prog (w.iter (marks l) p) = .ok (.tuple #[.bool true, .int .i64 p, .int .i32 (if l[p] then 120 else 45)]) (w.iter (marks l) (p + 1)) := by
  subst hk
  have := run_next_ascii (P := Try.prog) w (marks l) p ty (by simpa using h) (marks_ascii _ _ _)
  rw [marks_get] at this
  rw [this]
  cases l[p] <;> rfl
theorem marks_end (w : World) (k : Nat) (l : List Bool) (p : Nat) (h : ¬ p < l.length) (hk : w.heap.size = k) (ty : TypeId) :
    (Instr.next (.pointer (some ⟨k, 0, none⟩)) true ty).run Try.prog (w.iter (marks l) p) = .ok (.tuple #[.bool false]) (w.iter (marks l) p) := by
  subst hk
  exact run_next_end (P := Try.prog) w (marks l) p ty (by simpa using h)

theorem iterPos_iter (w : World) (k : Nat) (s : ByteArray) (p : Nat) (hk : w.heap.size = k) : (w.iter s p).iterPos k = p := by
  subst hk; exact iterPos_of (World.iter_heap w s p)

/-- the first free slot -/
theorem rowFirst (r : Row) (hl : r.used.length ≤ 8) (w : World) : Calls Try.prog 80 #[.agg #[.int .i64 r.cls, .string (marks r.used)], .int .i32 45] w fun e w' =>
    e = .returned (.tuple #[.int .i64 (rowFirstI r), .bool (rowFirstB r)]) ∧ Below w.heap.size w w' := by
  go_enter Try.func80, Try.ntmps80
  go_wp2
  go_loopw [6, 7] (fun _ _ wr => ∃ p : Nat, p ≤ r.used.length ∧ wr = (w.alloc (.cells #[.int .i64 r.cls, .string (marks r.used)] 112)).iter (marks r.used) p ∧ ∀ j, (hj : j < r.used.length) → j < p → r.used[j] = true) (fun _ _ wr => 8 - wr.iterPos (w.heap.size + 1))
  case atStart => exact ⟨0, by omega, rfl, fun _ _ h => by omega⟩
  case round =>
    obtain ⟨p, hp, rfl, ha⟩ := hrel
    have HA := Lib.hid ha; clear ha
    have hi := iterPos_iter (w.alloc (.cells #[.int .i64 r.cls, .string (marks r.used)] 112)) (w.heap.size + 1) (marks r.used) p (by simp)
    have hi' := iterPos_iter (w.alloc (.cells #[.int .i64 r.cls, .string (marks r.used)] 112)) (w.heap.size + 1) (marks r.used) (p + 1) (by simp)
    by_cases hlt : p < r.used.length
    · have hx := marks_next (w.alloc (.cells #[.int .i64 r.cls, .string (marks r.used)] 112)) (w.heap.size + 1) r.used p hlt (by simp)
      cases hu : r.used[p] with
      | true =>
        rw [hu] at hx
        have HU := Lib.hid hu; clear hu
        simp at hx
        go_wp2
        go_roundw
        case rel =>
          refine ⟨p + 1, by omega, rfl, fun j hj hjp => ?_⟩
          by_cases e : j = p
          · subst e; exact HU.out
          · exact HA.out j hj (by omega)
        case measure => rw [hi, hi']; omega
      | false =>
        rw [hu] at hx
        have HU := Lib.hid hu; clear hu
        simp at hx
        go_wp2
        go_ret2
        have e := firstFree_eq hlt (fun j hj => HA.out j (by omega) hj) HU.out
        exact ⟨ret_ib (by simp [rowFirstI, e, hlt]) (by simp [rowFirstB, e, hlt]), below_boxed_iter _ _ _ _⟩
    · have hx := marks_end (w.alloc (.cells #[.int .i64 r.cls, .string (marks r.used)] 112)) (w.heap.size + 1) r.used p hlt (by simp)
      go_wp2
      go_ret2
      have e := firstFree_ge (l := r.used) (Nat.le_refl _) (fun j hj => HA.out j hj (by omega))
      exact ⟨ret_ib (by simp [rowFirstI]; omega) (by simp [rowFirstB]; omega), below_boxed_iter _ _ _ _⟩

/-- how many slots are used -/
theorem rowCount_calls (r : Row) (hl : r.used.length ≤ 8) (w : World) : Calls Try.prog 83 #[.agg #[.int .i64 r.cls, .string (marks r.used)]] w fun e w' =>
    e = .returned (.int .i64 (rowCount r)) ∧ Below w.heap.size w w' := by
  go_enter Try.func83, Try.ntmps83
  go_wp2
  go_loopw [3] (fun n wr => ∃ p : Nat, p ≤ r.used.length ∧ wr = (w.alloc (.cells #[.int .i64 r.cls, .string (marks r.used)] 112)).iter (marks r.used) p ∧ n = .int .i64 ((r.used.take p).countP id : Nat)) (fun _ wr => 8 - wr.iterPos (w.heap.size + 1))
  case atStart => exact ⟨0, by omega, rfl, rfl⟩
  case round =>
    obtain ⟨p, hp, rfl, rfl⟩ := hrel
    have hi := iterPos_iter (w.alloc (.cells #[.int .i64 r.cls, .string (marks r.used)] 112)) (w.heap.size + 1) (marks r.used) p (by simp)
    have hi' := iterPos_iter (w.alloc (.cells #[.int .i64 r.cls, .string (marks r.used)] 112)) (w.heap.size + 1) (marks r.used) (p + 1) (by simp)
    have hc : (r.used.take p).countP id ≤ 8 := Nat.le_trans List.countP_le_length (by rw [List.length_take]; omega)
    by_cases hlt : p < r.used.length
    · have hx := marks_next (w.alloc (.cells #[.int .i64 r.cls, .string (marks r.used)] 112)) (w.heap.size + 1) r.used p hlt (by simp)
      have hs := countP_take_succ hlt
      cases hu : r.used[p] with
      | true =>
        rw [hu] at hx hs
        clear hu
        have HS := Lib.hid hs; clear hs
        simp at hx
        go_wp2
        go_roundw
        case rel => exact ⟨p + 1, by omega, rfl, by rw [HS.out]; go_num⟩
        case measure => rw [hi, hi']; omega
      | false =>
        rw [hu] at hx hs
        clear hu
        have HS := Lib.hid hs; clear hs
        simp at hx
        go_wp2
        go_roundw
        case rel => exact ⟨p + 1, by omega, rfl, by rw [HS.out]; go_num⟩
        case measure => rw [hi, hi']; omega
    · have hx := marks_end (w.alloc (.cells #[.int .i64 r.cls, .string (marks r.used)] 112)) (w.heap.size + 1) r.used p hlt (by simp)
      go_wp2
      go_ret
      exact ⟨ret_int (by rw [rowCount, List.take_of_length_le (by omega)]), below_boxed_iter _ _ _ _⟩
theorem bytes_ext {a b : ByteArray} (h : a.data.toList = b.data.toList) : a = b := by
  cases a; cases b; simp only [ByteArray.mk.injEq]; exact Array.toList_inj.1 h
theorem marks_set (l : List Bool) (j : Nat) (s : Bool) (hj : j < l.length) :
    (marks l).extract 0 j ++ Utf8.encode (if s then 120 else 45) ++ (marks l).extract (j + 1) l.length = marks (l.set j s) := by
  have e1 : (Utf8.encode (if s then 120 else 45)).data.toList = [if s then 120 else 45] := by cases s <;> rfl
  apply bytes_ext
  rw [ByteArray.data_append, ByteArray.data_append, Array.toList_append, Array.toList_append, e1]
  simp only [ByteArray.data_extract, marks, List.extract_toArray, List.drop_zero, Nat.sub_zero, List.extract_eq_take_drop]
  rw [List.set_eq_take_append_cons_drop, if_pos hj]
  simp [List.map_take, List.map_drop, List.take_of_length_le]

theorem rowTurn {w : World} {b e : Nat} {xs : List Value} (hA : Arr w b e xs) (o : Nat) (l : List Bool) (hx : xs[o + 1]? = some (.string (marks l))) (j : Nat) (hj : j < l.length) (hl : l.length ≤ 8) (s : Bool) :
    Calls Try.prog 81 #[.pointer (some ⟨b, o, none⟩), .int .i64 j, .int .i32 (if s then 120 else 45)] w fun e' w' =>
      e' = .returned (.tuple #[]) ∧ Arr w' b e (xs.set (o + 1) (.string (marks (l.set j s)))) ∧ Upd (· = b) w w' := by
  have c := hA.cell hx
  have fz := hA.frozen (o + 1)
  have hox : o + 1 < xs.length := (List.getElem?_eq_some_iff.1 hx).1
  have hset := hA.set hox (.string (marks (l.set j s)))
  have hupd : Upd (· = b) w (w.setCell ⟨b, o + 1, none⟩ (.string (marks (l.set j s)))) := upd_setCell _ _ _ _
  have HM := Lib.hid (marks_set l j s hj)
  have h1 : j ≤ l.length := by omega
  have h2 : j + 1 ≤ l.length := by omega
  have h3 : j < 8 := by omega
  have s1 : ((marks l).extract 0 j).size = j := by simp; omega
  have s3 : ((marks l).extract (j + 1) l.length).size = l.length - (j + 1) := by simp
  cases s
  · have s2 : (Utf8.encode 45).size = 1 := by decide
    clear hA hx
    simp only [Bool.false_eq_true, if_false] at *
    go_enter Try.func81, Try.ntmps81
    go_wp2
    go_region
    go_end0
    rw [HM.out]
    exact ⟨rfl, hset, hupd.drew⟩
  · have s2 : (Utf8.encode 120).size = 1 := by decide
    clear hA hx
    simp only [if_true] at *
    go_enter Try.func81, Try.ntmps81
    go_wp2
    go_region
    go_end0
    rw [HM.out]
    exact ⟨rfl, hset, hupd.drew⟩

/-- the cells of rows -/
def rowCells (sp : List Row) : List Value := sp.flatMap fun r => [.int .i64 r.cls, .string (marks r.used)]
theorem rowCells_length (sp : List Row) : (rowCells sp).length = 2 * sp.length := by
  induction sp with
  | nil => rfl
  | cons r sp ih => simp only [rowCells, List.flatMap_cons] at ih ⊢; simp [ih]; omega
theorem rowCells_get (sp : List Row) : ∀ (i : Nat) (r : Row), sp[i]? = some r → (rowCells sp)[i * 2]? = some (.int .i64 r.cls) ∧ (rowCells sp)[i * 2 + 1]? = some (.string (marks r.used)) := by
  induction sp with
  | nil => intro i r h; simp at h
  | cons r sp ih =>
    intro i q h
    cases i with
    | zero => simp at h; subst h; simp [rowCells]
    | succ i =>
      have := ih i q (by simpa using h)
      simp only [rowCells, List.flatMap_cons] at this ⊢
      have e1 : (i + 1) * 2 = i * 2 + 2 := by omega
      rw [e1]
      simpa using this
theorem rowCells_set (sp : List Row) : ∀ (i : Nat) (r : Row) (u : List Bool), sp[i]? = some r → (rowCells sp).set (i * 2 + 1) (.string (marks u)) = rowCells (sp.set i ⟨r.cls, u⟩) := by
  induction sp with
  | nil => intro i r u h; simp at h
  | cons r sp ih =>
    intro i q u h
    cases i with
    | zero => simp at h; subst h; simp [rowCells]
    | succ i =>
      have := ih i q u (by simpa using h)
      have e2 : (i + 1) * 2 + 1 = (i * 2 + 1) + 1 + 1 := by omega
      simp only [rowCells, List.flatMap_cons] at this ⊢
      rw [e2]
      simp [this]
theorem rowCells_set2 (sp : List Row) : ∀ (i : Nat) (r : Row), i < sp.length → ((rowCells sp).set (i * 2) (.int .i64 r.cls)).set (i * 2 + 1) (.string (marks r.used)) = rowCells (sp.set i r) := by
  induction sp with
  | nil => intro i r h; simp at h
  | cons q sp ih =>
    intro i r h
    cases i with
    | zero => simp [rowCells]
    | succ i =>
      have := ih i r (by simpa using h)
      have e1 : (i + 1) * 2 = i * 2 + 1 + 1 := by omega
      have e2 : (i + 1) * 2 + 1 = (i * 2 + 1) + 1 + 1 := by omega
      simp only [rowCells, List.flatMap_cons] at this ⊢
      rw [e1]
      simp [this]

/-- spans at block ps, their rows in block br -/
structure IsSpans (w : World) (ps br : Nat) (sp : List Row) : Prop where
  head : ∃ cap, Arr w ps 110 [.slice (some ⟨br, 0, none⟩) sp.length cap] ∧ sp.length ≤ cap ∧ cap ≤ maxLen
  rows : Arr w br 112 (rowCells sp)
  ne : ps ≠ br
  ok : ∀ r ∈ sp, r.ok
  len : sp.length ≤ 128

theorem spClass {w : World} {ps br : Nat} {sp : List Row} (hs : IsSpans w ps br sp) (i : Int) : Calls Try.prog 16 #[.pointer (some ⟨ps, 0, none⟩), .int .i64 i] w fun e w' =>
    e = .returned (.int .i64 (spCls sp i)) ∧ w = w' := by
  obtain ⟨cap, hh, hc1, hc2⟩ := hs.head
  have c0 := hh.cell (j := 0) rfl
  have hl := hs.len
  unfold maxLen at hc2
  by_cases h0 : 0 ≤ i
  · obtain ⟨i, rfl⟩ := Int.eq_ofNat_of_zero_le h0
    by_cases h1 : i < sp.length
    · have hr : sp[i]? = some sp[i] := List.getElem?_eq_getElem h1
      have c1 := hs.rows.cell (rowCells_get sp i _ hr).1
      have hres : spCls sp i = sp[i].cls := by simp [spCls, hr]
      have HR := Lib.hid hres
      clear hres hr h0
      go_enter Try.func16, Try.ntmps16
      go_wp2
      go_ret
      exact ⟨by rw [HR.out]; rfl, rfl⟩
    · have hres : spCls sp i = -1 := by simp [spCls, h1]
      have HR := Lib.hid hres
      clear hres h0
      go_enter Try.func16, Try.ntmps16
      go_wp2
      go_ret
      exact ⟨by rw [HR.out]; rfl, rfl⟩
  · have hres : spCls sp i = -1 := by simp [spCls]; omega
    have HR := Lib.hid hres
    clear hres
    go_enter Try.func16, Try.ntmps16
    go_wp2
    go_ret
    exact ⟨by rw [HR.out]; rfl, rfl⟩

theorem spLen {w : World} {ps br : Nat} {sp : List Row} (hs : IsSpans w ps br sp) : Calls Try.prog 78 #[.pointer (some ⟨ps, 0, none⟩)] w fun e w' =>
    e = .returned (.int .i64 sp.length) ∧ w = w' := by
  obtain ⟨cap, hh, hc1, hc2⟩ := hs.head
  have c0 := hh.cell (j := 0) rfl
  have hl := hs.len
  unfold maxLen at hc2
  go_enter Try.func78, Try.ntmps78
  go_wp2
  go_ret
  exact ⟨rfl, rfl⟩

theorem spUsed_calls {w : World} {ps br : Nat} {sp : List Row} (hs : IsSpans w ps br sp) (i s : Int) : Calls Try.prog 18 #[.pointer (some ⟨ps, 0, none⟩), .int .i64 i, .int .i64 s] w fun e w' =>
    e = .returned (.bool (spUsed sp i s)) ∧ Below w.heap.size w w' := by
  obtain ⟨cap, hh, hc1, hc2⟩ := hs.head
  have c0 := hh.cell (j := 0) rfl
  have hl := hs.len
  unfold maxLen at hc2
  have hcls := spClass hs i
  by_cases hn : spCls sp i = -1
  · have hres : spUsed sp i s = false := by
      unfold spUsed; unfold spCls at hn
      split
      · rename_i h0; rw [if_pos h0] at hn
        split <;> rename_i h1 <;> rw [h1] at hn
        · have := hs.ok _ (List.mem_of_getElem? h1)
          rcases this with ⟨_, h⟩ | ⟨h, _⟩
          · simp [h]
          · simp only at hn; omega
      · rfl
    have HR := Lib.hid hres
    rw [hn] at hcls
    clear hres hn
    go_enter Try.func18, Try.ntmps18
    go_wp2_with (go_at_call 16; refine hcls.mono ?_; rintro e w' ⟨rfl, rfl⟩)
    go_ret
    exact ⟨by rw [HR.out]; rfl, Below.refl _ _⟩
  have hne : (spCls sp i == -1) = false := by simpa using hn
  have h0 : 0 ≤ i := by apply Classical.byContradiction; intro h; exact hn (by simp [spCls, h])
  obtain ⟨i, rfl⟩ := Int.eq_ofNat_of_zero_le h0
  have h1 : i < sp.length := by apply Classical.byContradiction; intro h; exact hn (by simp [spCls, h])
  have hr : sp[i]? = some sp[i] := List.getElem?_eq_getElem h1
  have c1 := hs.rows.cell (rowCells_get sp i _ hr).2
  have hres : spUsed sp i s = (decide (0 ≤ s) && sp[i].used.getD s.toNat false) := by simp [spUsed, hr]
  have hul := (hs.ok _ (List.getElem_mem h1)).le
  have hbr := hs.rows.lt
  rw [hres]
  generalize hu : sp[i].used = u at *
  clear hres hn hr hu hs hh h0
  generalize spCls sp i = cc at *
  by_cases hs0 : s < 0
  · have HR : Hid ((decide (0 ≤ s) && u.getD s.toNat false) = false) := Lib.hid (by simp; omega)
    go_enter Try.func18, Try.ntmps18
    go_wp2_with (go_at_call 16; refine hcls.mono ?_; rintro e w' ⟨rfl, rfl⟩)
    go_ret
    exact ⟨by rw [HR.out]; rfl, Below.refl _ _⟩
  obtain ⟨s, rfl⟩ := Int.eq_ofNat_of_zero_le (show 0 ≤ s by omega)
  have hfin : (decide (0 ≤ (s : Int)) && u.getD (s : Int).toNat false) = u.getD s false := by simp
  obtain ⟨g, hg⟩ : ∃ g, u.getD s false = g := ⟨_, rfl⟩
  rw [hfin, hg]
  have HG := Lib.hid hg; clear hg hfin
  go_enter Try.func18, Try.ntmps18
  go_wp2_with (go_at_call 16; refine hcls.mono ?_; rintro e w' ⟨rfl, rfl⟩)
  go_loopw [7, 8] (fun _ _ wr => ∃ p : Nat, p ≤ u.length ∧ wr = w.iter (marks u) p ∧ p ≤ s) (fun _ _ wr => 8 - wr.iterPos w.heap.size)
  case atStart => exact ⟨0, by omega, rfl, by omega⟩
  case round =>
    obtain ⟨p, hp, rfl, hps⟩ := hrel
    have hi := iterPos_iter w w.heap.size (marks u) p rfl
    have hi' := iterPos_iter w w.heap.size (marks u) (p + 1) rfl
    by_cases hlt : p < u.length
    · have hx := marks_next w w.heap.size u p hlt rfl
      by_cases e : p = s
      · subst e
        have hg : u[p] = g := by have := HG.out; simpa [hlt] using this
        rw [hg] at hx; clear hg
        cases g <;> simp at hx
        all_goals
          go_wp2
          go_ret
          exact ⟨rfl, below_iter _ _ _⟩
      · have hb : ((p : Int) == s) = false := by rw [beq_eq_false_iff_ne]; omega
        go_wp2
        go_roundw
        case rel => exact ⟨p + 1, by omega, rfl, by omega⟩
        case measure => rw [hi, hi']; omega
    · have hx := marks_end w w.heap.size u p hlt rfl
      go_wp2
      go_ret
      have hg : false = g := by rw [← HG.out]; simp [List.getElem?_eq_none (show u.length ≤ s by omega)]
      exact ⟨ret_bool hg, below_iter _ _ _⟩

/-- region 5: a row is loaded, counted, its class's words -/
theorem spWords_calls {w : World} {ps br : Nat} {sp : List Row} (hs : IsSpans w ps br sp) : Calls Try.prog 20 #[.pointer (some ⟨ps, 0, none⟩)] w fun e w' =>
    e = .returned (.int .i64 (spWords sp)) ∧ Below w.heap.size w w' := by
  obtain ⟨cap, hh, hc1, hc2⟩ := hs.head
  have hl := hs.len
  unfold maxLen at hc2
  have hpl := hh.lt
  have hbl := hs.rows.lt
  have hlen := (spLen hs)
  go_enter Try.func20, Try.ntmps20
  go_wp2_with (go_at_call 78; refine hlen.mono ?_; rintro e w' ⟨rfl, rfl⟩)
  go_loopw [3, 4, 7] (fun n _ i wr => ∃ k : Nat, k ≤ sp.length ∧ i = .int .i64 k ∧ n = .int .i64 (spWords (sp.take k)) ∧ Below w.heap.size w wr) (fun _ _ i _ => sp.length - (intOf i).toNat)
  case atStart => exact ⟨0, by omega, rfl, rfl, Below.refl _ _⟩
  case round =>
    obtain ⟨k, hk, rfl, rfl, hb⟩ := hrel
    by_cases hlt : k < sp.length
    · have hr : sp[k]? = some sp[k] := List.getElem?_eq_getElem hlt
      have c0 : wr.cell? ⟨ps, 0, none⟩ = _ := (hb.cell hpl).trans (hh.cell (j := 0) rfl)
      have c1 : wr.cell? ⟨br, k * 2, none⟩ = _ := (hb.cell hbl).trans (hs.rows.cell (rowCells_get sp k _ hr).1)
      have c2 : wr.cell? ⟨br, k * 2 + 1, none⟩ = _ := (hb.cell hbl).trans (hs.rows.cell (rowCells_get sp k _ hr).2)
      clear hr
      have hs1 := spWords_take_succ hlt
      have hb1 := spWords_bd (sp := sp.take k) (fun r hr => hs.ok r (List.mem_of_mem_take hr))
      have hb2 := rowWords_bd (hs.ok _ (List.getElem_mem hlt))
      have hl1 : (sp.take k).length ≤ 128 := by simp; omega
      have HW1 : Hid (IntKind.i64.wrap (↑(rowCount sp[k]) * cwords sp[k].cls) = rowWords sp[k]) := by
        show _ = _
        unfold rowWords at hb2 ⊢
        exact IntWalk.i64_in _ (by omega)
      have HW2 : Hid (IntKind.i64.wrap (spWords (sp.take k) + rowWords sp[k]) = spWords (sp.take k) + rowWords sp[k]) := IntWalk.i64_in _ (by omega)
      have HS := Lib.hid hs1
      clear hs1 hb1 hb2 hl1
      have hk := fun (wx : World) (hx : Below wr.heap.size wr wx) => And.intro ((hx.cell (p := ⟨ps, 0, none⟩) (Nat.lt_of_lt_of_le hpl hb.size)).trans c0) (And.intro ((hx.cell (p := ⟨br, k * 2, none⟩) (Nat.lt_of_lt_of_le hbl hb.size)).trans c1) ((hx.cell (p := ⟨br, k * 2 + 1, none⟩) (Nat.lt_of_lt_of_le hbl hb.size)).trans c2))
      have HK := Lib.hid hk; clear hk
      go_wp2
      go_region_held3 (fun w' => w'.cell? ⟨ps, 0, none⟩ = some (.slice (some ⟨br, 0, none⟩) sp.length cap) ∧ w'.cell? ⟨br, k * 2, none⟩ = some (.int .i64 sp[k].cls) ∧ w'.cell? ⟨br, k * 2 + 1, none⟩ = some (.string (marks sp[k].used)))
        (first | exact ⟨c0, c1, c2⟩ | exact HK.out _ (below_undrew (by assumption)) | exact HK.out _ (below_then (below_undrew (by assumption)) (by assumption)))
        (first | (go_at_call 83; refine (rowCount_calls sp[k] (hs.ok _ (List.getElem_mem hlt)).le _).mono ?_; rintro e w1 ⟨rfl, hb1⟩) | (go_at_call 84; refine (classWords _ _).mono ?_; rintro e w2 ⟨rfl, hb2⟩))
      rw [HW1.out, HW2.out]
      have hb' := below_then hb (below_then (below_undrew hb1) hb2)
      go_wp2
      go_roundw
      case rel => exact ⟨k + 1, by omega, by go_num, by rw [HS.out], hb'⟩
      case measure => simp [intOf]; omega
    · go_wp2
      go_ret
      exact ⟨ret_int (by rw [List.take_of_length_le (by omega)]), hb⟩


/-- which row has a free slot of a class; which has no class -/
theorem info_row : (Try.prog.info? 112).map (fun i => (i.zero, i.size, i.bytes)) = some (some (.agg #[.int .i64 0, .string ⟨#[]⟩]), 2, 24) := by kernel_rfl

def SpNewPost (n : Nat) (w : World) (e : Ending) (w' : World) : Prop :=
  ∃ ps br, e = .returned (.tuple #[.pointer (some ⟨ps, 0, none⟩), .int .i64 0]) ∧ IsSpans w' ps br (List.replicate n ⟨-1, []⟩) ∧ w.heap.size ≤ ps ∧ w.heap.size ≤ br ∧ Below w.heap.size w w'

set_option maxRecDepth 100000 in
theorem spNew (n : Nat) (h2 : 2 ≤ n) (h128 : n ≤ 128) (w : World) : Calls Try.prog 13 #[.int .i64 n] w (SpNewPost n w) := by
  obtain ⟨i0, hi, hz0, hz1, hz2⟩ := info_parts info_row
  go_enter Try.func13, Try.ntmps13
  go_wp2
  go_loopw [14] (fun i wr => ∃ (k : Nat) (v : Value), k ≤ n ∧ i = .int .i64 k ∧ Arr wr w.heap.size 110 [v] ∧ wr.ownsRow (w.heap.size + 1) 112 2 v k (rowCells (List.replicate k ⟨-1, []⟩)) ∧ Below w.heap.size w wr ∧ w.heap.size + 1 ≤ wr.heap.size) (fun i _ => n - (intOf i).toNat)
  case atStart => exact ⟨0, _, by omega, rfl, Arr.made w _ _, World.ownsRow_nil _ _ _ _, (Below.refl _ _).alloc (Nat.le_refl _) _, by simp⟩
  case round =>
    obtain ⟨k, v, hk, rfl, hA, hown, hb, hsz⟩ := hrel
    have c0 := hA.cell (j := 0) rfl
    have f0 := hA.frozen 0
    by_cases hlt : k < n
    · go_wp2_with (at_builtin; refine wpList_append_own _ rfl _ _ 108 rfl (w.heap.size + 1) 112 i0 (.agg #[.int .i64 0, .string ⟨#[]⟩]) 2 24 Try.underlying108 hi hz0 hz1 hz2 rfl (by decide) _ _ _ rfl (hown.alloc _) ⟨wr.heap.size, 0, none⟩ 1 1 [.int .i64 (-1), .string ⟨#[]⟩] rfl rfl ?c1 ?c2 ?c3 ?c4 ?c5 ?_)
      case c1 => exact news_made wr _ [.int .i64 (-1), .string ⟨#[]⟩]
      case c2 => intro u hu; simp at hu; rcases hu with rfl | rfl <;> rfl
      case c3 => unfold maxLen; omega
      case c4 => omega
      case c5 => simp; omega
      intro v' w1 hown' hgrow hiff
      have hA1 : Arr w1 w.heap.size 110 [v] := (hA.alloc _).same (hgrow.block _ (by simp; omega) (owns_row_ne hown (by omega)))
      have c1 := hA1.cell (j := 0) rfl
      have f1 := hA1.frozen 0
      obtain ⟨g, cap, hv, hg1, hg2, hg3⟩ := owns_shape hown' (by omega)
      have hb1 := (hb.alloc hb.size _).grown hgrow (by simp; omega) (fun k hk => by have := (hown.lt k hk).1; omega)
      have hs1 := hgrow.size
      clear hiff hgrow hA hown c0 f0
      rw [hv] at hown' ⊢
      clear hv
      go_wp2
      go_roundw
      case rel =>
        refine ⟨k + 1, _, by omega, by go_num, hA1.set (by simp) _, ?_, hb1.setCell (Nat.le_refl _) _, ?_⟩
        · have := ownsRow_setCell_below hown' (a := ⟨w.heap.size, 0, none⟩) (by simp) (.slice (some ⟨g, 0, none⟩) (k + 1) cap)
          rw [List.replicate_succ']
          have e : rowCells (List.replicate k ⟨-1, []⟩ ++ [⟨-1, []⟩]) = rowCells (List.replicate k ⟨-1, []⟩) ++ [.int .i64 (-1), .string ⟨#[]⟩] := by simp [rowCells]; rfl
          rw [e]; exact this
        · simp at hs1 ⊢; omega
      case measure => simp [intOf]; omega
    · obtain rfl : k = n := by omega
      obtain ⟨g, cap, hv, hg1, hg2, hg3⟩ := owns_shape hown (by omega)
      subst hv
      have hrows : IsSpans wr w.heap.size g (List.replicate k ⟨-1, []⟩) := ⟨⟨cap, by simpa using hA, by simpa using hg2, hg3⟩, Arr.of_owns hown, by omega, fun r hr => by rw [List.eq_of_mem_replicate hr]; exact .inl ⟨rfl, rfl⟩, by simpa using h128⟩
      clear hA hown c0 f0
      go_wp2
      go_ret2
      exact ⟨_, g, rfl, hrows, Nat.le_refl _, by omega, hb⟩
end Go.Proofs.Ytccaegiceneegaa
