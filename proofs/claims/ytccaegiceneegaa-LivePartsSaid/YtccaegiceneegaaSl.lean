/- Slices of whole numbers that lie in a row of a call's own, from some place on: read, cut, appended to. No conditions. -/
import Derived.Test.YtccaegiceneegaaBase
import Derived.Deep.AppendSrc
namespace Go.Proofs.Ytccaegiceneegaa
open Go.RowKit

theorem setCells_heap (g : Nat) (e : TypeId) (fz : Nat × Nat) : ∀ (vs : List Value) (o : Nat) (w : World) (cur : Array Value), w.heap[g]? = some (.cells cur e fz) → o + vs.length ≤ cur.size →
    (w.setCells g o vs).heap[g]? = some (.cells (cur.toList.take o ++ vs ++ cur.toList.drop (o + vs.length)).toArray e fz) ∧ (w.setCells g o vs).heap.size = w.heap.size ∧ (∀ k, k ≠ g → (w.setCells g o vs).heap[k]? = w.heap[k]?) ∧ (w.setCells g o vs).os = w.os ∧ (w.setCells g o vs).tape = w.tape ∧ (w.setCells g o vs).output = w.output := by
  intro vs
  induction vs with
  | nil =>
    intro o w cur h _
    refine ⟨?_, rfl, fun _ _ => rfl, rfl, rfl, rfl⟩
    simpa [World.setCells] using h
  | cons v vs ih =>
    intro o w cur h hl
    simp only [List.length_cons] at hl
    have h1 : (w.setCell ⟨g, o, none⟩ v).heap[g]? = some (.cells (cur.setIfInBounds o v) e fz) := by
      simp [World.setCell, Array.getElem?_modify, h]
    obtain ⟨a1, a2, a3, a4, a5, a6⟩ := ih (o + 1) (w.setCell ⟨g, o, none⟩ v) (cur.setIfInBounds o v) h1 (by simp; omega)
    refine ⟨?_, by rw [World.setCells, a2]; simp [World.setCell], fun k hk => by rw [World.setCells, a3 k hk]; exact Below.heap_setCell _ _ _ _ hk, by rw [World.setCells, a4]; rfl, by rw [World.setCells, a5]; rfl, by rw [World.setCells, a6]; rfl⟩
    rw [World.setCells, a1]
    congr 3
    simp only [Array.toList_setIfInBounds, List.length_cons]
    have ho : o < cur.toList.length := by simp; omega
    rw [List.take_add_one, List.getElem?_set_self ho, List.take_set_of_le (Nat.le_refl _), List.drop_set_of_lt (by omega)]
    have e5 : o + 1 + vs.length = o + (vs.length + 1) := by omega
    rw [e5]
    simp

/-- the value is a slice of these numbers, in a row of O (from some place on), which nothing else holds -/
def IntSv (w : World) (O : Nat → Prop) (v : Value) (xs : List Int) : Prop :=
  (xs = [] ∧ v = .slice none 0 0) ∨ ∃ g off cap cur, v = .slice (some ⟨g, off, none⟩) xs.length cap ∧ O g ∧ w.heap[g]? = some (.cells cur 3 (0, 0)) ∧ xs.length ≤ cap ∧ cap ≤ maxLen ∧ off + cap ≤ cur.size ∧ (cur.toList.drop off).take xs.length = ints xs

theorem IntSv.nil (w : World) (O : Nat → Prop) : IntSv w O (.slice none 0 0) [] := .inl ⟨rfl, rfl⟩
theorem IntSv.upd {w w' : World} {O : Nat → Prop} {v : Value} {xs : List Int} (h : IntSv w O v xs) {S : Nat → Prop} (hu : Upd S w w') (hs : ∀ k, O k → ¬ S k) : IntSv w' O v xs := by
  rcases h with h | ⟨g, off, cap, cur, h1, h2, h3, h4⟩
  · exact .inl h
  · exact .inr ⟨g, off, cap, cur, h1, h2, by rw [hu.block g (Array.getElem?_eq_some_iff.1 h3).1 (hs g h2)]; exact h3, h4⟩
theorem IntSv.below {w w' : World} {O : Nat → Prop} {v : Value} {xs : List Int} (h : IntSv w O v xs) (hb : Below w.heap.size w w') : IntSv w' O v xs := h.upd (Upd.of_below (S := fun _ => False) hb) (fun _ _ h => h)
theorem IntSv.mono {w : World} {O O' : Nat → Prop} {v : Value} {xs : List Int} (h : IntSv w O v xs) (hs : ∀ k, O k → O' k) : IntSv w O' v xs := by
  rcases h with h | ⟨g, off, cap, cur, h1, h2, h3⟩
  · exact .inl h
  · exact .inr ⟨g, off, cap, cur, h1, hs g h2, h3⟩
theorem IntSv.cell {w : World} {g off : Nat} {xs : List Int} {cur : Array Value} (h3 : w.heap[g]? = some (.cells cur 3 (0, 0))) (h4 : (cur.toList.drop off).take xs.length = ints xs) {j : Nat} {x : Int} (hj : xs[j]? = some x) : w.cell? ⟨g, off + j, none⟩ = some (.int .i64 x) := by
  have hl : j < xs.length := (List.getElem?_eq_some_iff.1 hj).1
  have : (ints xs)[j]? = some (.int .i64 x) := by simp [ints, hj]
  rw [← h4, List.getElem?_take_of_lt hl, List.getElem?_drop] at this
  simp only [World.cell?, h3]
  simpa using this
/-- shape, for a walk: nil, or an address with its cells -/
theorem IntSv.shape {w : World} {O : Nat → Prop} {v : Value} {xs : List Int} (h : IntSv w O v xs) : (xs = [] ∧ v = .slice none 0 0) ∨ ∃ g off cap, v = .slice (some ⟨g, off, none⟩) xs.length cap ∧ O g ∧ xs.length ≤ cap ∧ cap ≤ 9223372036854775807 ∧ g < w.heap.size ∧ ∀ j x, xs[j]? = some x → w.cell? ⟨g, off + j, none⟩ = some (.int .i64 x) := by
  rcases h with h | ⟨g, off, cap, cur, h1, h2, h3, h4, h5, h6, h7⟩
  · exact .inl h
  · exact .inr ⟨g, off, cap, h1, h2, h4, by unfold maxLen at h5; omega, (Array.getElem?_eq_some_iff.1 h3).1, fun j x hj => IntSv.cell h3 h7 hj⟩
theorem IntSv.of_sl {w : World} {base : Nat} {v : Value} {xs : List Int} (h : IntSl w base v xs) : IntSv w (fun k => base ≤ k) v xs := by
  rcases h.2 with ⟨hv, hn⟩ | ⟨g, cap, cur, hv, hb, hh, hn, hm, hs, ht⟩
  · exact .inl ⟨List.eq_nil_of_length_eq_zero hn, hv⟩
  · exact .inr ⟨g, 0, cap, cur, hv, hb, hh, hn, hm, by omega, by simpa using ht⟩
/-- the front, the rest -/
theorem IntSv.rest {w : World} {O : Nat → Prop} {g off cap : Nat} {x : Int} {xs : List Int} (h : IntSv w O (.slice (some ⟨g, off, none⟩) (x :: xs).length cap) (x :: xs)) : IntSv w O (.slice (some ⟨g, off + 1, none⟩) xs.length (cap - 1)) xs := by
  rcases h with ⟨h, _⟩ | ⟨g', off', cap', cur, h1, h2, h3, h4, h5, h6, h7⟩
  · cases h
  · cases h1
    simp only [List.length_cons] at h4 h7
    refine .inr ⟨g, off + 1, cap - 1, cur, rfl, h2, h3, by omega, by omega, by omega, ?_⟩
    have h8 := congrArg (List.drop 1) h7
    rw [List.drop_take, List.drop_drop] at h8
    simpa [ints] using h8
theorem IntSv.rest_end {w : World} {O : Nat → Prop} {g off cap : Nat} {x : Int} {xs : List Int} (h : IntSv w O (.slice (some ⟨g, off, none⟩) (x :: xs).length cap) (x :: xs)) (h1 : cap = 1) : xs = [] ∧ IntSv w O (.slice (some ⟨g, off, none⟩) 0 0) [] := by
  rcases h with ⟨h, _⟩ | ⟨g', off', cap', cur, e1, h2, h3, h4, h5, h6, h7⟩
  · cases h
  · cases e1
    simp only [List.length_cons] at h4
    exact ⟨List.eq_nil_of_length_eq_zero (by omega), .inr ⟨g, off, 0, cur, rfl, h2, h3, by simp, by unfold maxLen; omega, by omega, by simp [ints]⟩⟩
theorem IntSv.front {w : World} {O : Nat → Prop} {g off cap : Nat} {xs : List Int} (h : IntSv w O (.slice (some ⟨g, off, none⟩) xs.length cap) xs) (n : Nat) (hn : n ≤ xs.length) : IntSv w O (.slice (some ⟨g, off, none⟩) n cap) (xs.take n) := by
  have hl : (xs.take n).length = n := by simp; omega
  rcases h with ⟨rfl, h⟩ | ⟨g', off', cap', cur, h1, h2, h3, h4, h5, h6, h7⟩
  · cases h
  · cases h1
    refine .inr ⟨g, off, cap, cur, by rw [hl], h2, h3, by omega, h5, h6, ?_⟩
    rw [hl]
    have := congrArg (List.take n) h7
    rw [List.take_take] at this
    rw [show min n xs.length = n by omega] at this
    rw [this]; simp [ints, List.map_take]

/-- what is appended -/
theorem src_of_sv {w : World} {O : Nat → Prop} {v : Value} {xs : List Int} (h : IntSv w O v xs) {t : TypeId} (ht : Try.prog.underlying t = some (.slice 3)) : Src Try.prog 1 t v xs.length (ints xs) w := by
  rcases h with ⟨rfl, rfl⟩ | ⟨g, off, cap, cur, rfl, h2, h3, h4, h5, h6, h7⟩
  · exact Src.ofNil w ht 0
  · refine Src.ofSlice w ht _ _ _ _ (by simp) (fun j u hu => ?_) (fun u hu => ?_)
    · rw [Addr.add_lit]
      simp only [ints, List.getElem?_map, Option.map_eq_some_iff] at hu
      obtain ⟨x, hx, rfl⟩ := hu
      exact IntSv.cell h3 h7 hx
    · simp only [ints, List.mem_map] at hu
      obtain ⟨x, _, rfl⟩ := hu; rfl
theorem src_one (w : World) (x : Int) {a : Addr} {c : Nat} (hc : w.cell? a = some (.int .i64 x)) {t : TypeId} (ht : Try.prog.underlying t = some (.slice 3)) : Src Try.prog 1 t (.slice (some a) 1 c) [x].length (ints [x]) w := by
  refine Src.ofSlice w ht _ _ _ _ (by simp) (fun j u hu => ?_) (fun u hu => ?_)
  · have : j = 0 := by have := (List.getElem?_eq_some_iff.1 hu).1; simp at this; omega
    subst this
    simp [ints] at hu; subst hu
    simpa [Addr.add] using hc
  · simp only [ints, List.map_cons, List.map_nil, List.mem_singleton] at hu; subst hu; rfl

theorem IntSv.append {w : World} {O : Nat → Prop} {v : Value} {xs : List Int} (h : IntSv w O v xs) {t : TypeId} (ht : Try.prog.underlying t = some (.slice 3)) {x : Value} {ys : List Int} (hs : Src Try.prog 1 t x ys.length (ints ys) w) (hb : xs.length + ys.length ≤ 1000000000) (ty : TypeId) :
    ∃ v' w', (Builtin.append_ #[t, t] ty #[v, x]).run Try.prog w = .ok v' w' ∧ IntSv w' (fun k => O k ∨ k = w.heap.size) v' (xs ++ ys) ∧ Upd O w w' ∧ w'.heap.size ≤ w.heap.size + 1 := by
  obtain ⟨i0, hi, hz0, hz1, hz2⟩ := info_parts info_int
  have grow : ∀ (base : Option Addr) (cap : Nat), v = .slice base xs.length cap → cap < xs.length + ys.length → (Builtin.firstCells i0.size xs.length (.slice base xs.length cap)).run Try.prog w.drew = .ok (ints xs).toArray w.drew →
      ∃ v' w', (Builtin.append_ #[t, t] ty #[v, x]).run Try.prog w = .ok v' w' ∧ IntSv w' (fun k => O k ∨ k = w.heap.size) v' (xs ++ ys) ∧ Upd O w w' ∧ w'.heap.size ≤ w.heap.size + 1 := by
    intro base cap hv hcap hold
    subst hv
    have hr := run_append_grow_src (P := Try.prog) w t t ty 3 i0 (.int .i64 0) ht hi hz0 base xs.length cap (ints xs) hold x ys.length (ints ys) (by rw [hz1]; exact hs) hcap (by omega) (by rw [hz2]; exact growslice_fits hcap (by omega))
    have hge := grownCap_ge w (xs.length + ys.length) cap 3
    have hle := grownCap_le_maxLen w (xs.length + ys.length) cap 3 (by unfold maxLen; omega)
    have hzc : (Builtin.zeroCells (Value.int .i64 0).cells (grownCap w (xs.length + ys.length) cap 3 - (xs.length + ys.length))).size = grownCap w (xs.length + ys.length) cap 3 - (xs.length + ys.length) := by rw [size_zeroCells]; simp [Value.cells]
    refine ⟨_, _, hr, .inr ⟨w.heap.size, 0, _, _, by rw [List.length_append], .inr rfl, heap_alloc_new w.drew _, by rw [List.length_append]; exact hge, hle, ?_, ?_⟩, ⟨rfl, rfl, rfl, by simp, fun k hk _ => heap_alloc_old w.drew _ hk⟩, by simp⟩
    · rw [Array.size_append, hzc]; simp; omega
    · simp only [List.drop_zero, Array.toList_append, List.length_append]
      have e1 : (ints xs ++ ints ys) = ints (xs ++ ys) := by simp [ints]
      rw [e1, List.take_left' (by simp)]
  rcases h with ⟨rfl, rfl⟩ | ⟨g, off, cap, cur, rfl, h2, h3, h4, h5, h6, h7⟩
  · by_cases hy : ys.length = 0
    · have hy0 : ys = [] := List.eq_nil_of_length_eq_zero hy
      subst hy0
      refine ⟨.slice none 0 0, w, ?_, .inl ⟨rfl, rfl⟩, Upd.refl _ _, by omega⟩
      have hc := hs.cells
      have hn := hs.len
      simp only [List.length_nil] at hc hn
      rcases hs.kind with ⟨e', hk⟩ | hk
      · simp [Builtin.append_, run_underlying ht, sizeOf, typeInfo, hi, hz1, hn, hc]
      · rw [ht] at hk; cases hk
    · exact grow none 0 (by simp) (by simp; omega) (run_firstCells_none w.drew _ _ _ _)
  · by_cases hroom : xs.length + ys.length ≤ cap
    · have hsz : off + xs.length + (ints ys).length ≤ cur.size := by simp; omega
      obtain ⟨a1, a2, a3, a4, a5, a6⟩ := setCells_heap g 3 (0, 0) (ints ys) (off + xs.length) w cur h3 hsz
      have hr := run_append_room_src (P := Try.prog) w t t ty 3 i0 ht hi g off xs.length cap x ys.length (ints ys) (by rw [hz1]; exact hs) hroom
        (fun j hj => by rw [hz1, Nat.mul_one]; simp only [World.cell?, h3]; simp at hj; simp; omega) (fun j _ => by simp [World.frozen?, h3])
      rw [hz1, Nat.mul_one] at hr
      refine ⟨_, _, hr, .inr ⟨g, off, cap, _, by rw [List.length_append], .inl h2, a1, by rw [List.length_append]; exact hroom, h5, ?_, ?_⟩, ⟨a4, a5, a6, by rw [a2]; exact Nat.le_refl _, fun k _ hk => a3 k (fun e => hk (e ▸ h2))⟩, by rw [a2]; omega⟩
      · simp only [List.size_toArray, List.length_append, List.length_take, List.length_drop, Array.length_toList, ints_length]; simp at hsz; omega
      · simp only [List.length_append]
        have e1 : (cur.toList.take (off + xs.length)).length = off + xs.length := by simp; simp at hsz; omega
        rw [List.append_assoc, List.drop_append_of_le_length (by rw [e1]; omega), List.drop_take, Nat.add_sub_cancel_left, h7, ← List.append_assoc]
        have e2 : (ints xs ++ ints ys) = ints (xs ++ ys) := by simp [ints]
        rw [e2, List.take_left' (by simp)]
    · refine grow (some ⟨g, off, none⟩) cap rfl (by omega) ?_
      rw [hz1]
      refine run_firstCells_some w.drew 1 _ _ _ _ (ints xs) (by simp) (fun j u hu => ?_)
      rw [Addr.add_lit]
      simp only [ints, List.getElem?_map, Option.map_eq_some_iff] at hu
      obtain ⟨y, hy, rfl⟩ := hu
      exact IntSv.cell (w := w) h3 h7 hy

/-- .. at the operation, for the walk -/
theorem wpList_append_sv (w : World) {ops : Array Oper} {rest : List Oper} {o : Oper} {a : Act} {Q : Exit → Act → World → Prop} (hgd : o.guard = none) (s x : Operand) (t : TypeId) (ht : Try.prog.underlying t = some (.slice 3))
    (ho : o.op = .call { callee := .builtin .append, args := #[s, x], argTypes := #[t, t] }) (O : Nat → Prop) (v : Value) (xs : List Int) (hs : a.eval s = v) (hown : IntSv w O v xs)
    (xv : Value) (ys : List Int) (hx : a.eval x = xv) (hsrc : Src Try.prog 1 t xv ys.length (ints ys) w) (hb : xs.length + ys.length ≤ 1000000000)
    (h : ∀ v' w', IntSv w' (fun k => O k ∨ k = w.heap.size) v' (xs ++ ys) → Upd O w w' → w'.heap.size ≤ w.heap.size + 1 → wpList Try.prog ops Q rest (a.put o.dst v') w') : wpList Try.prog ops Q (o :: rest) a w :=
  wpList_plain hgd fun _ hK => by
    obtain ⟨v', w', hr, h2, h3, h4⟩ := hown.append ht hsrc hb o.type
    unfold Oper.wp execOp
    simp only [ho, resolve, invoke, builtin, Sem.run_bind, Sem.run_pure, Result.andThen_ok, List.map_toArray, List.map_cons, List.map_nil, hs, hx, hr]
    exact hK _ _ (h v' w' h2 h3 h4)

/-- a row of whole numbers -/
def IntRow (w : World) (k : Nat) : Prop := ∃ cur, w.heap[k]? = some (.cells cur 3 (0, 0))
theorem IntSv.rows {w : World} {O : Nat → Prop} {v : Value} {xs : List Int} (h : IntSv w O v xs) : IntSv w (fun k => O k ∧ IntRow w k) v xs := by
  rcases h with h | ⟨g, off, cap, cur, h1, h2, h3, h4⟩
  · exact .inl h
  · exact .inr ⟨g, off, cap, cur, h1, ⟨h2, cur, h3⟩, h3, h4⟩
theorem Arr.notRow {w : World} {b e : Nat} {xs : List Value} (h : Arr w b e xs) (he : e ≠ 3) : ¬ IntRow w b := by
  rintro ⟨cur, hc⟩
  obtain ⟨m, h⟩ := h
  rw [h] at hc
  simp only [Option.some.injEq, Obj.cells.injEq] at hc
  exact he hc.2.1
theorem Arr.apart {w : World} {b b' e e' : Nat} {xs ys : List Value} (h : Arr w b e xs) (h' : Arr w b' e' ys) (he : e ≠ e') : b ≠ b' := by
  rintro rfl
  obtain ⟨m, h⟩ := h
  obtain ⟨m', h'⟩ := h'
  rw [h] at h'
  simp only [Option.some.injEq, Obj.cells.injEq] at h'
  exact he h'.2.1
end Go.Proofs.Ytccaegiceneegaa
