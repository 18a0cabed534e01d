/- Base lemmas of this seat's proofs: arrays of cells in the heap, what a call may turn (Upd), and small lemmas on endings. No conditions. -/
import Derived.Test.YtccaegiceneegaaProg
import Derived.WalkKit
import Derived.WalkSpells
import Derived.WalkLawsBesides
import Derived.Handy
import Derived.Outline
import Derived.Lib.Hide
import Derived.Laws.RangeString
import Derived.Deep.QuietTactic
import Derived.BigQuiet
import Derived.BigRegion
import Derived.Deep.RegionHeld3
import Derived.Deep.RegionWith
import Derived.Maps.OwnSet
namespace Go.Proofs.Ytccaegiceneegaa
open Go.RowKit

/-! ### endings -/
theorem ret_int {k : IntKind} {a b : Int} (h : a = b) : Ending.returned (.int k a) = .returned (.int k b) := by rw [h]
theorem ret_bool {a b : Bool} (h : a = b) : Ending.returned (.bool a) = .returned (.bool b) := by rw [h]
theorem ret_ib {a b : Int} {c d : Bool} (h : a = b) (h' : c = d) : Ending.returned (.tuple #[.int .i64 a, .bool c]) = .returned (.tuple #[.int .i64 b, .bool d]) := by rw [h, h']
theorem ret_ii {a b c d : Int} (h : a = b) (h' : c = d) : Ending.returned (.tuple #[.int .i64 a, .int .i64 c]) = .returned (.tuple #[.int .i64 b, .int .i64 d]) := by rw [h, h']

/-! ### rows of cells: block b holds the values xs first, and is not frozen -/
def Arr (w : World) (b e : Nat) (xs : List Value) : Prop := ∃ more : List Value, w.heap[b]? = some (.cells (xs ++ more).toArray e (0, 0))

theorem Arr.lt {w : World} {b e : Nat} {xs : List Value} (h : Arr w b e xs) : b < w.heap.size := by
  obtain ⟨m, h⟩ := h
  exact (Array.getElem?_eq_some_iff.1 h).1
theorem Arr.cell {w : World} {b e : Nat} {xs : List Value} (h : Arr w b e xs) {j : Nat} {v : Value} (hj : xs[j]? = some v) : w.cell? ⟨b, j, none⟩ = some v := by
  obtain ⟨m, h⟩ := h
  simp only [World.cell?, h]
  have hl : j < xs.length := by rw [List.getElem?_eq_some_iff] at hj; exact hj.1
  simp [List.getElem?_append_left hl, hj]
theorem Arr.frozen {w : World} {b e : Nat} {xs : List Value} (h : Arr w b e xs) (j : Nat) : w.frozen? ⟨b, j, none⟩ = false := by
  obtain ⟨m, h⟩ := h
  simp [World.frozen?, h]
theorem Arr.same {w w' : World} {b e : Nat} {xs : List Value} (h : Arr w b e xs) (hb : w'.heap[b]? = w.heap[b]?) : Arr w' b e xs := by
  obtain ⟨m, h⟩ := h
  exact ⟨m, hb.trans h⟩
theorem Arr.set {w : World} {b e : Nat} {xs : List Value} (h : Arr w b e xs) {j : Nat} (hj : j < xs.length) (v : Value) : Arr (w.setCell ⟨b, j, none⟩ v) b e (xs.set j v) := by
  obtain ⟨m, h⟩ := h
  refine ⟨m, ?_⟩
  simp only [World.setCell, Array.getElem?_modify, if_true, h, Option.map_some]
  simp [List.set_append_left _ _ hj]
theorem Arr.other {w : World} {b e : Nat} {xs : List Value} (h : Arr w b e xs) {a : Addr} (ha : a.block ≠ b) (v : Value) : Arr (w.setCell a v) b e xs :=
  h.same (Below.heap_setCell _ _ _ _ (fun e => ha e.symm))
theorem Arr.alloc {w : World} {b e : Nat} {xs : List Value} (h : Arr w b e xs) (o : Obj) : Arr (w.alloc o) b e xs :=
  h.same (Below.heap_alloc _ _ _ h.lt)
theorem Arr.drew {w : World} {b e : Nat} {xs : List Value} (h : Arr w b e xs) : Arr w.drew b e xs := h
theorem Arr.drewN {w : World} {b e : Nat} {xs : List Value} (h : Arr w b e xs) (n : Nat) : Arr (w.drewN n) b e xs := h
theorem Arr.shorter {w : World} {b e : Nat} {xs : List Value} (h : Arr w b e xs) (n : Nat) : Arr w b e (xs.take n) := by
  obtain ⟨m, h⟩ := h
  exact ⟨xs.drop n ++ m, by rw [← List.append_assoc, List.take_append_drop]; exact h⟩
theorem Arr.front {w : World} {b e : Nat} {xs ys : List Value} (h : Arr w b e (xs ++ ys)) : Arr w b e xs := by
  obtain ⟨m, h⟩ := h
  exact ⟨ys ++ m, by rw [← List.append_assoc]; exact h⟩
theorem Arr.made (w : World) (e : Nat) (xs : List Value) : Arr (w.alloc (.cells xs.toArray e)) w.heap.size e xs := ⟨[], by rw [List.append_nil]; exact heap_alloc_new w _⟩
theorem Arr.of_owns {w : World} {base e size : Nat} {b n cap m : Nat} {xs : List Value} (h : w.ownsRow base e size (.slice (some ⟨b, 0, none⟩) n cap) m xs) : Arr w b e xs := by
  rcases h.2 with ⟨h, _⟩ | ⟨g, cap', cur, hv, _, hh, _, _, hs, ht⟩
  · cases h
  · cases hv
    refine ⟨cur.toList.drop (n * size), ?_⟩
    rw [hh, ← ht, List.take_append_drop]

theorem news_made (wr : World) (e : Nat) (xs : List Value) : ∀ j u, xs[j]? = some u → (wr.alloc (.cells xs.toArray e)).cell? ((⟨wr.heap.size, 0, none⟩ : Addr).add j) = some u := by
  intro j u hu
  rw [Addr.add_lit, Nat.zero_add]
  exact (Arr.made wr e xs).cell hu
theorem owns_shape {w : World} {base e size : Nat} {v : Value} {n : Nat} {xs : List Value} (h : w.ownsRow base e size v n xs) (h0 : 0 < n) : ∃ g cap, v = .slice (some ⟨g, 0, none⟩) n cap ∧ base ≤ g ∧ n ≤ cap ∧ cap ≤ maxLen := by
  rcases h.2 with ⟨_, h⟩ | ⟨g, cap, cur, hv, hb, _, hn, hm, _⟩
  · omega
  · exact ⟨g, cap, hv, hb, hn, hm⟩
theorem owns_row_ne {w : World} {base e size : Nat} {v : Value} {n : Nat} {xs : List Value} (h : w.ownsRow base e size v n xs) {b : Nat} (hb : b < base) : some b ≠ v.ownBlock := by
  intro e
  have := (h.lt b e.symm).1
  omega

/-! ### what a call may turn: blocks of S, and new ones -/
structure Upd (S : Nat → Prop) (w w' : World) : Prop where
  os : w'.os = w.os
  tape : w'.tape = w.tape
  output : w'.output = w.output
  size : w.heap.size ≤ w'.heap.size
  block : ∀ k, k < w.heap.size → ¬ S k → w'.heap[k]? = w.heap[k]?
theorem Upd.refl (S : Nat → Prop) (w : World) : Upd S w w := ⟨rfl, rfl, rfl, Nat.le_refl _, fun _ _ _ => rfl⟩
theorem Upd.trans {S T : Nat → Prop} {a b c : World} (h : Upd S a b) (k : Upd T b c) (ht : ∀ i, T i → S i ∨ a.heap.size ≤ i) : Upd S a c :=
  ⟨k.os.trans h.os, k.tape.trans h.tape, k.output.trans h.output, Nat.le_trans h.size k.size, fun i hi hs =>
    (k.block i (Nat.lt_of_lt_of_le hi h.size) (fun hT => (ht i hT).elim hs (fun hh => absurd hi (Nat.not_lt.2 hh)))).trans (h.block i hi hs)⟩
theorem Upd.then {S : Nat → Prop} {a b c : World} (h : Upd S a b) (k : Upd S b c) : Upd S a c := h.trans k (fun _ h => .inl h)
theorem Upd.mono {S T : Nat → Prop} {w w' : World} (h : Upd S w w') (hs : ∀ i, S i → T i ∨ w.heap.size ≤ i) : Upd T w w' :=
  ⟨h.os, h.tape, h.output, h.size, fun i hi ht => h.block i hi (fun hS => (hs i hS).elim ht (fun hh => absurd hi (Nat.not_lt.2 hh)))⟩
theorem Upd.of_below {S : Nat → Prop} {w w' : World} (h : Below w.heap.size w w') : Upd S w w' := ⟨h.os, h.tape, h.output, h.size, fun k hk _ => h.block k hk⟩
theorem Upd.below {w w' : World} {S : Nat → Prop} (h : Upd S w w') {B : Nat} (hB : B ≤ w.heap.size) (hs : ∀ i, S i → B ≤ i) : Below B w w' :=
  ⟨h.os, h.tape, h.output, h.size, fun k hk => h.block k (by omega) (fun hS => absurd (hs k hS) (by omega))⟩
theorem Upd.drew {S : Nat → Prop} {a w : World} (h : Upd S a w) : Upd S a w.drew := ⟨h.os, h.tape, h.output, h.size, h.block⟩
theorem Upd.drewN {S : Nat → Prop} {a w : World} (h : Upd S a w) (n : Nat) : Upd S a (w.drewN n) := ⟨h.os, h.tape, h.output, h.size, h.block⟩
theorem Upd.alloc {S : Nat → Prop} {a w : World} (h : Upd S a w) (o : Obj) : Upd S a (w.alloc o) :=
  h.then ⟨rfl, rfl, rfl, by simp, fun k hk _ => Below.heap_alloc _ _ _ hk⟩
theorem Upd.setCell {S : Nat → Prop} {a w : World} (h : Upd S a w) {p : Addr} (hp : S p.block ∨ a.heap.size ≤ p.block) (u : Value) : Upd S a (w.setCell p u) :=
  h.trans (T := fun i => i = p.block) ⟨rfl, rfl, rfl, by simp [World.setCell], fun k _ hk => Below.heap_setCell _ _ _ _ hk⟩ (fun i hi => by subst hi; exact hp)
theorem Upd.grown {S : Nat → Prop} {a w w' : World} {row : Option Nat} (h : Upd S a w) (hg : w.grownBy w' row) (hr : ∀ k, row = some k → S k ∨ a.heap.size ≤ k) : Upd S a w' :=
  h.trans (T := fun i => row = some i) ⟨hg.os, hg.tape, hg.output, hg.size, fun k hk hn => hg.block k hk (fun e => hn e.symm)⟩ (fun i hi => hr i hi)
theorem Upd.arr {S : Nat → Prop} {w w' : World} (h : Upd S w w') {b e : Nat} {xs : List Value} (ha : Arr w b e xs) (hb : ¬ S b) : Arr w' b e xs := ha.same (h.block b ha.lt hb)
theorem Upd.grownBy {S : Nat → Prop} {w w' : World} (h : Upd S w w') {row : Option Nat} (hs : ∀ i, S i → row = some i ∨ w.heap.size ≤ i) : w.grownBy w' row :=
  ⟨h.os, h.tape, h.output, h.size, fun k hk hr => h.block k hk (fun hS => (hs k hS).elim (fun e => hr e.symm) (fun hh => absurd hk (Nat.not_lt.2 hh)))⟩
theorem upd_setCell (w : World) (b o : Nat) (v : Value) : Upd (fun k => k = b) w (w.setCell ⟨b, o, none⟩ v) := Upd.setCell (S := fun k => k = b) (Upd.refl _ w) (p := ⟨b, o, none⟩) (Or.inl rfl) v
theorem Arr.below {w w' : World} {b e : Nat} {xs : List Value} (h : Arr w b e xs) {B : Nat} (hb : Below B w w') (hB : b < B) : Arr w' b e xs := h.same (hb.block b hB)
theorem Arr.belowAll {w w' : World} {b e : Nat} {xs : List Value} (h : Arr w b e xs) (hb : Below w.heap.size w w') : Arr w' b e xs := h.same (hb.block b h.lt)
/-! ### slices of whole numbers that a call made -/
theorem info_int : (Try.prog.info? 3).map (fun i => (i.zero, i.size, i.bytes)) = some (some (.int .i64 0), 1, 8) := by kernel_rfl
def ints (xs : List Int) : List Value := xs.map (Value.int .i64)
@[simp] theorem ints_length (xs : List Int) : (ints xs).length = xs.length := by simp [ints]
def IntSl (w : World) (base : Nat) (v : Value) (xs : List Int) : Prop := w.ownsRow base 3 1 v xs.length (ints xs)
theorem IntSl.nil (w : World) (base : Nat) : IntSl w base (.slice none 0 0) [] := World.ownsRow_nil _ _ _ _
theorem IntSl.shape {w : World} {base : Nat} {v : Value} {xs : List Int} (h : IntSl w base v xs) : (xs = [] ∧ v = .slice none 0 0) ∨ ∃ g cap, v = .slice (some ⟨g, 0, none⟩) xs.length cap ∧ base ≤ g ∧ xs.length ≤ cap ∧ cap ≤ maxLen ∧ Arr w g 3 (ints xs) := by
  rcases h.2 with ⟨hv, hn⟩ | ⟨g, cap, cur, hv, hb, hh, hn, hm, hs, ht⟩
  · exact .inl ⟨List.eq_nil_of_length_eq_zero hn, hv⟩
  · exact .inr ⟨g, cap, hv, hb, hn, hm, by subst hv; exact Arr.of_owns h⟩
theorem IntSl.same {w w' : World} {base : Nat} {v : Value} {xs : List Int} (h : IntSl w base v xs) {S : Nat → Prop} (hu : Upd S w w') (hs : ∀ k, S k → k < base) : IntSl w' base v xs := by
  refine ⟨h.1, ?_⟩
  rcases h.2 with hn | ⟨g, cap, cur, hv, hb, hh, r⟩
  · exact .inl hn
  · refine .inr ⟨g, cap, cur, hv, hb, ?_, r⟩
    rw [hu.block g (Array.getElem?_eq_some_iff.1 hh).1 (fun hS => absurd (hs g hS) (by omega))]; exact hh
theorem IntSl.below {w w' : World} {base : Nat} {v : Value} {xs : List Int} (h : IntSl w base v xs) (hb : Below w.heap.size w w') : IntSl w' base v xs := h.same (Upd.of_below (S := fun _ => False) hb) (fun _ h => h.elim)
theorem IntSl.of_snoc {w : World} {base : Nat} {v : Value} {xs : List Int} {x : Int} {n : Nat} (h : w.ownsRow base 3 1 v n (ints xs ++ [.int .i64 x])) (hn : n = xs.length + 1) : IntSl w base v (xs ++ [x]) := by
  subst hn
  simpa [IntSl, ints] using h
theorem IntSl.lt {w : World} {base : Nat} {v : Value} {xs : List Int} (h : IntSl w base v xs) {k : Nat} (hk : v.ownBlock = some k) : base ≤ k ∧ k < w.heap.size := World.ownsRow.lt h k hk

theorem below_then {w a b : World} (h : Below w.heap.size w a) (k : Below a.heap.size a b) : Below w.heap.size w b := h.trans (k.mono h.size)
theorem below_then' {w a b : World} {B : Nat} (h : Below B w a) (k : Below a.heap.size a b) (hB : B ≤ w.heap.size := by exact Nat.le_refl _) : Below B w b := h.trans (k.mono (Nat.le_trans hB h.size))
theorem below_undrew {w a : World} (h : Below w.drew.heap.size w.drew a) : Below w.heap.size w a := (Below.refl w.heap.size w).drew.trans h
theorem below_iter (w : World) (s : ByteArray) (p : Nat) : Below w.heap.size w (w.iter s p) := (Below.refl _ _).alloc (Nat.le_refl _) _

end Go.Proofs.Ytccaegiceneegaa
