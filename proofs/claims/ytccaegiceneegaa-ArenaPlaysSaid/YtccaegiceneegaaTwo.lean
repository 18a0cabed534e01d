/- What the two arenas hold alike, and the pieces of a law's code. No conditions. -/
import Derived.Test.YtccaegiceneegaaAw7
import Derived.Test.YtccaegiceneegaaClose
namespace Go.Proofs.Ytccaegiceneegaa
open Go.RowKit

theorem below_cell {w w' : World} (hb : Below w.heap.size w w') {a : Addr} (ha : a.block < w.heap.size) : w'.cell? a = w.cell? a := by
  unfold World.cell?
  rw [hb.block _ ha]

theorem turnN (n : Int) : ∃ N : Nat, 2 ≤ N ∧ N ≤ 7 ∧ wrap64 (2 + wrap64 ((IntKind.u64.wrap n).tmod 6)) = (N : Int) := by
  have h0 : 0 ≤ IntKind.u64.wrap n := by simp [IntKind.wrap, IntKind.signed, IntKind.bits]; omega
  have h1 : (IntKind.u64.wrap n).tmod 6 = (IntKind.u64.wrap n) % 6 := Int.tmod_eq_emod_of_nonneg h0
  rw [h1]
  have h2 : 0 ≤ (IntKind.u64.wrap n) % 6 ∧ (IntKind.u64.wrap n) % 6 < 6 := by omega
  generalize (IntKind.u64.wrap n) % 6 = r at *
  obtain ⟨r, rfl⟩ := Int.eq_ofNat_of_zero_le h2.1
  refine ⟨2 + r, by omega, by omega, ?_⟩
  have e1 : wrap64 (r : Int) = r := IntWalk.wrap64_in _ (by omega)
  rw [e1]
  have e2 : wrap64 (2 + (r : Int)) = 2 + r := IntWalk.wrap64_in _ (by omega)
  rw [e2]
  simp

theorem turnAt (n : Int) (xs : List Int) (h : 1 ≤ xs.length) (h2 : xs.length ≤ 4096) : ∃ x : Nat, x < xs.length ∧ wrap64 ((IntKind.u64.wrap n).tmod (xs.length : Int)) = (x : Int) := by
  have h0 : 0 ≤ IntKind.u64.wrap n := by simp [IntKind.wrap, IntKind.signed, IntKind.bits]; omega
  rw [Int.tmod_eq_emod_of_nonneg h0]
  have h3 := Int.emod_nonneg (IntKind.u64.wrap n) (b := (xs.length : Int)) (by omega)
  have h4 := Int.emod_lt_of_pos (IntKind.u64.wrap n) (b := (xs.length : Int)) (by omega)
  obtain ⟨r, hr⟩ := Int.eq_ofNat_of_zero_le h3
  rw [hr] at h4 ⊢
  exact ⟨r, by omega, IntWalk.wrap64_in _ (by omega)⟩
/-- both arenas hold the same -/
structure Two (w0 w : World) (pa ps br bl ra rs rc rl rw : Nat) (st : Ar) : Prop where
  A : IsArena w pa ps br bl st
  R : IsRArena w ra rs rc rl rw st
  B : Below w0.heap.size w0 w
  l1 : w0.heap.size ≤ pa
  l2 : w0.heap.size ≤ ps
  l3 : w0.heap.size ≤ br
  l4 : w0.heap.size ≤ bl
  mid : ∃ M, pa < M ∧ ps < M ∧ br < M ∧ bl < M ∧ M ≤ ra ∧ M ≤ rs ∧ M ≤ rc ∧ M ≤ rl ∧ M ≤ rw
theorem Two.below {w0 w w' : World} {pa ps br bl ra rs rc rl rw : Nat} {st : Ar} (h : Two w0 w pa ps br bl ra rs rc rl rw st) (hb : Below w.heap.size w w') : Two w0 w' pa ps br bl ra rs rc rl rw st :=
  ⟨h.A.below hb, h.R.below hb, below_then h.B hb, h.l1, h.l2, h.l3, h.l4, h.mid⟩
theorem Two.apart {w0 w : World} {pa ps br bl ra rs rc rl rw : Nat} {st : Ar} (h : Two w0 w pa ps br bl ra rs rc rl rw st) {bx : Nat} (hb : w.heap.size ≤ bx) : ¬ arB br bl bx ∧ ¬ arR rc rl rw bx := by
  obtain ⟨W, hW, _⟩ := h.R.words
  have q1 := h.A.spans.rows.lt
  have q2 := h.A.cells.lt
  have q3 := h.R.spans.cls.lt
  have q4 := h.R.spans.slots.lt
  have q5 := hW.lt
  exact ⟨by rintro (e | e) <;> omega, by rintro (e | e | e) <;> omega⟩
theorem Two.first {w0 w w' : World} {pa ps br bl ra rs rc rl rw : Nat} {st : Ar} (h : Two w0 w pa ps br bl ra rs rc rl rw st) (hu : Upd (arB br bl) w w') : IsRArena w' ra rs rc rl rw st := by
  obtain ⟨M, m1, m2, m3, m4, m5, m6, m7, m8, m9⟩ := h.mid
  exact h.R.upd hu (by rintro (e | e) <;> omega) (by rintro (e | e) <;> omega) (by rintro (e | e) <;> omega) (by rintro (e | e) <;> omega) (by rintro (e | e) <;> omega)
theorem Two.turn {w0 w w1 w2 : World} {pa ps br bl ra rs rc rl rw : Nat} {st st' : Ar} (h : Two w0 w pa ps br bl ra rs rc rl rw st) (hu : Upd (arB br bl) w w1) (hA : IsArena w1 pa ps br bl st') (hv : Upd (arR rc rl rw) w1 w2) (hR : IsRArena w2 ra rs rc rl rw st') : Two w0 w2 pa ps br bl ra rs rc rl rw st' := by
  have hM := h.mid
  obtain ⟨M, m1, m2, m3, m4, m5, m6, m7, m8, m9⟩ := h.mid
  have q1 := h.l1
  have q2 := h.l2
  have q3 := h.l3
  have q4 := h.l4
  refine ⟨hA.upd hv (by rintro (e | e | e) <;> omega) (by rintro (e | e | e) <;> omega) (by rintro (e | e | e) <;> omega) (by rintro (e | e | e) <;> omega), hR, ?_, q1, q2, q3, q4, hM⟩
  exact Upd.belowOf (Upd.belowOf h.B hu (by rintro k (e | e) <;> omega)) hv (by rintro k (e | e | e) <;> omega)

/-- a part of a function's code, by its path -/
def Code.sub : Code → List Nat → Code
  | c, [] => c
  | c, n :: r => match c with
    | .seq a b => if n = 0 then Code.sub a r else Code.sub b r
    | .cond _ a b => if n = 0 then Code.sub a r else Code.sub b r
    | .block _ a => Code.sub a r
    | .loop a => Code.sub a r
    | .scope a => Code.sub a r
    | c => c
/-- a round's state: both arenas, and the op's box -/
structure Rnd (w0 w : World) (pa ps br bl ra rs rc rl rw : Nat) (st : Ar) (bx : Nat) (kd k0 n0 t0 j0 v0 : Int) : Prop where
  T : Two w0 w pa ps br bl ra rs rc rl rw st
  x : Arr w bx 48 [.int .i64 kd, .int .i64 k0, .int .i64 n0, .int .i64 t0, .int .i64 j0, .int .i64 v0]
  h : w0.heap.size ≤ bx
  n1 : ¬ arB br bl bx
  n2 : ¬ arR rc rl rw bx
theorem Rnd.below {w0 w w' : World} {pa ps br bl ra rs rc rl rw : Nat} {st : Ar} {bx : Nat} {kd k0 n0 t0 j0 v0 : Int} (h : Rnd w0 w pa ps br bl ra rs rc rl rw st bx kd k0 n0 t0 j0 v0) (hb : Below w.heap.size w w') : Rnd w0 w' pa ps br bl ra rs rc rl rw st bx kd k0 n0 t0 j0 v0 :=
  ⟨h.T.below hb, h.x.belowAll hb, h.h, h.n1, h.n2⟩
theorem Rnd.turn {w0 w w1 w2 : World} {pa ps br bl ra rs rc rl rw : Nat} {st st' : Ar} {bx : Nat} {kd k0 n0 t0 j0 v0 : Int} (h : Rnd w0 w pa ps br bl ra rs rc rl rw st bx kd k0 n0 t0 j0 v0) (hu : Upd (arB br bl) w w1) (hA : IsArena w1 pa ps br bl st') (hv : Upd (arR rc rl rw) w1 w2) (hR : IsRArena w2 ra rs rc rl rw st') : Rnd w0 w2 pa ps br bl ra rs rc rl rw st' bx kd k0 n0 t0 j0 v0 :=
  ⟨h.T.turn hu hA hv hR, hv.arr (hu.arr h.x h.n1) h.n2, h.h, h.n1, h.n2⟩
theorem Rnd.turnBox {w0 w : World} {pa ps br bl ra rs rc rl rw : Nat} {st : Ar} {bx : Nat} {kd k0 n0 t0 j0 v0 : Int} (h : Rnd w0 w pa ps br bl ra rs rc rl rw st bx kd k0 n0 t0 j0 v0) (v : Value) : Two w0 (w.setCell ⟨bx, 3, none⟩ v) pa ps br bl ra rs rc rl rw st := by
  have hu := upd_setCell w bx 3 v
  have q := h.x
  have hA := h.T.A
  have hR := h.T.R
  obtain ⟨x0, hx0, _⟩ := hA.spans.head
  obtain ⟨y0, y1, hy0, _⟩ := hR.spans.head
  obtain ⟨W, hW, _⟩ := hR.words
  have ne : ∀ {b e : Nat} {xs : List Value}, Arr w b e xs → e ≠ 48 → b ≠ bx := by
    intro b e xs hb he e2
    subst e2
    obtain ⟨m1, h1⟩ := hb
    obtain ⟨m2, h2⟩ := q
    rw [h1] at h2
    simp only [Option.some.injEq, Obj.cells.injEq] at h2
    exact he h2.2.1
  refine ⟨hA.upd hu (ne hA.head (by decide)) (ne hx0 (by decide)) (ne hA.spans.rows (by decide)) (ne hA.cells (by decide)), hR.upd hu (ne hR.head (by decide)) (ne hy0 (by decide)) (ne hR.spans.cls (by decide)) (ne hR.spans.slots (by decide)) (ne hW (by decide)), ?_, h.T.l1, h.T.l2, h.T.l3, h.T.l4, h.T.mid⟩
  exact Upd.belowOf h.T.B hu (by rintro k rfl; exact h.h)
theorem Rnd.drew {w0 w : World} {pa ps br bl ra rs rc rl rw : Nat} {st : Ar} {bx : Nat} {kd k0 n0 t0 j0 v0 : Int} (h : Rnd w0 w pa ps br bl ra rs rc rl rw st bx kd k0 n0 t0 j0 v0) : Rnd w0 w.drew pa ps br bl ra rs rc rl rw st bx kd k0 n0 t0 j0 v0 := h.below (Below.refl _ w).drew
theorem Rnd.cells {w0 w : World} {pa ps br bl ra rs rc rl rw : Nat} {st : Ar} {bx : Nat} {kd k0 n0 t0 j0 v0 : Int} (h : Rnd w0 w pa ps br bl ra rs rc rl rw st bx kd k0 n0 t0 j0 v0) :
    w.cell? ⟨bx, 3, none⟩ = some (.int .i64 t0) ∧ w.cell? ⟨ra, 0, none⟩ = some (.pointer (some ⟨rs, 0, none⟩)) ∧ w.cell? ⟨ra, 1, none⟩ = some (.slice (some ⟨rw, 0, none⟩) st.cells.length st.cells.length) :=
  ⟨h.x.cell (j := 3) rfl, h.T.R.head.cell (j := 0) rfl, h.T.R.head.cell (j := 1) rfl⟩
end Go.Proofs.Ytccaegiceneegaa
