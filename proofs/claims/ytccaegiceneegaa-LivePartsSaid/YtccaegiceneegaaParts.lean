/- What can be reached, in parts: plain laws; and whole numbers that came in, cell by cell. No conditions. -/
import Derived.Test.YtccaegiceneegaaRd
import Derived.Test.YtccaegiceneegaaRLiveC
import Derived.Test.YtccaegiceneegaaLiveNil
namespace Go.Proofs.Ytccaegiceneegaa
open Go.ChangeShapes Go.WideShapes Go.ChangeAt Go.RowKit

theorem Rch.app {st : Ar} {a b : List Int} {i : Int} : Rch st (a ++ b) i ↔ Rch st a i ∨ Rch st b i := by
  constructor
  · intro h
    induction h with
    | root h1 h2 => exact (List.mem_append.1 h1).imp (fun h => .root h h2) (fun h => .root h h2)
    | step _ h1 h2 ih => exact ih.imp (fun h => .step h h1 h2) (fun h => .step h h1 h2)
  · rintro (h | h)
    · induction h with
      | root h1 h2 => exact .root (List.mem_append_left _ h1) h2
      | step _ h1 h2 ih => exact .step ih h1 h2
    · induction h with
      | root h1 h2 => exact .root (List.mem_append_right _ h1) h2
      | step _ h1 h2 ih => exact .step ih h1 h2
theorem rchB_app (st : Ar) (a b : List Int) (p : Nat) : rchB st (a ++ b) p = (rchB st a p || rchB st b p) := by
  rw [Bool.eq_iff_iff, Bool.or_eq_true, rchB_iff, rchB_iff, rchB_iff, Rch.app]
theorem mem_castL {l : List Nat} {p : Nat} : (p : Int) ∈ castL l ↔ p ∈ l := by
  unfold castL
  rw [List.mem_map]
  constructor
  · rintro ⟨q, hq, e⟩
    rwa [show p = q by omega]
  · intro h; exact ⟨p, h, rfl⟩
theorem mem_lost {st : Ar} {roots : List Int} {p : Nat} (hp : p ∈ arObjs st) : decide ((p : Int) ∈ castL (lostL st roots)) = !rchB st roots p := by
  rw [Bool.eq_iff_iff, decide_eq_true_iff, mem_castL, lostL, List.mem_filter]
  exact ⟨fun h => h.2, fun h => ⟨hp, h⟩⟩
theorem reachL_idem (st : Ar) (roots : List Int) : reachL st (castL (reachL st roots)) = reachL st roots := by
  unfold reachL
  refine List.filter_congr fun p hp => ?_
  rw [Bool.eq_iff_iff, rchB_iff]
  constructor
  · intro h
    suffices ∀ i, Rch st (castL ((arObjs st).filter (rchB st roots))) i → Rch st roots i from rchB_iff.2 (this _ h)
    intro i hi
    induction hi with
    | root h1 h2 =>
      rename_i j
      unfold castL at h1
      obtain ⟨q, hq, rfl⟩ := List.mem_map.1 h1
      exact rchB_iff.1 (List.mem_filter.1 hq).2
    | step _ h1 h2 ih => exact .step ih h1 h2
  · intro h
    exact .root (mem_castL.2 (List.mem_filter.2 ⟨hp, h⟩)) (arObjs_mem hp).2
theorem reachL_nil (st : Ar) : reachL st [] = [] := by
  unfold reachL
  rw [List.filter_eq_nil_iff]
  intro p _ h
  suffices ∀ i, Rch st [] i → False from this _ (rchB_iff.1 h)
  intro i hi
  induction hi with
  | root h1 _ => cases h1
  | step _ _ _ ih => exact ih

/-- whole numbers that came in, cell by cell -/
def InInts (w : World) (a : Option Addr) (xs : List Int) : Prop := xs ≠ [] → ∃ b : Addr, a = some b ∧ b.block < w.heap.size ∧ ∀ (j : Nat) (x : Int), xs[j]? = some x → w.cell? (b.add j) = some (.int .i64 x)
set_option maxRecDepth 100000 in
theorem open_in {H : Type} {enc : TypeId × Value → H} {W : World} {t e : TypeId} {v : Value} {d : DataW H} {ps : List MemPlace} (ht : Try.prog.underlying t = some (.slice e)) (he : Try.prog.underlying e = some (.int .i64)) (hC : Try.prog.cellsOf e = 1) (hv : Value.okWide Try.prog W .any 0 t v) (h : DataW.Trod enc Try.prog W 0 (fun _ => true) true t v d ps) :
    ∃ (a : Option Addr) (n cap : Nat) (xs : List Int), v = .slice a n cap ∧ xs.length = n ∧ RdInts W v xs ∧ (∀ x ∈ xs, fitsW x) ∧ InInts W a xs ∧ (n : Int) ≤ 9223372036854775807 := by
  obtain ⟨a0, len, cap, rfl⟩ := okWide_slice ht hv
  obtain ⟨fuel, hf⟩ := h
  rcases open_ints ht he hC hf with ⟨hcs, _⟩ | ⟨a, len', cap', zs, hcs, _, hl, hm, hzl, _, hcell, hwf⟩
  · simp [Value.cells] at hcs
    obtain ⟨rfl, rfl, rfl⟩ := hcs
    exact ⟨_, _, _, [], rfl, rfl, rd_nil W, (fun x hx => by cases hx), (fun hn => absurd rfl hn), by omega⟩
  · simp [Value.cells] at hcs
    obtain ⟨rfl, rfl, rfl⟩ := hcs
    simp only [if_true] at hzl
    unfold maxLen at hm
    have htl : (zs.take len).length = len := by simp; omega
    have key : ∀ (j : Nat) (x : Int), (zs.take len)[j]? = some x → W.cell? (a.add j) = some (.int .i64 x) := by
      intro j x hx
      have hj : j < len := by have := (List.getElem?_eq_some_iff.1 hx).1; omega
      have hc := hcell j (by omega)
      rw [List.getElem?_take_of_lt hj] at hx
      rw [List.getD_eq_getElem?_getD, hx] at hc
      exact hc
    refine ⟨_, _, _, zs.take len, rfl, htl, fun w' hb => ?_, fun x hx => fits_of_wf (hwf x (List.mem_of_mem_take hx)), fun hn => ⟨a, rfl, ?_, key⟩, by omega⟩
    · rw [htl]
      refine Src.ofSlice w' Try.underlying22 _ _ _ _ (by simp [ints]; omega) (fun j u hu => ?_) (fun u hu => ?_)
      · simp only [ints, List.getElem?_map, Option.map_eq_some_iff] at hu
        obtain ⟨x, hx, rfl⟩ := hu
        have hc := key j x hx
        exact (hb.cell (World.block_lt_of_cell? W _ hc)).trans hc
      · simp only [ints, List.mem_map] at hu
        obtain ⟨x, _, rfl⟩ := hu; rfl
    · cases hz : zs.take len with
      | nil => exact absurd hz hn
      | cons x l =>
        have hc := key 0 x (by rw [hz]; rfl)
        have := World.block_lt_of_cell? W _ hc
        unfold Addr.add at this
        split at this <;> exact this
end Go.Proofs.Ytccaegiceneegaa
