/- Whole numbers that came in, in a slice: they stay readable wherever nothing that was there is turned. No conditions. -/
import Derived.Test.YtccaegiceneegaaAw22
import Derived.Test.YtccaegiceneegaaCloseB
namespace Go.Proofs.Ytccaegiceneegaa
open Go.ChangeShapes Go.WideShapes Go.ChangeAt Go.RowKit

set_option maxRecDepth 100000 in
/-- whole numbers that came in -/
theorem open_rd {H : Type} {enc : TypeId × Value → H} {W : World} {t e : TypeId} {v : Value} {d : DataW H} {ps : List MemPlace} (ht : Try.prog.underlying t = some (.slice e)) (he : Try.prog.underlying e = some (.int .i64)) (hC : Try.prog.cellsOf e = 1) (hv : Value.okWide Try.prog W .any 0 t v) (h : DataW.Trod enc Try.prog W 0 (fun _ => true) true t v d ps) :
    ∃ (a : Option Addr) (n cap : Nat) (xs : List Int), v = .slice a n cap ∧ xs.length = n ∧ RdInts W v xs ∧ ∀ x ∈ xs, fitsW x := by
  obtain ⟨a0, len, cap, rfl⟩ := okWide_slice ht hv
  obtain ⟨fuel, hf⟩ := h
  rcases open_ints ht he hC hf with ⟨hcs, _⟩ | ⟨a, len', cap', zs, hcs, _, hl, hm, hzl, _, hcell, hwf⟩
  · simp [Value.cells] at hcs
    obtain ⟨rfl, rfl, rfl⟩ := hcs
    exact ⟨_, _, _, [], rfl, rfl, rd_nil W, fun x hx => by cases hx⟩
  · simp [Value.cells] at hcs
    obtain ⟨rfl, rfl, rfl⟩ := hcs
    simp only [if_true] at hzl
    have htl : (zs.take len).length = len := by simp; omega
    refine ⟨_, _, _, zs.take len, rfl, htl, fun w' hb => ?_, fun x hx => fits_of_wf (hwf x (List.mem_of_mem_take hx))⟩
    rw [htl]
    refine Src.ofSlice w' Try.underlying22 _ _ _ _ (by simp [ints]; omega) (fun j u hu => ?_) (fun u hu => ?_)
    · simp only [ints, List.getElem?_map, Option.map_eq_some_iff] at hu
      obtain ⟨x, hx, rfl⟩ := hu
      have hj : j < len := by have := (List.getElem?_eq_some_iff.1 hx).1; omega
      have hc := hcell j (by omega)
      rw [List.getElem?_take_of_lt hj] at hx
      rw [List.getD_eq_getElem?_getD, hx] at hc
      refine Eq.trans ?_ hc
      have hblk := World.block_lt_of_cell? W _ hc
      exact hb.cell hblk
    · simp only [ints, List.mem_map] at hu
      obtain ⟨x, _, rfl⟩ := hu; rfl

end Go.Proofs.Ytccaegiceneegaa
