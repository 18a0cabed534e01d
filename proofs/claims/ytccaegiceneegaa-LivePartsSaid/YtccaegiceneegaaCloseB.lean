/- Slices of structs of whole numbers that came in: all numbers fit. No conditions. -/
import Derived.Test.YtccaegiceneegaaClose
import Derived.Test.YtccaegiceneegaaReach
namespace Go.Proofs.Ytccaegiceneegaa
open Go.ChangeShapes Go.WideShapes Go.ChangeAt Go.RowKit Go.Deep
def Op6.fit (o : Op6) : Prop := fitsW o.kd ∧ fitsW o.k ∧ fitsW o.n ∧ fitsW o.at_ ∧ fitsW o.j ∧ fitsW o.v
theorem fits_of_wf {x : Int} (h : (Lit.int .i64 x).wf = true) : fitsW x := by
  simp only [Lit.wf, IntKind.min, IntKind.max, Bool.and_eq_true] at h
  simp [IntKind.signed, IntKind.bits] at h
  exact ⟨by omega, by omega⟩
set_option maxRecDepth 100000 in
theorem open_ops_fit {H : Type} {enc : TypeId × Value → H} {W : World} {t e : TypeId} {f0 f1 f2 f3 f4 f5 : Field} {v : Value} {d : DataW H} {ps : List MemPlace} (ht : Try.prog.underlying t = some (.slice e)) (he : Try.prog.underlying e = some (.struct #[f0, f1, f2, f3, f4, f5])) (hone : oneCellFields Try.prog #[f0, f1, f2, f3, f4, f5] = true) (hC : Try.prog.cellsOf e = 6)
    (hty : f0.type = 3 ∧ f1.type = 3 ∧ f2.type = 3 ∧ f3.type = 3 ∧ f4.type = 3 ∧ f5.type = 3) (hv : Value.okWide Try.prog W .any 0 t v) (h : DataW.Trod enc Try.prog W 0 (fun _ => true) true t v d ps) : ∃ ops : List Op6, OpsAt W v ops ∧ ∀ o ∈ ops, o.fit := by
  obtain ⟨a0, len, cap, rfl⟩ := okWide_slice ht hv
  obtain ⟨fuel, hf⟩ := h
  rcases open_slice_fields ht he hone hC hf with ⟨hcs, _⟩ | ⟨a, len', cap', m, D, Pl, hcs, _, hl, hm, hmm, _, hfi⟩
  · simp [Value.cells] at hcs
    obtain ⟨rfl, rfl, rfl⟩ := hcs
    exact ⟨[], .inl ⟨rfl, rfl⟩, fun o ho => by cases ho⟩
  · simp [Value.cells] at hcs
    obtain ⟨rfl, rfl, rfl⟩ := hcs
    simp only [if_true] at hmm
    subst hmm
    obtain ⟨t0, t1, t2, t3, t4, t5⟩ := hty
    have key : ∀ i, i < len → ∃ o : Op6, (W.cell? (a.add (i * 6)) = some (.int .i64 o.kd) ∧ W.cell? (a.add (i * 6 + 1)) = some (.int .i64 o.k) ∧ W.cell? (a.add (i * 6 + 2)) = some (.int .i64 o.n) ∧ W.cell? (a.add (i * 6 + 3)) = some (.int .i64 o.at_) ∧ W.cell? (a.add (i * 6 + 4)) = some (.int .i64 o.j) ∧ W.cell? (a.add (i * 6 + 5)) = some (.int .i64 o.v)) ∧ o.fit := by
      intro i hi
      obtain ⟨ys, n, _, _, _, hc⟩ := hfi i (by omega)
      have one : ∀ (j : Nat) (f : Field), (#[f0, f1, f2, f3, f4, f5] : Array Field)[j]? = some f → f.type = 3 → ∃ x : Int, W.cell? (a.add (i * 6 + j)) = some (.int .i64 x) ∧ fitsW x := by
        intro j f hj hft
        obtain ⟨v, y, hcell, _, htr⟩ := hc j f hj
        rw [hft] at htr
        obtain ⟨x, hx, _, hwf⟩ := DataW.trod_int Try.underlying3 htr
        simp only [List.cons.injEq, and_true] at hx
        subst hx
        exact ⟨x, hcell, fits_of_wf hwf⟩
      obtain ⟨x0, h0, k0⟩ := one 0 f0 rfl t0
      obtain ⟨x1, h1, k1⟩ := one 1 f1 rfl t1
      obtain ⟨x2, h2, k2⟩ := one 2 f2 rfl t2
      obtain ⟨x3, h3, k3⟩ := one 3 f3 rfl t3
      obtain ⟨x4, h4, k4⟩ := one 4 f4 rfl t4
      obtain ⟨x5, h5, k5⟩ := one 5 f5 rfl t5
      exact ⟨⟨x0, x1, x2, x3, x4, x5⟩, ⟨h0, h1, h2, h3, h4, h5⟩, k0, k1, k2, k3, k4, k5⟩
    obtain ⟨ops, hol, hops⟩ := list_of len key
    refine ⟨ops, .inr ⟨a, _, by rw [hol], by omega, hm, fun h0 => ?_, fun i o ho => (hops i o ho).1⟩, fun o ho => ?_⟩
    · obtain ⟨o, ⟨hc, _⟩, _⟩ := key 0 (by omega)
      have := World.block_lt_of_cell? W _ hc
      unfold Addr.add at this
      split at this <;> exact this
    · obtain ⟨i, hi⟩ := List.getElem?_of_mem ho
      exact (hops i o hi).2
end Go.Proofs.Ytccaegiceneegaa
