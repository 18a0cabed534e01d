/- What a call turned that turned only what is new. No conditions. -/
import Derived.Test.YtccaegiceneegaaBase
namespace Go.Proofs.Ytccaegiceneegaa
open Go.RowKit
theorem Upd.belowOf {S : Nat → Prop} {w w1 w2 : World} {B : Nat} (h : Below B w w1) (hu : Upd S w1 w2) (hS : ∀ k, S k → B ≤ k) (hB : B ≤ w.heap.size := by exact Nat.le_refl _) : Below B w w2 := by
  have hs := h.size
  refine h.trans ⟨hu.os, hu.tape, hu.output, hu.size, fun k hk => hu.block k (by omega) (fun hk2 => by have := hS k hk2; omega)⟩
end Go.Proofs.Ytccaegiceneegaa
