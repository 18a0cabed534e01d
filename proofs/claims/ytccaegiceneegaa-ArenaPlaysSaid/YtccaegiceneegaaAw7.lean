/- The law of the arena is awake. No conditions. -/
import Derived.Test.YtccaegiceneegaaHelp
namespace Go.Proofs.Ytccaegiceneegaa
open Go.RowKit
def aw0 : Ar := arNew 2
def aw1 : Ar := arAllocN aw0 5 2
def aw2 : Ar := arStoreN aw1 0 1 7
theorem aw_facts : arAllocV aw0 5 2 = (0, 0) ∧ (arLoad aw1 0 1).2 = 0 ∧ arLoad aw2 0 1 = (7, 0) ∧ hK (aw2.head 0) = 5 ∧ hN (aw2.head 0) = 2 ∧ spWords aw2.rows = 4 ∧ aw2.cells.length = 64 := by decide
theorem Upd.belowOf {S : Nat → Prop} {w w1 w2 : World} {B : Nat} (h : Below B w w1) (hu : Upd S w1 w2) (hS : ∀ k, S k → B ≤ k) (hB : B ≤ w.heap.size := by exact Nat.le_refl _) : Below B w w2 := by
  have hs := h.size
  refine h.trans ⟨hu.os, hu.tape, hu.output, hu.size, fun k hk => hu.block k (by omega) (fun hk2 => by have := hS k hk2; omega)⟩

set_option maxRecDepth 100000 in
theorem awake07 (w : World) : Calls Try.prog 23 #[] w fun e w' => e = .returned (.bool true) ∧ Below w.heap.size w w' := by
  obtain ⟨f1, f2, f3, f4, f5, f6, f7⟩ := aw_facts
  have k1 := fun (w : World) (pa ps br bl : Nat) (h : IsArena w pa ps br bl aw0) => arAlloc_calls h 5 2
  have k2 := fun (w : World) (pa ps br bl : Nat) (h : IsArena w pa ps br bl aw1) => arStore_calls h 0 1 7
  have k3 := fun (w : World) (pa ps br bl : Nat) (h : IsArena w pa ps br bl aw2) => arLoad_calls h 0 1
  have k4 := fun (w : World) (pa ps br bl : Nat) (h : IsArena w pa ps br bl aw2) => arKind h 0
  have k5 := fun (w : World) (pa ps br bl : Nat) (h : IsArena w pa ps br bl aw2) => arLen h 0
  have k6 := fun (w : World) (pa ps br bl : Nat) (h : IsArena w pa ps br bl aw2) => arUsed h
  have k7 := fun (w : World) (pa ps br bl : Nat) (h : IsArena w pa ps br bl aw2) => arWords h
  rw [f1] at k1
  rw [f2] at k2
  rw [f3] at k3
  rw [f4] at k4
  rw [f5] at k5
  rw [f6] at k6
  rw [f7] at k7
  simp only at k1 k3
  have K1 := Lib.hid k1
  have K2 := Lib.hid k2
  have K3 := Lib.hid k3
  have K4 := Lib.hid k4
  have K5 := Lib.hid k5
  have K6 := Lib.hid k6
  have K7 := Lib.hid k7
  clear k1 k2 k3 k4 k5 k6 k7 f1 f2 f3 f4 f5 f6 f7
  go_enter Try.func23, Try.ntmps23
  go_wp2_with fail
  refine (arNew_calls 2 (by omega) (by omega) w).mono ?_
  rintro e w1 ⟨pa, ps, br, bl, rfl, hA1, b1, b2, b3, b4, hb1⟩
  go_wp2_with fail
  refine (K1.out _ _ _ _ _ hA1).mono ?_
  rintro e w2 ⟨rfl, hA2, hu2⟩
  go_wp2_with fail
  refine (K2.out _ _ _ _ _ hA2).mono ?_
  rintro e w3 ⟨rfl, hA3, hu3⟩
  go_wp2_with fail
  refine (K3.out _ _ _ _ _ hA3).mono ?_
  rintro e w4 ⟨rfl, hb4⟩
  have hA4 := IsArena.below hA3 hb4
  have hS : ∀ k, arB br bl k → w.heap.size ≤ k := by rintro k (h | h) <;> omega
  have hBel := below_then (Upd.belowOf (Upd.belowOf hb1 hu2 hS) hu3 hS) hb4
  go_wp2_with (first | (go_at_call 36; refine (K4.out _ _ _ _ _ hA4).mono ?_; rintro e w5 ⟨rfl, hb5⟩; have hA5 := IsArena.below hA4 hb5) | (go_at_call 38; refine (K5.out _ _ _ _ _ hA5).mono ?_; rintro e w6 ⟨rfl, hb6⟩; have hA6 := IsArena.below hA5 hb6) | (go_at_call 33; refine (K6.out _ _ _ _ _ hA6).mono ?_; rintro e w7 ⟨rfl, hb7⟩; have hA7 := IsArena.below hA6 hb7) | (go_at_call 35; refine (K7.out _ _ _ _ _ hA7).mono ?_; rintro e w8 ⟨rfl, rfl⟩))
  go_ret
  exact ⟨rfl, below_then (below_then (below_then hBel hb5) hb6) hb7⟩
end Go.Proofs.Ytccaegiceneegaa
