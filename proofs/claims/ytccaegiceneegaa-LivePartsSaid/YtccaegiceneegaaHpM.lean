/- The plain model of the heap: an arena, the colours of its objects, what is grey, the phase. No conditions. -/
import Derived.Test.YtccaegiceneegaaArP
import Derived.Test.YtccaegiceneegaaArL
namespace Go.Proofs.Ytccaegiceneegaa

structure Hp where
  st : Ar
  col : Nat → Int
  gl : List Int
  over : Bool
  phase : Int
  span : Int
  ends : Int

/-- is a word that of a place? its place; its number -/
def oddW (w : Int) : Bool := decide (w % 2 = 1)
def ptrAt (w : Int) : Int := if oddW w then (w - 1) / 2 else -1
def numOf (w : Int) : Int := if oddW w then 0 else w / 2
def setCol (f : Nat → Int) (p : Nat) (v : Int) : Nat → Int := fun q => if q = p then v else f q
def hpIs (H : Hp) (i : Int) : Bool := (H.st.head i).isSome
def hpCol (H : Hp) (i : Int) : Int := if hpIs H i then H.col i.toNat else 0
def hpPush (H : Hp) (i : Int) : Hp := if 8 ≤ H.gl.length then { H with over := true } else { H with gl := H.gl ++ [i] }
def shadeB (H : Hp) (i : Int) : Bool := decide (H.phase = 1) && hpIs H i && decide (hpCol H i = 0)
def hpShade (H : Hp) (i : Int) : Hp := if shadeB H i then hpPush { H with col := setCol H.col i.toNat 1 } i else H
def hpStore (H : Hp) (i j v : Int) : Hp :=
  if (arLoad H.st i j).2 = 0 then (if oddW v then hpShade { H with st := arStoreN H.st i j v } (ptrAt v) else { H with st := arStoreN H.st i j v }) else H
def hpAlloc (H : Hp) (k n : Int) : Hp := if (arAllocV H.st k n).2 = 0 then { H with st := arAllocN H.st k n, col := setCol H.col (arAllocV H.st k n).1.toNat (if H.phase = 0 then 0 else 2) } else H
def hpNew (n : Nat) : Hp := ⟨arNew n, fun _ => 0, [], false, 0, 0, 0⟩
def hpStart (H : Hp) : Hp := { H with col := fun _ => 0, gl := [], over := false, phase := 1 }
def hpBegin (H : Hp) (roots : List Int) : Hp := if H.phase = 0 then roots.foldl hpShade (hpStart H) else H

theorem Ar.head_bd {st : Ar} {i : Int} (h : (st.head i).isSome = true) : ∃ p : Nat, i = p ∧ p < st.cells.length := by
  cases hd : st.head i with
  | none => rw [hd] at h; cases h
  | some kn =>
    obtain ⟨k, n⟩ := kn
    obtain ⟨p, hi, hp⟩ := Ar.head_some hd
    exact ⟨p, hi, (List.getElem?_eq_some_iff.1 hp).1⟩
theorem Ar.head_kind {st : Ar} (h : st.ok) (i : Int) : (hK (st.head i) = 0) = ((st.head i).isSome = false) := by
  cases hd : st.head i with
  | none => simp [hK]
  | some kn =>
    obtain ⟨k, n⟩ := kn
    obtain ⟨p, _, hp⟩ := Ar.head_some hd
    have := (h.fits hp).1
    simp [hK]; omega
theorem hpShade_st (H : Hp) (i : Int) : (hpShade H i).st = H.st := by
  unfold hpShade hpPush; split
  · split <;> rfl
  · rfl
theorem hpShade_idle (H : Hp) (i : Int) (h : H.phase ≠ 1) : hpShade H i = H := by
  unfold hpShade shadeB; rw [if_neg (by simp [h])]
theorem hpShade_phase (H : Hp) (i : Int) : (hpShade H i).phase = H.phase := by
  unfold hpShade hpPush; split
  · split <;> rfl
  · rfl
theorem hpStore_st (H : Hp) (i j v : Int) : (hpStore H i j v).st = arStoreN H.st i j v := by
  unfold hpStore
  split
  · split
    · rw [hpShade_st]
    · rfl
  · rename_i h; simp [arStoreN, h]
theorem hpAlloc_st (H : Hp) (k n : Int) : (hpAlloc H k n).st = arAllocN H.st k n := by
  unfold hpAlloc
  split
  · rfl
  · rename_i h
    unfold arAllocV at h
    unfold arAllocN
    split
    · rfl
    · rename_i h2
      rw [if_neg h2] at h
      split
      · rfl
      · rename_i h3; rw [h3] at h; simp at h
end Go.Proofs.Ytccaegiceneegaa
