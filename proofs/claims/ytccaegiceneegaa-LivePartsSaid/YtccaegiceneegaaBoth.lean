/- Both heaps, the program's and the document's, hold the same; what is done to both while no cycle goes on. No conditions. -/
import Derived.Test.YtccaegiceneegaaHeap
import Derived.Test.YtccaegiceneegaaRHeap
import Derived.Test.YtccaegiceneegaaBelow
namespace Go.Proofs.Ytccaegiceneegaa
open Go.RowKit

structure BothB (w0 w : World) (O1 O2 : Nat → Prop) (ph pa ps br bl cm pl rh ra rs rc rl rw cb rg : Nat) (H : Hp) : Prop where
  P : HeapB w O1 ph pa ps br bl cm pl H
  R : RHeapB w O2 rh ra rs rc rl rw cb rg H
  dis : ∀ k, O1 k → O2 k → False
  b1 : ∀ k, O1 k → w0.heap.size ≤ k
  b2 : ∀ k, O2 k → w0.heap.size ≤ k
  B : Below w0.heap.size w0 w
  fit : H.st.fit
theorem BothB.below {w0 w w' : World} {O1 O2 : Nat → Prop} {ph pa ps br bl cm pl rh ra rs rc rl rw cb rg : Nat} {H : Hp} (h : BothB w0 w O1 O2 ph pa ps br bl cm pl rh ra rs rc rl rw cb rg H) (hb : Below w.heap.size w w') : BothB w0 w' O1 O2 ph pa ps br bl cm pl rh ra rs rc rl rw cb rg H :=
  ⟨h.P.below hb, h.R.below hb, h.dis, h.b1, h.b2, below_then h.B hb, h.fit⟩
/-- the program's turned, then the document's -/
theorem BothB.turn {w0 w w1 w2 : World} {O1 O2 : Nat → Prop} {ph pa ps br bl cm pl rh ra rs rc rl rw cb rg : Nat} {H H' : Hp} (h : BothB w0 w O1 O2 ph pa ps br bl cm pl rh ra rs rc rl rw cb rg H) {S : Nat → Prop} (hu : Upd S w w1) (hS : ∀ k, S k → O1 k) (hP : HeapB w1 O1 ph pa ps br bl cm pl H') {T : Nat → Prop} (hv : Upd T w1 w2) (hT : ∀ k, T k → O2 k) (hR : RHeapB w2 O2 rh ra rs rc rl rw cb rg H') (hf : H'.st.fit) : BothB w0 w2 O1 O2 ph pa ps br bl cm pl rh ra rs rc rl rw cb rg H' :=
  ⟨hP.upd hv (fun k hk ht => h.dis k hk (hT k ht)), hR, h.dis, h.b1, h.b2, Upd.belowOf (Upd.belowOf h.B hu (fun k hk => h.b1 k (hS k hk))) hv (fun k hk => h.b2 k (hT k hk)), hf⟩
theorem BothB.first {w0 w w1 : World} {O1 O2 : Nat → Prop} {ph pa ps br bl cm pl rh ra rs rc rl rw cb rg : Nat} {H : Hp} (h : BothB w0 w O1 O2 ph pa ps br bl cm pl rh ra rs rc rl rw cb rg H) {S : Nat → Prop} (hu : Upd S w w1) (hS : ∀ k, S k → O1 k) : RHeapB w1 O2 rh ra rs rc rl rw cb rg H :=
  h.R.upd hu (fun k hk hs => h.dis k (hS k hs) hk)
theorem HeapB.ownA {w : World} {O : Nat → Prop} {ph pa ps br bl cm pl : Nat} {H : Hp} (h : HeapB w O ph pa ps br bl cm pl H) : (∀ k, arB br bl k → O k) ∧ (∀ k, hpB cm br bl k → O k) :=
  ⟨fun k hk => h.own k (by rcases hk with e | e <;> simp [e]), fun k hk => h.own k (by rcases hk with e | e | e <;> simp [e])⟩
theorem RHeapB.ownA {w : World} {O : Nat → Prop} {rh ra rs rc rl rw cb rg : Nat} {H : Hp} (h : RHeapB w O rh ra rs rc rl rw cb rg H) : (∀ k, arR rc rl rw k → O k) ∧ (∀ k, rhB cb rc rl rw k → O k) :=
  ⟨fun k hk => h.own k (by rcases hk with e | e | e <;> simp [e]), fun k hk => h.own k (by rcases hk with e | e | e | e <;> simp [e])⟩

/-- which object is meant -/
def pickI (xs : List Int) (n : Int) : Int := if xs.length = 0 then -1 else xs.getD (wrap64 ((IntKind.u64.wrap n).tmod (xs.length : Int))).toNat 0
def modU (n m : Int) : Int := wrap64 ((IntKind.u64.wrap n).tmod m)
theorem modU_bd (n m : Int) (h1 : 0 < m) (h2 : m ≤ 100000) : 0 ≤ modU n m ∧ modU n m < m := by
  have h0 : 0 ≤ IntKind.u64.wrap n := by simp [IntKind.wrap, IntKind.signed, IntKind.bits]; omega
  unfold modU
  rw [Int.tmod_eq_emod_of_nonneg h0]
  have h3 := Int.emod_nonneg (IntKind.u64.wrap n) (b := m) (by omega)
  have h4 := Int.emod_lt_of_pos (IntKind.u64.wrap n) (b := m) h1
  rw [IntWalk.wrap64_in _ (by omega)]
  exact ⟨h3, h4⟩
theorem pickI_mem {xs : List Int} (h : 0 < xs.length) (h2 : xs.length ≤ 4096) (n : Int) : ∃ r : Nat, r < xs.length ∧ wrap64 ((IntKind.u64.wrap n).tmod (xs.length : Int)) = (r : Int) ∧ xs[r]? = some (pickI xs n) := by
  have hb := modU_bd n xs.length (by omega) (by omega)
  unfold modU at hb
  obtain ⟨r, hr⟩ := Int.eq_ofNat_of_zero_le hb.1
  rw [hr] at hb
  refine ⟨r, by omega, hr, ?_⟩
  unfold pickI
  rw [if_neg (by omega), hr, Int.toNat_natCast]
  have : r < xs.length := by omega
  simp [List.getD, this]
/-- how many words a kind has, in the laws -/
def szK (k : Int) : Int := if k = 1 then 9 else if k = 2 then 3 else if k = 3 then 7 else if k = 4 then 10 else 2
end Go.Proofs.Ytccaegiceneegaa
