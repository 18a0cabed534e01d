/- Maps from places to numbers, that a call made: read, written, struck. No conditions. -/
import Derived.Test.YtccaegiceneegaaBase
import Derived.Maps.Ext
namespace Go.Proofs.Ytccaegiceneegaa
open Go.RowKit
open Go.Maps (Keyed has size)

theorem keyedInt : Keyed Try.prog 3 := Maps.int_keyed Try.underlying3
theorem zeroInt (w : World) : (zeroValue 3).run Try.prog w = .ok (.int .i64 0) w := by kernel_rfl
theorem wfInt {a : Int} (h1 : -9223372036854775808 ≤ a) (h2 : a ≤ 9223372036854775807) : (Lit.int .i64 a).wf = true := by
  simp [Lit.wf, IntKind.min, IntKind.max, IntKind.signed, IntKind.bits]; omega

/-- keys below N, no key twice: no more than N -/
theorem few_keys {H : Type} : ∀ (N : Nat) (es : List (Lit × DataW H)), es.Pairwise (fun p q => p.1 ≠ q.1) → (∀ p ∈ es, ∃ j : Nat, j < N ∧ p.1 = .int .i64 j) → es.length ≤ N := by
  intro N
  induction N with
  | zero =>
    intro es _ h
    cases es with
    | nil => simp
    | cons p es => obtain ⟨j, hj, _⟩ := h p (List.mem_cons_self ..); omega
  | succ N ih =>
    intro es hp h
    have h1 := Maps.length_strike (k := Lit.int .i64 (N : Int)) es hp
    have h2 := ih (es.filter fun p => !p.1.sameKey (Lit.int .i64 (N : Int))) (hp.filter _) (by
      intro p hpm
      obtain ⟨hm, hs⟩ := List.mem_filter.1 hpm
      obtain ⟨j, hj, e⟩ := h p hm
      refine ⟨j, ?_, e⟩
      have : j ≠ N := by
        intro e2; subst e2
        rw [e, WideAt.sameKey_self (by trivial)] at hs
        cases hs
      omega)
    split at h1 <;> omega

/-- block b is a map from places to numbers -/
def IsMapI (w : World) (b : Nat) (f : Nat → Int) : Prop :=
  ∃ (n : Nat) (D : DataW Unit), w.ownsMap Try.prog 3 (plainElem Try.prog 3) b n D ∧ (∀ kl, has D kl = true → ∃ j : Nat, j < 4096 ∧ kl = .int .i64 j) ∧ ∀ p : Nat, p < 4096 → D.atKey (.int .i64 p) (.lit (.int .i64 0)) = .lit (.int .i64 (f p))

theorem IsMapI.lt {w : World} {b : Nat} {f : Nat → Int} (h : IsMapI w b f) : b < w.heap.size := by
  obtain ⟨n, D, h, _⟩ := h; exact h.lt
theorem IsMapI.same {w w' : World} {b : Nat} {f : Nat → Int} (h : IsMapI w b f) (hb : w'.heap[b]? = w.heap[b]?) : IsMapI w' b f := by
  obtain ⟨n, D, ⟨es, clock, h1, r⟩, h2⟩ := h
  exact ⟨n, D, ⟨es, clock, hb.trans h1, r⟩, h2⟩
theorem IsMapI.upd {w w' : World} {b : Nat} {f : Nat → Int} (h : IsMapI w b f) {S : Nat → Prop} (hu : Upd S w w') (hb : ¬ S b) : IsMapI w' b f := h.same (hu.block b h.lt hb)
theorem IsMapI.below {w w' : World} {b : Nat} {f : Nat → Int} (h : IsMapI w b f) (hb : Below w.heap.size w w') : IsMapI w' b f := h.same (hb.block b h.lt)
theorem IsMapI.made (w : World) : IsMapI (w.alloc (.map #[] 0)) w.heap.size (fun _ => 0) :=
  ⟨0, .map [], World.ownsMap_made w _ _ _, fun kl h => by simp [Maps.has_eq] at h, fun p _ => rfl⟩
/-- few entries -/
theorem IsMapI.few {w : World} {b n : Nat} {D : DataW Unit} (h : w.ownsMap Try.prog 3 (plainElem Try.prog 3) b n D) (hk : ∀ kl, has D kl = true → ∃ j : Nat, j < 4096 ∧ kl = .int .i64 j) : w.ownsMap Try.prog 3 (plainElem Try.prog 3) b 4096 D := by
  obtain ⟨es, rfl, hr, hkl⟩ := h.canon keyedInt
  have h4 := few_keys 4096 es (Maps.apart_of_rising hr) (fun p hp => hk p.1 (List.any_eq_true.2 ⟨p, hp, WideAt.sameKey_self (hkl p hp)⟩))
  obtain ⟨xs, clock, h1, h2, h3, hD⟩ := h
  refine ⟨xs, clock, h1, h2, ?_, hD⟩
  have e1 : (DataW.map es : DataW Unit) = DataW.map es := rfl
  have e2 : Maps.size (DataW.map es) = xs.size := by rw [hD]; simp [Maps.size, length_sorted]
  rw [← e2]; exact h4
theorem IsMapI.look {w : World} {b : Nat} {f : Nat → Int} (h : IsMapI w b f) (p : Nat) (hp : p < 4096) : (Instr.lookup 143 (.map (some b)) (.int .i64 p) false).run Try.prog w = .ok (.int .i64 (f p)) w := by
  obtain ⟨n, D, h, _, hf⟩ := h
  obtain ⟨c, hrun, hat, _⟩ := h.lookup_int (t := 143) keyedInt Try.underlying143 Try.underlying3 (zeroInt w) (key := .int .i64 p) (kl := .int .i64 p) (Maps.keyOf_int_mk Try.underlying3 (wfInt (by omega) (by omega)))
  rw [hf p hp] at hat
  simp only [DataW.lit.injEq, Lit.int.injEq, true_and] at hat
  rw [hrun, hat]
theorem IsMapI.store {w : World} {b : Nat} {f : Nat → Int} (h : IsMapI w b f) (p : Nat) (hp : p < 4096) (v : Int) (h1 : -9223372036854775808 ≤ v) (h2 : v ≤ 9223372036854775807) :
    ∃ w', (Instr.mapUpdate 143 (.map (some b)) (.int .i64 p) (.int .i64 v)).run Try.prog w = .ok () w' ∧ IsMapI w' b (fun q => if q = p then v else f q) ∧ Upd (· = b) w w' := by
  obtain ⟨n, D, h, hk, hf⟩ := h
  have hw : (Lit.int .i64 (p : Int)).wf = true := wfInt (by omega) (by omega)
  obtain ⟨w', hrun, ho, ht⟩ := (IsMapI.few h hk).store (t := 143) keyedInt Try.underlying143 (by unfold maxLen; omega) (key := .int .i64 p) (val := .int .i64 v) (kl := .int .i64 p) (Maps.keyOf_int_mk Try.underlying3 hw) (plainElem_int Try.underlying3 (wfInt h1 h2))
  refine ⟨w', hrun, ⟨_, _, ho, ?_, ?_⟩, ?_⟩
  · intro kl hkl
    by_cases e : kl = .int .i64 p
    · exact ⟨p, hp, e⟩
    · rw [Maps.has_put_other e] at hkl; exact hk kl hkl
  · intro q hq
    by_cases e : q = p
    · subst e; rw [Maps.atKey_put_same h.isMap (by trivial)]; simp
    · rw [Maps.atKey_put_other (by intro e2; simp at e2; omega), hf q hq]; simp [e]
  · have := ht.grown
    exact ⟨this.os, this.tape, this.output, this.size, fun k hk hn => this.block k hk (by intro e; simp at e; exact hn e)⟩
theorem IsMapI.drop {w : World} {b : Nat} {f : Nat → Int} (h : IsMapI w b f) (p : Nat) (hp : p < 4096) (ty : TypeId) :
    ∃ w', (Builtin.delete_ #[143, 3] ty #[.map (some b), .int .i64 p]).run Try.prog w = .ok (.tuple #[]) w' ∧ IsMapI w' b (fun q => if q = p then 0 else f q) ∧ Upd (· = b) w w' := by
  obtain ⟨n, D, h, hk, hf⟩ := h
  have hw : (Lit.int .i64 (p : Int)).wf = true := wfInt (by omega) (by omega)
  obtain ⟨w', hrun, ho, ht⟩ := h.drop (t := 143) keyedInt Try.underlying143 (key := .int .i64 p) (kl := .int .i64 p) (Maps.keyOf_int_mk Try.underlying3 hw) ty
  refine ⟨w', hrun, ⟨_, _, ho, ?_, ?_⟩, ?_⟩
  · intro kl hkl
    by_cases e : kl = .int .i64 p
    · exact ⟨p, hp, e⟩
    · rw [Maps.has_del_other e] at hkl; exact hk kl hkl
  · intro q hq
    by_cases e : q = p
    · subst e; rw [Maps.atKey_del_same]; simp
    · rw [Maps.atKey_del_other (by intro e2; simp at e2; omega), hf q hq]; simp [e]
  · have := ht.grown
    exact ⟨this.os, this.tape, this.output, this.size, fun k hk hn => this.block k hk (by intro e; simp at e; exact hn e)⟩
end Go.Proofs.Ytccaegiceneegaa
