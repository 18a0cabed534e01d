/- Plain laws of the heap's model: what is an object behind each thing that is done. No conditions. -/
import Derived.Test.YtccaegiceneegaaHpM
namespace Go.Proofs.Ytccaegiceneegaa

theorem Ar.head_nat (st : Ar) (q : Nat) : st.head (q : Int) = (st.cells[q]?).bind hdrAt := by simp [Ar.head]

theorem arAlloc_at {st : Ar} (h : st.ok) (k n : Int) (h0 : (arAllocV st k n).2 = 0) : ∃ p : Nat, (arAllocV st k n).1 = p ∧ p < st.cells.length ∧ 1 ≤ k ∧ k ≤ 6 ∧ 0 ≤ n ∧ n < 32 ∧ p + 1 + n.toNat ≤ st.cells.length ∧ (arAllocN st k n).head p = some (k, n) ∧
    (∀ q : Nat, (st.head q).isSome = true → q ≠ p ∧ (arAllocN st k n).head q = st.head q) ∧ (∀ q : Nat, q ≠ p → ((arAllocN st k n).head q).isSome = true → (st.head q).isSome = true) ∧
    (∀ j : Nat, j < n.toNat → (arAllocN st k n).cells[p + 1 + j]? = some (.wd 0)) ∧ (∀ q : Nat, ¬ (p ≤ q ∧ q < p + (n.toNat + 1)) → (arAllocN st k n).cells[q]? = st.cells[q]?) ∧
    (∀ (q : Nat) (k' n' : Int), st.head q = some (k', n') → ∀ m, m ≤ n'.toNat → ¬ (p ≤ q + m ∧ q + m < p + (n.toNat + 1))) ∧ (arAllocN st k n).cells.length = st.cells.length := by
  unfold arAllocV at h0 ⊢
  unfold arAllocN
  split at h0
  · simp at h0
  rename_i hk
  rw [if_neg hk, if_neg hk]
  have hb : clsB n = true := by
    cases hb : clsB n
    · exact absurd (.inr (.inr hb)) hk
    · rfl
  obtain ⟨hn0, hnw⟩ := clsI_fits hb
  have hn32 : n < 32 := by have : 0 ≤ n ∧ n < 32 := by simpa [clsB] using hb
                           exact this.2
  cases hs : spAlloc st.rows (clsI n) with
  | none => rw [hs] at h0; simp at h0
  | some x =>
  obtain ⟨i, s, l⟩ := x
  simp only
  have hap := fun (q : Nat) (k' n' : Int) (hq : st.cells[q]? = some (.hdr k' n')) (m : Nat) (hm : m ≤ n'.toNat) => alloc_apart h hs hq hm
  generalize hc : clsI n = c at *
  obtain ⟨hc0, hc3, r, r', hr, rfl, hcls, hrok', hus, hnus, hor, hold, hnew⟩ := spAlloc_spec h.rows hs
  have hrl : i < st.rows.length := (List.getElem?_eq_some_iff.1 hr).1
  have hsl : s < r'.used.length := (List.getElem?_eq_some_iff.1 hus).1
  have hlen := h.len
  have hcw := cw_cases r' hrok' (by omega)
  rw [hcls] at hcw
  have hnw' : n.toNat < cw c := by unfold cw; omega
  have hxl : (ACell.hdr k n :: List.replicate n.toNat (.wd 0)).length = n.toNat + 1 := by simp
  have hrange : s * cw c + n.toNat + 1 ≤ 32 := by rcases hcw with ⟨e1, e2⟩ | ⟨e1, e2⟩ | ⟨e1, e2⟩ | ⟨e1, e2⟩ <;> rw [e1] at hnw' ⊢ <;> omega
  have hfit : i * 32 + s * cw c + (ACell.hdr k n :: List.replicate n.toNat (.wd 0)).length ≤ st.cells.length := by rw [hxl]; omega
  have hget := setRange_get hfit
  have hsrl := setRange_length hfit
  rw [hxl] at hget
  generalize hP : i * 32 + s * cw c = P at *
  have hat : ∀ q : Nat, (st.head q).isSome = true → ∃ k' n', st.cells[q]? = some (.hdr k' n') := by
    intro q hq
    cases hd : st.head q with
    | none => rw [hd] at hq; cases hq
    | some kn =>
      obtain ⟨k', n'⟩ := kn
      obtain ⟨p, hpq, hp⟩ := Ar.head_some hd
      obtain rfl : q = p := by omega
      exact ⟨k', n', hp⟩
  have hout : ∀ q : Nat, ¬ (P ≤ q ∧ q < P + (n.toNat + 1)) → (setRange st.cells P (.hdr k n :: List.replicate n.toNat (.wd 0)))[q]? = st.cells[q]? := fun q hq => by rw [hget, if_neg hq]
  refine ⟨P, rfl, by omega, by omega, by omega, hn0, hn32, by omega, ?_, ?_, ?_, ?_, hout, ?_, hsrl⟩
  · rw [Ar.head_nat, hget, if_pos (by omega), Nat.sub_self]; rfl
  · intro q hq
    obtain ⟨k', n', hq'⟩ := hat q hq
    have := hap q k' n' hq' 0 (by omega)
    refine ⟨by omega, ?_⟩
    rw [Ar.head_nat, Ar.head_nat, hout q (by omega)]
  · intro q hne hq
    rw [Ar.head_nat] at hq
    by_cases hin : P ≤ q ∧ q < P + (n.toNat + 1)
    · rw [hget, if_pos hin] at hq
      obtain ⟨d, hd⟩ : ∃ d, q - P = d + 1 := ⟨q - P - 1, by omega⟩
      rw [hd, List.getElem?_cons_succ, List.getElem?_replicate] at hq
      split at hq <;> simp [hdrAt] at hq
    · rw [Ar.head_nat, ← hout q hin]; exact hq
  · intro j hj
    rw [hget, if_pos (by omega)]
    have : P + 1 + j - P = j + 1 := by omega
    rw [this, List.getElem?_cons_succ, List.getElem?_replicate, if_pos hj]
  · intro q k' n' hq m hm
    obtain ⟨p, hpq, hp⟩ := Ar.head_some hq
    obtain rfl : q = p := by omega
    have := hap q k' n' hp m hm
    omega

theorem arStore_head {st : Ar} (h : st.ok) (i j v : Int) (p : Int) : (arStoreN st i j v).head p = st.head p := by
  unfold arStoreN
  split
  · rename_i h0
    unfold arLoad at h0
    split at h0
    · simp at h0
    rename_i k n hd
    split at h0
    · simp at h0
    rename_i hj
    obtain ⟨q, rfl, hq⟩ := Ar.head_some hd
    obtain ⟨_, _, _, r, _, _, _, _, hw⟩ := h.hdr q k n hq
    obtain ⟨jn, rfl⟩ := Int.eq_ofNat_of_zero_le (show 0 ≤ j by omega)
    obtain ⟨u, hu⟩ := hw jn (by omega)
    have e1 : ((q : Int) + 1 + (jn : Int)).toNat = q + 1 + jn := by omega
    rw [e1]
    unfold Ar.head
    split
    · by_cases e : q + 1 + jn = p.toNat
      · rw [← e, List.getElem?_set_self (List.getElem?_eq_some_iff.1 hu).1, hu]; rfl
      · simp only [List.getElem?_set_ne e]
    · rfl
  · rfl

theorem arFree_head {st : Ar} (h : st.ok) (i : Int) (q : Nat) : (arFreeN st i).head q = if i = q then none else st.head q := by
  unfold arFreeN
  cases hd : st.head i with
  | none =>
    simp only
    split
    · rename_i e; subst e; exact hd
    · rfl
  | some kn =>
    obtain ⟨k, n⟩ := kn
    simp only
    obtain ⟨p, rfl, hp⟩ := Ar.head_some hd
    obtain ⟨b1, b2, b3, b4, b5, b6⟩ := h.fits hp
    obtain ⟨_, _, _, r, hr, hn, hm, hu, hw⟩ := h.hdr p k n hp
    have hrok := h.rows r (List.mem_of_getElem? hr)
    have hne : r.cls ≠ -1 := by intro e; rw [e] at hn; simp [cwords] at hn; omega
    have hnw : n.toNat < cw r.cls := by unfold cw; omega
    have hfit : p + (List.replicate (n.toNat + 1) ACell.nil).length ≤ st.cells.length := by simp; omega
    have hget := setRange_get hfit
    simp only [List.length_replicate] at hget
    rw [Ar.head_nat, Int.toNat_natCast, hget, Ar.head_nat]
    by_cases e : p = q
    · subst e
      rw [if_pos (by omega), if_pos rfl, Nat.sub_self, List.getElem?_replicate]
      split <;> rfl
    · rw [if_neg (show ¬ (p : Int) = (q : Int) by omega)]
      by_cases hin : p ≤ q ∧ q < p + (n.toNat + 1)
      · rw [if_pos hin, List.getElem?_replicate]
        have e2 : (st.cells[q]?).bind hdrAt = none := by
          cases hc : (st.cells[q]?).bind hdrAt with
          | none => rfl
          | some kn =>
            obtain ⟨k', n'⟩ := kn
            cases hcc : st.cells[q]? with
            | none => rw [hcc] at hc; cases hc
            | some c =>
              rw [hcc] at hc
              cases c <;> simp [hdrAt] at hc
              obtain ⟨rfl, rfl⟩ := hc
              have := free_apart h hp hr hcc (by omega) (m := 0) (by omega)
              omega
        rw [e2]
        split <;> rfl
      · rw [if_neg hin]
end Go.Proofs.Ytccaegiceneegaa
