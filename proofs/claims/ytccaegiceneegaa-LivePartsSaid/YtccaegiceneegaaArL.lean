/- The arena stays as it may be, whatever is allotted, freed, stored: plain laws. No conditions. -/
import Derived.Test.YtccaegiceneegaaArM
namespace Go.Proofs.Ytccaegiceneegaa

theorem Ar.ok.store {st : Ar} (h : st.ok) (i j v : Int) : (arStoreN st i j v).ok := by
  unfold arStoreN
  split
  case isFalse => exact h
  rename_i he
  unfold arLoad at he
  split at he
  · simp at he
  rename_i k n hh
  split at he
  · simp at he
  rename_i hj
  obtain ⟨p, rfl, hp⟩ := Ar.head_some hh
  obtain ⟨_, _, _, r, hr, hn, _, _, hw⟩ := h.hdr p k n hp
  obtain ⟨j, rfl⟩ := Int.eq_ofNat_of_zero_le (show 0 ≤ j by omega)
  have hq : ((p : Int) + 1 + j).toNat = p + 1 + j := by omega
  rw [hq]
  obtain ⟨v0, hv0⟩ := hw j (by omega)
  have hlt := (List.getElem?_eq_some_iff.1 hv0).1
  have hget : ∀ q, (st.cells.set (p + 1 + j) (.wd v))[q]? = if p + 1 + j = q then some (.wd v) else st.cells[q]? := by
    intro q; rw [List.getElem?_set]; split <;> rfl
  refine ⟨h.rows, by simpa using h.len, ?_, ?_⟩
  · intro q k' n' hq'
    simp only [hget] at hq' ⊢
    split at hq'
    · cases hq'
    · obtain ⟨a1, a2, a3, r', a4, a5, a6, a7, a8⟩ := h.hdr q k' n' hq'
      refine ⟨a1, a2, a3, r', a4, a5, a6, a7, fun m hm => ?_⟩
      split
      · exact ⟨v, rfl⟩
      · exact a8 m hm
  · intro a s r' h1 h2
    obtain ⟨k', n', h3⟩ := h.usd a s r' h1 h2
    refine ⟨k', n', ?_⟩
    simp only [hget]
    rw [if_neg]
    · exact h3
    · intro e; rw [← e, hv0] at h3; cases h3

theorem spAlloc_spec {rows : List Row} {k : Int} {i s : Nat} {l : List Row} (hok : ∀ r ∈ rows, r.ok) (h : spAlloc rows k = some (i, s, l)) :
    0 ≤ k ∧ k ≤ 3 ∧ ∃ r r' : Row, rows[i]? = some r ∧ l = rows.set i r' ∧ r'.cls = k ∧ r'.ok ∧ r'.used[s]? = some true ∧ r.used[s]? ≠ some true ∧ (r.cls = k ∨ r.used = []) ∧
      (∀ t : Nat, r'.used[t]? = some true → t = s ∨ r.used[t]? = some true) ∧ (∀ t : Nat, r.used[t]? = some true → r'.used[t]? = some true) := by
  unfold spAlloc at h
  split at h
  · cases h
  rename_i hk
  have hk3 : 0 ≤ k ∧ k ≤ 3 := by unfold cslots at hk; omega
  refine ⟨hk3.1, hk3.2, ?_⟩
  split at h
  · rename_i r hr
    simp only [Option.some.injEq, Prod.mk.injEq] at h
    obtain ⟨rfl, rfl, rfl⟩ := h
    have hf := List.findIdx_getElem (p := rowFits k) (xs := rows) (w := (List.getElem?_eq_some_iff.1 hr).1)
    have hf0 : rowFits k r = true := by
      have e : rows[fitIdx rows k]? = some r := hr
      rw [List.getElem?_eq_some_iff] at e
      obtain ⟨e1, e2⟩ := e
      rw [← e2]; exact hf
    clear hf; have hf := hf0
    simp only [rowFits, rowFirstB, Bool.and_eq_true, beq_iff_eq, decide_eq_true_eq] at hf
    have hrok := hok r (List.mem_of_getElem? hr)
    have hfree : r.used[firstFree r.used]? = some false := by
      have := List.findIdx_getElem (p := fun b : Bool => !b) (xs := r.used) (w := hf.2)
      rw [List.getElem?_eq_some_iff]
      exact ⟨hf.2, by have e : (!(r.used[firstFree r.used]'hf.2)) = true := this; simpa using e⟩
    refine ⟨r, ⟨r.cls, r.used.set (firstFree r.used) true⟩, hr, rfl, hf.1, ?_, by simp [hf.2], by rw [hfree]; simp, .inl hf.1, ?_, ?_⟩
    · rcases hrok with ⟨h1, h2⟩ | ⟨h1, h2, h3⟩
      · rw [h2] at hf; simp [firstFree] at hf
      · exact .inr ⟨h1, h2, by simpa using h3⟩
    · intro t ht
      rw [List.getElem?_set] at ht
      split at ht
      · rename_i e; exact .inl e.symm
      · exact .inr ht
    · intro t ht
      rw [List.getElem?_set]
      split
      · rename_i e; rw [← e, hfree] at ht; cases ht
      · exact ht
  · split at h
    · rename_i hf
      simp only [Option.some.injEq, Prod.mk.injEq] at h
      obtain ⟨rfl, rfl, rfl⟩ := h
      have hr : rows[freshIdx rows]? = some rows[freshIdx rows] := List.getElem?_eq_getElem hf
      have hc := List.findIdx_getElem (p := fun r : Row => r.cls == -1) (xs := rows) (w := hf)
      have hrok := hok _ (List.mem_of_getElem? hr)
      have hc' : rows[freshIdx rows].cls = -1 := by have e : (rows[freshIdx rows].cls == -1) = true := hc; simpa using e
      have hu : rows[freshIdx rows].used = [] := by
        rcases hrok with ⟨_, h2⟩ | ⟨h1, _⟩
        · exact h2
        · omega
      have hb := cslots_le k
      have hpos : 0 < (cslots k).toNat := by omega
      refine ⟨_, ⟨k, (List.replicate (cslots k).toNat false).set 0 true⟩, hr, rfl, rfl, .inr ⟨hk3.1, hk3.2, by simp; omega⟩, by simp [hpos], by simp [hu], .inr hu, ?_, by simp [hu]⟩
      intro t ht
      rw [List.getElem?_set] at ht
      split at ht
      · rename_i e; exact .inl e.symm
      · rw [List.getElem?_replicate] at ht; split at ht <;> cases ht
    · cases h

theorem clsI_fits {n : Int} (h : clsB n = true) : 0 ≤ n ∧ n < cwords (clsI n) := by
  have h2 : 0 ≤ n ∧ n < 32 := by simpa [clsB] using h
  refine ⟨h2.1, ?_⟩
  unfold clsI
  by_cases h3 : n < 8
  · rw [if_pos h3]
    by_cases h4 : n < 4
    · rw [if_pos h4]; simpa [cwords] using h4
    · rw [if_neg h4]; simpa [cwords] using h3
  · rw [if_neg h3]
    by_cases h4 : n < 16
    · rw [if_pos h4]; simpa [cwords] using h4
    · rw [if_neg h4, if_pos h2.2]; simpa [cwords] using h2.2

theorem Ar.ok.alloc {st : Ar} (h : st.ok) (k n : Int) : (arAllocN st k n).ok := by
  unfold arAllocN
  split
  · exact h
  rename_i hk
  have hk' : 1 ≤ k ∧ k ≤ 6 ∧ clsB n = true := by
    refine ⟨by omega, by omega, ?_⟩
    cases hb : clsB n
    · exact absurd (.inr (.inr hb)) hk
    · rfl
  clear hk
  obtain ⟨hk1, hk6, hb⟩ := hk'
  obtain ⟨hn0, hnw⟩ := clsI_fits hb
  split
  · exact h
  rename_i i s l hs
  generalize hc : clsI n = c at *
  obtain ⟨hc0, hc3, r, r', hr, rfl, hcls, hrok', hus, hnus, hor, hold, hnew⟩ := spAlloc_spec h.rows hs
  have hrl : i < st.rows.length := (List.getElem?_eq_some_iff.1 hr).1
  have hsl : s < r'.used.length := (List.getElem?_eq_some_iff.1 hus).1
  have hlen := h.len
  obtain ⟨n, rfl⟩ := Int.eq_ofNat_of_zero_le hn0
  have hcw := cw_cases r' hrok' (by omega)
  rw [hcls] at hcw
  have hnw' : n < cw c := by unfold cw; omega
  have hxl : (ACell.hdr k n :: List.replicate (n : Int).toNat (.wd 0)).length = n + 1 := by simp
  have hrange : s * cw c + n + 1 ≤ 32 := by rcases hcw with ⟨e1, e2⟩ | ⟨e1, e2⟩ | ⟨e1, e2⟩ | ⟨e1, e2⟩ <;> rw [e1] at hnw' ⊢ <;> omega
  have hfit : i * 32 + s * cw c + (ACell.hdr k n :: List.replicate (n : Int).toNat (.wd 0)).length ≤ st.cells.length := by rw [hxl]; omega
  have hget := setRange_get hfit
  rw [hxl] at hget
  generalize hP : i * 32 + s * cw c = P at *
  have hPb : P / 32 = i ∧ P % 32 = s * cw c := by omega
  have hcpos : 0 < cw c := by omega
  -- an old object's words do not lie in the new slot
  have hapart : ∀ q k' n', st.cells[q]? = some (.hdr k' n') → ∀ m, m ≤ n'.toNat → ¬ (P ≤ q + m ∧ q + m < P + (n + 1)) := by
    intro q k' n' hq m hm hin
    obtain ⟨_, _, b3, b4, b5, b6⟩ := h.fits hq
    obtain ⟨_, _, _, r0, a4, a5, a6, a7, _⟩ := h.hdr q k' n' hq
    have hqi : q / 32 = i := by omega
    rw [hqi, hr] at a4
    obtain rfl := Option.some.inj a4
    have hrc : r.cls = c := by
      rcases hor with h1 | h1
      · exact h1
      · rw [h1] at a7; simp at a7
    rw [hrc] at a5 a6 a7
    have hne : q % 32 / cw c ≠ s := by intro e; rw [e] at a7; exact hnus a7
    have hn' : n' < cw c := by unfold cw; omega
    generalize hw : cw c = W at *
    have hqd : q % 32 = W * (q % 32 / W) := by have := Nat.div_add_mod (q % 32) W; omega
    generalize q % 32 / W = t at *
    rcases hcw with ⟨e1, e2⟩ | ⟨e1, e2⟩ | ⟨e1, e2⟩ | ⟨e1, e2⟩ <;> subst e1 <;> omega
  refine ⟨?_, ?_, ?_, ?_⟩
  · intro q hq
    rcases List.mem_or_eq_of_mem_set hq with hq | rfl
    · exact h.rows q hq
    · exact hrok'
  · rw [setRange_length hfit]; simpa using hlen
  · intro q k' n' hq
    simp only [hget] at hq ⊢
    split at hq
    · rename_i hin
      have hqP : q = P := by
        apply Classical.byContradiction; intro hne
        obtain ⟨d, hd⟩ : ∃ d, q - P = d + 1 := ⟨q - P - 1, by omega⟩
        rw [hd, List.getElem?_cons_succ, List.getElem?_replicate] at hq
        split at hq <;> cases hq
      subst hqP
      rw [Nat.sub_self] at hq
      simp only [List.getElem?_cons_zero, Option.some.injEq, ACell.hdr.injEq] at hq
      obtain ⟨rfl, rfl⟩ := hq
      refine ⟨hk1, hk6, by omega, r', ?_, by rw [hcls]; exact hnw, ?_, ?_, ?_⟩
      · rw [hPb.1]; simp [hrl]
      · rw [hcls, hPb.2]; exact Nat.mul_mod_left _ _
      · rw [hcls, hPb.2, Nat.mul_div_cancel _ hcpos]; exact hus
      · intro m hm
        refine ⟨0, ?_⟩
        rw [if_pos (by omega)]
        have : q + 1 + m - q = m + 1 := by omega
        rw [this, List.getElem?_cons_succ, List.getElem?_replicate, if_pos (by omega)]
    · rename_i hout
      obtain ⟨a1, a2, a3, r0, a4, a5, a6, a7, a8⟩ := h.hdr q k' n' hq
      have hap := hapart q k' n' hq
      by_cases hqi : q / 32 = i
      · rw [hqi, hr] at a4
        obtain rfl := Option.some.inj a4
        have hrc : r.cls = c := by
          rcases hor with h1 | h1
          · exact h1
          · rw [h1] at a7; simp at a7
        rw [hrc] at a5 a6 a7
        refine ⟨a1, a2, a3, r', by rw [hqi]; simp [hrl], by rw [hcls]; exact a5, by rw [hcls]; exact a6, by rw [hcls]; exact hnew _ a7, fun m hm => ?_⟩
        rw [if_neg (by have := hap (m + 1) (by omega); omega)]
        exact a8 m hm
      · refine ⟨a1, a2, a3, r0, by rw [List.getElem?_set_ne (fun e => hqi e.symm)]; exact a4, a5, a6, a7, fun m hm => ?_⟩
        rw [if_neg (by have := hap (m + 1) (by omega); omega)]
        exact a8 m hm
  · intro a t r0 h1 h2
    simp only [hget]
    by_cases hai : a = i
    · subst hai
      rw [List.getElem?_set_self hrl] at h1
      obtain rfl := Option.some.inj h1
      rw [hcls]
      by_cases hts : t = s
      · subst hts
        refine ⟨k, n, ?_⟩
        rw [if_pos (by omega)]
        have : 32 * a + t * cw c - P = 0 := by omega
        rw [this]; rfl
      · have h3 := (hold t h2).resolve_left hts
        obtain ⟨k', n', h4⟩ := h.usd a t r hr h3
        have hrc : r.cls = c := by
          rcases hor with h1 | h1
          · exact h1
          · rw [h1] at h3; simp at h3
        rw [hrc] at h4
        have := hapart _ k' n' h4 0 (Nat.zero_le _)
        exact ⟨k', n', by rw [if_neg (by omega)]; exact h4⟩
    · rw [List.getElem?_set_ne (fun e => hai e.symm)] at h1
      obtain ⟨k', n', h4⟩ := h.usd a t r0 h1 h2
      have := hapart _ k' n' h4 0 (Nat.zero_le _)
      exact ⟨k', n', by rw [if_neg (by omega)]; exact h4⟩

theorem rowCount_pos {r : Row} {t : Nat} (h : r.used[t]? = some true) : rowCount r ≠ 0 := by
  intro e
  have := List.countP_eq_zero.1 e true (List.mem_of_getElem? h)
  simp at this

theorem Ar.ok.free {st : Ar} (h : st.ok) (i : Int) : (arFreeN st i).ok := by
  unfold arFreeN
  split
  · exact h
  rename_i k n hh
  obtain ⟨P, rfl, hp⟩ := Ar.head_some hh
  obtain ⟨b1, b2, b3, b4, b5, b6⟩ := h.fits hp
  obtain ⟨_, _, _, r, hr, hn, hm, hu, _⟩ := h.hdr P k n hp
  have hrok := h.rows r (List.mem_of_getElem? hr)
  have hne : r.cls ≠ -1 := by intro e; rw [e] at hn; simp [cwords] at hn; omega
  have hrl : P / 32 < st.rows.length := (List.getElem?_eq_some_iff.1 hr).1
  have hcw := cw_cases r hrok hne
  have hcl : spCls st.rows ((P / 32 : Nat) : Int) = r.cls := by
    unfold spCls
    rw [if_pos (by omega)]
    have : ((P / 32 : Nat) : Int).toNat = P / 32 := by omega
    rw [this, hr]
  rw [show ((P : Int)).toNat = P from by omega, hcl]
  have hsp : spFree st.rows (P / 32) (P % 32 / cw r.cls) = st.rows.set (P / 32) (rowFree r (P % 32 / cw r.cls)) := by simp [spFree, hr]
  rw [hsp]
  have hlen := h.len
  have hxl : (List.replicate (n.toNat + 1) ACell.nil).length = n.toNat + 1 := by simp
  have hfit : P + (List.replicate (n.toNat + 1) ACell.nil).length ≤ st.cells.length := by rw [hxl]; omega
  have hget := setRange_get hfit
  rw [hxl] at hget
  have hsl : P % 32 / cw r.cls < r.used.length := (List.getElem?_eq_some_iff.1 hu).1
  have hPs : P % 32 = cw r.cls * (P % 32 / cw r.cls) := by have := Nat.div_add_mod (P % 32) (cw r.cls); omega
  have hnw : n.toNat < cw r.cls := by unfold cw; omega
  generalize hi : P / 32 = i at *
  generalize hs : P % 32 / cw r.cls = s at *
  -- another object's words do not lie in this slot
  have hapart : ∀ q k' n', st.cells[q]? = some (.hdr k' n') → q ≠ P → (∀ m, m ≤ n'.toNat → ¬ (P ≤ q + m ∧ q + m < P + (n.toNat + 1))) ∧ (q / 32 = i → q % 32 / cw r.cls ≠ s) := by
    intro q k' n' hq hqP
    obtain ⟨_, _, c3, c4, c5, c6⟩ := h.fits hq
    obtain ⟨_, _, _, r0, a4, a5, a6, a7, _⟩ := h.hdr q k' n' hq
    have hslot : q / 32 = i → q % 32 / cw r.cls ≠ s ∧ n'.toNat < cw r.cls ∧ q % 32 = cw r.cls * (q % 32 / cw r.cls) := by
      intro hqi
      rw [hqi, hr] at a4
      obtain rfl := Option.some.inj a4
      have hqd : q % 32 = cw r.cls * (q % 32 / cw r.cls) := by have := Nat.div_add_mod (q % 32) (cw r.cls); omega
      refine ⟨fun e => hqP ?_, by unfold cw; omega, hqd⟩
      rw [e] at hqd; omega
    refine ⟨fun m hm hin => ?_, fun hqi => (hslot hqi).1⟩
    obtain ⟨d1, d2, d3⟩ := hslot (by omega)
    generalize cw r.cls = W at *
    generalize q % 32 / W = t at *
    rcases hcw with ⟨e1, e2⟩ | ⟨e1, e2⟩ | ⟨e1, e2⟩ | ⟨e1, e2⟩ <;> subst e1 <;> omega
  have hfree : ∀ t : Nat, t ≠ s → r.used[t]? = some true → rowFree r s = ⟨r.cls, r.used.set s false⟩ ∧ (r.used.set s false)[t]? = some true := by
    intro t hts ht
    have h1 : (r.used.set s false)[t]? = some true := by rw [List.getElem?_set_ne (fun e => hts e.symm)]; exact ht
    have h2 := rowCount_pos (r := ⟨r.cls, r.used.set s false⟩) h1
    exact ⟨by simp [rowFree, h2], h1⟩
  refine ⟨?_, ?_, ?_, ?_⟩
  · intro q hq
    rcases List.mem_or_eq_of_mem_set hq with hq | rfl
    · exact h.rows q hq
    · unfold rowFree
      split
      · exact .inl ⟨rfl, rfl⟩
      · rcases hrok with ⟨h1, h2⟩ | ⟨h1, h2, h3⟩
        · exact absurd h1 hne
        · exact .inr ⟨h1, h2, by simpa using h3⟩
  · rw [setRange_length hfit]; simpa using hlen
  · intro q k' n' hq
    simp only [hget] at hq ⊢
    split at hq
    · rw [List.getElem?_replicate] at hq; split at hq <;> cases hq
    · rename_i hout
      obtain ⟨a1, a2, a3, r0, a4, a5, a6, a7, a8⟩ := h.hdr q k' n' hq
      obtain ⟨hap, hsl'⟩ := hapart q k' n' hq (by omega)
      by_cases hqi : q / 32 = i
      · rw [hqi, hr] at a4
        obtain rfl := Option.some.inj a4
        obtain ⟨f1, f2⟩ := hfree _ (hsl' hqi) a7
        refine ⟨a1, a2, a3, rowFree r s, by rw [hqi]; simp [hrl], by rw [f1]; exact a5, by rw [f1]; exact a6, by rw [f1]; exact f2, fun m hm => ?_⟩
        rw [if_neg (by have := hap (m + 1) (by omega); omega)]
        exact a8 m hm
      · refine ⟨a1, a2, a3, r0, by rw [List.getElem?_set_ne (fun e => hqi e.symm)]; exact a4, a5, a6, a7, fun m hm => ?_⟩
        rw [if_neg (by have := hap (m + 1) (by omega); omega)]
        exact a8 m hm
  · intro a t r0 h1 h2
    simp only [hget]
    by_cases hai : a = i
    · subst hai
      rw [List.getElem?_set_self hrl] at h1
      obtain rfl := Option.some.inj h1
      unfold rowFree at h2 ⊢
      split at h2
      · simp at h2
      · rename_i hc
        rw [if_neg hc]
        have hts : t ≠ s := by
          intro e; subst e
          simp only [List.getElem?_set_self hsl] at h2; cases h2
        have h3 : r.used[t]? = some true := by
          simp only at h2
          rw [List.getElem?_set_ne (fun e => hts e.symm)] at h2; exact h2
        obtain ⟨k', n', h4⟩ := h.usd a t r hr h3
        have htl : t < r.used.length := (List.getElem?_eq_some_iff.1 h3).1
        have hne : 32 * a + t * cw r.cls ≠ P := by
          rcases hcw with ⟨e1, e2⟩ | ⟨e1, e2⟩ | ⟨e1, e2⟩ | ⟨e1, e2⟩ <;> rw [e1] at hPs ⊢ <;> omega
        have := (hapart _ k' n' h4 hne).1 0 (Nat.zero_le _)
        exact ⟨k', n', by rw [if_neg (by simpa using this)]; exact h4⟩
    · rw [List.getElem?_set_ne (fun e => hai e.symm)] at h1
      obtain ⟨k', n', h4⟩ := h.usd a t r0 h1 h2
      have hne : 32 * a + t * cw r0.cls ≠ P := by
        intro e
        have htl : t < r0.used.length := (List.getElem?_eq_some_iff.1 h2).1
        have hr0 := h.rows r0 (List.mem_of_getElem? h1)
        have hn0 : r0.cls ≠ -1 := by
          intro e0
          rcases hr0 with ⟨_, g⟩ | ⟨g, _⟩
          · rw [g] at htl; simp at htl
          · omega
        rcases cw_cases r0 hr0 hn0 with ⟨e1, e2⟩ | ⟨e1, e2⟩ | ⟨e1, e2⟩ | ⟨e1, e2⟩ <;> rw [e1] at e <;> omega
      have := (hapart _ k' n' h4 hne).1 0 (Nat.zero_le _)
      exact ⟨k', n', by rw [if_neg (by simpa using this)]; exact h4⟩

theorem arNew_ok (n : Nat) : (arNew n).ok := by
  refine ⟨fun r hr => by rw [List.eq_of_mem_replicate hr]; exact .inl ⟨rfl, rfl⟩, by simp [arNew], ?_, ?_⟩
  · intro p k m hp
    simp only [arNew, List.getElem?_replicate] at hp
    split at hp <;> cases hp
  · intro i s r hr hu
    simp only [arNew, List.getElem?_replicate] at hr
    split at hr <;> cases hr
    simp at hu
end Go.Proofs.Ytccaegiceneegaa
