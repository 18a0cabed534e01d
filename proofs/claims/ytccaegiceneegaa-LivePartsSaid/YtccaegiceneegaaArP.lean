/- The used slots lie apart: plain laws. No conditions. -/
import Derived.Test.YtccaegiceneegaaArL
namespace Go.Proofs.Ytccaegiceneegaa
/-- no old object reaches into the slot that is allotted -/
theorem alloc_apart {st : Ar} (h : st.ok) {c : Int} {i s : Nat} {l : List Row} (hs : spAlloc st.rows c = some (i, s, l)) {q : Nat} {k n : Int} (hq : st.cells[q]? = some (.hdr k n)) {m : Nat} (hm : m ≤ n.toNat) :
    ¬ (i * 32 + s * cw c ≤ q + m ∧ q + m < i * 32 + s * cw c + cw c) := by
  intro hin
  obtain ⟨hc0, hc3, r, r', hr, rfl, hcls, hrok', hus, hnus, hor, hold, hnew⟩ := spAlloc_spec h.rows hs
  have hsl : s < r'.used.length := (List.getElem?_eq_some_iff.1 hus).1
  have hcw := cw_cases r' hrok' (by omega)
  rw [hcls] at hcw
  obtain ⟨_, _, b3, b4, b5, b6⟩ := h.fits hq
  obtain ⟨_, _, _, r0, a4, a5, a6, a7, _⟩ := h.hdr q k n hq
  have hrange : s * cw c + cw c ≤ 32 := by rcases hcw with ⟨e1, e2⟩ | ⟨e1, e2⟩ | ⟨e1, e2⟩ | ⟨e1, e2⟩ <;> rw [e1] <;> omega
  have hqi : q / 32 = i := by omega
  rw [hqi, hr] at a4
  obtain rfl := Option.some.inj a4
  have hrc : r.cls = c := by
    rcases hor with h1 | h1
    · exact h1
    · rw [h1] at a7; simp at a7
  rw [hrc] at a5 a6 a7
  have hne : q % 32 / cw c ≠ s := by intro e; rw [e] at a7; exact hnus a7
  have hn' : n < cw c := by unfold cw; omega
  have hqd : q % 32 = cw c * (q % 32 / cw c) := by have := Nat.div_add_mod (q % 32) (cw c); omega
  generalize cw c = W at *
  generalize q % 32 / W = t at *
  rcases hcw with ⟨e1, e2⟩ | ⟨e1, e2⟩ | ⟨e1, e2⟩ | ⟨e1, e2⟩ <;> subst e1 <;> omega
/-- no other object reaches into the words of a slot whose object is freed -/
theorem free_apart {st : Ar} (h : st.ok) {P q : Nat} {k0 n0 k n : Int} {r : Row} (hP : st.cells[P]? = some (.hdr k0 n0)) (hr : st.rows[P / 32]? = some r) (hq : st.cells[q]? = some (.hdr k n)) (hne : q ≠ P) {m : Nat} (hm : m ≤ n.toNat) :
    ¬ (P ≤ q + m ∧ q + m < P + cw r.cls) := by
  intro hin
  obtain ⟨_, _, b3, b4, b5, b6⟩ := h.fits hq
  obtain ⟨_, _, _, r0, a4, a5, a6, a7, _⟩ := h.hdr q k n hq
  obtain ⟨_, _, _, r1, c4, c5, c6, c7, _⟩ := h.hdr P k0 n0 hP
  rw [hr] at c4
  obtain rfl := Option.some.inj c4
  have hrok := h.rows r (List.mem_of_getElem? hr)
  have hn1 : r.cls ≠ -1 := by intro e; rw [e] at c5; simp [cwords] at c5; have := (h.fits hP).2.2.1; omega
  have hcw := cw_cases r hrok hn1
  have hul : P % 32 / cw r.cls < r.used.length := (List.getElem?_eq_some_iff.1 c7).1
  have hPd : P % 32 = cw r.cls * (P % 32 / cw r.cls) := by have := Nat.div_add_mod (P % 32) (cw r.cls); omega
  have hrange : P % 32 + cw r.cls ≤ 32 := by
    generalize P % 32 / cw r.cls = t at *
    rcases hcw with ⟨e1, e2⟩ | ⟨e1, e2⟩ | ⟨e1, e2⟩ | ⟨e1, e2⟩ <;> rw [e1] at hPd ⊢ <;> omega
  have hqi : q / 32 = P / 32 := by omega
  rw [hqi, hr] at a4
  obtain rfl := Option.some.inj a4
  have hn' : n < cw r.cls := by unfold cw; omega
  have hqd : q % 32 = cw r.cls * (q % 32 / cw r.cls) := by have := Nat.div_add_mod (q % 32) (cw r.cls); omega
  generalize cw r.cls = W at *
  generalize q % 32 / W = t at *
  generalize P % 32 / W = t2 at *
  rcases hcw with ⟨e1, e2⟩ | ⟨e1, e2⟩ | ⟨e1, e2⟩ | ⟨e1, e2⟩ <;> subst e1 <;> omega
end Go.Proofs.Ytccaegiceneegaa
