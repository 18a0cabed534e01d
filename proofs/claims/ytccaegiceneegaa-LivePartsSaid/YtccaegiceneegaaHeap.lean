/- The walks of the package heap: made, allotted, loaded, stored while no cycle goes on, colours. No conditions. -/
import Derived.Test.YtccaegiceneegaaArena
import Derived.Test.YtccaegiceneegaaMap
import Derived.Test.YtccaegiceneegaaVal
import Derived.Test.YtccaegiceneegaaSl
import Derived.Test.YtccaegiceneegaaHpL
namespace Go.Proofs.Ytccaegiceneegaa
open Go.RowKit

def signs (n : Nat) : ByteArray := ⟨(List.replicate n (111 : UInt8)).toArray⟩
/-- what was owned, and what is new -/
def Grow (O : Nat → Prop) (w w' : World) : Nat → Prop := fun k => O k ∨ (w.heap.size ≤ k ∧ k < w'.heap.size)

/-- a heap lies at ph: its arena at pa, its blocks are in O -/
structure HeapB (w : World) (O : Nat → Prop) (ph pa ps br bl cm pl : Nat) (H : Hp) : Prop where
  head : Arr w ph 147 [.pointer (some ⟨pa, 0, none⟩), .map (some cm), .pointer (some ⟨pl, 0, none⟩), .int .i64 H.phase, .int .i64 H.span, .int .i64 H.ends]
  arena : IsArena w pa ps br bl H.st
  map : ∃ f, IsMapI w cm f ∧ ∀ p : Nat, (H.st.head p).isSome = true → f p = H.col p
  list : ∃ v, Arr w pl 169 [v, .string (signs H.gl.length), .bool H.over] ∧ IntSv w O v H.gl
  glen : H.gl.length ≤ 8
  own : ∀ k, k = ph ∨ k = pa ∨ k = ps ∨ k = br ∨ k = bl ∨ k = cm ∨ k = pl → O k
  lt : ∀ k, O k → k < w.heap.size

theorem IsMapI.apart {w : World} {b e cm : Nat} {xs : List Value} {f : Nat → Int} (h : IsMapI w cm f) (h' : Arr w b e xs) : cm ≠ b := by
  rintro rfl
  obtain ⟨n, D, ⟨es, clock, h1, _⟩, _⟩ := h
  obtain ⟨m, h'⟩ := h'
  rw [h'] at h1; cases h1
theorem HeapB.upd {w w' : World} {O : Nat → Prop} {ph pa ps br bl cm pl : Nat} {H : Hp} (h : HeapB w O ph pa ps br bl cm pl H) {S : Nat → Prop} (hu : Upd S w w') (hs : ∀ k, O k → ¬ S k) : HeapB w' O ph pa ps br bl cm pl H := by
  obtain ⟨f, hf, hc⟩ := h.map
  obtain ⟨v, hl, hv⟩ := h.list
  have ho := h.own
  exact ⟨hu.arr h.head (hs _ (ho _ (by simp))), h.arena.upd hu (hs _ (ho _ (by simp))) (hs _ (ho _ (by simp))) (hs _ (ho _ (by simp))) (hs _ (ho _ (by simp))), ⟨f, hf.upd hu (hs _ (ho _ (by simp))), hc⟩, ⟨v, hu.arr hl (hs _ (ho _ (by simp))), hv.upd hu hs⟩, h.glen, ho, fun k hk => Nat.lt_of_lt_of_le (h.lt k hk) hu.size⟩
theorem HeapB.below {w w' : World} {O : Nat → Prop} {ph pa ps br bl cm pl : Nat} {H : Hp} (h : HeapB w O ph pa ps br bl cm pl H) (hb : Below w.heap.size w w') : HeapB w' O ph pa ps br bl cm pl H :=
  h.upd (Upd.of_below (S := fun _ => False) hb) (fun _ _ h => h)
theorem HeapB.grow {w w' : World} {O : Nat → Prop} {ph pa ps br bl cm pl : Nat} {H : Hp} (h : HeapB w' O ph pa ps br bl cm pl H) (_hw : w.heap.size ≤ w'.heap.size) : HeapB w' (Grow O w w') ph pa ps br bl cm pl H := by
  obtain ⟨v, hl, hv⟩ := h.list
  exact ⟨h.head, h.arena, h.map, ⟨v, hl, hv.mono (fun k hk => .inl hk)⟩, h.glen, fun k hk => .inl (h.own k hk), fun k hk => hk.elim (h.lt k) (·.2)⟩
/-- the arena alone turned; what is an object was one, of the same colour -/
theorem HeapB.turnArena {w w' : World} {O : Nat → Prop} {ph pa ps br bl cm pl : Nat} {H : Hp} (h : HeapB w O ph pa ps br bl cm pl H) (hu : Upd (arB br bl) w w') {st : Ar} (hA : IsArena w' pa ps br bl st) (hs : ∀ p : Nat, (st.head p).isSome = true → (H.st.head p).isSome = true) : HeapB w' O ph pa ps br bl cm pl { H with st := st } := by
  obtain ⟨f, hf, hc⟩ := h.map
  obtain ⟨v, hl, hv⟩ := h.list
  obtain ⟨x0, hx0, _⟩ := h.arena.spans.head
  have r1 := h.arena.spans.rows
  have r2 := h.arena.cells
  have n1 : ¬ arB br bl ph := by rintro (e | e); exact h.head.apart r1 (by decide) e; exact h.head.apart r2 (by decide) e
  have n2 : ¬ arB br bl cm := by rintro (e | e); exact hf.apart r1 e; exact hf.apart r2 e
  have n3 : ¬ arB br bl pl := by rintro (e | e); exact hl.apart r1 (by decide) e; exact hl.apart r2 (by decide) e
  have hv' : IntSv w' O v H.gl := (hv.rows.upd hu (fun k hk => by
    rintro (e | e)
    · exact r1.notRow (by decide) (e ▸ hk.2)
    · exact r2.notRow (by decide) (e ▸ hk.2))).mono (fun k hk => hk.1)
  exact ⟨hu.arr h.head n1, hA, ⟨f, hf.upd hu n2, fun p hp => hc p (hs p hp)⟩, ⟨v, hu.arr hl n3, hv'⟩, h.glen, h.own, fun k hk => Nat.lt_of_lt_of_le (h.lt k hk) hu.size⟩
/-- the colours alone turned -/
theorem HeapB.turnMap {w w' : World} {O : Nat → Prop} {ph pa ps br bl cm pl : Nat} {H : Hp} (h : HeapB w O ph pa ps br bl cm pl H) (hu : Upd (· = cm) w w') {g : Nat → Int} (hg : IsMapI w' cm g) {col : Nat → Int} (hs : ∀ p : Nat, (H.st.head p).isSome = true → g p = col p) : HeapB w' O ph pa ps br bl cm pl { H with col := col } := by
  obtain ⟨f, hf, hc⟩ := h.map
  obtain ⟨v, hl, hv⟩ := h.list
  obtain ⟨x0, hx0, _⟩ := h.arena.spans.head
  have hv' : IntSv w' O v H.gl := (hv.rows.upd hu (fun k hk e => by
    subst e
    obtain ⟨n, D, ⟨es, clock, h1, _⟩, _⟩ := hf
    obtain ⟨cur, h2⟩ := hk.2
    rw [h1] at h2; cases h2)).mono (fun k hk => hk.1)
  exact ⟨hu.arr h.head (fun e => hf.apart h.head e.symm), h.arena.upd hu (fun e => hf.apart h.arena.head e.symm) (fun e => hf.apart hx0 e.symm) (fun e => hf.apart h.arena.spans.rows e.symm) (fun e => hf.apart h.arena.cells e.symm), ⟨g, hg, hs⟩, ⟨v, hu.arr hl (fun e => hf.apart hl e.symm), hv'⟩, h.glen, h.own, fun k hk => Nat.lt_of_lt_of_le (h.lt k hk) hu.size⟩

theorem hArena {w : World} {O : Nat → Prop} {ph pa ps br bl cm pl : Nat} {H : Hp} (h : HeapB w O ph pa ps br bl cm pl H) : Calls Try.prog 52 #[.pointer (some ⟨ph, 0, none⟩)] w fun e w' => e = .returned (.pointer (some ⟨pa, 0, none⟩)) ∧ w = w' := by
  have c0 := h.head.cell (j := 0) rfl
  go_enter Try.func52, Try.ntmps52
  go_wp2
  go_ret
  exact ⟨rfl, rfl⟩
theorem hArena_nil (w : World) : Calls Try.prog 52 #[.pointer none] w fun e w' => e = .returned (.pointer none) ∧ w = w' := by
  go_enter Try.func52, Try.ntmps52
  go_wp2
  go_ret
  exact ⟨rfl, rfl⟩
theorem hLoad {w : World} {O : Nat → Prop} {ph pa ps br bl cm pl : Nat} {H : Hp} (h : HeapB w O ph pa ps br bl cm pl H) (i j : Int) : Calls Try.prog 60 #[.pointer (some ⟨ph, 0, none⟩), .int .i64 i, .int .i64 j] w fun e w' =>
    e = .returned (.tuple #[.int .i64 (arLoad H.st i j).1, .int .i64 (arLoad H.st i j).2]) ∧ Below w.heap.size w w' := by
  have h1 := hArena h
  have h2 := arLoad_calls h.arena i j
  generalize (arLoad H.st i j).1 = e1 at *
  generalize (arLoad H.st i j).2 = e2 at *
  go_enter Try.func60, Try.ntmps60
  go_wp2_with (first | (go_at_call 52; refine h1.mono ?_; rintro e w1 ⟨rfl, rfl⟩) | (go_at_call 40; refine h2.mono ?_; rintro e w1 ⟨rfl, hb⟩))
  go_ret2
  exact ⟨rfl, hb⟩
theorem hShadeIdle {w : World} {O : Nat → Prop} {ph pa ps br bl cm pl : Nat} {H : Hp} (h : HeapB w O ph pa ps br bl cm pl H) (hp : H.phase ≠ 1) (i : Int) : Calls Try.prog 105 #[.pointer (some ⟨ph, 0, none⟩), .int .i64 i] w fun e w' =>
    e = .returned (.tuple #[]) ∧ w = w' := by
  have c3 := h.head.cell (j := 3) rfl
  have hne : (H.phase != 1) = true := by rw [bne_iff_ne]; exact hp
  clear hp
  go_enter Try.func105, Try.ntmps105
  go_wp2
  exact bodyPost_ret (results_none rfl _ _ _) rfl ⟨rfl, rfl⟩

theorem hColour {w : World} {O : Nat → Prop} {ph pa ps br bl cm pl : Nat} {H : Hp} (h : HeapB w O ph pa ps br bl cm pl H) (i : Int) : Calls Try.prog 69 #[.pointer (some ⟨ph, 0, none⟩), .int .i64 i] w fun e w' =>
    e = .returned (.int .i64 (hpCol H i)) ∧ Below w.heap.size w w' := by
  have h1 := hArena h
  have h2 := arKind h.arena i
  have hk := Ar.head_kind h.arena.ok i
  have hsm := h.arena.small
  unfold hpCol hpIs
  cases ho : (H.st.head i).isSome with
  | false =>
    have e0 : hK (H.st.head i) = 0 := by rw [hk, ho]
    rw [e0] at h2
    simp only [Bool.false_eq_true, if_false]
    clear hk ho e0
    go_enter Try.func69, Try.ntmps69
    go_wp2_with (first | (go_at_call 52; refine h1.mono ?_; rintro e w1 ⟨rfl, rfl⟩) | (go_at_call 36; refine h2.mono ?_; rintro e w1 ⟨rfl, hb⟩))
    go_ret
    exact ⟨rfl, hb⟩
  | true =>
    have e0 : (hK (H.st.head i) == 0) = false := by
      rw [beq_eq_false_iff_ne]; intro e; rw [hk, ho] at e; cases e
    obtain ⟨p, rfl, hp⟩ := Ar.head_bd ho
    obtain ⟨f, hf, hc⟩ := h.map
    have hcp := hc p ho
    simp only [if_true, Int.toNat_natCast]
    rw [← hcp]
    have HF := Lib.hid (fun w1 (hb : Below w.heap.size w w1) => (hf.below hb).look p (by omega))
    have HH := Lib.hid (fun w1 (hb : Below w.heap.size w w1) => (h.below hb).head.cell (j := 1) rfl)
    clear hk hc hcp ho
    generalize hK (H.st.head (p : Int)) = kk at *
    go_enter Try.func69, Try.ntmps69
    go_wp2_with (first | (go_at_call 52; refine h1.mono ?_; rintro e w1 ⟨rfl, rfl⟩) | (go_at_call 36; refine h2.mono ?_; rintro e w1 ⟨rfl, hb⟩; have hr := HF.out _ hb; have c1 := HH.out _ hb))
    go_ret
    exact ⟨rfl, hb⟩

theorem hStoreIdle {w : World} {O : Nat → Prop} {ph pa ps br bl cm pl : Nat} {H : Hp} (h : HeapB w O ph pa ps br bl cm pl H) (hp : H.phase ≠ 1) (i j v : Int) (hv : fitsW v) : Calls Try.prog 54 #[.pointer (some ⟨ph, 0, none⟩), .int .i64 i, .int .i64 j, .int .i64 v] w fun e w' =>
    e = .returned (.int .i64 (arLoad H.st i j).2) ∧ HeapB w' O ph pa ps br bl cm pl { H with st := arStoreN H.st i j v } ∧ Upd (arB br bl) w w' := by
  have h1 := hArena h
  have h2 := arStore_calls h.arena i j v
  have hst : ∀ p : Nat, ((arStoreN H.st i j v).head p).isSome = true → (H.st.head p).isSome = true := by
    intro p hp2
    by_cases h0 : (arLoad H.st i j).2 = 0
    · obtain ⟨q, u, hq, hu, e1, e2, e3⟩ := arLoad_ok h.arena.ok h0
      rw [e3] at hp2
      simp only [Ar.head] at hp2 ⊢
      by_cases e : q = p
      · subst e
        simp only [Int.toNat_natCast] at hp2 ⊢
        rw [if_pos (by omega)] at hp2
        rw [List.getElem?_set_self (List.getElem?_eq_some_iff.1 hu).1] at hp2
        simp [hdrAt] at hp2
      · rw [if_pos (by omega)] at hp2 ⊢
        simp only [Int.toNat_natCast] at hp2 ⊢
        rwa [List.getElem?_set_ne e] at hp2
    · have : arStoreN H.st i j v = H.st := by simp [arStoreN, h0]
      rwa [this] at hp2
  have hturn := fun w' (hA : IsArena w' pa ps br bl (arStoreN H.st i j v)) (hu : Upd (arB br bl) w w') => h.turnArena hu hA hst
  have HT := Lib.hid hturn
  have HS := Lib.hid (fun w' (hA : IsArena w' pa ps br bl (arStoreN H.st i j v)) (hu : Upd (arB br bl) w w') => hShadeIdle (hturn w' hA hu) hp (ptrAt v))
  clear hst hturn hp
  have k1 := fun w1 => valIsPtr v hv w1
  have k2 := fun w1 => valAt v hv w1
  by_cases h0 : (arLoad H.st i j).2 = 0
  · rw [h0] at h2 ⊢
    clear h0
    generalize hod : oddW v = od at *
    have K1 := Lib.hid k1
    have K2 := Lib.hid k2
    clear k1 k2 hod
    cases od
    · go_enter Try.func54, Try.ntmps54
      go_wp2_with (first | (go_at_call 52; refine h1.mono ?_; rintro e w1 ⟨rfl, rfl⟩) | (go_at_call 27; refine h2.mono ?_; rintro e w1 ⟨rfl, hA, hu⟩) | (go_at_call 104; refine (K1.out _).mono ?_; rintro e w2 ⟨rfl, rfl⟩))
      go_ret
      exact ⟨rfl, HT.out _ hA hu, hu⟩
    · go_enter Try.func54, Try.ntmps54
      go_wp2_with (first | (go_at_call 52; refine h1.mono ?_; rintro e w1 ⟨rfl, rfl⟩) | (go_at_call 27; refine h2.mono ?_; rintro e w1 ⟨rfl, hA, hu⟩) | (go_at_call 104; refine (K1.out _).mono ?_; rintro e w2 ⟨rfl, rfl⟩) | (go_at_call 106; refine (K2.out _).mono ?_; rintro e w2 ⟨rfl, rfl⟩) | (go_at_call 105; refine (HS.out _ hA hu).mono ?_; rintro e w2 ⟨rfl, rfl⟩))
      go_ret
      exact ⟨rfl, HT.out _ hA hu, hu⟩
  · have hne : ((arLoad H.st i j).2 != 0) = true := by rw [bne_iff_ne]; exact h0
    clear h0 k1 k2
    generalize (arLoad H.st i j).2 = er at *
    go_enter Try.func54, Try.ntmps54
    go_wp2_with (first | (go_at_call 52; refine h1.mono ?_; rintro e w1 ⟨rfl, rfl⟩) | (go_at_call 27; refine h2.mono ?_; rintro e w1 ⟨rfl, hA, hu⟩))
    go_ret
    exact ⟨rfl, HT.out _ hA hu, hu⟩

theorem hPhase {w : World} {O : Nat → Prop} {ph pa ps br bl cm pl : Nat} {H : Hp} (h : HeapB w O ph pa ps br bl cm pl H) : Calls Try.prog 72 #[.pointer (some ⟨ph, 0, none⟩)] w fun e w' => e = .returned (.int .i64 H.phase) ∧ w = w' := by
  have c0 := h.head.cell (j := 3) rfl
  go_enter Try.func72, Try.ntmps72
  go_wp2
  go_ret
  exact ⟨rfl, rfl⟩
theorem hCycles {w : World} {O : Nat → Prop} {ph pa ps br bl cm pl : Nat} {H : Hp} (h : HeapB w O ph pa ps br bl cm pl H) : Calls Try.prog 74 #[.pointer (some ⟨ph, 0, none⟩)] w fun e w' => e = .returned (.int .i64 H.ends) ∧ w = w' := by
  have c0 := h.head.cell (j := 5) rfl
  go_enter Try.func74, Try.ntmps74
  go_wp2
  go_ret
  exact ⟨rfl, rfl⟩
theorem greyNew (w : World) : Calls Try.prog 103 #[] w fun e w' => e = .returned (.pointer (some ⟨w.heap.size, 0, none⟩)) ∧ w' = w.alloc (.cells #[.slice none 0 0, .string ⟨#[]⟩, .bool false] 169) := by
  go_enter Try.func103, Try.ntmps103
  go_wp2
  go_ret
  exact ⟨rfl, rfl⟩

def hpB (cm br bl : Nat) : Nat → Prop := fun k => k = cm ∨ k = br ∨ k = bl
theorem hAlloc {w : World} {O : Nat → Prop} {ph pa ps br bl cm pl : Nat} {H : Hp} (h : HeapB w O ph pa ps br bl cm pl H) (k n : Int) : Calls Try.prog 53 #[.pointer (some ⟨ph, 0, none⟩), .int .i64 k, .int .i64 n] w fun e w' =>
    e = .returned (.tuple #[.int .i64 (arAllocV H.st k n).1, .int .i64 (arAllocV H.st k n).2]) ∧ HeapB w' O ph pa ps br bl cm pl (hpAlloc H k n) ∧ Upd (hpB cm br bl) w w' := by
  have h2 := arAlloc_calls h.arena k n
  have c0 := h.head.cell (j := 0) rfl
  have hsm := h.arena.small
  by_cases h0 : (arAllocV H.st k n).2 = 0
  · obtain ⟨p, hp, hpl, hk1, hk6, hn0, hn32, hfit, hhd, hold, hnew, _⟩ := arAlloc_at h.arena.ok k n h0
    have e1 : hpAlloc H k n = { H with st := arAllocN H.st k n, col := setCol H.col p (if H.phase = 0 then 0 else 2) } := by
      unfold hpAlloc; rw [if_pos h0, hp]; rfl
    rw [e1, h0, hp]
    rw [h0, hp] at h2
    obtain ⟨f, hf, hc⟩ := h.map
    obtain ⟨v, hl, hv⟩ := h.list
    have hfN : ∀ x : Int, ∀ q : Nat, ((arAllocN H.st k n).head q).isSome = true → (if q = p then x else f q) = setCol H.col p x q := by
      intro x q hq
      unfold setCol
      split
      · rfl
      · rename_i hne; exact hc q (hnew q hne hq)
    -- the map behind each store
    have key : ∀ w1, IsArena w1 pa ps br bl (arAllocN H.st k n) → Upd (arB br bl) w w1 → IsMapI w1 cm f ∧ w1.cell? ⟨ph, 1, none⟩ = some (.map (some cm)) ∧ w1.cell? ⟨ph, 3, none⟩ = some (.int .i64 H.phase) ∧
        ∀ w2 (x : Int), IsMapI w2 cm (fun q => if q = p then x else f q) → Upd (· = cm) w1 w2 → HeapB w2 O ph pa ps br bl cm pl { H with st := arAllocN H.st k n, col := setCol H.col p x } ∧ w2.cell? ⟨ph, 1, none⟩ = some (.map (some cm)) ∧ w2.cell? ⟨ph, 3, none⟩ = some (.int .i64 H.phase) := by
      intro w1 hA hu
      have n0 : ¬ arB br bl ph := by rintro (e | e); exact h.head.apart h.arena.spans.rows (by decide) e; exact h.head.apart h.arena.cells (by decide) e
      have n2 : ¬ arB br bl cm := by rintro (e | e); exact hf.apart h.arena.spans.rows e; exact hf.apart h.arena.cells e
      have n3 : ¬ arB br bl pl := by rintro (e | e); exact hl.apart h.arena.spans.rows (by decide) e; exact hl.apart h.arena.cells (by decide) e
      have hf1 := hf.upd hu n2
      have hh1 := hu.arr h.head n0
      have hl1 := hu.arr hl n3
      have hv1 : IntSv w1 O v H.gl := (hv.rows.upd hu (fun k hk => by
        rintro (e | e)
        · exact h.arena.spans.rows.notRow (by decide) (e ▸ hk.2)
        · exact h.arena.cells.notRow (by decide) (e ▸ hk.2))).mono (fun k hk => hk.1)
      refine ⟨hf1, hh1.cell (j := 1) rfl, hh1.cell (j := 3) rfl, fun w2 x hm hu2 => ?_⟩
      obtain ⟨x0, hx0, _⟩ := hA.spans.head
      have hh2 := hu2.arr hh1 (fun e => hf1.apart hh1 e.symm)
      have hv2 : IntSv w2 O v H.gl := (hv1.rows.upd hu2 (fun k hk e => by
        subst e
        obtain ⟨n, D, ⟨es, clock, h1, _⟩, _⟩ := hf1
        obtain ⟨cur, h2⟩ := hk.2
        rw [h1] at h2; cases h2)).mono (fun k hk => hk.1)
      exact ⟨⟨hh2, hA.upd hu2 (fun e => hf1.apart hA.head e.symm) (fun e => hf1.apart hx0 e.symm) (fun e => hf1.apart hA.spans.rows e.symm) (fun e => hf1.apart hA.cells e.symm), ⟨_, hm, hfN x⟩, ⟨v, hu2.arr hl1 (fun e => hf1.apart hl1 e.symm), hv2⟩, h.glen, h.own, fun k hk => Nat.lt_of_lt_of_le (h.lt k hk) (Nat.le_trans hu.size hu2.size)⟩, hh2.cell (j := 1) rfl, hh2.cell (j := 3) rfl⟩
    have HKEY := Lib.hid key
    have HP : p < 4096 := by omega
    clear key hfN hold hnew hhd hp h0 e1 hc hl hv hf
    by_cases hph : H.phase = 0
    · have hphb : (H.phase == 0) = true := by rw [beq_iff_eq]; exact hph
      rw [if_pos hph]
      clear hph
      go_enter Try.func53, Try.ntmps53
      go_wp2_with (go_at_call 29; refine h2.mono ?_; rintro e w1 ⟨rfl, hA, hu⟩; obtain ⟨k1, k2, k3, k4⟩ := HKEY.out w1 hA hu; have K4 := Lib.hid k4; clear k4; obtain ⟨w2, hrun, k5, k6⟩ := k1.store p HP 2 (by omega) (by omega); obtain ⟨k7, k8, k9⟩ := K4.out w2 2 k5 k6; obtain ⟨w3, hrun2, k10, k11⟩ := k5.store p HP 0 (by omega) (by omega))
      go_ret2
      have e3 : (fun q => if q = p then 0 else if q = p then 2 else f q) = (fun q => if q = p then (0 : Int) else f q) := by funext q; split <;> rfl
      rw [e3] at k10
      refine ⟨rfl, (K4.out w3 0 k10 (k6.then k11)).1, ?_⟩
      exact ((hu.mono (T := hpB cm br bl) (fun i hi => .inl (.inr hi))).then ((k6.then k11).mono (fun i hi => .inl (.inl hi))))
    · have hphb : (H.phase == 0) = false := by rw [beq_eq_false_iff_ne]; exact hph
      rw [if_neg hph]
      clear hph
      go_enter Try.func53, Try.ntmps53
      go_wp2_with (go_at_call 29; refine h2.mono ?_; rintro e w1 ⟨rfl, hA, hu⟩; obtain ⟨k1, k2, k3, k4⟩ := HKEY.out w1 hA hu; have K4 := Lib.hid k4; clear k4; obtain ⟨w2, hrun, k5, k6⟩ := k1.store p HP 2 (by omega) (by omega); obtain ⟨k7, k8, k9⟩ := K4.out w2 2 k5 k6)
      go_ret2
      refine ⟨rfl, k7, ?_⟩
      exact ((hu.mono (T := hpB cm br bl) (fun i hi => .inl (.inr hi))).then (k6.mono (fun i hi => .inl (.inl hi))))
  · have e1 : hpAlloc H k n = H := by unfold hpAlloc; rw [if_neg h0]
    have e2 : arAllocN H.st k n = H.st := by rw [← hpAlloc_st, e1]
    have hne : ((arAllocV H.st k n).2 != 0) = true := by rw [bne_iff_ne]; exact h0
    have e3 : (arAllocV H.st k n).1 = 0 := by
      unfold arAllocV at h0 ⊢
      split
      · rfl
      · rename_i hb
        rw [if_neg hb] at h0
        cases hs : spAlloc H.st.rows (clsI n) with
        | none => rfl
        | some x => rw [hs] at h0; simp at h0
    rw [e1, e3]
    rw [e2, e3] at h2
    have HT := Lib.hid (fun w1 (hA : IsArena w1 pa ps br bl H.st) (hu : Upd (arB br bl) w w1) => h.turnArena hu hA (fun _ hp => hp))
    clear e1 e2 e3 h0
    generalize (arAllocV H.st k n).2 = er at *
    go_enter Try.func53, Try.ntmps53
    go_wp2_with (go_at_call 29; refine h2.mono ?_; rintro e w1 ⟨rfl, hA, hu⟩)
    go_ret2
    exact ⟨rfl, HT.out _ hA hu, hu.mono (T := hpB cm br bl) (fun i hi => .inl (.inr hi))⟩

def HpNewPost (n : Nat) (w : World) (e : Ending) (w' : World) : Prop :=
  ∃ ph pa ps br bl cm pl, e = .returned (.tuple #[.pointer (some ⟨ph, 0, none⟩), .int .i64 0]) ∧ HeapB w' (fun k => w.heap.size ≤ k ∧ k < w'.heap.size) ph pa ps br bl cm pl (hpNew n) ∧ Below w.heap.size w w'
theorem hNew (n : Nat) (h2 : 2 ≤ n) (h128 : n ≤ 128) (w : World) : Calls Try.prog 51 #[.int .i64 n] w (HpNewPost n w) := by
  have hmm := @run_makeMap Try.prog
  have hg := greyNew
  have HG := Lib.hid hg
  clear hg
  go_enter Try.func51, Try.ntmps51
  go_wp2_with fail
  refine (arNew_calls n h2 h128 w).mono ?_
  rintro e w1 ⟨pa, ps, br, bl, rfl, hA, b1, b2, b3, b4, hb1⟩
  go_wp2_with (go_at_call 103; refine (HG.out _).mono ?_; rintro e w2 ⟨rfl, rfl⟩)
  go_ret2
  have hz := hb1.size
  have hB2 := hb1.alloc hb1.size (.map #[] 0)
  have hB3 := hB2.alloc hB2.size (.cells #[.slice none 0 0, .string ⟨#[]⟩, .bool false] 169)
  have hB4 := hB3.alloc hB3.size (.cells #[.pointer (some ⟨pa, 0, none⟩), .map (some w1.heap.size), .pointer (some ⟨w1.heap.size + 1, 0, none⟩), .int .i64 0, .int .i64 0, .int .i64 0] 147)
  have hA4 := ((hA.below ((Below.refl _ w1).alloc (Nat.le_refl _) (.map #[] 0))).below ((Below.refl _ _).alloc (Nat.le_refl _) (.cells #[.slice none 0 0, .string ⟨#[]⟩, .bool false] 169))).below ((Below.refl _ _).alloc (Nat.le_refl _) (.cells #[.pointer (some ⟨pa, 0, none⟩), .map (some w1.heap.size), .pointer (some ⟨w1.heap.size + 1, 0, none⟩), .int .i64 0, .int .i64 0, .int .i64 0] 147))
  have hM := ((IsMapI.made w1).below ((Below.refl _ _).alloc (Nat.le_refl _) (.cells #[.slice none 0 0, .string ⟨#[]⟩, .bool false] 169))).below ((Below.refl _ _).alloc (Nat.le_refl _) (.cells #[.pointer (some ⟨pa, 0, none⟩), .map (some w1.heap.size), .pointer (some ⟨w1.heap.size + 1, 0, none⟩), .int .i64 0, .int .i64 0, .int .i64 0] 147))
  have hL := (Arr.made (w1.alloc (.map #[] 0)) 169 [.slice none 0 0, .string ⟨#[]⟩, .bool false]).alloc (.cells #[.pointer (some ⟨pa, 0, none⟩), .map (some w1.heap.size), .pointer (some ⟨w1.heap.size + 1, 0, none⟩), .int .i64 0, .int .i64 0, .int .i64 0] 147)
  have hH := Arr.made ((w1.alloc (.map #[] 0)).alloc (.cells #[.slice none 0 0, .string ⟨#[]⟩, .bool false] 169)) 147 [.pointer (some ⟨pa, 0, none⟩), .map (some w1.heap.size), .pointer (some ⟨w1.heap.size + 1, 0, none⟩), .int .i64 0, .int .i64 0, .int .i64 0]
  have z1 : (w1.alloc (.map #[] 0)).heap.size = w1.heap.size + 1 := by simp
  have z2 : ((w1.alloc (.map #[] 0)).alloc (.cells #[.slice none 0 0, .string ⟨#[]⟩, .bool false] 169)).heap.size = w1.heap.size + 1 + 1 := by simp
  rw [z1] at hL
  rw [z2] at hH
  have a1 := hA.head.lt
  have a2 : ps < w1.heap.size := by obtain ⟨_, hh, _⟩ := hA.spans.head; exact hh.lt
  have a3 := hA.spans.rows.lt
  have a4 := hA.cells.lt
  refine ⟨w1.heap.size + 1 + 1, pa, ps, br, bl, w1.heap.size, w1.heap.size + 1, rfl, ⟨hH, hA4, ⟨_, hM, fun p _ => rfl⟩, ⟨_, hL, IntSv.nil _ _⟩, by simp [hpNew], ?_, fun k hk => hk.2⟩, hB4⟩
  have z3 : (((w1.alloc (.map #[] 0)).alloc (.cells #[.slice none 0 0, .string ⟨#[]⟩, .bool false] 169)).alloc (.cells #[.pointer (some ⟨pa, 0, none⟩), .map (some w1.heap.size), .pointer (some ⟨w1.heap.size + 1, 0, none⟩), .int .i64 0, .int .i64 0, .int .i64 0] 147)).heap.size = w1.heap.size + 3 := by simp
  intro k hk
  show _ ∧ k < (((w1.alloc (.map #[] 0)).alloc (.cells #[.slice none 0 0, .string ⟨#[]⟩, .bool false] 169)).alloc (.cells #[.pointer (some ⟨pa, 0, none⟩), .map (some w1.heap.size), .pointer (some ⟨w1.heap.size + 1, 0, none⟩), .int .i64 0, .int .i64 0, .int .i64 0] 147)).heap.size
  rw [z3]
  rcases hk with rfl | rfl | rfl | rfl | rfl | rfl | rfl <;> omega
end Go.Proofs.Ytccaegiceneegaa
