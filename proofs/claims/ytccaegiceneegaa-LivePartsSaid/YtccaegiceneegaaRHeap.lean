/- The walks of the document's heap: made, allotted, stored while no cycle goes on. No conditions. -/
import Derived.Test.YtccaegiceneegaaRArenaD
import Derived.Test.YtccaegiceneegaaVal
import Derived.Test.YtccaegiceneegaaSl
import Derived.Test.YtccaegiceneegaaHpL
namespace Go.Proofs.Ytccaegiceneegaa
open Go.RowKit

/-- the document's heap lies at rh: its arena at ra, the colours at cb, the list at rg -/
structure RHeapB (w : World) (O : Nat → Prop) (rh ra rs rc rl rw cb rg : Nat) (H : Hp) : Prop where
  head : Arr w rh 69 [.pointer (some ⟨ra, 0, none⟩), .slice (some ⟨cb, 0, none⟩) H.st.cells.length H.st.cells.length, .pointer (some ⟨rg, 0, none⟩), .int .i64 H.phase, .int .i64 H.span, .int .i64 H.ends]
  arena : IsRArena w ra rs rc rl rw H.st
  cols : ∃ C : List Int, Arr w cb 3 (ints C) ∧ C.length = H.st.cells.length ∧ ∀ p : Nat, (H.st.head p).isSome = true → C[p]? = some (H.col p)
  list : ∃ v, Arr w rg 166 [v, .bool H.over] ∧ IntSv w (fun k => O k ∧ k ≠ cb ∧ k ≠ rc ∧ k ≠ rw) v H.gl
  glen : H.gl.length ≤ 8
  ne1 : cb ≠ rc
  ne2 : cb ≠ rw
  own : ∀ k, k = rh ∨ k = ra ∨ k = rs ∨ k = rc ∨ k = rl ∨ k = rw ∨ k = cb ∨ k = rg → O k
  lt : ∀ k, O k → k < w.heap.size

theorem RHeapB.upd {w w' : World} {O : Nat → Prop} {rh ra rs rc rl rw cb rg : Nat} {H : Hp} (h : RHeapB w O rh ra rs rc rl rw cb rg H) {S : Nat → Prop} (hu : Upd S w w') (hs : ∀ k, O k → ¬ S k) : RHeapB w' O rh ra rs rc rl rw cb rg H := by
  obtain ⟨C, hC, hl, hc⟩ := h.cols
  obtain ⟨v, hg, hv⟩ := h.list
  have ho := h.own
  exact ⟨hu.arr h.head (hs _ (ho _ (by simp))), h.arena.upd hu (hs _ (ho _ (by simp))) (hs _ (ho _ (by simp))) (hs _ (ho _ (by simp))) (hs _ (ho _ (by simp))) (hs _ (ho _ (by simp))), ⟨C, hu.arr hC (hs _ (ho _ (by simp))), hl, hc⟩, ⟨v, hu.arr hg (hs _ (ho _ (by simp))), hv.upd hu (fun k hk => hs k hk.1)⟩, h.glen, h.ne1, h.ne2, ho, fun k hk => Nat.lt_of_lt_of_le (h.lt k hk) hu.size⟩
theorem RHeapB.below {w w' : World} {O : Nat → Prop} {rh ra rs rc rl rw cb rg : Nat} {H : Hp} (h : RHeapB w O rh ra rs rc rl rw cb rg H) (hb : Below w.heap.size w w') : RHeapB w' O rh ra rs rc rl rw cb rg H :=
  h.upd (Upd.of_below (S := fun _ => False) hb) (fun _ _ h => h)
/-- the arena alone turned -/
theorem RHeapB.turnArena {w w' : World} {O : Nat → Prop} {rh ra rs rc rl rw cb rg : Nat} {H : Hp} (h : RHeapB w O rh ra rs rc rl rw cb rg H) (hu : Upd (arR rc rl rw) w w') {st : Ar} (hA : IsRArena w' ra rs rc rl rw st) (hlen : st.cells.length = H.st.cells.length) (hs : ∀ p : Nat, (st.head p).isSome = true → (H.st.head p).isSome = true) : RHeapB w' O rh ra rs rc rl rw cb rg { H with st := st } := by
  obtain ⟨C, hC, hl, hc⟩ := h.cols
  obtain ⟨v, hg, hv⟩ := h.list
  obtain ⟨W, hW, _⟩ := h.arena.words
  have r1 := h.arena.spans.cls
  have r2 := h.arena.spans.slots
  have n1 : ¬ arR rc rl rw rh := by rintro (e | e | e); exact h.head.apart r1 (by decide) e; exact h.head.apart r2 (by decide) e; exact h.head.apart hW (by decide) e
  have n2 : ¬ arR rc rl rw cb := by rintro (e | e | e); exact h.ne1 e; exact hC.apart r2 (by decide) e; exact h.ne2 e
  have n3 : ¬ arR rc rl rw rg := by rintro (e | e | e); exact hg.apart r1 (by decide) e; exact hg.apart r2 (by decide) e; exact hg.apart hW (by decide) e
  have hv' : IntSv w' (fun k => O k ∧ k ≠ cb ∧ k ≠ rc ∧ k ≠ rw) v H.gl := (hv.rows.upd hu (fun k hk => by
    rintro (e | e | e)
    · exact hk.1.2.2.1 e
    · exact r2.notRow (by decide) (e ▸ hk.2)
    · exact hk.1.2.2.2 e)).mono (fun k hk => hk.1)
  have hh := hu.arr h.head n1
  refine ⟨?_, hA, ⟨C, hu.arr hC n2, by rw [hl]; exact hlen.symm, fun p hp => hc p (hs p hp)⟩, ⟨v, hu.arr hg n3, hv'⟩, h.glen, h.ne1, h.ne2, h.own, fun k hk => Nat.lt_of_lt_of_le (h.lt k hk) hu.size⟩
  show Arr w' rh _ [_, .slice _ st.cells.length st.cells.length, _, _, _, _]
  rw [hlen]; exact hh

theorem setCol_twice (f : Nat → Int) (p : Nat) (x y : Int) : setCol (setCol f p x) p y = setCol f p y := by
  funext q; unfold setCol; split <;> simp_all
/-- a colour turned -/
theorem RHeapB.colour {w : World} {O : Nat → Prop} {rh ra rs rc rl rw cb rg : Nat} {H : Hp} (h : RHeapB w O rh ra rs rc rl rw cb rg H) {p : Nat} (hp : p < H.st.cells.length) (x : Int) : RHeapB (w.setCell ⟨cb, p, none⟩ (.int .i64 x)) O rh ra rs rc rl rw cb rg { H with col := setCol H.col p x } := by
  obtain ⟨C, hC, hCl, hc⟩ := h.cols
  obtain ⟨v, hg, hv⟩ := h.list
  obtain ⟨W, hW, _⟩ := h.arena.words
  obtain ⟨y0, y1, hy, _⟩ := h.arena.spans.head
  have hu := upd_setCell w cb p (.int .i64 x)
  have hpC : p < (ints C).length := by simp; omega
  have hset := hC.set hpC (.int .i64 x)
  have e4 : (ints C).set p (.int .i64 x) = ints (C.set p x) := by simp [ints]
  rw [e4] at hset
  refine ⟨hu.arr h.head (h.head.apart hC (by decide)), h.arena.upd hu (h.arena.head.apart hC (by decide)) (hy.apart hC (by decide)) (fun e => h.ne1 e.symm) (h.arena.spans.slots.apart hC (by decide)) (fun e => h.ne2 e.symm), ⟨C.set p x, hset, by simpa using hCl, fun q hq => ?_⟩, ⟨v, hu.arr hg (hg.apart hC (by decide)), hv.upd hu (fun k hk => hk.2.1)⟩, h.glen, h.ne1, h.ne2, h.own, fun k hk => Nat.lt_of_lt_of_le (h.lt k hk) hu.size⟩
  by_cases e : q = p
  · subst e
    rw [List.getElem?_set_self (by simpa using hpC)]; simp [setCol]
  · rw [List.getElem?_set_ne (fun e2 => e e2.symm)]
    simp only [setCol, if_neg e]
    exact hc q hq
theorem rShadeIdle {w : World} {O : Nat → Prop} {rh ra rs rc rl rw cb rg : Nat} {H : Hp} (h : RHeapB w O rh ra rs rc rl rw cb rg H) (hp : H.phase ≠ 1) (i : Int) : Calls Try.prog 123 #[.pointer (some ⟨rh, 0, none⟩), .int .i64 i] w fun e w' =>
    e = .returned (.tuple #[]) ∧ w = w' := by
  have c3 := h.head.cell (j := 3) rfl
  have hne : (H.phase == 1) = false := by rw [beq_eq_false_iff_ne]; exact hp
  clear hp
  go_enter Try.func123, Try.ntmps123
  go_wp2
  exact bodyPost_end (results_none rfl _ _ _) rfl ⟨rfl, rfl⟩

theorem arStore_len (st : Ar) (i j v : Int) : (arStoreN st i j v).cells.length = st.cells.length := by unfold arStoreN; split <;> simp

theorem rStoreIdle {w : World} {O : Nat → Prop} {rh ra rs rc rl rw cb rg : Nat} {H : Hp} (h : RHeapB w O rh ra rs rc rl rw cb rg H) (hp : H.phase ≠ 1) (i j v : Int) (hv : fitsW v) : Calls Try.prog 96 #[.pointer (some ⟨rh, 0, none⟩), .int .i64 i, .int .i64 j, .int .i64 v] w fun e w' =>
    e = .returned (.int .i64 (arLoad H.st i j).2) ∧ RHeapB w' O rh ra rs rc rl rw cb rg { H with st := arStoreN H.st i j v } ∧ Upd (arR rc rl rw) w w' := by
  have h2 := rStore h.arena i j v
  have c0 := h.head.cell (j := 0) rfl
  have hturn := fun w' (hA : IsRArena w' ra rs rc rl rw (arStoreN H.st i j v)) (hu : Upd (arR rc rl rw) w w') => h.turnArena hu hA (arStore_len _ _ _ _) (fun p hp => by rwa [arStore_head h.arena.ok] at hp)
  have HT := Lib.hid hturn
  have HS := Lib.hid (fun w' (hA : IsRArena w' ra rs rc rl rw (arStoreN H.st i j v)) (hu : Upd (arR rc rl rw) w w') => rShadeIdle (hturn w' hA hu) hp (ptrAt v))
  clear hturn hp
  have k1 := fun w1 => rIsPtr v w1
  have k2 := fun w1 => rAt v hv w1
  by_cases h0 : (arLoad H.st i j).2 = 0
  · rw [h0] at h2 ⊢
    clear h0
    generalize hod : oddW v = od at *
    have K1 := Lib.hid k1
    have K2 := Lib.hid k2
    clear k1 k2 hod
    cases od
    · go_enter Try.func96, Try.ntmps96
      go_wp2_with (first | (go_at_call 28; refine h2.mono ?_; rintro e w1 ⟨rfl, hA, hu⟩) | (go_at_call 77; refine (K1.out _).mono ?_; rintro e w2 ⟨rfl, rfl⟩))
      go_ret
      exact ⟨rfl, HT.out _ hA hu, hu⟩
    · go_enter Try.func96, Try.ntmps96
      go_wp2_with (first | (go_at_call 28; refine h2.mono ?_; rintro e w1 ⟨rfl, hA, hu⟩) | (go_at_call 77; refine (K1.out _).mono ?_; rintro e w2 ⟨rfl, rfl⟩) | (go_at_call 100; refine (K2.out _).mono ?_; rintro e w2 ⟨rfl, rfl⟩) | (go_at_call 123; refine (HS.out _ hA hu).mono ?_; rintro e w2 ⟨rfl, rfl⟩))
      go_ret
      exact ⟨rfl, HT.out _ hA hu, hu⟩
  · have hne : ((arLoad H.st i j).2 == 0) = false := by rw [beq_eq_false_iff_ne]; exact h0
    clear h0 k1 k2
    generalize (arLoad H.st i j).2 = er at *
    go_enter Try.func96, Try.ntmps96
    go_wp2_with (go_at_call 28; refine h2.mono ?_; rintro e w1 ⟨rfl, hA, hu⟩)
    go_ret
    exact ⟨rfl, HT.out _ hA hu, hu⟩

def rhB (cb rc rl rw : Nat) : Nat → Prop := fun k => k = cb ∨ k = rc ∨ k = rl ∨ k = rw
theorem rHAlloc {w : World} {O : Nat → Prop} {rh ra rs rc rl rw cb rg : Nat} {H : Hp} (h : RHeapB w O rh ra rs rc rl rw cb rg H) (k n : Int) : Calls Try.prog 97 #[.pointer (some ⟨rh, 0, none⟩), .int .i64 k, .int .i64 n] w fun e w' =>
    e = .returned (.tuple #[.int .i64 (arAllocV H.st k n).1, .int .i64 (arAllocV H.st k n).2]) ∧ RHeapB w' O rh ra rs rc rl rw cb rg (hpAlloc H k n) ∧ Upd (rhB cb rc rl rw) w w' := by
  have h2 := rArAlloc h.arena k n
  have c0 := h.head.cell (j := 0) rfl
  have hsm := h.arena.small
  by_cases h0 : (arAllocV H.st k n).2 = 0
  · obtain ⟨p, hp, hpl, hk1, hk6, hn0, hn32, hfit, hhd, hold, hnew, _, _, _, hlen⟩ := arAlloc_at h.arena.ok k n h0
    have e1 : hpAlloc H k n = { H with st := arAllocN H.st k n, col := setCol H.col p (if H.phase = 0 then 0 else 2) } := by
      unfold hpAlloc; rw [if_pos h0, hp]; rfl
    rw [e1, h0, hp]
    rw [h0, hp] at h2
    obtain ⟨C, hC, hCl, hc⟩ := h.cols
    obtain ⟨v, hg, hv⟩ := h.list
    obtain ⟨W, hW, _⟩ := h.arena.words
    have r1 := h.arena.spans.cls
    have r2 := h.arena.spans.slots
    have n1 : ¬ arR rc rl rw rh := by rintro (e | e | e); exact h.head.apart r1 (by decide) e; exact h.head.apart r2 (by decide) e; exact h.head.apart hW (by decide) e
    have n2 : ¬ arR rc rl rw cb := by rintro (e | e | e); exact h.ne1 e; exact hC.apart r2 (by decide) e; exact h.ne2 e
    have n3 : ¬ arR rc rl rw rg := by rintro (e | e | e); exact hg.apart r1 (by decide) e; exact hg.apart r2 (by decide) e; exact hg.apart hW (by decide) e
    have hpC : p < (ints C).length := by simp; omega
    have key : ∀ w1, IsRArena w1 ra rs rc rl rw (arAllocN H.st k n) → Upd (arR rc rl rw) w w1 → (∃ z : Int, w1.cell? ⟨cb, p, none⟩ = some (.int .i64 z)) ∧ w1.frozen? ⟨cb, p, none⟩ = false ∧ w1.cell? ⟨rh, 1, none⟩ = some (.slice (some ⟨cb, 0, none⟩) H.st.cells.length H.st.cells.length) ∧ w1.cell? ⟨rh, 3, none⟩ = some (.int .i64 H.phase) ∧ rh ≠ cb ∧ cb < w1.heap.size ∧
        ∀ x : Int, RHeapB (w1.setCell ⟨cb, p, none⟩ (.int .i64 x)) O rh ra rs rc rl rw cb rg { H with st := arAllocN H.st k n, col := setCol H.col p x } := by
      intro w1 hA hu
      have hC1 := hu.arr hC n2
      have hh1 := hu.arr h.head n1
      have hg1 := hu.arr hg n3
      obtain ⟨W1, hW1, _⟩ := hA.words
      obtain ⟨y0, y1, hy, _⟩ := hA.spans.head
      have hv1 : IntSv w1 (fun k => O k ∧ k ≠ cb ∧ k ≠ rc ∧ k ≠ rw) v H.gl := (hv.rows.upd hu (fun k hk => by
        rintro (e | e | e)
        · exact hk.1.2.2.1 e
        · exact r2.notRow (by decide) (e ▸ hk.2)
        · exact hk.1.2.2.2 e)).mono (fun k hk => hk.1)
      refine ⟨⟨C[p]'(by simpa using hpC), hC1.cell (by simp [ints])⟩, hC1.frozen p, hh1.cell (j := 1) rfl, hh1.cell (j := 3) rfl, hh1.apart hC1 (by decide), hC1.lt, fun x => ?_⟩
      have hu2 := upd_setCell w1 cb p (.int .i64 x)
      have hset := hC1.set hpC (.int .i64 x)
      have e4 : (ints C).set p (.int .i64 x) = ints (C.set p x) := by simp [ints]
      rw [e4] at hset
      refine ⟨?_, hA.upd hu2 (hA.head.apart hC1 (by decide)) (hy.apart hC1 (by decide)) (fun e => h.ne1 e.symm) (hA.spans.slots.apart hC1 (by decide)) (fun e => h.ne2 e.symm), ⟨C.set p x, hset, by simp only [List.length_set]; rw [hCl]; exact hlen.symm, fun q hq => ?_⟩, ⟨v, hu2.arr hg1 (hg1.apart hC1 (by decide)), hv1.upd hu2 (fun k hk => hk.2.1)⟩, h.glen, h.ne1, h.ne2, h.own, fun k hk => Nat.lt_of_lt_of_le (h.lt k hk) (Nat.le_trans hu.size hu2.size)⟩
      · have := hu2.arr hh1 (hh1.apart hC1 (by decide))
        show Arr _ rh _ [_, .slice _ (arAllocN H.st k n).cells.length (arAllocN H.st k n).cells.length, _, _, _, _]
        rw [hlen]; exact this
      · by_cases e : q = p
        · subst e
          rw [List.getElem?_set_self (by simpa using hpC)]; simp [setCol]
        · rw [List.getElem?_set_ne (fun e2 => e e2.symm)]
          simp only [setCol, if_neg e]
          exact hc q (hnew q e hq)
    have HKEY := Lib.hid key
    have HPL : p < H.st.cells.length := hpl
    have HLEN : (arAllocN H.st k n).cells.length = H.st.cells.length := hlen
    have HLEN := Lib.hid HLEN
    clear key hold hnew hhd hp h0 e1 hc hC hCl hg hv hW r1 r2 n1 n2 n3 hpC hlen
    by_cases hph : H.phase = 0
    · have hphb : (H.phase != 0) = false := by rw [hph]; rfl
      rw [if_pos hph]
      clear hph
      go_enter Try.func97, Try.ntmps97
      go_wp2_with (go_at_call 30; refine h2.mono ?_; rintro e w1 ⟨rfl, hA, hu⟩; obtain ⟨⟨z, k1⟩, k2, k3, k4, k5, k6, k7⟩ := HKEY.out w1 hA hu; have K7 := Lib.hid (k7 0); clear k7)
      go_ret2
      exact ⟨rfl, K7.out, (hu.mono (T := rhB cb rc rl rw) (fun i hi => .inl (.inr hi))).then ((upd_setCell _ _ _ _).mono (fun i hi => .inl (.inl hi)))⟩
    · have hphb : (H.phase != 0) = true := by rw [bne_iff_ne]; exact hph
      rw [if_neg hph]
      clear hph
      go_enter Try.func97, Try.ntmps97
      go_wp2_with (go_at_call 30; refine h2.mono ?_; rintro e w1 ⟨rfl, hA, hu⟩; obtain ⟨⟨z, k1⟩, k2, k3, k4, k5, k6, k7⟩ := HKEY.out w1 hA hu; have K7 := Lib.hid (k7 0); clear k7)
      go_ret2
      have hlen2 : p < (arAllocN H.st k n).cells.length := by rw [HLEN.out]; exact HPL
      have K8 := RHeapB.colour K7.out (p := p) hlen2 2
      simp only [setCol_twice] at K8
      exact ⟨rfl, K8, ((hu.mono (T := rhB cb rc rl rw) (fun i hi => .inl (.inr hi))).then ((upd_setCell _ _ _ _).mono (fun i hi => .inl (.inl hi)))).then ((upd_setCell _ _ _ _).mono (fun i hi => .inl (.inl hi)))⟩
  · have e1 : hpAlloc H k n = H := by unfold hpAlloc; rw [if_neg h0]
    have e2 : arAllocN H.st k n = H.st := by rw [← hpAlloc_st, e1]
    have hne : ((arAllocV H.st k n).2 != 0) = true := by rw [bne_iff_ne]; exact h0
    have e3 : (arAllocV H.st k n).1 = 0 := by
      unfold arAllocV at h0 ⊢
      split
      · rfl
      · rename_i hb
        rw [if_neg hb] at h0
        cases hs : spAlloc H.st.rows (clsI n) with
        | none => rfl
        | some x => rw [hs] at h0; simp at h0
    rw [e1, e3]
    rw [e2, e3] at h2
    have HT := Lib.hid (fun w1 (hA : IsRArena w1 ra rs rc rl rw H.st) (hu : Upd (arR rc rl rw) w w1) => h.turnArena hu hA rfl (fun _ hp => hp))
    clear e1 e2 e3 h0
    generalize (arAllocV H.st k n).2 = er at *
    go_enter Try.func97, Try.ntmps97
    go_wp2_with (go_at_call 30; refine h2.mono ?_; rintro e w1 ⟨rfl, hA, hu⟩)
    go_ret2
    exact ⟨rfl, HT.out _ hA hu, hu.mono (T := rhB cb rc rl rw) (fun i hi => .inl (.inr hi))⟩

def RHpNewPost (n : Nat) (w : World) (e : Ending) (w' : World) : Prop :=
  ∃ rh ra rs rc rl rw cb rg, e = .returned (.tuple #[.pointer (some ⟨rh, 0, none⟩), .int .i64 0]) ∧ RHeapB w' (fun k => w.heap.size ≤ k ∧ k < w'.heap.size) rh ra rs rc rl rw cb rg (hpNew n) ∧ Below w.heap.size w w'
theorem rHNew (n : Nat) (h2 : 2 ≤ n) (h128 : n ≤ 128) (w : World) : Calls Try.prog 95 #[.int .i64 n] w (RHpNewPost n w) := by
  obtain ⟨i0, hi, hz0, hz1, hz2⟩ := info_parts info_int
  have hlen : (arNew n).cells.length = 32 * n := by simp [arNew]
  have hmk := fun wx => make_cells (t := 22) (e := 3) Try.underlying22 hi hz0 hz1 rfl (32 * n) (by rw [hz2]; omega) (by omega) ((32 * n : Nat) : Int) (by omega) wx
  generalize hcs : (List.replicate (32 * n) (Value.int .i64 0)) = cs at *
  have HCS := Lib.hid hcs
  have HLEN := Lib.hid hlen
  clear hcs hlen
  generalize hN : 32 * n = N at *
  have HN := Lib.hid hN
  clear hN
  go_enter Try.func95, Try.ntmps95
  go_wp2_with fail
  refine (rArNew n h2 h128 w).mono ?_
  rintro e w1 ⟨ra, rs, rc, rl, rw, rfl, hA, b1, b2, b3, b4, b5, hb1⟩
  have c1 := hA.head.cell (j := 1) rfl
  rw [HLEN.out] at c1
  have hra := hA.head.lt
  go_wp2
  go_ret2
  have hz := hb1.size
  have B1 := (Below.refl _ w1).alloc (Nat.le_refl _) (.cells cs.toArray 3)
  have B2 := (Below.refl _ (w1.alloc (.cells cs.toArray 3))).alloc (Nat.le_refl _) (.cells #[.slice none 0 0, .bool false] 166)
  have B3 := (Below.refl _ ((w1.alloc (.cells cs.toArray 3)).alloc (.cells #[.slice none 0 0, .bool false] 166))).alloc (Nat.le_refl _) (.cells #[.pointer (some ⟨ra, 0, none⟩), .slice (some ⟨w1.heap.size, 0, none⟩) N N, .pointer (some ⟨w1.heap.size + 1, 0, none⟩), .int .i64 0, .int .i64 0, .int .i64 0] 69)
  have hA4 := ((hA.below B1).below B2).below B3
  have hC := ((Arr.made w1 3 cs).belowAll B2).belowAll B3
  have hL := (Arr.made (w1.alloc (.cells cs.toArray 3)) 166 [.slice none 0 0, .bool false]).belowAll B3
  have hH := Arr.made ((w1.alloc (.cells cs.toArray 3)).alloc (.cells #[.slice none 0 0, .bool false] 166)) 69 [.pointer (some ⟨ra, 0, none⟩), .slice (some ⟨w1.heap.size, 0, none⟩) N N, .pointer (some ⟨w1.heap.size + 1, 0, none⟩), .int .i64 0, .int .i64 0, .int .i64 0]
  have hBB := below_then (below_then (below_then hb1 B1) B2) B3
  have z1 : (w1.alloc (.cells cs.toArray 3)).heap.size = w1.heap.size + 1 := by simp
  have z2 : ((w1.alloc (.cells cs.toArray 3)).alloc (.cells #[.slice none 0 0, .bool false] 166)).heap.size = w1.heap.size + 1 + 1 := by simp
  rw [z1] at hL
  rw [z2] at hH
  have a1 := hA.head.lt
  have a2 : rs < w1.heap.size := by obtain ⟨_, _, hh, _⟩ := hA.spans.head; exact hh.lt
  have a3 := hA.spans.cls.lt
  have a4 := hA.spans.slots.lt
  have a5 : rw < w1.heap.size := by obtain ⟨_, hh, _⟩ := hA.words; exact hh.lt
  have eC : cs = ints (List.replicate N 0) := by rw [← HCS.out]; simp [ints]
  have hC' := hC
  rw [eC] at hC'
  refine ⟨w1.heap.size + 1 + 1, ra, rs, rc, rl, rw, w1.heap.size, w1.heap.size + 1, rfl, ⟨?_, hA4, ⟨List.replicate N 0, ?_, ?_, ?_⟩, ⟨_, hL, IntSv.nil _ _⟩, by simp [hpNew], by omega, by omega, ?_, fun k hk => hk.2⟩, hBB⟩
  · show Arr _ _ _ [_, .slice _ (arNew n).cells.length (arNew n).cells.length, _, _, _, _]
    rw [HLEN.out]; exact hH
  · exact eC ▸ hC
  · show _ = (arNew n).cells.length
    rw [HLEN.out]; simp
  · intro p hp
    obtain ⟨q, hq, hql⟩ := Ar.head_bd hp
    have : p < N := by
      have e := HLEN.out
      have : (hpNew n).st.cells.length = N := e
      omega
    rw [List.getElem?_replicate, if_pos this]; rfl
  · have z3 : (((w1.alloc (.cells cs.toArray 3)).alloc (.cells #[.slice none 0 0, .bool false] 166)).alloc (.cells #[.pointer (some ⟨ra, 0, none⟩), .slice (some ⟨w1.heap.size, 0, none⟩) N N, .pointer (some ⟨w1.heap.size + 1, 0, none⟩), .int .i64 0, .int .i64 0, .int .i64 0] 69)).heap.size = w1.heap.size + 3 := by simp
    intro k hk
    show _ ∧ k < (((w1.alloc (.cells cs.toArray 3)).alloc (.cells #[.slice none 0 0, .bool false] 166)).alloc (.cells #[.pointer (some ⟨ra, 0, none⟩), .slice (some ⟨w1.heap.size, 0, none⟩) N N, .pointer (some ⟨w1.heap.size + 1, 0, none⟩), .int .i64 0, .int .i64 0, .int .i64 0] 69)).heap.size
    rw [z3]
    rcases hk with rfl | rfl | rfl | rfl | rfl | rfl | rfl | rfl <;> omega
end Go.Proofs.Ytccaegiceneegaa
