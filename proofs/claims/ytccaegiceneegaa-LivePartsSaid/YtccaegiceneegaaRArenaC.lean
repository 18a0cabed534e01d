/- The walk of what the document allots. No conditions. -/
import Derived.Test.YtccaegiceneegaaRArenaB
import Derived.Test.YtccaegiceneegaaArP
namespace Go.Proofs.Ytccaegiceneegaa
open Go.RowKit

set_option maxRecDepth 100000 in
set_option maxHeartbeats 1000000 in
theorem rArAlloc {w : World} {ra rs rc rl rw : Nat} {st : Ar} (hs : IsRArena w ra rs rc rl rw st) (k n : Int) : Calls Try.prog 30 #[.pointer (some ⟨ra, 0, none⟩), .int .i64 k, .int .i64 n] w fun e w' =>
    e = .returned (.tuple #[.int .i64 (arAllocV st k n).1, .int .i64 (arAllocV st k n).2]) ∧ IsRArena w' ra rs rc rl rw (arAllocN st k n) ∧ Upd (arR rc rl rw) w w' := by
  have hl := hs.small
  have hco := rClassOf n w
  by_cases hbad : k < 1 ∨ 6 < k ∨ clsB n = false
  · have e1 : arAllocV st k n = (0, 1) ∧ arAllocN st k n = st := by simp [arAllocV, arAllocN, hbad]
    rw [e1.1, e1.2]
    clear e1
    generalize clsI n = c at *
    have : ∀ b, clsB n = b → Calls Try.prog 30 #[.pointer (some ⟨ra, 0, none⟩), .int .i64 k, .int .i64 n] w fun e w' => e = .returned (.tuple #[.int .i64 0, .int .i64 1]) ∧ IsRArena w' ra rs rc rl rw st ∧ Upd (arR rc rl rw) w w' := by
      intro b hb
      rw [hb] at hco hbad
      by_cases h1 : k < 1
      · clear hbad hb
        go_enter Try.func30, Try.ntmps30
        go_wp2_with (go_at_call 91; refine hco.mono ?_; rintro e w1 ⟨rfl, hb⟩)
        go_ret2
        exact ⟨rfl, hs.below hb, Upd.of_below hb⟩
      · have h1' : 1 ≤ k := by omega
        by_cases h2 : 6 < k
        · clear hbad hb
          go_enter Try.func30, Try.ntmps30
          go_wp2_with (go_at_call 91; refine hco.mono ?_; rintro e w1 ⟨rfl, hb⟩)
          go_ret2
          exact ⟨rfl, hs.below hb, Upd.of_below hb⟩
        · have h2' : k ≤ 6 := by omega
          obtain rfl : b = false := by rcases hbad with h | h | h; omega; omega; exact h
          clear hbad hb h1 h2
          go_enter Try.func30, Try.ntmps30
          go_wp2_with (go_at_call 91; refine hco.mono ?_; rintro e w1 ⟨rfl, hb⟩)
          go_ret2
          exact ⟨rfl, hs.below hb, Upd.of_below hb⟩
    exact this _ rfl
  have hk1 : 1 ≤ k := by omega
  have hk6 : k ≤ 6 := by omega
  have hcb : clsB n = true := by cases hb : clsB n; exact absurd (.inr (.inr hb)) hbad; rfl
  obtain ⟨hn0, hnw⟩ := clsI_fits hcb
  rw [hcb] at hco
  have hokA := hs.ok.alloc k n
  have hV : ∀ i s l, spAlloc st.rows (clsI n) = some (i, s, l) → arAllocV st k n = (((i * 32 + s * cw (clsI n) : Nat) : Int), 0) ∧ arAllocN st k n = ⟨l, setRange st.cells (i * 32 + s * cw (clsI n)) (.hdr k n :: List.replicate n.toNat (.wd 0))⟩ := by
    intro i s l h; simp only [arAllocV, arAllocN, if_neg hbad, h, and_self]
  have hN : spAlloc st.rows (clsI n) = none → arAllocV st k n = (0, 9) ∧ arAllocN st k n = st := by
    intro h; simp only [arAllocV, arAllocN, if_neg hbad, h, and_self]
  clear hbad hcb
  generalize hc : clsI n = c at *
  have hspa := fun w1 (h : IsRSpans w1 rs rc rl st.rows) => rAlloc h c
  cases ha : spAlloc st.rows c with
  | none =>
    simp only [spAllocV, spAllocN, ha] at hspa
    rw [(hN ha).1, (hN ha).2]
    have HSP := Lib.hid hspa
    clear hspa hV hN ha hokA
    go_enter Try.func30, Try.ntmps30
    go_wp2_with fail
    refine hco.mono ?_
    rintro e w1 ⟨rfl, hb⟩
    have c0 := (hs.head.belowAll hb).cell (j := 0) rfl
    go_wp2_with fail
    refine (HSP.out _ (hs.below hb).spans).mono ?_
    rintro e w2 ⟨rfl, hs2, hu2⟩
    go_wp2
    go_ret2
    have hs1 := hs.below hb
    obtain ⟨W, hW, hR⟩ := hs1.words
    exact ⟨rfl, ⟨hu2.arr hs1.head (fun e => e.elim hs.ne2 hs.ne3), ⟨W, hu2.arr hW (fun e => e.elim (fun e => hs.ne6 e.symm) (fun e => hs.ne7 e.symm)), hR⟩, hs2, hs.ne1, hs.ne2, hs.ne3, hs.ne4, hs.ne5, hs.ne6, hs.ne7, hs.ok⟩, (Upd.of_below hb).then (hu2.mono (fun k hk => .inl (hk.elim .inl (fun h => .inr (.inl h)))))⟩
  | some t =>
    obtain ⟨i, s, l⟩ := t
    simp only [spAllocV, spAllocN, ha] at hspa
    rw [(hV _ _ _ ha).2] at hokA
    rw [(hV _ _ _ ha).1, (hV _ _ _ ha).2]
    have HSP := Lib.hid hspa
    obtain ⟨hc0, hc3, r, r', hr, rfl, hcls, hrok', hus, _⟩ := spAlloc_spec hs.ok.rows ha
    have hsl : s < r'.used.length := (List.getElem?_eq_some_iff.1 hus).1
    have hil : i < st.rows.length := (List.getElem?_eq_some_iff.1 hr).1
    have hcw := cw_cases r' hrok' (by omega)
    rw [hcls] at hcw
    have hcwi : cwords c = (cw c : Int) := by unfold cw; have := (cwords_nonneg c).1; omega
    obtain ⟨n, rfl⟩ := Int.eq_ofNat_of_zero_le hn0
    have hlen := hs.ok.len
    have hb32 : s * cw c + cw c ≤ 32 := by rcases hcw with ⟨e1, e2⟩ | ⟨e1, e2⟩ | ⟨e1, e2⟩ | ⟨e1, e2⟩ <;> rw [e1] <;> omega
    have hnw' : n < cw c := by omega
    have hww := fun w1 => rWords c w1
    rw [hcwi] at hww
    have HW := Lib.hid hww
    obtain ⟨S, hS⟩ : ∃ S, s * cw c = S := ⟨_, rfl⟩
    have hw1 : 0 ≤ (s : Int) * (cw c : Int) := Int.mul_nonneg (by omega) (by omega)
    have hSi : (s : Int) * (cw c : Int) = (S : Int) := by rw [← hS]; simp
    have hw2 : (s : Int) * (cw c : Int) ≤ 32 := by omega
    have hil2 : i < 128 := by have := hs.spans.len; omega
    have HAP : Hid (∀ p k' n' j, st.cells[p]? = some (.hdr k' n') → j ≤ n'.toNat → ¬ (i * 32 + s * cw c ≤ p + j ∧ p + j < i * 32 + s * cw c + cw c)) := Lib.hid (fun p k' n' j hp hj => alloc_apart hs.ok ha hp hj)
    have HP : Hid ((i : Int) * 32 + (s : Int) * (cw c : Int) = ((i * 32 + s * cw c : Nat) : Int)) := Lib.hid (by simp)
    obtain ⟨P, hP⟩ : ∃ P, i * 32 + s * cw c = P := ⟨_, rfl⟩
    rw [hP] at HP hokA HAP ⊢
    generalize cw c = C at *
    have hfit : P + C ≤ st.cells.length := by omega
    have hn32 : n < 32 := by omega
    clear hww hspa hV hN ha hr hcls hrok' hus hcw hlen hc hcwi hP hS hSi
    go_enter Try.func30, Try.ntmps30
    go_wp2_with fail
    refine hco.mono ?_
    rintro e w1 ⟨rfl, hb⟩
    have c0 := (hs.head.belowAll hb).cell (j := 0) rfl
    go_wp2_with fail
    refine (HSP.out _ (hs.below hb).spans).mono ?_
    rintro e w2 ⟨rfl, hs2, hu2⟩
    clear c0
    go_wp2_with fail
    refine (HW.out _).mono ?_
    rintro e w3 ⟨rfl, hb3⟩
    go_upto_region 8 with (fail)
    rw [HP.out]
    have hs1 := hs.below hb
    obtain ⟨W, hW, hR⟩ := hs1.words
    have hA1 := (hu2.arr hs1.head (fun e => e.elim hs.ne2 hs.ne3)).belowAll hb3
    have hA2 := (hu2.arr hW (fun e => e.elim (fun e => hs.ne6 e.symm) (fun e => hs.ne7 e.symm))).belowAll hb3
    have hs3 := hs2.below hb3
    have hu3 : Upd (arR rc rl rw) w w3 := ((Upd.of_below (S := arR rc rl rw) hb).then (hu2.mono (fun k hk => .inl (hk.elim .inl (fun h => .inr (.inl h)))))).then (Upd.of_below hb3)
    clear hs1 hW hu2 hs2 hco HSP hb3 hb
    go_wp2
    go_loopw [13] (fun i wr => ∃ (m : Nat) (V : List Int), m ≤ C ∧ i = .int .i64 m ∧ Arr wr rw 3 (ints V) ∧ V.length = W.length ∧ (∀ p : Nat, V[p]? = if P ≤ p ∧ p < P + m then some 0 else W[p]?) ∧ Upd (fun k => k = rw) w3 wr) (fun i _ => C - (intOf i).toNat)
    case atStart => exact ⟨0, W, by omega, rfl, hA2, rfl, fun p => by rw [if_neg (by omega)], Upd.refl _ _⟩
    case round =>
      obtain ⟨m, V, hm, rfl, hV, hVl, hVg, hur⟩ := hrel
      have HVG := Lib.hid hVg
      have HVL := Lib.hid hVl
      have hdr := hur.arr hA1 hs.ne4
      have hWl := hR.1
      clear hVg
      by_cases hlt : m < C
      · have hidx : P + m < V.length := by omega
        obtain ⟨v0, hv0⟩ : ∃ v0, V[P + m]? = some v0 := ⟨_, List.getElem?_eq_getElem hidx⟩
        have HV0 : Hid ((ints V)[P + m]? = some (.int .i64 v0)) := Lib.hid (by simp [ints, hv0])
        have hi2 : P + m < st.cells.length := by omega
        clear hVl hWl hidx hv0
        go_wp2_with fail
        refine (HW.out _).mono ?_
        rintro e w4 ⟨rfl, hb4⟩
        have hV4 := hV.belowAll hb4
        have c1 := (hdr.belowAll hb4).cell (j := 1) rfl
        have c2 := hV4.cell HV0.out
        have f2 := hV4.frozen (P + m)
        have hV5 := hV4.set (j := P + m) (by have := HVL.out; have := hR.1; simp; omega) (.int .i64 0)
        have eV : (ints V).set (P + m) (.int .i64 0) = ints (V.set (P + m) 0) := by simp [ints, List.map_set]
        rw [eV] at hV5
        have HV5 := Lib.hid hV5
        have hur4 := hur.then (Upd.of_below hb4)
        clear hV5 eV hdr
        go_wp2
        go_roundw
        case rel =>
          refine ⟨m + 1, V.set (P + m) 0, by omega, by go_num, HV5.out, by simpa using HVL.out, fun p => ?_, hur4.then (upd_setCell _ _ _ _)⟩
          rw [List.getElem?_set, HVG.out p]
          by_cases e : P + m = p
          · have h1 := HVL.out
            have h2 := hR.1
            rw [if_pos e, if_pos (by omega), if_pos (by omega)]
          · rw [if_neg e]
            by_cases h1 : P ≤ p ∧ p < P + m
            · rw [if_pos h1, if_pos (by omega)]
            · rw [if_neg h1, if_neg (by omega)]
        case measure => simp [intOf]; omega
      · obtain rfl : m = C := by omega
        have hidx : P < V.length := by omega
        have hPc : P < st.cells.length := by omega
        have hPl : P < 4096 := by omega
        obtain ⟨v0, hv0⟩ : ∃ v0, V[P]? = some v0 := ⟨_, List.getElem?_eq_getElem hidx⟩
        have HV0 : Hid ((ints V)[P]? = some (.int .i64 v0)) := Lib.hid (by simp [ints, hv0])
        clear hVl hWl hidx hv0
        go_wp2_with fail
        refine (HW.out _).mono ?_
        rintro e w4 ⟨rfl, hb4⟩
        have hV4 := hV.belowAll hb4
        have hd4 := hdr.belowAll hb4
        have c1 := hd4.cell (j := 1) rfl
        have c2 := hV4.cell HV0.out
        have f2 := hV4.frozen P
        have hV5 := hV4.set (j := P) (by have := HVL.out; have := hR.1; simp; omega) (.int .i64 (k + 16 * n))
        have eV : (ints V).set P (.int .i64 (k + 16 * n)) = ints (V.set P (k + 16 * n)) := by simp [ints, List.map_set]
        rw [eV] at hV5
        have HV5 := Lib.hid hV5
        have hur4 := hur.then (Upd.of_below hb4)
        clear hV5 eV hdr
        go_wp2
        go_ret2
        have hur5 := hur4.then (upd_setCell w4 rw P (.int .i64 (k + 16 * n)))
        have hxl : (ACell.hdr k n :: List.replicate (n : Int).toNat (.wd 0)).length = n + 1 := by simp
        have hsl2 : (setRange st.cells P (.hdr k n :: List.replicate (n : Int).toNat (.wd 0))).length = st.cells.length := setRange_length (by rw [hxl]; omega)
        refine ⟨rfl, ⟨?_, ⟨V.set P (k + 16 * n), HV5.out, ?_⟩, hs3.upd hur5 hs.ne5 hs.ne6 hs.ne7, hs.ne1, hs.ne2, hs.ne3, hs.ne4, hs.ne5, hs.ne6, hs.ne7, hokA⟩, hu3.then (hur5.mono (fun k hk => .inl (.inr (.inr hk))))⟩
        · show Arr _ ra _ [_, .slice _ (setRange _ _ _).length (setRange _ _ _).length]
          rw [hsl2]; exact hur5.arr hA1 hs.ne4
        · have hget := setRange_get (l := st.cells) (p := P) (xs := .hdr k n :: List.replicate (n : Int).toNat (.wd 0)) (by rw [hxl]; omega)
          rw [hxl] at hget
          have hVl := HVL.out
          have hWl := hR.1
          have hVV : ∀ p : Nat, (V.set P (k + 16 * n))[p]? = if p = P then some (k + 16 * (n : Int)) else if P ≤ p ∧ p < P + m then some 0 else W[p]? := by
            intro p
            rw [List.getElem?_set, HVG.out p]
            by_cases e : P = p
            · subst e; rw [if_pos rfl, if_pos rfl, if_pos (by omega)]
            · rw [if_neg e, if_neg (c := p = P) (fun h => e h.symm)]
          refine ⟨by rw [List.length_set, hsl2]; omega, fun p k' n' hk => ?_⟩
          rw [hget] at hk
          by_cases hin : P ≤ p ∧ p < P + (n + 1)
          · rw [if_pos hin] at hk
            by_cases e : p = P
            · subst e
              rw [Nat.sub_self] at hk
              simp only [List.getElem?_cons_zero, Option.some.injEq, ACell.hdr.injEq] at hk
              obtain ⟨rfl, rfl⟩ := hk
              refine ⟨by rw [hVV, if_pos rfl], fun j u hj hu => ?_⟩
              rw [hget, if_pos (by omega), show p + 1 + j - p = j + 1 from by omega, List.getElem?_cons_succ, List.getElem?_replicate, if_pos (by omega)] at hu
              cases hu
              rw [hVV, if_neg (by omega), if_pos (by omega)]
            · obtain ⟨d, hd⟩ : ∃ d, p - P = d + 1 := ⟨p - P - 1, by omega⟩
              rw [hd, List.getElem?_cons_succ, List.getElem?_replicate] at hk
              split at hk <;> cases hk
          · rw [if_neg hin] at hk
            have hap := fun j (hj : j ≤ n'.toNat) => HAP.out p k' n' j hk hj
            have hap0 := hap 0 (Nat.zero_le _)
            refine ⟨?_, fun j u hj hu => ?_⟩
            · rw [hVV, if_neg (by omega), if_neg (by omega)]
              exact (hR.2 p k' n' hk).1
            · have hap1 := hap (j + 1) (by omega)
              rw [hget, if_neg (by omega)] at hu
              rw [hVV, if_neg (by omega), if_neg (by omega)]
              exact (hR.2 p k' n' hk).2 j u hj hu
end Go.Proofs.Ytccaegiceneegaa
