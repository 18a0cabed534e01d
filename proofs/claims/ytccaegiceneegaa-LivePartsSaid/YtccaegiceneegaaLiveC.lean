/- The walk of live.Broken. The condition: all words of the arena fit. -/
import Derived.Test.YtccaegiceneegaaLiveB
namespace Go.Proofs.Ytccaegiceneegaa
open Go.RowKit

theorem reachL_obj {st : Ar} {roots : List Int} {p : Nat} (h : p ∈ reachL st roots) : p < st.cells.length ∧ (st.head p).isSome = true := arObjs_mem (List.mem_filter.1 h).1
theorem reachL_len (st : Ar) (roots : List Int) : (reachL st roots).length ≤ st.cells.length := Nat.le_trans (List.length_filter_le _ _) (arObjs_len st)
theorem leads_some {st : Ar} {p : Nat} (h : leads st p = true) : ∃ (j : Nat) (x : Int), (ptrsOf (wordsOf st p))[j]? = some x ∧ (st.head x).isSome = false := by
  unfold leads at h
  obtain ⟨x, hx, h2⟩ := List.any_eq_true.1 h
  obtain ⟨j, hj⟩ := List.getElem?_of_mem hx
  exact ⟨j, x, hj, by simpa using h2⟩
theorem leads_none {st : Ar} {p : Nat} (h : leads st p = false) : ∀ x ∈ ptrsOf (wordsOf st p), (st.head x).isSome = true := by
  unfold leads at h
  intro x hx
  have := List.any_eq_false.1 h x hx
  cases hc : (st.head x).isSome
  · rw [hc] at this; simp at this
  · rfl

set_option maxRecDepth 100000 in
set_option maxHeartbeats 2000000 in
theorem liveBroken {w : World} {O : Nat → Prop} {ph pa ps br bl cm pl : Nat} {H : Hp} (h : HeapB w O ph pa ps br bl cm pl H) (hfit : H.st.fit) {rv : Value} {roots : List Int} (hr : RdInts w rv roots) (hl : roots.length ≤ 100000) :
    Calls Try.prog 48 #[.pointer (some ⟨ph, 0, none⟩), rv] w (SvPost (castL (brokenL H.st roots)) w) := by
  have h1 := liveReach h hfit hr hl
  have h0 := hArena h
  have hA := Lib.hid (fun wx (hb : Below w.heap.size w wx) => (h.below hb).arena)
  have hsm := h.arena.small
  have hok := h.arena.ok
  have hRl := reachL_len H.st roots
  have hRo := Lib.hid (fun p (hp : p ∈ reachL H.st roots) => reachL_obj hp)
  have hbr : brokenL H.st roots = (reachL H.st roots).filter (leads H.st) := rfl
  have HBR := Lib.hid hbr
  clear hr hbr h hl
  generalize hst : H.st = st at *
  clear hst
  generalize reachL st roots = R at *
  go_enter Try.func48, Try.ntmps48
  go_wp2_with (first | (go_at_call 52; refine h0.mono ?_; rintro e w2 ⟨rfl, rfl⟩) | (go_at_call 44; refine h1.mono ?_; rintro e w1 ⟨ov, rfl, ho1, hb1⟩; obtain ⟨sa, sn, sc, rfl⟩ := ho1.isSlice))
  have hov := ho1.shape
  clear h0 h1 ho1
  rcases hov with ⟨e1, e2⟩ | ⟨g, off, cap, e2, _, hgc, hgm, hg, hgA⟩
  · cases e2
    have e0 : R = [] := by cases R with
      | nil => rfl
      | cons a l => simp [castL] at e1
    go_loopw [5, 19] (fun l j wr => l = .slice none 0 0 ∧ j = .int .i64 0 ∧ wr = w1) (fun _ _ _ => 0)
    case atStart => exact ⟨rfl, rfl, rfl⟩
    case round =>
      obtain ⟨rfl, rfl, rfl⟩ := hrel
      have HE := Lib.hid e0
      clear e0
      go_wp2
      go_ret
      exact ⟨_, rfl, by rw [HBR.out, HE.out]; exact IntSv.nil _ _, hb1⟩
  · cases e2
    have hln := castL_len R
    rw [hln] at hgc
    have hcell := Lib.hid (fun wr (hb : Below w1.heap.size w1 wr) (m : Nat) (hm : m < R.length) => (show wr.cell? ⟨g, off + m, none⟩ = some (.int .i64 (R[m] : Nat)) from (hb.cell hg).trans (hgA m _ (by simp [castL, hm]))))
    rw [hln]
    clear hgA hln
    go_loopw [5, 19] (fun l j wr => ∃ m : Nat, m ≤ R.length ∧ j = .int .i64 m ∧ IntSv wr (newIn w1) l (castL ((R.take m).filter (leads st))) ∧ Below w1.heap.size w1 wr) (fun _ j _ => R.length - (intOf j).toNat)
    case atStart => exact ⟨0, by omega, rfl, IntSv.nil _ _, Below.refl _ _⟩
    case round =>
      obtain ⟨m, hm, rfl, hown, hbr⟩ := hrel
      obtain ⟨wo, rfl⟩ : ∃ wo : World, wo = wr := ⟨_, rfl⟩
      have hbw := below_then hb1 hbr
      by_cases hlt : m < R.length
      · have hcm := hcell.out wo hbr m hlt
        obtain ⟨hpl, hpo⟩ := hRo.out _ (List.getElem_mem hlt)
        have hsn := filter_take_succ (q := leads st) hlt
        have hfl : ((R.take m).filter (leads st)).length ≤ 4096 := Nat.le_trans (List.length_filter_le _ _) (by simp; omega)
        generalize R[m] = p at *
        have hci := castL_len ((R.take m).filter (leads st))
        generalize (R.take m).filter (leads st) = xs at *
        have i1 : (0 : Int) ≤ (m : Int) := by omega
        have i2 : (m : Int) < (R.length : Int) := by omega
        have hyes := Lib.hid (liveLook_yes (hA.out _ hbw) (p : Int) hpo)
        have ta := ta_obj
        have hws := wordsOf_fit hfit (p : Int)
        have hwl := wordsOf_len st (p : Int)
        have hn31 : (wordsOf st (p : Int)).length ≤ 32 := by
          have := head_len31 hok (p : Int); omega
        have hpl2 := ptrsOf_len (wordsOf st (p : Int))
        have hkind := Lib.hid (fun wx (hb : Below w.heap.size w wx) (x : Int) => arKind (hA.out wx hb) x)
        have HSN := Lib.hid hsn
        have HCI := Lib.hid hci
        have HWS := Lib.hid hws
        clear hsn hci hws hwl
        have hkk := Ar.head_kind hok
        have HK0 := Lib.hid (fun (x : Int) (hx : (st.head x).isSome = false) => (show hK (st.head x) = 0 by rw [hkk, hx]))
        have HK1 := Lib.hid (fun (x : Int) (hx : (st.head x).isSome = true) => (show (hK (st.head x) == 0) = false by rw [beq_eq_false_iff_ne]; intro e; rw [hkk, hx] at e; cases e))
        clear hkk
        generalize hldq : leads st p = ld at *
        have hlead : (ld = false ∧ ∀ x ∈ ptrsOf (wordsOf st (p : Int)), (st.head x).isSome = true) ∨ (ld = true ∧ ∃ (j : Nat) (x : Int), (ptrsOf (wordsOf st (p : Int)))[j]? = some x ∧ (st.head x).isSome = false) := by
          cases ld
          · exact .inl ⟨rfl, leads_none hldq⟩
          · exact .inr ⟨rfl, leads_some hldq⟩
        clear hldq
        have hpc := Lib.hid (fun wx xv (hx : IntSv wx (newIn wo) xv (wordsOf st (p : Int))) => livePlaces hx HWS.out hn31)
        generalize ptrsOf (wordsOf st (p : Int)) = ptrs at *
        have hpl3 : ptrs.length ≤ 32 := by omega
        clear hpl2 hn31 HWS
        go_wp2_with (first | (go_at_call 101; refine hyes.out.mono ?_; rintro e w3 ⟨xv, rfl, hx3, hb3⟩) | (go_at_call 102; refine (hpc.out _ _ hx3).mono ?_; rintro e w4 ⟨pv, rfl, hp4, hb4⟩; obtain ⟨ta1, tn, tc, rfl⟩ := hp4.isSlice))
        have hb5 := below_then hbr (below_then hb3 hb4)
        have hown5 := (hown.below hb3).below hb4
        have hps := hp4.shape
        clear hown hx3 hp4 hyes hpc hcm hbw hbr hb3 hb4
        rcases hps with ⟨e1, e2⟩ | ⟨g2, off2, cap2, e2, _, hgc2, hgm2, hg2, hgA2⟩
        · cases e2
          obtain ⟨rfl, _⟩ | ⟨_, j, x, hj, _⟩ := hlead
          rotate_left
          · rw [e1] at hj; simp at hj
          simp only [Bool.false_eq_true, if_false, List.append_nil] at HSN
          clear e1 HK0 HK1 hkind
          go_loopw [5, 33] (fun l j wr => l = u5 ∧ j = .int .i64 0 ∧ wr = w4) (fun _ _ _ => 0)
          case atStart => exact ⟨rfl, rfl, rfl⟩
          case round =>
            obtain ⟨rfl, rfl, rfl⟩ := hrel
            go_wp2
            go_roundw
            case rel => exact ⟨m + 1, by omega, by go_num, by rw [HSN.out]; exact hown5, hb5⟩
            case measure => simp [intOf]; omega
        · cases e2
          have hcell2 := Lib.hid (fun wx (hb : Below w4.heap.size w4 wx) (k : Nat) (hk : k < ptrs.length) => (show wx.cell? ⟨g2, off2 + k, none⟩ = some (.int .i64 ptrs[k]) from (hb.cell hg2).trans (hgA2 k _ (List.getElem?_eq_getElem hk))))
          clear hgA2
          obtain ⟨rfl, hall⟩ | ⟨rfl, j0, x0, hj0, hx0⟩ := hlead
          · simp only [Bool.false_eq_true, if_false, List.append_nil] at HSN
            have HALL := Lib.hid hall
            clear hall HK0
            go_loopw [5, 33] (fun l j wr => ∃ k : Nat, k ≤ ptrs.length ∧ l = u5 ∧ j = .int .i64 k ∧ Below w4.heap.size w4 wr) (fun _ j _ => ptrs.length - (intOf j).toNat)
            case atStart => exact ⟨0, by omega, rfl, rfl, Below.refl _ _⟩
            case round =>
              obtain ⟨k, hk, rfl, rfl, hbk⟩ := hrel
              have hb6 := below_then hb5 hbk
              by_cases hkl : k < ptrs.length
              · have hck := hcell2.out wr hbk k hkl
                have hks := HALL.out _ (List.getElem_mem hkl)
                generalize ptrs[k] = x at *
                have hkc := hkind.out wr (below_then hb1 hb6) x
                have hk1 := HK1.out x hks
                generalize hK (st.head x) = kx at *
                have i3 : (0 : Int) ≤ (k : Int) := by omega
                have i4 : (k : Int) < (ptrs.length : Int) := by omega
                clear hks
                go_wp2_with (go_at_call 36; refine hkc.mono ?_; rintro e w7 ⟨rfl, hb7⟩)
                go_roundw
                case rel => exact ⟨k + 1, by omega, rfl, by go_num, below_then hbk hb7⟩
                case measure => simp [intOf]; omega
              · obtain rfl : k = ptrs.length := by omega
                have hown6 := hown5.below hbk
                clear hown5
                go_wp2
                go_roundw
                case rel => exact ⟨m + 1, by omega, by go_num, by rw [HSN.out]; exact hown6, hb6⟩
                case measure => simp [intOf]; omega
          · simp only [if_true] at HSN
            have hj0l : j0 < ptrs.length := (List.getElem?_eq_some_iff.1 hj0).1
            have HJ0 := Lib.hid hj0
            have HX0 := Lib.hid hx0
            clear hj0 hx0
            go_loopw [5, 33] (fun l j wr => ∃ k : Nat, k ≤ j0 ∧ l = u5 ∧ j = .int .i64 k ∧ Below w4.heap.size w4 wr) (fun _ j _ => ptrs.length - (intOf j).toNat)
            case atStart => exact ⟨0, by omega, rfl, rfl, Below.refl _ _⟩
            case round =>
              obtain ⟨k, hk, rfl, rfl, hbk⟩ := hrel
              have hb6 := below_then hb5 hbk
              have hkl : k < ptrs.length := by omega
              have hck := hcell2.out wr hbk k hkl
              have hkx : ptrs[k]? = some ptrs[k] := List.getElem?_eq_getElem hkl
              have HKX := Lib.hid hkx
              clear hkx
              generalize ptrs[k] = x at *
              have hkc := hkind.out wr (below_then hb1 hb6) x
              have i3 : (0 : Int) ≤ (k : Int) := by omega
              have i4 : (k : Int) < (ptrs.length : Int) := by omega
              cases hxs : (st.head x).isSome with
              | true =>
                have hk1 := HK1.out x hxs
                have hne : k ≠ j0 := by
                  intro e; subst e
                  have e2 := HKX.out
                  rw [HJ0.out] at e2
                  cases e2
                  rw [HX0.out] at hxs; cases hxs
                generalize hK (st.head x) = kx at *
                clear hxs
                go_wp2_with (go_at_call 36; refine hkc.mono ?_; rintro e w7 ⟨rfl, hb7⟩)
                go_roundw
                case rel => exact ⟨k + 1, by omega, rfl, by go_num, below_then hbk hb7⟩
                case measure => simp [intOf]; omega
              | false =>
                have hk0 := HK0.out x hxs
                rw [hk0] at hkc
                clear hk0 hxs
                go_upto_region 11 with (go_at_call 36; refine hkc.mono ?_; rintro e w7 ⟨rfl, hb7⟩)
                have hb8 := below_then hb6 hb7
                have hown8 := ((hown5.below hbk).below hb7).below ((Below.refl _ w7).alloc (Nat.le_refl _) (.cells #[.int .i64 p] 3))
                have hb9 := hb8.alloc hb8.size (.cells #[.int .i64 p] 3)
                have hc9 := (Arr.made w7 3 [.int .i64 p]).cell (j := 0) rfl
                clear hown5 hkc hck
                go_wp2_with (at_builtin; refine wpList_append_sv _ rfl _ _ 22 Try.underlying22 rfl (newIn w1) _ _ rfl hown8 _ [(p : Int)] rfl (src_one _ p hc9 Try.underlying22) (by have := HCI.out; simp; omega) ?_)
                intro v' w10 hown10 hu10 hz10
                have hb10 := Upd.belowOf hb9 hu10 (fun k hk => hk) (by simp)
                have hz8 := hb8.size
                have hown11 := hown10.mono (O' := newIn w1) (fun k hk => hk.elim (fun h => h) (fun h => by subst h; simp [newIn]; omega))
                clear hown10 hu10 hz10 hown8 hc9
                go_wp2
                go_roundw
                case rel => exact ⟨m + 1, by omega, by go_num, by rw [HSN.out, castL_snoc]; exact hown11, hb10⟩
                case measure => simp [intOf]; omega
      · obtain rfl : m = R.length := by omega
        rw [List.take_length] at hown
        have hown2 := hown.mono (O' := newIn w) (fun k hk => Nat.le_trans hb1.size hk)
        clear hown
        go_wp2
        go_ret
        exact ⟨_, rfl, by rw [HBR.out]; exact hown2, hbw⟩
end Go.Proofs.Ytccaegiceneegaa
