/- The walk of what the document tells as broken. The condition: all words of the arena fit. -/
import Derived.Test.YtccaegiceneegaaRLiveC
namespace Go.Proofs.Ytccaegiceneegaa
open Go.RowKit

def badW (st : Ar) (x : Int) : Bool := oddW x && !(st.head (ptrAt x)).isSome
theorem leads_words (st : Ar) (p : Nat) : leads st p = (wordsOf st (p : Int)).any (badW st) := by
  unfold leads ptrsOf badW
  rw [List.any_map, List.any_filter]
  rfl
set_option maxRecDepth 100000 in
set_option maxHeartbeats 2000000 in
theorem rBroken {w : World} {O : Nat → Prop} {rh ra rs rc rl rw cb rg : Nat} {H : Hp} (h : RHeapB w O rh ra rs rc rl rw cb rg H) (hfit : H.st.fit) {rv : Value} {roots : List Int} (hr : RdInts w rv roots) (hl : roots.length ≤ 100000) :
    Calls Try.prog 49 #[.pointer (some ⟨rh, 0, none⟩), rv] w (SvPost (castL (brokenL H.st roots)) w) := by
  have h1 := rReach h hfit hr hl
  have hsm := h.arena.small
  have hok := h.arena.ok
  have hRl := reachL_len H.st roots
  have HB := Lib.hid (fun wx (hb : Below w.heap.size w wx) => h.below hb)
  have hW := Lib.hid (fun wx (hb : Below w.heap.size w wx) (p : Nat) => rWordsOf (h.below hb) (p : Int))
  have HBR : Hid (brokenL H.st roots = (reachL H.st roots).filter (leads H.st)) := Lib.hid rfl
  clear hr h hl
  generalize reachL H.st roots = R at *
  go_enter Try.func49, Try.ntmps49
  go_wp2_with fail
  refine h1.mono ?_
  rintro e w1 ⟨ov, rfl, ho1, hb1⟩
  obtain ⟨sa, sn, sc, rfl⟩ := ho1.isSlice
  have hov := ho1.sv
  clear h1 ho1
  by_cases h0 : R = []
  · subst h0
    obtain ⟨a, c, e⟩ := hov.ofLen (n := 0) rfl
    cases e
    clear hov
    go_wp2
    go_loopw [6, 7] (fun l j wr => l = .slice none 0 0 ∧ j = .int .i64 0 ∧ wr = w1) (fun _ _ _ => 0)
    case atStart => exact ⟨rfl, rfl, rfl⟩
    case round =>
      obtain ⟨rfl, rfl, rfl⟩ := hrel
      go_wp2
      go_ret
      exact ⟨_, rfl, by rw [HBR.out]; exact IntSv.nil _ _, hb1⟩
  rcases hov with ⟨e0, _⟩ | ⟨g, off, cap, e2, hgc, hgm, hg, hgA⟩
  · cases R with
    | nil => exact absurd rfl h0
    | cons a l => simp [castL] at e0
  cases e2
  have hln := castL_len R
  rw [hln] at hgc
  have hcell := Lib.hid (fun wr (hb : Below w1.heap.size w1 wr) (m : Nat) (hm : m < R.length) => (show wr.cell? ⟨g, off + m, none⟩ = some (.int .i64 (R[m] : Nat)) from (hb.cell hg).trans (hgA m _ (by simp [castL, hm]))))
  rw [hln]
  clear hgA hln h0
  go_wp2
  go_loopw [6, 7] (fun l j wr => ∃ m : Nat, m ≤ R.length ∧ j = .int .i64 m ∧ IntSv wr (newIn w1) l (castL ((R.take m).filter (leads H.st))) ∧ Below w1.heap.size w1 wr) (fun _ j _ => R.length - (intOf j).toNat)
  case atStart => exact ⟨0, by omega, rfl, IntSv.nil _ _, Below.refl _ _⟩
  case round =>
    obtain ⟨m, hm, rfl, hown, hbr⟩ := hrel
    obtain ⟨wo, rfl⟩ : ∃ wo : World, wo = wr := ⟨_, rfl⟩
    have hbw := below_then hb1 hbr
    by_cases hlt : m < R.length
    · have hcm := hcell.out wo hbr m hlt
      have hsn := filter_take_succ (q := leads H.st) hlt
      have hfl : ((R.take m).filter (leads H.st)).length ≤ 4096 := Nat.le_trans (List.length_filter_le _ _) (by simp; omega)
      generalize hpm : R[m] = p at *
      have hcq := Lib.hid (fun wx (hb : Below w1.heap.size w1 wx) => (show wx.cell? ⟨g, off + m, none⟩ = some (.int .i64 (p : Nat)) from by rw [← hpm]; exact hcell.out wx hb m hlt))
      clear hpm
      have hci := castL_len ((R.take m).filter (leads H.st))
      generalize (R.take m).filter (leads H.st) = xs at *
      have i1 : (0 : Int) ≤ (m : Int) := by omega
      have i2 : (m : Int) < (R.length : Int) := by omega
      have hWw := Lib.hid (hW.out wo hbw p)
      have hws := wordsOf_fit hfit (p : Int)
      have hwl := wordsOf_len H.st (p : Int)
      have hn31 : (wordsOf H.st (p : Int)).length ≤ 32 := by
        have := head_len31 hok (p : Int); omega
      have hIs := Lib.hid (fun wx (hb : Below w.heap.size w wx) (x : Int) => rIs (HB.out wx hb).arena x)
      have hld := leads_words H.st p
      rw [hld] at hsn
      have HSN := Lib.hid hsn
      have HCI := Lib.hid hci
      have HWS := Lib.hid hws
      clear hsn hci hws hwl hld
      generalize wordsOf H.st (p : Int) = ws at *
      go_wp2_with (go_at_call 99; refine hWw.out.mono ?_; rintro e w4 ⟨pv, rfl, hp4, hb4⟩; obtain ⟨ta1, tn, tc, rfl⟩ := hp4.isSlice)
      have hb5 := below_then hbr hb4
      have hown5 := hown.below hb4
      have hps := hp4.sv
      clear hown hp4 hWw hcm hbw hbr hb4
      rcases hps with ⟨rfl, e2⟩ | ⟨g2, off2, cap2, e2, hgc2, hgm2, hg2, hgA2⟩
      · cases e2
        simp only [List.any_nil, Bool.false_eq_true, if_false, List.append_nil] at HSN
        go_loopw [6, 9] (fun l j wr => l = u6 ∧ j = .int .i64 0 ∧ wr = w4) (fun _ _ _ => 0)
        case atStart => exact ⟨rfl, rfl, rfl⟩
        case round =>
          obtain ⟨rfl, rfl, rfl⟩ := hrel
          go_wp2
          go_roundw
          case rel => exact ⟨m + 1, by omega, by go_num, by rw [HSN.out]; exact hown5, hb5⟩
          case measure => simp [intOf]; omega
      · cases e2
        have hcell2 := Lib.hid (fun wx (hb : Below w4.heap.size w4 wx) (k : Nat) (hk : k < ws.length) => (show wx.cell? ⟨g2, off2 + k, none⟩ = some (.int .i64 ws[k]) from (hb.cell hg2).trans (hgA2 k _ (List.getElem?_eq_getElem hk))))
        clear hgA2
        go_loopw [6, 9] (fun l j wr => ∃ k : Nat, k ≤ ws.length ∧ l = u6 ∧ j = .int .i64 k ∧ Below w4.heap.size w4 wr ∧ (ws.take k).any (badW H.st) = false) (fun _ j _ => ws.length - (intOf j).toNat)
        case atStart => exact ⟨0, by omega, rfl, rfl, Below.refl _ _, rfl⟩
        case round =>
          obtain ⟨k, hk, rfl, rfl, hbk, hnb⟩ := hrel
          have hb6 := below_then hb5 hbk
          by_cases hkl : k < ws.length
          · have hck := hcell2.out wr hbk k hkl
            have hcx := Lib.hid (fun wx (hb : Below w4.heap.size w4 wx) => hcell2.out wx hb k hkl)
            have hfx := HWS.out _ (List.getElem_mem hkl)
            have hsk : (ws.take (k + 1)).any (badW H.st) = ((ws.take k).any (badW H.st) || badW H.st ws[k]) := by
              rw [List.take_succ_eq_append_getElem hkl, List.any_append]; simp
            have hall : badW H.st ws[k] = true → ws.any (badW H.st) = true := fun hx => List.any_eq_true.2 ⟨_, List.getElem_mem hkl, hx⟩
            rw [hnb, Bool.false_or] at hsk
            generalize ws[k] = x at *
            have k1 := fun w1 => rIsPtr x w1
            have k2 := Lib.hid (fun w1 => rAt x hfx w1)
            have i3 : (0 : Int) ≤ (k : Int) := by omega
            have i4 : (k : Int) < (ws.length : Int) := by omega
            have d0 := (HB.out _ (below_then hb1 hb6)).head.cell (j := 0) rfl
            have HNB := Lib.hid hnb
            clear hnb
            cases hod : oddW x with
            | false =>
              rw [hod] at k1
              have hbx : badW H.st x = false := by simp [badW, hod]
              rw [hbx] at hsk
              have HSK := Lib.hid hsk
              have K1 := Lib.hid k1
              clear hsk k1 hall hbx hod
              go_upto_region 10 with (fail)
              go_quiet ((go_at_call 77; exact Calls.quiet_of_same ((K1.out _).mono (fun _ _ h => ⟨h.1, h.2.symm⟩))))
              go_wp2
              go_roundw
              case rel => exact ⟨k + 1, by omega, rfl, by go_num, below_drewNs' hbk _, HSK.out⟩
              case measure => simp [intOf]; omega
            | true =>
              rw [hod] at k1
              have hbx : badW H.st x = !(H.st.head (ptrAt x)).isSome := by simp [badW, hod]
              have hisx := Lib.hid (fun wx (hb : Below w.heap.size w wx) => hIs.out wx hb (ptrAt x))
              rw [hbx] at hsk hall
              generalize (H.st.head (ptrAt x)).isSome = bb at *
              generalize ptrAt x = y at *
              have HSK := Lib.hid hsk
              have HALL := Lib.hid hall
              have K1 := Lib.hid k1
              clear hsk k1 hall hbx hod
              have hbd := (below_then hb1 hb6).drew
              have e0 : wr.drew.cell? ⟨rh, 0, none⟩ = some (.pointer (some ⟨ra, 0, none⟩)) ∧ wr.drew.cell? ⟨g2, off2 + k, none⟩ = some (.int .i64 x) := ⟨d0, hck⟩
              cases bb
              all_goals
                go_upto_region 10 with (fail)
                go_region_held3 (fun w' => w'.cell? ⟨rh, 0, none⟩ = some (.pointer (some ⟨ra, 0, none⟩)) ∧ w'.cell? ⟨g2, off2 + k, none⟩ = some (.int .i64 x))
                  (first | exact e0 | assumption)
                  (first | (go_at_call 77; refine (K1.out _).mono ?_; rintro e w7 ⟨rfl, rfl⟩) | (go_at_call 100; refine (k2.out _).mono ?_; rintro e w7 ⟨rfl, rfl⟩) | (go_at_call 86; refine (hisx.out _ hbd).mono ?_; rintro e w8 ⟨rfl, hb8⟩; have hbk8 := hbk.trans (below_undrew hb8 |>.mono hbk.size); have e8 : w8.cell? ⟨rh, 0, none⟩ = some (.pointer (some ⟨ra, 0, none⟩)) ∧ w8.cell? ⟨g2, off2 + k, none⟩ = some (.int .i64 x) := ⟨(HB.out _ (below_then hb1 (below_then hb5 hbk8))).head.cell (j := 0) rfl, hcx.out _ hbk8⟩))
              · have hcq8 := hcq.out _ (below_then hb5 hbk8)
                have hb9 := (below_then hb5 hbk8).alloc (below_then hb5 hbk8).size (.cells #[.int .i64 p] 3)
                have hown6 := (hown5.below hbk8).below ((Below.refl _ _).alloc (Nat.le_refl _) (.cells #[.int .i64 p] 3))
                have hc6 := (Arr.made w8 3 [.int .i64 p]).cell (j := 0) rfl
                have hlen6 : (castL xs).length + 1 ≤ 1000000000 := by rw [HCI.out]; omega
                have hsn2 := HSN.out
                rw [HALL.out rfl, if_pos rfl] at hsn2
                have HS2 := Lib.hid hsn2
                clear hown5 hsn2
                go_wp2_with (at_builtin; refine wpList_append_sv _ rfl _ _ 22 Try.underlying22 rfl (newIn w1) _ _ rfl hown6 _ [(p : Int)] rfl (src_one _ p hc6 Try.underlying22) hlen6 ?_)
                intro v' w9 hown9 hu9 hz9
                have hb10 := Upd.belowOf hb9 hu9 (fun k hk => hk) (by simp)
                have hz6 := (below_then hb5 hbk8).size
                have hown10 := hown9.mono (O' := newIn w1) (fun k hk => hk.elim (fun h => h) (fun h => by subst h; simp [newIn]; omega))
                clear hown9 hu9 hz9 hown6 hc6
                go_wp2
                refine ⟨⟨m + 1, by omega, by go_num, by rw [HS2.out, castL_snoc]; exact hown10, hb10⟩, ?_⟩
                simp [intOf]; omega
              · go_wp2
                go_roundw
                case rel => exact ⟨k + 1, by omega, rfl, by go_num, hbk8, HSK.out⟩
                case measure => simp [intOf]; omega
          · obtain rfl : k = ws.length := by omega
            rw [List.take_length] at hnb
            rw [hnb] at HSN
            simp only [Bool.false_eq_true, if_false, List.append_nil] at HSN
            have hown6 := hown5.below hbk
            clear hown5 hnb
            go_wp2
            go_roundw
            case rel => exact ⟨m + 1, by omega, by go_num, by rw [HSN.out]; exact hown6, hb6⟩
            case measure => simp [intOf]; omega
    · obtain rfl : m = R.length := by omega
      rw [List.take_length] at hown
      have hown2 := hown.mono (O' := newIn w) (fun k hk => Nat.le_trans hb1.size hk)
      clear hown
      go_wp2
      go_ret
      exact ⟨_, rfl, by rw [HBR.out]; exact hown2, hbw⟩
end Go.Proofs.Ytccaegiceneegaa
