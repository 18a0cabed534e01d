/- The walks of what the document tells as lost, and as broken. The condition: all words of the arena fit. -/
import Derived.Test.YtccaegiceneegaaRLiveB
import Derived.Test.YtccaegiceneegaaHelpB
namespace Go.Proofs.Ytccaegiceneegaa
open Go.RowKit

theorem mem_reach {st : Ar} {roots : List Int} {p : Nat} (hp : p ∈ arObjs st) : decide ((p : Int) ∈ castL (reachL st roots)) = rchB st roots p := by
  have h : (p : Int) ∈ castL (reachL st roots) ↔ rchB st roots p = true := by
    unfold castL
    constructor
    · intro h
      obtain ⟨q, hq, e⟩ := List.mem_map.1 h
      obtain rfl : q = p := by omega
      exact (List.mem_filter.1 hq).2
    · intro h
      exact List.mem_map.2 ⟨p, List.mem_filter.2 ⟨hp, h⟩, rfl⟩
  cases hr : rchB st roots p
  · rw [decide_eq_false_iff_not, h, hr]; simp
  · rw [decide_eq_true_eq, h, hr]
set_option maxRecDepth 100000 in
set_option maxHeartbeats 2000000 in
theorem rLost {w : World} {O : Nat → Prop} {rh ra rs rc rl rw cb rg : Nat} {H : Hp} (h : RHeapB w O rh ra rs rc rl rw cb rg H) (hfit : H.st.fit) {rv : Value} {roots : List Int} (hr : RdInts w rv roots) (hl : roots.length ≤ 100000) :
    Calls Try.prog 47 #[.pointer (some ⟨rh, 0, none⟩), rv] w (SvPost (castL (lostL H.st roots)) w) := by
  have h1 := rReach h hfit hr hl
  have hsm := h.arena.small
  have hol := arObjs_len H.st
  have hrl := reachL_len H.st roots
  have HB := Lib.hid (fun wx (hb : Below w.heap.size w wx) => h.below hb)
  have hO := Lib.hid (fun wx (hb : Below w.heap.size w wx) => rObjects (h.below hb).arena)
  have hmr := Lib.hid (fun p (hp : p ∈ arObjs H.st) => mem_reach (roots := roots) hp)
  have HLO : Hid (lostL H.st roots = (arObjs H.st).filter fun p => !rchB H.st roots p) := Lib.hid rfl
  have hR : (castL (reachL H.st roots)).length ≤ 4096 := by rw [castL_len]; omega
  clear hr hrl
  generalize rchB H.st roots = q at *
  generalize castL (reachL H.st roots) = R at *
  generalize arObjs H.st = objs at *
  go_enter Try.func47, Try.ntmps47
  go_wp2_with fail
  refine h1.mono ?_
  rintro e w1 ⟨rv1, rfl, hR1, hb1⟩
  have d0 := (HB.out _ hb1).head.cell (j := 0) rfl
  go_wp2_with (go_at_call 24; refine (hO.out _ hb1).mono ?_; rintro e w2 ⟨ov, rfl, ho2, hb2⟩; obtain ⟨sa, sn, sc, rfl⟩ := ho2.isSlice)
  have hbb := below_then hb1 hb2
  have hR2 := Lib.hid (fun wx (hb : Below w2.heap.size w2 wx) => (hR1.sv.below (below_then hb2 hb)))
  have hov := ho2.sv
  clear h1 hR1 ho2 hb1 hb2 d0
  by_cases h0 : objs = []
  · subst h0
    obtain ⟨a, c, e⟩ := hov.ofLen (n := 0) rfl
    cases e
    clear hov
    go_loopw [7, 8] (fun l j wr => l = .slice none 0 0 ∧ j = .int .i64 0 ∧ wr = w2) (fun _ _ _ => 0)
    case atStart => exact ⟨rfl, rfl, rfl⟩
    case round =>
      obtain ⟨rfl, rfl, rfl⟩ := hrel
      go_wp2
      go_ret
      exact ⟨_, rfl, by rw [HLO.out]; exact IntSv.nil _ _, hbb⟩
  rcases hov with ⟨e0, _⟩ | ⟨g, off, cap, e2, hgc, hgm, hg, hgA⟩
  · cases objs with
    | nil => exact absurd rfl h0
    | cons a l => simp [castL] at e0
  cases e2
  have hln := castL_len objs
  rw [hln] at hgc
  have hcell := Lib.hid (fun wr (hb : Below w2.heap.size w2 wr) (m : Nat) (hm : m < objs.length) => (show wr.cell? ⟨g, off + m, none⟩ = some (.int .i64 (objs[m] : Nat)) from (hb.cell hg).trans (hgA m _ (by simp [castL, hm]))))
  rw [hln]
  clear hgA hln h0
  go_loopw [7, 8] (fun l j wr => ∃ m : Nat, m ≤ objs.length ∧ j = .int .i64 m ∧ IntSv wr (newIn w2) l (castL ((objs.take m).filter fun p => !q p)) ∧ Below w2.heap.size w2 wr) (fun _ j _ => objs.length - (intOf j).toNat)
  case atStart => exact ⟨0, by omega, rfl, IntSv.nil _ _, Below.refl _ _⟩
  case round =>
    obtain ⟨m, hm, rfl, hown, hbr⟩ := hrel
    by_cases hlt : m < objs.length
    · have hcm := hcell.out wr hbr m hlt
      have hmq := hmr.out _ (List.getElem_mem hlt)
      have hsn := filter_take_succ (q := fun p => !q p) hlt
      have hfl : ((objs.take m).filter fun p => !q p).length ≤ 4096 := Nat.le_trans (List.length_filter_le _ _) (by simp; omega)
      have hin := helpIn (hR2.out wr hbr) (by omega) (objs[m] : Nat)
      rw [hmq] at hin
      generalize objs[m] = p at *
      have hci := castL_len ((objs.take m).filter fun p => !q p)
      generalize (objs.take m).filter (fun p => !q p) = xs at *
      have HCI := Lib.hid hci
      have HIN := Lib.hid hin
      have i1 : (0 : Int) ≤ (m : Int) := by omega
      have i2 : (m : Int) < (objs.length : Int) := by omega
      clear hci hmq hin
      cases hqm : q p with
      | true =>
        rw [hqm] at hsn HIN
        simp only [Bool.not_true, Bool.false_eq_true, if_false, List.append_nil] at hsn
        have HSN := Lib.hid hsn
        clear hsn hqm
        go_wp2_with (go_at_call 50; refine HIN.out.mono ?_; rintro e w3 ⟨rfl, rfl⟩)
        go_roundw
        case rel => exact ⟨m + 1, by omega, by go_num, by rw [HSN.out]; exact hown, hbr⟩
        case measure => simp [intOf]; omega
      | false =>
        rw [hqm] at hsn HIN
        simp only [Bool.not_false, if_true] at hsn
        have HSN := Lib.hid hsn
        clear hsn hqm
        have hb6 := hbr.alloc hbr.size (.cells #[.int .i64 p] 3)
        have hown6 := hown.below ((Below.refl _ _).alloc (Nat.le_refl _) (.cells #[.int .i64 p] 3))
        have hc6 := (Arr.made wr 3 [.int .i64 p]).cell (j := 0) rfl
        have hlen6 : (castL xs).length + 1 ≤ 1000000000 := by rw [HCI.out]; omega
        clear hown
        go_wp2_with (first | (go_at_call 50; refine HIN.out.mono ?_; rintro e w3 ⟨rfl, rfl⟩) | (at_builtin; refine wpList_append_sv _ rfl _ _ 22 Try.underlying22 rfl (newIn w2) _ _ rfl hown6 _ [(p : Int)] rfl (src_one _ p hc6 Try.underlying22) hlen6 ?_))
        intro v' w7 hown7 hu7 hz7
        have hb7 := Upd.belowOf hb6 hu7 (fun k hk => hk) (by simp)
        have hz6 := hbr.size
        have hown8 := hown7.mono (O' := newIn w2) (fun k hk => hk.elim (fun h => h) (fun h => by subst h; simp [newIn]; omega))
        clear hown7 hu7 hz7 hown6 hc6
        go_wp2
        go_roundw
        case rel => exact ⟨m + 1, by omega, by go_num, by rw [HSN.out, castL_snoc]; exact hown8, hb7⟩
        case measure => simp [intOf]; omega
    · obtain rfl : m = objs.length := by omega
      rw [List.take_length] at hown
      have hown2 := hown.mono (O' := newIn w) (fun k hk => Nat.le_trans hbb.size hk)
      clear hown
      go_wp2
      go_ret
      exact ⟨_, rfl, by rw [HLO.out]; exact hown2, below_then hbb hbr⟩
end Go.Proofs.Ytccaegiceneegaa
