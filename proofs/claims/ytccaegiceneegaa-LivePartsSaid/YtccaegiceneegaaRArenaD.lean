/- The walk of what the document frees. No conditions. -/
import Derived.Test.YtccaegiceneegaaRArenaC
import Derived.Test.YtccaegiceneegaaArena
namespace Go.Proofs.Ytccaegiceneegaa
open Go.RowKit

set_option maxRecDepth 100000 in
set_option maxHeartbeats 1000000 in
theorem rArFree {w : World} {ra rs rc rl rw : Nat} {st : Ar} (hs : IsRArena w ra rs rc rl rw st) (i : Int) : Calls Try.prog 26 #[.pointer (some ⟨ra, 0, none⟩), .int .i64 i] w fun e w' =>
    e = .returned (.int .i64 (arFreeV st i)) ∧ IsRArena w' ra rs rc rl rw (arFreeN st i) ∧ Upd (arR rc rl rw) w w' := by
  have hl := hs.small
  have hh := rIs hs i
  have hpl := hs.head.lt
  cases hd : st.head i with
  | none =>
    have e1 : arFreeV st i = 8 ∧ arFreeN st i = st := by simp [arFreeV, arFreeN, hd]
    rw [e1.1, e1.2]
    rw [hd] at hh
    simp only [Option.isSome] at hh
    clear e1 hd
    go_enter Try.func26, Try.ntmps26
    go_wp2_with (go_at_call 86; refine hh.mono ?_; rintro e w1 ⟨rfl, hb⟩)
    go_ret
    exact ⟨rfl, hs.below hb, Upd.of_below hb⟩
  | some kn =>
    obtain ⟨k, n⟩ := kn
    have hokF := hs.ok.free i
    obtain ⟨p, rfl, hp⟩ := Ar.head_some hd
    obtain ⟨_, _, b3, b4, b5, b6⟩ := hs.ok.fits hp
    obtain ⟨_, _, _, r, hr, hn, hm, hu, _⟩ := hs.ok.hdr p k n hp
    rw [hd] at hh
    simp only [Option.isSome] at hh
    have hrok := hs.ok.rows r (List.mem_of_getElem? hr)
    have hne : r.cls ≠ -1 := by intro e; rw [e] at hn; simp [cwords] at hn; omega
    have hcl : spCls st.rows ((p / 32 : Nat) : Int) = r.cls := by
      unfold spCls
      rw [if_pos (by omega)]
      have : ((p / 32 : Nat) : Int).toNat = p / 32 := by omega
      rw [this, hr]
    have eN : arFreeN st p = ⟨spFree st.rows (p / 32) (p % 32 / cw r.cls), setRange st.cells p (List.replicate (n.toNat + 1) .nil)⟩ := by
      simp only [arFreeN, hd, Int.toNat_natCast]
      rw [hcl]
    have eV : arFreeV st p = 0 := by simp [arFreeV, hd]
    rw [eN] at hokF
    rw [eN, eV]
    obtain ⟨n, rfl⟩ := Int.eq_ofNat_of_zero_le b3
    have hcw := cw_cases r hrok hne
    have hcwi : cwords r.cls = (cw r.cls : Int) := by unfold cw; have := (cwords_nonneg r.cls).1; omega
    have hcwp : 0 < cw r.cls := by omega
    have husd : spUsed st.rows ((p / 32 : Nat) : Int) ((p % 32 / cw r.cls : Nat) : Int) = true := spUsed_of hr hu
    have hfr := fun w1 (h : IsRSpans w1 rs rc rl st.rows) => rFree_yes h (p / 32) (p % 32 / cw r.cls) husd
    have hww := fun w1 => rWords r.cls w1
    rw [hcwi] at hww
    obtain ⟨k1, k2, hhd, hc1, hc2, hc3, hc4⟩ := hs.spans.head
    unfold maxLen at hc2 hc4
    have hrsl := hhd.lt
    have hrcl := hs.spans.cls.lt
    have hlenr := hs.ok.len
    have hHold : ∀ wx : World, Below w.heap.size w wx → IsRArena wx ra rs rc rl rw st ∧ wx.cell? ⟨ra, 0, none⟩ = some (.pointer (some ⟨rs, 0, none⟩)) := fun wx hb => ⟨hs.below hb, ((hs.below hb).head).cell (j := 0) rfl⟩
    have hL1 := fun (wx : World) (hb : Below w.heap.size w wx) => (hhd.belowAll hb).cell (j := 0) rfl
    have hL2 := fun (wx : World) (hb : Below w.heap.size w wx) => (hs.spans.cls.belowAll hb).cell (clsCells_get hr)
    have HAP : Hid (∀ q k' n' j, st.cells[q]? = some (.hdr k' n') → q ≠ p → j ≤ n'.toNat → ¬ (p ≤ q + j ∧ q + j < p + cw r.cls)) := Lib.hid (fun q k' n' j hq hne hj => free_apart hs.ok hp hr hq hne hj)
    have hncw : n < cw r.cls := by omega
    have hpl2 := (List.getElem?_eq_some_iff.1 hp).1
    have hrl : p / 32 < st.rows.length := (List.getElem?_eq_some_iff.1 hr).1
    generalize r.cls = c at *
    have HF := Lib.hid hfr
    have HW := Lib.hid hww
    have HH := Lib.hid hHold
    have HL1 := Lib.hid hL1
    have HL2 := Lib.hid hL2
    clear hfr hww eN eV hd hp hr hn hm hu hrok hcl hne husd hcw hcwi hHold hL1 hL2 hhd
    generalize cw c = W at *
    have hWne : ((W : Int) == 0) = false := by rw [beq_eq_false_iff_ne]; omega
    go_enter Try.func26, Try.ntmps26
    go_wp2_with fail
    refine hh.mono ?_
    rintro e w1 ⟨rfl, hb⟩
    clear hh
    go_upto_region 4 with (fail)
    obtain ⟨i0, hi0⟩ : ∃ i0, p / 32 = i0 := ⟨_, rfl⟩
    obtain ⟨s0, hs0⟩ : ∃ s0, p % 32 / W = s0 := ⟨_, rfl⟩
    rw [hi0] at HF HL2 hrl
    rw [hs0] at HF hokF
    rw [hi0] at hokF
    have HI := Lib.hid hi0
    have HS := Lib.hid hs0
    rw [show ((p : Int) / 32) = (i0 : Int) from by omega]
    have hdiv : (Int.tdiv (Int.tmod (p : Int) 32) (W : Int)) = (s0 : Int) := by
      rw [Int.tmod_eq_emod_of_nonneg (by omega), show ((p : Int) % 32) = ((p % 32 : Nat) : Int) from by omega, ← hs0]
      rfl
    have hs0b : s0 < 32 := by rw [← hs0]; exact Nat.lt_of_le_of_lt (Nat.div_le_self _ _) (by omega)
    have HQ : Hid (IntKind.i64.wrap ((Int.tmod (p : Int) 32).tdiv (W : Int)) = (s0 : Int)) := Lib.hid (by rw [hdiv]; exact IntWalk.i64_in _ (by omega))
    clear hdiv
    have hW0 : ¬ W = 0 := by omega
    have c0 := (HH.out _ hb).2
    have c1 := HL1.out _ hb
    have c2 := HL2.out _ hb
    have hi128 : i0 < st.rows.length := hrl
    have hu0 : Upd (fun _ => False) w1 w1 := Upd.refl _ _
    go_region_with (first | (go_at_call 19; refine (HW.out _).mono ?_; rintro e w3 ⟨rfl, hb3⟩; have d0 := (HH.out _ (below_then hb (below_undrew hb3))).2) | (go_at_call 88; rw [HQ.out]; refine (HF.out _ (HH.out _ (below_then hb (below_undrew (by assumption)))).1.spans).mono ?_; rintro e w4 ⟨rfl, hs4, hu4⟩))
    all_goals
      go_wp2
      go_ret
      rw [HI.out, HS.out]
      have hb5 := below_then hb (below_undrew hb3)
      obtain ⟨hs5, _⟩ := HH.out _ hb5
      obtain ⟨V, hV, hR⟩ := hs5.words
      have hxl : (List.replicate (n + 1) ACell.nil).length = n + 1 := by simp
      have hget := setRange_get (l := st.cells) (p := p) (xs := List.replicate (n + 1) ACell.nil) (by rw [hxl]; omega)
      have hsl2 := setRange_length (l := st.cells) (p := p) (xs := List.replicate (n + 1) ACell.nil) (by rw [hxl]; omega)
      rw [hxl] at hget
      refine ⟨rfl, ⟨?_, ⟨V, hu4.arr hV (fun e => e.elim (fun e => hs.ne6 e.symm) (fun e => hs.ne7 e.symm)), ?_⟩, hs4, hs.ne1, hs.ne2, hs.ne3, hs.ne4, hs.ne5, hs.ne6, hs.ne7, hokF⟩, (Upd.of_below hb5).then (hu4.mono (fun k hk => .inl (hk.elim .inl (fun h => .inr (.inl h)))))⟩
      · simp only [Int.toNat_natCast, hsl2]
        exact hu4.arr hs5.head (fun e => e.elim hs.ne2 hs.ne3)
      · simp only [Int.toNat_natCast]
        refine ⟨by rw [hsl2]; exact hR.1, fun q k' n' hq => ?_⟩
        rw [hget] at hq
        split at hq
        · rw [List.getElem?_replicate] at hq; split at hq <;> cases hq
        · rename_i hout
          refine ⟨(hR.2 q k' n' hq).1, fun j u hj hu => ?_⟩
          have hap := HAP.out q k' n' (j + 1) hq (by omega) (by omega)
          rw [hget, if_neg (by omega)] at hu
          exact (hR.2 q k' n' hq).2 j u hj hu
end Go.Proofs.Ytccaegiceneegaa
