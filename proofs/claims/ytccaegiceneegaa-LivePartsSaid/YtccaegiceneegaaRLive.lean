/- The walks of what the document reaches. The condition: all words of the arena fit. -/
import Derived.Test.YtccaegiceneegaaRHeap
import Derived.Test.YtccaegiceneegaaLiveC
namespace Go.Proofs.Ytccaegiceneegaa
open Go.RowKit

theorem arLoad_word {st : Ar} (h : st.ok) {p : Nat} {k n : Int} (hp : st.cells[p]? = some (.hdr k n)) {m : Nat} (hm : m < n.toNat) {W : List Int} (hW : RelW st.cells W) : W[p + 1 + m]? = some (arLoad st (p : Int) (m : Int)).1 := by
  obtain ⟨_, _, b3, r, _, _, _, _, hw⟩ := h.hdr p k n hp
  obtain ⟨v, hv⟩ := hw m hm
  have e : arLoad st (p : Int) (m : Int) = (v, 0) := by
    unfold arLoad
    rw [Ar.head_nat, hp]
    simp only [Option.bind, hdrAt]
    rw [if_neg (by omega)]
    have e1 : ((p : Int) + 1 + (m : Int)).toNat = p + 1 + m := by omega
    rw [e1, hv]; rfl
  rw [e]
  exact (hW.2 p k n hp).2 m v hm hv

set_option maxRecDepth 100000 in
theorem rWordsOf {w : World} {O : Nat → Prop} {rh ra rs rc rl rw cb rg : Nat} {H : Hp} (h : RHeapB w O rh ra rs rc rl rw cb rg H) (i : Int) : Calls Try.prog 99 #[.pointer (some ⟨rh, 0, none⟩), .int .i64 i] w (SvPost (wordsOf H.st i) w) := by
  have hsm := h.arena.small
  have HB := Lib.hid (fun wx (hb : Below w.heap.size w wx) => h.below hb)
  have HW : Hid (wordsOf H.st i = (List.range (hN (H.st.head i)).toNat).map fun (j : Nat) => (arLoad H.st i (j : Int)).1) := Lib.hid rfl
  have hL := Lib.hid (fun wx (hb : Below w.heap.size w wx) => rLen (h.below hb).arena i)
  cases hd : H.st.head i with
  | none =>
    rw [hd] at HW hL
    simp only [hN, Int.toNat_zero, List.range_zero, List.map_nil] at HW hL
    clear hd
    go_enter Try.func99, Try.ntmps99
    go_wp2
    go_loopw [5, 6] (fun l j wr => l = .slice none 0 0 ∧ j = .int .i64 0 ∧ wr = w) (fun _ _ _ => 0)
    case atStart => exact ⟨rfl, rfl, rfl⟩
    case round =>
      obtain ⟨rfl, rfl, rfl⟩ := hrel
      have c0 := (HB.out _ (Below.refl _ _)).head.cell (j := 0) rfl
      go_wp2_with (go_at_call 39; refine (hL.out _ (Below.refl _ _)).mono ?_; rintro e w3 ⟨rfl, hb3⟩)
      go_ret
      exact ⟨_, rfl, by rw [HW.out]; exact IntSv.nil _ _, hb3⟩
  | some kn =>
    obtain ⟨k, n⟩ := kn
    rw [hd] at HW hL
    simp only [hN] at HW hL
    obtain ⟨p, rfl, hp⟩ := Ar.head_some hd
    obtain ⟨b1, b2, b3, b4, b5, b6⟩ := h.arena.ok.fits hp
    have hok := h.arena.ok
    have HC := Lib.hid (fun wx (hb : Below w.heap.size w wx) (m : Nat) (hm : m < n.toNat) => (show wx.cell? ⟨rw, p + 1 + m, none⟩ = some (.int .i64 (arLoad H.st (p : Int) (m : Int)).1) from by
      obtain ⟨W, hW, hR⟩ := (h.below hb).arena.words
      exact hW.cell (by simp [ints, arLoad_word hok hp hm hR])))
    obtain ⟨n, rfl⟩ := Int.eq_ofNat_of_zero_le b3
    simp only [Int.toNat_natCast] at HW HC b5 b6
    clear hd hp hok
    go_enter Try.func99, Try.ntmps99
    go_wp2
    go_loopw [5, 6] (fun l j wr => ∃ m : Nat, m ≤ n ∧ j = .int .i64 m ∧ IntSv wr (newIn w) l ((List.range m).map fun (j : Nat) => (arLoad H.st (p : Int) (j : Int)).1) ∧ Below w.heap.size w wr) (fun _ j _ => n - (intOf j).toNat)
    case atStart => exact ⟨0, by omega, rfl, IntSv.nil _ _, Below.refl _ _⟩
    case round =>
      obtain ⟨m, hm, rfl, hown, hbr⟩ := hrel
      have c0 := (HB.out _ hbr).head.cell (j := 0) rfl
      have hLr := hL.out _ hbr
      by_cases hlt : m < n
      · have hll : ((List.range m).map fun (j : Nat) => (arLoad H.st (p : Int) (j : Int)).1).length ≤ 32 := by simp; omega
        have hsu := wordsTo_succ H.st (p : Int) m
        have hcm := Lib.hid (fun wx (hb : Below w.heap.size w wx) => HC.out wx hb m hlt)
        generalize (arLoad H.st (p : Int) (m : Int)).1 = x at *
        generalize ((List.range m).map fun (j : Nat) => (arLoad H.st (p : Int) (j : Int)).1) = xs at *
        have HSU := Lib.hid hsu
        clear hsu HC
        go_upto_region 5 with (go_at_call 39; refine hLr.mono ?_; rintro e w3 ⟨rfl, hb3⟩; have hb4 := below_then hbr hb3)
        have d0 := (HB.out _ hb4).head.cell (j := 0) rfl
        have d1 := (HB.out _ hb4).arena.head.cell (j := 1) rfl
        have d2 := hcm.out _ hb4
        have hb6 := hb4.alloc hb4.size (.cells #[.int .i64 x] 3)
        have hown6 := (hown.below hb3).below ((Below.refl _ w3).alloc (Nat.le_refl _) (.cells #[.int .i64 x] 3))
        have hc6 := (Arr.made w3 3 [.int .i64 x]).cell (j := 0) rfl
        have hra := (HB.out _ hb4).arena.head.lt
        have i1 : (0 : Int) ≤ (p : Int) + 1 + (m : Int) := by omega
        have i2 : (p : Int) + 1 + (m : Int) < (H.st.cells.length : Int) := by omega
        have i3 : ((p : Int) + 1 + (m : Int)).toNat = p + 1 + m := by omega
        clear hown hLr c0
        go_wp2_with (at_builtin; refine wpList_append_sv _ rfl _ _ 22 Try.underlying22 rfl (newIn w) _ xs rfl hown6 _ [x] rfl (src_one _ x hc6 Try.underlying22) (by simp; omega) ?_)
        intro v' w7 hown7 hu7 hz7
        have hb7 := Upd.belowOf hb6 hu7 (fun k hk => hk) (by simp)
        have hz6 := hb4.size
        have hown8 := hown7.mono (O' := newIn w) (fun k hk => hk.elim (fun h => h) (fun h => by subst h; simp [newIn]; omega))
        clear hown7 hu7 hz7 hown6 hc6 d0 d1 d2
        go_wp2
        go_roundw
        case rel => exact ⟨m + 1, by omega, by go_num, by rw [HSU.out]; exact hown8, hb7⟩
        case measure => simp [intOf]; omega
      · obtain rfl : m = n := by omega
        go_wp2_with (go_at_call 39; refine hLr.mono ?_; rintro e w3 ⟨rfl, hb3⟩)
        have hown2 := hown.below hb3
        clear hown
        go_ret
        exact ⟨_, rfl, by rw [HW.out]; exact hown2, below_then hbr hb3⟩
end Go.Proofs.Ytccaegiceneegaa
