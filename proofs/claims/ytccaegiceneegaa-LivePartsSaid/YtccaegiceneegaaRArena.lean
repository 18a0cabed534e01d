/- The walks of the document's arena. No conditions. -/
import Derived.Test.YtccaegiceneegaaRNew
namespace Go.Proofs.Ytccaegiceneegaa
open Go.RowKit

/-- the document's words stand for the cells -/
def RelW (cs : List ACell) (W : List Int) : Prop := W.length = cs.length ∧ ∀ (p : Nat) (k n : Int), cs[p]? = some (ACell.hdr k n) → W[p]? = some (k + 16 * n) ∧ ∀ (j : Nat) (v : Int), j < n.toNat → cs[p + 1 + j]? = some (ACell.wd v) → W[p + 1 + j]? = some v
structure IsRArena (w : World) (ra rs rc rl rw : Nat) (st : Ar) : Prop where
  head : Arr w ra 57 [.pointer (some ⟨rs, 0, none⟩), .slice (some ⟨rw, 0, none⟩) st.cells.length st.cells.length]
  words : ∃ W, Arr w rw 3 (ints W) ∧ RelW st.cells W
  spans : IsRSpans w rs rc rl st.rows
  ne1 : ra ≠ rs
  ne2 : ra ≠ rc
  ne3 : ra ≠ rl
  ne4 : ra ≠ rw
  ne5 : rs ≠ rw
  ne6 : rc ≠ rw
  ne7 : rl ≠ rw
  ok : st.ok
theorem IsRArena.small {w : World} {ra rs rc rl rw : Nat} {st : Ar} (h : IsRArena w ra rs rc rl rw st) : st.cells.length ≤ 4096 := by
  have := h.spans.len; have := h.ok.len; omega
theorem IsRArena.upd {w w' : World} {ra rs rc rl rw : Nat} {st : Ar} (h : IsRArena w ra rs rc rl rw st) {S : Nat → Prop} (hu : Upd S w w') (h1 : ¬ S ra) (h2 : ¬ S rs) (h3 : ¬ S rc) (h4 : ¬ S rl) (h5 : ¬ S rw) : IsRArena w' ra rs rc rl rw st := by
  obtain ⟨W, hW, hR⟩ := h.words
  exact ⟨hu.arr h.head h1, ⟨W, hu.arr hW h5, hR⟩, h.spans.upd hu h2 h3 h4, h.ne1, h.ne2, h.ne3, h.ne4, h.ne5, h.ne6, h.ne7, h.ok⟩
theorem IsRArena.below {w w' : World} {ra rs rc rl rw : Nat} {st : Ar} (h : IsRArena w ra rs rc rl rw st) (hb : Below w.heap.size w w') : IsRArena w' ra rs rc rl rw st :=
  h.upd (Upd.of_below (S := fun _ => False) hb) (fun h => h) (fun h => h) (fun h => h) (fun h => h) (fun h => h)
/-- what a call on the document's arena may turn -/
def arR (rc rl rw : Nat) : Nat → Prop := fun k => k = rc ∨ k = rl ∨ k = rw

theorem below_drewNs {B : Nat} {w w' : World} (h : Below B w w') (n : Nat) : Below B w (w'.drewN n) := ⟨h.os, h.tape, h.output, h.size, h.block⟩
theorem spUsed_eq {sp : List Row} {i : Nat} {r : Row} (hr : sp[i]? = some r) (s : Nat) : spUsed sp i s = r.used.getD s false := by
  unfold spUsed
  rw [if_pos (by omega), Int.toNat_natCast, hr]
  simp
theorem head_iff {st : Ar} (h : st.ok) {p : Nat} {r : Row} (hr : st.rows[p / 32]? = some r) : (st.head p).isSome = true ↔ 0 < cwords r.cls ∧ p % 32 % cw r.cls = 0 ∧ r.used[p % 32 / cw r.cls]? = some true := by
  constructor
  · intro hs
    obtain ⟨⟨k, n⟩, hk⟩ := Option.isSome_iff_exists.1 hs
    obtain ⟨q, hq, hc⟩ := Ar.head_some hk
    obtain rfl : p = q := by omega
    obtain ⟨_, _, a3, r', a4, a5, a6, a7, _⟩ := h.hdr p k n hc
    rw [hr] at a4
    obtain rfl := Option.some.inj a4
    exact ⟨by omega, a6, a7⟩
  · rintro ⟨h1, h2, h3⟩
    obtain ⟨k, n, h4⟩ := h.usd _ _ r hr h3
    have hcw : 0 < cw r.cls := by unfold cw; omega
    have e : 32 * (p / 32) + p % 32 / cw r.cls * cw r.cls = p := by
      have h5 := Nat.div_add_mod (p % 32) (cw r.cls)
      rw [h2, Nat.add_zero, Nat.mul_comm] at h5
      omega
    rw [e] at h4
    unfold Ar.head
    rw [if_pos (by omega), Int.toNat_natCast, h4]; rfl

set_option maxRecDepth 100000 in
set_option maxHeartbeats 1000000 in
theorem rIs {w : World} {ra rs rc rl rw : Nat} {st : Ar} (hs : IsRArena w ra rs rc rl rw st) (i : Int) : Calls Try.prog 86 #[.pointer (some ⟨ra, 0, none⟩), .int .i64 i] w fun e w' =>
    e = .returned (.bool (st.head i).isSome) ∧ Below w.heap.size w w' := by
  have hl := hs.small
  have hra := hs.head.lt
  have c0 := hs.head.cell (j := 0) rfl
  have c1 := hs.head.cell (j := 1) rfl
  by_cases h0 : 0 ≤ i
  case neg =>
    have hres : (st.head i).isSome = false := by simp [Ar.head, h0]
    rw [hres]
    clear hres
    have h0' : i < 0 := by omega
    clear h0
    go_enter Try.func86, Try.ntmps86
    go_wp2
    go_ret
    exact ⟨rfl, Below.refl _ _⟩
  obtain ⟨p, rfl⟩ := Int.eq_ofNat_of_zero_le h0
  by_cases h1 : p < st.cells.length
  case neg =>
    have hres : (st.head (p : Int)).isSome = false := by simp [Ar.head, List.getElem?_eq_none (Nat.le_of_not_lt h1)]
    rw [hres]
    clear hres
    have h1' : st.cells.length ≤ p := by omega
    clear h1
    go_enter Try.func86, Try.ntmps86
    go_wp2
    go_ret
    exact ⟨rfl, Below.refl _ _⟩
  have hlen := hs.ok.len
  have hrl : p / 32 < st.rows.length := by omega
  have hr : st.rows[p / 32]? = some st.rows[p / 32] := List.getElem?_eq_getElem hrl
  have hiff := head_iff hs.ok hr
  obtain ⟨k1, k2, hh, hc1, hc2, hc3, hc4⟩ := hs.spans.head
  unfold maxLen at hc2 hc4
  have c2 := hh.cell (j := 0) rfl
  have c3 := hs.spans.cls.cell (clsCells_get hr)
  have hrs := hh.lt
  have hrok := hs.ok.rows _ (List.getElem_mem hrl)
  generalize hrw : st.rows[p / 32] = r at *
  obtain ⟨q, hq⟩ : ∃ q, p / 32 = q := ⟨_, rfl⟩
  rw [hq] at c3 hrl hr
  have hww := fun w1 => rWords r.cls w1
  have HQ : Hid ((p : Int) / 32 = (q : Int)) := Lib.hid (by omega)
  have h32 : p < 4096 := by omega
  by_cases hcw0 : cwords r.cls = 0
  · have hres : (st.head (p : Int)).isSome = false := by
      cases hx : (st.head (p : Int)).isSome
      · rfl
      · have := (hiff.1 hx).1; omega
    rw [hres]
    rw [hcw0] at hww
    have HW := Lib.hid hww
    clear hww hres hiff hr hq hrw hlen hrok
    go_enter Try.func86, Try.ntmps86
    go_upto_region 4 with (fail)
    rw [HQ.out]
    go_wp2_with fail
    refine (HW.out _).mono ?_
    rintro e w1 ⟨rfl, hb⟩
    go_wp2
    go_quiet (fail)
    go_wp2
    go_ret
    exact ⟨rfl, below_drewNs hb _⟩
  have hcwi : cwords r.cls = (cw r.cls : Int) := by unfold cw; have := (cwords_nonneg r.cls).1; omega
  have hcwp : 0 < cw r.cls := by omega
  have hcw32 : cw r.cls ≤ 32 := by have := (cwords_nonneg r.cls).2; omega
  rw [hcwi] at hww hiff
  have hus := fun w1 (hx : IsRSpans w1 rs rc rl st.rows) => rUsed hx (q : Int) ((p % 32 / cw r.cls : Nat) : Int)
  have huv : spUsed st.rows (q : Int) ((p % 32 / cw r.cls : Nat) : Int) = r.used.getD (p % 32 / cw r.cls) false := spUsed_eq hr _
  rw [huv] at hus
  clear huv hcwi hcw0
  generalize cw r.cls = W at *
  have hmod32 : Int.tmod (p : Int) 32 = ((p % 32 : Nat) : Int) := by rw [Int.tmod_eq_emod_of_nonneg (by omega)]; omega
  have hmodW : Int.tmod (Int.tmod (p : Int) 32) (W : Int) = ((p % 32 % W : Nat) : Int) := by
    rw [hmod32, Int.tmod_eq_emod_of_nonneg (by omega)]
    rfl
  obtain ⟨d, hd⟩ : ∃ d, p % 32 / W = d := ⟨_, rfl⟩
  have hdle : d ≤ 31 := by rw [← hd]; exact Nat.le_trans (Nat.div_le_self _ _) (by omega)
  have hdivW : IntKind.i64.wrap (Int.tdiv (Int.tmod (p : Int) 32) (W : Int)) = (d : Int) := by
    rw [hmod32]
    rw [show Int.tdiv ((p % 32 : Nat) : Int) (W : Int) = ((p % 32 / W : Nat) : Int) from rfl, hd]
    exact IntWalk.i64_in _ (by omega)
  rw [hd] at hus hiff
  clear hmod32
  have hWne : ((W : Int) == 0) = false := by rw [beq_eq_false_iff_ne]; omega
  have hW0 : ¬ W = 0 := by omega
  have hWpos : decide (0 < W) = true := by simpa using hcwp
  have hWpos2 : decide ((0 : Int) < (W : Int)) = true := by simpa using hcwp
  have hnn : (0 : Int) ≤ p := by omega
  by_cases hm : p % 32 % W = 0
  case neg =>
    have hres : (st.head (p : Int)).isSome = false := by
      cases hx : (st.head (p : Int)).isSome
      · rfl
      · exact absurd (hiff.1 hx).2.1 hm
    rw [hres]
    have HW := Lib.hid hww
    have hmB : ((p : Int) % 32 % (W : Int) == 0) = false := by rw [beq_eq_false_iff_ne]; intro e; exact hm (by exact_mod_cast e)
    clear hww hres hiff hr hq hrw hlen hrok hus hdivW hmodW hm hd
    go_enter Try.func86, Try.ntmps86
    go_upto_region 4 with (fail)
    rw [HQ.out]
    go_wp2_with fail
    refine (HW.out _).mono ?_
    rintro e w1 ⟨rfl, hb⟩
    go_wp2
    clear c0 c1 c2 c3
    go_quiet (fail)
    go_wp2
    go_ret
    exact ⟨rfl, below_drewNs hb _⟩
  have hmB : ((p : Int) % 32 % (W : Int) == 0) = true := by rw [beq_iff_eq]; exact_mod_cast hm
  have hres : (st.head (p : Int)).isSome = r.used.getD d false := by
    cases hx : (st.head (p : Int)).isSome
    · cases hy : r.used.getD d false
      · rfl
      · exfalso
        have hz : r.used[d]? = some true := by
          rw [List.getD_eq_getElem?_getD] at hy
          cases hq : r.used[d]? with
          | none => rw [hq] at hy; simp at hy
          | some b => rw [hq] at hy; simp at hy; rw [hy]
        have := hiff.2 ⟨by omega, hm, hz⟩
        rw [this] at hx; cases hx
    · have := (hiff.1 hx).2.2
      rw [List.getD_eq_getElem?_getD, this]; rfl
  rw [hres]
  generalize r.used.getD d false = b at *
  have HW := Lib.hid hww
  have HU := Lib.hid hus
  have HD : Hid ((p : Int) % 32 / (W : Int) = (d : Int)) := Lib.hid (by rw [← hd]; rfl)
  clear hww hres hiff hr hq hrw hlen hrok hus hdivW hmodW hm hd
  go_enter Try.func86, Try.ntmps86
  go_upto_region 4 with (fail)
  rw [HQ.out]
  go_wp2_with fail
  refine (HW.out _).mono ?_
  rintro e w1 ⟨rfl, hb⟩
  have k0 := (hs.head.belowAll hb).cell (j := 0) rfl
  have hsp1 := hs.spans.below hb
  clear c0 c1 c2 c3
  go_wp2
  go_quiet ((go_at_call 121; rw [HD.out]; exact Calls.quiet_of_same ((HU.out _ (hsp1.upd ((Upd.refl (fun _ => False) _).drewN _) (fun h => h) (fun h => h) (fun h => h))).mono (fun _ _ h => ⟨h.1, h.2.symm⟩))))
  go_wp2
  go_ret
  exact ⟨rfl, below_drewNs hb _⟩

set_option maxRecDepth 100000 in
theorem rKind {w : World} {ra rs rc rl rw : Nat} {st : Ar} (hs : IsRArena w ra rs rc rl rw st) (i : Int) : Calls Try.prog 37 #[.pointer (some ⟨ra, 0, none⟩), .int .i64 i] w fun e w' =>
    e = .returned (.int .i64 (hK (st.head i))) ∧ Below w.heap.size w w' := by
  have hl := hs.small
  have hi := rIs hs i
  cases hd : st.head i with
  | none =>
    rw [hd] at hi
    simp only [hK, Option.isSome] at hi ⊢
    clear hd
    go_enter Try.func37, Try.ntmps37
    go_wp2_with (go_at_call 86; refine hi.mono ?_; rintro e w1 ⟨rfl, hb⟩)
    go_ret
    exact ⟨rfl, hb⟩
  | some kn =>
    obtain ⟨k, n⟩ := kn
    obtain ⟨p, rfl, hp⟩ := Ar.head_some hd
    rw [hd] at hi
    simp only [hK, Option.isSome] at hi ⊢
    obtain ⟨b1, b2, b3, b4, b5, b6⟩ := hs.ok.fits hp
    obtain ⟨W, hW, hR⟩ := hs.words
    have hwp := (hR.2 p k n hp).1
    have hpl := (List.getElem?_eq_some_iff.1 hp).1
    have hcell : (ints W)[p]? = some (.int .i64 (k + 16 * n)) := by simp [ints, hwp]
    have HC := Lib.hid hcell
    have HF : Hid ((k + 16 * n) % 16 = k) := Lib.hid (by omega)
    have hnn : 0 ≤ k + 16 * n := by omega
    have hnb : k + 16 * n ≤ 600 := by omega
    clear hd hp hwp hcell
    generalize k + 16 * n = z at *
    go_enter Try.func37, Try.ntmps37
    go_wp2_with (go_at_call 86; refine hi.mono ?_; rintro e w1 ⟨rfl, hb⟩; have c1 := (hs.head.belowAll hb).cell (j := 1) rfl; have c2 := (hW.belowAll hb).cell HC.out)
    go_ret
    exact ⟨ret_int HF.out, hb⟩

set_option maxRecDepth 100000 in
theorem rLen {w : World} {ra rs rc rl rw : Nat} {st : Ar} (hs : IsRArena w ra rs rc rl rw st) (i : Int) : Calls Try.prog 39 #[.pointer (some ⟨ra, 0, none⟩), .int .i64 i] w fun e w' =>
    e = .returned (.int .i64 (hN (st.head i))) ∧ Below w.heap.size w w' := by
  have hl := hs.small
  have hi := rIs hs i
  cases hd : st.head i with
  | none =>
    rw [hd] at hi
    simp only [hN, Option.isSome] at hi ⊢
    clear hd
    go_enter Try.func39, Try.ntmps39
    go_wp2_with (go_at_call 86; refine hi.mono ?_; rintro e w1 ⟨rfl, hb⟩)
    go_ret
    exact ⟨rfl, hb⟩
  | some kn =>
    obtain ⟨k, n⟩ := kn
    obtain ⟨p, rfl, hp⟩ := Ar.head_some hd
    rw [hd] at hi
    simp only [hN, Option.isSome] at hi ⊢
    obtain ⟨b1, b2, b3, b4, b5, b6⟩ := hs.ok.fits hp
    obtain ⟨W, hW, hR⟩ := hs.words
    have hwp := (hR.2 p k n hp).1
    have hpl := (List.getElem?_eq_some_iff.1 hp).1
    have hcell : (ints W)[p]? = some (.int .i64 (k + 16 * n)) := by simp [ints, hwp]
    have HC := Lib.hid hcell
    have HF : Hid ((k + 16 * n) / 16 = n) := Lib.hid (by omega)
    have hnn : 0 ≤ k + 16 * n := by omega
    have hnb : k + 16 * n ≤ 600 := by omega
    clear hd hp hwp hcell
    generalize k + 16 * n = z at *
    go_enter Try.func39, Try.ntmps39
    go_wp2_with (go_at_call 86; refine hi.mono ?_; rintro e w1 ⟨rfl, hb⟩; have c1 := (hs.head.belowAll hb).cell (j := 1) rfl; have c2 := (hW.belowAll hb).cell HC.out)
    go_ret
    exact ⟨ret_int HF.out, hb⟩

set_option maxRecDepth 100000 in
theorem rLoad {w : World} {ra rs rc rl rw : Nat} {st : Ar} (hs : IsRArena w ra rs rc rl rw st) (i j : Int) : Calls Try.prog 41 #[.pointer (some ⟨ra, 0, none⟩), .int .i64 i, .int .i64 j] w fun e w' =>
    e = .returned (.tuple #[.int .i64 (arLoad st i j).1, .int .i64 (arLoad st i j).2]) ∧ Below w.heap.size w w' := by
  have hl := hs.small
  have hi := rIs hs i
  cases hd : st.head i with
  | none =>
    have e1 : arLoad st i j = (0, 8) := by simp [arLoad, hd]
    rw [e1]
    rw [hd] at hi
    simp only [Option.isSome] at hi ⊢
    clear hd e1
    go_enter Try.func41, Try.ntmps41
    go_wp2_with (go_at_call 86; refine hi.mono ?_; rintro e w1 ⟨rfl, hb⟩)
    go_ret2
    exact ⟨rfl, hb⟩
  | some kn =>
    obtain ⟨k, n⟩ := kn
    have hlen := fun w1 (h : IsRArena w1 ra rs rc rl rw st) => rLen h i
    rw [hd] at hi hlen
    simp only [Option.isSome, hN] at hi hlen
    have HL := Lib.hid hlen
    clear hlen
    by_cases hj : j < 0 ∨ n ≤ j
    · have e1 : arLoad st i j = (0, 1) := by simp [arLoad, hd, hj]
      rw [e1]
      clear e1
      by_cases hj0 : j < 0
      · clear hd hj
        go_enter Try.func41, Try.ntmps41
        go_wp2_with (go_at_call 86; refine hi.mono ?_; rintro e w1 ⟨rfl, hb⟩)
        go_ret2
        exact ⟨rfl, hb⟩
      · have hj1 : 0 ≤ j := by omega
        have hj2 : n ≤ j := by omega
        clear hd hj hj0
        go_enter Try.func41, Try.ntmps41
        go_wp2_with fail
        refine hi.mono ?_
        rintro e w1 ⟨rfl, hb⟩
        go_wp2_with fail
        refine (HL.out _ (hs.below hb)).mono ?_
        rintro e w2 ⟨rfl, hb2⟩
        go_wp2
        go_ret2
        exact ⟨rfl, below_then hb hb2⟩
    · have h0 : (arLoad st i j).2 = 0 := by simp [arLoad, hd, hj]
      obtain ⟨q, v, hq, hv, e1, e2, _⟩ := arLoad_ok hs.ok h0
      rw [h0, e1]
      obtain ⟨W, hW, hR⟩ := hs.words
      have hql := (List.getElem?_eq_some_iff.1 hv).1
      obtain ⟨p, rfl, hp⟩ := Ar.head_some hd
      have hj1 : 0 ≤ j := by omega
      have hj2 : j < n := by omega
      obtain ⟨j, rfl⟩ := Int.eq_ofNat_of_zero_le hj1
      have hpl := (List.getElem?_eq_some_iff.1 hp).1
      obtain ⟨b1, b2, b3, b4, b5, b6⟩ := hs.ok.fits hp
      obtain rfl : q = p + 1 + j := by omega
      have hwp := (hR.2 p k n hp).2 j v (by omega) hv
      have hcell : (ints W)[p + 1 + j]? = some (.int .i64 v) := by simp [ints, hwp]
      have HC := Lib.hid hcell
      clear hd hj h0 hv e1 e2 hwp hcell hq hp
      go_enter Try.func41, Try.ntmps41
      go_wp2_with fail
      refine hi.mono ?_
      rintro e w1 ⟨rfl, hb⟩
      go_wp2_with fail
      refine (HL.out _ (hs.below hb)).mono ?_
      rintro e w2 ⟨rfl, hb2⟩
      have hb3 := below_then hb hb2
      have c1 := (hs.head.belowAll hb3).cell (j := 1) rfl
      have c2 := (hW.belowAll hb3).cell HC.out
      go_wp2
      go_ret2
      exact ⟨rfl, hb3⟩
end Go.Proofs.Ytccaegiceneegaa
