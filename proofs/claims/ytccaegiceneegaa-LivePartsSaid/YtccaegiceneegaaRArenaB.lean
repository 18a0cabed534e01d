/- The walks of the document's arena: stores, new ones, objects; then what is allotted and freed. No conditions. -/
import Derived.Test.YtccaegiceneegaaRArena
namespace Go.Proofs.Ytccaegiceneegaa
open Go.RowKit

theorem IsRArena.set {w : World} {ra rs rc rl rw : Nat} {st : Ar} (h : IsRArena w ra rs rc rl rw st) {q : Nat} (hq : q < st.cells.length) (v : Int) (hok : Ar.ok ⟨st.rows, st.cells.set q (.wd v)⟩) : IsRArena (w.setCell ⟨rw, q, none⟩ (.int .i64 v)) ra rs rc rl rw ⟨st.rows, st.cells.set q (.wd v)⟩ := by
  have hu := upd_setCell w rw q (.int .i64 v)
  obtain ⟨W, hW, hR⟩ := h.words
  refine ⟨by simpa using hu.arr h.head h.ne4, ⟨W.set q v, ?_, ?_⟩, h.spans.upd hu h.ne5 h.ne6 h.ne7, h.ne1, h.ne2, h.ne3, h.ne4, h.ne5, h.ne6, h.ne7, hok⟩
  · have := hW.set (j := q) (by rw [ints_length, hR.1]; exact hq) (.int .i64 v)
    have e : (ints W).set q (.int .i64 v) = ints (W.set q v) := by simp [ints, List.map_set]
    rwa [e] at this
  · have hget : ∀ p, (st.cells.set q (.wd v))[p]? = if q = p then some (.wd v) else st.cells[p]? := by
      intro p; rw [List.getElem?_set]
      split
      · rfl
      · rfl
    have hget2 : ∀ p, (W.set q v)[p]? = if q = p then some v else W[p]? := by
      intro p; rw [List.getElem?_set]
      split
      · rename_i e; subst e; rw [if_pos (by rw [hR.1]; exact hq)]
      · rfl
    refine ⟨by simpa using hR.1, fun p k n hk => ?_⟩
    show _ ∧ _
    change (st.cells.set q (.wd v))[p]? = _ at hk
    simp only [hget, hget2] at hk ⊢
    split at hk
    · cases hk
    · rename_i e
      rw [if_neg e]
      refine ⟨(hR.2 p k n hk).1, fun j u hj hu => ?_⟩
      split at hu
      · rename_i e2; rw [if_pos e2]; cases hu; rfl
      · rename_i e2; rw [if_neg e2]; exact (hR.2 p k n hk).2 j u hj hu

set_option maxRecDepth 100000 in
theorem rStore {w : World} {ra rs rc rl rw : Nat} {st : Ar} (hs : IsRArena w ra rs rc rl rw st) (i j v : Int) : Calls Try.prog 28 #[.pointer (some ⟨ra, 0, none⟩), .int .i64 i, .int .i64 j, .int .i64 v] w fun e w' =>
    e = .returned (.int .i64 (arLoad st i j).2) ∧ IsRArena w' ra rs rc rl rw (arStoreN st i j v) ∧ Upd (arR rc rl rw) w w' := by
  have hl := hs.small
  have hh := rLoad hs i j
  by_cases h0 : (arLoad st i j).2 = 0
  · obtain ⟨q, v0, hq, hv, e1, e2, e3⟩ := arLoad_ok hs.ok h0
    have hok := hs.ok.store i j v
    rw [e3] at hok ⊢
    rw [h0]
    rw [h0] at hh
    have hql := (List.getElem?_eq_some_iff.1 hv).1
    obtain ⟨W, hW, hR⟩ := hs.words
    obtain ⟨v1, hwp⟩ : ∃ v1, W[q]? = some v1 := ⟨_, List.getElem?_eq_getElem (by rw [hR.1]; exact hql)⟩
    have hcell : (ints W)[q]? = some (.int .i64 v1) := by simp [ints, hwp]
    have HC := Lib.hid hcell
    have hib : 0 ≤ i ∧ i ≤ 4096 ∧ 0 ≤ j ∧ j ≤ 4096 := by
      have h1 := h0
      unfold arLoad at h1
      split at h1
      · simp at h1
      · rename_i k n hd
        split at h1
        · simp at h1
        · obtain ⟨p, rfl, hp⟩ := Ar.head_some hd
          have := (List.getElem?_eq_some_iff.1 hp).1
          have := hs.ok.fits hp
          omega
    obtain ⟨i1, i2, j1, j2⟩ := hib
    obtain ⟨i, rfl⟩ := Int.eq_ofNat_of_zero_le i1
    obtain ⟨j, rfl⟩ := Int.eq_ofNat_of_zero_le j1
    obtain rfl : q = i + 1 + j := by omega
    generalize (arLoad st i j).1 = lv at *
    clear h0 hq hv e1 e2 e3 hcell hwp
    go_enter Try.func28, Try.ntmps28
    go_wp2_with (go_at_call 41; refine hh.mono ?_; rintro e w1 ⟨rfl, hb⟩; have c1 := (hs.head.belowAll hb).cell (j := 1) rfl; have c2 := (hW.belowAll hb).cell HC.out; have f2 := (hW.belowAll hb).frozen (i + 1 + j))
    go_ret
    exact ⟨rfl, (hs.below hb).set hql v hok, (Upd.of_below hb).then ((upd_setCell w1 rw (i + 1 + j) _).mono (fun k hk => .inl (.inr (.inr hk))))⟩
  · have hne : ((arLoad st i j).2 == 0) = false := by rw [beq_eq_false_iff_ne]; exact h0
    have e1 : arStoreN st i j v = st := by simp [arStoreN, h0]
    rw [e1]
    clear e1 h0
    generalize (arLoad st i j).2 = er at *
    generalize (arLoad st i j).1 = lv at *
    go_enter Try.func28, Try.ntmps28
    go_wp2_with (go_at_call 41; refine hh.mono ?_; rintro e w1 ⟨rfl, hb⟩)
    go_ret
    exact ⟨rfl, hs.below hb, Upd.of_below hb⟩

def RArNewPost (n : Nat) (w : World) (e : Ending) (w' : World) : Prop :=
  ∃ ra rs rc rl rw, e = .returned (.tuple #[.pointer (some ⟨ra, 0, none⟩), .int .i64 0]) ∧ IsRArena w' ra rs rc rl rw (arNew n) ∧ w.heap.size ≤ ra ∧ w.heap.size ≤ rs ∧ w.heap.size ≤ rc ∧ w.heap.size ≤ rl ∧ w.heap.size ≤ rw ∧ Below w.heap.size w w'

set_option maxRecDepth 100000 in
theorem rArNew (n : Nat) (h2 : 2 ≤ n) (h128 : n ≤ 128) (w : World) : Calls Try.prog 22 #[.int .i64 n] w (RArNewPost n w) := by
  obtain ⟨i0, hi, hz0, hz1, hz2⟩ := info_parts info_int
  have hmk := fun wx => make_cells (t := 22) (e := 3) Try.underlying22 hi hz0 hz1 rfl (32 * n) (by rw [hz2]; omega) (by omega) ((n : Int) * 32) (by omega) wx
  generalize hcs : (List.replicate (32 * n) (Value.int .i64 0)) = cs at *
  have HCS := Lib.hid hcs
  clear hcs
  go_enter Try.func22, Try.ntmps22
  go_wp2_with fail
  refine (rSpNew n h2 h128 w).mono ?_
  rintro e w1 ⟨rs, rc, rl, rfl, hs1, hrs, hrc, hrl, hb1⟩
  go_wp2
  go_ret2
  have hb2 := hb1.alloc hb1.size (.cells cs.toArray 3)
  have hA1 := Arr.made w1 3 cs
  have hs2 := hs1.below ((Below.refl _ _).alloc (Nat.le_refl _) (.cells cs.toArray 3))
  have hz : (w1.alloc (.cells cs.toArray 3)).heap.size = w1.heap.size + 1 := by simp
  have hpl : rs < w1.heap.size := by obtain ⟨_, _, hh, _⟩ := hs1.head; exact hh.lt
  have hcl := hs1.cls.lt
  have hsl := hs1.slots.lt
  have hlen : (arNew n).cells.length = 32 * n := by simp [arNew]
  refine ⟨w1.heap.size + 1, rs, rc, rl, w1.heap.size, rfl, ?_, by have := hb1.size; omega, hrs, hrc, hrl, hb1.size, hb2.alloc hb2.size _⟩
  have hs3 := hs2.below ((Below.refl _ _).alloc (Nat.le_refl _) (.cells #[.pointer (some ⟨rs, 0, none⟩), .slice (some ⟨w1.heap.size, 0, none⟩) (32 * n) (32 * n)] 57))
  have hA2 := hA1.alloc (.cells #[.pointer (some ⟨rs, 0, none⟩), .slice (some ⟨w1.heap.size, 0, none⟩) (32 * n) (32 * n)] 57)
  have hA3 := Arr.made (w1.alloc (.cells cs.toArray 3)) 57 [.pointer (some ⟨rs, 0, none⟩), .slice (some ⟨w1.heap.size, 0, none⟩) (32 * n) (32 * n)]
  rw [hz] at hA3
  refine ⟨by rw [hlen]; exact hA3, ⟨List.replicate (32 * n) 0, ?_, ?_⟩, hs3, by omega, by omega, by omega, by omega, by omega, by omega, by omega, arNew_ok n⟩
  · have : ints (List.replicate (32 * n) 0) = cs := by rw [← HCS.out]; simp [ints]
    rw [this]; exact hA2
  · refine ⟨by simp [arNew], fun p k m hk => ?_⟩
    simp only [arNew, List.getElem?_replicate] at hk; split at hk <;> cases hk

set_option maxRecDepth 100000 in
theorem rObjects {w : World} {ra rs rc rl rw : Nat} {st : Ar} (hs : IsRArena w ra rs rc rl rw st) : Calls Try.prog 24 #[.pointer (some ⟨ra, 0, none⟩)] w (SlPost (castL (arObjs st)) w) := by
  obtain ⟨i0, hi, hz0, hz1, hz2⟩ := info_parts info_int
  have hl := hs.small
  go_enter Try.func24, Try.ntmps24
  go_wp2
  go_loopw [3, 4] (fun l i wr => ∃ m : Nat, m ≤ st.cells.length ∧ i = .int .i64 m ∧ IntSl wr w.heap.size l (castL (objsTo st m)) ∧ Below w.heap.size w wr) (fun _ i _ => st.cells.length - (intOf i).toNat)
  case atStart => exact ⟨0, by omega, rfl, IntSl.nil _ _, Below.refl _ _⟩
  case round =>
    obtain ⟨m, hm, rfl, hown, hb⟩ := hrel
    have c1 := (hs.head.belowAll hb).cell (j := 1) rfl
    by_cases hlt : m < st.cells.length
    · have hh := rIs (hs.below hb) m
      have hsc := objsTo_succ st m
      have hol := objsTo_length st m
      have HOL : Hid ((castL (objsTo st m)).length ≤ 4096) := Lib.hid (by simp [castL]; omega)
      clear hol
      cases hso : (st.head m).isSome with
      | false =>
        rw [hso] at hsc hh
        simp only [Bool.false_eq_true, if_false, List.append_nil] at hsc
        have HSC := Lib.hid hsc
        clear hsc hso
        go_wp2_with fail
        refine hh.mono ?_
        rintro e w2 ⟨rfl, hb2⟩
        have hb3 := below_then' hb hb2
        have hz := hb2.size
        clear c1
        go_wp2
        go_roundw
        case rel => exact ⟨m + 1, by omega, by go_num, by rw [HSC.out]; exact hown.below hb2, hb3⟩
        case measure => simp [intOf]; omega
      | true =>
        rw [hso] at hsc hh
        simp only [if_true] at hsc
        have HSC := Lib.hid hsc
        clear hsc hso
        go_wp2_with fail
        refine hh.mono ?_
        rintro e w2 ⟨rfl, hb2⟩
        have hb3 := below_then' hb hb2
        have hz := hb2.size
        have hown2 := hown.below hb2
        clear hown c1
        go_wp2_with (at_builtin; refine wpList_append_own _ rfl _ _ 22 rfl w.heap.size 3 i0 (.int .i64 0) 1 8 Try.underlying22 hi hz0 hz1 hz2 rfl (by decide) _ _ _ rfl (World.ownsRow.alloc hown2 _) ⟨w2.heap.size, 0, none⟩ 1 1 [.int .i64 m] rfl rfl ?c1 ?c2 ?c3 ?c4 ?c5 ?_)
        case c1 => exact news_made w2 3 [.int .i64 m]
        case c2 => intro u hu; simp at hu; subst hu; rfl
        case c3 => unfold maxLen; have := HOL.out; omega
        case c4 => have := HOL.out; omega
        case c5 => have := hb3.size; simp at this ⊢; omega
        intro v' w5 hown' hgrow hiff
        have hsl := IntSl.of_snoc hown' rfl
        have hb5 := (hb3.alloc hb3.size _).grown hgrow (hb3.alloc hb3.size _).size (fun k hk => (World.ownsRow.lt hown2 k hk).1)
        clear hiff hgrow hown'
        go_wp2
        go_roundw
        case rel => exact ⟨m + 1, by omega, by go_num, by rw [HSC.out]; simpa [castL] using hsl, hb5⟩
        case measure => simp [intOf]; omega
    · obtain rfl : m = st.cells.length := by omega
      go_wp2
      go_ret
      exact ⟨_, rfl, hown, hb⟩
end Go.Proofs.Ytccaegiceneegaa
