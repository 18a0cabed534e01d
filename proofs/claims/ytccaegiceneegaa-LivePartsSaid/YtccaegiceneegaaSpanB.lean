/- The walks of span.Spans.Alloc and Free. No conditions. -/
import Derived.Test.YtccaegiceneegaaSpan
import Derived.Test.YtccaegiceneegaaShelf
namespace Go.Proofs.Ytccaegiceneegaa
open Go.RowKit

theorem IsSpans.upd {w w' : World} {ps br : Nat} {sp : List Row} (h : IsSpans w ps br sp) {S : Nat → Prop} (hu : Upd S w w') (h1 : ¬ S ps) (h2 : ¬ S br) : IsSpans w' ps br sp := by
  obtain ⟨cap, hh, hc⟩ := h.head
  exact ⟨⟨cap, hu.arr hh h1, hc⟩, hu.arr h.rows h2, h.ne, h.ok, h.len⟩
theorem IsSpans.turned {w w' : World} {ps br : Nat} {sp sp' : List Row} (h : IsSpans w ps br sp) (hu : Upd (fun k => k = br) w w') (hr : Arr w' br 112 (rowCells sp')) (hl : sp'.length = sp.length) (hok : ∀ r ∈ sp', r.ok) : IsSpans w' ps br sp' := by
  obtain ⟨cap, hh, hc⟩ := h.head
  exact ⟨⟨cap, by rw [hl]; exact hu.arr hh h.ne, by rw [hl]; exact hc⟩, hr, h.ne, hok, by rw [hl]; exact h.len⟩
theorem ok_set {sp : List Row} (h : ∀ r ∈ sp, r.ok) (i : Nat) {r : Row} (hr : r.ok) : ∀ q ∈ sp.set i r, q.ok := by
  intro q hq
  rcases List.mem_or_eq_of_mem_set hq with hq | rfl
  · exact h q hq
  · exact hr
theorem Row.ok.turn {r : Row} (h : r.ok) (j : Nat) (s : Bool) : Row.ok ⟨r.cls, r.used.set j s⟩ := by
  rcases h with ⟨h1, h2⟩ | ⟨h1, h2, h3⟩
  · exact .inl ⟨h1, by simp [h2]⟩
  · exact .inr ⟨h1, h2, by simpa using h3⟩

set_option maxRecDepth 100000 in
theorem spAlloc_calls {w : World} {ps br : Nat} {sp : List Row} (hs : IsSpans w ps br sp) (k : Int) : Calls Try.prog 15 #[.pointer (some ⟨ps, 0, none⟩), .int .i64 k] w fun e w' =>
    e = .returned (.tuple #[.int .i64 (spAllocV sp k).1, .int .i64 (spAllocV sp k).2.1, .bool (spAllocV sp k).2.2]) ∧ IsSpans w' ps br (spAllocN sp k) ∧ Upd (fun k => k = br) w w' := by
  obtain ⟨cap, hh, hc1, hc2⟩ := hs.head
  have hl := hs.len
  unfold maxLen at hc2
  have hpl := hh.lt
  have hbl := hs.rows.lt
  have c0 := hh.cell (j := 0) rfl
  by_cases hk0 : cslots k = 0
  · have e1 : spAllocV sp k = (0, 0, false) := by simp [spAllocV, spAlloc, hk0]
    have e2 : spAllocN sp k = sp := by simp [spAllocN, spAlloc, hk0]
    have hsl := classSlots k w
    rw [hk0] at hsl
    rw [e1, e2]
    clear e1 e2 hk0
    go_enter Try.func15, Try.ntmps15
    go_wp2_with (go_at_call 79; refine hsl.mono ?_; rintro e w1 ⟨rfl, hb⟩)
    go_ret3
    exact ⟨rfl, hs.upd (Upd.of_below (S := fun _ => False) hb) (fun h => h) (fun h => h), Upd.of_below hb⟩
  have hkne : (cslots k == 0) = false := by simpa using hk0
  have hkb := cslots_le k
  have hkr : 0 ≤ k ∧ k ≤ 3 := by unfold cslots at hk0; omega
  have hvn : ∀ i r, fitIdx sp k = i → sp[i]? = some r → spAllocV sp k = ((i : Int), (firstFree r.used : Int), true) ∧ spAllocN sp k = sp.set i ⟨r.cls, r.used.set (firstFree r.used) true⟩ := by
    intro i r h1 h2; subst h1; simp [spAllocV, spAllocN, spAlloc, hk0, h2]
  have hfn : fitIdx sp k = sp.length → (spAllocV sp k = if freshIdx sp < sp.length then ((freshIdx sp : Int), 0, true) else (0, 0, false)) ∧ spAllocN sp k = (if freshIdx sp < sp.length then sp.set (freshIdx sp) ⟨k, (List.replicate (cslots k).toNat false).set 0 true⟩ else sp) := by
    intro h1
    simp only [spAllocV, spAllocN, spAlloc, hk0, if_false, h1, List.getElem?_eq_none (Nat.le_refl sp.length)]
    by_cases h : freshIdx sp < sp.length <;> simp [h]
  have HVN := Lib.hid hvn
  have HFN := Lib.hid hfn
  clear hvn hfn hk0
  go_enter Try.func15, Try.ntmps15
  go_wp2_with (go_at_call 79; refine (classSlots k w).mono ?_; rintro e w1 ⟨rfl, hb⟩; have c1 := (hb.cell (p := ⟨ps, 0, none⟩) hpl).trans c0)
  go_loopw [8, 26] (fun f i wr => ∃ n : Nat, n ≤ sp.length ∧ i = .int .i64 n ∧ f = .int .i64 (freshTo sp n) ∧ Below w.heap.size w wr ∧ (∀ j, (hj : j < sp.length) → j < n → rowFits k sp[j] = false)) (fun _ i _ => sp.length - (intOf i).toNat)
  case atStart => exact ⟨0, by omega, rfl, by simp [freshTo], hb, fun _ _ h => by omega⟩
  case round =>
    obtain ⟨n, hn, rfl, rfl, hbr, hno⟩ := hrel
    have HNO := Lib.hid hno; clear hno
    clear c1 hb c0
    have d0 : wr.cell? ⟨ps, 0, none⟩ = _ := (hbr.cell hpl).trans (hh.cell (j := 0) rfl)
    by_cases hlt : n < sp.length
    · have hr : sp[n]? = some sp[n] := List.getElem?_eq_getElem hlt
      have d1 : wr.cell? ⟨br, n * 2, none⟩ = _ := (hbr.cell hbl).trans (hs.rows.cell (rowCells_get sp n _ hr).1)
      have d2 : wr.cell? ⟨br, n * 2 + 1, none⟩ = _ := (hbr.cell hbl).trans (hs.rows.cell (rowCells_get sp n _ hr).2)
      have hrok := hs.ok _ (List.getElem_mem hlt)
      have HFS := Lib.hid (freshTo_succ hlt)
      have HR := Lib.hid hr; clear hr
      generalize hrw : sp[n] = r at *
      have HRW := Lib.hid hrw; clear hrw
      have hff := rowFirst r hrok.le
      by_cases hfit : rowFits k r = true
      · obtain ⟨hcls, hfb⟩ : r.cls = k ∧ rowFirstB r = true := by simpa [rowFits] using hfit
        have hfl : firstFree r.used < r.used.length := by simpa [rowFirstB] using hfb
        have hfi : rowFirstI r = firstFree r.used := by simp [rowFirstI, hfl]
        have hceq : (r.cls == k) = true := by simpa using hcls
        have hle := hrok.le
        rw [hfb, hfi] at hff
        have hfin := HVN.out n r (fitIdx_eq hlt HNO.out (by rw [HRW.out]; exact hfit)) HR.out
        have HFI := Lib.hid hfin
        have hrw0 := hs.rows.same (hbr.block br hbl)
        clear hcls hfb hfi hfit hfin
        go_wp2_with fail
        refine (hff _).mono ?_
        rintro e w1 ⟨rfl, hb1⟩
        have hA := (Arr.made wr 112 [.int .i64 r.cls, .string (marks r.used)]).belowAll hb1
        have hc1 := hA.cell (j := 0) rfl
        have hb2 := below_then ((Below.refl _ wr).alloc (Nat.le_refl _) _) hb1
        have d3 := (hb2.cell (p := ⟨ps, 0, none⟩) (Nat.lt_of_lt_of_le hpl hbr.size)).trans d0
        have hrw1 := hrw0.belowAll hb2
        have hx1 := (rowCells_get sp n _ HR.out).2
        have hX := Lib.hid hx1; clear hx1
        clear d0 d1 d2 hff
        go_wp2_with fail
        refine (rowTurn hrw1 (n * 2) r.used hX.out (firstFree r.used) hfl hle true).mono ?_
        rintro e w2 ⟨rfl, ha2, hu2⟩
        rw [rowCells_set _ _ _ _ HR.out] at ha2
        clear d3 hc1
        go_wp2
        go_ret3
        rw [HFI.out.1, HFI.out.2]
        have hu := (Upd.of_below (S := fun k => k = br) (below_then' hbr hb2)).then hu2
        exact ⟨rfl, hs.turned hu ha2 (by simp) (ok_set hs.ok _ (hrok.turn _ _)), hu⟩
      · have hfit' : rowFits k r = false := by simpa using hfit
        have hno' : ∀ j, (hj : j < sp.length) → j < n + 1 → rowFits k sp[j] = false := by
          intro j hj hjn
          by_cases e : j = n
          · subst e; rw [HRW.out]; exact hfit'
          · exact HNO.out j hj (by omega)
        have HNO' := Lib.hid hno'
        have hcase : ((r.cls == k) = true ∧ rowFirstB r = false) ∨ (r.cls == k) = false := by
          simp [rowFits] at hfit'
          by_cases h : r.cls = k
          · exact .inl ⟨by simpa using h, hfit' h⟩
          · exact .inr (by simpa using h)
        have hHFS : freshTo sp (n + 1) = if freshTo sp n = -1 ∧ r.cls = -1 then (n : Int) else freshTo sp n := HFS.out
        clear hno' hfit hfit' HRW HFS
        generalize freshTo sp n = f at *
        by_cases hc1 : (r.cls == -1) = true
        · have hck : (r.cls == k) = false := by rw [beq_eq_false_iff_ne]; rw [beq_iff_eq] at hc1; omega
          clear hcase
          by_cases hf : (f == -1) = true
          · have HF1 : Hid (freshTo sp (n + 1) = n) := Lib.hid (by rw [hHFS, if_pos ⟨by simpa using hf, by simpa using hc1⟩])
            clear hHFS
            go_wp2_with fail
            refine (hff _).mono ?_
            rintro e w1 ⟨rfl, hb1⟩
            have hA := (Arr.made wr 112 [.int .i64 r.cls, .string (marks r.used)]).belowAll hb1
            have hx0 := hA.cell (j := 0) rfl
            have hb2 := below_then ((Below.refl _ wr).alloc (Nat.le_refl _) _) hb1
            clear d0 d1 d2 hff
            go_wp2
            go_roundw
            case rel => exact ⟨n + 1, by omega, by go_num, by rw [HF1.out], below_then' hbr hb2, HNO'.out⟩
            case measure => simp [intOf]; omega
          · have hf' : (f == -1) = false := by simpa using hf
            have HF1 : Hid (freshTo sp (n + 1) = f) := Lib.hid (by rw [hHFS, if_neg (by rw [beq_iff_eq] at hf; omega)])
            clear hHFS hf
            go_wp2_with fail
            refine (hff _).mono ?_
            rintro e w1 ⟨rfl, hb1⟩
            have hA := (Arr.made wr 112 [.int .i64 r.cls, .string (marks r.used)]).belowAll hb1
            have hx0 := hA.cell (j := 0) rfl
            have hb2 := below_then ((Below.refl _ wr).alloc (Nat.le_refl _) _) hb1
            clear d0 d1 d2 hff
            go_wp2
            go_roundw
            case rel => exact ⟨n + 1, by omega, by go_num, by rw [HF1.out], below_then' hbr hb2, HNO'.out⟩
            case measure => simp [intOf]; omega
        · have hc1' : (r.cls == -1) = false := by simpa using hc1
          have HF1 : Hid (freshTo sp (n + 1) = f) := Lib.hid (by rw [hHFS, if_neg (by rw [beq_iff_eq] at hc1; omega)])
          clear hHFS hc1
          rcases hcase with ⟨hck, hfb⟩ | hck
          · rw [hfb] at hff
            clear hfb
            go_wp2_with fail
            refine (hff _).mono ?_
            rintro e w1 ⟨rfl, hb1⟩
            have hA := (Arr.made wr 112 [.int .i64 r.cls, .string (marks r.used)]).belowAll hb1
            have hx0 := hA.cell (j := 0) rfl
            have hb2 := below_then ((Below.refl _ wr).alloc (Nat.le_refl _) _) hb1
            clear d0 d1 d2 hff
            go_wp2
            go_roundw
            case rel => exact ⟨n + 1, by omega, by go_num, by rw [HF1.out], below_then' hbr hb2, HNO'.out⟩
            case measure => simp [intOf]; omega
          · go_wp2_with fail
            refine (hff _).mono ?_
            rintro e w1 ⟨rfl, hb1⟩
            have hA := (Arr.made wr 112 [.int .i64 r.cls, .string (marks r.used)]).belowAll hb1
            have hx0 := hA.cell (j := 0) rfl
            have hb2 := below_then ((Below.refl _ wr).alloc (Nat.le_refl _) _) hb1
            clear d0 d1 d2 hff
            go_wp2
            go_roundw
            case rel => exact ⟨n + 1, by omega, by go_num, by rw [HF1.out], below_then' hbr hb2, HNO'.out⟩
            case measure => simp [intOf]; omega
    · obtain rfl : n = sp.length := by omega
      have hfin := HFN.out (fitIdx_none fun j hj => HNO.out j hj hj)
      have hrw0 := hs.rows.same (hbr.block br hbl)
      by_cases hfr : freshIdx sp < sp.length
      · rw [if_pos hfr, if_pos hfr] at hfin
        have hft : freshTo sp sp.length = freshIdx sp := by simp [freshTo, hfr]
        rw [hft]
        have hneg : ((freshIdx sp : Int) == -1) = false := by rw [beq_eq_false_iff_ne]; omega
        have HFI := Lib.hid hfin
        clear hfin hft
        generalize freshIdx sp = j at *
        have hr : sp[j]? = some sp[j] := List.getElem?_eq_getElem hfr
        have hx := rowCells_get sp j _ hr
        have d1 := hrw0.cell hx.1
        have d2 := hrw0.cell hx.2
        have f1 := hrw0.frozen (j * 2)
        have f2 := hrw0.frozen (j * 2 + 1)
        have HHK : Hid (∀ wx : World, Below wr.heap.size wr wx → wx.cell? ⟨ps, 0, none⟩ = some (.slice (some ⟨br, 0, none⟩) sp.length cap) ∧ wx.cell? ⟨br, j * 2, none⟩ = some (.int .i64 sp[j].cls) ∧ wx.cell? ⟨br, j * 2 + 1, none⟩ = some (.string (marks sp[j].used)) ∧ wx.frozen? ⟨br, j * 2, none⟩ = false ∧ wx.frozen? ⟨br, j * 2 + 1, none⟩ = false) :=
          fun wx hx2 => ⟨(hx2.cell (p := ⟨ps, 0, none⟩) (Nat.lt_of_lt_of_le hpl hbr.size)).trans d0, (hrw0.belowAll hx2).cell hx.1, (hrw0.belowAll hx2).cell hx.2, (hrw0.belowAll hx2).frozen _, (hrw0.belowAll hx2).frozen _⟩
        obtain ⟨c, hc⟩ := Int.eq_ofNat_of_zero_le hkb.1
        have HC := Lib.hid hc
        rw [hc] at hkb hkne ⊢
        clear hc
        go_wp2
        go_region_held3 (fun w' => w'.cell? ⟨ps, 0, none⟩ = some (.slice (some ⟨br, 0, none⟩) sp.length cap))
          (first | exact d0 | exact (HHK.out _ (below_undrew (by assumption))).1 | (rw [World.cell?_setCell_far _ _ _ _ (Ne.symm hs.ne), World.cell?_setCell_far _ _ _ _ (Ne.symm hs.ne)]; exact (HHK.out _ (below_undrew (by assumption))).1))
          (first | (go_at_call 82; refine (Try.strings_Repeat ⟨#[45]⟩ c _ (by omega) (by simp [ByteArray.size]; omega)).mono ?_; rintro e w1 ⟨rfl, hb1⟩; have x1 := (HHK.out _ (below_undrew hb1)).2.1; have x2 := (HHK.out _ (below_undrew hb1)).2.2.1; have x3 := (HHK.out _ (below_undrew hb1)).2.2.2.1; have x4 := (HHK.out _ (below_undrew hb1)).2.2.2.2))
        have hb2 := below_undrew hb1
        have hrw1 := hrw0.belowAll hb2
        have d3 := (HHK.out _ hb2).1
        have hmk : (⟨(Lib.repeatL [45] c).toArray⟩ : ByteArray) = marks (List.replicate c false) := by
          apply bytes_ext
          have : (Lib.repeatL [45] c) = List.replicate c 45 := by have := Lib.repeatL_replicate 45 1 c; simpa using this
          simp [marks, this]
        rw [hmk]
        have hlen : j * 2 + 1 < (rowCells sp).length := by rw [rowCells_length]; omega
        have ha1 := (hrw1.set (j := j * 2) (by omega) (.int .i64 k)).set (j := j * 2 + 1) (by simpa using hlen) (.string (marks (List.replicate c false)))
        rw [rowCells_set2 sp j ⟨k, List.replicate c false⟩ hfr] at ha1
        have hu1 : Upd (fun k => k = br) w1 _ := (upd_setCell w1 br (j * 2) (.int .i64 k)).then (upd_setCell _ br (j * 2 + 1) (.string (marks (List.replicate c false))))
        have hd4 : ((w1.setCell ⟨br, j * 2, none⟩ (.int .i64 k)).setCell ⟨br, j * 2 + 1, none⟩ (.string (marks (List.replicate c false)))).cell? ⟨ps, 0, none⟩ = some (.slice (some ⟨br, 0, none⟩) sp.length cap) := by
          rw [World.cell?_setCell_far _ _ _ _ (Ne.symm hs.ne), World.cell?_setCell_far _ _ _ _ (Ne.symm hs.ne)]; exact d3
        have hu0 := (Upd.of_below (S := fun k => k = br) (below_then' hbr hb2)).then hu1
        clear d0 d1 d2 f1 f2 d3 hmk hrw1
        generalize ((w1.setCell ⟨br, j * 2, none⟩ (.int .i64 k)).setCell ⟨br, j * 2 + 1, none⟩ (.string (marks (List.replicate c false)))) = w2 at *
        have hget : (rowCells (sp.set j ⟨k, List.replicate c false⟩))[j * 2 + 1]? = some (.string (marks (List.replicate c false))) := (rowCells_get _ j ⟨k, List.replicate c false⟩ (by simp [hfr])).2
        have HG := Lib.hid hget
        have hcpos : 0 < c := by have := beq_eq_false_iff_ne.1 hkne; omega
        clear hget hr hx hlen
        go_wp2_with fail
        refine (rowTurn ha1 (j * 2) _ HG.out 0 (by simpa using hcpos) (by simp; omega) true).mono ?_
        rintro e w3 ⟨rfl, ha3, hu3⟩
        rw [rowCells_set _ _ ⟨k, List.replicate c false⟩ _ (by simp [hfr])] at ha3
        clear hd4
        go_wp2
        go_ret3
        rw [HFI.out.1, HFI.out.2, HC.out]
        have hu := hu0.then hu3
        refine ⟨rfl, hs.turned hu ?_ (by simp) (ok_set hs.ok _ (.inr ⟨hkr.1, hkr.2, by simp [HC.out]⟩)), hu⟩
        simpa using ha3
      · rw [if_neg hfr, if_neg hfr] at hfin
        have hft : freshTo sp sp.length = -1 := by simp [freshTo, hfr]
        rw [hft]
        have HFI := Lib.hid hfin
        clear hfin hft hfr
        go_wp2
        go_ret3
        rw [HFI.out.1, HFI.out.2]
        exact ⟨rfl, hs.upd (Upd.of_below (S := fun _ => False) hbr) (fun h => h) (fun h => h), Upd.of_below hbr⟩

theorem spUsed_some {sp : List Row} {i s : Int} (h : spUsed sp i s = true) : ∃ (a b : Nat) (r : Row), i = a ∧ s = b ∧ sp[a]? = some r ∧ r.used[b]? = some true := by
  unfold spUsed at h
  split at h
  · rename_i h0
    split at h
    · rename_i r hr
      rw [Bool.and_eq_true, decide_eq_true_eq] at h
      refine ⟨i.toNat, s.toNat, r, by omega, by omega, hr, ?_⟩
      cases hq : r.used[s.toNat]? with
      | none => have := h.2; rw [List.getD_eq_getElem?_getD, hq] at this; simp at this
      | some b => have := h.2; rw [List.getD_eq_getElem?_getD, hq] at this; simp at this; rw [this]
    · cases h
  · cases h

set_option maxRecDepth 100000 in
theorem spFree_no {w : World} {ps br : Nat} {sp : List Row} (hs : IsSpans w ps br sp) (i s : Int) (hu : spUsed sp i s = false) : Calls Try.prog 17 #[.pointer (some ⟨ps, 0, none⟩), .int .i64 i, .int .i64 s] w fun e w' =>
    e = .returned (.bool false) ∧ Below w.heap.size w w' := by
  have hc := spUsed_calls hs i s
  rw [hu] at hc
  clear hu
  go_enter Try.func17, Try.ntmps17
  go_wp2_with (go_at_call 18; refine hc.mono ?_; rintro e w1 ⟨rfl, hb⟩)
  go_ret
  exact ⟨rfl, hb⟩

set_option maxRecDepth 100000 in
theorem spFree_yes {w : World} {ps br : Nat} {sp : List Row} (hs : IsSpans w ps br sp) (i s : Nat) (hu : spUsed sp i s = true) : Calls Try.prog 17 #[.pointer (some ⟨ps, 0, none⟩), .int .i64 i, .int .i64 s] w fun e w' =>
    e = .returned (.bool true) ∧ IsSpans w' ps br (spFree sp i s) ∧ Upd (fun k => k = br) w w' := by
  obtain ⟨cap, hh, hc1, hc2⟩ := hs.head
  have hl := hs.len
  unfold maxLen at hc2
  have hpl := hh.lt
  have hbl := hs.rows.lt
  have hc := spUsed_calls hs i s
  rw [hu] at hc
  obtain ⟨a, b, r, ha, hb0, hr, hus⟩ := spUsed_some hu
  obtain rfl : i = a := by omega
  obtain rfl : s = b := by omega
  have hil : i < sp.length := (List.getElem?_eq_some_iff.1 hr).1
  have hsl : s < r.used.length := (List.getElem?_eq_some_iff.1 hus).1
  have hrok := hs.ok _ (List.mem_of_getElem? hr)
  have hfin : spFree sp i s = sp.set i (rowFree r s) := by simp [spFree, hr]
  rw [hfin]
  have HR := Lib.hid hr
  have hx := Lib.hid (rowCells_get sp i _ hr)
  have hle := hrok.le
  clear hu hr hus hfin ha hb0
  go_enter Try.func17, Try.ntmps17
  go_wp2_with fail
  refine hc.mono ?_
  rintro e w1 ⟨rfl, hb⟩
  clear hc
  have c0 := (hb.cell (p := ⟨ps, 0, none⟩) hpl).trans (hh.cell (j := 0) rfl)
  have hrw1 := hs.rows.belowAll hb
  go_wp2_with fail
  refine (rowTurn hrw1 (i * 2) r.used hx.out.2 s hsl hle false).mono ?_
  rintro e w2 ⟨rfl, ha2, hu2⟩
  rw [rowCells_set _ _ _ _ HR.out] at ha2
  clear c0
  have hu := (Upd.of_below (S := fun k => k = br) hb).then hu2
  have hg := rowCells_get (sp.set i ⟨r.cls, r.used.set s false⟩) i ⟨r.cls, r.used.set s false⟩ (by simp [hil])
  have d1 := ha2.cell hg.1
  have d2 := ha2.cell hg.2
  have hok2 := hrok.turn s false
  have hcnt := rowCount_calls ⟨r.cls, r.used.set s false⟩ hok2.le w2
  have HGX := Lib.hid hg
  clear hg
  by_cases h0 : rowCount ⟨r.cls, r.used.set s false⟩ = 0
  · have hrf : rowFree r s = ⟨-1, []⟩ := by simp [rowFree, h0]
    have HRF := Lib.hid hrf
    rw [h0] at hcnt
    clear hrf h0
    go_wp2_with fail
    refine hcnt.mono ?_
    rintro e w3 ⟨rfl, hb3⟩
    have ha3 := ha2.belowAll hb3
    have hlen : i * 2 + 1 < (rowCells (sp.set i ⟨r.cls, r.used.set s false⟩)).length := by rw [rowCells_length]; simp; omega
    have k1 := ha3.cell HGX.out.1
    have k2 := ha3.cell HGX.out.2
    have f1 := ha3.frozen (i * 2)
    have f2 := ha3.frozen (i * 2 + 1)
    have ha4 := (ha3.set (j := i * 2) (by omega) (.int .i64 (-1))).set (j := i * 2 + 1) (by simpa using hlen) (.string (marks []))
    rw [rowCells_set2 _ i ⟨-1, []⟩ (by simp [hil])] at ha4
    have hu1 : Upd (fun k => k = br) w3 _ := (upd_setCell w3 br (i * 2) (.int .i64 (-1))).then (upd_setCell _ br (i * 2 + 1) (.string (marks [])))
    have hu5 := (hu.then (Upd.of_below hb3)).then hu1
    clear d1 d2 hlen hcnt
    go_wp2
    go_ret
    rw [HRF.out]
    refine ⟨rfl, hs.turned hu5 ?_ (by simp) (ok_set hs.ok _ (.inl ⟨rfl, rfl⟩)), hu5⟩
    have hm : (⟨#[]⟩ : ByteArray) = marks [] := rfl
    rw [List.set_set] at ha4
    rw [hm]; exact ha4
  · have hrf : rowFree r s = ⟨r.cls, r.used.set s false⟩ := by simp [rowFree, h0]
    have HRF := Lib.hid hrf
    have hne : ((rowCount ⟨r.cls, r.used.set s false⟩ : Int) == 0) = false := by rw [beq_eq_false_iff_ne]; omega
    clear hrf h0
    go_wp2_with fail
    refine hcnt.mono ?_
    rintro e w3 ⟨rfl, hb3⟩
    clear hcnt d1 d2
    go_wp2
    go_ret
    have hu5 := hu.then (Upd.of_below hb3)
    rw [HRF.out]
    exact ⟨rfl, hs.turned hu5 (ha2.belowAll hb3) (by simp) (ok_set hs.ok _ hok2), hu5⟩
end Go.Proofs.Ytccaegiceneegaa
