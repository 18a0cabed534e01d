/- The walk of what the document reaches. The condition: all words of the arena fit. -/
import Derived.Test.YtccaegiceneegaaRLive
namespace Go.Proofs.Ytccaegiceneegaa
open Go.RowKit

theorem info_bool : (Try.prog.info? 4).map (fun i => (i.zero, i.size, i.bytes)) = some (some (.bool false), 1, 1) := by kernel_rfl
def seenL (n : Nat) (vis : Nat → Bool) : List Value := (List.range n).map fun p => .bool (vis p)
theorem seenL_get {n : Nat} {vis : Nat → Bool} {p : Nat} (h : p < n) : (seenL n vis)[p]? = some (.bool (vis p)) := by simp [seenL, h]
theorem seenL_set {n : Nat} {vis : Nat → Bool} {p : Nat} (h : p < n) : (seenL n vis).set p (.bool true) = seenL n (setV vis p) := by
  apply List.ext_getElem?
  intro q
  by_cases e : q = p
  · subst e
    rw [List.getElem?_set_self (by simp [seenL]; omega), seenL_get h]; simp [setV]
  · rw [List.getElem?_set_ne (fun e2 => e e2.symm)]
    by_cases hq : q < n
    · rw [seenL_get hq, seenL_get hq]; simp [setV, e]
    · simp [seenL, hq]
theorem IntSv.ofLenR {w : World} {O : Nat → Prop} {v : Value} {xs : List Int} (h : IntSv w O v xs) {n : Nat} (hn : xs.length = n) : ∃ a c, v = .slice a n c := by
  subst hn
  rcases h with ⟨rfl, h⟩ | ⟨g, off, cap, _, h, _⟩
  · exact ⟨_, _, h⟩
  · exact ⟨_, _, h⟩
theorem IntSv.setArr {w : World} {O : Nat → Prop} {v : Value} {xs : List Int} (h : IntSv w O v xs) {b e : Nat} {ys : List Value} (hA : Arr w b e ys) (he : e ≠ 3) (o : Nat) (u : Value) : IntSv (w.setCell ⟨b, o, none⟩ u) O v xs :=
  (h.rows.upd (upd_setCell w b o u) (fun k hk e2 => by subst e2; exact hA.notRow he hk.2)).mono (fun k hk => hk.1)

theorem IntSv.old {w : World} {O : Nat → Prop} {v : Value} {xs : List Int} (h : IntSv w O v xs) : IntSv w (fun k => O k ∧ k < w.heap.size) v xs := by
  rcases h with h | ⟨g, off, cap, cur, h1, h2, h3, h4⟩
  · exact .inl h
  · exact .inr ⟨g, off, cap, cur, h1, ⟨h2, (Array.getElem?_eq_some_iff.1 h3).1⟩, h3, h4⟩
def RReachRel (st : Ar) (roots : List Int) (w : World) (k : Nat) (v : Value) (wr : World) : Prop :=
  ∃ (vis : Nat → Bool) (td : List Int), Scan st roots vis td ∧ IntSv wr (newIn w) v td ∧ Arr wr w.heap.size 4 (seenL st.cells.length vis) ∧ Below w.heap.size w wr ∧ k = 40 * unseen st vis + td.length ∧ k ≤ 1000000
set_option maxRecDepth 100000 in
set_option maxHeartbeats 2000000 in
theorem rReach {w : World} {O : Nat → Prop} {rh ra rs rc rl rw cb rg : Nat} {H : Hp} (h : RHeapB w O rh ra rs rc rl rw cb rg H) (hfit : H.st.fit) {rv : Value} {roots : List Int} (hr : RdInts w rv roots) (hl : roots.length ≤ 100000) :
    Calls Try.prog 45 #[.pointer (some ⟨rh, 0, none⟩), rv] w (SvPost (castL (reachL H.st roots)) w) := by
  obtain ⟨i0, hi, hz0, hz1, hz2⟩ := info_parts info_bool
  have hsm := h.arena.small
  have hmk := fun wx => make_cells (t := 102) (e := 4) Try.underlying102 hi hz0 hz1 rfl H.st.cells.length (by rw [hz2]; omega) (by omega) (H.st.cells.length : Int) rfl wx
  have hcs : List.replicate H.st.cells.length (Value.bool false) = seenL H.st.cells.length (fun _ => false) := by
    apply List.ext_getElem?
    intro q
    by_cases hq : q < H.st.cells.length
    · rw [seenL_get hq]; simp [hq]
    · simp [seenL, hq]
  rw [hcs] at hmk
  have hA0 := Arr.made w 4 (seenL H.st.cells.length (fun _ => false))
  have hB0 := (Below.refl w.heap.size w).alloc (Nat.le_refl _) (.cells (seenL H.st.cells.length (fun _ => false)).toArray 4)
  have hsrc := hr _ hB0
  have hun := unseen_le H.st (fun _ => false)
  have c0 := h.head.cell (j := 0) rfl
  have c1 := h.arena.head.cell (j := 1) rfl
  have HSRC := Lib.hid hsrc
  have HB := Lib.hid (fun wx (hb : Below w.heap.size w wx) => h.below hb)
  clear hsrc hcs hz0 hz1 hz2 hi
  generalize hse : (seenL H.st.cells.length (fun _ => false)) = se at *
  have HSE := Lib.hid hse
  clear hse
  go_enter Try.func45, Try.ntmps45
  go_wp2_with (at_builtin; refine wpList_append_sv _ rfl _ _ 22 Try.underlying22 rfl (fun _ => False) _ [] rfl (IntSv.nil _ _) _ roots rfl HSRC.out (by simp; omega) ?_)
  intro v0 w1 hv1 hu1 hz1
  have hb1 := Upd.belowOf hB0 hu1 (fun k hk => hk.elim) (by simp)
  have hv2 : IntSv w1 (newIn w) v0 roots := hv1.mono (O' := newIn w) (fun k hk => by subst hk; simp [newIn])
  have hA1 := hu1.arr hA0 (fun h => h)
  rw [← HSE.out] at hA1
  clear hv1 hu1 hz1 hA0 hB0 hmk c0 c1
  go_wp2
  go_loopg [6] (40 * unseen H.st (fun _ => false) + roots.length) (fun k v wr => RReachRel H.st roots w k v wr)
  case atStart => exact ⟨_, _, Scan.start _ _, hv2, hA1, hb1, rfl, by omega⟩
  case round =>
    clear hv2 hA1 hb1 hr HSRC hun HSE
    obtain ⟨vis, td, hsc, hvt, hAr, hbr, hk, hkl⟩ := hrel
    have hra := (h.below hbr).arena.head.lt
    by_cases htd : td = []
    · subst htd
      have hvis := vis_eq hsc
      obtain ⟨sa, scp, rfl⟩ := hvt.ofLenR (n := 0) rfl
      clear hvt
      obtain ⟨wo, rfl⟩ : ∃ wo : World, wo = wr := ⟨_, rfl⟩
      rw [hvis] at hAr
      have hrr := reachL_range H.st roots
      have HRR := Lib.hid hrr
      clear hrr hvis hsc
      generalize hqq : rchB H.st roots = q at *
      have hcellA := Lib.hid (fun wx (hb : Below wo.heap.size wo wx) (m : Nat) (hm : m < H.st.cells.length) => (hAr.belowAll hb).cell (seenL_get (vis := q) hm))
      clear hAr hqq
      go_upto_block 4 with (fail)
      refine wp_block ?_
      go_loopw [10, 11] (fun l j wx => ∃ m : Nat, m ≤ H.st.cells.length ∧ j = .int .i64 m ∧ IntSv wx (newIn wo) l (castL ((List.range m).filter q)) ∧ Below wo.heap.size wo wx) (fun _ j _ => H.st.cells.length - (intOf j).toNat)
      case atStart => exact ⟨0, by omega, rfl, IntSv.nil _ _, Below.refl _ _⟩
      case round =>
        obtain ⟨m, hm, rfl, hown, hbx⟩ := hrel
        by_cases hlt : m < H.st.cells.length
        · have hcm := hcellA.out _ hbx m hlt
          have hsn : (List.range (m + 1)).filter q = (List.range m).filter q ++ (if q m then [m] else []) := by
            rw [List.range_succ, List.filter_append]; congr 1; cases hq2 : q m <;> simp [hq2]
          have hfl : ((List.range m).filter q).length ≤ 4096 := Nat.le_trans (List.length_filter_le _ _) (by simp; omega)
          have hci := castL_len ((List.range m).filter q)
          generalize (List.range m).filter q = xs at *
          have HCI := Lib.hid hci
          have i1 : (0 : Int) ≤ (m : Int) := by omega
          have i2 : (m : Int) < (H.st.cells.length : Int) := by omega
          clear hci
          cases hqm : q m with
          | false =>
            rw [hqm] at hsn hcm
            simp only [Bool.false_eq_true, if_false, List.append_nil] at hsn
            have HSN := Lib.hid hsn
            clear hsn hqm
            go_wp2
            go_roundw
            case rel => exact ⟨m + 1, by omega, by go_num, by rw [HSN.out]; exact hown, hbx⟩
            case measure => simp [intOf]; omega
          | true =>
            rw [hqm] at hsn hcm
            simp only [if_true] at hsn
            have HSN := Lib.hid hsn
            clear hsn hqm
            have hb6 := hbx.alloc hbx.size (.cells #[.int .i64 m] 3)
            have hown6 := hown.below ((Below.refl _ _).alloc (Nat.le_refl _) (.cells #[.int .i64 m] 3))
            have hc6 := (Arr.made wr 3 [.int .i64 m]).cell (j := 0) rfl
            have hlen6 : (castL xs).length + 1 ≤ 1000000000 := by rw [HCI.out]; omega
            clear hown
            go_wp2_with (at_builtin; refine wpList_append_sv _ rfl _ _ 22 Try.underlying22 rfl (newIn wo) _ _ rfl hown6 _ [(m : Int)] rfl (src_one _ m hc6 Try.underlying22) hlen6 ?_)
            intro v' w7 hown7 hu7 hz7
            have hb7 := Upd.belowOf hb6 hu7 (fun k hk => hk) (by simp)
            have hz6 := hbx.size
            have hown8 := hown7.mono (O' := newIn wo) (fun k hk => hk.elim (fun h => h) (fun h => by subst h; simp [newIn]; omega))
            clear hown7 hu7 hz7 hown6 hc6
            go_wp2
            go_roundw
            case rel => exact ⟨m + 1, by omega, by go_num, by rw [HSN.out, castL_snoc]; exact hown8, hb7⟩
            case measure => simp [intOf]; omega
        · obtain rfl : m = H.st.cells.length := by omega
          have hown2 := hown.mono (O' := newIn w) (fun k hk => Nat.le_trans hbr.size hk)
          clear hown
          go_wp2
          go_ret
          exact ⟨_, rfl, by rw [← HRR.out]; exact hown2, below_then hbr hbx⟩
    · obtain ⟨td, t, rfl⟩ : ∃ td' t, td = td' ++ [t] := by
        rcases List.eq_nil_or_concat td with h | ⟨l, a, h⟩
        · exact absurd h htd
        · exact ⟨l, a, by rw [h]; simp⟩
      clear htd
      rcases hvt.shape with ⟨h0, _⟩ | ⟨g, off, cap, rfl, hgO, hc1, hc2, hg, hcell⟩
      · simp at h0
      have c0 := hcell td.length t (by simp)
      have hfr := hvt.front td.length (by simp)
      have hln : (td ++ [t]).length = td.length + 1 := by simp
      rw [List.take_left' rfl] at hfr
      rw [hln] at hk hc1 hvt ⊢
      have hIs := Lib.hid (fun wx (hb : Below w.heap.size w wx) => rIs (h.below hb).arena t)
      have hskip := fun (ht : (H.st.head t).isSome = false ∨ vis t.toNat = true) => hsc.skip t (todo' := td) (fun x hx => (List.mem_append.1 hx).symm.imp (fun h => by simpa using h) id) (fun x hx => List.mem_append_left _ hx) ht
      have d0 := (HB.out _ hbr).head.cell (j := 0) rfl
      clear hcell hln hvt
      cases ho : (H.st.head t).isSome with
      | false =>
        have hsc2 := hskip (.inl ho)
        rw [ho] at hIs
        clear hskip hsc ho
        go_wp2_with (go_at_call 86; refine (hIs.out _ hbr).mono ?_; rintro e w3 ⟨rfl, hb3⟩; have hb4 := below_then hbr hb3; have hv4 := hfr.below hb3; have hA4 := hAr.belowAll hb3)
        go_roundg (40 * unseen H.st vis + td.length)
        case measure => omega
        case rel => exact ⟨vis, td, hsc2, hv4, hA4, hb4, rfl, by omega⟩
      | true =>
        obtain ⟨p, rfl, hp⟩ := Ar.head_bd ho
        rw [ho] at hIs
        cases hv : vis p with
        | true =>
          have hsc2 := hskip (.inr (by simpa using hv))
          have hsg := seenL_get (vis := vis) hp
          rw [hv] at hsg
          have HSG := Lib.hid hsg
          clear hskip hsc ho hv hsg
          go_wp2_with (go_at_call 86; refine (hIs.out _ hbr).mono ?_; rintro e w3 ⟨rfl, hb3⟩; have hb4 := below_then hbr hb3; have hv4 := hfr.below hb3; have hA4 := hAr.belowAll hb3; have s4 := hA4.cell HSG.out)
          go_roundg (40 * unseen H.st vis + td.length)
          case measure => omega
          case rel => exact ⟨vis, td, hsc2, hv4, hA4, hb4, rfl, by omega⟩
        | false =>
          have hun := unseen_visit ho hv
          have hws := wordsOf_fit hfit (p : Int)
          have hwl := wordsOf_len H.st (p : Int)
          have hn31 : (wordsOf H.st (p : Int)).length ≤ 32 := by
            have := head_len31 h.arena.ok (p : Int); omega
          have hsc2 : Scan H.st roots (setV vis p) (td ++ ptrsOf (wordsOf H.st (p : Int))) := hsc.visit p ho (by simp) (fun x hx => (List.mem_append.1 hx).symm.imp (fun h => by simpa using h) (fun h => List.mem_append_left _ h)) (fun x hx => (List.mem_append.1 hx).imp (fun h => List.mem_append_left _ h) id) (fun j hj => List.mem_append_right _ hj)
          have hsg := seenL_get (vis := vis) hp
          rw [hv] at hsg
          have HSG := Lib.hid hsg
          have hpl2 := ptrsOf_len (wordsOf H.st (p : Int))
          have HWO := Lib.hid (fun wx (hb : Below w.heap.size w wx) => rWordsOf (h.below hb) (p : Int))
          have HSS := Lib.hid (seenL_set (vis := vis) hp)
          clear hskip hsc ho hv hsg hwl
          generalize wordsOf H.st (p : Int) = ws at *
          have HWS := Lib.hid hws
          clear hws
          have hsz : w.heap.size < wr.heap.size := hAr.lt
          go_upto_region 7 with (go_at_call 86; refine (hIs.out _ hbr).mono ?_; rintro e w3 ⟨rfl, hb3⟩; have hb4 := below_then hbr hb3; have hv4 := hfr.below hb3; have hA4 := hAr.belowAll hb3; have s4 := hA4.cell HSG.out)
          have f4 := hA4.frozen p
          have hA5 := hA4.set (j := p) (by simp [seenL]; exact hp) (.bool true)
          rw [HSS.out] at hA5
          have hv5 := hv4.setArr hA4 (by decide) p (.bool true)
          have hb5 := Upd.belowOf hb4 (upd_setCell w3 w.heap.size p (.bool true)) (fun k hk => by subst hk; exact Nat.le_refl _)
          have hs3 := hA4.lt
          have hWO := HWO.out _ hb5
          clear hA4 hv4 hAr hfr hb3 hIs
          have HWO2 := Lib.hid hWO
          clear hWO HWO
          go_wp2_with (go_at_call 99; refine HWO2.out.mono ?_; rintro e w6 ⟨xv, rfl, hx6, hb6⟩; obtain ⟨xa, xn, xc, rfl⟩ := hx6.isSlice)
          -- the queue's row is not the words' row
          generalize hw5 : w3.setCell ⟨w.heap.size, p, none⟩ (.bool true) = w5 at *
          clear hw5 s4 f4 hs3 hb4 HWO2 HSG HSS d0 c0
          have hA6 := hA5.belowAll hb6
          have hb66 := below_then hb5 hb6
          have hv6 := hv5.below hb6
          have hvo := (hv5.old.below hb6)
          clear hv5
          rcases hx6.shape with ⟨rfl, e2⟩ | ⟨gw, ow, cw2, e2, hgw, hwc1, hwc2, hgw6, hwcell⟩
          · cases e2
            simp only [ptrsOf, List.filter_nil, List.map_nil, List.append_nil] at hsc2
            clear hx6
            go_loopw [6, 9] (fun l j wr => l = .slice (some ⟨g, off, none⟩) td.length cap ∧ j = .int .i64 0 ∧ wr = w6) (fun _ _ _ => 0)
            case atStart => exact ⟨rfl, rfl, rfl⟩
            case round =>
              obtain ⟨rfl, rfl, rfl⟩ := hrel
              go_wp2
              go_roundg (40 * unseen H.st (setV vis p) + td.length)
              case measure => omega
              case rel => exact ⟨setV vis p, td, hsc2, hv6, hA6, hb66, rfl, by omega⟩
          · cases e2
            have hv7 : IntSv w6 (fun k => newIn w k ∧ k ≠ gw) (.slice (some ⟨g, off, none⟩) td.length cap) td := hvo.mono (fun k hk => ⟨hk.1, by have h1 := hk.2; have h2 : w5.heap.size ≤ gw := hgw; omega⟩)
            clear hvo hv6 hx6
            have hgw6' := Lib.hid hgw6
            have hs66 := hb66.size
            go_loopw [6, 9] (fun l j wr => ∃ k : Nat, k ≤ ws.length ∧ j = .int .i64 k ∧ IntSv wr (fun k => newIn w k ∧ k ≠ gw) l (td ++ ptrsOf (ws.take k)) ∧ Arr wr w.heap.size 4 (seenL H.st.cells.length (setV vis p)) ∧ (∀ (j : Nat) (x : Int), ws[j]? = some x → wr.cell? ⟨gw, ow + j, none⟩ = some (.int .i64 x)) ∧ Below w.heap.size w wr ∧ gw < wr.heap.size) (fun _ j _ => ws.length - (intOf j).toNat)
            case atStart => exact ⟨0, by omega, rfl, by simpa [ptrsOf] using hv7, hA6, hwcell, hb66, hgw6⟩
            case round =>
              obtain ⟨k, hkk, rfl, hvk, hAk, hck, hbk, hgk⟩ := hrel
              clear hv7 hA6 hwcell hgw6
              by_cases hlt : k < ws.length
              · have hx : ws[k]? = some ws[k] := List.getElem?_eq_getElem hlt
                have hcm := hck k _ hx
                have hfx := HWS.out _ (List.getElem_mem hlt)
                have hsn := ptrsOf_snoc (ws.take k) ws[k]
                rw [← List.take_succ_eq_append_getElem hlt] at hsn
                have hpl := ptrsOf_len (ws.take k)
                have hpl2 : (ptrsOf (ws.take k)).length ≤ 32 := by have := List.length_take_le k ws; omega
                have HCK := Lib.hid hck
                generalize ws[k] = x at *
                have k1 := fun w1 => rIsPtr x w1
                have k2 := fun w1 => rAt x hfx w1
                have K2 := Lib.hid k2
                clear hx hpl k2 hck
                generalize ptrsOf (ws.take k) = xs at *
                cases hod : oddW x with
                | false =>
                  rw [hod] at hsn k1
                  simp only [Bool.false_eq_true, if_false, List.append_nil] at hsn
                  have HSN := Lib.hid hsn
                  have K1 := Lib.hid k1
                  clear hsn k1 hod
                  go_wp2_with (go_at_call 77; refine (K1.out _).mono ?_; rintro e w2 ⟨rfl, rfl⟩)
                  go_roundw
                  case rel => exact ⟨k + 1, by omega, by go_num, by rw [HSN.out]; exact hvk, hAk, HCK.out, hbk, hgk⟩
                  case measure => simp [intOf]; omega
                | true =>
                  rw [hod] at hsn k1
                  simp only [if_true] at hsn
                  have HSN := Lib.hid hsn
                  have K1 := Lib.hid k1
                  clear hsn k1 hod
                  generalize ptrAt x = y at *
                  have hb8 := hbk.alloc hbk.size (.cells #[.int .i64 y] 3)
                  have hv8 := (hvk.below ((Below.refl _ wr).alloc (Nat.le_refl _) (.cells #[.int .i64 y] 3))).rows
                  have hA8 := hAk.alloc (.cells #[.int .i64 y] 3)
                  have hc8 := (Arr.made wr 3 [.int .i64 y]).cell (j := 0) rfl
                  have hlen8 : (td ++ xs).length + 1 ≤ 1000000000 := by simp; omega
                  clear hvk hAk
                  go_wp2_with (first | (go_at_call 77; refine (K1.out _).mono ?_; rintro e w2 ⟨rfl, rfl⟩) | (go_at_call 100; refine (K2.out _).mono ?_; rintro e w2 ⟨rfl, rfl⟩) | (at_builtin; refine wpList_append_sv _ rfl _ _ 22 Try.underlying22 rfl _ _ (td ++ xs) rfl hv8 _ [y] rfl (src_one _ y hc8 Try.underlying22) hlen8 ?_))
                  intro v' w9 hown9 hu9 hz9
                  have hsk := hbk.size
                  have hv10 := hown9.mono (O' := fun k => newIn w k ∧ k ≠ gw) (fun k hk => hk.elim (fun h => h.1) (fun h => by subst h; exact ⟨by unfold newIn; omega, by omega⟩))
                  have hA10 := hu9.arr hA8 (fun hk => hA8.notRow (by decide) hk.2)
                  have hck10 : ∀ (j : Nat) (x : Int), ws[j]? = some x → w9.cell? ⟨gw, ow + j, none⟩ = some (.int .i64 x) := by
                    intro j x hj
                    rw [← HCK.out j x hj]
                    have e1 : w9.heap[gw]? = (wr.alloc (.cells #[.int .i64 y] 3)).heap[gw]? := hu9.block gw (by simp; omega) (fun hk => hk.1.2 rfl)
                    have e2 : (wr.alloc (.cells #[.int .i64 y] 3)).heap[gw]? = wr.heap[gw]? := Below.heap_alloc _ _ _ hgk
                    exact World.cell?_of_block (a := ⟨gw, ow + j, none⟩) (e1.trans e2)
                  have hb10 := Upd.belowOf hb8 hu9 (fun k hk => hk.1.1) (by simp)
                  have hg10 : gw < w9.heap.size := by have := hu9.size; simp at this; omega
                  have HCK10 := Lib.hid hck10
                  clear hown9 hu9 hz9 hv8 hA8 hc8 hb8 hck10 HCK
                  go_wp2
                  go_roundw
                  case rel => exact ⟨k + 1, by omega, by go_num, by rw [HSN.out]; exact hv10, hA10, HCK10.out, hb10, hg10⟩
                  case measure => simp [intOf]; omega
              · obtain rfl : k = ws.length := by omega
                rw [List.take_length] at hvk
                have hvk2 := hvk.mono (O' := newIn w) (fun k hk => hk.1)
                clear hvk hck
                have hlen2 : (td ++ ptrsOf ws).length = td.length + (ptrsOf ws).length := List.length_append
                have HL2 := Lib.hid hlen2
                clear hlen2
                go_wp2
                go_roundg (40 * unseen H.st (setV vis p) + (td ++ ptrsOf ws).length)
                case measure => have := HL2.out; omega
                case rel => exact ⟨setV vis p, td ++ ptrsOf ws, hsc2, hvk2, hAk, hbk, rfl, by have := HL2.out; omega⟩
end Go.Proofs.Ytccaegiceneegaa
