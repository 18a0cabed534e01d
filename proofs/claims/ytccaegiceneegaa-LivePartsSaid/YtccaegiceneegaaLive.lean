/- The walks of the package live. The condition: all words of the arena fit. -/
import Derived.Test.YtccaegiceneegaaHeap
import Derived.Test.YtccaegiceneegaaBelow
import Derived.Deep.LoopGhost
namespace Go.Proofs.Ytccaegiceneegaa
open Go.RowKit

def newIn (w : World) : Nat → Prop := fun k => w.heap.size ≤ k
def LookPost (ws : List Int) (w : World) (e : Ending) (w' : World) : Prop := ∃ v, e = .returned (.iface 140 v) ∧ IntSv w' (newIn w) v ws ∧ Below w.heap.size w w'

theorem liveLook_no {w : World} {pa ps br bl : Nat} {st : Ar} (hs : IsArena w pa ps br bl st) (i : Int) (h0 : (st.head i).isSome = false) : Calls Try.prog 101 #[.pointer (some ⟨pa, 0, none⟩), .int .i64 i] w fun e w' => e = .returned .nilIface ∧ Below w.heap.size w w' := by
  have h1 := arKind hs i
  have e0 : hK (st.head i) = 0 := by rw [Ar.head_kind hs.ok, h0]
  rw [e0] at h1
  clear e0 h0
  go_enter Try.func101, Try.ntmps101
  go_wp2_with (go_at_call 36; refine h1.mono ?_; rintro e w1 ⟨rfl, hb⟩)
  go_ret
  exact ⟨rfl, hb⟩

theorem wordsTo_succ (st : Ar) (i : Int) (m : Nat) : ((List.range (m + 1)).map fun (j : Nat) => (arLoad st i (j : Int)).1) = ((List.range m).map fun (j : Nat) => (arLoad st i (j : Int)).1) ++ [(arLoad st i (m : Int)).1] := by
  rw [List.range_succ, List.map_append]; rfl
set_option maxRecDepth 100000 in
theorem liveLook_yes {w : World} {pa ps br bl : Nat} {st : Ar} (hs : IsArena w pa ps br bl st) (i : Int) (h0 : (st.head i).isSome = true) : Calls Try.prog 101 #[.pointer (some ⟨pa, 0, none⟩), .int .i64 i] w (LookPost (wordsOf st i) w) := by
  have h1 := arKind hs i
  have e0 : (hK (st.head i) == 0) = false := by rw [beq_eq_false_iff_ne]; intro e; rw [Ar.head_kind hs.ok, h0] at e; cases e
  have hL := Lib.hid (fun wx (h : IsArena wx pa ps br bl st) => arLen h i)
  have hn : 0 ≤ hN (st.head i) ∧ hN (st.head i) < 32 := by
    cases hd : st.head i with
    | none => rw [hd] at h0; cases h0
    | some kn =>
      obtain ⟨k, n⟩ := kn
      obtain ⟨p, _, hp⟩ := Ar.head_some hd
      obtain ⟨_, _, b3, b4, _⟩ := hs.ok.fits hp
      exact ⟨b3, b4⟩
  have HL := Lib.hid (fun wx (h : IsArena wx pa ps br bl st) (j : Nat) => arLoad_calls h i j)
  have hsz := hs.head.lt
  have HW : Hid (wordsOf st i = (List.range (hN (st.head i)).toNat).map fun (j : Nat) => (arLoad st i (j : Int)).1) := Lib.hid rfl
  have hk0 : 0 < w.heap.size := by omega
  clear h0
  generalize hK (st.head i) = kk at *
  generalize hN (st.head i) = nn at *
  obtain ⟨n, rfl⟩ := Int.eq_ofNat_of_zero_le hn.1
  have hn2 : n < 32 := by omega
  simp only [Int.toNat_natCast] at HW
  clear hn
  go_enter Try.func101, Try.ntmps101
  go_wp2_with (first | (go_at_call 36; refine h1.mono ?_; rintro e w1 ⟨rfl, hb⟩; have hb1 := hb.alloc hb.size (.cells #[] 3); have hs1 := hs.below (hb1.mono (Nat.le_refl _))) | (go_at_call 38; refine (hL.out _ hs1).mono ?_; rintro e w2 ⟨rfl, hb2⟩))
  have hb3 := below_then hb1 hb2
  have h0v : IntSv w2 (newIn w) (.slice (some ⟨w1.heap.size, 0, none⟩) 0 0) [] := by
    refine IntSv.below ?_ hb2
    exact .inr ⟨w1.heap.size, 0, 0, #[], rfl, hb.size, heap_alloc_new w1 _, by simp, by unfold maxLen; omega, by simp, rfl⟩
  clear hb1 hb2 hb hs1 h1 hL e0
  go_loopw [5, 17] (fun l j wr => ∃ m : Nat, m ≤ n ∧ j = .int .i64 m ∧ IntSv wr (newIn w) l ((List.range m).map fun (j : Nat) => (arLoad st i (j : Int)).1) ∧ Below w.heap.size w wr) (fun _ j _ => n - (intOf j).toNat)
  case atStart => exact ⟨0, by omega, rfl, h0v, hb3⟩
  case round =>
    obtain ⟨m, hm, rfl, hown, hbr⟩ := hrel
    by_cases hlt : m < n
    · have hll : ((List.range m).map fun (j : Nat) => (arLoad st i (j : Int)).1).length ≤ 32 := by simp; omega
      have hsu := wordsTo_succ st i m
      have HLr := HL.out _ (hs.below hbr) m
      generalize (arLoad st i (m : Int)).1 = x at *
      generalize (arLoad st i (m : Int)).2 = er at *
      generalize ((List.range m).map fun (j : Nat) => (arLoad st i (j : Int)).1) = xs at *
      have HSU := Lib.hid hsu
      clear hsu HL h0v hb3
      go_wp2_with fail
      refine HLr.mono ?_
      rintro e w4 ⟨rfl, hb4⟩
      have hb5 := below_then hbr hb4
      have hb6 := hb5.alloc hb5.size (.cells #[.int .i64 x] 3)
      have hown6 := (hown.below hb4).below ((Below.refl _ w4).alloc (Nat.le_refl _) (.cells #[.int .i64 x] 3))
      have hc6 := (Arr.made w4 3 [.int .i64 x]).cell (j := 0) rfl
      clear hown HLr
      go_wp2_with (at_builtin; refine wpList_append_sv _ rfl _ _ 140 Try.underlying140 rfl (newIn w) _ xs rfl hown6 _ [x] rfl (src_one _ x hc6 Try.underlying140) (by simp; omega) ?_)
      intro v' w7 hown7 hu7 hz7
      have hb7 := Upd.belowOf hb6 hu7 (fun k hk => hk) (by simp)
      have hz6 := hb5.size
      have hown8 := hown7.mono (O' := newIn w) (fun k hk => hk.elim (fun h => h) (fun h => by subst h; simp [newIn]; omega))
      clear hown7 hu7 hz7 hown6 hc6
      go_wp2
      go_roundw
      case rel => exact ⟨m + 1, by omega, by go_num, by rw [HSU.out]; exact hown8, hb7⟩
      case measure => simp [intOf]; omega
    · obtain rfl : m = n := by omega
      go_wp2
      go_ret
      exact ⟨_, rfl, by rw [HW.out]; exact hown, hbr⟩

theorem head_len31 {st : Ar} (h : st.ok) (i : Int) : (hN (st.head i)).toNat ≤ 31 := by
  cases hd : st.head i with
  | none => simp [hN]
  | some kn =>
    obtain ⟨k, n⟩ := kn
    obtain ⟨p, rfl, hp⟩ := Ar.head_some hd
    obtain ⟨_, _, _, b4, _, _⟩ := h.fits hp
    simp only [hN]; omega
/-- a slice of these numbers that was made since -/
def SvPost (xs : List Int) (w : World) (e : Ending) (w' : World) : Prop := ∃ v, e = .returned v ∧ IntSv w' (newIn w) v xs ∧ Below w.heap.size w w'
theorem ptrsOf_snoc (xs : List Int) (x : Int) : ptrsOf (xs ++ [x]) = ptrsOf xs ++ (if oddW x then [ptrAt x] else []) := by
  unfold ptrsOf
  rw [List.filter_append, List.map_append]
  congr 1
  cases h : oddW x <;> simp [h]
set_option maxRecDepth 100000 in
theorem livePlaces {w : World} {O : Nat → Prop} {v : Value} {ws : List Int} (hv : IntSv w O v ws) (hw : ∀ x ∈ ws, fitsW x) (hl : ws.length ≤ 32) : Calls Try.prog 102 #[v] w (SvPost (ptrsOf ws) w) := by
  rcases hv.shape with ⟨rfl, rfl⟩ | ⟨g, off, cap, rfl, _, hc1, hc2, hg, hcell⟩
  · go_enter Try.func102, Try.ntmps102
    go_wp2
    go_loopw [3, 8] (fun l j wr => l = .slice none 0 0 ∧ j = .int .i64 0 ∧ wr = w) (fun _ _ _ => 0)
    case atStart => exact ⟨rfl, rfl, rfl⟩
    case round =>
      obtain ⟨rfl, rfl, rfl⟩ := hrel
      go_wp2
      go_ret
      exact ⟨_, rfl, IntSv.nil _ _, Below.refl _ _⟩
  · have HC := Lib.hid hcell
    have HW := Lib.hid hw
    clear hcell hw hv
    go_enter Try.func102, Try.ntmps102
    go_wp2
    go_loopw [3, 8] (fun l j wr => ∃ m : Nat, m ≤ ws.length ∧ j = .int .i64 m ∧ IntSv wr (newIn w) l (ptrsOf (ws.take m)) ∧ Below w.heap.size w wr) (fun _ j _ => ws.length - (intOf j).toNat)
    case atStart => exact ⟨0, by omega, rfl, IntSv.nil _ _, Below.refl _ _⟩
    case round =>
      obtain ⟨m, hm, rfl, hown, hbr⟩ := hrel
      by_cases hlt : m < ws.length
      · have hx : ws[m]? = some ws[m] := List.getElem?_eq_getElem hlt
        have hcm := HC.out m _ hx
        have hfx := HW.out _ (List.getElem_mem hlt)
        have hsn := ptrsOf_snoc (ws.take m) ws[m]
        rw [← List.take_succ_eq_append_getElem hlt] at hsn
        have hpl := ptrsOf_len (ws.take m)
        have hpl2 : (ptrsOf (ws.take m)).length ≤ 32 := by have := List.length_take_le m ws; omega
        generalize ws[m] = x at *
        have hcr : wr.cell? ⟨g, off + m, none⟩ = some (.int .i64 x) := by rw [← hcm]; exact hbr.cell hg
        have k1 := fun w1 => valIsPtr x hfx w1
        have k2 := fun w1 => valAt x hfx w1
        have K2 := Lib.hid k2
        clear hx hcm hpl k2
        generalize ptrsOf (ws.take m) = xs at *
        cases ho : oddW x with
        | false =>
          rw [ho] at hsn k1
          simp only [Bool.false_eq_true, if_false, List.append_nil] at hsn
          have HSN := Lib.hid hsn
          have K1 := Lib.hid k1
          clear hsn k1 ho
          go_wp2_with (go_at_call 104; refine (K1.out _).mono ?_; rintro e w2 ⟨rfl, rfl⟩)
          go_roundw
          case rel => exact ⟨m + 1, by omega, by go_num, by rw [HSN.out]; exact hown, hbr⟩
          case measure => simp [intOf]; omega
        | true =>
          rw [ho] at hsn k1
          simp only [if_true] at hsn
          have HSN := Lib.hid hsn
          have K1 := Lib.hid k1
          clear hsn k1 ho
          generalize ptrAt x = y at *
          have hb6 := hbr.alloc hbr.size (.cells #[.int .i64 y] 3)
          have hown6 := hown.below ((Below.refl _ wr).alloc (Nat.le_refl _) (.cells #[.int .i64 y] 3))
          have hc6 := (Arr.made wr 3 [.int .i64 y]).cell (j := 0) rfl
          clear hown
          go_wp2_with (first | (go_at_call 104; refine (K1.out _).mono ?_; rintro e w2 ⟨rfl, rfl⟩) | (go_at_call 106; refine (K2.out _).mono ?_; rintro e w2 ⟨rfl, rfl⟩) | (at_builtin; refine wpList_append_sv _ rfl _ _ 22 Try.underlying22 rfl (newIn w) _ xs rfl hown6 _ [y] rfl (src_one _ y hc6 Try.underlying22) (by simp; omega) ?_))
          intro v' w7 hown7 hu7 hz7
          have hb7 := Upd.belowOf hb6 hu7 (fun k hk => hk) (by simp)
          have hz6 := hbr.size
          have hown8 := hown7.mono (O' := newIn w) (fun k hk => hk.elim (fun h => h) (fun h => by subst h; simp [newIn]; omega))
          clear hown7 hu7 hz7 hown6 hc6
          go_wp2
          go_roundw
          case rel => exact ⟨m + 1, by omega, by go_num, by rw [HSN.out]; exact hown8, hb7⟩
          case measure => simp [intOf]; omega
      · obtain rfl : m = ws.length := by omega
        go_wp2
        go_ret
        exact ⟨_, rfl, by rw [List.take_length] at hown; exact hown, hbr⟩

/-- these numbers can be read out of the value -/
def RdInts (w : World) (v : Value) (xs : List Int) : Prop := ∀ w', Below w.heap.size w w' → Src Try.prog 1 22 v xs.length (ints xs) w'
theorem RdInts.below {w w' : World} {v : Value} {xs : List Int} (h : RdInts w v xs) (hb : Below w.heap.size w w') : RdInts w' v xs := fun w2 h2 => h w2 (below_then hb h2)
theorem IntSv.rd {w : World} {O : Nat → Prop} {v : Value} {xs : List Int} (h : IntSv w O v xs) : RdInts w v xs := fun _ hb => src_of_sv (h.below hb) Try.underlying22
theorem ta_obj_nil (w : World) : (Instr.typeAssert .nilIface 20 140 true).run Try.prog w = .ok (.tuple #[.slice none 0 0, .bool false]) w := by kernel_rfl
theorem ta_obj (v : Value) (w : World) : (Instr.typeAssert (.iface 140 v) 20 140 true).run Try.prog w = .ok (.tuple #[v, .bool true]) w := by kernel_rfl

theorem IsMapI.notRow {w : World} {cm : Nat} {f : Nat → Int} (h : IsMapI w cm f) : ¬ IntRow w cm := by
  rintro ⟨cur, hc⟩
  obtain ⟨n, D, ⟨es, clock, h1, _⟩, _⟩ := h
  rw [h1] at hc; cases hc
theorem run_rest (g off n cap : Nat) (w : World) : (Instr.slice 22 (.slice (some ⟨g, off, none⟩) (n + 1) cap) (some (.int .i64 1)) none none).run Try.prog w = .ok (if cap = 1 then .slice (some ⟨g, off, none⟩) n (cap - 1) else .slice (some ⟨g, off + 1, none⟩) n (cap - 1)) w := by
  obtain ⟨i0, hi, hz0, hz1, hz2⟩ := info_parts info_int
  have e1 : (1 : Int) ≤ (n : Int) + 1 := by omega
  simp [Instr.slice, Instr.sliceBounds, Instr.sliceBound, asIntOf, run_underlying Try.underlying22, sizeOf, typeInfo, hi, hz1, go_sem, Addr.add_lit, e1]
  split <;> rfl

def visF (vis : Nat → Bool) : Nat → Int := fun p => if vis p then 1 else 0
theorem visF_set (vis : Nat → Bool) (p : Nat) : (fun q => if q = p then (1 : Int) else visF vis q) = visF (setV vis p) := by
  funext q; unfold visF setV; split <;> simp_all
def ReachedPost (st : Ar) (roots : List Int) (w : World) (e : Ending) (w' : World) : Prop := ∃ cm, e = .returned (.map (some cm)) ∧ IsMapI w' cm (visF (rchB st roots)) ∧ Below w.heap.size w w'
def ReachRel (st : Ar) (roots : List Int) (w : World) (k : Nat) (v : Value) (wr : World) : Prop :=
  ∃ (vis : Nat → Bool) (td : List Int), Scan st roots vis td ∧ IntSv wr (newIn w) v td ∧ IsMapI wr w.heap.size (visF vis) ∧ Below w.heap.size w wr ∧ k = 40 * unseen st vis + td.length ∧ k ≤ 1000000
set_option maxRecDepth 100000 in
set_option maxHeartbeats 1000000 in
theorem liveReached {w : World} {O : Nat → Prop} {ph pa ps br bl cm pl : Nat} {H : Hp} (h : HeapB w O ph pa ps br bl cm pl H) (hfit : H.st.fit) {rv : Value} {roots : List Int} (hr : RdInts w rv roots) (hl : roots.length ≤ 100000) :
    Calls Try.prog 124 #[.pointer (some ⟨ph, 0, none⟩), rv] w (ReachedPost H.st roots w) := by
  have hmm := @run_makeMap Try.prog
  have hm0 := IsMapI.made w
  have hB0 := (Below.refl _ w).alloc (Nat.le_refl _) (.map #[] 0)
  have hsrc := hr _ hB0
  have hsm := h.arena.small
  have hun := unseen_le H.st (fun _ => false)
  have HSRC := Lib.hid hsrc
  clear hsrc
  go_enter Try.func124, Try.ntmps124
  go_wp2_with (at_builtin; refine wpList_append_sv _ rfl _ _ 22 Try.underlying22 rfl (fun _ => False) _ [] rfl (IntSv.nil _ _) _ roots rfl HSRC.out (by simp; omega) ?_)
  intro v0 w1 hv1 hu1 hz1
  have hb1 := Upd.belowOf hB0 hu1 (fun k hk => hk.elim) (by simp)
  have hv2 : IntSv w1 (newIn w) v0 roots := hv1.mono (O' := newIn w) (fun k hk => by subst hk; simp [newIn])
  have hm1 : IsMapI w1 w.heap.size (visF (fun _ => false)) := by
    have e : visF (fun _ => false) = fun _ => 0 := by funext q; simp [visF]
    rw [e]; exact hm0.upd hu1 (fun h => h)
  clear hv1 hu1 hz1 hm0 hB0
  go_wp2
  go_loopg [6] (40 * unseen H.st (fun _ => false) + roots.length) (fun k v wr => ReachRel H.st roots w k v wr)
  case atStart => exact ⟨_, _, Scan.start _ _, hv2, hm1, hb1, rfl, by omega⟩
  case round =>
    clear hv2 hm1 hb1 hr HSRC hun
    obtain ⟨vis, td, hsc, hvt, hmr, hbr, hk, hkl⟩ := hrel
    have hcm : w.heap.size < wr.heap.size := hmr.lt
    cases td with
    | nil =>
      have hvis := vis_eq hsc
      rw [hvis] at hmr
      rcases hvt.shape with ⟨_, rfl⟩ | ⟨g, off, cap, rfl, _⟩
      · go_wp2
        go_ret
        exact ⟨_, rfl, hmr, hbr⟩
      · simp only [List.length_nil] at *
        go_wp2
        go_ret
        exact ⟨_, rfl, hmr, hbr⟩
    | cons t td =>
      rcases hvt.shape with ⟨h0, _⟩ | ⟨g, off, cap, rfl, hgO, hc1, hc2, hg, hcell⟩
      · cases h0
      have c0 := hcell 0 t rfl
      simp only [Nat.add_zero] at c0
      -- the rest of the queue
      obtain ⟨v2, hv2, hcut⟩ : ∃ v2, IntSv wr (newIn w) v2 td ∧ ∀ wx, (Instr.slice 22 (.slice (some ⟨g, off, none⟩) (td.length + 1) cap) (some (.int .i64 1)) none none).run Try.prog wx = .ok v2 wx := by
        by_cases hc : cap = 1
        · obtain ⟨rfl, h2⟩ := IntSv.rest_end hvt hc
          exact ⟨_, h2, fun wx => by rw [run_rest, if_pos hc, hc]; rfl⟩
        · exact ⟨_, IntSv.rest hvt, fun wx => by rw [run_rest, if_neg hc]⟩
      simp only [List.length_cons] at *
      have hA := Lib.hid (fun wx (hb : Below w.heap.size w wx) => hArena (h.below hb))
      have hskip := fun (ht : (H.st.head t).isSome = false ∨ vis t.toNat = true) => hsc.skip t (todo' := td) (fun x hx => List.mem_cons.1 hx) (fun x hx => List.mem_cons_of_mem _ hx) ht
      clear hcell
      cases ho : (H.st.head t).isSome with
      | false =>
        have hsc2 := hskip (.inl ho)
        have hno := Lib.hid (fun wx (hb : Below w.heap.size w wx) => liveLook_no ((h.below hb).arena) t ho)
        have ta := ta_obj_nil
        clear hskip hsc ho hvt
        go_wp2_with (first | (go_at_call 52; refine (hA.out _ hbr).mono ?_; rintro e w3 ⟨rfl, rfl⟩) | (go_at_call 101; refine (hno.out _ hbr).mono ?_; rintro e w3 ⟨rfl, hb3⟩; have hb4 := below_then hbr hb3; have hv4 := hv2.below hb3; have hm4 := hmr.below hb3))
        go_roundg (40 * unseen H.st vis + td.length)
        case measure => omega
        case rel => exact ⟨vis, td, hsc2, hv4, hm4, hb4, rfl, by omega⟩
      | true =>
        obtain ⟨p, rfl, hp⟩ := Ar.head_bd ho
        have hyes := Lib.hid (fun wx (hb : Below w.heap.size w wx) => liveLook_yes ((h.below hb).arena) (p : Int) ho)
        have ta := ta_obj
        have hp4 : p < 4096 := by omega
        cases hv : vis p with
        | true =>
          have hsc2 := hskip (.inr (by simpa using hv))
          have hf1 : visF vis p = 1 := by simp [visF, hv]
          have hlk := Lib.hid (fun wx (hm : IsMapI wx w.heap.size (visF vis)) => hm.look p hp4)
          rw [hf1] at hlk
          clear hskip hsc ho hvt hv hf1
          go_wp2_with (first | (go_at_call 52; refine (hA.out _ hbr).mono ?_; rintro e w3 ⟨rfl, rfl⟩) | (go_at_call 101; refine (hyes.out _ hbr).mono ?_; rintro e w3 ⟨xv, rfl, hx3, hb3⟩; have hb4 := below_then hbr hb3; have hv4 := hv2.below hb3; have hm4 := hmr.below hb3; have hl4 := hlk.out _ hm4))
          go_roundg (40 * unseen H.st vis + td.length)
          case measure => omega
          case rel => exact ⟨vis, td, hsc2, hv4, hm4, hb4, rfl, by omega⟩
        | false =>
          have hun := unseen_visit ho hv
          have hws := wordsOf_fit hfit (p : Int)
          have hwl := wordsOf_len H.st (p : Int)
          have hn31 : (wordsOf H.st (p : Int)).length ≤ 32 := by
            have := head_len31 h.arena.ok (p : Int); omega
          have hpl := ptrsOf_len (wordsOf H.st (p : Int))
          have hsc2 : Scan H.st roots (setV vis p) (td ++ ptrsOf (wordsOf H.st (p : Int))) := hsc.visit p ho (List.mem_cons_self ..) (fun x hx => (List.mem_cons.1 hx).imp id (fun h => List.mem_append_left _ h)) (fun x hx => (List.mem_append.1 hx).imp (fun h => List.mem_cons_of_mem _ h) id) (fun j hj => List.mem_append_right _ hj)
          have hf1 : visF vis p = 0 := by simp [visF, hv]
          have hlk := Lib.hid (fun wx (hm : IsMapI wx w.heap.size (visF vis)) => hm.look p hp4)
          rw [hf1] at hlk
          have hst := Lib.hid (fun wx (hm : IsMapI wx w.heap.size (visF vis)) => hm.store p hp4 1 (by omega) (by omega))
          rw [visF_set] at hst
          clear hskip hsc ho hvt hv hf1 hwl
          generalize hps : ptrsOf (wordsOf H.st (p : Int)) = ps2 at *
          generalize wordsOf H.st (p : Int) = ws at *
          have HPS := Lib.hid hps
          clear hps
          have HPL : Hid (ps2.length ≤ 32) := Lib.hid (by omega)
          have HWS := Lib.hid hws
          clear hpl hws
          go_upto_region 9 with (first | (go_at_call 52; refine (hA.out _ hbr).mono ?_; rintro e w3 ⟨rfl, rfl⟩) | (go_at_call 101; refine (hyes.out _ hbr).mono ?_; rintro e w3 ⟨xv, rfl, hx3, hb3⟩; have hb4 := below_then hbr hb3; have hv4 := hv2.below hb3; have hm4 := hmr.below hb3; have hl4 := hlk.out _ hm4; obtain ⟨w5, hrun5, hm5, hu5⟩ := hst.out _ hm4))
          have hv5 : IntSv w5 (newIn w) v2 td := (hv4.rows.upd hu5 (fun k hk e => by subst e; exact hm4.notRow hk.2)).mono (fun k hk => hk.1)
          have hx5 : IntSv w5 (newIn wr) xv ws := hx3.upd hu5 (fun k hk e => by subst e; unfold newIn at hk; omega)
          have hb5 := Upd.belowOf hb4 hu5 (fun k hk => by subst hk; exact Nat.le_refl _)
          clear hrun5 hu5 hm4 hv4 hx3 hb4 hl4 hlk hst
          have hpc := livePlaces hx5 HWS.out hn31
          rw [HPS.out] at hpc
          have HPC := Lib.hid hpc
          clear hpc
          go_wp2_with fail
          refine HPC.out.mono ?_
          rintro e w6 ⟨pv, rfl, hp6, hb6⟩
          have hv6 := (hv5.below hb6).rows
          have hm6 := hm5.below hb6
          have hb7 := below_then hb5 hb6
          have hsrc := src_of_sv hp6 Try.underlying22
          have hlen : td.length + ps2.length ≤ 1000000000 := by have := HPL.out; omega
          clear hv5 hm5 hb5 hx5
          go_wp2_with (at_builtin; refine wpList_append_sv _ rfl _ _ 22 Try.underlying22 rfl (fun k => newIn w k ∧ IntRow w6 k) _ td rfl hv6 _ ps2 rfl hsrc hlen ?_)
          intro v' w7 hown7 hu7 hz7
          have hm7 := hm6.upd hu7 (fun hk => hm6.notRow hk.2)
          have hb8 := Upd.belowOf hb7 hu7 (fun k hk => hk.1)
          have hs6 := hb7.size
          have hown8 := hown7.mono (O' := newIn w) (fun k hk => hk.elim (fun h => h.1) (fun h => by subst h; exact hs6))
          clear hown7 hu7 hz7 hv6 hm6 hsrc
          have hlen2 : (td ++ ps2).length = td.length + ps2.length := List.length_append
          have HL2 := Lib.hid hlen2
          clear hlen2
          go_wp2
          go_roundg (40 * unseen H.st (setV vis p) + (td ++ ps2).length)
          case measure => have := HPL.out; have := HL2.out; omega
          case rel => exact ⟨setV vis p, td ++ ps2, hsc2, hown8, hm7, hb8, rfl, by have := HPL.out; have := HL2.out; omega⟩
end Go.Proofs.Ytccaegiceneegaa
