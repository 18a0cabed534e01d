/- The walks of the package live: what is reached, what is lost, what is broken. The condition: all words of the arena fit. -/
import Derived.Test.YtccaegiceneegaaLive
namespace Go.Proofs.Ytccaegiceneegaa
open Go.RowKit

theorem IntSv.isSlice {w : World} {O : Nat → Prop} {v : Value} {xs : List Int} (h : IntSv w O v xs) : ∃ a n c, v = .slice a n c := by
  rcases h with ⟨_, h⟩ | ⟨g, off, cap, _, h, _⟩
  · exact ⟨_, _, _, h⟩
  · exact ⟨_, _, _, h⟩
theorem IntSl.isSlice {w : World} {base : Nat} {v : Value} {xs : List Int} (h : IntSl w base v xs) : ∃ a n c, v = .slice a n c := by
  rcases h.shape with ⟨_, h⟩ | ⟨g, cap, h, _⟩
  · exact ⟨_, _, _, h⟩
  · exact ⟨_, _, _, h⟩
theorem castL_snoc (l : List Nat) (p : Nat) : castL (l ++ [p]) = castL l ++ [(p : Int)] := by simp [castL]
theorem castL_len (l : List Nat) : (castL l).length = l.length := by simp [castL]
theorem filter_take_succ {q : Nat → Bool} {l : List Nat} {m : Nat} (h : m < l.length) : (l.take (m + 1)).filter q = (l.take m).filter q ++ (if q l[m] then [l[m]] else []) := by
  rw [List.take_succ_eq_append_getElem h, List.filter_append]
  congr 1
  cases hq : q l[m] <;> simp [hq]
theorem arObjs_mem {st : Ar} {p : Nat} (h : p ∈ arObjs st) : p < st.cells.length ∧ (st.head p).isSome = true := by
  unfold arObjs objsTo at h
  obtain ⟨h1, h2⟩ := List.mem_filter.1 h
  exact ⟨by simpa using h1, h2⟩
theorem arObjs_len (st : Ar) : (arObjs st).length ≤ st.cells.length := objsTo_length st _

set_option maxRecDepth 100000 in
set_option maxHeartbeats 1000000 in
theorem liveThose {w : World} {O : Nat → Prop} {ph pa ps br bl cm pl : Nat} {H : Hp} (h : HeapB w O ph pa ps br bl cm pl H) (hfit : H.st.fit) {rv : Value} {roots : List Int} (hr : RdInts w rv roots) (hl : roots.length ≤ 100000) (is : Bool) :
    Calls Try.prog 98 #[.pointer (some ⟨ph, 0, none⟩), rv, .bool is] w (SvPost (castL ((arObjs H.st).filter fun p => rchB H.st roots p == is)) w) := by
  have h1 := liveReached h hfit hr hl
  have hA := Lib.hid (fun wx (hb : Below w.heap.size w wx) => hArena (h.below hb))
  have hO := Lib.hid (fun wx (hb : Below w.heap.size w wx) => arObjects (h.below hb).arena)
  have hsm := h.arena.small
  have hol := arObjs_len H.st
  have hmem := Lib.hid (fun p (hp : p ∈ arObjs H.st) => (arObjs_mem hp).1)
  clear hr
  generalize arObjs H.st = objs at *
  go_enter Try.func98, Try.ntmps98
  go_wp2_with fail
  refine h1.mono ?_
  rintro e w1 ⟨cq, rfl, hm1, hb1⟩
  clear h1
  go_wp2_with (first | (go_at_call 52; refine (hA.out _ hb1).mono ?_; rintro e w2 ⟨rfl, rfl⟩) | (go_at_call 32; refine (hO.out _ hb1).mono ?_; rintro e w2 ⟨ov, rfl, ho2, hb2⟩; have hb3 := below_then hb1 hb2; have hm3 := hm1.below hb2; obtain ⟨sa, sn, sc, rfl⟩ := ho2.isSlice))
  have hov := ho2.shape
  clear hA hO ho2 hb1 hm1 hb2
  generalize hq : rchB H.st roots = q at *
  have HQ := Lib.hid hq
  clear hq
  rcases hov with ⟨e1, e2⟩ | ⟨g, cap, e2, _, hgc, hgm, hgA⟩
  · cases e2
    have e0 : objs = [] := by cases objs with
      | nil => rfl
      | cons a l => simp [castL] at e1
    subst e0
    go_loopw [8, 18] (fun l j wr => l = .slice none 0 0 ∧ j = .int .i64 0 ∧ wr = w2) (fun _ _ _ => 0)
    case atStart => exact ⟨rfl, rfl, rfl⟩
    case round =>
      obtain ⟨rfl, rfl, rfl⟩ := hrel
      go_wp2
      go_ret
      exact ⟨_, rfl, IntSv.nil _ _, hb3⟩
  · cases e2
    have hln := castL_len objs
    rw [hln] at hgc
    unfold maxLen at hgm
    have hcell := Lib.hid (fun wr (hb : Below w2.heap.size w2 wr) (m : Nat) (hm : m < objs.length) => (hgA.belowAll hb).cell (j := m) (v := .int .i64 (objs[m] : Nat)) (by simp [ints, castL, hm]))
    rw [hln]
    clear hgA hln
    go_loopw [8, 18] (fun l j wr => ∃ m : Nat, m ≤ objs.length ∧ j = .int .i64 m ∧ IntSv wr (newIn w2) l (castL ((objs.take m).filter fun p => q p == is)) ∧ Below w2.heap.size w2 wr) (fun _ j _ => objs.length - (intOf j).toNat)
    case atStart => exact ⟨0, by omega, rfl, IntSv.nil _ _, Below.refl _ _⟩
    case round =>
      obtain ⟨m, hm, rfl, hown, hbr⟩ := hrel
      have hbw := below_then hb3 hbr
      by_cases hlt : m < objs.length
      · have hcm := hcell.out wr hbr m hlt
        have hpl := hmem.out _ (List.getElem_mem hlt)
        have hsn := filter_take_succ (q := fun p => q p == is) hlt
        have hfl : ((objs.take m).filter fun p => q p == is).length ≤ 4096 := Nat.le_trans (List.length_filter_le _ _) (by simp; omega)
        have hlook := (hm3.below hbr).look objs[m] (by omega)
        generalize objs[m] = p at *
        have hci := castL_len ((objs.take m).filter fun p => q p == is)
        generalize (objs.take m).filter (fun p => q p == is) = xs at *
        have hvf : visF q p = if q p then 1 else 0 := rfl
        rw [hvf] at hlook
        have i1 : (0 : Int) ≤ (m : Int) := by omega
        have i2 : (m : Int) < (objs.length : Int) := by omega
        have hgl : ∀ o, Below wr.heap.size wr (wr.alloc o) := fun o => (Below.refl _ wr).alloc (Nat.le_refl _) o
        by_cases hqi : q p = is
        · have hqb : (q p == is) = true := by rw [hqi]; simp
          rw [hqb] at hsn
          simp only [if_true] at hsn
          have hb6 := hbr.alloc hbr.size (.cells #[.int .i64 p] 3)
          have hown6 := hown.below (hgl (.cells #[.int .i64 p] 3))
          have hc6 := (Arr.made wr 3 [.int .i64 p]).cell (j := 0) rfl
          have HSN := Lib.hid hsn
          have HCI := Lib.hid hci
          clear hown hqb hsn hci hvf hgl
          cases is <;> rw [hqi] at hlook <;> simp only [if_true, Bool.false_eq_true, if_false] at hlook <;> clear hqi
          all_goals
            go_wp2_with (at_builtin; refine wpList_append_sv _ rfl _ _ 22 Try.underlying22 rfl (newIn w2) _ _ rfl hown6 _ [(p : Int)] rfl (src_one _ p hc6 Try.underlying22) (by have := HCI.out; simp; omega) ?_)
            intro v' w7 hown7 hu7 hz7
            have hb7 := Upd.belowOf hb6 hu7 (fun k hk => hk) (by simp)
            have hz6 := hbr.size
            have hown8 := hown7.mono (O' := newIn w2) (fun k hk => hk.elim (fun h => h) (fun h => by subst h; simp [newIn]; omega))
            clear hown7 hu7 hz7 hown6 hc6
            go_wp2
            go_roundw
            case rel => exact ⟨m + 1, by omega, by go_num, by rw [HSN.out, castL_snoc]; exact hown8, hb7⟩
            case measure => simp [intOf]; omega
        · have hqb : (q p == is) = false := by rw [beq_eq_false_iff_ne]; exact hqi
          rw [hqb] at hsn
          simp only [Bool.false_eq_true, if_false, List.append_nil] at hsn
          have HSN := Lib.hid hsn
          have hqn : q p = !is := by cases is <;> cases hh : q p <;> simp_all
          clear hqb hsn hci hvf hgl hqi
          cases is <;> rw [hqn] at hlook <;> simp only [Bool.not_true, Bool.not_false, if_true, Bool.false_eq_true, if_false] at hlook <;> clear hqn
          all_goals
            go_wp2
            go_roundw
            case rel => exact ⟨m + 1, by omega, by go_num, by rw [HSN.out]; exact hown, hbr⟩
            case measure => simp [intOf]; omega
      · obtain rfl : m = objs.length := by omega
        rw [List.take_length] at hown
        have hown2 := hown.mono (O' := newIn w) (fun k hk => Nat.le_trans hb3.size hk)
        clear hown
        go_wp2
        go_ret
        have e := HQ.out
        subst e
        exact ⟨_, rfl, hown2, hbw⟩

theorem liveReach {w : World} {O : Nat → Prop} {ph pa ps br bl cm pl : Nat} {H : Hp} (h : HeapB w O ph pa ps br bl cm pl H) (hfit : H.st.fit) {rv : Value} {roots : List Int} (hr : RdInts w rv roots) (hl : roots.length ≤ 100000) :
    Calls Try.prog 44 #[.pointer (some ⟨ph, 0, none⟩), rv] w (SvPost (castL (reachL H.st roots)) w) := by
  have hc := liveThose h hfit hr hl true
  have e : ((arObjs H.st).filter fun p => rchB H.st roots p == true) = reachL H.st roots := by unfold reachL; congr 1; funext p; simp
  rw [e] at hc
  go_enter Try.func44, Try.ntmps44
  go_wp2_with (go_at_call 98; refine hc.mono ?_; rintro e w1 ⟨v, rfl, hv, hb⟩)
  go_ret
  exact ⟨_, rfl, hv, hb⟩
theorem liveLost {w : World} {O : Nat → Prop} {ph pa ps br bl cm pl : Nat} {H : Hp} (h : HeapB w O ph pa ps br bl cm pl H) (hfit : H.st.fit) {rv : Value} {roots : List Int} (hr : RdInts w rv roots) (hl : roots.length ≤ 100000) :
    Calls Try.prog 46 #[.pointer (some ⟨ph, 0, none⟩), rv] w (SvPost (castL (lostL H.st roots)) w) := by
  have hc := liveThose h hfit hr hl false
  have e : ((arObjs H.st).filter fun p => rchB H.st roots p == false) = lostL H.st roots := by unfold lostL; congr 1; funext p; cases rchB H.st roots p <;> rfl
  rw [e] at hc
  go_enter Try.func46, Try.ntmps46
  go_wp2_with (go_at_call 98; refine hc.mono ?_; rintro e w1 ⟨v, rfl, hv, hb⟩)
  go_ret
  exact ⟨_, rfl, hv, hb⟩
end Go.Proofs.Ytccaegiceneegaa
