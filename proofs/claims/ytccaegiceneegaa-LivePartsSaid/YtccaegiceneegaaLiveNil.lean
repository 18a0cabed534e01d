/- The package live, of no heap. No conditions. -/
import Derived.Test.YtccaegiceneegaaLiveC
import Derived.Test.YtccaegiceneegaaAw22
namespace Go.Proofs.Ytccaegiceneegaa
open Go.RowKit

theorem arWords_nil (w : World) : Calls Try.prog 35 #[.pointer none] w fun e w' => e = .returned (.int .i64 0) ∧ w = w' := by
  go_enter Try.func35, Try.ntmps35
  go_wp2
  go_ret
  exact ⟨rfl, rfl⟩
theorem arObjects_nil (w : World) : Calls Try.prog 32 #[.pointer none] w fun e w' => e = .returned (.slice none 0 0) ∧ w = w' := by
  have HW := Lib.hid (arWords_nil w)
  go_enter Try.func32, Try.ntmps32
  go_wp2_with fail
  refine HW.out.mono ?_
  rintro e w1 ⟨rfl, rfl⟩
  go_wp2
  go_loopw [3, 9] (fun l i wr => l = .slice none 0 0 ∧ i = .int .i64 0 ∧ wr = w) (fun _ _ _ => 0)
  case atStart => exact ⟨rfl, rfl, rfl⟩
  case round =>
    obtain ⟨rfl, rfl, rfl⟩ := hrel
    go_wp2
    go_ret
    exact ⟨rfl, rfl⟩
theorem liveLook_nil (i : Int) (w : World) : Calls Try.prog 101 #[.pointer none, .int .i64 i] w fun e w' => e = .returned .nilIface ∧ Below w.heap.size w w' := by
  have h1 := arKind_nil i w
  go_enter Try.func101, Try.ntmps101
  go_wp2_with (go_at_call 36; refine h1.mono ?_; rintro e w1 ⟨rfl, hb⟩)
  go_ret
  exact ⟨rfl, hb⟩
set_option maxRecDepth 100000 in
set_option maxHeartbeats 1000000 in
theorem liveReached_nil {w : World} {rv : Value} {roots : List Int} (hr : RdInts w rv roots) (hl : roots.length ≤ 100000) :
    Calls Try.prog 124 #[.pointer none, rv] w fun e w' => ∃ cm, e = .returned (.map (some cm)) ∧ Below w.heap.size w w' := by
  have hmm := @run_makeMap Try.prog
  have hB0 := (Below.refl _ w).alloc (Nat.le_refl _) (.map #[] 0)
  have hsrc := hr _ hB0
  have HSRC := Lib.hid hsrc
  clear hsrc
  go_enter Try.func124, Try.ntmps124
  go_wp2_with (at_builtin; refine wpList_append_sv _ rfl _ _ 22 Try.underlying22 rfl (fun _ => False) _ [] rfl (IntSv.nil _ _) _ roots rfl HSRC.out (by simp; omega) ?_)
  intro v0 w1 hv1 hu1 hz1
  have hb1 := Upd.belowOf hB0 hu1 (fun k hk => hk.elim) (by simp)
  have hv2 : IntSv w1 (newIn w) v0 roots := hv1.mono (O' := newIn w) (fun k hk => by subst hk; simp [newIn])
  clear hv1 hu1 hz1 hB0
  go_wp2
  go_loopg [6] (roots.length) (fun k v wr => ∃ td : List Int, IntSv wr (newIn w) v td ∧ Below w.heap.size w wr ∧ k = td.length ∧ k ≤ 1000000)
  case atStart => exact ⟨_, hv2, hb1, rfl, by omega⟩
  case round =>
    clear hv2 hb1 hr HSRC
    obtain ⟨td, hvt, hbr, hk, hkl⟩ := hrel
    cases td with
    | nil =>
      rcases hvt.shape with ⟨_, rfl⟩ | ⟨g, off, cap, rfl, _⟩
      · go_wp2
        go_ret
        first | exact ⟨⟨_, rfl⟩, hbr⟩ | exact ⟨_, rfl, hbr⟩
      · simp only [List.length_nil] at *
        go_wp2
        go_ret
        first | exact ⟨⟨_, rfl⟩, hbr⟩ | exact ⟨_, rfl, hbr⟩
    | cons t td =>
      rcases hvt.shape with ⟨h0, _⟩ | ⟨g, off, cap, rfl, hgO, hc1, hc2, hg, hcell⟩
      · cases h0
      have c0 := hcell 0 t rfl
      simp only [Nat.add_zero] at c0
      obtain ⟨v2, hv2, hcut⟩ : ∃ v2, IntSv wr (newIn w) v2 td ∧ ∀ wx, (Instr.slice 22 (.slice (some ⟨g, off, none⟩) (td.length + 1) cap) (some (.int .i64 1)) none none).run Try.prog wx = .ok v2 wx := by
        by_cases hc : cap = 1
        · obtain ⟨rfl, h2⟩ := IntSv.rest_end hvt hc
          exact ⟨_, h2, fun wx => by rw [run_rest, if_pos hc, hc]; rfl⟩
        · exact ⟨_, IntSv.rest hvt, fun wx => by rw [run_rest, if_neg hc]⟩
      simp only [List.length_cons] at *
      have hA := Lib.hid (fun wx => hArena_nil wx)
      have hno := Lib.hid (fun wx => liveLook_nil t wx)
      have ta := ta_obj_nil
      clear hcell hvt
      go_wp2_with (first | (go_at_call 52; refine (hA.out _).mono ?_; rintro e w3 ⟨rfl, rfl⟩) | (go_at_call 101; refine (hno.out _).mono ?_; rintro e w3 ⟨rfl, hb3⟩; have hb4 := below_then hbr hb3; have hv4 := hv2.below hb3))
      go_roundg td.length
      case measure => omega
      case rel => exact ⟨td, hv4, hb4, rfl, by omega⟩
set_option maxRecDepth 100000 in
theorem liveThose_nil {w : World} {rv : Value} {roots : List Int} (hr : RdInts w rv roots) (hl : roots.length ≤ 100000) (is : Bool) :
    Calls Try.prog 98 #[.pointer none, rv, .bool is] w fun e w' => e = .returned (.slice none 0 0) ∧ Below w.heap.size w w' := by
  have h1 := liveReached_nil hr hl
  have hA := Lib.hid (fun wx => hArena_nil wx)
  have hO := Lib.hid (fun wx => arObjects_nil wx)
  clear hr
  go_enter Try.func98, Try.ntmps98
  go_wp2_with fail
  refine h1.mono ?_
  rintro e w1 ⟨cq, rfl, hb1⟩
  clear h1
  go_wp2_with (first | (go_at_call 52; refine (hA.out _).mono ?_; rintro e w2 ⟨rfl, rfl⟩) | (go_at_call 32; refine (hO.out _).mono ?_; rintro e w2 ⟨rfl, rfl⟩))
  go_loopw [8, 18] (fun l j wr => l = .slice none 0 0 ∧ j = .int .i64 0 ∧ wr = w1) (fun _ _ _ => 0)
  case atStart => exact ⟨rfl, rfl, rfl⟩
  case round =>
    obtain ⟨rfl, rfl, rfl⟩ := hrel
    go_wp2
    go_ret
    exact ⟨rfl, hb1⟩
theorem liveReach_nil {w : World} {rv : Value} {roots : List Int} (hr : RdInts w rv roots) (hl : roots.length ≤ 100000) :
    Calls Try.prog 44 #[.pointer none, rv] w fun e w' => e = .returned (.slice none 0 0) ∧ Below w.heap.size w w' := by
  have hc := liveThose_nil hr hl true
  go_enter Try.func44, Try.ntmps44
  go_wp2_with (go_at_call 98; refine hc.mono ?_; rintro e w1 ⟨rfl, hb⟩)
  go_ret
  exact ⟨rfl, hb⟩
theorem liveLost_nil {w : World} {rv : Value} {roots : List Int} (hr : RdInts w rv roots) (hl : roots.length ≤ 100000) :
    Calls Try.prog 46 #[.pointer none, rv] w fun e w' => e = .returned (.slice none 0 0) ∧ Below w.heap.size w w' := by
  have hc := liveThose_nil hr hl false
  go_enter Try.func46, Try.ntmps46
  go_wp2_with (go_at_call 98; refine hc.mono ?_; rintro e w1 ⟨rfl, hb⟩)
  go_ret
  exact ⟨rfl, hb⟩
set_option maxRecDepth 100000 in
theorem liveBroken_nil {w : World} {rv : Value} {roots : List Int} (hr : RdInts w rv roots) (hl : roots.length ≤ 100000) :
    Calls Try.prog 48 #[.pointer none, rv] w fun e w' => e = .returned (.slice none 0 0) ∧ Below w.heap.size w w' := by
  have hc := Lib.hid (liveReach_nil hr hl)
  have hA := Lib.hid (fun wx => hArena_nil wx)
  clear hr
  go_enter Try.func48, Try.ntmps48
  go_wp2_with (first | (go_at_call 52; refine (hA.out _).mono ?_; rintro e w2 ⟨rfl, rfl⟩) | (go_at_call 44; refine hc.out.mono ?_; rintro e w1 ⟨rfl, hb⟩))
  go_loopw [5, 19] (fun l j wr => l = .slice none 0 0 ∧ j = .int .i64 0 ∧ wr = w1) (fun _ _ _ => 0)
  case atStart => exact ⟨rfl, rfl, rfl⟩
  case round =>
    obtain ⟨rfl, rfl, rfl⟩ := hrel
    go_wp2
    go_ret
    exact ⟨rfl, hb⟩
end Go.Proofs.Ytccaegiceneegaa
