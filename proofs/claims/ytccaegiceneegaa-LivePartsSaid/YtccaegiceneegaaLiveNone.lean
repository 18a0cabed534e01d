/- The law LiveNone: it returns true, and turns nothing that was there. No conditions. -/
import Derived.Test.YtccaegiceneegaaAw22
import Derived.Test.YtccaegiceneegaaHelpB
import Derived.Test.YtccaegiceneegaaLNone
namespace Go.Proofs.Ytccaegiceneegaa
open Go.RowKit

theorem HeapB.same {w : World} {O : Nat → Prop} {ph pa ps br bl cm pl : Nat} {H : Hp} (h : HeapB w O ph pa ps br bl cm pl H) (hp : H.phase = 0) {st : Ar} (hs : H.st = st) : ∃ H' : Hp, HeapB w O ph pa ps br bl cm pl H' ∧ H'.phase = 0 ∧ H'.st = st := ⟨H, h, hp, hs⟩
theorem hpAlloc_phase (H : Hp) (k n : Int) : (hpAlloc H k n).phase = H.phase := by unfold hpAlloc; split <;> rfl
theorem below_one (w : World) (o : Obj) : Below w.heap.size w (w.alloc o) := (Below.refl _ w).alloc (Nat.le_refl _) o
theorem HasSv.rd {w : World} {v : Value} {xs : List Int} (h : HasSv w v xs) : RdInts w v xs := by
  intro w' hb
  rcases h.below hb with ⟨rfl, rfl⟩ | ⟨g, off, cap, rfl, h2, h3, h4, h5⟩
  · exact Src.ofNil w' Try.underlying22 0
  · refine Src.ofSlice w' Try.underlying22 _ _ _ _ (by simp) (fun j u hu => ?_) (fun u hu => ?_)
    · rw [Addr.add_lit]
      simp only [ints, List.getElem?_map, Option.map_eq_some_iff] at hu
      obtain ⟨x, hx, rfl⟩ := hu
      exact h5 j x hx
    · simp only [ints, List.mem_map] at hu
      obtain ⟨x, _, rfl⟩ := hu; rfl

set_option maxRecDepth 1000000 in
set_option maxHeartbeats 2000000 in
theorem liveNone (at_ i : Int) (w : World) : Calls Try.prog 8 #[.int .i64 at_, .int .i64 i] w fun e w' => e = .returned (.bool true) ∧ Below w.heap.size w w' := by
  obtain ⟨a1, a2⟩ := ln_allocs
  have hmi := modU_bd i 10 (by omega) (by omega)
  have hmo := modU_bd at_ 1000 (by omega) (by omega)
  have e1 : wrap64 ((IntKind.u64.wrap i).tmod 10) = modU i 10 := rfl
  have e2 : wrap64 ((IntKind.u64.wrap at_).tmod 1000) = modU at_ 1000 := rfl
  generalize modU i 10 = i0 at *
  generalize modU at_ 1000 = o0 at *
  obtain ⟨f1, f2, f3, f4, f5, f6, f7, f8, f9⟩ := ln_facts i0 hmi
  obtain ⟨g1, g2⟩ := ln_far i0 hmi (1000 + o0) (by omega)
  have F1 := Lib.hid f1
  have F2 := Lib.hid f2
  have F3 := Lib.hid f3
  have F5 := Lib.hid f5
  have G1 := Lib.hid g1
  have G2 := Lib.hid g2
  have A1 := Lib.hid a1
  have A2 := Lib.hid a2
  clear f1 f2 f3 f4 f5 f6 f7 f8 f9 g1 g2 a1 a2
  have KAw := Lib.hid (fun w1 => awake22 w1)
  have K65 := Lib.hid (fun w1 => refPtr 32 (by omega) (by omega) w1)
  go_enter Try.func8, Try.ntmps8
  go_wp2_with fail
  refine (hNew 4 (by omega) (by omega) w).mono ?_
  rintro e w1 ⟨ph, pa, ps, br, bl, cm, pl, rfl, hP1, hb1⟩
  go_wp2_with fail
  refine (KAw.out w1).mono ?_
  rintro e w2 ⟨rfl, hb2⟩
  have hP2 := hP1.below hb2
  have hB2 := below_then hb1 hb2
  have hO : ∀ k, (fun k => w.heap.size ≤ k ∧ k < w1.heap.size) k → w.heap.size ≤ k := fun k hk => hk.1
  have HO := Lib.hid hO
  generalize (fun k => w.heap.size ≤ k ∧ k < w1.heap.size) = O at *
  clear hO hP1 hb1 hb2
  have HAr := Lib.hid (hArena hP2)
  go_wp2_with (go_at_call 52; refine HAr.out.mono ?_; rintro e w3 ⟨rfl, rfl⟩)
  have q1 := hAlloc hP2 4 10
  rw [show (hpNew 4).st = arNew 4 from rfl, A1.out] at q1
  refine q1.mono ?_
  rintro e w3 ⟨rfl, hP3, hu3⟩
  have hS := hP2.ownA
  obtain ⟨H3, hQ3, hph3, hst3⟩ := hP3.same (hpAlloc_phase _ _ _) (st := ln1) (hpAlloc_st _ _ _)
  have hB3 := Upd.belowOf hB2 hu3 (fun k hk => HO.out k (hS.2 k hk))
  clear q1 hP3 hu3 hP2 hB2 HAr
  go_wp2_with fail
  have q2 := hAlloc hQ3 5 2
  rw [hst3, A2.out] at q2
  refine q2.mono ?_
  rintro e w4 ⟨rfl, hP4, hu4⟩
  obtain ⟨H4, hQ4, hph4, hst4⟩ := hP4.same ((hpAlloc_phase _ _ _).trans hph3) (st := ln2) (by rw [hpAlloc_st, hst3]; rfl)
  have hB4 := Upd.belowOf hB3 hu4 (fun k hk => HO.out k (hS.2 k hk))
  clear q2 hP4 hu4 hQ3 hB3 hph3 hst3
  have q3 := hStoreIdle hQ4 (by omega) 0 i0 65 ⟨by omega, by omega⟩
  have hlok : (arLoad ln2 0 i0).2 = 0 := ln_load i0 hmi
  rw [hst4, hlok] at q3
  have Q3 := Lib.hid q3
  have HPH := Lib.hid hph4
  clear q3 hph4 hst4 hlok
  go_wp2_with (first | (go_at_call 55; refine (K65.out _).mono ?_; rintro e w5 ⟨rfl, rfl⟩) | (go_at_call 54; refine Q3.out.mono ?_; rintro e w5 ⟨rfl, hP5, hu5⟩; clear Q3))
  have HPH5 : ({ H4 with st := arStoreN ln2 0 i0 65 } : Hp).phase = 0 := HPH.out
  have hfit3 : (ln3 i0).fit := ln3_fit i0
  obtain ⟨H5, hQ5, hph5, hst5⟩ := hP5.same HPH5 (st := ln3 i0) rfl
  have hB5 := Upd.belowOf hB4 hu5 (fun k hk => HO.out k (hS.1 k hk))
  have hfit5 : H5.st.fit := by rw [hst5]; exact hfit3
  have KC := Lib.hid (fun wx (hb : Below w5.heap.size w5 wx) (v : Value) (hr : RdInts wx v [0]) => liveBroken (hQ5.below hb) hfit5 hr (by simp))
  have KR := Lib.hid (fun wx (hb : Below w5.heap.size w5 wx) (v : Value) (hr : RdInts wx v [32]) => liveReach (hQ5.below hb) hfit5 hr (by simp))
  rw [hst5, F1.out] at KC
  rw [hst5, F2.out] at KR
  have HQ5 := Lib.hid (And.intro hQ5 (And.intro hph5 hst5))
  clear hP5 HPH5 HPH hQ5 hph5 hst5 hfit3 hfit5 hu5 hQ4 hB4
  go_upto_region 9 with (first | (go_at_call 48; refine (KC.out _ (below_one w5 _) _ (HasSv.made w5 [0] (by simp)).rd).mono ?_; rintro e w6 ⟨v6, rfl, hv6, hb6⟩; obtain ⟨a6, c6, rfl⟩ := hv6.ofLen (n := 0) rfl; have hB6 := below_then (below_one w5 _) hb6; clear hv6) | (go_at_call 44; refine (KR.out _ (hB6.alloc hB6.size _) _ (HasSv.made w6 [32] (by simp)).rd).mono ?_; rintro e w7 ⟨v7, rfl, hv7, hb7⟩; have hB7 := below_then (hB6.alloc hB6.size _) hb7) | (go_at_call 31; refine (helpPlainB (hv7.sv.below (below_one w7 _)) (HasSv.made w7 [32] (by simp)) (by simp [castL])).mono ?_; rintro e w8 ⟨rfl, hb8⟩; have hB8 := below_then (hB7.alloc hB7.size _) hb8))
  obtain ⟨hQ5, hph5, hst5⟩ := HQ5.out
  have hP8 := hQ5.below hB8
  have hB8w := below_then hB5 hB8
  have q1 := hArena hP8
  have q2 := arFree_calls hP8.arena 32
  have Q1 := Lib.hid q1
  have Q2 := Lib.hid q2
  have hsub : ∀ p : Nat, ((arFreeN H5.st 32).head p).isSome = true → (H5.st.head p).isSome = true := by
    intro p hp2
    rw [arFree_head hP8.arena.ok] at hp2
    split at hp2
    · cases hp2
    · exact hp2
  have KP := Lib.hid (fun wx (hu : Upd (arB br bl) w8 wx) (hA : IsArena wx pa ps br bl (arFreeN H5.st 32)) => hP8.turnArena hu hA hsub)
  have hS8 := hP8.ownA
  have hst6 : ({ H5 with st := arFreeN H5.st 32 } : Hp).st = ln4 i0 := by show arFreeN H5.st 32 = _; rw [hst5]; rfl
  have HST6 := Lib.hid hst6
  have HPH5 := Lib.hid hph5
  clear q1 q2 hsub hst6 hph5 hst5 hP8 hQ5 HQ5 KC KR hv7 hb6 hb7 hb8 hB6 hB7 hB8 hB5
  go_upto_region 11 with (first | (go_at_call 52; refine Q1.out.mono ?_; rintro e w9 ⟨rfl, rfl⟩) | (go_at_call 25; refine Q2.out.mono ?_; rintro e w9 ⟨rfl, hA9, hu9⟩))
  have hP9 := KP.out _ hu9 hA9
  have HPH6 : ({ H5 with st := arFreeN H5.st 32 } : Hp).phase = 0 := HPH5.out
  obtain ⟨H6, hQ6, _, hst6⟩ := hP9.same HPH6 HST6.out
  have hB9 := Upd.belowOf hB8w hu9 (fun k hk => HO.out k (hS8.1 k hk))
  have hfit6 : H6.st.fit := by rw [hst6]; exact ln4_fit i0
  have KC := Lib.hid (fun wx (hb : Below w9.heap.size w9 wx) (v : Value) (hr : RdInts wx v [0]) => liveBroken (hQ6.below hb) hfit6 hr (by simp))
  have KL := Lib.hid (fun wx (hb : Below w9.heap.size w9 wx) (v : Value) (hr : RdInts wx v [32]) => liveLost (hQ6.below hb) hfit6 hr (by simp))
  have KR4 := Lib.hid (fun wx (hb : Below w9.heap.size w9 wx) (v : Value) (hr : RdInts wx v [0, 32, 1000 + o0, -1]) => liveReach (hQ6.below hb) hfit6 hr (by simp))
  have KR1 := Lib.hid (fun wx (hb : Below w9.heap.size w9 wx) (v : Value) (hr : RdInts wx v [1000 + o0]) => liveReach (hQ6.below hb) hfit6 hr (by simp))
  rw [hst6, F3.out] at KC
  rw [hst6, F5.out] at KL
  rw [hst6, G1.out] at KR4
  rw [hst6, G2.out] at KR1
  clear hP9 HPH6 hQ6 hst6 hfit6 hu9 hA9 hB8w hS8 KP HST6 HPH5 Q1 Q2
  go_wp2_with fail
  refine (KC.out _ (below_one w9 _) _ (HasSv.made w9 [0] (by simp)).rd).mono ?_
  rintro e w10 ⟨v10, rfl, hv10, hb10⟩
  have hB10 := below_then (below_one w9 _) hb10
  go_wp2_with fail
  refine (helpPlainB (hv10.sv.below (below_one w10 _)) (HasSv.made w10 [0] (by simp)) (by simp [castL])).mono ?_
  rintro e w11 ⟨rfl, hb11⟩
  have hB11 := below_then (hB10.alloc hB10.size _) hb11
  clear hv10 hb10 hb11 hB10
  go_wp2_with fail
  refine (KR4.out _ (hB11.alloc hB11.size _) _ (HasSv.made w11 [0, 32, 1000 + o0, -1] (by simp)).rd).mono ?_
  rintro e w12 ⟨v12, rfl, hv12, hb12⟩
  have hB12 := below_then (hB11.alloc hB11.size _) hb12
  go_wp2_with fail
  refine (helpPlainB (hv12.sv.below (below_one w12 _)) (HasSv.made w12 [0] (by simp)) (by simp [castL])).mono ?_
  rintro e w13 ⟨rfl, hb13⟩
  have hB13 := below_then (hB12.alloc hB12.size _) hb13
  clear hv12 hb12 hb13 hB12 hB11
  go_wp2_with fail
  refine (KR1.out _ (hB13.alloc hB13.size _) _ (HasSv.made w13 [1000 + o0] (by simp)).rd).mono ?_
  rintro e w14 ⟨v14, rfl, hv14, hb14⟩
  obtain ⟨a14, c14, rfl⟩ := hv14.ofLen (n := 0) rfl
  have hB14 := below_then (hB13.alloc hB13.size _) hb14
  clear hv14 hb14 hB13
  go_wp2_with fail
  refine (KL.out _ (hB14.alloc hB14.size _) _ (HasSv.made w14 [32] (by simp)).rd).mono ?_
  rintro e w15 ⟨v15, rfl, hv15, hb15⟩
  have hB15 := below_then (hB14.alloc hB14.size _) hb15
  go_wp2_with fail
  refine (helpPlainB (hv15.sv.below (below_one w15 _)) (HasSv.made w15 [0] (by simp)) (by simp [castL])).mono ?_
  rintro e w16 ⟨rfl, hb16⟩
  have hB16 := below_then (hB15.alloc hB15.size _) hb16
  clear hv15 hb15 hb16 hB15 hB14
  go_wp2
  go_ret
  exact ⟨rfl, below_then hB9 hB16⟩
end Go.Proofs.Ytccaegiceneegaa
