/- The law LiveParts: it returns true, and turns nothing that was there. The conditions: ops and numbers lie in memory and fit. -/
import Derived.Test.YtccaegiceneegaaPartsD
import Derived.Test.YtccaegiceneegaaRArenaD
import Derived.Test.YtccaegiceneegaaLiveNone
namespace Go.Proofs.Ytccaegiceneegaa
open Go.RowKit

theorem HasSv.isSlice {w : World} {v : Value} {xs : List Int} (h : HasSv w v xs) : ∃ a n c, v = .slice a n c := by
  rcases h with ⟨_, h⟩ | ⟨g, off, cap, h, _⟩
  · exact ⟨_, _, _, h⟩
  · exact ⟨_, _, _, h⟩
theorem pickL_len (all as_ : List Int) : (pickL all as_).length ≤ as_.length := by unfold pickL; split <;> simp
set_option maxRecDepth 1000000 in
set_option maxHeartbeats 2000000 in
theorem liveParts {w : World} {vo : Value} {ops : List Op6} (hops : OpsAt w vo ops) (hof : ∀ o ∈ ops, o.fit) {c1 c2 : Nat} {a1 a2 : Option Addr} {ra rb : List Int} (hra : RdInts w (.slice a1 ra.length c1) ra) (hia : InInts w a1 ra) (hrb : RdInts w (.slice a2 rb.length c2) rb) (hib : InInts w a2 rb) : Calls Try.prog 6 #[vo, .slice a1 ra.length c1, .slice a2 rb.length c2] w fun e w' => e = .returned (.bool true) ∧ Below w.heap.size w w' := by
  have h1 := builtCalls hops hof
  have KAw := Lib.hid (fun w1 => awake22 w1)
  have HRA := Lib.hid hra
  have HRB := Lib.hid hrb
  have HIA := Lib.hid hia
  have HIB := Lib.hid hib
  clear hra hrb hia hib
  go_enter Try.func6, Try.ntmps6
  go_wp2_with fail
  refine h1.mono ?_
  rintro e w1 ⟨O1, O2, ph, pa, ps, br, bl, cm, pl, rh, rra, rs, rc, rl, rw, cb, rg, H, rfl, hT, hph, hst⟩
  have hB1 := hT.B
  go_wp2_with fail
  refine (KAw.out w1).mono ?_
  rintro e w2 ⟨rfl, hb2⟩
  have hB2 := below_then hB1 hb2
  clear h1 hst hph hops hof
  by_cases hsml : ra.length ≤ 30 ∧ rb.length ≤ 30
  case neg =>
    clear hT
    by_cases h30 : ra.length ≤ 30
    · have h31 : ¬ rb.length ≤ 30 := fun h => hsml ⟨h30, h⟩
      go_wp2_with fail
      refine (KAw.out w2).mono ?_
      rintro e w3 ⟨rfl, hb3⟩
      have hB3 := below_then hB2 hb3
      go_wp2
      go_ret
      exact ⟨rfl, hB3⟩
    · go_wp2_with fail
      refine (KAw.out w2).mono ?_
      rintro e w3 ⟨rfl, hb3⟩
      have hB3 := below_then hB2 hb3
      go_wp2
      go_ret
      exact ⟨rfl, hB3⟩
  obtain ⟨h30, h31⟩ := hsml
  have hT2 := hT.below hb2
  have d0 := hT2.R.head.cell (j := 0) rfl
  have hO := Lib.hid (rObjects hT2.R.arena)
  have hsm := hT.P.arena.small
  have hol := arObjs_len H.st
  have HT2 := Lib.hid hT2
  clear hT hT2 hb2 hB1
  go_upto_block 0 with (go_at_call 24; refine hO.out.mono ?_; rintro e w3 ⟨ov, rfl, ho3, hb3⟩; obtain ⟨sa, sn, sc, rfl⟩ := ho3.isSlice)
  have hT3 := HT2.out.below hb3
  have hB3 := below_then hB2 hb3
  have hLc : (castL (arObjs H.st)).length ≤ 4096 := by rw [castL_len]; omega
  clear hB2 hO hb3 HT2 d0
  have hin1 : InInts w3 a1 ra := fun hn => by
    obtain ⟨b, h1, h2, h3⟩ := HIA.out hn
    exact ⟨b, h1, Nat.lt_of_lt_of_le h2 hB3.size, fun j x hx => (hB3.cell (by unfold Addr.add; split <;> exact h2)).trans (h3 j x hx)⟩
  refine wp_then ?_
  refine lpX a1 c1 ra hin1 h30 _ _ _ hLc ho3 ?_
  intros
  rename_i vx w4 hx4 hb4
  clear hin1
  have hB4 := below_then hB3 hb4
  have hT4 := hT3.below hb4
  have ho4 := ho3.below hb4
  have hx4s := hx4.sv
  clear hT3 ho3 hx4 hb4 hB3
  go_upto_block 2 with (fail)
  have hin2 : InInts w4 a2 rb := fun hn => by
    obtain ⟨b, h1, h2, h3⟩ := HIB.out hn
    exact ⟨b, h1, Nat.lt_of_lt_of_le h2 hB4.size, fun j x hx => (hB4.cell (by unfold Addr.add; split <;> exact h2)).trans (h3 j x hx)⟩
  refine wp_then ?_
  refine lpY a2 c2 rb hin2 h31 _ _ _ hLc ho4 ?_
  intros
  rename_i vy w5 hy5 hb5
  clear hin2
  have hB5 := below_then hB4 hb5
  have hT5 := hT4.below hb5
  have ho5 := ho4.below hb5
  have hx5 := hx4s.below hb5
  have hy5s := hy5.sv
  have hxl := Nat.le_trans (pickL_len (castL (arObjs H.st)) ra) h30
  have hyl := Nat.le_trans (pickL_len (castL (arObjs H.st)) rb) h31
  clear hT4 ho4 hx4s hy5 hb5 hB4
  generalize pickL (castL (arObjs H.st)) ra = X at *
  generalize pickL (castL (arObjs H.st)) rb = Y at *
  obtain ⟨xa, xn, xc, rfl⟩ := hx5.isSlice
  obtain ⟨ya, yn, yc, rfl⟩ := hy5s.isSlice
  have LX : X.length ≤ 100000 := by omega
  have LY : Y.length ≤ 100000 := by omega
  have LXY : (X ++ Y).length ≤ 100000 := by simp; omega
  have KX := Lib.hid (fun wx (hb : Below w5.heap.size w5 wx) => liveReach (hT5.P.below hb) hT5.fit (hx5.below hb).rd LX)
  have KY := Lib.hid (fun wx (hb : Below w5.heap.size w5 wx) => liveReach (hT5.P.below hb) hT5.fit (hy5s.below hb).rd LY)
  have KL := Lib.hid (fun wx (hb : Below w5.heap.size w5 wx) => liveLost (hT5.P.below hb) hT5.fit (hx5.below hb).rd LX)
  have KB := Lib.hid (fun wx (hb : Below w5.heap.size w5 wx) (v : Value) (hv : RdInts wx v (X ++ Y)) => liveReach (hT5.P.below hb) hT5.fit hv LXY)
  have KN := Lib.hid (fun wx (hb : Below w5.heap.size w5 wx) => liveReach (hT5.P.below hb) hT5.fit (rd_nil wx) (by simp))
  have hRL := reachL_len H.st X
  have KI := Lib.hid (fun wx (hb : Below w5.heap.size w5 wx) (v : Value) (hv : RdInts wx v (castL (reachL H.st X))) => liveReach (hT5.P.below hb) hT5.fit hv (by rw [castL_len]; omega))
  rw [reachL_nil] at KN
  rw [reachL_idem] at KI
  have SX := Lib.hid (fun wx (hb : Below w5.heap.size w5 wx) => (hx5.below hb).rd _ (Below.refl _ _))
  have SY := Lib.hid (fun wx (hb : Below w5.heap.size w5 wx) => (hy5s.below hb).rd _ (Below.refl _ _))
  have LS := Lib.hid (And.intro hxl hyl)
  have HS5 := Lib.hid (And.intro hT5 (And.intro hx5 hy5s))
  clear hT5 hx5 hy5s
  go_wp2_with fail
  refine (KX.out _ (Below.refl _ _)).mono ?_
  rintro e w6 ⟨vp, rfl, hp6, hb6⟩
  go_wp2_with fail
  refine (KY.out _ hb6).mono ?_
  rintro e w7 ⟨vq, rfl, hq7, hb7⟩
  have hB7 := below_then hb6 hb7
  have hp7 := hp6.sv.below hb7
  have hlx : ([] : List Int).length + X.length ≤ 1000000000 := by simp; omega
  have hlxy : ([] ++ X : List Int).length + Y.length ≤ 1000000000 := by simp; omega
  clear hp6 hb6 hb7
  go_wp2_with (at_builtin; refine wpList_append_sv _ rfl _ _ 22 Try.underlying22 rfl (fun _ => False) _ [] rfl (IntSv.nil _ _) _ X rfl (SX.out _ hB7) hlx ?_)
  intro v8 w8 hv8 hu8 hz8
  have hB8 := Upd.belowOf hB7 hu8 (fun k hk => hk.elim) (by simp)
  have hB78 := Upd.belowOf (Below.refl w7.heap.size w7) hu8 (fun k hk => hk.elim) (by simp)
  have hxy : RdInts w8 (.slice ya yn yc) Y := (HS5.out.2.2.below hB8).rd
  clear hu8 hz8
  go_wp2_with (at_builtin; refine wpList_append_sv _ rfl _ _ 22 Try.underlying22 rfl (fun k => k = w7.heap.size) _ X rfl hv8 _ Y rfl (SY.out _ hB8) hlxy ?_)
  intro v9 w9 hv9 hu9 hz9
  have hB79 := Upd.belowOf hB78 hu9 (fun k hk => by subst hk; exact Nat.le_refl _) (by simp)
  have hB9 := below_then hB7 hB79
  have hr9 : RdInts w9 v9 (X ++ Y) := hv9.rd
  have hp9 := hp7.below hB79
  have hq9 := hq7.sv.below hB79
  clear hu9 hz9 hv8 hv9 hp7 hq7 hB78 hB79 hB8 hB7 hxy
  go_wp2_with fail
  refine (KB.out _ hB9 _ hr9).mono ?_
  rintro e w10 ⟨vb, rfl, hb10, hbb⟩
  have hB10 := below_then hB9 hbb
  have hp10 := hp9.below hbb
  have hq10 := hq9.below hbb
  clear hp9 hq9 hr9
  go_wp2_with fail
  refine (KL.out _ hB10).mono ?_
  rintro e w11 ⟨vl, rfl, hl11, hbl⟩
  have hB11 := below_then hB10 hbl
  have hp11 := hp10.below hbl
  have hq11 := hq10.below hbl
  have hb11 := hb10.sv.below hbl
  have hl11s := hl11.sv
  clear hp10 hq10 hb10 hl11 hbb hbl
  have hLen : ∀ r, (castL (reachL H.st r)).length ≤ 100000 := fun r => by rw [castL_len]; have := reachL_len H.st r; omega
  have hLen2 : (castL (lostL H.st X)).length ≤ 100000 := by rw [castL_len]; have := Nat.le_trans (List.length_filter_le (fun p => !rchB H.st X p) (arObjs H.st)) (arObjs_len H.st); unfold lostL; omega
  have ho11 := ho5.below hB11
  have hol2 : (arObjs H.st).length ≤ 4096 := by omega
  have IP := Lib.hid (show ∀ wx, Below w11.heap.size w11 wx → ∀ o ∈ arObjs H.st, Calls Try.prog 50 #[vp, .int .i64 (o : Int)] wx fun e w' => e = .returned (.bool (rchB H.st X o)) ∧ wx = w' from fun wx hb o ho => by
    have h := helpIn (hp11.below hb) (hLen X) (o : Int)
    rwa [mem_reach ho] at h)
  have IQ := Lib.hid (show ∀ wx, Below w11.heap.size w11 wx → ∀ o ∈ arObjs H.st, Calls Try.prog 50 #[vq, .int .i64 (o : Int)] wx fun e w' => e = .returned (.bool (rchB H.st Y o)) ∧ wx = w' from fun wx hb o ho => by
    have h := helpIn (hq11.below hb) (hLen Y) (o : Int)
    rwa [mem_reach ho] at h)
  have IB := Lib.hid (show ∀ wx, Below w11.heap.size w11 wx → ∀ o ∈ arObjs H.st, Calls Try.prog 50 #[vb, .int .i64 (o : Int)] wx fun e w' => e = .returned (.bool (rchB H.st X o || rchB H.st Y o)) ∧ wx = w' from fun wx hb o ho => by
    have h := helpIn (hb11.below hb) (hLen (X ++ Y)) (o : Int)
    rwa [mem_reach ho, rchB_app] at h)
  have IL := Lib.hid (show ∀ wx, Below w11.heap.size w11 wx → ∀ o ∈ arObjs H.st, Calls Try.prog 50 #[vl, .int .i64 (o : Int)] wx fun e w' => e = .returned (.bool (!rchB H.st X o)) ∧ wx = w' from fun wx hb o ho => by
    have h := helpIn (hl11s.below hb) hLen2 (o : Int)
    rwa [mem_lost ho] at h)
  have LP := Lib.hid (hLen X)
  clear hb11 hl11s hq11 hLen hLen2 hB10 hB9
  go_upto_block 4 with (fail)
  refine wp_then ?_
  refine lpAllG _ _ (arObjs H.st) hol2 ho11 vp vq vb vl (rchB H.st X) (rchB H.st Y) IP IQ IB IL ?_
  intros
  rename_i w12 hb12
  have hB12 := below_then hB11 hb12
  have hp12 := hp11.below hb12
  clear IP IQ IB IL ho11 hp11 hb12 hB11
  go_wp2_with fail
  refine (KI.out _ hB12 _ hp12.rd).mono ?_
  rintro e w13 ⟨v13, rfl, h13, hb13⟩
  have hB13 := below_then hB12 hb13
  go_wp2_with fail
  refine (helpPlainB h13.sv (hp12.below hb13) LP.out).mono ?_
  rintro e w14 ⟨rfl, hb14⟩
  have hB14 := below_then hB13 hb14
  clear hp12 h13 hb13 hb14 hB13 hB12
  go_wp2_with fail
  refine (KN.out _ hB14).mono ?_
  rintro e w15 ⟨v15, rfl, h15, hb15⟩
  obtain ⟨a15, c15, rfl⟩ := h15.ofLen (n := 0) rfl
  have hB15 := below_then hB5 (below_then hB14 hb15)
  clear h15 hb15 hB14
  have N1 := Lib.hid (fun wx (hb : Below w.heap.size w wx) => liveReach_nil (HRA.out.below hb) (by omega))
  have N2 := Lib.hid (fun wx (hb : Below w.heap.size w wx) => liveLost_nil (HRA.out.below hb) (by omega))
  have N3 := Lib.hid (fun wx (hb : Below w.heap.size w wx) => liveBroken_nil (HRA.out.below hb) (by omega))
  go_wp2_with fail
  refine (N1.out _ hB15).mono ?_
  rintro e w16 ⟨rfl, hb16⟩
  have hB16 := below_then hB15 hb16
  go_wp2_with fail
  refine (N2.out _ hB16).mono ?_
  rintro e w17 ⟨rfl, hb17⟩
  have hB17 := below_then hB16 hb17
  go_wp2_with fail
  refine (N3.out _ hB17).mono ?_
  rintro e w18 ⟨rfl, hb18⟩
  have hB18 := below_then hB17 hb18
  go_wp2
  go_ret
  exact ⟨rfl, hB18⟩
end Go.Proofs.Ytccaegiceneegaa
