/- The law LiveTells: it returns true, and turns nothing that was there. The conditions: the ops lie in memory and fit; the roots lie in memory. -/
import Derived.Test.YtccaegiceneegaaAw22
import Derived.Test.YtccaegiceneegaaHelpB
import Derived.Test.YtccaegiceneegaaRLiveD
namespace Go.Proofs.Ytccaegiceneegaa
open Go.RowKit

set_option maxRecDepth 1000000 in
set_option maxHeartbeats 2000000 in
theorem liveTells {w : World} {vo : Value} {ops : List Op6} (hops : OpsAt w vo ops) (hof : ∀ o ∈ ops, o.fit) {n cap : Nat} {a : Option Addr} {roots : List Int} (hr : RdInts w (.slice a n cap) roots) (hn : roots.length = n) : Calls Try.prog 5 #[vo, .slice a n cap] w fun e w' => e = .returned (.bool true) ∧ Below w.heap.size w w' := by
  have h1 := builtCalls hops hof
  have KAw := Lib.hid (fun w1 => awake22 w1)
  go_enter Try.func5, Try.ntmps5
  go_wp2_with fail
  refine h1.mono ?_
  rintro e w1 ⟨O1, O2, ph, pa, ps, br, bl, cm, pl, rh, ra, rs, rc, rl, rw, cb, rg, H, rfl, hT, hph, hst⟩
  have hB1 := hT.B
  go_wp2_with fail
  refine (KAw.out w1).mono ?_
  rintro e w2 ⟨rfl, hb2⟩
  have hB2 := below_then hB1 hb2
  have hL1 := reachL_len H.st roots
  have hL2 := Nat.le_trans (List.length_filter_le (fun p => !rchB H.st roots p) (arObjs H.st)) (arObjs_len H.st)
  have hL3 := Nat.le_trans (List.length_filter_le (leads H.st) (reachL H.st roots)) hL1
  have hsm := hT.P.arena.small
  by_cases h50 : n ≤ 50
  · have hl : roots.length ≤ 100000 := by omega
    have RD := Lib.hid (fun wx (hb : Below w1.heap.size w1 wx) => hr.below (below_then hB1 hb))
    have K1 := Lib.hid (fun wx (hb : Below w1.heap.size w1 wx) => liveReach (hT.P.below hb) hT.fit (RD.out wx hb) hl)
    have K2 := Lib.hid (fun wx (hb : Below w1.heap.size w1 wx) => liveLost (hT.P.below hb) hT.fit (RD.out wx hb) hl)
    have K3 := Lib.hid (fun wx (hb : Below w1.heap.size w1 wx) => liveBroken (hT.P.below hb) hT.fit (RD.out wx hb) hl)
    have J1 := Lib.hid (fun wx (hb : Below w1.heap.size w1 wx) => rReach (hT.R.below hb) hT.fit (RD.out wx hb) hl)
    have J2 := Lib.hid (fun wx (hb : Below w1.heap.size w1 wx) => rLost (hT.R.below hb) hT.fit (RD.out wx hb) hl)
    have J3 := Lib.hid (fun wx (hb : Below w1.heap.size w1 wx) => rBroken (hT.R.below hb) hT.fit (RD.out wx hb) hl)
    have L1 := Lib.hid (show (castL (reachL H.st roots)).length ≤ 100000 by rw [castL_len]; omega)
    have L2 := Lib.hid (show (castL (lostL H.st roots)).length ≤ 100000 by rw [castL_len]; unfold lostL; omega)
    have L3 := Lib.hid (show (castL (brokenL H.st roots)).length ≤ 100000 by rw [castL_len]; unfold brokenL; omega)
    clear hL1 hL2 hL3 hT hops hof hst hph h1 hr hl hsm
    generalize castL (reachL H.st roots) = A1 at *
    generalize castL (lostL H.st roots) = A2 at *
    generalize castL (brokenL H.st roots) = A3 at *
    go_wp2_with fail
    refine (K1.out _ hb2).mono ?_
    rintro e w3 ⟨v3, rfl, hv3, hb3⟩
    have hB3 := below_then hb2 hb3
    go_wp2_with fail
    refine (J1.out _ hB3).mono ?_
    rintro e w4 ⟨v4, rfl, hv4, hb4⟩
    have hB4 := below_then hB3 hb4
    go_wp2_with fail
    refine (helpPlainB (hv3.sv.below hb4) hv4.sv L1.out).mono ?_
    rintro e w5 ⟨rfl, hb5⟩
    have hB5 := below_then hB4 hb5
    clear hv3 hv4 hb2 hb3 hb4 hb5 hB3 hB4
    go_wp2_with fail
    refine (K2.out _ hB5).mono ?_
    rintro e w3 ⟨v3, rfl, hv3, hb3⟩
    have hB3 := below_then hB5 hb3
    go_wp2_with fail
    refine (J2.out _ hB3).mono ?_
    rintro e w4 ⟨v4, rfl, hv4, hb4⟩
    have hB4 := below_then hB3 hb4
    go_wp2_with fail
    refine (helpPlainB (hv3.sv.below hb4) hv4.sv L2.out).mono ?_
    rintro e w6 ⟨rfl, hb6⟩
    have hB6 := below_then hB4 hb6
    clear hv3 hv4 hb3 hb4 hb6 hB3 hB4 hB5
    go_wp2_with fail
    refine (K3.out _ hB6).mono ?_
    rintro e w3 ⟨v3, rfl, hv3, hb3⟩
    have hB3 := below_then hB6 hb3
    go_wp2_with fail
    refine (J3.out _ hB3).mono ?_
    rintro e w4 ⟨v4, rfl, hv4, hb4⟩
    have hB4 := below_then hB3 hb4
    go_wp2_with fail
    refine (helpPlainB (hv3.sv.below hb4) hv4.sv L3.out).mono ?_
    rintro e w7 ⟨rfl, hb7⟩
    have hB7 := below_then hB1 (below_then hB4 hb7)
    go_wp2
    go_ret
    exact ⟨rfl, hB7⟩
  · clear hL1 hL2 hL3 hT hops hof hst hph h1 hr hsm
    go_wp2_with fail
    refine (KAw.out w2).mono ?_
    rintro e w3 ⟨rfl, hb3⟩
    have hB3 := below_then hB2 hb3
    go_wp2
    go_ret
    exact ⟨rfl, hB3⟩
end Go.Proofs.Ytccaegiceneegaa
