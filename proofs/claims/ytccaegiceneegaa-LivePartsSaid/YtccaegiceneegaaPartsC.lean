/- The law LiveParts: its loop over all objects. No conditions. -/
import Derived.Test.YtccaegiceneegaaPartsB
import Derived.Test.YtccaegiceneegaaHelpB
import Derived.BigQuiet
namespace Go.Proofs.Ytccaegiceneegaa
open Go.RowKit

noncomputable def lpAllCode : Code := Code.sub (Try.f6.body.getD .skip) [1, 1, 1, 1, 1, 1, 1, 1, 1, 1, 0, 1]
set_option maxRecDepth 1000000 in
set_option maxHeartbeats 2000000 in
theorem lpAll {w : World} (g c2 : Nat) (objs : List Nat) (hl2 : objs.length ≤ 4096) (_hc1 : objs.length ≤ c2) (_hc2 : c2 ≤ 9223372036854775807) (hA : Arr w g 3 (ints (castL objs))) (vp vq vb vl : Value) (fx fy : Nat → Bool) (hp : Hid (∀ wx, Below w.heap.size w wx → ∀ o ∈ objs, Calls Try.prog 50 #[vp, .int .i64 (o : Int)] wx fun e w' => e = .returned (.bool (fx o)) ∧ wx = w')) (hq : Hid (∀ wx, Below w.heap.size w wx → ∀ o ∈ objs, Calls Try.prog 50 #[vq, .int .i64 (o : Int)] wx fun e w' => e = .returned (.bool (fy o)) ∧ wx = w')) (hb : Hid (∀ wx, Below w.heap.size w wx → ∀ o ∈ objs, Calls Try.prog 50 #[vb, .int .i64 (o : Int)] wx fun e w' => e = .returned (.bool (fx o || fy o)) ∧ wx = w')) (hlo : Hid (∀ wx, Below w.heap.size w wx → ∀ o ∈ objs, Calls Try.prog 50 #[vl, .int .i64 (o : Int)] wx fun e w' => e = .returned (.bool (!fx o)) ∧ wx = w'))
    {u0 u1 u2 u3 u4 u5 u6 u7 u8 u10 u11 u12 u13 u19 u20 u21 u22 u23 u24 u25 u26 u27 u28 u29 u30 u31 u32 u33 u34 u35 u36 u37 u38 u39 u40 u41 u42 u43 u44 u45 u46 u47 u48 u49 u50 u51 u52 u53 u54 u55 u56 u57 u58 u59 u60 u61 u62 u63 u64 u65 u66 u67 u68 u69 u70 u71 u72 u73 u74 u75 u76 u77 u78 u79 u80 u81 u82 u83 u84 u85 u86 u87 u88 u89 u90 u91 u92 u93 u94 u95 u96 u97 u98 u99 u100 u101 u102 u103 u104 u105 u106 u107 u108 u109 u110 u111 u112 u113 u114 u115 u116 u117 u118 u119 u120 u121 u122 u123 u124 u125 u126 u127 u128 u129 u130 u131 u132 u133 u134 u135 u136 u137 u138 u139 u140 u141 u142 u143 u144 u145 u146 u147 u148 u149 u150 u151 u152 u153 u154 u155 u156 u157 u158 u159 u160 u161 u162 u163 u164 u165 u166 u167 u168 u169 u170 u171 u172 u173 u174 u175 u176 u177 u178 u179 u180 u181 u182 u183 u184 u185 u186 u187 u188 u189 : Value} {K : Act → World → Prop} {Q : Exit → Act → World → Prop}
    (hPost : ∀ (x6 x18 x119 x120 x121 x122 x123 x124 x125 x126 x127 x128 x129 x130 x131 x132 x133 x134 x135 x136 x137 x138 x139 x140 x141 x142 x143 x144 x145 x146 x147 x148 x149 x150 x151 x152 x153 x154 x155 x156 x157 x158 x159 x160 : Value) (wx : World), Below w.heap.size w wx → K ⟨#[u0, u1, u2, u3, u4, u5, x6, u7, u8, (.slice (some ⟨g, 0, none⟩) objs.length c2), u10, u11, u12, u13, (vp), (vq), (vb), (vl), x18, u19, u20, u21, u22, u23, u24, u25, u26, u27, u28, u29, u30, u31, u32, u33, u34, u35, u36, u37, u38, u39, u40, u41, u42, u43, u44, u45, u46, u47, u48, u49, u50, u51, u52, u53, u54, u55, u56, u57, u58, u59, u60, u61, u62, u63, u64, u65, u66, u67, u68, u69, u70, u71, u72, u73, u74, u75, u76, u77, u78, u79, u80, u81, u82, u83, u84, u85, u86, u87, u88, u89, u90, u91, u92, u93, u94, u95, u96, u97, u98, u99, u100, u101, u102, u103, u104, u105, u106, u107, u108, u109, u110, u111, u112, u113, u114, u115, u116, u117, u118, x119, x120, x121, x122, x123, x124, x125, x126, x127, x128, x129, x130, x131, x132, x133, x134, x135, x136, x137, x138, x139, x140, x141, x142, x143, x144, x145, x146, x147, x148, x149, x150, x151, x152, x153, x154, x155, x156, x157, x158, x159, x160, u161, u162, u163, u164, u165, u166, u167, u168, u169, u170, u171, u172, u173, u174, u175, u176, u177, u178, u179, u180, u181, u182, u183, u184, u185, u186, u187, u188, u189], []⟩ wx) :
    Code.wp Try.prog lpAllCode (Exit.then K Q) ⟨#[u0, u1, u2, u3, u4, u5, u6, u7, u8, (.slice (some ⟨g, 0, none⟩) objs.length c2), u10, u11, u12, u13, (vp), (vq), (vb), (vl), (.int .i64 0), u19, u20, u21, u22, u23, u24, u25, u26, u27, u28, u29, u30, u31, u32, u33, u34, u35, u36, u37, u38, u39, u40, u41, u42, u43, u44, u45, u46, u47, u48, u49, u50, u51, u52, u53, u54, u55, u56, u57, u58, u59, u60, u61, u62, u63, u64, u65, u66, u67, u68, u69, u70, u71, u72, u73, u74, u75, u76, u77, u78, u79, u80, u81, u82, u83, u84, u85, u86, u87, u88, u89, u90, u91, u92, u93, u94, u95, u96, u97, u98, u99, u100, u101, u102, u103, u104, u105, u106, u107, u108, u109, u110, u111, u112, u113, u114, u115, u116, u117, u118, u119, u120, u121, u122, u123, u124, u125, u126, u127, u128, u129, u130, u131, u132, u133, u134, u135, u136, u137, u138, u139, u140, u141, u142, u143, u144, u145, u146, u147, u148, u149, u150, u151, u152, u153, u154, u155, u156, u157, u158, u159, u160, u161, u162, u163, u164, u165, u166, u167, u168, u169, u170, u171, u172, u173, u174, u175, u176, u177, u178, u179, u180, u181, u182, u183, u184, u185, u186, u187, u188, u189], []⟩ w := by
  conv => arg 2; whnf
  conv => arg 4; dsimp only
  go_wp2
  go_loopw [18] (fun j wr => ∃ m : Nat, m ≤ objs.length ∧ j = .int .i64 m ∧ Below w.heap.size w wr) (fun j _ => objs.length - (intOf j).toNat)
  case atStart => exact ⟨0, by omega, rfl, Below.refl _ _⟩
  case round =>
    obtain ⟨m, hm, rfl, hbr⟩ := hrel
    by_cases hlt : m < objs.length
    · have hP := Lib.hid (fun n => Calls.quiet_of_same ((hp.out _ (below_drewNs' hbr n) _ (List.getElem_mem hlt)).mono (fun _ _ h => ⟨h.1, h.2.symm⟩)))
      have hQ := Lib.hid (fun n => Calls.quiet_of_same ((hq.out _ (below_drewNs' hbr n) _ (List.getElem_mem hlt)).mono (fun _ _ h => ⟨h.1, h.2.symm⟩)))
      have hB := Lib.hid (fun n => Calls.quiet_of_same ((hb.out _ (below_drewNs' hbr n) _ (List.getElem_mem hlt)).mono (fun _ _ h => ⟨h.1, h.2.symm⟩)))
      have hL := Lib.hid (fun n => Calls.quiet_of_same ((hlo.out _ (below_drewNs' hbr n) _ (List.getElem_mem hlt)).mono (fun _ _ h => ⟨h.1, h.2.symm⟩)))
      have hcx := (hA.belowAll hbr).cell (j := m) (v := .int .i64 (objs[m] : Int)) (by simp [ints, castL, hlt])
      generalize fx objs[m] = bx at *
      generalize fy objs[m] = bY at *
      generalize objs[m] = o at *
      have i2 : (m : Int) < (objs.length : Int) := by omega
      clear hp hq hb hlo
      have hbn := Lib.hid (fun n => below_drewNs' hbr n)
      cases bx <;> cases bY
      all_goals
        go_upto_region 20 with (fail)
        go_quiet (first | (go_at_call 50; with_reducible exact hP.out _) | (go_at_call 50; with_reducible exact hQ.out _) | (go_at_call 50; with_reducible exact hB.out _) | (go_at_call 50; with_reducible exact hL.out _))
        go_wp2
        go_roundw
        case rel => exact ⟨m + 1, by omega, by go_num, hbn.out _⟩
        case measure => simp [intOf]; omega
    · obtain rfl : m = objs.length := by omega
      have i2 : ¬ ((objs.length : Int) < (objs.length : Int)) := by omega
      go_wp2
end Go.Proofs.Ytccaegiceneegaa
