/- The law LiveParts: its two loops that pick. No conditions. -/
import Derived.Test.YtccaegiceneegaaParts
namespace Go.Proofs.Ytccaegiceneegaa
open Go.RowKit

def pickL (all as_ : List Int) : List Int := if all.length = 0 then [] else as_.map (pickI all)
theorem pickL_zero (as_ : List Int) : pickL [] as_ = [] := rfl
theorem pickL_map {all : List Int} (h : 0 < all.length) (as_ : List Int) : pickL all as_ = as_.map (pickI all) := by unfold pickL; rw [if_neg (by omega)]
theorem map_take_succ {α β : Type} (f : α → β) {l : List α} {m : Nat} (h : m < l.length) : (l.take (m + 1)).map f = (l.take m).map f ++ [f l[m]] := by
  rw [List.take_succ_eq_append_getElem h, List.map_append]; rfl

noncomputable def lpXeCode : Code := Code.sub (Try.f6.body.getD .skip) [1, 1, 1, 1, 1, 0, 1]
set_option maxRecDepth 1000000 in
set_option maxHeartbeats 2000000 in
theorem lpXe {w : World} (a1 : Option Addr) (n cap1 : Nat) (o : Option Addr) (c0 : Nat)
    {u0 u2 u3 u4 u5 u6 u7 u8 u11 u13 u14 u15 u16 u17 u18 u19 u20 u21 u22 u23 u24 u25 u26 u27 u28 u29 u30 u31 u32 u33 u34 u35 u36 u37 u38 u39 u40 u41 u42 u43 u44 u45 u46 u47 u48 u49 u50 u51 u52 u53 u54 u55 u56 u57 u58 u59 u60 u61 u62 u63 u64 u65 u66 u67 u68 u69 u70 u71 u72 u73 u74 u75 u76 u77 u78 u79 u80 u81 u82 u83 u84 u85 u86 u87 u88 u89 u90 u91 u92 u93 u94 u95 u96 u97 u98 u99 u100 u101 u102 u103 u104 u105 u106 u107 u108 u109 u110 u111 u112 u113 u114 u115 u116 u117 u118 u119 u120 u121 u122 u123 u124 u125 u126 u127 u128 u129 u130 u131 u132 u133 u134 u135 u136 u137 u138 u139 u140 u141 u142 u143 u144 u145 u146 u147 u148 u149 u150 u151 u152 u153 u154 u155 u156 u157 u158 u159 u160 u161 u162 u163 u164 u165 u166 u167 u168 u169 u170 u171 u172 u173 u174 u175 u176 u177 u178 u179 u180 u181 u182 u183 u184 u185 u186 u187 u188 u189 : Value} {K : Act → World → Prop} {Q : Exit → Act → World → Prop}
    (hPost : ∀ (x12 x50 x51 x52 x53 x54 x55 x56 x57 x58 x59 x60 x61 x62 x63 x64 x65 x66 x67 x68 x69 x70 x71 x72 x73 x74 x75 x76 : Value) (wx : World), wx = w → K ⟨#[u0, (.slice a1 n cap1), u2, u3, u4, u5, u6, u7, u8, (.slice o 0 c0), (.slice none 0 0), u11, x12, u13, u14, u15, u16, u17, u18, u19, u20, u21, u22, u23, u24, u25, u26, u27, u28, u29, u30, u31, u32, u33, u34, u35, u36, u37, u38, u39, u40, u41, u42, u43, u44, u45, u46, u47, u48, u49, x50, x51, x52, x53, x54, x55, x56, x57, x58, x59, x60, x61, x62, x63, x64, x65, x66, x67, x68, x69, x70, x71, x72, x73, x74, x75, x76, u77, u78, u79, u80, u81, u82, u83, u84, u85, u86, u87, u88, u89, u90, u91, u92, u93, u94, u95, u96, u97, u98, u99, u100, u101, u102, u103, u104, u105, u106, u107, u108, u109, u110, u111, u112, u113, u114, u115, u116, u117, u118, u119, u120, u121, u122, u123, u124, u125, u126, u127, u128, u129, u130, u131, u132, u133, u134, u135, u136, u137, u138, u139, u140, u141, u142, u143, u144, u145, u146, u147, u148, u149, u150, u151, u152, u153, u154, u155, u156, u157, u158, u159, u160, u161, u162, u163, u164, u165, u166, u167, u168, u169, u170, u171, u172, u173, u174, u175, u176, u177, u178, u179, u180, u181, u182, u183, u184, u185, u186, u187, u188, u189], []⟩ wx) :
    Code.wp Try.prog lpXeCode (Exit.then K Q) ⟨#[u0, (.slice a1 n cap1), u2, u3, u4, u5, u6, u7, u8, (.slice o 0 c0), (.slice none 0 0), u11, (.int .i64 0), u13, u14, u15, u16, u17, u18, u19, u20, u21, u22, u23, u24, u25, u26, u27, u28, u29, u30, u31, u32, u33, u34, u35, u36, u37, u38, u39, u40, u41, u42, u43, u44, u45, u46, u47, u48, u49, u50, u51, u52, u53, u54, u55, u56, u57, u58, u59, u60, u61, u62, u63, u64, u65, u66, u67, u68, u69, u70, u71, u72, u73, u74, u75, u76, u77, u78, u79, u80, u81, u82, u83, u84, u85, u86, u87, u88, u89, u90, u91, u92, u93, u94, u95, u96, u97, u98, u99, u100, u101, u102, u103, u104, u105, u106, u107, u108, u109, u110, u111, u112, u113, u114, u115, u116, u117, u118, u119, u120, u121, u122, u123, u124, u125, u126, u127, u128, u129, u130, u131, u132, u133, u134, u135, u136, u137, u138, u139, u140, u141, u142, u143, u144, u145, u146, u147, u148, u149, u150, u151, u152, u153, u154, u155, u156, u157, u158, u159, u160, u161, u162, u163, u164, u165, u166, u167, u168, u169, u170, u171, u172, u173, u174, u175, u176, u177, u178, u179, u180, u181, u182, u183, u184, u185, u186, u187, u188, u189], []⟩ w := by
  conv => arg 2; whnf
  conv => arg 4; dsimp only
  go_wp2
  go_loopw [10, 12] (fun l j wr => l = .slice none 0 0 ∧ j = .int .i64 0 ∧ wr = w) (fun _ _ _ => 0)
  case atStart => exact ⟨rfl, rfl, rfl⟩
  case round =>
    obtain ⟨rfl, rfl, rfl⟩ := hrel
    by_cases h : (0 : Int) < (n : Int)
    · go_wp2
      rfl
    · go_wp2
      rfl
noncomputable def lpXyCode : Code := Code.sub (Try.f6.body.getD .skip) [1, 1, 1, 1, 1, 0, 1]
set_option maxRecDepth 1000000 in
set_option maxHeartbeats 2000000 in
theorem lpXy {w : World} (a1 : Option Addr) (cap1 : Nat) (as_ : List Int) (hin : InInts w a1 as_) (hn : as_.length ≤ 30) (g c2 : Nat) (all : List Int) (hl : 0 < all.length) (hl2 : all.length ≤ 4096) (_hc1 : all.length ≤ c2) (_hc2 : c2 ≤ 9223372036854775807) (_hg : g < w.heap.size) (hA : Arr w g 3 (ints all))
    {u0 u2 u3 u4 u5 u6 u7 u8 u11 u13 u14 u15 u16 u17 u18 u19 u20 u21 u22 u23 u24 u25 u26 u27 u28 u29 u30 u31 u32 u33 u34 u35 u36 u37 u38 u39 u40 u41 u42 u43 u44 u45 u46 u47 u48 u49 u50 u51 u52 u53 u54 u55 u56 u57 u58 u59 u60 u61 u62 u63 u64 u65 u66 u67 u68 u69 u70 u71 u72 u73 u74 u75 u76 u77 u78 u79 u80 u81 u82 u83 u84 u85 u86 u87 u88 u89 u90 u91 u92 u93 u94 u95 u96 u97 u98 u99 u100 u101 u102 u103 u104 u105 u106 u107 u108 u109 u110 u111 u112 u113 u114 u115 u116 u117 u118 u119 u120 u121 u122 u123 u124 u125 u126 u127 u128 u129 u130 u131 u132 u133 u134 u135 u136 u137 u138 u139 u140 u141 u142 u143 u144 u145 u146 u147 u148 u149 u150 u151 u152 u153 u154 u155 u156 u157 u158 u159 u160 u161 u162 u163 u164 u165 u166 u167 u168 u169 u170 u171 u172 u173 u174 u175 u176 u177 u178 u179 u180 u181 u182 u183 u184 u185 u186 u187 u188 u189 : Value} {K : Act → World → Prop} {Q : Exit → Act → World → Prop}
    (hPost : ∀ (x12 x50 x51 x52 x53 x54 x55 x56 x57 x58 x59 x60 x61 x62 x63 x64 x65 x66 x67 x68 x69 x70 x71 x72 x73 x74 x75 x76 : Value) (v : Value) (wx : World), IntSv wx (newIn w) v (as_.map (pickI all)) → Below w.heap.size w wx → K ⟨#[u0, (.slice a1 as_.length cap1), u2, u3, u4, u5, u6, u7, u8, (.slice (some ⟨g, 0, none⟩) all.length c2), (v), u11, x12, u13, u14, u15, u16, u17, u18, u19, u20, u21, u22, u23, u24, u25, u26, u27, u28, u29, u30, u31, u32, u33, u34, u35, u36, u37, u38, u39, u40, u41, u42, u43, u44, u45, u46, u47, u48, u49, x50, x51, x52, x53, x54, x55, x56, x57, x58, x59, x60, x61, x62, x63, x64, x65, x66, x67, x68, x69, x70, x71, x72, x73, x74, x75, x76, u77, u78, u79, u80, u81, u82, u83, u84, u85, u86, u87, u88, u89, u90, u91, u92, u93, u94, u95, u96, u97, u98, u99, u100, u101, u102, u103, u104, u105, u106, u107, u108, u109, u110, u111, u112, u113, u114, u115, u116, u117, u118, u119, u120, u121, u122, u123, u124, u125, u126, u127, u128, u129, u130, u131, u132, u133, u134, u135, u136, u137, u138, u139, u140, u141, u142, u143, u144, u145, u146, u147, u148, u149, u150, u151, u152, u153, u154, u155, u156, u157, u158, u159, u160, u161, u162, u163, u164, u165, u166, u167, u168, u169, u170, u171, u172, u173, u174, u175, u176, u177, u178, u179, u180, u181, u182, u183, u184, u185, u186, u187, u188, u189], []⟩ wx) :
    Code.wp Try.prog lpXyCode (Exit.then K Q) ⟨#[u0, (.slice a1 as_.length cap1), u2, u3, u4, u5, u6, u7, u8, (.slice (some ⟨g, 0, none⟩) all.length c2), (.slice none 0 0), u11, (.int .i64 0), u13, u14, u15, u16, u17, u18, u19, u20, u21, u22, u23, u24, u25, u26, u27, u28, u29, u30, u31, u32, u33, u34, u35, u36, u37, u38, u39, u40, u41, u42, u43, u44, u45, u46, u47, u48, u49, u50, u51, u52, u53, u54, u55, u56, u57, u58, u59, u60, u61, u62, u63, u64, u65, u66, u67, u68, u69, u70, u71, u72, u73, u74, u75, u76, u77, u78, u79, u80, u81, u82, u83, u84, u85, u86, u87, u88, u89, u90, u91, u92, u93, u94, u95, u96, u97, u98, u99, u100, u101, u102, u103, u104, u105, u106, u107, u108, u109, u110, u111, u112, u113, u114, u115, u116, u117, u118, u119, u120, u121, u122, u123, u124, u125, u126, u127, u128, u129, u130, u131, u132, u133, u134, u135, u136, u137, u138, u139, u140, u141, u142, u143, u144, u145, u146, u147, u148, u149, u150, u151, u152, u153, u154, u155, u156, u157, u158, u159, u160, u161, u162, u163, u164, u165, u166, u167, u168, u169, u170, u171, u172, u173, u174, u175, u176, u177, u178, u179, u180, u181, u182, u183, u184, u185, u186, u187, u188, u189], []⟩ w := by
  conv => arg 2; whnf
  conv => arg 4; dsimp only
  go_wp2
  go_loopw [10, 12] (fun l j wr => ∃ m : Nat, m ≤ as_.length ∧ j = .int .i64 m ∧ IntSv wr (newIn w) l ((as_.take m).map (pickI all)) ∧ Below w.heap.size w wr) (fun _ j _ => as_.length - (intOf j).toNat)
  case atStart => exact ⟨0, by omega, rfl, IntSv.nil _ _, Below.refl _ _⟩
  case round =>
    obtain ⟨m, hm, rfl, hown, hbr⟩ := hrel
    by_cases hlt : m < as_.length
    · have hsc := map_take_succ (pickI all) hlt
      have hxl : ((as_.take m).map (pickI all)).length ≤ 30 := by simp; omega
      obtain ⟨b, rfl, hb, hcb⟩ := hin (by intro e; rw [e] at hlt; simp at hlt)
      have hca := hcb m _ (List.getElem?_eq_getElem hlt)
      have hcw : wr.cell? (b.add m) = some (.int .i64 as_[m]) := (hbr.cell (by unfold Addr.add; split <;> exact hb)).trans hca
      generalize (as_.take m).map (pickI all) = xs at *
      generalize as_[m] = t at *
      obtain ⟨r, hr, hre, hp⟩ := pickI_mem hl hl2 t
      have hcx := (hA.belowAll hbr).cell (j := r) (v := .int .i64 (pickI all t)) (by simp [ints, hp])
      generalize pickI all t = p at *
      have HSC := Lib.hid hsc
      clear hsc hcb hca hp hin
      have hb6 := hbr.alloc hbr.size (.cells #[.int .i64 p] 3)
      have hown6 := hown.below ((Below.refl _ _).alloc (Nat.le_refl _) (.cells #[.int .i64 p] 3))
      have hc6 := (Arr.made wr 3 [.int .i64 p]).cell (j := 0) rfl
      have i1 : (0 : Int) ≤ (m : Int) := by omega
      have i2 : (m : Int) < (as_.length : Int) := by omega
      have i3 : (0 : Int) < (all.length : Int) := by omega
      have i4 : (all.length : Int) ≠ 0 := by omega
      have i5 : (r : Int) < (all.length : Int) := by omega
      have i6 : (0 : Int) ≤ (r : Int) := by omega
      have iw : IntKind.u64.wrap (all.length : Int) = (all.length : Int) := by simp [IntKind.wrap, IntKind.signed, IntKind.bits]; omega
      have hlen6 : xs.length + 1 ≤ 1000000000 := by omega
      clear hown
      go_wp2_with (at_builtin; refine wpList_append_sv _ rfl _ _ 22 Try.underlying22 rfl (newIn w) _ _ rfl hown6 _ [(p : Int)] rfl (src_one _ p hc6 Try.underlying22) hlen6 ?_)
      intro v' w7 hown7 hu7 hz7
      have hb7 := Upd.belowOf hb6 hu7 (fun k hk => hk) (by simp)
      have hz6 := hbr.size
      have hown8 := hown7.mono (O' := newIn w) (fun k hk => hk.elim (fun h => h) (fun h => by subst h; simp [newIn]; omega))
      clear hown7 hu7 hz7 hown6 hc6
      go_wp2
      go_roundw
      case rel => exact ⟨m + 1, by omega, by go_num, by rw [HSC.out]; exact hown8, hb7⟩
      case measure => simp [intOf]; omega
    · obtain rfl : m = as_.length := by omega
      rw [List.take_length] at hown
      have i2 : ¬ ((as_.length : Int) < (as_.length : Int)) := by omega
      go_wp2
      apply hPost
      · exact hown
      · exact hbr

noncomputable def lpYeCode : Code := Code.sub (Try.f6.body.getD .skip) [1, 1, 1, 1, 1, 1, 0, 1]
set_option maxRecDepth 1000000 in
set_option maxHeartbeats 2000000 in
theorem lpYe {w : World} (a1 : Option Addr) (n cap1 : Nat) (o : Option Addr) (c0 : Nat)
    {u0 u1 u3 u4 u5 u6 u7 u8 u10 u12 u14 u15 u16 u17 u18 u19 u20 u21 u22 u23 u24 u25 u26 u27 u28 u29 u30 u31 u32 u33 u34 u35 u36 u37 u38 u39 u40 u41 u42 u43 u44 u45 u46 u47 u48 u49 u50 u51 u52 u53 u54 u55 u56 u57 u58 u59 u60 u61 u62 u63 u64 u65 u66 u67 u68 u69 u70 u71 u72 u73 u74 u75 u76 u77 u78 u79 u80 u81 u82 u83 u84 u85 u86 u87 u88 u89 u90 u91 u92 u93 u94 u95 u96 u97 u98 u99 u100 u101 u102 u103 u104 u105 u106 u107 u108 u109 u110 u111 u112 u113 u114 u115 u116 u117 u118 u119 u120 u121 u122 u123 u124 u125 u126 u127 u128 u129 u130 u131 u132 u133 u134 u135 u136 u137 u138 u139 u140 u141 u142 u143 u144 u145 u146 u147 u148 u149 u150 u151 u152 u153 u154 u155 u156 u157 u158 u159 u160 u161 u162 u163 u164 u165 u166 u167 u168 u169 u170 u171 u172 u173 u174 u175 u176 u177 u178 u179 u180 u181 u182 u183 u184 u185 u186 u187 u188 u189 : Value} {K : Act → World → Prop} {Q : Exit → Act → World → Prop}
    (hPost : ∀ (x13 x77 x78 x79 x80 x81 x82 x83 x84 x85 x86 x87 x88 x89 x90 x91 x92 x93 x94 x95 x96 x97 x98 x99 x100 x101 x102 x103 : Value) (wx : World), wx = w → K ⟨#[u0, u1, (.slice a1 n cap1), u3, u4, u5, u6, u7, u8, (.slice o 0 c0), u10, (.slice none 0 0), u12, x13, u14, u15, u16, u17, u18, u19, u20, u21, u22, u23, u24, u25, u26, u27, u28, u29, u30, u31, u32, u33, u34, u35, u36, u37, u38, u39, u40, u41, u42, u43, u44, u45, u46, u47, u48, u49, u50, u51, u52, u53, u54, u55, u56, u57, u58, u59, u60, u61, u62, u63, u64, u65, u66, u67, u68, u69, u70, u71, u72, u73, u74, u75, u76, x77, x78, x79, x80, x81, x82, x83, x84, x85, x86, x87, x88, x89, x90, x91, x92, x93, x94, x95, x96, x97, x98, x99, x100, x101, x102, x103, u104, u105, u106, u107, u108, u109, u110, u111, u112, u113, u114, u115, u116, u117, u118, u119, u120, u121, u122, u123, u124, u125, u126, u127, u128, u129, u130, u131, u132, u133, u134, u135, u136, u137, u138, u139, u140, u141, u142, u143, u144, u145, u146, u147, u148, u149, u150, u151, u152, u153, u154, u155, u156, u157, u158, u159, u160, u161, u162, u163, u164, u165, u166, u167, u168, u169, u170, u171, u172, u173, u174, u175, u176, u177, u178, u179, u180, u181, u182, u183, u184, u185, u186, u187, u188, u189], []⟩ wx) :
    Code.wp Try.prog lpYeCode (Exit.then K Q) ⟨#[u0, u1, (.slice a1 n cap1), u3, u4, u5, u6, u7, u8, (.slice o 0 c0), u10, (.slice none 0 0), u12, (.int .i64 0), u14, u15, u16, u17, u18, u19, u20, u21, u22, u23, u24, u25, u26, u27, u28, u29, u30, u31, u32, u33, u34, u35, u36, u37, u38, u39, u40, u41, u42, u43, u44, u45, u46, u47, u48, u49, u50, u51, u52, u53, u54, u55, u56, u57, u58, u59, u60, u61, u62, u63, u64, u65, u66, u67, u68, u69, u70, u71, u72, u73, u74, u75, u76, u77, u78, u79, u80, u81, u82, u83, u84, u85, u86, u87, u88, u89, u90, u91, u92, u93, u94, u95, u96, u97, u98, u99, u100, u101, u102, u103, u104, u105, u106, u107, u108, u109, u110, u111, u112, u113, u114, u115, u116, u117, u118, u119, u120, u121, u122, u123, u124, u125, u126, u127, u128, u129, u130, u131, u132, u133, u134, u135, u136, u137, u138, u139, u140, u141, u142, u143, u144, u145, u146, u147, u148, u149, u150, u151, u152, u153, u154, u155, u156, u157, u158, u159, u160, u161, u162, u163, u164, u165, u166, u167, u168, u169, u170, u171, u172, u173, u174, u175, u176, u177, u178, u179, u180, u181, u182, u183, u184, u185, u186, u187, u188, u189], []⟩ w := by
  conv => arg 2; whnf
  conv => arg 4; dsimp only
  go_wp2
  go_loopw [11, 13] (fun l j wr => l = .slice none 0 0 ∧ j = .int .i64 0 ∧ wr = w) (fun _ _ _ => 0)
  case atStart => exact ⟨rfl, rfl, rfl⟩
  case round =>
    obtain ⟨rfl, rfl, rfl⟩ := hrel
    by_cases h : (0 : Int) < (n : Int)
    · go_wp2
      rfl
    · go_wp2
      rfl
noncomputable def lpYyCode : Code := Code.sub (Try.f6.body.getD .skip) [1, 1, 1, 1, 1, 1, 0, 1]
set_option maxRecDepth 1000000 in
set_option maxHeartbeats 2000000 in
theorem lpYy {w : World} (a1 : Option Addr) (cap1 : Nat) (as_ : List Int) (hin : InInts w a1 as_) (hn : as_.length ≤ 30) (g c2 : Nat) (all : List Int) (hl : 0 < all.length) (hl2 : all.length ≤ 4096) (_hc1 : all.length ≤ c2) (_hc2 : c2 ≤ 9223372036854775807) (_hg : g < w.heap.size) (hA : Arr w g 3 (ints all))
    {u0 u1 u3 u4 u5 u6 u7 u8 u10 u12 u14 u15 u16 u17 u18 u19 u20 u21 u22 u23 u24 u25 u26 u27 u28 u29 u30 u31 u32 u33 u34 u35 u36 u37 u38 u39 u40 u41 u42 u43 u44 u45 u46 u47 u48 u49 u50 u51 u52 u53 u54 u55 u56 u57 u58 u59 u60 u61 u62 u63 u64 u65 u66 u67 u68 u69 u70 u71 u72 u73 u74 u75 u76 u77 u78 u79 u80 u81 u82 u83 u84 u85 u86 u87 u88 u89 u90 u91 u92 u93 u94 u95 u96 u97 u98 u99 u100 u101 u102 u103 u104 u105 u106 u107 u108 u109 u110 u111 u112 u113 u114 u115 u116 u117 u118 u119 u120 u121 u122 u123 u124 u125 u126 u127 u128 u129 u130 u131 u132 u133 u134 u135 u136 u137 u138 u139 u140 u141 u142 u143 u144 u145 u146 u147 u148 u149 u150 u151 u152 u153 u154 u155 u156 u157 u158 u159 u160 u161 u162 u163 u164 u165 u166 u167 u168 u169 u170 u171 u172 u173 u174 u175 u176 u177 u178 u179 u180 u181 u182 u183 u184 u185 u186 u187 u188 u189 : Value} {K : Act → World → Prop} {Q : Exit → Act → World → Prop}
    (hPost : ∀ (x13 x77 x78 x79 x80 x81 x82 x83 x84 x85 x86 x87 x88 x89 x90 x91 x92 x93 x94 x95 x96 x97 x98 x99 x100 x101 x102 x103 : Value) (v : Value) (wx : World), IntSv wx (newIn w) v (as_.map (pickI all)) → Below w.heap.size w wx → K ⟨#[u0, u1, (.slice a1 as_.length cap1), u3, u4, u5, u6, u7, u8, (.slice (some ⟨g, 0, none⟩) all.length c2), u10, (v), u12, x13, u14, u15, u16, u17, u18, u19, u20, u21, u22, u23, u24, u25, u26, u27, u28, u29, u30, u31, u32, u33, u34, u35, u36, u37, u38, u39, u40, u41, u42, u43, u44, u45, u46, u47, u48, u49, u50, u51, u52, u53, u54, u55, u56, u57, u58, u59, u60, u61, u62, u63, u64, u65, u66, u67, u68, u69, u70, u71, u72, u73, u74, u75, u76, x77, x78, x79, x80, x81, x82, x83, x84, x85, x86, x87, x88, x89, x90, x91, x92, x93, x94, x95, x96, x97, x98, x99, x100, x101, x102, x103, u104, u105, u106, u107, u108, u109, u110, u111, u112, u113, u114, u115, u116, u117, u118, u119, u120, u121, u122, u123, u124, u125, u126, u127, u128, u129, u130, u131, u132, u133, u134, u135, u136, u137, u138, u139, u140, u141, u142, u143, u144, u145, u146, u147, u148, u149, u150, u151, u152, u153, u154, u155, u156, u157, u158, u159, u160, u161, u162, u163, u164, u165, u166, u167, u168, u169, u170, u171, u172, u173, u174, u175, u176, u177, u178, u179, u180, u181, u182, u183, u184, u185, u186, u187, u188, u189], []⟩ wx) :
    Code.wp Try.prog lpYyCode (Exit.then K Q) ⟨#[u0, u1, (.slice a1 as_.length cap1), u3, u4, u5, u6, u7, u8, (.slice (some ⟨g, 0, none⟩) all.length c2), u10, (.slice none 0 0), u12, (.int .i64 0), u14, u15, u16, u17, u18, u19, u20, u21, u22, u23, u24, u25, u26, u27, u28, u29, u30, u31, u32, u33, u34, u35, u36, u37, u38, u39, u40, u41, u42, u43, u44, u45, u46, u47, u48, u49, u50, u51, u52, u53, u54, u55, u56, u57, u58, u59, u60, u61, u62, u63, u64, u65, u66, u67, u68, u69, u70, u71, u72, u73, u74, u75, u76, u77, u78, u79, u80, u81, u82, u83, u84, u85, u86, u87, u88, u89, u90, u91, u92, u93, u94, u95, u96, u97, u98, u99, u100, u101, u102, u103, u104, u105, u106, u107, u108, u109, u110, u111, u112, u113, u114, u115, u116, u117, u118, u119, u120, u121, u122, u123, u124, u125, u126, u127, u128, u129, u130, u131, u132, u133, u134, u135, u136, u137, u138, u139, u140, u141, u142, u143, u144, u145, u146, u147, u148, u149, u150, u151, u152, u153, u154, u155, u156, u157, u158, u159, u160, u161, u162, u163, u164, u165, u166, u167, u168, u169, u170, u171, u172, u173, u174, u175, u176, u177, u178, u179, u180, u181, u182, u183, u184, u185, u186, u187, u188, u189], []⟩ w := by
  conv => arg 2; whnf
  conv => arg 4; dsimp only
  go_wp2
  go_loopw [11, 13] (fun l j wr => ∃ m : Nat, m ≤ as_.length ∧ j = .int .i64 m ∧ IntSv wr (newIn w) l ((as_.take m).map (pickI all)) ∧ Below w.heap.size w wr) (fun _ j _ => as_.length - (intOf j).toNat)
  case atStart => exact ⟨0, by omega, rfl, IntSv.nil _ _, Below.refl _ _⟩
  case round =>
    obtain ⟨m, hm, rfl, hown, hbr⟩ := hrel
    by_cases hlt : m < as_.length
    · have hsc := map_take_succ (pickI all) hlt
      have hxl : ((as_.take m).map (pickI all)).length ≤ 30 := by simp; omega
      obtain ⟨b, rfl, hb, hcb⟩ := hin (by intro e; rw [e] at hlt; simp at hlt)
      have hca := hcb m _ (List.getElem?_eq_getElem hlt)
      have hcw : wr.cell? (b.add m) = some (.int .i64 as_[m]) := (hbr.cell (by unfold Addr.add; split <;> exact hb)).trans hca
      generalize (as_.take m).map (pickI all) = xs at *
      generalize as_[m] = t at *
      obtain ⟨r, hr, hre, hp⟩ := pickI_mem hl hl2 t
      have hcx := (hA.belowAll hbr).cell (j := r) (v := .int .i64 (pickI all t)) (by simp [ints, hp])
      generalize pickI all t = p at *
      have HSC := Lib.hid hsc
      clear hsc hcb hca hp hin
      have hb6 := hbr.alloc hbr.size (.cells #[.int .i64 p] 3)
      have hown6 := hown.below ((Below.refl _ _).alloc (Nat.le_refl _) (.cells #[.int .i64 p] 3))
      have hc6 := (Arr.made wr 3 [.int .i64 p]).cell (j := 0) rfl
      have i1 : (0 : Int) ≤ (m : Int) := by omega
      have i2 : (m : Int) < (as_.length : Int) := by omega
      have i3 : (0 : Int) < (all.length : Int) := by omega
      have i4 : (all.length : Int) ≠ 0 := by omega
      have i5 : (r : Int) < (all.length : Int) := by omega
      have i6 : (0 : Int) ≤ (r : Int) := by omega
      have iw : IntKind.u64.wrap (all.length : Int) = (all.length : Int) := by simp [IntKind.wrap, IntKind.signed, IntKind.bits]; omega
      have hlen6 : xs.length + 1 ≤ 1000000000 := by omega
      clear hown
      go_wp2_with (at_builtin; refine wpList_append_sv _ rfl _ _ 22 Try.underlying22 rfl (newIn w) _ _ rfl hown6 _ [(p : Int)] rfl (src_one _ p hc6 Try.underlying22) hlen6 ?_)
      intro v' w7 hown7 hu7 hz7
      have hb7 := Upd.belowOf hb6 hu7 (fun k hk => hk) (by simp)
      have hz6 := hbr.size
      have hown8 := hown7.mono (O' := newIn w) (fun k hk => hk.elim (fun h => h) (fun h => by subst h; simp [newIn]; omega))
      clear hown7 hu7 hz7 hown6 hc6
      go_wp2
      go_roundw
      case rel => exact ⟨m + 1, by omega, by go_num, by rw [HSC.out]; exact hown8, hb7⟩
      case measure => simp [intOf]; omega
    · obtain rfl : m = as_.length := by omega
      rw [List.take_length] at hown
      have i2 : ¬ ((as_.length : Int) < (as_.length : Int)) := by omega
      go_wp2
      apply hPost
      · exact hown
      · exact hbr
end Go.Proofs.Ytccaegiceneegaa
