/- The law LiveParts: its loops, whatever slice all objects lie in. No conditions. -/
import Derived.Test.YtccaegiceneegaaPartsC
namespace Go.Proofs.Ytccaegiceneegaa
open Go.RowKit

noncomputable def lpXCode : Code := Code.sub (Try.f6.body.getD .skip) [1, 1, 1, 1, 1, 0, 1]
set_option maxRecDepth 1000000 in
set_option maxHeartbeats 2000000 in
theorem lpX {w : World} (a1 : Option Addr) (cap1 : Nat) (as_ : List Int) (hin : InInts w a1 as_) (hn : as_.length ≤ 30) (B : Nat) (va : Value) (all : List Int) (hl2 : all.length ≤ 4096) (hs : IntSl w B va all)
    {u0 u2 u3 u4 u5 u6 u7 u8 u11 u13 u14 u15 u16 u17 u18 u19 u20 u21 u22 u23 u24 u25 u26 u27 u28 u29 u30 u31 u32 u33 u34 u35 u36 u37 u38 u39 u40 u41 u42 u43 u44 u45 u46 u47 u48 u49 u50 u51 u52 u53 u54 u55 u56 u57 u58 u59 u60 u61 u62 u63 u64 u65 u66 u67 u68 u69 u70 u71 u72 u73 u74 u75 u76 u77 u78 u79 u80 u81 u82 u83 u84 u85 u86 u87 u88 u89 u90 u91 u92 u93 u94 u95 u96 u97 u98 u99 u100 u101 u102 u103 u104 u105 u106 u107 u108 u109 u110 u111 u112 u113 u114 u115 u116 u117 u118 u119 u120 u121 u122 u123 u124 u125 u126 u127 u128 u129 u130 u131 u132 u133 u134 u135 u136 u137 u138 u139 u140 u141 u142 u143 u144 u145 u146 u147 u148 u149 u150 u151 u152 u153 u154 u155 u156 u157 u158 u159 u160 u161 u162 u163 u164 u165 u166 u167 u168 u169 u170 u171 u172 u173 u174 u175 u176 u177 u178 u179 u180 u181 u182 u183 u184 u185 u186 u187 u188 u189 : Value} {K : Act → World → Prop} {Q : Exit → Act → World → Prop}
    (hPost : ∀ (x12 x50 x51 x52 x53 x54 x55 x56 x57 x58 x59 x60 x61 x62 x63 x64 x65 x66 x67 x68 x69 x70 x71 x72 x73 x74 x75 x76 : Value) (v : Value) (wx : World), IntSv wx (newIn w) v (pickL all as_) → Below w.heap.size w wx → K ⟨#[u0, (.slice a1 as_.length cap1), u2, u3, u4, u5, u6, u7, u8, (va), (v), u11, x12, u13, u14, u15, u16, u17, u18, u19, u20, u21, u22, u23, u24, u25, u26, u27, u28, u29, u30, u31, u32, u33, u34, u35, u36, u37, u38, u39, u40, u41, u42, u43, u44, u45, u46, u47, u48, u49, x50, x51, x52, x53, x54, x55, x56, x57, x58, x59, x60, x61, x62, x63, x64, x65, x66, x67, x68, x69, x70, x71, x72, x73, x74, x75, x76, u77, u78, u79, u80, u81, u82, u83, u84, u85, u86, u87, u88, u89, u90, u91, u92, u93, u94, u95, u96, u97, u98, u99, u100, u101, u102, u103, u104, u105, u106, u107, u108, u109, u110, u111, u112, u113, u114, u115, u116, u117, u118, u119, u120, u121, u122, u123, u124, u125, u126, u127, u128, u129, u130, u131, u132, u133, u134, u135, u136, u137, u138, u139, u140, u141, u142, u143, u144, u145, u146, u147, u148, u149, u150, u151, u152, u153, u154, u155, u156, u157, u158, u159, u160, u161, u162, u163, u164, u165, u166, u167, u168, u169, u170, u171, u172, u173, u174, u175, u176, u177, u178, u179, u180, u181, u182, u183, u184, u185, u186, u187, u188, u189], []⟩ wx) :
    Code.wp Try.prog lpXCode (Exit.then K Q) ⟨#[u0, (.slice a1 as_.length cap1), u2, u3, u4, u5, u6, u7, u8, (va), (.slice none 0 0), u11, (.int .i64 0), u13, u14, u15, u16, u17, u18, u19, u20, u21, u22, u23, u24, u25, u26, u27, u28, u29, u30, u31, u32, u33, u34, u35, u36, u37, u38, u39, u40, u41, u42, u43, u44, u45, u46, u47, u48, u49, u50, u51, u52, u53, u54, u55, u56, u57, u58, u59, u60, u61, u62, u63, u64, u65, u66, u67, u68, u69, u70, u71, u72, u73, u74, u75, u76, u77, u78, u79, u80, u81, u82, u83, u84, u85, u86, u87, u88, u89, u90, u91, u92, u93, u94, u95, u96, u97, u98, u99, u100, u101, u102, u103, u104, u105, u106, u107, u108, u109, u110, u111, u112, u113, u114, u115, u116, u117, u118, u119, u120, u121, u122, u123, u124, u125, u126, u127, u128, u129, u130, u131, u132, u133, u134, u135, u136, u137, u138, u139, u140, u141, u142, u143, u144, u145, u146, u147, u148, u149, u150, u151, u152, u153, u154, u155, u156, u157, u158, u159, u160, u161, u162, u163, u164, u165, u166, u167, u168, u169, u170, u171, u172, u173, u174, u175, u176, u177, u178, u179, u180, u181, u182, u183, u184, u185, u186, u187, u188, u189], []⟩ w := by
  conv => arg 2; whnf
  rcases hs.shape with ⟨e1, rfl⟩ | ⟨g, cap2, rfl, hg, hgc, hgm, hgA⟩
  · subst e1
    refine lpXe a1 _ _ _ _ ?_
    intros
    rename_i wx hw
    subst hw
    apply hPost
    · exact IntSv.nil _ _
    · exact Below.refl _ _
  · unfold maxLen at hgm
    by_cases h0 : 0 < all.length
    · rw [pickL_map h0] at hPost
      refine lpXy a1 cap1 as_ hin hn g cap2 all h0 hl2 hgc (by omega) hgA.lt hgA ?_
      intros
      rename_i v wx h1 h2
      apply hPost
      · exact h1
      · exact h2
    · obtain rfl : all = [] := List.eq_nil_of_length_eq_zero (by omega)
      refine lpXe a1 _ _ _ _ ?_
      intros
      rename_i wx hw
      subst hw
      apply hPost
      · exact IntSv.nil _ _
      · exact Below.refl _ _

noncomputable def lpYCode : Code := Code.sub (Try.f6.body.getD .skip) [1, 1, 1, 1, 1, 1, 0, 1]
set_option maxRecDepth 1000000 in
set_option maxHeartbeats 2000000 in
theorem lpY {w : World} (a1 : Option Addr) (cap1 : Nat) (as_ : List Int) (hin : InInts w a1 as_) (hn : as_.length ≤ 30) (B : Nat) (va : Value) (all : List Int) (hl2 : all.length ≤ 4096) (hs : IntSl w B va all)
    {u0 u1 u3 u4 u5 u6 u7 u8 u10 u12 u14 u15 u16 u17 u18 u19 u20 u21 u22 u23 u24 u25 u26 u27 u28 u29 u30 u31 u32 u33 u34 u35 u36 u37 u38 u39 u40 u41 u42 u43 u44 u45 u46 u47 u48 u49 u50 u51 u52 u53 u54 u55 u56 u57 u58 u59 u60 u61 u62 u63 u64 u65 u66 u67 u68 u69 u70 u71 u72 u73 u74 u75 u76 u77 u78 u79 u80 u81 u82 u83 u84 u85 u86 u87 u88 u89 u90 u91 u92 u93 u94 u95 u96 u97 u98 u99 u100 u101 u102 u103 u104 u105 u106 u107 u108 u109 u110 u111 u112 u113 u114 u115 u116 u117 u118 u119 u120 u121 u122 u123 u124 u125 u126 u127 u128 u129 u130 u131 u132 u133 u134 u135 u136 u137 u138 u139 u140 u141 u142 u143 u144 u145 u146 u147 u148 u149 u150 u151 u152 u153 u154 u155 u156 u157 u158 u159 u160 u161 u162 u163 u164 u165 u166 u167 u168 u169 u170 u171 u172 u173 u174 u175 u176 u177 u178 u179 u180 u181 u182 u183 u184 u185 u186 u187 u188 u189 : Value} {K : Act → World → Prop} {Q : Exit → Act → World → Prop}
    (hPost : ∀ (x13 x77 x78 x79 x80 x81 x82 x83 x84 x85 x86 x87 x88 x89 x90 x91 x92 x93 x94 x95 x96 x97 x98 x99 x100 x101 x102 x103 : Value) (v : Value) (wx : World), IntSv wx (newIn w) v (pickL all as_) → Below w.heap.size w wx → K ⟨#[u0, u1, (.slice a1 as_.length cap1), u3, u4, u5, u6, u7, u8, (va), u10, (v), u12, x13, u14, u15, u16, u17, u18, u19, u20, u21, u22, u23, u24, u25, u26, u27, u28, u29, u30, u31, u32, u33, u34, u35, u36, u37, u38, u39, u40, u41, u42, u43, u44, u45, u46, u47, u48, u49, u50, u51, u52, u53, u54, u55, u56, u57, u58, u59, u60, u61, u62, u63, u64, u65, u66, u67, u68, u69, u70, u71, u72, u73, u74, u75, u76, x77, x78, x79, x80, x81, x82, x83, x84, x85, x86, x87, x88, x89, x90, x91, x92, x93, x94, x95, x96, x97, x98, x99, x100, x101, x102, x103, u104, u105, u106, u107, u108, u109, u110, u111, u112, u113, u114, u115, u116, u117, u118, u119, u120, u121, u122, u123, u124, u125, u126, u127, u128, u129, u130, u131, u132, u133, u134, u135, u136, u137, u138, u139, u140, u141, u142, u143, u144, u145, u146, u147, u148, u149, u150, u151, u152, u153, u154, u155, u156, u157, u158, u159, u160, u161, u162, u163, u164, u165, u166, u167, u168, u169, u170, u171, u172, u173, u174, u175, u176, u177, u178, u179, u180, u181, u182, u183, u184, u185, u186, u187, u188, u189], []⟩ wx) :
    Code.wp Try.prog lpYCode (Exit.then K Q) ⟨#[u0, u1, (.slice a1 as_.length cap1), u3, u4, u5, u6, u7, u8, (va), u10, (.slice none 0 0), u12, (.int .i64 0), u14, u15, u16, u17, u18, u19, u20, u21, u22, u23, u24, u25, u26, u27, u28, u29, u30, u31, u32, u33, u34, u35, u36, u37, u38, u39, u40, u41, u42, u43, u44, u45, u46, u47, u48, u49, u50, u51, u52, u53, u54, u55, u56, u57, u58, u59, u60, u61, u62, u63, u64, u65, u66, u67, u68, u69, u70, u71, u72, u73, u74, u75, u76, u77, u78, u79, u80, u81, u82, u83, u84, u85, u86, u87, u88, u89, u90, u91, u92, u93, u94, u95, u96, u97, u98, u99, u100, u101, u102, u103, u104, u105, u106, u107, u108, u109, u110, u111, u112, u113, u114, u115, u116, u117, u118, u119, u120, u121, u122, u123, u124, u125, u126, u127, u128, u129, u130, u131, u132, u133, u134, u135, u136, u137, u138, u139, u140, u141, u142, u143, u144, u145, u146, u147, u148, u149, u150, u151, u152, u153, u154, u155, u156, u157, u158, u159, u160, u161, u162, u163, u164, u165, u166, u167, u168, u169, u170, u171, u172, u173, u174, u175, u176, u177, u178, u179, u180, u181, u182, u183, u184, u185, u186, u187, u188, u189], []⟩ w := by
  conv => arg 2; whnf
  rcases hs.shape with ⟨e1, rfl⟩ | ⟨g, cap2, rfl, hg, hgc, hgm, hgA⟩
  · subst e1
    refine lpYe a1 _ _ _ _ ?_
    intros
    rename_i wx hw
    subst hw
    apply hPost
    · exact IntSv.nil _ _
    · exact Below.refl _ _
  · unfold maxLen at hgm
    by_cases h0 : 0 < all.length
    · rw [pickL_map h0] at hPost
      refine lpYy a1 cap1 as_ hin hn g cap2 all h0 hl2 hgc (by omega) hgA.lt hgA ?_
      intros
      rename_i v wx h1 h2
      apply hPost
      · exact h1
      · exact h2
    · obtain rfl : all = [] := List.eq_nil_of_length_eq_zero (by omega)
      refine lpYe a1 _ _ _ _ ?_
      intros
      rename_i wx hw
      subst hw
      apply hPost
      · exact IntSv.nil _ _
      · exact Below.refl _ _

noncomputable def lpAllECode : Code := Code.sub (Try.f6.body.getD .skip) [1, 1, 1, 1, 1, 1, 1, 1, 1, 1, 0, 1]
set_option maxRecDepth 1000000 in
set_option maxHeartbeats 2000000 in
theorem lpAllE {w : World} (o : Option Addr) (c0 : Nat)
    {u0 u1 u2 u3 u4 u5 u6 u7 u8 u10 u11 u12 u13 u14 u15 u16 u17 u19 u20 u21 u22 u23 u24 u25 u26 u27 u28 u29 u30 u31 u32 u33 u34 u35 u36 u37 u38 u39 u40 u41 u42 u43 u44 u45 u46 u47 u48 u49 u50 u51 u52 u53 u54 u55 u56 u57 u58 u59 u60 u61 u62 u63 u64 u65 u66 u67 u68 u69 u70 u71 u72 u73 u74 u75 u76 u77 u78 u79 u80 u81 u82 u83 u84 u85 u86 u87 u88 u89 u90 u91 u92 u93 u94 u95 u96 u97 u98 u99 u100 u101 u102 u103 u104 u105 u106 u107 u108 u109 u110 u111 u112 u113 u114 u115 u116 u117 u118 u119 u120 u121 u122 u123 u124 u125 u126 u127 u128 u129 u130 u131 u132 u133 u134 u135 u136 u137 u138 u139 u140 u141 u142 u143 u144 u145 u146 u147 u148 u149 u150 u151 u152 u153 u154 u155 u156 u157 u158 u159 u160 u161 u162 u163 u164 u165 u166 u167 u168 u169 u170 u171 u172 u173 u174 u175 u176 u177 u178 u179 u180 u181 u182 u183 u184 u185 u186 u187 u188 u189 : Value} {K : Act → World → Prop} {Q : Exit → Act → World → Prop}
    (hPost : ∀ (x6 x18 x119 x120 x121 x122 x123 x124 x125 x126 x127 x128 x129 x130 x131 x132 x133 x134 x135 x136 x137 x138 x139 x140 x141 x142 x143 x144 x145 x146 x147 x148 x149 x150 x151 x152 x153 x154 x155 x156 x157 x158 x159 x160 : Value) (wx : World), wx = w → K ⟨#[u0, u1, u2, u3, u4, u5, x6, u7, u8, (.slice o 0 c0), u10, u11, u12, u13, u14, u15, u16, u17, x18, u19, u20, u21, u22, u23, u24, u25, u26, u27, u28, u29, u30, u31, u32, u33, u34, u35, u36, u37, u38, u39, u40, u41, u42, u43, u44, u45, u46, u47, u48, u49, u50, u51, u52, u53, u54, u55, u56, u57, u58, u59, u60, u61, u62, u63, u64, u65, u66, u67, u68, u69, u70, u71, u72, u73, u74, u75, u76, u77, u78, u79, u80, u81, u82, u83, u84, u85, u86, u87, u88, u89, u90, u91, u92, u93, u94, u95, u96, u97, u98, u99, u100, u101, u102, u103, u104, u105, u106, u107, u108, u109, u110, u111, u112, u113, u114, u115, u116, u117, u118, x119, x120, x121, x122, x123, x124, x125, x126, x127, x128, x129, x130, x131, x132, x133, x134, x135, x136, x137, x138, x139, x140, x141, x142, x143, x144, x145, x146, x147, x148, x149, x150, x151, x152, x153, x154, x155, x156, x157, x158, x159, x160, u161, u162, u163, u164, u165, u166, u167, u168, u169, u170, u171, u172, u173, u174, u175, u176, u177, u178, u179, u180, u181, u182, u183, u184, u185, u186, u187, u188, u189], []⟩ wx) :
    Code.wp Try.prog lpAllECode (Exit.then K Q) ⟨#[u0, u1, u2, u3, u4, u5, u6, u7, u8, (.slice o 0 c0), u10, u11, u12, u13, u14, u15, u16, u17, (.int .i64 0), u19, u20, u21, u22, u23, u24, u25, u26, u27, u28, u29, u30, u31, u32, u33, u34, u35, u36, u37, u38, u39, u40, u41, u42, u43, u44, u45, u46, u47, u48, u49, u50, u51, u52, u53, u54, u55, u56, u57, u58, u59, u60, u61, u62, u63, u64, u65, u66, u67, u68, u69, u70, u71, u72, u73, u74, u75, u76, u77, u78, u79, u80, u81, u82, u83, u84, u85, u86, u87, u88, u89, u90, u91, u92, u93, u94, u95, u96, u97, u98, u99, u100, u101, u102, u103, u104, u105, u106, u107, u108, u109, u110, u111, u112, u113, u114, u115, u116, u117, u118, u119, u120, u121, u122, u123, u124, u125, u126, u127, u128, u129, u130, u131, u132, u133, u134, u135, u136, u137, u138, u139, u140, u141, u142, u143, u144, u145, u146, u147, u148, u149, u150, u151, u152, u153, u154, u155, u156, u157, u158, u159, u160, u161, u162, u163, u164, u165, u166, u167, u168, u169, u170, u171, u172, u173, u174, u175, u176, u177, u178, u179, u180, u181, u182, u183, u184, u185, u186, u187, u188, u189], []⟩ w := by
  conv => arg 2; whnf
  conv => arg 4; dsimp only
  go_wp2
  go_loopw [18] (fun j wr => j = .int .i64 0 ∧ wr = w) (fun _ _ => 0)
  case atStart => exact ⟨rfl, rfl⟩
  case round =>
    obtain ⟨rfl, rfl⟩ := hrel
    go_wp2
    rfl
noncomputable def lpAllGCode : Code := Code.sub (Try.f6.body.getD .skip) [1, 1, 1, 1, 1, 1, 1, 1, 1, 1, 0, 1]
set_option maxRecDepth 1000000 in
set_option maxHeartbeats 2000000 in
theorem lpAllG {w : World} (B : Nat) (va : Value) (objs : List Nat) (hl2 : objs.length ≤ 4096) (hs : IntSl w B va (castL objs)) (vp vq vb vl : Value) (fx fy : Nat → Bool) (hp : Hid (∀ wx, Below w.heap.size w wx → ∀ o ∈ objs, Calls Try.prog 50 #[vp, .int .i64 (o : Int)] wx fun e w' => e = .returned (.bool (fx o)) ∧ wx = w')) (hq : Hid (∀ wx, Below w.heap.size w wx → ∀ o ∈ objs, Calls Try.prog 50 #[vq, .int .i64 (o : Int)] wx fun e w' => e = .returned (.bool (fy o)) ∧ wx = w')) (hb : Hid (∀ wx, Below w.heap.size w wx → ∀ o ∈ objs, Calls Try.prog 50 #[vb, .int .i64 (o : Int)] wx fun e w' => e = .returned (.bool (fx o || fy o)) ∧ wx = w')) (hlo : Hid (∀ wx, Below w.heap.size w wx → ∀ o ∈ objs, Calls Try.prog 50 #[vl, .int .i64 (o : Int)] wx fun e w' => e = .returned (.bool (!fx o)) ∧ wx = w'))
    {u0 u1 u2 u3 u4 u5 u6 u7 u8 u10 u11 u12 u13 u19 u20 u21 u22 u23 u24 u25 u26 u27 u28 u29 u30 u31 u32 u33 u34 u35 u36 u37 u38 u39 u40 u41 u42 u43 u44 u45 u46 u47 u48 u49 u50 u51 u52 u53 u54 u55 u56 u57 u58 u59 u60 u61 u62 u63 u64 u65 u66 u67 u68 u69 u70 u71 u72 u73 u74 u75 u76 u77 u78 u79 u80 u81 u82 u83 u84 u85 u86 u87 u88 u89 u90 u91 u92 u93 u94 u95 u96 u97 u98 u99 u100 u101 u102 u103 u104 u105 u106 u107 u108 u109 u110 u111 u112 u113 u114 u115 u116 u117 u118 u119 u120 u121 u122 u123 u124 u125 u126 u127 u128 u129 u130 u131 u132 u133 u134 u135 u136 u137 u138 u139 u140 u141 u142 u143 u144 u145 u146 u147 u148 u149 u150 u151 u152 u153 u154 u155 u156 u157 u158 u159 u160 u161 u162 u163 u164 u165 u166 u167 u168 u169 u170 u171 u172 u173 u174 u175 u176 u177 u178 u179 u180 u181 u182 u183 u184 u185 u186 u187 u188 u189 : Value} {K : Act → World → Prop} {Q : Exit → Act → World → Prop}
    (hPost : ∀ (x6 x18 x119 x120 x121 x122 x123 x124 x125 x126 x127 x128 x129 x130 x131 x132 x133 x134 x135 x136 x137 x138 x139 x140 x141 x142 x143 x144 x145 x146 x147 x148 x149 x150 x151 x152 x153 x154 x155 x156 x157 x158 x159 x160 : Value) (wx : World), Below w.heap.size w wx → K ⟨#[u0, u1, u2, u3, u4, u5, x6, u7, u8, (va), u10, u11, u12, u13, (vp), (vq), (vb), (vl), x18, u19, u20, u21, u22, u23, u24, u25, u26, u27, u28, u29, u30, u31, u32, u33, u34, u35, u36, u37, u38, u39, u40, u41, u42, u43, u44, u45, u46, u47, u48, u49, u50, u51, u52, u53, u54, u55, u56, u57, u58, u59, u60, u61, u62, u63, u64, u65, u66, u67, u68, u69, u70, u71, u72, u73, u74, u75, u76, u77, u78, u79, u80, u81, u82, u83, u84, u85, u86, u87, u88, u89, u90, u91, u92, u93, u94, u95, u96, u97, u98, u99, u100, u101, u102, u103, u104, u105, u106, u107, u108, u109, u110, u111, u112, u113, u114, u115, u116, u117, u118, x119, x120, x121, x122, x123, x124, x125, x126, x127, x128, x129, x130, x131, x132, x133, x134, x135, x136, x137, x138, x139, x140, x141, x142, x143, x144, x145, x146, x147, x148, x149, x150, x151, x152, x153, x154, x155, x156, x157, x158, x159, x160, u161, u162, u163, u164, u165, u166, u167, u168, u169, u170, u171, u172, u173, u174, u175, u176, u177, u178, u179, u180, u181, u182, u183, u184, u185, u186, u187, u188, u189], []⟩ wx) :
    Code.wp Try.prog lpAllGCode (Exit.then K Q) ⟨#[u0, u1, u2, u3, u4, u5, u6, u7, u8, (va), u10, u11, u12, u13, (vp), (vq), (vb), (vl), (.int .i64 0), u19, u20, u21, u22, u23, u24, u25, u26, u27, u28, u29, u30, u31, u32, u33, u34, u35, u36, u37, u38, u39, u40, u41, u42, u43, u44, u45, u46, u47, u48, u49, u50, u51, u52, u53, u54, u55, u56, u57, u58, u59, u60, u61, u62, u63, u64, u65, u66, u67, u68, u69, u70, u71, u72, u73, u74, u75, u76, u77, u78, u79, u80, u81, u82, u83, u84, u85, u86, u87, u88, u89, u90, u91, u92, u93, u94, u95, u96, u97, u98, u99, u100, u101, u102, u103, u104, u105, u106, u107, u108, u109, u110, u111, u112, u113, u114, u115, u116, u117, u118, u119, u120, u121, u122, u123, u124, u125, u126, u127, u128, u129, u130, u131, u132, u133, u134, u135, u136, u137, u138, u139, u140, u141, u142, u143, u144, u145, u146, u147, u148, u149, u150, u151, u152, u153, u154, u155, u156, u157, u158, u159, u160, u161, u162, u163, u164, u165, u166, u167, u168, u169, u170, u171, u172, u173, u174, u175, u176, u177, u178, u179, u180, u181, u182, u183, u184, u185, u186, u187, u188, u189], []⟩ w := by
  conv => arg 2; whnf
  rcases hs.shape with ⟨e1, rfl⟩ | ⟨g, cap2, rfl, hg, hgc, hgm, hgA⟩
  · refine lpAllE _ _ ?_
    intros
    rename_i wx hw
    subst hw
    apply hPost
    exact Below.refl _ _
  · unfold maxLen at hgm
    have e := castL_len objs
    rw [e] at hgc hPost ⊢
    refine lpAll g cap2 objs hl2 hgc (by omega) hgA vp vq vb vl fx fy hp hq hb hlo ?_
    intros
    rename_i wx hw
    apply hPost
    exact hw
end Go.Proofs.Ytccaegiceneegaa
