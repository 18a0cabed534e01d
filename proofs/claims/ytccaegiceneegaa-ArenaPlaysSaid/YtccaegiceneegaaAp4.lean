/- The law ArenaPlays: whatever is allotted, freed and stored in both arenas: it returns true, and turns nothing that was there. The condition: the ops lie in memory as a slice of them. -/
import Derived.Test.YtccaegiceneegaaAp1
import Derived.Test.YtccaegiceneegaaAp2
import Derived.Test.YtccaegiceneegaaAp3
namespace Go.Proofs.Ytccaegiceneegaa
open Go.RowKit

noncomputable def apR13Code : Code := Code.sub (Try.f4.body.getD .skip) [1, 1, 1, 1, 1, 0, 1, 0, 0, 1, 0, 0, 1, 1, 1, 0]
set_option maxRecDepth 1000000 in
set_option maxHeartbeats 2000000 in
theorem apR13 {w : World}
    {u0 u1 u2 u3 u4 u5 u6 u7 u8 u9 u10 u11 u12 u13 u14 u15 u16 u17 u18 u19 u20 u21 u22 u23 u24 u25 u26 u27 u28 u29 u30 u31 u32 u33 u34 u35 u36 u37 u38 u39 u40 u41 u42 u43 u44 u45 u46 u47 u48 u49 u50 u51 u52 u53 u54 u55 u56 u57 u58 u59 u60 u61 u62 u63 u64 u65 u66 u67 u68 u69 u70 u71 u72 u73 u74 u75 u76 u77 u78 u79 u80 u81 u82 u83 u84 u85 u86 u87 u88 u89 u90 u91 u92 u93 u94 u95 u96 u97 u98 u99 u100 u101 u102 u103 u104 u105 u106 u107 u108 u109 u110 u111 u112 u113 u114 u115 u116 u117 u118 u119 u120 u121 u122 u123 u124 u125 u126 u127 u128 u129 u130 u131 u132 u133 u134 u135 u136 u137 u138 u139 u140 u141 u142 u143 u144 u145 u146 u147 u148 u149 u150 u151 u152 u153 u154 u155 u156 u157 u158 u159 u160 u161 u162 u163 u164 u165 u166 u167 u168 u169 u170 u171 u172 u173 u174 u175 u176 u177 u178 u179 u180 u181 u182 u183 u184 u185 u186 u187 u188 u189 u190 u191 u192 u193 u194 u195 u196 u197 u198 u199 u200 u201 u202 u203 u204 u205 u206 u207 u208 u209 u210 u211 u212 u213 u214 u215 u216 u217 u218 u219 u220 u221 u222 u223 u224 u225 u226 u227 u228 u229 u230 u231 u232 u233 u234 u235 u236 u237 u238 u239 u240 u241 u242 u243 u244 u245 u246 u247 u248 u249 u250 u251 u252 u253 u254 u255 u256 u257 u258 u259 u260 u261 u262 u263 u264 u265 u266 u267 u268 u269 u270 u271 u272 u273 u274 u275 u276 u277 u278 u279 u280 u281 u282 u283 u284 u285 u286 u287 u288 u289 u290 u291 : Value} {K : Act → World → Prop} {Q : Exit → Act → World → Prop}
    (hPost : ∀  (wx : World), wx = w → K ⟨#[u0, u1, u2, u3, u4, u5, u6, u7, u8, u9, u10, u11, (.bool true), u13, u14, u15, u16, u17, u18, u19, u20, u21, u22, u23, u24, u25, u26, u27, u28, u29, u30, u31, u32, u33, u34, u35, u36, u37, u38, u39, u40, u41, u42, u43, u44, u45, u46, u47, u48, u49, u50, u51, u52, u53, u54, u55, u56, u57, u58, u59, u60, u61, u62, u63, u64, u65, u66, u67, u68, u69, u70, u71, u72, u73, u74, u75, u76, u77, u78, u79, u80, u81, u82, u83, u84, u85, u86, u87, u88, u89, u90, u91, u92, u93, u94, u95, u96, u97, u98, u99, u100, u101, u102, u103, u104, u105, u106, u107, u108, u109, u110, u111, u112, u113, u114, u115, u116, u117, u118, u119, u120, u121, u122, u123, u124, u125, u126, u127, u128, u129, u130, u131, u132, u133, u134, u135, u136, u137, u138, u139, u140, u141, u142, u143, u144, u145, u146, u147, u148, u149, u150, u151, u152, u153, u154, u155, u156, u157, u158, u159, u160, u161, u162, u163, u164, u165, u166, u167, u168, u169, u170, u171, u172, u173, u174, u175, u176, u177, u178, u179, u180, u181, u182, u183, u184, u185, u186, u187, u188, u189, u190, u191, u192, u193, u194, u195, u196, u197, u198, u199, u200, u201, u202, u203, u204, u205, u206, u207, u208, u209, u210, u211, u212, u213, u214, u215, u216, u217, u218, u219, u220, u221, u222, u223, u224, u225, u226, u227, u228, u229, u230, u231, u232, u233, u234, u235, u236, u237, u238, u239, u240, u241, u242, u243, u244, u245, u246, u247, u248, u249, u250, u251, u252, u253, u254, u255, u256, u257, u258, u259, u260, u261, u262, u263, u264, u265, u266, u267, u268, u269, u270, u271, u272, u273, u274, u275, u276, u277, u278, u279, u280, u281, u282, u283, u284, u285, u286, u287, u288, u289, u290, u291], []⟩ wx) :
    Code.wp Try.prog apR13Code (Exit.then K Q) ⟨#[u0, u1, u2, u3, u4, u5, u6, u7, u8, u9, u10, u11, u12, u13, u14, u15, u16, u17, u18, u19, u20, u21, u22, u23, u24, u25, u26, u27, u28, u29, u30, u31, u32, u33, u34, u35, u36, u37, u38, u39, u40, u41, u42, u43, u44, u45, u46, u47, u48, u49, u50, u51, u52, u53, u54, u55, u56, u57, u58, u59, u60, u61, u62, u63, u64, u65, u66, u67, u68, u69, u70, u71, u72, u73, u74, u75, u76, u77, u78, u79, u80, u81, u82, u83, u84, u85, u86, u87, u88, u89, u90, u91, u92, u93, u94, u95, u96, u97, u98, u99, u100, u101, u102, u103, u104, u105, u106, u107, u108, u109, u110, u111, u112, u113, u114, u115, u116, u117, u118, u119, u120, u121, u122, u123, u124, u125, u126, u127, u128, u129, u130, u131, u132, u133, u134, u135, u136, u137, u138, u139, u140, u141, u142, u143, u144, u145, u146, u147, u148, u149, u150, u151, u152, u153, u154, u155, u156, u157, u158, u159, u160, u161, u162, u163, u164, u165, u166, u167, u168, u169, u170, u171, u172, u173, u174, u175, u176, u177, u178, u179, u180, u181, u182, u183, u184, u185, u186, u187, u188, u189, u190, u191, u192, u193, u194, u195, u196, u197, u198, u199, u200, u201, u202, u203, u204, u205, u206, u207, u208, u209, u210, u211, u212, u213, u214, u215, u216, u217, u218, u219, u220, u221, u222, u223, u224, u225, u226, u227, u228, u229, u230, u231, u232, u233, u234, u235, u236, u237, u238, u239, u240, u241, u242, u243, u244, u245, u246, u247, u248, u249, u250, u251, u252, u253, u254, u255, u256, u257, u258, u259, u260, u261, u262, u263, u264, u265, u266, u267, u268, u269, u270, u271, u272, u273, u274, u275, u276, u277, u278, u279, u280, u281, u282, u283, u284, u285, u286, u287, u288, u289, u290, u291], []⟩ w := by
  conv => arg 2; whnf
  go_wp2
  rfl

noncomputable def apR11Code : Code := Code.sub (Try.f4.body.getD .skip) [1, 1, 1, 1, 1, 0, 1, 0, 0, 1, 0, 0, 1, 1, 0]
set_option maxRecDepth 1000000 in
set_option maxHeartbeats 2000000 in
theorem apR11 {w0 w : World} {pa ps br bl ra rs rc rl rw : Nat} {st : Ar} {bx : Nat} {kd k0 n0 t0 j0 v0 : Int} (hR : Rnd w0 w pa ps br bl ra rs rc rl rw st bx kd k0 n0 t0 j0 v0) (B : Nat) (v : Value) (hs : IntSl w B v (castL (arObjs st)))
    {u0 u1 u2 u3 u4 u5 u6 u7 u8 u9 u12 u13 u14 u15 u16 u17 u18 u19 u20 u21 u22 u23 u24 u25 u26 u27 u28 u29 u30 u31 u32 u33 u34 u35 u36 u37 u38 u39 u40 u41 u42 u43 u44 u45 u46 u47 u48 u49 u50 u51 u52 u53 u54 u55 u56 u57 u58 u59 u60 u61 u62 u63 u64 u65 u66 u67 u68 u69 u70 u71 u72 u73 u74 u75 u76 u77 u78 u79 u80 u81 u82 u83 u84 u85 u86 u87 u88 u89 u90 u91 u92 u93 u94 u95 u96 u97 u98 u99 u100 u101 u102 u103 u104 u105 u106 u107 u108 u109 u110 u111 u112 u113 u114 u115 u116 u117 u118 u119 u120 u121 u122 u123 u124 u125 u126 u127 u128 u129 u130 u131 u132 u133 u134 u135 u136 u137 u138 u139 u140 u141 u142 u143 u144 u145 u146 u147 u148 u149 u150 u151 u152 u153 u154 u155 u156 u157 u158 u159 u160 u161 u162 u163 u164 u165 u166 u167 u168 u169 u170 u171 u172 u173 u174 u175 u176 u177 u178 u179 u180 u181 u182 u183 u184 u185 u186 u187 u188 u189 u190 u191 u192 u193 u194 u195 u196 u197 u198 u199 u200 u201 u202 u203 u204 u205 u206 u207 u208 u209 u210 u211 u212 u213 u214 u215 u216 u217 u218 u219 u220 u221 u222 u223 u224 u225 u226 u227 u228 u229 u230 u231 u232 u233 u234 u235 u236 u237 u238 u239 u240 u241 u242 u243 u244 u245 u246 u247 u248 u249 u250 u251 u252 u253 u254 u255 u256 u257 u258 u259 u260 u261 u262 u263 u264 u265 u266 u267 u268 u269 u270 u271 u272 u273 u274 u275 u276 u277 u278 u279 u280 u281 u282 u283 u284 u285 u286 u287 u288 u289 u290 u291 : Value} {K : Act → World → Prop} {Q : Exit → Act → World → Prop}
    (hPost : ∀ (x69 x70 x71 x72 x73 x74 x75 x76 x77 x78 x79 x80 x81 x82 x83 x84 x85 x86 x87 x88 x89 x90 x91 x92 x93 : Value) (t1 : Int) (wx : World), Rnd w0 wx pa ps br bl ra rs rc rl rw st bx kd k0 n0 t1 j0 v0 → True → K ⟨#[u0, u1, u2, u3, u4, u5, u6, u7, u8, u9, (.pointer (some ⟨bx, 0, none⟩)), (v), u12, u13, u14, u15, u16, u17, u18, u19, u20, u21, u22, u23, u24, u25, u26, u27, u28, u29, u30, u31, u32, u33, u34, u35, u36, u37, u38, u39, u40, u41, u42, u43, u44, u45, u46, u47, u48, u49, u50, u51, u52, u53, u54, u55, u56, u57, u58, u59, u60, u61, u62, u63, u64, u65, u66, u67, u68, x69, x70, x71, x72, x73, x74, x75, x76, x77, x78, x79, x80, x81, x82, x83, x84, x85, x86, x87, x88, x89, x90, x91, x92, x93, u94, u95, u96, u97, u98, u99, u100, u101, u102, u103, u104, u105, u106, u107, u108, u109, u110, u111, u112, u113, u114, u115, u116, u117, u118, u119, u120, u121, u122, u123, u124, u125, u126, u127, u128, u129, u130, u131, u132, u133, u134, u135, u136, u137, u138, u139, u140, u141, u142, u143, u144, u145, u146, u147, u148, u149, u150, u151, u152, u153, u154, u155, u156, u157, u158, u159, u160, u161, u162, u163, u164, u165, u166, u167, u168, u169, u170, u171, u172, u173, u174, u175, u176, u177, u178, u179, u180, u181, u182, u183, u184, u185, u186, u187, u188, u189, u190, u191, u192, u193, u194, u195, u196, u197, u198, u199, u200, u201, u202, u203, u204, u205, u206, u207, u208, u209, u210, u211, u212, u213, u214, u215, u216, u217, u218, u219, u220, u221, u222, u223, u224, u225, u226, u227, u228, u229, u230, u231, u232, u233, u234, u235, u236, u237, u238, u239, u240, u241, u242, u243, u244, u245, u246, u247, u248, u249, u250, u251, u252, u253, u254, u255, u256, u257, u258, u259, u260, u261, u262, u263, u264, u265, u266, u267, u268, u269, u270, u271, u272, u273, u274, u275, u276, u277, u278, u279, u280, u281, u282, u283, u284, u285, u286, u287, u288, u289, u290, u291], []⟩ wx) :
    Code.wp Try.prog apR11Code (Exit.then K Q) ⟨#[u0, u1, u2, u3, u4, u5, u6, u7, u8, u9, (.pointer (some ⟨bx, 0, none⟩)), (v), u12, u13, u14, u15, u16, u17, u18, u19, u20, u21, u22, u23, u24, u25, u26, u27, u28, u29, u30, u31, u32, u33, u34, u35, u36, u37, u38, u39, u40, u41, u42, u43, u44, u45, u46, u47, u48, u49, u50, u51, u52, u53, u54, u55, u56, u57, u58, u59, u60, u61, u62, u63, u64, u65, u66, u67, u68, u69, u70, u71, u72, u73, u74, u75, u76, u77, u78, u79, u80, u81, u82, u83, u84, u85, u86, u87, u88, u89, u90, u91, u92, u93, u94, u95, u96, u97, u98, u99, u100, u101, u102, u103, u104, u105, u106, u107, u108, u109, u110, u111, u112, u113, u114, u115, u116, u117, u118, u119, u120, u121, u122, u123, u124, u125, u126, u127, u128, u129, u130, u131, u132, u133, u134, u135, u136, u137, u138, u139, u140, u141, u142, u143, u144, u145, u146, u147, u148, u149, u150, u151, u152, u153, u154, u155, u156, u157, u158, u159, u160, u161, u162, u163, u164, u165, u166, u167, u168, u169, u170, u171, u172, u173, u174, u175, u176, u177, u178, u179, u180, u181, u182, u183, u184, u185, u186, u187, u188, u189, u190, u191, u192, u193, u194, u195, u196, u197, u198, u199, u200, u201, u202, u203, u204, u205, u206, u207, u208, u209, u210, u211, u212, u213, u214, u215, u216, u217, u218, u219, u220, u221, u222, u223, u224, u225, u226, u227, u228, u229, u230, u231, u232, u233, u234, u235, u236, u237, u238, u239, u240, u241, u242, u243, u244, u245, u246, u247, u248, u249, u250, u251, u252, u253, u254, u255, u256, u257, u258, u259, u260, u261, u262, u263, u264, u265, u266, u267, u268, u269, u270, u271, u272, u273, u274, u275, u276, u277, u278, u279, u280, u281, u282, u283, u284, u285, u286, u287, u288, u289, u290, u291], []⟩ w := by
  conv => arg 2; whnf
  have hLc : (castL (arObjs st)).length ≤ 4096 := by have := objsTo_length st st.cells.length; have := hR.T.A.small; simp [castL, arObjs]; omega
  by_cases hk : kd = 3 ∨ kd = 4
  · rcases hs.shape with ⟨e1, rfl⟩ | ⟨g, cap2, rfl, hg, hgc, hgm, hgA⟩
    · refine apR11e hR hk _ _ ?_
      intros
      rename_i wx hw
      subst hw
      exact hPost _ _ _ _ _ _ _ _ _ _ _ _ _ _ _ _ _ _ _ _ _ _ _ _ _ _ _ hR trivial
    · unfold maxLen at hgm
      by_cases h0 : 0 < (castL (arObjs st)).length
      · refine apR11y hR hk g cap2 _ h0 hLc hgc (by omega) hgA ?_
        intros
        rename_i t1 wx hR1 hm
        exact hPost _ _ _ _ _ _ _ _ _ _ _ _ _ _ _ _ _ _ _ _ _ _ _ _ _ _ _ hR1 trivial
      · have e0 : (castL (arObjs st)).length = 0 := by omega
        rw [e0] at hPost ⊢
        refine apR11e hR hk _ _ ?_
        intros
        rename_i wx hw
        subst hw
        exact hPost _ _ _ _ _ _ _ _ _ _ _ _ _ _ _ _ _ _ _ _ _ _ _ _ _ _ _ hR trivial
  · have k3 : (kd == 3) = false := by rw [beq_eq_false_iff_ne]; omega
    have k4 : (kd == 4) = false := by rw [beq_eq_false_iff_ne]; omega
    refine apR11n hR k3 k4 ?_
    intros
    rename_i wx hw
    subst hw
    exact hPost _ _ _ _ _ _ _ _ _ _ _ _ _ _ _ _ _ _ _ _ _ _ _ _ _ _ _ hR trivial

noncomputable def apR14xCode : Code := Code.sub (Try.f4.body.getD .skip) [1, 1, 1, 1, 1, 0, 1, 0, 0, 1, 0, 0, 1, 1, 1, 1, 0]
set_option maxRecDepth 1000000 in
set_option maxHeartbeats 2000000 in
theorem apR14x {w0 w : World} {pa ps br bl ra rs rc rl rw : Nat} {st : Ar} {bx : Nat} {kd k0 n0 t0 j0 v0 : Int} (hR : Rnd w0 w pa ps br bl ra rs rc rl rw st bx kd k0 n0 t0 j0 v0)
    {u0 u1 u2 u3 u4 u6 u8 u9 u11 u12 u13 u14 u15 u16 u17 u18 u19 u20 u21 u22 u23 u24 u25 u26 u27 u28 u29 u30 u31 u32 u33 u34 u35 u36 u37 u38 u39 u40 u41 u42 u43 u44 u45 u46 u47 u48 u49 u50 u51 u52 u53 u54 u55 u56 u57 u58 u59 u60 u61 u62 u63 u64 u65 u66 u67 u68 u69 u70 u71 u72 u73 u74 u75 u76 u77 u78 u79 u80 u81 u82 u83 u84 u85 u86 u87 u88 u89 u90 u91 u92 u93 u94 u95 u96 u97 u98 u99 u100 u101 u102 u103 u104 u105 u106 u107 u108 u109 u110 u111 u112 u113 u114 u115 u116 u117 u118 u119 u120 u121 u122 u123 u124 u125 u126 u127 u128 u129 u130 u131 u132 u133 u134 u135 u136 u137 u138 u139 u140 u141 u142 u143 u144 u145 u146 u147 u148 u149 u150 u151 u152 u153 u154 u155 u156 u157 u158 u159 u160 u161 u162 u163 u164 u165 u166 u167 u168 u169 u170 u171 u172 u173 u174 u175 u176 u177 u178 u179 u180 u181 u182 u183 u184 u185 u186 u187 u188 u189 u190 u191 u192 u193 u194 u195 u196 u197 u198 u199 u200 u201 u202 u203 u204 u205 u206 u207 u208 u209 u210 u211 u212 u213 u214 u215 u216 u217 u218 u219 u220 u221 u222 u223 u224 u225 u226 u227 u228 u229 u230 u231 u232 u233 u234 u235 u236 u237 u238 u239 u240 u241 u242 u243 u244 u245 u246 u247 u248 u249 u250 u251 u252 u253 u254 u255 u256 u257 u258 u259 u260 u261 u262 u263 u264 u265 u266 u267 u268 u269 u270 u271 u272 u273 u274 u275 u276 u277 u278 u279 u280 u281 u282 u283 u284 u285 u286 u287 u288 u289 u290 u291 : Value} {K : Act → World → Prop} {Q : Exit → Act → World → Prop}
    (hPost : ∀ (x13 x14 x15 x16 x94 x95 x96 x97 x98 x99 x100 x101 x102 x103 x104 x105 x106 x107 x108 x109 x110 x111 x112 x113 x114 x115 x116 x117 x118 x119 x120 x121 x122 x123 x124 x125 x126 x127 x128 x129 x130 x131 x132 x133 x134 x135 x136 x137 x138 x139 x140 x141 x142 x143 x144 x145 x146 x147 x148 x149 x150 x151 x152 x153 : Value) (st' : Ar) (wx : World), Rnd w0 wx pa ps br bl ra rs rc rl rw st' bx kd k0 n0 t0 j0 v0 → K ⟨#[u0, u1, u2, u3, u4, (.pointer (some ⟨pa, 0, none⟩)), u6, (.pointer (some ⟨ra, 0, none⟩)), u8, u9, (.pointer (some ⟨bx, 0, none⟩)), u11, (.bool true), x13, x14, x15, x16, u17, u18, u19, u20, u21, u22, u23, u24, u25, u26, u27, u28, u29, u30, u31, u32, u33, u34, u35, u36, u37, u38, u39, u40, u41, u42, u43, u44, u45, u46, u47, u48, u49, u50, u51, u52, u53, u54, u55, u56, u57, u58, u59, u60, u61, u62, u63, u64, u65, u66, u67, u68, u69, u70, u71, u72, u73, u74, u75, u76, u77, u78, u79, u80, u81, u82, u83, u84, u85, u86, u87, u88, u89, u90, u91, u92, u93, x94, x95, x96, x97, x98, x99, x100, x101, x102, x103, x104, x105, x106, x107, x108, x109, x110, x111, x112, x113, x114, x115, x116, x117, x118, x119, x120, x121, x122, x123, x124, x125, x126, x127, x128, x129, x130, x131, x132, x133, x134, x135, x136, x137, x138, x139, x140, x141, x142, x143, x144, x145, x146, x147, x148, x149, x150, x151, x152, x153, u154, u155, u156, u157, u158, u159, u160, u161, u162, u163, u164, u165, u166, u167, u168, u169, u170, u171, u172, u173, u174, u175, u176, u177, u178, u179, u180, u181, u182, u183, u184, u185, u186, u187, u188, u189, u190, u191, u192, u193, u194, u195, u196, u197, u198, u199, u200, u201, u202, u203, u204, u205, u206, u207, u208, u209, u210, u211, u212, u213, u214, u215, u216, u217, u218, u219, u220, u221, u222, u223, u224, u225, u226, u227, u228, u229, u230, u231, u232, u233, u234, u235, u236, u237, u238, u239, u240, u241, u242, u243, u244, u245, u246, u247, u248, u249, u250, u251, u252, u253, u254, u255, u256, u257, u258, u259, u260, u261, u262, u263, u264, u265, u266, u267, u268, u269, u270, u271, u272, u273, u274, u275, u276, u277, u278, u279, u280, u281, u282, u283, u284, u285, u286, u287, u288, u289, u290, u291], []⟩ wx) :
    Code.wp Try.prog apR14xCode (Exit.then K Q) ⟨#[u0, u1, u2, u3, u4, (.pointer (some ⟨pa, 0, none⟩)), u6, (.pointer (some ⟨ra, 0, none⟩)), u8, u9, (.pointer (some ⟨bx, 0, none⟩)), u11, u12, u13, u14, u15, u16, u17, u18, u19, u20, u21, u22, u23, u24, u25, u26, u27, u28, u29, u30, u31, u32, u33, u34, u35, u36, u37, u38, u39, u40, u41, u42, u43, u44, u45, u46, u47, u48, u49, u50, u51, u52, u53, u54, u55, u56, u57, u58, u59, u60, u61, u62, u63, u64, u65, u66, u67, u68, u69, u70, u71, u72, u73, u74, u75, u76, u77, u78, u79, u80, u81, u82, u83, u84, u85, u86, u87, u88, u89, u90, u91, u92, u93, u94, u95, u96, u97, u98, u99, u100, u101, u102, u103, u104, u105, u106, u107, u108, u109, u110, u111, u112, u113, u114, u115, u116, u117, u118, u119, u120, u121, u122, u123, u124, u125, u126, u127, u128, u129, u130, u131, u132, u133, u134, u135, u136, u137, u138, u139, u140, u141, u142, u143, u144, u145, u146, u147, u148, u149, u150, u151, u152, u153, u154, u155, u156, u157, u158, u159, u160, u161, u162, u163, u164, u165, u166, u167, u168, u169, u170, u171, u172, u173, u174, u175, u176, u177, u178, u179, u180, u181, u182, u183, u184, u185, u186, u187, u188, u189, u190, u191, u192, u193, u194, u195, u196, u197, u198, u199, u200, u201, u202, u203, u204, u205, u206, u207, u208, u209, u210, u211, u212, u213, u214, u215, u216, u217, u218, u219, u220, u221, u222, u223, u224, u225, u226, u227, u228, u229, u230, u231, u232, u233, u234, u235, u236, u237, u238, u239, u240, u241, u242, u243, u244, u245, u246, u247, u248, u249, u250, u251, u252, u253, u254, u255, u256, u257, u258, u259, u260, u261, u262, u263, u264, u265, u266, u267, u268, u269, u270, u271, u272, u273, u274, u275, u276, u277, u278, u279, u280, u281, u282, u283, u284, u285, u286, u287, u288, u289, u290, u291], []⟩ w := by
  conv => arg 2; whnf
  by_cases h1 : kd = 1 ∨ kd = 4
  · exact apR14 hR h1 hPost
  by_cases h2 : kd = 2 ∨ kd = 3
  · exact apR14b hR h2 hPost
  exact apR14c hR (by rw [beq_eq_false_iff_ne]; omega) (by rw [beq_eq_false_iff_ne]; omega) (by rw [beq_eq_false_iff_ne]; omega) (by rw [beq_eq_false_iff_ne]; omega) hPost

noncomputable def apL27xCode : Code := Code.sub (Try.f4.body.getD .skip) [1, 1, 1, 1, 1, 0, 1, 0, 0, 1, 0, 0, 1, 1, 1, 1, 1, 1, 1, 0]
set_option maxRecDepth 1000000 in
set_option maxHeartbeats 2000000 in
theorem apL27x {w0 w : World} {pa ps br bl ra rs rc rl rw : Nat} {st : Ar} {bx : Nat} {kd k0 n0 t0 j0 v0 : Int} (hR : Rnd w0 w pa ps br bl ra rs rc rl rw st bx kd k0 n0 t0 j0 v0) (B : Nat) (v : Value) (xs : List Int) (hs : IntSl w B v xs)
    {u0 u1 u2 u3 u4 u6 u8 u9 u10 u12 u13 u14 u15 u16 u17 u18 u19 u20 u21 u22 u23 u24 u25 u26 u27 u28 u29 u30 u31 u32 u33 u34 u35 u36 u37 u38 u39 u40 u41 u42 u43 u44 u45 u46 u47 u48 u49 u50 u51 u52 u53 u54 u55 u56 u57 u58 u59 u60 u61 u62 u63 u64 u65 u66 u67 u68 u69 u70 u71 u72 u73 u74 u75 u76 u77 u78 u79 u80 u81 u82 u83 u84 u85 u86 u87 u88 u89 u90 u91 u92 u93 u94 u95 u96 u97 u98 u99 u100 u101 u102 u103 u104 u105 u106 u107 u108 u109 u110 u111 u112 u113 u114 u115 u116 u117 u118 u119 u120 u121 u122 u123 u124 u125 u126 u127 u128 u129 u130 u131 u132 u133 u134 u135 u136 u137 u138 u139 u140 u141 u142 u143 u144 u145 u146 u147 u148 u149 u150 u151 u152 u153 u154 u155 u156 u157 u158 u159 u160 u161 u162 u163 u164 u165 u166 u167 u168 u169 u170 u171 u172 u173 u174 u175 u176 u177 u178 u179 u180 u181 u182 u183 u184 u185 u186 u187 u188 u189 u190 u191 u192 u193 u194 u195 u196 u197 u198 u199 u200 u201 u202 u203 u204 u205 u206 u207 u208 u209 u210 u211 u212 u213 u214 u215 u216 u217 u218 u219 u220 u221 u222 u223 u224 u225 u226 u227 u228 u229 u230 u231 u232 u233 u234 u235 u236 u237 u238 u239 u240 u241 u242 u243 u244 u245 u246 u247 u248 u249 u250 u251 u252 u253 u254 u255 u256 u257 u258 u259 u260 u261 u262 u263 u264 u265 u266 u267 u268 u269 u270 u271 u272 u273 u274 u275 u276 u277 u278 u279 u280 u281 u282 u283 u284 u285 u286 u287 u288 u289 u290 u291 : Value} {K : Act → World → Prop} {Q : Exit → Act → World → Prop}
    (hPost : ∀ (x4 x17 x18 x19 x20 x21 x22 x207 x208 x209 x210 x211 x212 x213 x214 x215 x216 x217 x218 x219 x220 x221 x222 x223 x224 x225 x226 x227 x228 x229 x230 x231 x232 x233 x234 x235 x236 x237 x238 x239 x240 x241 x242 x243 x244 x245 x246 x247 x248 x249 x250 x251 x252 x253 x254 x255 x256 x257 x258 x259 x260 x261 x262 x263 x264 x265 : Value) (wx : World), Rnd w0 wx pa ps br bl ra rs rc rl rw st bx kd k0 n0 t0 j0 v0 → Below w.heap.size w wx → K ⟨#[u0, u1, u2, u3, x4, (.pointer (some ⟨pa, 0, none⟩)), u6, (.pointer (some ⟨ra, 0, none⟩)), u8, u9, u10, (v), u12, u13, u14, u15, u16, x17, x18, x19, x20, x21, x22, u23, u24, u25, u26, u27, u28, u29, u30, u31, u32, u33, u34, u35, u36, u37, u38, u39, u40, u41, u42, u43, u44, u45, u46, u47, u48, u49, u50, u51, u52, u53, u54, u55, u56, u57, u58, u59, u60, u61, u62, u63, u64, u65, u66, u67, u68, u69, u70, u71, u72, u73, u74, u75, u76, u77, u78, u79, u80, u81, u82, u83, u84, u85, u86, u87, u88, u89, u90, u91, u92, u93, u94, u95, u96, u97, u98, u99, u100, u101, u102, u103, u104, u105, u106, u107, u108, u109, u110, u111, u112, u113, u114, u115, u116, u117, u118, u119, u120, u121, u122, u123, u124, u125, u126, u127, u128, u129, u130, u131, u132, u133, u134, u135, u136, u137, u138, u139, u140, u141, u142, u143, u144, u145, u146, u147, u148, u149, u150, u151, u152, u153, u154, u155, u156, u157, u158, u159, u160, u161, u162, u163, u164, u165, u166, u167, u168, u169, u170, u171, u172, u173, u174, u175, u176, u177, u178, u179, u180, u181, u182, u183, u184, u185, u186, u187, u188, u189, u190, u191, u192, u193, u194, u195, u196, u197, u198, u199, u200, u201, u202, u203, u204, u205, u206, x207, x208, x209, x210, x211, x212, x213, x214, x215, x216, x217, x218, x219, x220, x221, x222, x223, x224, x225, x226, x227, x228, x229, x230, x231, x232, x233, x234, x235, x236, x237, x238, x239, x240, x241, x242, x243, x244, x245, x246, x247, x248, x249, x250, x251, x252, x253, x254, x255, x256, x257, x258, x259, x260, x261, x262, x263, x264, x265, u266, u267, u268, u269, u270, u271, u272, u273, u274, u275, u276, u277, u278, u279, u280, u281, u282, u283, u284, u285, u286, u287, u288, u289, u290, u291], []⟩ wx) :
    Code.wp Try.prog apL27xCode (Exit.then K Q) ⟨#[u0, u1, u2, u3, u4, (.pointer (some ⟨pa, 0, none⟩)), u6, (.pointer (some ⟨ra, 0, none⟩)), u8, u9, u10, (v), u12, u13, u14, u15, u16, u17, u18, u19, u20, u21, u22, u23, u24, u25, u26, u27, u28, u29, u30, u31, u32, u33, u34, u35, u36, u37, u38, u39, u40, u41, u42, u43, u44, u45, u46, u47, u48, u49, u50, u51, u52, u53, u54, u55, u56, u57, u58, u59, u60, u61, u62, u63, u64, u65, u66, u67, u68, u69, u70, u71, u72, u73, u74, u75, u76, u77, u78, u79, u80, u81, u82, u83, u84, u85, u86, u87, u88, u89, u90, u91, u92, u93, u94, u95, u96, u97, u98, u99, u100, u101, u102, u103, u104, u105, u106, u107, u108, u109, u110, u111, u112, u113, u114, u115, u116, u117, u118, u119, u120, u121, u122, u123, u124, u125, u126, u127, u128, u129, u130, u131, u132, u133, u134, u135, u136, u137, u138, u139, u140, u141, u142, u143, u144, u145, u146, u147, u148, u149, u150, u151, u152, u153, u154, u155, u156, u157, u158, u159, u160, u161, u162, u163, u164, u165, u166, u167, u168, u169, u170, u171, u172, u173, u174, u175, u176, u177, u178, u179, u180, u181, u182, u183, u184, u185, u186, u187, u188, u189, u190, u191, u192, u193, u194, u195, u196, u197, u198, u199, u200, u201, u202, u203, u204, u205, u206, u207, u208, u209, u210, u211, u212, u213, u214, u215, u216, u217, u218, u219, u220, u221, u222, u223, u224, u225, u226, u227, u228, u229, u230, u231, u232, u233, u234, u235, u236, u237, u238, u239, u240, u241, u242, u243, u244, u245, u246, u247, u248, u249, u250, u251, u252, u253, u254, u255, u256, u257, u258, u259, u260, u261, u262, u263, u264, u265, u266, u267, u268, u269, u270, u271, u272, u273, u274, u275, u276, u277, u278, u279, u280, u281, u282, u283, u284, u285, u286, u287, u288, u289, u290, u291], []⟩ w := by
  conv => arg 2; whnf
  rcases hs.shape with ⟨e1, rfl⟩ | ⟨g, cap2, rfl, hg, hgc, hgm, hgA⟩
  · refine apL27e _ _ ?_
    intros
    rename_i wx hw
    subst hw
    apply hPost
    · exact hR
    · exact Below.refl _ _
  · unfold maxLen at hgm
    exact apL27 hR g cap2 _ hgc (by omega) hgA hPost

noncomputable def apL6Code : Code := Code.sub (Try.f4.body.getD .skip) [1, 1, 1, 1, 1, 0, 1]
set_option maxRecDepth 1000000 in
set_option maxHeartbeats 2000000 in
theorem apL6 {w0 w : World} {pa ps br bl ra rs rc rl rw : Nat} {st : Ar} (hT : Two w0 w pa ps br bl ra rs rc rl rw st) (a : Addr) (ops : List Op6) (cap : Nat) (hcl : ops.length ≤ cap) (hcm : cap ≤ 9223372036854775807) (hab : 0 < ops.length → a.block < w0.heap.size) (hops : Hid (∀ (i : Nat) (o : Op6), ops[i]? = some o →  w0.cell? (a.add (i * 6)) = some (.int .i64 o.kd) ∧ w0.cell? (a.add (i * 6 + 1)) = some (.int .i64 o.k) ∧ w0.cell? (a.add (i * 6 + 2)) = some (.int .i64 o.n) ∧ w0.cell? (a.add (i * 6 + 3)) = some (.int .i64 o.at_) ∧ w0.cell? (a.add (i * 6 + 4)) = some (.int .i64 o.j) ∧ w0.cell? (a.add (i * 6 + 5)) = some (.int .i64 o.v)))
    {u0 u2 u3 u4 u6 u8 u10 u11 u12 u13 u14 u15 u16 u17 u18 u19 u20 u21 u22 u23 u24 u25 u26 u27 u28 u29 u30 u31 u32 u33 u34 u35 u36 u37 u38 u39 u40 u41 u42 u43 u44 u45 u46 u47 u48 u49 u50 u51 u52 u53 u54 u55 u56 u57 u58 u59 u60 u61 u62 u63 u64 u65 u66 u67 u68 u69 u70 u71 u72 u73 u74 u75 u76 u77 u78 u79 u80 u81 u82 u83 u84 u85 u86 u87 u88 u89 u90 u91 u92 u93 u94 u95 u96 u97 u98 u99 u100 u101 u102 u103 u104 u105 u106 u107 u108 u109 u110 u111 u112 u113 u114 u115 u116 u117 u118 u119 u120 u121 u122 u123 u124 u125 u126 u127 u128 u129 u130 u131 u132 u133 u134 u135 u136 u137 u138 u139 u140 u141 u142 u143 u144 u145 u146 u147 u148 u149 u150 u151 u152 u153 u154 u155 u156 u157 u158 u159 u160 u161 u162 u163 u164 u165 u166 u167 u168 u169 u170 u171 u172 u173 u174 u175 u176 u177 u178 u179 u180 u181 u182 u183 u184 u185 u186 u187 u188 u189 u190 u191 u192 u193 u194 u195 u196 u197 u198 u199 u200 u201 u202 u203 u204 u205 u206 u207 u208 u209 u210 u211 u212 u213 u214 u215 u216 u217 u218 u219 u220 u221 u222 u223 u224 u225 u226 u227 u228 u229 u230 u231 u232 u233 u234 u235 u236 u237 u238 u239 u240 u241 u242 u243 u244 u245 u246 u247 u248 u249 u250 u251 u252 u253 u254 u255 u256 u257 u258 u259 u260 u261 u262 u263 u264 u265 u266 u267 u268 u269 u270 u271 u272 u273 u274 u275 u276 u277 u278 u279 u280 u281 u282 u283 u284 u285 u286 u287 u288 u289 u290 u291 : Value} {K : Act → World → Prop} {Q : Exit → Act → World → Prop}
    (hPost : ∀ (x4 x9 x10 x11 x12 x13 x14 x15 x16 x17 x18 x19 x20 x21 x22 x23 x24 x25 x26 x53 x54 x55 x56 x57 x58 x59 x60 x61 x62 x63 x64 x65 x66 x67 x68 x69 x70 x71 x72 x73 x74 x75 x76 x77 x78 x79 x80 x81 x82 x83 x84 x85 x86 x87 x88 x89 x90 x91 x92 x93 x94 x95 x96 x97 x98 x99 x100 x101 x102 x103 x104 x105 x106 x107 x108 x109 x110 x111 x112 x113 x114 x115 x116 x117 x118 x119 x120 x121 x122 x123 x124 x125 x126 x127 x128 x129 x130 x131 x132 x133 x134 x135 x136 x137 x138 x139 x140 x141 x142 x143 x144 x145 x146 x147 x148 x149 x150 x151 x152 x153 x154 x155 x156 x157 x158 x159 x160 x161 x162 x163 x164 x165 x166 x167 x168 x169 x170 x171 x172 x173 x174 x175 x176 x177 x178 x179 x180 x181 x182 x183 x184 x185 x186 x187 x188 x189 x190 x191 x192 x193 x194 x195 x196 x197 x198 x199 x200 x201 x202 x203 x204 x205 x206 x207 x208 x209 x210 x211 x212 x213 x214 x215 x216 x217 x218 x219 x220 x221 x222 x223 x224 x225 x226 x227 x228 x229 x230 x231 x232 x233 x234 x235 x236 x237 x238 x239 x240 x241 x242 x243 x244 x245 x246 x247 x248 x249 x250 x251 x252 x253 x254 x255 x256 x257 x258 x259 x260 x261 x262 x263 x264 x265 x266 x267 x268 x269 x270 x271 x272 x273 x274 x275 x276 x277 x278 x279 x280 x281 x282 x283 x284 x285 x286 x287 x288 x289 x290 x291 : Value) (st' : Ar) (wx : World), Two w0 wx pa ps br bl ra rs rc rl rw st' → K ⟨#[u0, (.slice (some a) ops.length cap), u2, u3, x4, (.pointer (some ⟨pa, 0, none⟩)), u6, (.pointer (some ⟨ra, 0, none⟩)), u8, x9, x10, x11, x12, x13, x14, x15, x16, x17, x18, x19, x20, x21, x22, x23, x24, x25, x26, u27, u28, u29, u30, u31, u32, u33, u34, u35, u36, u37, u38, u39, u40, u41, u42, u43, u44, u45, u46, u47, u48, u49, u50, u51, u52, x53, x54, x55, x56, x57, x58, x59, x60, x61, x62, x63, x64, x65, x66, x67, x68, x69, x70, x71, x72, x73, x74, x75, x76, x77, x78, x79, x80, x81, x82, x83, x84, x85, x86, x87, x88, x89, x90, x91, x92, x93, x94, x95, x96, x97, x98, x99, x100, x101, x102, x103, x104, x105, x106, x107, x108, x109, x110, x111, x112, x113, x114, x115, x116, x117, x118, x119, x120, x121, x122, x123, x124, x125, x126, x127, x128, x129, x130, x131, x132, x133, x134, x135, x136, x137, x138, x139, x140, x141, x142, x143, x144, x145, x146, x147, x148, x149, x150, x151, x152, x153, x154, x155, x156, x157, x158, x159, x160, x161, x162, x163, x164, x165, x166, x167, x168, x169, x170, x171, x172, x173, x174, x175, x176, x177, x178, x179, x180, x181, x182, x183, x184, x185, x186, x187, x188, x189, x190, x191, x192, x193, x194, x195, x196, x197, x198, x199, x200, x201, x202, x203, x204, x205, x206, x207, x208, x209, x210, x211, x212, x213, x214, x215, x216, x217, x218, x219, x220, x221, x222, x223, x224, x225, x226, x227, x228, x229, x230, x231, x232, x233, x234, x235, x236, x237, x238, x239, x240, x241, x242, x243, x244, x245, x246, x247, x248, x249, x250, x251, x252, x253, x254, x255, x256, x257, x258, x259, x260, x261, x262, x263, x264, x265, x266, x267, x268, x269, x270, x271, x272, x273, x274, x275, x276, x277, x278, x279, x280, x281, x282, x283, x284, x285, x286, x287, x288, x289, x290, x291], []⟩ wx) :
    Code.wp Try.prog apL6Code (Exit.then K Q) ⟨#[u0, (.slice (some a) ops.length cap), u2, u3, u4, (.pointer (some ⟨pa, 0, none⟩)), u6, (.pointer (some ⟨ra, 0, none⟩)), u8, (.int .i64 0), u10, u11, u12, u13, u14, u15, u16, u17, u18, u19, u20, u21, u22, u23, u24, u25, u26, u27, u28, u29, u30, u31, u32, u33, u34, u35, u36, u37, u38, u39, u40, u41, u42, u43, u44, u45, u46, u47, u48, u49, u50, u51, u52, u53, u54, u55, u56, u57, u58, u59, u60, u61, u62, u63, u64, u65, u66, u67, u68, u69, u70, u71, u72, u73, u74, u75, u76, u77, u78, u79, u80, u81, u82, u83, u84, u85, u86, u87, u88, u89, u90, u91, u92, u93, u94, u95, u96, u97, u98, u99, u100, u101, u102, u103, u104, u105, u106, u107, u108, u109, u110, u111, u112, u113, u114, u115, u116, u117, u118, u119, u120, u121, u122, u123, u124, u125, u126, u127, u128, u129, u130, u131, u132, u133, u134, u135, u136, u137, u138, u139, u140, u141, u142, u143, u144, u145, u146, u147, u148, u149, u150, u151, u152, u153, u154, u155, u156, u157, u158, u159, u160, u161, u162, u163, u164, u165, u166, u167, u168, u169, u170, u171, u172, u173, u174, u175, u176, u177, u178, u179, u180, u181, u182, u183, u184, u185, u186, u187, u188, u189, u190, u191, u192, u193, u194, u195, u196, u197, u198, u199, u200, u201, u202, u203, u204, u205, u206, u207, u208, u209, u210, u211, u212, u213, u214, u215, u216, u217, u218, u219, u220, u221, u222, u223, u224, u225, u226, u227, u228, u229, u230, u231, u232, u233, u234, u235, u236, u237, u238, u239, u240, u241, u242, u243, u244, u245, u246, u247, u248, u249, u250, u251, u252, u253, u254, u255, u256, u257, u258, u259, u260, u261, u262, u263, u264, u265, u266, u267, u268, u269, u270, u271, u272, u273, u274, u275, u276, u277, u278, u279, u280, u281, u282, u283, u284, u285, u286, u287, u288, u289, u290, u291], []⟩ w := by
  conv => arg 2; whnf
  conv => arg 4; dsimp only
  go_wp2
  go_loopw [9] (fun i wr => ∃ (m : Nat) (st : Ar), m ≤ ops.length ∧ m ≤ 60 ∧ i = .int .i64 m ∧ Two w0 wr pa ps br bl ra rs rc rl rw st) (fun i _ => ops.length - (intOf i).toNat)
  case atStart => exact ⟨0, _, by omega, by omega, rfl, hT⟩
  case round =>
    clear hT
    obtain ⟨m, st, hm, hm60, rfl, hT⟩ := hrel
    by_cases hlt : m < ops.length ∧ m < 60
    case neg =>
      by_cases h1 : m < ops.length
      · obtain rfl : m = 60 := by omega
        go_wp2
        apply hPost
        exact hT
      · obtain rfl : m = ops.length := by omega
        go_wp2
        apply hPost
        exact hT
    obtain ⟨h1, h2⟩ := hlt
    obtain ⟨⟨kd, k0, n0, t0, j0, v0⟩, ho⟩ : ∃ o, ops[m]? = some o := ⟨_, List.getElem?_eq_getElem h1⟩
    obtain ⟨c0, c1, c2, c3, c4, c5⟩ := hops.out m _ ho
    have hcc := fun j => below_cell hT.B (a := a.add j) (by unfold Addr.add; split <;> exact hab (by omega))
    rw [← hcc] at c0 c1 c2 c3 c4 c5
    clear hcc ho
    have hA1 : ∀ j, a.add (m * 6 + (j + 1)) = ⟨(a.add (m * 6)).block, (a.add (m * 6)).off + (j + 1), none⟩ := by
      intro j; unfold Addr.add
      by_cases h0 : m * 6 = 0
      · simp [h0]
      · simp [h0]; omega
    rw [hA1 0] at c1
    rw [hA1 1] at c2
    rw [hA1 2] at c3
    rw [hA1 3] at c4
    rw [hA1 4] at c5
    simp only [Nat.zero_add, Nat.reduceAdd] at c1 c2 c3 c4 c5
    clear hA1
    have HC := Lib.hid (And.intro c0 (And.intro c1 (And.intro c2 (And.intro c3 (And.intro c4 c5)))))
    clear c0 c1 c2 c3 c4 c5
    go_upto_block 1 with (fail)
    obtain ⟨c0, c1, c2, c3, c4, c5⟩ := HC.out
    clear HC
    refine wp_block (wp_then ?_)
    refine wp_seq_k fun K1 hK1 => ?_
    refine apR9 a ops.length cap m h1 hcl hcm kd k0 n0 t0 j0 v0 c0 c1 c2 c3 c4 c5 ?_
    intros
    rename_i w4 hw4
    refine hK1 _ _ ?_
    clear hK1 c0 c1 c2 c3 c4 c5
    have hbox := Arr.made wr 48 [.int .i64 kd, .int .i64 k0, .int .i64 n0, .int .i64 t0, .int .i64 j0, .int .i64 v0]
    have hTb := hT.below ((Below.refl _ wr).alloc (Nat.le_refl _) (.cells #[.int .i64 kd, .int .i64 k0, .int .i64 n0, .int .i64 t0, .int .i64 j0, .int .i64 v0] 48))
    have hR4 : Rnd w0 w4 pa ps br bl ra rs rc rl rw st wr.heap.size kd k0 n0 t0 j0 v0 := by
      subst hw4
      exact ⟨hTb, hbox, hT.B.size, (hT.apart (Nat.le_refl _)).1, (hT.apart (Nat.le_refl _)).2⟩
    clear hbox hTb hw4 hT
    generalize wr.heap.size = bx at *
    refine wp_seq_k fun K1 hK1 => ?_
    refine apR10 hR4 ?_
    intros
    rename_i w5 hR5 hs5
    refine hK1 _ _ ?_
    clear hK1 hR4
    refine wp_seq_k fun K1 hK1 => ?_
    refine apR11 hR5 _ _ hs5 ?_
    intros
    rename_i t1 w6 hR6 _
    refine hK1 _ _ ?_
    clear hK1 hR5 hs5
    refine wp_seq_k fun K1 hK1 => ?_
    refine apR13 ?_
    intros
    rename_i w7 hw7
    subst hw7
    refine hK1 _ _ ?_
    clear hK1
    refine wp_seq_k fun K1 hK1 => ?_
    refine apR14x hR6 ?_
    intros
    rename_i st8 w8 hR8
    refine hK1 _ _ ?_
    clear hK1 hR6
    refine wp_seq_k fun K1 hK1 => ?_
    refine apR24 hR8 ?_
    intros
    rename_i w9 hR9 hs9
    refine hK1 _ _ ?_
    clear hK1 hR8
    refine wp_seq_k fun K1 hK1 => ?_
    refine apR25 hR9 _ _ hs9 ?_
    intros
    rename_i w10 hR10 hb10
    refine hK1 _ _ ?_
    have hs10 := hs9.below hb10
    clear hK1 hR9 hs9 hb10
    refine wp_seq_k fun K1 hK1 => ?_
    refine apL27x hR10 _ _ _ hs10 ?_
    intros
    rename_i w11 hR11 hb11
    refine hK1 _ _ ?_
    clear hK1 hR10 hs10 hb11
    refine apT37 hR11 ?_
    intros
    rename_i w12 hR12 hb12
    have hT12 := hR12.T
    clear hR11 hR12 hb12
    go_wp2
    go_roundw
    case rel => exact ⟨m + 1, st8, by omega, by omega, by go_num, hT12⟩
    case measure => simp [intOf]; omega

set_option maxRecDepth 1000000 in
set_option maxHeartbeats 2000000 in
theorem arenaPlays {w : World} {v : Value} {ops : List Op6} (ho : OpsAt w v ops) (n : Int) : Calls Try.prog 4 #[.int .i64 n, v] w fun e w' => e = .returned (.bool true) ∧ Below w.heap.size w w' := by
  obtain ⟨N, hN, hN2, hNe⟩ := turnN n
  have HN := Lib.hid hNe
  clear hNe
  go_enter Try.func4, Try.ntmps4
  go_upto_region 2 with (fail)
  rw [HN.out]
  go_wp2_with fail
  refine (arNew_calls N hN (by omega) w).mono ?_
  rintro e w1 ⟨pa, ps, br, bl, rfl, hA1, b1, b2, b3, b4, hb1⟩
  go_wp2_with fail
  refine (rArNew N hN (by omega) w1).mono ?_
  rintro e w2 ⟨ra, rs, rc, rl, rw, rfl, hR2, d1, d2, d3, d4, d5, hb2⟩
  go_wp2_with fail
  refine (awake07 w2).mono ?_
  rintro e w3 ⟨rfl, hb3⟩
  have p2 : ps < w1.heap.size := by obtain ⟨_, hh, _⟩ := hA1.spans.head; exact hh.lt
  have hT3 : Two w w3 pa ps br bl ra rs rc rl rw (arNew N) := ⟨(hA1.below hb2).below hb3, hR2.below hb3, below_then (below_then hb1 hb2) hb3, b1, b2, b3, b4, w1.heap.size, hA1.head.lt, p2, hA1.spans.rows.lt, hA1.cells.lt, d1, d2, d3, d4, d5⟩
  clear hb1 hb2 hb3 hA1 hR2 b1 b2 b3 b4 d1 d2 d3 d4 d5 p2 HN hN hN2
  rcases ho with ⟨rfl, rfl⟩ | ⟨a, cap, rfl, hcl, hcm, hab, hops⟩
  · go_wp2
    go_loopw [9] (fun i wr => i = .int .i64 0 ∧ wr = w3) (fun _ _ => 0)
    case atStart => exact ⟨rfl, rfl⟩
    case round =>
      obtain ⟨rfl, rfl⟩ := hrel
      go_wp2
      go_ret
      exact ⟨rfl, hT3.B⟩
  unfold maxLen at hcm
  have HOPS := Lib.hid hops
  clear hops
  go_upto_block 0 with (fail)
  refine wp_then ?_
  refine apL6 hT3 a ops cap hcl hcm hab HOPS ?_
  intros
  rename_i st4 w4 hT4
  have hB := hT4.B
  clear hT3 hT4
  go_wp2
  go_ret
  exact ⟨rfl, hB⟩
end Go.Proofs.Ytccaegiceneegaa
