/- The law's heap that is built by ops: both heaps hold the same arena behind it, no cycle goes on. The condition: the ops lie in memory, and fit. -/
import Derived.Test.YtccaegiceneegaaBuilt
namespace Go.Proofs.Ytccaegiceneegaa
open Go.RowKit

noncomputable def buR11Code : Code := Code.sub (Try.f42.body.getD .skip) [1, 1, 1, 1, 0, 1, 0, 0, 1, 0, 0, 1, 1, 1, 0]
set_option maxRecDepth 1000000 in
set_option maxHeartbeats 2000000 in
theorem buR11 {w0 w : World} {O1 O2 : Nat → Prop} {ph pa ps br bl cm pl rh ra rs rc rl rw cb rg : Nat} {H : Hp} {bx : Nat} {o : Op6} (hR : RndH w0 w O1 O2 ph pa ps br bl cm pl rh ra rs rc rl rw cb rg H bx o) (B : Nat) (v : Value) (hs : IntSl w B v (castL (arObjs H.st)))
    {u0 u1 u2 u3 u4 u5 u6 u7 u8 u13 u14 u15 u16 u17 u18 u19 u20 u21 u22 u23 u24 u25 u26 u27 u28 u29 u30 u31 u32 u33 u34 u35 u36 u37 u38 u39 u40 u41 u42 u43 u44 u45 u46 u47 u48 u49 u50 u51 u52 u53 u54 u55 u56 u57 u58 u59 u60 u61 u62 u63 u64 u65 u66 u67 u68 u69 u70 u71 u72 u73 u74 u75 u76 u77 u78 u79 u80 u81 u82 u83 u84 u85 u86 u87 u88 u89 u90 u91 u92 u93 u94 u95 u96 u97 u98 u99 u100 u101 u102 u103 u104 u105 u106 u107 u108 u109 u110 u111 u112 u113 u114 u115 u116 u117 u118 u119 u120 u121 u122 u123 u124 u125 u126 u127 u128 u129 u130 u131 u132 u133 u134 u135 u136 u137 u138 u139 u140 u141 u142 u143 u144 u145 u146 u147 : Value} {K : Act → World → Prop} {Q : Exit → Act → World → Prop}
    (hPost : ∀ (x54 x55 x56 x57 x58 x59 x60 x61 x62 x63 x64 x65 x66 x67 x68 x69 x70 x71 x72 x73 x74 x75 x76 x77 x78 : Value) (wx : World), RndH w0 wx O1 O2 ph pa ps br bl cm pl rh ra rs rc rl rw cb rg H bx o → K ⟨#[u0, u1, u2, u3, u4, u5, u6, u7, u8, (.pointer (some ⟨bx, 0, none⟩)), (v), (.int .i64 (pickI (castL (arObjs H.st)) o.n)), (.int .i64 (pickI (castL (arObjs H.st)) o.v)), u13, u14, u15, u16, u17, u18, u19, u20, u21, u22, u23, u24, u25, u26, u27, u28, u29, u30, u31, u32, u33, u34, u35, u36, u37, u38, u39, u40, u41, u42, u43, u44, u45, u46, u47, u48, u49, u50, u51, u52, u53, x54, x55, x56, x57, x58, x59, x60, x61, x62, x63, x64, x65, x66, x67, x68, x69, x70, x71, x72, x73, x74, x75, x76, x77, x78, u79, u80, u81, u82, u83, u84, u85, u86, u87, u88, u89, u90, u91, u92, u93, u94, u95, u96, u97, u98, u99, u100, u101, u102, u103, u104, u105, u106, u107, u108, u109, u110, u111, u112, u113, u114, u115, u116, u117, u118, u119, u120, u121, u122, u123, u124, u125, u126, u127, u128, u129, u130, u131, u132, u133, u134, u135, u136, u137, u138, u139, u140, u141, u142, u143, u144, u145, u146, u147], []⟩ wx) :
    Code.wp Try.prog buR11Code (Exit.then K Q) ⟨#[u0, u1, u2, u3, u4, u5, u6, u7, u8, (.pointer (some ⟨bx, 0, none⟩)), (v), (.int .i64 (-1)), (.int .i64 (-1)), u13, u14, u15, u16, u17, u18, u19, u20, u21, u22, u23, u24, u25, u26, u27, u28, u29, u30, u31, u32, u33, u34, u35, u36, u37, u38, u39, u40, u41, u42, u43, u44, u45, u46, u47, u48, u49, u50, u51, u52, u53, u54, u55, u56, u57, u58, u59, u60, u61, u62, u63, u64, u65, u66, u67, u68, u69, u70, u71, u72, u73, u74, u75, u76, u77, u78, u79, u80, u81, u82, u83, u84, u85, u86, u87, u88, u89, u90, u91, u92, u93, u94, u95, u96, u97, u98, u99, u100, u101, u102, u103, u104, u105, u106, u107, u108, u109, u110, u111, u112, u113, u114, u115, u116, u117, u118, u119, u120, u121, u122, u123, u124, u125, u126, u127, u128, u129, u130, u131, u132, u133, u134, u135, u136, u137, u138, u139, u140, u141, u142, u143, u144, u145, u146, u147], []⟩ w := by
  conv => arg 2; whnf
  have hLc : (castL (arObjs H.st)).length ≤ 4096 := by have := objsTo_length H.st H.st.cells.length; have := hR.T.P.arena.small; simp [castL, arObjs]; omega
  have hz : (castL (arObjs H.st)).length = 0 → pickI (castL (arObjs H.st)) o.n = -1 ∧ pickI (castL (arObjs H.st)) o.v = -1 := by
    intro h; unfold pickI; rw [if_pos h, if_pos h]; exact ⟨rfl, rfl⟩
  rcases hs.shape with ⟨e1, rfl⟩ | ⟨g, cap2, rfl, hg, hgc, hgm, hgA⟩
  · obtain ⟨z1, z2⟩ := hz (by rw [e1]; rfl)
    rw [z1, z2] at hPost
    refine buR11e _ _ ?_
    intros
    rename_i wx hw
    subst hw
    apply hPost
    exact hR
  · unfold maxLen at hgm
    by_cases h0 : 0 < (castL (arObjs H.st)).length
    · refine buR11y hR g cap2 _ h0 hLc hgc (by omega) hgA ?_
      intros
      rename_i wx hR1 hb
      apply hPost
      exact hR1
    · have e0 : (castL (arObjs H.st)).length = 0 := by omega
      obtain ⟨z1, z2⟩ := hz e0
      rw [z1, z2] at hPost
      rw [e0] at hPost ⊢
      refine buR11e _ _ ?_
      intros
      rename_i wx hw
      subst hw
      apply hPost
      exact hR

noncomputable def buR13Code : Code := Code.sub (Try.f42.body.getD .skip) [1, 1, 1, 1, 0, 1, 0, 0, 1, 0, 0, 1, 1, 1, 1]
set_option maxRecDepth 1000000 in
set_option maxHeartbeats 2000000 in
theorem buR13 {w0 w : World} {O1 O2 : Nat → Prop} {ph pa ps br bl cm pl rh ra rs rc rl rw cb rg : Nat} {H : Hp} {bx : Nat} {o : Op6} (hR : RndH w0 w O1 O2 ph pa ps br bl cm pl rh ra rs rc rl rw cb rg H bx o) (hp : H.phase = 0) (hf : o.fit)
    {u0 u1 u2 u3 u5 u7 u8 u10 u13 u14 u15 u16 u17 u18 u19 u20 u21 u22 u23 u24 u25 u26 u27 u28 u29 u30 u31 u32 u33 u34 u35 u36 u37 u38 u39 u40 u41 u42 u43 u44 u45 u46 u47 u48 u49 u50 u51 u52 u53 u54 u55 u56 u57 u58 u59 u60 u61 u62 u63 u64 u65 u66 u67 u68 u69 u70 u71 u72 u73 u74 u75 u76 u77 u78 u79 u80 u81 u82 u83 u84 u85 u86 u87 u88 u89 u90 u91 u92 u93 u94 u95 u96 u97 u98 u99 u100 u101 u102 u103 u104 u105 u106 u107 u108 u109 u110 u111 u112 u113 u114 u115 u116 u117 u118 u119 u120 u121 u122 u123 u124 u125 u126 u127 u128 u129 u130 u131 u132 u133 u134 u135 u136 u137 u138 u139 u140 u141 u142 u143 u144 u145 u146 u147 : Value} {K : Act → World → Prop} {Q : Exit → Act → World → Prop}
    (hPost : ∀ (x13 x14 x15 x79 x80 x81 x82 x83 x84 x85 x86 x87 x88 x89 x90 x91 x92 x93 x94 x95 x96 x97 x98 x99 x100 x101 x102 x103 x104 x105 x106 x107 x108 x109 x110 x111 x112 x113 x114 x115 x116 x117 x118 x119 x120 x121 x122 x123 x124 x125 x126 x127 x128 x129 x130 x131 x132 x133 x134 x135 x136 x137 x138 x139 x140 x141 x142 x143 x144 x145 : Value) (H' : Hp) (wx : World), RndH w0 wx O1 O2 ph pa ps br bl cm pl rh ra rs rc rl rw cb rg H' bx o → H'.phase = 0 ∧ H'.st = opSt H.st o → K ⟨#[u0, u1, u2, u3, (.pointer (some ⟨ph, 0, none⟩)), u5, (.pointer (some ⟨rh, 0, none⟩)), u7, u8, (.pointer (some ⟨bx, 0, none⟩)), u10, (.int .i64 (pickI (castL (arObjs H.st)) o.n)), (.int .i64 (pickI (castL (arObjs H.st)) o.v)), x13, x14, x15, u16, u17, u18, u19, u20, u21, u22, u23, u24, u25, u26, u27, u28, u29, u30, u31, u32, u33, u34, u35, u36, u37, u38, u39, u40, u41, u42, u43, u44, u45, u46, u47, u48, u49, u50, u51, u52, u53, u54, u55, u56, u57, u58, u59, u60, u61, u62, u63, u64, u65, u66, u67, u68, u69, u70, u71, u72, u73, u74, u75, u76, u77, u78, x79, x80, x81, x82, x83, x84, x85, x86, x87, x88, x89, x90, x91, x92, x93, x94, x95, x96, x97, x98, x99, x100, x101, x102, x103, x104, x105, x106, x107, x108, x109, x110, x111, x112, x113, x114, x115, x116, x117, x118, x119, x120, x121, x122, x123, x124, x125, x126, x127, x128, x129, x130, x131, x132, x133, x134, x135, x136, x137, x138, x139, x140, x141, x142, x143, x144, x145, u146, u147], []⟩ wx) :
    Code.wp Try.prog buR13Code (Exit.then K Q) ⟨#[u0, u1, u2, u3, (.pointer (some ⟨ph, 0, none⟩)), u5, (.pointer (some ⟨rh, 0, none⟩)), u7, u8, (.pointer (some ⟨bx, 0, none⟩)), u10, (.int .i64 (pickI (castL (arObjs H.st)) o.n)), (.int .i64 (pickI (castL (arObjs H.st)) o.v)), u13, u14, u15, u16, u17, u18, u19, u20, u21, u22, u23, u24, u25, u26, u27, u28, u29, u30, u31, u32, u33, u34, u35, u36, u37, u38, u39, u40, u41, u42, u43, u44, u45, u46, u47, u48, u49, u50, u51, u52, u53, u54, u55, u56, u57, u58, u59, u60, u61, u62, u63, u64, u65, u66, u67, u68, u69, u70, u71, u72, u73, u74, u75, u76, u77, u78, u79, u80, u81, u82, u83, u84, u85, u86, u87, u88, u89, u90, u91, u92, u93, u94, u95, u96, u97, u98, u99, u100, u101, u102, u103, u104, u105, u106, u107, u108, u109, u110, u111, u112, u113, u114, u115, u116, u117, u118, u119, u120, u121, u122, u123, u124, u125, u126, u127, u128, u129, u130, u131, u132, u133, u134, u135, u136, u137, u138, u139, u140, u141, u142, u143, u144, u145, u146, u147], []⟩ w := by
  conv => arg 2; whnf
  by_cases h1 : o.kd = 1
  · exact buR13a hR hp hf h1 hPost
  by_cases h2 : o.kd = 2
  · exact buR13b hR hp h2 hPost
  by_cases h3 : o.kd = 3
  · exact buR13c hR hp h3 hPost
  exact buR13d hR hp (by rw [beq_eq_false_iff_ne]; exact h1) (by rw [beq_eq_false_iff_ne]; exact h2) (by rw [beq_eq_false_iff_ne]; exact h3) hPost

/-- the arena behind ops -/
def opsSt (ops : List Op6) (st : Ar) : Ar := ops.foldl opSt st
theorem opsSt_take {ops : List Op6} {m : Nat} (h : m < ops.length) (st : Ar) : opsSt (ops.take (m + 1)) st = opSt (opsSt (ops.take m) st) ops[m] := by
  unfold opsSt
  rw [List.take_succ_eq_append_getElem h, List.foldl_append]; rfl

noncomputable def buL5Code : Code := Code.sub (Try.f42.body.getD .skip) [1, 1, 1, 1, 0, 1]
set_option maxRecDepth 1000000 in
set_option maxHeartbeats 2000000 in
theorem buL5 {w0 w : World} {O1 O2 : Nat → Prop} {ph pa ps br bl cm pl rh ra rs rc rl rw cb rg : Nat} {H : Hp} (hT : BothB w0 w O1 O2 ph pa ps br bl cm pl rh ra rs rc rl rw cb rg H) (hp : H.phase = 0) (a : Addr) (ops : List Op6) (cap : Nat) (hcl : ops.length ≤ cap) (hcm : cap ≤ 9223372036854775807) (hab : 0 < ops.length → a.block < w0.heap.size) (hops : Hid (∀ (i : Nat) (o : Op6), ops[i]? = some o →  w0.cell? (a.add (i * 6)) = some (.int .i64 o.kd) ∧ w0.cell? (a.add (i * 6 + 1)) = some (.int .i64 o.k) ∧ w0.cell? (a.add (i * 6 + 2)) = some (.int .i64 o.n) ∧ w0.cell? (a.add (i * 6 + 3)) = some (.int .i64 o.at_) ∧ w0.cell? (a.add (i * 6 + 4)) = some (.int .i64 o.j) ∧ w0.cell? (a.add (i * 6 + 5)) = some (.int .i64 o.v))) (hfits : Hid (∀ o ∈ ops, o.fit))
    {u1 u2 u3 u5 u7 u9 u10 u11 u12 u13 u14 u15 u16 u17 u18 u19 u20 u21 u22 u23 u24 u25 u26 u27 u28 u29 u30 u31 u32 u33 u34 u35 u36 u37 u38 u39 u40 u41 u42 u43 u44 u45 u46 u47 u48 u49 u50 u51 u52 u53 u54 u55 u56 u57 u58 u59 u60 u61 u62 u63 u64 u65 u66 u67 u68 u69 u70 u71 u72 u73 u74 u75 u76 u77 u78 u79 u80 u81 u82 u83 u84 u85 u86 u87 u88 u89 u90 u91 u92 u93 u94 u95 u96 u97 u98 u99 u100 u101 u102 u103 u104 u105 u106 u107 u108 u109 u110 u111 u112 u113 u114 u115 u116 u117 u118 u119 u120 u121 u122 u123 u124 u125 u126 u127 u128 u129 u130 u131 u132 u133 u134 u135 u136 u137 u138 u139 u140 u141 u142 u143 u144 u145 u146 u147 : Value} {K : Act → World → Prop} {Q : Exit → Act → World → Prop}
    (hPost : ∀ (x8 x9 x10 x11 x12 x13 x14 x15 x35 x36 x37 x38 x39 x40 x41 x42 x43 x44 x45 x46 x47 x48 x49 x50 x51 x52 x53 x54 x55 x56 x57 x58 x59 x60 x61 x62 x63 x64 x65 x66 x67 x68 x69 x70 x71 x72 x73 x74 x75 x76 x77 x78 x79 x80 x81 x82 x83 x84 x85 x86 x87 x88 x89 x90 x91 x92 x93 x94 x95 x96 x97 x98 x99 x100 x101 x102 x103 x104 x105 x106 x107 x108 x109 x110 x111 x112 x113 x114 x115 x116 x117 x118 x119 x120 x121 x122 x123 x124 x125 x126 x127 x128 x129 x130 x131 x132 x133 x134 x135 x136 x137 x138 x139 x140 x141 x142 x143 x144 x145 : Value) (H' : Hp) (wx : World), BothB w0 wx O1 O2 ph pa ps br bl cm pl rh ra rs rc rl rw cb rg H' → H'.phase = 0 ∧ H'.st = opsSt (ops.take 60) H.st → K ⟨#[(.slice (some a) ops.length cap), u1, u2, u3, (.pointer (some ⟨ph, 0, none⟩)), u5, (.pointer (some ⟨rh, 0, none⟩)), u7, x8, x9, x10, x11, x12, x13, x14, x15, u16, u17, u18, u19, u20, u21, u22, u23, u24, u25, u26, u27, u28, u29, u30, u31, u32, u33, u34, x35, x36, x37, x38, x39, x40, x41, x42, x43, x44, x45, x46, x47, x48, x49, x50, x51, x52, x53, x54, x55, x56, x57, x58, x59, x60, x61, x62, x63, x64, x65, x66, x67, x68, x69, x70, x71, x72, x73, x74, x75, x76, x77, x78, x79, x80, x81, x82, x83, x84, x85, x86, x87, x88, x89, x90, x91, x92, x93, x94, x95, x96, x97, x98, x99, x100, x101, x102, x103, x104, x105, x106, x107, x108, x109, x110, x111, x112, x113, x114, x115, x116, x117, x118, x119, x120, x121, x122, x123, x124, x125, x126, x127, x128, x129, x130, x131, x132, x133, x134, x135, x136, x137, x138, x139, x140, x141, x142, x143, x144, x145, u146, u147], []⟩ wx) :
    Code.wp Try.prog buL5Code (Exit.then K Q) ⟨#[(.slice (some a) ops.length cap), u1, u2, u3, (.pointer (some ⟨ph, 0, none⟩)), u5, (.pointer (some ⟨rh, 0, none⟩)), u7, (.int .i64 0), u9, u10, u11, u12, u13, u14, u15, u16, u17, u18, u19, u20, u21, u22, u23, u24, u25, u26, u27, u28, u29, u30, u31, u32, u33, u34, u35, u36, u37, u38, u39, u40, u41, u42, u43, u44, u45, u46, u47, u48, u49, u50, u51, u52, u53, u54, u55, u56, u57, u58, u59, u60, u61, u62, u63, u64, u65, u66, u67, u68, u69, u70, u71, u72, u73, u74, u75, u76, u77, u78, u79, u80, u81, u82, u83, u84, u85, u86, u87, u88, u89, u90, u91, u92, u93, u94, u95, u96, u97, u98, u99, u100, u101, u102, u103, u104, u105, u106, u107, u108, u109, u110, u111, u112, u113, u114, u115, u116, u117, u118, u119, u120, u121, u122, u123, u124, u125, u126, u127, u128, u129, u130, u131, u132, u133, u134, u135, u136, u137, u138, u139, u140, u141, u142, u143, u144, u145, u146, u147], []⟩ w := by
  conv => arg 2; whnf
  conv => arg 4; dsimp only
  go_wp2
  go_loopw [8] (fun i wr => ∃ (m : Nat) (H' : Hp), m ≤ ops.length ∧ m ≤ 60 ∧ i = .int .i64 m ∧ BothB w0 wr O1 O2 ph pa ps br bl cm pl rh ra rs rc rl rw cb rg H' ∧ H'.phase = 0 ∧ H'.st = opsSt (ops.take m) H.st) (fun i _ => ops.length - (intOf i).toNat)
  case atStart => exact ⟨0, H, by omega, by omega, rfl, hT, hp, rfl⟩
  case round =>
    clear hT
    obtain ⟨m, H', hm, hm60, rfl, hT, hph, hst⟩ := hrel
    have HPH := Lib.hid hph
    have HST := Lib.hid hst
    clear hph hst hp
    by_cases hlt : m < ops.length ∧ m < 60
    case neg =>
      have hse : opsSt (ops.take m) H.st = opsSt (ops.take 60) H.st := by
        congr 1
        by_cases h1 : m < ops.length
        · have : m = 60 := by omega
          rw [this]
        · rw [List.take_of_length_le (by omega), List.take_of_length_le (by omega)]
      have HSE := Lib.hid hse
      clear hse
      by_cases h1 : m < ops.length
      · obtain rfl : m = 60 := by omega
        go_wp2
        apply hPost
        · exact hT
        · exact ⟨HPH.out, HST.out⟩
      · obtain rfl : m = ops.length := by omega
        go_wp2
        apply hPost
        · exact hT
        · exact ⟨HPH.out, HST.out.trans HSE.out⟩
    obtain ⟨h1, h2⟩ := hlt
    have hsucc := opsSt_take h1 H.st
    have HSU := Lib.hid hsucc
    have hfo := hfits.out _ (List.getElem_mem h1)
    have HFO := Lib.hid hfo
    clear hsucc hfo
    have ho := List.getElem?_eq_getElem h1
    generalize ops[m] = o at *
    obtain ⟨c0, c1, c2, c3, c4, c5⟩ := hops.out m _ ho
    have hcc := fun j => (hT.B.cell (p := a.add j) (by unfold Addr.add; split <;> exact hab (by omega)))
    rw [← hcc] at c0 c1 c2 c3 c4 c5
    clear hcc ho
    have hA1 : ∀ j, a.add (m * 6 + (j + 1)) = ⟨(a.add (m * 6)).block, (a.add (m * 6)).off + (j + 1), none⟩ := by
      intro j; unfold Addr.add
      by_cases h0 : m * 6 = 0
      · simp [h0]
      · simp [h0]; omega
    rw [hA1 0] at c1
    rw [hA1 1] at c2
    rw [hA1 2] at c3
    rw [hA1 3] at c4
    rw [hA1 4] at c5
    simp only [Nat.zero_add, Nat.reduceAdd] at c1 c2 c3 c4 c5
    clear hA1
    have HC := Lib.hid (And.intro c0 (And.intro c1 (And.intro c2 (And.intro c3 (And.intro c4 c5)))))
    clear c0 c1 c2 c3 c4 c5
    go_upto_block 1 with (fail)
    obtain ⟨c0, c1, c2, c3, c4, c5⟩ := HC.out
    clear HC
    refine wp_block (wp_then ?_)
    refine wp_seq_k fun K1 hK1 => ?_
    refine buR8 a ops.length cap m h1 hcl hcm o c0 c1 c2 c3 c4 c5 ?_
    intros
    rename_i w4 hw4
    refine hK1 _ _ ?_
    clear hK1 c0 c1 c2 c3 c4 c5
    have hR4 : RndH w0 w4 O1 O2 ph pa ps br bl cm pl rh ra rs rc rl rw cb rg H' wr.heap.size o := by
      subst hw4
      exact ⟨hT.below ((Below.refl _ wr).alloc (Nat.le_refl _) _), Arr.made wr 137 [.int .i64 o.kd, .int .i64 o.k, .int .i64 o.n, .int .i64 o.at_, .int .i64 o.j, .int .i64 o.v], hT.B.size, fun h => Nat.lt_irrefl _ (hT.P.lt _ h), fun h => Nat.lt_irrefl _ (hT.R.lt _ h)⟩
    clear hw4 hT
    generalize wr.heap.size = bx at *
    refine wp_seq_k fun K1 hK1 => ?_
    refine buR9 hR4 ?_
    intros
    rename_i w5 hR5 hs5
    refine hK1 _ _ ?_
    clear hK1 hR4
    refine wp_seq_k fun K1 hK1 => ?_
    refine buR10 ?_
    intros
    rename_i w6 hw6
    subst hw6
    refine hK1 _ _ ?_
    clear hK1
    refine wp_seq_k fun K1 hK1 => ?_
    refine buR11 hR5 _ _ hs5 ?_
    intros
    rename_i w7 hR7
    refine hK1 _ _ ?_
    clear hK1 hR5 hs5
    refine buR13 hR7 HPH.out HFO.out ?_
    intros
    rename_i H2 w8 hR8 hH2
    have hT8 := hR8.T
    have HH2 := Lib.hid hH2
    clear hR7 hR8 hH2
    go_wp2
    go_roundw
    case rel => exact ⟨m + 1, H2, by omega, by omega, by go_num, hT8, HH2.out.1, by rw [HSU.out, HH2.out.2, HST.out]⟩
    case measure => simp [intOf]; omega

def BuiltPost (ops : List Op6) (w : World) (e : Ending) (w' : World) : Prop :=
  ∃ (O1 O2 : Nat → Prop) (ph pa ps br bl cm pl rh ra rs rc rl rw cb rg : Nat) (H : Hp), e = .returned (.tuple #[.pointer (some ⟨ph, 0, none⟩), .pointer (some ⟨rh, 0, none⟩)]) ∧ BothB w w' O1 O2 ph pa ps br bl cm pl rh ra rs rc rl rw cb rg H ∧ H.phase = 0 ∧ H.st = opsSt (ops.take 60) (arNew 6)
theorem both_new {w w1 w2 : World} {n : Nat} {ph pa ps br bl cm pl rh ra rs rc rl rw cb rg : Nat} (hP : HeapB w1 (fun k => w.heap.size ≤ k ∧ k < w1.heap.size) ph pa ps br bl cm pl (hpNew n)) (hb1 : Below w.heap.size w w1) (hR : RHeapB w2 (fun k => w1.heap.size ≤ k ∧ k < w2.heap.size) rh ra rs rc rl rw cb rg (hpNew n)) (hb2 : Below w1.heap.size w1 w2) :
    BothB w w2 (fun k => w.heap.size ≤ k ∧ k < w1.heap.size) (fun k => w1.heap.size ≤ k ∧ k < w2.heap.size) ph pa ps br bl cm pl rh ra rs rc rl rw cb rg (hpNew n) :=
  ⟨hP.below hb2, hR, fun k h1 h2 => by omega, fun k h => h.1, fun k h => by have := hb1.size; omega, below_then hb1 hb2, arNew_fit n⟩
set_option maxRecDepth 1000000 in
set_option maxHeartbeats 2000000 in
theorem builtCalls {w : World} {v : Value} {ops : List Op6} (ho : OpsAt w v ops) (hf : ∀ o ∈ ops, o.fit) : Calls Try.prog 42 #[v] w (BuiltPost ops w) := by
  have HF := Lib.hid hf
  clear hf
  rcases ho with ⟨rfl, rfl⟩ | ⟨a, cap, rfl, hcl, hcm, hab, hops⟩
  · go_enter Try.func42, Try.ntmps42
    go_wp2_with fail
    refine (hNew 6 (by omega) (by omega) w).mono ?_
    rintro e w1 ⟨ph, pa, ps, br, bl, cm, pl, rfl, hP, hb1⟩
    go_wp2_with fail
    refine (rHNew 6 (by omega) (by omega) w1).mono ?_
    rintro e w2 ⟨rh, ra, rs, rc, rl, rw, cb, rg, rfl, hR, hb2⟩
    have hT := both_new hP hb1 hR hb2
    have hA := Lib.hid (hArena hT.P)
    have HT := Lib.hid hT
    clear hP hb1 hR hb2 hT
    go_wp2_with (go_at_call 52; refine hA.out.mono ?_; rintro e w3 ⟨rfl, rfl⟩)
    go_loopw [8] (fun i wr => i = .int .i64 0 ∧ wr = w2) (fun _ _ => 0)
    case atStart => exact ⟨rfl, rfl⟩
    case round =>
      obtain ⟨rfl, rfl⟩ := hrel
      go_wp2
      go_ret2
      exact ⟨_, _, _, _, _, _, _, _, _, _, _, _, _, _, _, _, _, _, rfl, HT.out, rfl, rfl⟩
  unfold maxLen at hcm
  have HOPS := Lib.hid hops
  clear hops
  go_enter Try.func42, Try.ntmps42
  go_wp2_with fail
  refine (hNew 6 (by omega) (by omega) w).mono ?_
  rintro e w1 ⟨ph, pa, ps, br, bl, cm, pl, rfl, hP, hb1⟩
  go_wp2_with fail
  refine (rHNew 6 (by omega) (by omega) w1).mono ?_
  rintro e w2 ⟨rh, ra, rs, rc, rl, rw, cb, rg, rfl, hR, hb2⟩
  have hT := both_new hP hb1 hR hb2
  have hA := Lib.hid (hArena hT.P)
  have HT := Lib.hid hT
  clear hP hb1 hR hb2 hT
  go_upto_block 0 with (go_at_call 52; refine hA.out.mono ?_; rintro e w3 ⟨rfl, rfl⟩)
  refine wp_then ?_
  refine buL5 HT.out rfl a ops cap hcl hcm hab HOPS HF ?_
  intros
  rename_i H' w4 hT4 hH
  have HT4 := Lib.hid hT4
  have HH := Lib.hid hH
  clear hT4 hH HT hA
  go_wp2
  go_ret2
  exact ⟨_, _, _, _, _, _, _, _, _, _, _, _, _, _, _, _, _, H', rfl, HT4.out, HH.out.1, HH.out.2⟩
end Go.Proofs.Ytccaegiceneegaa
