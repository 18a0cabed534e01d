/- Pieces of the law's heap that is built by ops. No conditions. -/
import Derived.Test.YtccaegiceneegaaBoth
import Derived.Test.YtccaegiceneegaaCloseB
namespace Go.Proofs.Ytccaegiceneegaa
open Go.RowKit

/-- a part of a function's code, by its path -/
def Code.sub : Code → List Nat → Code
  | c, [] => c
  | c, n :: r => match c with
    | .seq a b => if n = 0 then Code.sub a r else Code.sub b r
    | .cond _ a b => if n = 0 then Code.sub a r else Code.sub b r
    | .block _ a => Code.sub a r
    | .loop a => Code.sub a r
    | .scope a => Code.sub a r
    | c => c
theorem wp_then {P : Program} {c : Code} {R : Exit → Act → World → Prop} {a : Act} {w : World} (h : Code.wp P c (Exit.then (R .normal) R) a w) : Code.wp P c R a w :=
  Code.wp_mono (fun e a w q => by cases e <;> exact q) h
theorem refPtr (v : Int) (h1 : -1000000 ≤ v) (h2 : v ≤ 1000000) (w : World) : Calls Try.prog 55 #[.int .i64 v] w fun e w' => e = .returned (.int .i64 (v * 2 + 1)) ∧ w = w' := by
  go_enter Try.func55, Try.ntmps55
  go_wp2
  go_ret
  exact ⟨rfl, rfl⟩

/-- an op of the law: Kind, Of, At, I, W, To -/
def opSt (st : Ar) (o : Op6) : Ar :=
  if o.kd = 1 then arStoreN st (pickI (castL (arObjs st)) o.n) o.at_ o.j
  else if o.kd = 2 then arStoreN st (pickI (castL (arObjs st)) o.n) (modU o.at_ 10) (pickI (castL (arObjs st)) o.v * 2 + 1)
  else if o.kd = 3 then arFreeN st (pickI (castL (arObjs st)) o.n)
  else arAllocN st (1 + modU o.k 6) (szK (1 + modU o.k 6))

/-- a round's state: both heaps, and the op's box -/
structure RndH (w0 w : World) (O1 O2 : Nat → Prop) (ph pa ps br bl cm pl rh ra rs rc rl rw cb rg : Nat) (H : Hp) (bx : Nat) (o : Op6) : Prop where
  T : BothB w0 w O1 O2 ph pa ps br bl cm pl rh ra rs rc rl rw cb rg H
  x : Arr w bx 137 [.int .i64 o.kd, .int .i64 o.k, .int .i64 o.n, .int .i64 o.at_, .int .i64 o.j, .int .i64 o.v]
  h : w0.heap.size ≤ bx
  n1 : ¬ O1 bx
  n2 : ¬ O2 bx
theorem RndH.below {w0 w w' : World} {O1 O2 : Nat → Prop} {ph pa ps br bl cm pl rh ra rs rc rl rw cb rg : Nat} {H : Hp} {bx : Nat} {o : Op6} (h : RndH w0 w O1 O2 ph pa ps br bl cm pl rh ra rs rc rl rw cb rg H bx o) (hb : Below w.heap.size w w') : RndH w0 w' O1 O2 ph pa ps br bl cm pl rh ra rs rc rl rw cb rg H bx o :=
  ⟨h.T.below hb, h.x.belowAll hb, h.h, h.n1, h.n2⟩

theorem RndH.turn {w0 w w1 w2 : World} {O1 O2 : Nat → Prop} {ph pa ps br bl cm pl rh ra rs rc rl rw cb rg : Nat} {H H' : Hp} {bx : Nat} {o : Op6} (h : RndH w0 w O1 O2 ph pa ps br bl cm pl rh ra rs rc rl rw cb rg H bx o) {S : Nat → Prop} (hu : Upd S w w1) (hS : ∀ k, S k → O1 k) (hP : HeapB w1 O1 ph pa ps br bl cm pl H') {T : Nat → Prop} (hv : Upd T w1 w2) (hT : ∀ k, T k → O2 k) (hR : RHeapB w2 O2 rh ra rs rc rl rw cb rg H') (hf : H'.st.fit) : RndH w0 w2 O1 O2 ph pa ps br bl cm pl rh ra rs rc rl rw cb rg H' bx o :=
  ⟨h.T.turn hu hS hP hv hT hR hf, hv.arr (hu.arr h.x (fun hs => h.n1 (hS _ hs))) (fun ht => h.n2 (hT _ ht)), h.h, h.n1, h.n2⟩
theorem pickI_bd {st : Ar} (hs : st.cells.length ≤ 4096) (n : Int) : -1 ≤ pickI (castL (arObjs st)) n ∧ pickI (castL (arObjs st)) n ≤ 4096 := by
  by_cases h0 : (castL (arObjs st)).length = 0
  · unfold pickI; rw [if_pos h0]; omega
  · have hl : (castL (arObjs st)).length ≤ 4096 := by have := objsTo_length st st.cells.length; simp [castL, arObjs]; omega
    obtain ⟨r, hr, _, hp⟩ := pickI_mem (by omega) hl n
    have hm := List.mem_of_getElem? hp
    obtain ⟨q, hq, e⟩ := List.mem_map.1 hm
    have : q < st.cells.length := by
      unfold arObjs objsTo at hq
      have := (List.mem_filter.1 hq).1
      simpa using this
    rw [← e]; omega
theorem szK_cases {md : Int} (h : 0 ≤ md ∧ md < 6) : (md = 0 ∧ 1 + md = 1 ∧ szK (1 + md) = 9) ∨ (md = 1 ∧ 1 + md = 2 ∧ szK (1 + md) = 3) ∨ (md = 2 ∧ 1 + md = 3 ∧ szK (1 + md) = 7) ∨ (md = 3 ∧ 1 + md = 4 ∧ szK (1 + md) = 10) ∨ (md = 4 ∧ 1 + md = 5 ∧ szK (1 + md) = 2) ∨ (md = 5 ∧ 1 + md = 6 ∧ szK (1 + md) = 2) := by
  have : md = 0 ∨ md = 1 ∨ md = 2 ∨ md = 3 ∨ md = 4 ∨ md = 5 := by omega
  rcases this with rfl | rfl | rfl | rfl | rfl | rfl <;> decide
theorem arFree_len {st : Ar} (h : st.ok) (i : Int) : (arFreeN st i).cells.length = st.cells.length := by
  unfold arFreeN
  cases hd : st.head i with
  | none => rfl
  | some kn =>
    obtain ⟨k, n⟩ := kn
    obtain ⟨p, rfl, hp⟩ := Ar.head_some hd
    obtain ⟨_, _, _, _, _, b6⟩ := h.fits hp
    simp only
    exact setRange_length (by simp; omega)
noncomputable def buR8Code : Code := Code.sub (Try.f42.body.getD .skip) [1, 1, 1, 1, 0, 1, 0, 0, 1, 0, 0, 0]
set_option maxRecDepth 1000000 in
set_option maxHeartbeats 2000000 in
theorem buR8 {w : World} (a : Addr) (n cap m : Nat) (hm : m < n) (_hnc : n ≤ cap) (_hcap : cap ≤ 9223372036854775807) (o : Op6) (c0 : w.cell? (a.add (m * 6)) = some (.int .i64 o.kd)) (c1 : w.cell? ⟨(a.add (m * 6)).block, (a.add (m * 6)).off + 1, none⟩ = some (.int .i64 o.k)) (c2 : w.cell? ⟨(a.add (m * 6)).block, (a.add (m * 6)).off + 2, none⟩ = some (.int .i64 o.n)) (c3 : w.cell? ⟨(a.add (m * 6)).block, (a.add (m * 6)).off + 3, none⟩ = some (.int .i64 o.at_)) (c4 : w.cell? ⟨(a.add (m * 6)).block, (a.add (m * 6)).off + 4, none⟩ = some (.int .i64 o.j)) (c5 : w.cell? ⟨(a.add (m * 6)).block, (a.add (m * 6)).off + 5, none⟩ = some (.int .i64 o.v))
    {u1 u2 u3 u4 u5 u6 u7 u9 u10 u11 u12 u13 u14 u15 u16 u17 u18 u19 u20 u21 u22 u23 u24 u25 u26 u27 u28 u29 u30 u31 u32 u33 u34 u35 u36 u37 u38 u39 u40 u41 u42 u43 u44 u45 u46 u47 u48 u49 u50 u51 u52 u53 u54 u55 u56 u57 u58 u59 u60 u61 u62 u63 u64 u65 u66 u67 u68 u69 u70 u71 u72 u73 u74 u75 u76 u77 u78 u79 u80 u81 u82 u83 u84 u85 u86 u87 u88 u89 u90 u91 u92 u93 u94 u95 u96 u97 u98 u99 u100 u101 u102 u103 u104 u105 u106 u107 u108 u109 u110 u111 u112 u113 u114 u115 u116 u117 u118 u119 u120 u121 u122 u123 u124 u125 u126 u127 u128 u129 u130 u131 u132 u133 u134 u135 u136 u137 u138 u139 u140 u141 u142 u143 u144 u145 u146 u147 : Value} {K : Act → World → Prop} {Q : Exit → Act → World → Prop}
    (hPost : ∀ (x45 x46 x47 x48 : Value) (wx : World), wx = w.alloc (.cells #[.int .i64 o.kd, .int .i64 o.k, .int .i64 o.n, .int .i64 o.at_, .int .i64 o.j, .int .i64 o.v] 137) → K ⟨#[(.slice (some a) n cap), u1, u2, u3, u4, u5, u6, u7, (.int .i64 m), (.pointer (some ⟨w.heap.size, 0, none⟩)), u10, u11, u12, u13, u14, u15, u16, u17, u18, u19, u20, u21, u22, u23, u24, u25, u26, u27, u28, u29, u30, u31, u32, u33, u34, u35, u36, u37, u38, u39, u40, u41, u42, u43, u44, x45, x46, x47, x48, u49, u50, u51, u52, u53, u54, u55, u56, u57, u58, u59, u60, u61, u62, u63, u64, u65, u66, u67, u68, u69, u70, u71, u72, u73, u74, u75, u76, u77, u78, u79, u80, u81, u82, u83, u84, u85, u86, u87, u88, u89, u90, u91, u92, u93, u94, u95, u96, u97, u98, u99, u100, u101, u102, u103, u104, u105, u106, u107, u108, u109, u110, u111, u112, u113, u114, u115, u116, u117, u118, u119, u120, u121, u122, u123, u124, u125, u126, u127, u128, u129, u130, u131, u132, u133, u134, u135, u136, u137, u138, u139, u140, u141, u142, u143, u144, u145, u146, u147], []⟩ wx) :
    Code.wp Try.prog buR8Code (Exit.then K Q) ⟨#[(.slice (some a) n cap), u1, u2, u3, u4, u5, u6, u7, (.int .i64 m), u9, u10, u11, u12, u13, u14, u15, u16, u17, u18, u19, u20, u21, u22, u23, u24, u25, u26, u27, u28, u29, u30, u31, u32, u33, u34, u35, u36, u37, u38, u39, u40, u41, u42, u43, u44, u45, u46, u47, u48, u49, u50, u51, u52, u53, u54, u55, u56, u57, u58, u59, u60, u61, u62, u63, u64, u65, u66, u67, u68, u69, u70, u71, u72, u73, u74, u75, u76, u77, u78, u79, u80, u81, u82, u83, u84, u85, u86, u87, u88, u89, u90, u91, u92, u93, u94, u95, u96, u97, u98, u99, u100, u101, u102, u103, u104, u105, u106, u107, u108, u109, u110, u111, u112, u113, u114, u115, u116, u117, u118, u119, u120, u121, u122, u123, u124, u125, u126, u127, u128, u129, u130, u131, u132, u133, u134, u135, u136, u137, u138, u139, u140, u141, u142, u143, u144, u145, u146, u147], []⟩ w := by
  conv => arg 2; whnf
  go_wp2
  rfl

noncomputable def buR9Code : Code := Code.sub (Try.f42.body.getD .skip) [1, 1, 1, 1, 0, 1, 0, 0, 1, 0, 0, 1, 0]
set_option maxRecDepth 1000000 in
set_option maxHeartbeats 2000000 in
theorem buR9 {w0 w : World} {O1 O2 : Nat → Prop} {ph pa ps br bl cm pl rh ra rs rc rl rw cb rg : Nat} {H : Hp} {bx : Nat} {o : Op6} (hR : RndH w0 w O1 O2 ph pa ps br bl cm pl rh ra rs rc rl rw cb rg H bx o)
    {u0 u1 u2 u3 u4 u5 u7 u8 u9 u10 u11 u12 u13 u14 u15 u16 u17 u18 u19 u20 u21 u22 u23 u24 u25 u26 u27 u28 u29 u30 u31 u32 u33 u34 u35 u36 u37 u38 u39 u40 u41 u42 u43 u44 u45 u46 u47 u48 u49 u50 u51 u52 u53 u54 u55 u56 u57 u58 u59 u60 u61 u62 u63 u64 u65 u66 u67 u68 u69 u70 u71 u72 u73 u74 u75 u76 u77 u78 u79 u80 u81 u82 u83 u84 u85 u86 u87 u88 u89 u90 u91 u92 u93 u94 u95 u96 u97 u98 u99 u100 u101 u102 u103 u104 u105 u106 u107 u108 u109 u110 u111 u112 u113 u114 u115 u116 u117 u118 u119 u120 u121 u122 u123 u124 u125 u126 u127 u128 u129 u130 u131 u132 u133 u134 u135 u136 u137 u138 u139 u140 u141 u142 u143 u144 u145 u146 u147 : Value} {K : Act → World → Prop} {Q : Exit → Act → World → Prop}
    (hPost : ∀ (x10 x49 x50 x51 x52 x53 : Value) (wx : World), RndH w0 wx O1 O2 ph pa ps br bl cm pl rh ra rs rc rl rw cb rg H bx o → IntSl wx w.heap.size x10 (castL (arObjs H.st)) → K ⟨#[u0, u1, u2, u3, u4, u5, (.pointer (some ⟨rh, 0, none⟩)), u7, u8, u9, x10, u11, u12, u13, u14, u15, u16, u17, u18, u19, u20, u21, u22, u23, u24, u25, u26, u27, u28, u29, u30, u31, u32, u33, u34, u35, u36, u37, u38, u39, u40, u41, u42, u43, u44, u45, u46, u47, u48, x49, x50, x51, x52, x53, u54, u55, u56, u57, u58, u59, u60, u61, u62, u63, u64, u65, u66, u67, u68, u69, u70, u71, u72, u73, u74, u75, u76, u77, u78, u79, u80, u81, u82, u83, u84, u85, u86, u87, u88, u89, u90, u91, u92, u93, u94, u95, u96, u97, u98, u99, u100, u101, u102, u103, u104, u105, u106, u107, u108, u109, u110, u111, u112, u113, u114, u115, u116, u117, u118, u119, u120, u121, u122, u123, u124, u125, u126, u127, u128, u129, u130, u131, u132, u133, u134, u135, u136, u137, u138, u139, u140, u141, u142, u143, u144, u145, u146, u147], []⟩ wx) :
    Code.wp Try.prog buR9Code (Exit.then K Q) ⟨#[u0, u1, u2, u3, u4, u5, (.pointer (some ⟨rh, 0, none⟩)), u7, u8, u9, u10, u11, u12, u13, u14, u15, u16, u17, u18, u19, u20, u21, u22, u23, u24, u25, u26, u27, u28, u29, u30, u31, u32, u33, u34, u35, u36, u37, u38, u39, u40, u41, u42, u43, u44, u45, u46, u47, u48, u49, u50, u51, u52, u53, u54, u55, u56, u57, u58, u59, u60, u61, u62, u63, u64, u65, u66, u67, u68, u69, u70, u71, u72, u73, u74, u75, u76, u77, u78, u79, u80, u81, u82, u83, u84, u85, u86, u87, u88, u89, u90, u91, u92, u93, u94, u95, u96, u97, u98, u99, u100, u101, u102, u103, u104, u105, u106, u107, u108, u109, u110, u111, u112, u113, u114, u115, u116, u117, u118, u119, u120, u121, u122, u123, u124, u125, u126, u127, u128, u129, u130, u131, u132, u133, u134, u135, u136, u137, u138, u139, u140, u141, u142, u143, u144, u145, u146, u147], []⟩ w := by
  conv => arg 2; whnf
  have c0 := hR.T.R.head.cell (j := 0) rfl
  have HC := Lib.hid (rObjects hR.T.R.arena)
  go_wp2_with fail
  refine HC.out.mono ?_
  rintro e w5 ⟨vo, rfl, hso, hb5⟩
  go_wp2
  apply hPost
  · exact hR.below hb5
  · exact hso

noncomputable def buR10Code : Code := Code.sub (Try.f42.body.getD .skip) [1, 1, 1, 1, 0, 1, 0, 0, 1, 0, 0, 1, 1, 0]
set_option maxRecDepth 1000000 in
set_option maxHeartbeats 2000000 in
theorem buR10 {w : World}
    {u0 u1 u2 u3 u4 u5 u6 u7 u8 u9 u10 u11 u12 u13 u14 u15 u16 u17 u18 u19 u20 u21 u22 u23 u24 u25 u26 u27 u28 u29 u30 u31 u32 u33 u34 u35 u36 u37 u38 u39 u40 u41 u42 u43 u44 u45 u46 u47 u48 u49 u50 u51 u52 u53 u54 u55 u56 u57 u58 u59 u60 u61 u62 u63 u64 u65 u66 u67 u68 u69 u70 u71 u72 u73 u74 u75 u76 u77 u78 u79 u80 u81 u82 u83 u84 u85 u86 u87 u88 u89 u90 u91 u92 u93 u94 u95 u96 u97 u98 u99 u100 u101 u102 u103 u104 u105 u106 u107 u108 u109 u110 u111 u112 u113 u114 u115 u116 u117 u118 u119 u120 u121 u122 u123 u124 u125 u126 u127 u128 u129 u130 u131 u132 u133 u134 u135 u136 u137 u138 u139 u140 u141 u142 u143 u144 u145 u146 u147 : Value} {K : Act → World → Prop} {Q : Exit → Act → World → Prop}
    (hPost : ∀  (wx : World), wx = w → K ⟨#[u0, u1, u2, u3, u4, u5, u6, u7, u8, u9, u10, (.int .i64 (-1)), (.int .i64 (-1)), u13, u14, u15, u16, u17, u18, u19, u20, u21, u22, u23, u24, u25, u26, u27, u28, u29, u30, u31, u32, u33, u34, u35, u36, u37, u38, u39, u40, u41, u42, u43, u44, u45, u46, u47, u48, u49, u50, u51, u52, u53, u54, u55, u56, u57, u58, u59, u60, u61, u62, u63, u64, u65, u66, u67, u68, u69, u70, u71, u72, u73, u74, u75, u76, u77, u78, u79, u80, u81, u82, u83, u84, u85, u86, u87, u88, u89, u90, u91, u92, u93, u94, u95, u96, u97, u98, u99, u100, u101, u102, u103, u104, u105, u106, u107, u108, u109, u110, u111, u112, u113, u114, u115, u116, u117, u118, u119, u120, u121, u122, u123, u124, u125, u126, u127, u128, u129, u130, u131, u132, u133, u134, u135, u136, u137, u138, u139, u140, u141, u142, u143, u144, u145, u146, u147], []⟩ wx) :
    Code.wp Try.prog buR10Code (Exit.then K Q) ⟨#[u0, u1, u2, u3, u4, u5, u6, u7, u8, u9, u10, u11, u12, u13, u14, u15, u16, u17, u18, u19, u20, u21, u22, u23, u24, u25, u26, u27, u28, u29, u30, u31, u32, u33, u34, u35, u36, u37, u38, u39, u40, u41, u42, u43, u44, u45, u46, u47, u48, u49, u50, u51, u52, u53, u54, u55, u56, u57, u58, u59, u60, u61, u62, u63, u64, u65, u66, u67, u68, u69, u70, u71, u72, u73, u74, u75, u76, u77, u78, u79, u80, u81, u82, u83, u84, u85, u86, u87, u88, u89, u90, u91, u92, u93, u94, u95, u96, u97, u98, u99, u100, u101, u102, u103, u104, u105, u106, u107, u108, u109, u110, u111, u112, u113, u114, u115, u116, u117, u118, u119, u120, u121, u122, u123, u124, u125, u126, u127, u128, u129, u130, u131, u132, u133, u134, u135, u136, u137, u138, u139, u140, u141, u142, u143, u144, u145, u146, u147], []⟩ w := by
  conv => arg 2; whnf
  go_wp2
  rfl

noncomputable def buR11eCode : Code := Code.sub (Try.f42.body.getD .skip) [1, 1, 1, 1, 0, 1, 0, 0, 1, 0, 0, 1, 1, 1, 0]
set_option maxRecDepth 1000000 in
set_option maxHeartbeats 2000000 in
theorem buR11e {w : World} (o : Option Addr) (cap : Nat)
    {u0 u1 u2 u3 u4 u5 u6 u7 u8 u9 u13 u14 u15 u16 u17 u18 u19 u20 u21 u22 u23 u24 u25 u26 u27 u28 u29 u30 u31 u32 u33 u34 u35 u36 u37 u38 u39 u40 u41 u42 u43 u44 u45 u46 u47 u48 u49 u50 u51 u52 u53 u54 u55 u56 u57 u58 u59 u60 u61 u62 u63 u64 u65 u66 u67 u68 u69 u70 u71 u72 u73 u74 u75 u76 u77 u78 u79 u80 u81 u82 u83 u84 u85 u86 u87 u88 u89 u90 u91 u92 u93 u94 u95 u96 u97 u98 u99 u100 u101 u102 u103 u104 u105 u106 u107 u108 u109 u110 u111 u112 u113 u114 u115 u116 u117 u118 u119 u120 u121 u122 u123 u124 u125 u126 u127 u128 u129 u130 u131 u132 u133 u134 u135 u136 u137 u138 u139 u140 u141 u142 u143 u144 u145 u146 u147 : Value} {K : Act → World → Prop} {Q : Exit → Act → World → Prop}
    (hPost : ∀ (x54 x55 x56 x57 x58 x59 x60 x61 x62 x63 x64 x65 x66 x67 x68 x69 x70 x71 x72 x73 x74 x75 x76 x77 x78 : Value) (wx : World), wx = w → K ⟨#[u0, u1, u2, u3, u4, u5, u6, u7, u8, u9, (.slice o 0 cap), (.int .i64 (-1)), (.int .i64 (-1)), u13, u14, u15, u16, u17, u18, u19, u20, u21, u22, u23, u24, u25, u26, u27, u28, u29, u30, u31, u32, u33, u34, u35, u36, u37, u38, u39, u40, u41, u42, u43, u44, u45, u46, u47, u48, u49, u50, u51, u52, u53, x54, x55, x56, x57, x58, x59, x60, x61, x62, x63, x64, x65, x66, x67, x68, x69, x70, x71, x72, x73, x74, x75, x76, x77, x78, u79, u80, u81, u82, u83, u84, u85, u86, u87, u88, u89, u90, u91, u92, u93, u94, u95, u96, u97, u98, u99, u100, u101, u102, u103, u104, u105, u106, u107, u108, u109, u110, u111, u112, u113, u114, u115, u116, u117, u118, u119, u120, u121, u122, u123, u124, u125, u126, u127, u128, u129, u130, u131, u132, u133, u134, u135, u136, u137, u138, u139, u140, u141, u142, u143, u144, u145, u146, u147], []⟩ wx) :
    Code.wp Try.prog buR11eCode (Exit.then K Q) ⟨#[u0, u1, u2, u3, u4, u5, u6, u7, u8, u9, (.slice o 0 cap), (.int .i64 (-1)), (.int .i64 (-1)), u13, u14, u15, u16, u17, u18, u19, u20, u21, u22, u23, u24, u25, u26, u27, u28, u29, u30, u31, u32, u33, u34, u35, u36, u37, u38, u39, u40, u41, u42, u43, u44, u45, u46, u47, u48, u49, u50, u51, u52, u53, u54, u55, u56, u57, u58, u59, u60, u61, u62, u63, u64, u65, u66, u67, u68, u69, u70, u71, u72, u73, u74, u75, u76, u77, u78, u79, u80, u81, u82, u83, u84, u85, u86, u87, u88, u89, u90, u91, u92, u93, u94, u95, u96, u97, u98, u99, u100, u101, u102, u103, u104, u105, u106, u107, u108, u109, u110, u111, u112, u113, u114, u115, u116, u117, u118, u119, u120, u121, u122, u123, u124, u125, u126, u127, u128, u129, u130, u131, u132, u133, u134, u135, u136, u137, u138, u139, u140, u141, u142, u143, u144, u145, u146, u147], []⟩ w := by
  conv => arg 2; whnf
  go_wp2
  rfl

noncomputable def buR11yCode : Code := Code.sub (Try.f42.body.getD .skip) [1, 1, 1, 1, 0, 1, 0, 0, 1, 0, 0, 1, 1, 1, 0]
set_option maxRecDepth 1000000 in
set_option maxHeartbeats 2000000 in
theorem buR11y {w0 w : World} {O1 O2 : Nat → Prop} {ph pa ps br bl cm pl rh ra rs rc rl rw cb rg : Nat} {H : Hp} {bx : Nat} {o : Op6} (hR : RndH w0 w O1 O2 ph pa ps br bl cm pl rh ra rs rc rl rw cb rg H bx o) (g cap : Nat) (xs : List Int) (hl : 0 < xs.length) (hl2 : xs.length ≤ 4096) (_hcap : xs.length ≤ cap) (_hc2 : cap ≤ 9223372036854775807) (hx : Arr w g 3 (ints xs))
    {u0 u1 u2 u3 u4 u5 u6 u7 u8 u11 u12 u13 u14 u15 u16 u17 u18 u19 u20 u21 u22 u23 u24 u25 u26 u27 u28 u29 u30 u31 u32 u33 u34 u35 u36 u37 u38 u39 u40 u41 u42 u43 u44 u45 u46 u47 u48 u49 u50 u51 u52 u53 u54 u55 u56 u57 u58 u59 u60 u61 u62 u63 u64 u65 u66 u67 u68 u69 u70 u71 u72 u73 u74 u75 u76 u77 u78 u79 u80 u81 u82 u83 u84 u85 u86 u87 u88 u89 u90 u91 u92 u93 u94 u95 u96 u97 u98 u99 u100 u101 u102 u103 u104 u105 u106 u107 u108 u109 u110 u111 u112 u113 u114 u115 u116 u117 u118 u119 u120 u121 u122 u123 u124 u125 u126 u127 u128 u129 u130 u131 u132 u133 u134 u135 u136 u137 u138 u139 u140 u141 u142 u143 u144 u145 u146 u147 : Value} {K : Act → World → Prop} {Q : Exit → Act → World → Prop}
    (hPost : ∀ (x54 x55 x56 x57 x58 x59 x60 x61 x62 x63 x64 x65 x66 x67 x68 x69 x70 x71 x72 x73 x74 x75 x76 x77 x78 : Value) (wx : World), RndH w0 wx O1 O2 ph pa ps br bl cm pl rh ra rs rc rl rw cb rg H bx o → Below w.heap.size w wx → K ⟨#[u0, u1, u2, u3, u4, u5, u6, u7, u8, (.pointer (some ⟨bx, 0, none⟩)), (.slice (some ⟨g, 0, none⟩) xs.length cap), (.int .i64 (pickI xs o.n)), (.int .i64 (pickI xs o.v)), u13, u14, u15, u16, u17, u18, u19, u20, u21, u22, u23, u24, u25, u26, u27, u28, u29, u30, u31, u32, u33, u34, u35, u36, u37, u38, u39, u40, u41, u42, u43, u44, u45, u46, u47, u48, u49, u50, u51, u52, u53, x54, x55, x56, x57, x58, x59, x60, x61, x62, x63, x64, x65, x66, x67, x68, x69, x70, x71, x72, x73, x74, x75, x76, x77, x78, u79, u80, u81, u82, u83, u84, u85, u86, u87, u88, u89, u90, u91, u92, u93, u94, u95, u96, u97, u98, u99, u100, u101, u102, u103, u104, u105, u106, u107, u108, u109, u110, u111, u112, u113, u114, u115, u116, u117, u118, u119, u120, u121, u122, u123, u124, u125, u126, u127, u128, u129, u130, u131, u132, u133, u134, u135, u136, u137, u138, u139, u140, u141, u142, u143, u144, u145, u146, u147], []⟩ wx) :
    Code.wp Try.prog buR11yCode (Exit.then K Q) ⟨#[u0, u1, u2, u3, u4, u5, u6, u7, u8, (.pointer (some ⟨bx, 0, none⟩)), (.slice (some ⟨g, 0, none⟩) xs.length cap), u11, u12, u13, u14, u15, u16, u17, u18, u19, u20, u21, u22, u23, u24, u25, u26, u27, u28, u29, u30, u31, u32, u33, u34, u35, u36, u37, u38, u39, u40, u41, u42, u43, u44, u45, u46, u47, u48, u49, u50, u51, u52, u53, u54, u55, u56, u57, u58, u59, u60, u61, u62, u63, u64, u65, u66, u67, u68, u69, u70, u71, u72, u73, u74, u75, u76, u77, u78, u79, u80, u81, u82, u83, u84, u85, u86, u87, u88, u89, u90, u91, u92, u93, u94, u95, u96, u97, u98, u99, u100, u101, u102, u103, u104, u105, u106, u107, u108, u109, u110, u111, u112, u113, u114, u115, u116, u117, u118, u119, u120, u121, u122, u123, u124, u125, u126, u127, u128, u129, u130, u131, u132, u133, u134, u135, u136, u137, u138, u139, u140, u141, u142, u143, u144, u145, u146, u147], []⟩ w := by
  conv => arg 2; whnf
  have x2 := hR.x.cell (j := 2) rfl
  have x5 := hR.x.cell (j := 5) rfl
  obtain ⟨r1, hr1, hre1, hp1⟩ := pickI_mem hl hl2 o.n
  obtain ⟨r2, hr2, hre2, hp2⟩ := pickI_mem hl hl2 o.v
  have cx1 := hx.cell (j := r1) (v := .int .i64 (pickI xs o.n)) (by simp [ints, hp1])
  have cx2 := hx.cell (j := r2) (v := .int .i64 (pickI xs o.v)) (by simp [ints, hp2])
  have HB := Lib.hid (fun n => hR.below (below_drewNs (Below.refl _ w) n))
  have HB2 := Lib.hid (fun n => below_drewNs (Below.refl w.heap.size w) n)
  clear hp1 hp2 hx hR
  generalize pickI xs o.n = p1 at *
  generalize pickI xs o.v = p2 at *
  go_upto_region 12 with (fail)
  go_quiet (fail)
  go_wp2
  apply hPost
  · exact HB.out _
  · exact HB2.out _

noncomputable def buR13aCode : Code := Code.sub (Try.f42.body.getD .skip) [1, 1, 1, 1, 0, 1, 0, 0, 1, 0, 0, 1, 1, 1, 1]
set_option maxRecDepth 1000000 in
set_option maxHeartbeats 2000000 in
theorem buR13a {w0 w : World} {O1 O2 : Nat → Prop} {ph pa ps br bl cm pl rh ra rs rc rl rw cb rg : Nat} {H : Hp} {bx : Nat} {o : Op6} (hR : RndH w0 w O1 O2 ph pa ps br bl cm pl rh ra rs rc rl rw cb rg H bx o) (hp : H.phase = 0) (hf : o.fit) (hk : o.kd = 1)
    {u0 u1 u2 u3 u5 u7 u8 u10 u13 u14 u15 u16 u17 u18 u19 u20 u21 u22 u23 u24 u25 u26 u27 u28 u29 u30 u31 u32 u33 u34 u35 u36 u37 u38 u39 u40 u41 u42 u43 u44 u45 u46 u47 u48 u49 u50 u51 u52 u53 u54 u55 u56 u57 u58 u59 u60 u61 u62 u63 u64 u65 u66 u67 u68 u69 u70 u71 u72 u73 u74 u75 u76 u77 u78 u79 u80 u81 u82 u83 u84 u85 u86 u87 u88 u89 u90 u91 u92 u93 u94 u95 u96 u97 u98 u99 u100 u101 u102 u103 u104 u105 u106 u107 u108 u109 u110 u111 u112 u113 u114 u115 u116 u117 u118 u119 u120 u121 u122 u123 u124 u125 u126 u127 u128 u129 u130 u131 u132 u133 u134 u135 u136 u137 u138 u139 u140 u141 u142 u143 u144 u145 u146 u147 : Value} {K : Act → World → Prop} {Q : Exit → Act → World → Prop}
    (hPost : ∀ (x13 x14 x15 x79 x80 x81 x82 x83 x84 x85 x86 x87 x88 x89 x90 x91 x92 x93 x94 x95 x96 x97 x98 x99 x100 x101 x102 x103 x104 x105 x106 x107 x108 x109 x110 x111 x112 x113 x114 x115 x116 x117 x118 x119 x120 x121 x122 x123 x124 x125 x126 x127 x128 x129 x130 x131 x132 x133 x134 x135 x136 x137 x138 x139 x140 x141 x142 x143 x144 x145 : Value) (H' : Hp) (wx : World), RndH w0 wx O1 O2 ph pa ps br bl cm pl rh ra rs rc rl rw cb rg H' bx o → H'.phase = 0 ∧ H'.st = opSt H.st o → K ⟨#[u0, u1, u2, u3, (.pointer (some ⟨ph, 0, none⟩)), u5, (.pointer (some ⟨rh, 0, none⟩)), u7, u8, (.pointer (some ⟨bx, 0, none⟩)), u10, (.int .i64 (pickI (castL (arObjs H.st)) o.n)), (.int .i64 (pickI (castL (arObjs H.st)) o.v)), x13, x14, x15, u16, u17, u18, u19, u20, u21, u22, u23, u24, u25, u26, u27, u28, u29, u30, u31, u32, u33, u34, u35, u36, u37, u38, u39, u40, u41, u42, u43, u44, u45, u46, u47, u48, u49, u50, u51, u52, u53, u54, u55, u56, u57, u58, u59, u60, u61, u62, u63, u64, u65, u66, u67, u68, u69, u70, u71, u72, u73, u74, u75, u76, u77, u78, x79, x80, x81, x82, x83, x84, x85, x86, x87, x88, x89, x90, x91, x92, x93, x94, x95, x96, x97, x98, x99, x100, x101, x102, x103, x104, x105, x106, x107, x108, x109, x110, x111, x112, x113, x114, x115, x116, x117, x118, x119, x120, x121, x122, x123, x124, x125, x126, x127, x128, x129, x130, x131, x132, x133, x134, x135, x136, x137, x138, x139, x140, x141, x142, x143, x144, x145, u146, u147], []⟩ wx) :
    Code.wp Try.prog buR13aCode (Exit.then K Q) ⟨#[u0, u1, u2, u3, (.pointer (some ⟨ph, 0, none⟩)), u5, (.pointer (some ⟨rh, 0, none⟩)), u7, u8, (.pointer (some ⟨bx, 0, none⟩)), u10, (.int .i64 (pickI (castL (arObjs H.st)) o.n)), (.int .i64 (pickI (castL (arObjs H.st)) o.v)), u13, u14, u15, u16, u17, u18, u19, u20, u21, u22, u23, u24, u25, u26, u27, u28, u29, u30, u31, u32, u33, u34, u35, u36, u37, u38, u39, u40, u41, u42, u43, u44, u45, u46, u47, u48, u49, u50, u51, u52, u53, u54, u55, u56, u57, u58, u59, u60, u61, u62, u63, u64, u65, u66, u67, u68, u69, u70, u71, u72, u73, u74, u75, u76, u77, u78, u79, u80, u81, u82, u83, u84, u85, u86, u87, u88, u89, u90, u91, u92, u93, u94, u95, u96, u97, u98, u99, u100, u101, u102, u103, u104, u105, u106, u107, u108, u109, u110, u111, u112, u113, u114, u115, u116, u117, u118, u119, u120, u121, u122, u123, u124, u125, u126, u127, u128, u129, u130, u131, u132, u133, u134, u135, u136, u137, u138, u139, u140, u141, u142, u143, u144, u145, u146, u147], []⟩ w := by
  conv => arg 2; whnf
  have hs : opSt H.st o = arStoreN H.st (pickI (castL (arObjs H.st)) o.n) o.at_ o.j := by simp [opSt, hk]
  have HS := Lib.hid hs
  generalize pickI (castL (arObjs H.st)) o.n = at_ at *
  generalize pickI (castL (arObjs H.st)) o.v = to_ at *
  have hfj := hf.2.2.2.2.1
  have K1 := Lib.hid (hStoreIdle hR.T.P (by omega) at_ o.at_ o.j hfj)
  have K2 := Lib.hid (fun w1 (h : RHeapB w1 O2 rh ra rs rc rl rw cb rg H) => rStoreIdle h (by omega) at_ o.at_ o.j hfj)
  have KF := Lib.hid (arStore_fit hR.T.fit at_ o.at_ o.j hfj)
  have x0 := hR.x.cell (j := 0) rfl
  rw [hk] at x0
  have x3 := hR.x.cell (j := 3) rfl
  have x4 := hR.x.cell (j := 4) rfl
  have HP := Lib.hid hp
  obtain ⟨oa1, _⟩ := hR.T.P.ownA
  obtain ⟨ob1, _⟩ := hR.T.R.ownA
  have OA := Lib.hid oa1
  have OB := Lib.hid ob1
  clear hp hf hk hfj hs oa1 ob1
  go_wp2_with (first | (go_at_call 54; refine K1.out.mono ?_; rintro e w1 ⟨rfl, hP1, hu1⟩; have hR1 := hR.T.first hu1 OA.out; have hx1 := hu1.arr hR.x (fun h => hR.n1 (OA.out _ h)); have y3 := hx1.cell (j := 3) rfl; have y4 := hx1.cell (j := 4) rfl) | (go_at_call 96; refine (K2.out _ hR1).mono ?_; rintro e w2 ⟨rfl, hR2, hu2⟩))
  apply hPost
  · exact hR.turn hu1 OA.out hP1 hu2 OB.out hR2 KF.out
  · exact ⟨HP.out, HS.out.symm⟩

noncomputable def buR13bCode : Code := Code.sub (Try.f42.body.getD .skip) [1, 1, 1, 1, 0, 1, 0, 0, 1, 0, 0, 1, 1, 1, 1]
set_option maxRecDepth 1000000 in
set_option maxHeartbeats 2000000 in
theorem buR13b {w0 w : World} {O1 O2 : Nat → Prop} {ph pa ps br bl cm pl rh ra rs rc rl rw cb rg : Nat} {H : Hp} {bx : Nat} {o : Op6} (hR : RndH w0 w O1 O2 ph pa ps br bl cm pl rh ra rs rc rl rw cb rg H bx o) (hp : H.phase = 0) (hk : o.kd = 2)
    {u0 u1 u2 u3 u5 u7 u8 u10 u13 u14 u15 u16 u17 u18 u19 u20 u21 u22 u23 u24 u25 u26 u27 u28 u29 u30 u31 u32 u33 u34 u35 u36 u37 u38 u39 u40 u41 u42 u43 u44 u45 u46 u47 u48 u49 u50 u51 u52 u53 u54 u55 u56 u57 u58 u59 u60 u61 u62 u63 u64 u65 u66 u67 u68 u69 u70 u71 u72 u73 u74 u75 u76 u77 u78 u79 u80 u81 u82 u83 u84 u85 u86 u87 u88 u89 u90 u91 u92 u93 u94 u95 u96 u97 u98 u99 u100 u101 u102 u103 u104 u105 u106 u107 u108 u109 u110 u111 u112 u113 u114 u115 u116 u117 u118 u119 u120 u121 u122 u123 u124 u125 u126 u127 u128 u129 u130 u131 u132 u133 u134 u135 u136 u137 u138 u139 u140 u141 u142 u143 u144 u145 u146 u147 : Value} {K : Act → World → Prop} {Q : Exit → Act → World → Prop}
    (hPost : ∀ (x13 x14 x15 x79 x80 x81 x82 x83 x84 x85 x86 x87 x88 x89 x90 x91 x92 x93 x94 x95 x96 x97 x98 x99 x100 x101 x102 x103 x104 x105 x106 x107 x108 x109 x110 x111 x112 x113 x114 x115 x116 x117 x118 x119 x120 x121 x122 x123 x124 x125 x126 x127 x128 x129 x130 x131 x132 x133 x134 x135 x136 x137 x138 x139 x140 x141 x142 x143 x144 x145 : Value) (H' : Hp) (wx : World), RndH w0 wx O1 O2 ph pa ps br bl cm pl rh ra rs rc rl rw cb rg H' bx o → H'.phase = 0 ∧ H'.st = opSt H.st o → K ⟨#[u0, u1, u2, u3, (.pointer (some ⟨ph, 0, none⟩)), u5, (.pointer (some ⟨rh, 0, none⟩)), u7, u8, (.pointer (some ⟨bx, 0, none⟩)), u10, (.int .i64 (pickI (castL (arObjs H.st)) o.n)), (.int .i64 (pickI (castL (arObjs H.st)) o.v)), x13, x14, x15, u16, u17, u18, u19, u20, u21, u22, u23, u24, u25, u26, u27, u28, u29, u30, u31, u32, u33, u34, u35, u36, u37, u38, u39, u40, u41, u42, u43, u44, u45, u46, u47, u48, u49, u50, u51, u52, u53, u54, u55, u56, u57, u58, u59, u60, u61, u62, u63, u64, u65, u66, u67, u68, u69, u70, u71, u72, u73, u74, u75, u76, u77, u78, x79, x80, x81, x82, x83, x84, x85, x86, x87, x88, x89, x90, x91, x92, x93, x94, x95, x96, x97, x98, x99, x100, x101, x102, x103, x104, x105, x106, x107, x108, x109, x110, x111, x112, x113, x114, x115, x116, x117, x118, x119, x120, x121, x122, x123, x124, x125, x126, x127, x128, x129, x130, x131, x132, x133, x134, x135, x136, x137, x138, x139, x140, x141, x142, x143, x144, x145, u146, u147], []⟩ wx) :
    Code.wp Try.prog buR13bCode (Exit.then K Q) ⟨#[u0, u1, u2, u3, (.pointer (some ⟨ph, 0, none⟩)), u5, (.pointer (some ⟨rh, 0, none⟩)), u7, u8, (.pointer (some ⟨bx, 0, none⟩)), u10, (.int .i64 (pickI (castL (arObjs H.st)) o.n)), (.int .i64 (pickI (castL (arObjs H.st)) o.v)), u13, u14, u15, u16, u17, u18, u19, u20, u21, u22, u23, u24, u25, u26, u27, u28, u29, u30, u31, u32, u33, u34, u35, u36, u37, u38, u39, u40, u41, u42, u43, u44, u45, u46, u47, u48, u49, u50, u51, u52, u53, u54, u55, u56, u57, u58, u59, u60, u61, u62, u63, u64, u65, u66, u67, u68, u69, u70, u71, u72, u73, u74, u75, u76, u77, u78, u79, u80, u81, u82, u83, u84, u85, u86, u87, u88, u89, u90, u91, u92, u93, u94, u95, u96, u97, u98, u99, u100, u101, u102, u103, u104, u105, u106, u107, u108, u109, u110, u111, u112, u113, u114, u115, u116, u117, u118, u119, u120, u121, u122, u123, u124, u125, u126, u127, u128, u129, u130, u131, u132, u133, u134, u135, u136, u137, u138, u139, u140, u141, u142, u143, u144, u145, u146, u147], []⟩ w := by
  conv => arg 2; whnf
  have hs : opSt H.st o = arStoreN H.st (pickI (castL (arObjs H.st)) o.n) (modU o.at_ 10) (pickI (castL (arObjs H.st)) o.v * 2 + 1) := by simp [opSt, hk]
  have HS := Lib.hid hs
  obtain ⟨hb1, hb2⟩ := pickI_bd hR.T.P.arena.small o.v
  generalize pickI (castL (arObjs H.st)) o.n = at_ at *
  generalize pickI (castL (arObjs H.st)) o.v = to_ at *
  have hfj : fitsW (to_ * 2 + 1) := ⟨by omega, by omega⟩
  have hmd : wrap64 ((IntKind.u64.wrap o.at_).tmod 10) = modU o.at_ 10 := rfl
  have hmb := modU_bd o.at_ 10 (by omega) (by omega)
  have K0 := Lib.hid (fun w1 => refPtr to_ (by omega) (by omega) w1)
  have K1 := Lib.hid (hStoreIdle hR.T.P (by omega) at_ (modU o.at_ 10) (to_ * 2 + 1) hfj)
  have K2 := Lib.hid (fun w1 (h : RHeapB w1 O2 rh ra rs rc rl rw cb rg H) => rStoreIdle h (by omega) at_ (modU o.at_ 10) (to_ * 2 + 1) hfj)
  have KF := Lib.hid (arStore_fit hR.T.fit at_ (modU o.at_ 10) (to_ * 2 + 1) hfj)
  have x0 := hR.x.cell (j := 0) rfl
  rw [hk] at x0
  have x3 := hR.x.cell (j := 3) rfl
  have HP := Lib.hid hp
  obtain ⟨oa1, _⟩ := hR.T.P.ownA
  obtain ⟨ob1, _⟩ := hR.T.R.ownA
  have OA := Lib.hid oa1
  have OB := Lib.hid ob1
  clear hp hk hfj hs oa1 ob1 hmb
  generalize modU o.at_ 10 = md at *
  go_wp2_with (first | (go_at_call 55; refine (K0.out _).mono ?_; rintro e w3 ⟨rfl, rfl⟩) | (go_at_call 54; refine K1.out.mono ?_; rintro e w1 ⟨rfl, hP1, hu1⟩; have hR1 := hR.T.first hu1 OA.out) | (go_at_call 96; refine (K2.out _ hR1).mono ?_; rintro e w2 ⟨rfl, hR2, hu2⟩))
  apply hPost
  · exact hR.turn hu1 OA.out hP1 hu2 OB.out hR2 KF.out
  · exact ⟨HP.out, HS.out.symm⟩

noncomputable def buR13cCode : Code := Code.sub (Try.f42.body.getD .skip) [1, 1, 1, 1, 0, 1, 0, 0, 1, 0, 0, 1, 1, 1, 1]
set_option maxRecDepth 1000000 in
set_option maxHeartbeats 2000000 in
theorem buR13c {w0 w : World} {O1 O2 : Nat → Prop} {ph pa ps br bl cm pl rh ra rs rc rl rw cb rg : Nat} {H : Hp} {bx : Nat} {o : Op6} (hR : RndH w0 w O1 O2 ph pa ps br bl cm pl rh ra rs rc rl rw cb rg H bx o) (hp : H.phase = 0) (hk : o.kd = 3)
    {u0 u1 u2 u3 u5 u7 u8 u10 u13 u14 u15 u16 u17 u18 u19 u20 u21 u22 u23 u24 u25 u26 u27 u28 u29 u30 u31 u32 u33 u34 u35 u36 u37 u38 u39 u40 u41 u42 u43 u44 u45 u46 u47 u48 u49 u50 u51 u52 u53 u54 u55 u56 u57 u58 u59 u60 u61 u62 u63 u64 u65 u66 u67 u68 u69 u70 u71 u72 u73 u74 u75 u76 u77 u78 u79 u80 u81 u82 u83 u84 u85 u86 u87 u88 u89 u90 u91 u92 u93 u94 u95 u96 u97 u98 u99 u100 u101 u102 u103 u104 u105 u106 u107 u108 u109 u110 u111 u112 u113 u114 u115 u116 u117 u118 u119 u120 u121 u122 u123 u124 u125 u126 u127 u128 u129 u130 u131 u132 u133 u134 u135 u136 u137 u138 u139 u140 u141 u142 u143 u144 u145 u146 u147 : Value} {K : Act → World → Prop} {Q : Exit → Act → World → Prop}
    (hPost : ∀ (x13 x14 x15 x79 x80 x81 x82 x83 x84 x85 x86 x87 x88 x89 x90 x91 x92 x93 x94 x95 x96 x97 x98 x99 x100 x101 x102 x103 x104 x105 x106 x107 x108 x109 x110 x111 x112 x113 x114 x115 x116 x117 x118 x119 x120 x121 x122 x123 x124 x125 x126 x127 x128 x129 x130 x131 x132 x133 x134 x135 x136 x137 x138 x139 x140 x141 x142 x143 x144 x145 : Value) (H' : Hp) (wx : World), RndH w0 wx O1 O2 ph pa ps br bl cm pl rh ra rs rc rl rw cb rg H' bx o → H'.phase = 0 ∧ H'.st = opSt H.st o → K ⟨#[u0, u1, u2, u3, (.pointer (some ⟨ph, 0, none⟩)), u5, (.pointer (some ⟨rh, 0, none⟩)), u7, u8, (.pointer (some ⟨bx, 0, none⟩)), u10, (.int .i64 (pickI (castL (arObjs H.st)) o.n)), (.int .i64 (pickI (castL (arObjs H.st)) o.v)), x13, x14, x15, u16, u17, u18, u19, u20, u21, u22, u23, u24, u25, u26, u27, u28, u29, u30, u31, u32, u33, u34, u35, u36, u37, u38, u39, u40, u41, u42, u43, u44, u45, u46, u47, u48, u49, u50, u51, u52, u53, u54, u55, u56, u57, u58, u59, u60, u61, u62, u63, u64, u65, u66, u67, u68, u69, u70, u71, u72, u73, u74, u75, u76, u77, u78, x79, x80, x81, x82, x83, x84, x85, x86, x87, x88, x89, x90, x91, x92, x93, x94, x95, x96, x97, x98, x99, x100, x101, x102, x103, x104, x105, x106, x107, x108, x109, x110, x111, x112, x113, x114, x115, x116, x117, x118, x119, x120, x121, x122, x123, x124, x125, x126, x127, x128, x129, x130, x131, x132, x133, x134, x135, x136, x137, x138, x139, x140, x141, x142, x143, x144, x145, u146, u147], []⟩ wx) :
    Code.wp Try.prog buR13cCode (Exit.then K Q) ⟨#[u0, u1, u2, u3, (.pointer (some ⟨ph, 0, none⟩)), u5, (.pointer (some ⟨rh, 0, none⟩)), u7, u8, (.pointer (some ⟨bx, 0, none⟩)), u10, (.int .i64 (pickI (castL (arObjs H.st)) o.n)), (.int .i64 (pickI (castL (arObjs H.st)) o.v)), u13, u14, u15, u16, u17, u18, u19, u20, u21, u22, u23, u24, u25, u26, u27, u28, u29, u30, u31, u32, u33, u34, u35, u36, u37, u38, u39, u40, u41, u42, u43, u44, u45, u46, u47, u48, u49, u50, u51, u52, u53, u54, u55, u56, u57, u58, u59, u60, u61, u62, u63, u64, u65, u66, u67, u68, u69, u70, u71, u72, u73, u74, u75, u76, u77, u78, u79, u80, u81, u82, u83, u84, u85, u86, u87, u88, u89, u90, u91, u92, u93, u94, u95, u96, u97, u98, u99, u100, u101, u102, u103, u104, u105, u106, u107, u108, u109, u110, u111, u112, u113, u114, u115, u116, u117, u118, u119, u120, u121, u122, u123, u124, u125, u126, u127, u128, u129, u130, u131, u132, u133, u134, u135, u136, u137, u138, u139, u140, u141, u142, u143, u144, u145, u146, u147], []⟩ w := by
  conv => arg 2; whnf
  have hs : opSt H.st o = arFreeN H.st (pickI (castL (arObjs H.st)) o.n) := by simp [opSt, hk]
  have HS := Lib.hid hs
  generalize pickI (castL (arObjs H.st)) o.n = at_ at *
  generalize pickI (castL (arObjs H.st)) o.v = to_ at *
  have hsub : ∀ p : Nat, ((arFreeN H.st at_).head p).isSome = true → (H.st.head p).isSome = true := by
    intro p hp2
    rw [arFree_head hR.T.P.arena.ok] at hp2
    split at hp2
    · cases hp2
    · exact hp2
  have hln := arFree_len hR.T.P.arena.ok at_
  have K0 := Lib.hid (hArena hR.T.P)
  have K1 := Lib.hid (arFree_calls hR.T.P.arena at_)
  have K2 := Lib.hid (fun w1 (h : RHeapB w1 O2 rh ra rs rc rl rw cb rg H) => rArFree h.arena at_)
  have KP := Lib.hid (fun w1 (hu : Upd (arB br bl) w w1) (hA : IsArena w1 pa ps br bl (arFreeN H.st at_)) => hR.T.P.turnArena hu hA hsub)
  have KR := Lib.hid (fun w1 w2 (h : RHeapB w1 O2 rh ra rs rc rl rw cb rg H) (hu : Upd (arR rc rl rw) w1 w2) (hA : IsRArena w2 ra rs rc rl rw (arFreeN H.st at_)) => h.turnArena hu hA hln hsub)
  have KF := Lib.hid (arFree_fit hR.T.P.arena.ok hR.T.fit at_)
  have x0 := hR.x.cell (j := 0) rfl
  rw [hk] at x0
  have HP := Lib.hid hp
  obtain ⟨oa1, _⟩ := hR.T.P.ownA
  obtain ⟨ob1, _⟩ := hR.T.R.ownA
  have OA := Lib.hid oa1
  have OB := Lib.hid ob1
  clear hp hk hs oa1 ob1 hsub hln
  go_wp2_with (first | (go_at_call 52; refine K0.out.mono ?_; rintro e w3 ⟨rfl, rfl⟩) | (go_at_call 25; refine K1.out.mono ?_; rintro e w1 ⟨rfl, hA1, hu1⟩; have hR1 := hR.T.first hu1 OA.out; have y0 := hR1.head.cell (j := 0) rfl) | (go_at_call 26; refine (K2.out _ hR1).mono ?_; rintro e w2 ⟨rfl, hA2, hu2⟩))
  apply hPost
  · exact hR.turn hu1 OA.out (KP.out _ hu1 hA1) hu2 OB.out (KR.out _ _ hR1 hu2 hA2) KF.out
  · exact ⟨HP.out, HS.out.symm⟩

noncomputable def buR13dCode : Code := Code.sub (Try.f42.body.getD .skip) [1, 1, 1, 1, 0, 1, 0, 0, 1, 0, 0, 1, 1, 1, 1]
set_option maxRecDepth 1000000 in
set_option maxHeartbeats 2000000 in
theorem buR13d {w0 w : World} {O1 O2 : Nat → Prop} {ph pa ps br bl cm pl rh ra rs rc rl rw cb rg : Nat} {H : Hp} {bx : Nat} {o : Op6} (hR : RndH w0 w O1 O2 ph pa ps br bl cm pl rh ra rs rc rl rw cb rg H bx o) (hp : H.phase = 0) (k1 : (o.kd == 1) = false) (k2 : (o.kd == 2) = false) (k3 : (o.kd == 3) = false)
    {u0 u1 u2 u3 u5 u7 u8 u10 u11 u12 u13 u14 u15 u16 u17 u18 u19 u20 u21 u22 u23 u24 u25 u26 u27 u28 u29 u30 u31 u32 u33 u34 u35 u36 u37 u38 u39 u40 u41 u42 u43 u44 u45 u46 u47 u48 u49 u50 u51 u52 u53 u54 u55 u56 u57 u58 u59 u60 u61 u62 u63 u64 u65 u66 u67 u68 u69 u70 u71 u72 u73 u74 u75 u76 u77 u78 u79 u80 u81 u82 u83 u84 u85 u86 u87 u88 u89 u90 u91 u92 u93 u94 u95 u96 u97 u98 u99 u100 u101 u102 u103 u104 u105 u106 u107 u108 u109 u110 u111 u112 u113 u114 u115 u116 u117 u118 u119 u120 u121 u122 u123 u124 u125 u126 u127 u128 u129 u130 u131 u132 u133 u134 u135 u136 u137 u138 u139 u140 u141 u142 u143 u144 u145 u146 u147 : Value} {K : Act → World → Prop} {Q : Exit → Act → World → Prop}
    (hPost : ∀ (x13 x14 x15 x79 x80 x81 x82 x83 x84 x85 x86 x87 x88 x89 x90 x91 x92 x93 x94 x95 x96 x97 x98 x99 x100 x101 x102 x103 x104 x105 x106 x107 x108 x109 x110 x111 x112 x113 x114 x115 x116 x117 x118 x119 x120 x121 x122 x123 x124 x125 x126 x127 x128 x129 x130 x131 x132 x133 x134 x135 x136 x137 x138 x139 x140 x141 x142 x143 x144 x145 : Value) (H' : Hp) (wx : World), RndH w0 wx O1 O2 ph pa ps br bl cm pl rh ra rs rc rl rw cb rg H' bx o → H'.phase = 0 ∧ H'.st = opSt H.st o → K ⟨#[u0, u1, u2, u3, (.pointer (some ⟨ph, 0, none⟩)), u5, (.pointer (some ⟨rh, 0, none⟩)), u7, u8, (.pointer (some ⟨bx, 0, none⟩)), u10, u11, u12, x13, x14, x15, u16, u17, u18, u19, u20, u21, u22, u23, u24, u25, u26, u27, u28, u29, u30, u31, u32, u33, u34, u35, u36, u37, u38, u39, u40, u41, u42, u43, u44, u45, u46, u47, u48, u49, u50, u51, u52, u53, u54, u55, u56, u57, u58, u59, u60, u61, u62, u63, u64, u65, u66, u67, u68, u69, u70, u71, u72, u73, u74, u75, u76, u77, u78, x79, x80, x81, x82, x83, x84, x85, x86, x87, x88, x89, x90, x91, x92, x93, x94, x95, x96, x97, x98, x99, x100, x101, x102, x103, x104, x105, x106, x107, x108, x109, x110, x111, x112, x113, x114, x115, x116, x117, x118, x119, x120, x121, x122, x123, x124, x125, x126, x127, x128, x129, x130, x131, x132, x133, x134, x135, x136, x137, x138, x139, x140, x141, x142, x143, x144, x145, u146, u147], []⟩ wx) :
    Code.wp Try.prog buR13dCode (Exit.then K Q) ⟨#[u0, u1, u2, u3, (.pointer (some ⟨ph, 0, none⟩)), u5, (.pointer (some ⟨rh, 0, none⟩)), u7, u8, (.pointer (some ⟨bx, 0, none⟩)), u10, u11, u12, u13, u14, u15, u16, u17, u18, u19, u20, u21, u22, u23, u24, u25, u26, u27, u28, u29, u30, u31, u32, u33, u34, u35, u36, u37, u38, u39, u40, u41, u42, u43, u44, u45, u46, u47, u48, u49, u50, u51, u52, u53, u54, u55, u56, u57, u58, u59, u60, u61, u62, u63, u64, u65, u66, u67, u68, u69, u70, u71, u72, u73, u74, u75, u76, u77, u78, u79, u80, u81, u82, u83, u84, u85, u86, u87, u88, u89, u90, u91, u92, u93, u94, u95, u96, u97, u98, u99, u100, u101, u102, u103, u104, u105, u106, u107, u108, u109, u110, u111, u112, u113, u114, u115, u116, u117, u118, u119, u120, u121, u122, u123, u124, u125, u126, u127, u128, u129, u130, u131, u132, u133, u134, u135, u136, u137, u138, u139, u140, u141, u142, u143, u144, u145, u146, u147], []⟩ w := by
  conv => arg 2; whnf
  have hs : opSt H.st o = (hpAlloc H (1 + modU o.k 6) (szK (1 + modU o.k 6))).st := by
    rw [hpAlloc_st]
    rw [beq_eq_false_iff_ne] at k1 k2 k3
    simp [opSt, k1, k2, k3]
  have hphs : (hpAlloc H (1 + modU o.k 6) (szK (1 + modU o.k 6))).phase = 0 := by
    unfold hpAlloc; split <;> exact hp
  have HS := Lib.hid hs
  have HP := Lib.hid hphs
  have hmd : wrap64 ((IntKind.u64.wrap o.k).tmod 6) = modU o.k 6 := rfl
  have hmb := modU_bd o.k 6 (by omega) (by omega)
  have x0 := hR.x.cell (j := 0) rfl
  have x1 := hR.x.cell (j := 1) rfl
  obtain ⟨_, oa1⟩ := hR.T.P.ownA
  obtain ⟨_, ob1⟩ := hR.T.R.ownA
  have OA := Lib.hid oa1
  have OB := Lib.hid ob1
  clear hp hs hphs oa1 ob1
  generalize modU o.k 6 = md at *
  have K1 := Lib.hid (fun w1 (h : HeapB w1 O1 ph pa ps br bl cm pl H) => hAlloc h (1 + md) (szK (1 + md)))
  have K2 := Lib.hid (fun w1 (h : RHeapB w1 O2 rh ra rs rc rl rw cb rg H) => rHAlloc h (1 + md) (szK (1 + md)))
  have hst : (hpAlloc H (1 + md) (szK (1 + md))).st.fit := by rw [hpAlloc_st]; exact arAlloc_fit hR.T.P.arena.ok hR.T.fit _ _
  have KF := Lib.hid hst
  clear hst
  have hB := Lib.hid (fun w1 (hb : Below w.heap.size w w1) => hR.below hb)
  have hcs := szK_cases hmb
  generalize szK (1 + md) = nn at *
  generalize 1 + md = kk at *
  clear hmb
  rcases hcs with ⟨rfl, rfl, rfl⟩ | ⟨rfl, rfl, rfl⟩ | ⟨rfl, rfl, rfl⟩ | ⟨rfl, rfl, rfl⟩ | ⟨rfl, rfl, rfl⟩ | ⟨rfl, rfl, rfl⟩
  all_goals
    go_wp2_with (first | (go_at_call 53; refine (K1.out _ (hB.out _ ((Below.refl _ w).alloc (Nat.le_refl _) _)).T.P).mono ?_; rintro e w1 ⟨rfl, hP1, hu1⟩; have hRb := hB.out _ ((Below.refl _ w).alloc (Nat.le_refl _) (.cells #[.int .i64 0, .int .i64 9, .int .i64 3, .int .i64 7, .int .i64 10, .int .i64 2, .int .i64 2] 3)); have hR1 := hRb.T.first hu1 OA.out) | (go_at_call 97; refine (K2.out _ hR1).mono ?_; rintro e w2 ⟨rfl, hR2, hu2⟩))
    apply hPost
    · exact hRb.turn hu1 OA.out hP1 hu2 OB.out hR2 KF.out
    · exact ⟨HP.out, HS.out.symm⟩
end Go.Proofs.Ytccaegiceneegaa
