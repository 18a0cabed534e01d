/- The laws of live are awake. No conditions. -/
import Derived.Test.YtccaegiceneegaaBuiltB
import Derived.Test.YtccaegiceneegaaLiveC
import Derived.Test.YtccaegiceneegaaReachB
namespace Go.Proofs.Ytccaegiceneegaa
open Go.RowKit

def aw22ops : List Op6 := [⟨0, 4, 0, 0, 0, 0⟩, ⟨0, 4, 0, 0, 0, 0⟩, ⟨2, 0, 0, 0, 0, 1⟩]
def aw22st : Ar := opsSt aw22ops (arNew 6)
theorem aw22_bfs : bfs aw22st 10 [] [0] = some [4, 0] := by decide +kernel
theorem aw22_bfs0 : bfs aw22st 10 [] [] = some [] := by decide +kernel
theorem aw22_facts : (reachL aw22st [0]).length = 2 ∧ (lostL aw22st []).length = 2 ∧ brokenL aw22st [0] = [] := by
  unfold lostL brokenL reachL
  rw [reach_bfs aw22_bfs, reach_bfs aw22_bfs0]
  decide +kernel
theorem aw22_st : opsSt (aw22ops.take 60) (arNew 6) = aw22st := rfl
theorem IntSv.ofLen {w : World} {O : Nat → Prop} {v : Value} {xs : List Int} (h : IntSv w O v xs) {n : Nat} (hn : xs.length = n) : ∃ a c, v = .slice a n c := by
  subst hn
  rcases h with ⟨rfl, h⟩ | ⟨g, off, cap, _, h, _⟩
  · exact ⟨_, _, h⟩
  · exact ⟨_, _, h⟩
theorem rd_nil (w : World) : RdInts w (.slice none 0 0) [] := fun w' _ => Src.ofNil w' Try.underlying22 0
theorem rd_arr {w : World} {b : Nat} {xs : List Int} (h : Arr w b 3 (ints xs)) : RdInts w (.slice (some ⟨b, 0, none⟩) xs.length xs.length) xs := by
  intro w' hb
  have h' := h.belowAll hb
  refine Src.ofSlice w' Try.underlying22 _ _ _ _ (by simp) (fun j u hu => ?_) (fun u hu => ?_)
  · rw [Addr.add_lit, Nat.zero_add]; exact h'.cell hu
  · simp only [ints, List.mem_map] at hu
    obtain ⟨x, _, rfl⟩ := hu; rfl
theorem aw22ops_fit : ∀ o ∈ aw22ops, o.fit := by
  intro o ho
  simp only [aw22ops, List.mem_cons, List.not_mem_nil, or_false] at ho
  rcases ho with rfl | rfl | rfl <;> simp [Op6.fit, fitsW]
theorem aw22_at {w : World} : OpsAt (w.alloc (.cells #[.int .i64 0, .int .i64 4, .int .i64 0, .int .i64 0, .int .i64 0, .int .i64 0, .int .i64 0, .int .i64 4, .int .i64 0, .int .i64 0, .int .i64 0, .int .i64 0, .int .i64 2, .int .i64 0, .int .i64 0, .int .i64 0, .int .i64 0, .int .i64 1] 137)) (.slice (some ⟨w.heap.size, 0, none⟩) 3 3) aw22ops := by
  have hA := Arr.made w 137 [.int .i64 0, .int .i64 4, .int .i64 0, .int .i64 0, .int .i64 0, .int .i64 0, .int .i64 0, .int .i64 4, .int .i64 0, .int .i64 0, .int .i64 0, .int .i64 0, .int .i64 2, .int .i64 0, .int .i64 0, .int .i64 0, .int .i64 0, .int .i64 1]
  refine .inr ⟨⟨w.heap.size, 0, none⟩, 3, rfl, by decide, by decide, fun _ => by simp, fun i o ho => ?_⟩
  have hl : i < 3 := (List.getElem?_eq_some_iff.1 ho).1
  simp only [Addr.add_lit, Nat.zero_add]
  have : i = 0 ∨ i = 1 ∨ i = 2 := by omega
  rcases this with rfl | rfl | rfl <;> (simp only [aw22ops, List.getElem?_cons_zero, List.getElem?_cons_succ, Option.some.injEq] at ho; subst ho; exact ⟨hA.cell rfl, hA.cell rfl, hA.cell rfl, hA.cell rfl, hA.cell rfl, hA.cell rfl⟩)
set_option maxRecDepth 100000 in
set_option maxHeartbeats 1000000 in
theorem awake22 (w : World) : Calls Try.prog 43 #[] w fun e w' => e = .returned (.bool true) ∧ Below w.heap.size w w' := by
  have hb0 := (Below.refl w.heap.size w).alloc (Nat.le_refl _) (.cells #[.int .i64 0, .int .i64 4, .int .i64 0, .int .i64 0, .int .i64 0, .int .i64 0, .int .i64 0, .int .i64 4, .int .i64 0, .int .i64 0, .int .i64 0, .int .i64 0, .int .i64 2, .int .i64 0, .int .i64 0, .int .i64 0, .int .i64 0, .int .i64 1] 137)
  have h1 := builtCalls (w := w.alloc (.cells #[.int .i64 0, .int .i64 4, .int .i64 0, .int .i64 0, .int .i64 0, .int .i64 0, .int .i64 0, .int .i64 4, .int .i64 0, .int .i64 0, .int .i64 0, .int .i64 0, .int .i64 2, .int .i64 0, .int .i64 0, .int .i64 0, .int .i64 0, .int .i64 1] 137)) aw22_at aw22ops_fit
  have H1 := Lib.hid h1
  clear h1
  have hf := aw22_facts
  have HFC := Lib.hid hf
  clear hf
  go_enter Try.func43, Try.ntmps43
  go_wp2_with fail
  refine H1.out.mono ?_
  rintro e w1 ⟨O1, O2, ph, pa, ps, br, bl, cm, pl, rh, ra, rs, rc, rl, rw, cb, rg, H, rfl, hT, hph, hst⟩
  have hst2 : H.st = aw22st := hst.trans aw22_st
  have hB1 := below_then hb0 hT.B
  have KA := Lib.hid (fun wx (hb : Below w1.heap.size w1 wx) (v : Value) (hr : RdInts wx v [0]) => (liveReach (hT.P.below hb) hT.fit hr (by simp)))
  have KB := Lib.hid (fun wx (hb : Below w1.heap.size w1 wx) (v : Value) (hr : RdInts wx v []) => (liveLost (hT.P.below hb) hT.fit hr (by simp)))
  have KC := Lib.hid (fun wx (hb : Below w1.heap.size w1 wx) (v : Value) (hr : RdInts wx v [0]) => (liveBroken (hT.P.below hb) hT.fit hr (by simp)))
  rw [hst2] at KA KB KC
  clear hst hst2 hph hT hb0
  go_wp2_with (first | (go_at_call 44; refine (KA.out _ ((Below.refl _ w1).alloc (Nat.le_refl _) _) _ (rd_arr (xs := [0]) (Arr.made w1 3 (ints [0])))).mono ?_; rintro e w2 ⟨v2, rfl, hv2, hb2⟩; obtain ⟨a2, c2, rfl⟩ := hv2.ofLen ((castL_len _).trans HFC.out.1); have hB2 := below_then ((Below.refl _ w1).alloc (Nat.le_refl _) _) hb2) | (go_at_call 46; refine (KB.out _ hB2 _ (rd_nil _)).mono ?_; rintro e w3 ⟨v3, rfl, hv3, hb3⟩; obtain ⟨a3, c3, rfl⟩ := hv3.ofLen ((castL_len _).trans HFC.out.2.1); have hB3 := below_then hB2 hb3) | (go_at_call 48; refine (KC.out _ (hB3.alloc hB3.size _) _ (rd_arr (xs := [0]) (Arr.made w3 3 (ints [0])))).mono ?_; rintro e w4 ⟨v4, rfl, hv4, hb4⟩; obtain ⟨a4, c4, rfl⟩ := hv4.ofLen ((castL_len _).trans (by rw [HFC.out.2.2])); have hB4 := below_then (hB3.alloc hB3.size _) hb4))
  go_ret
  exact ⟨rfl, below_then hB1 hB4⟩
end Go.Proofs.Ytccaegiceneegaa
