/- The walks of the package arena. No conditions. -/
import Derived.Test.YtccaegiceneegaaSpanB
import Derived.Test.YtccaegiceneegaaArL
import Derived.Deep.DeepCutAuto
namespace Go.Proofs.Ytccaegiceneegaa
open Go.RowKit

def ACell.enc : ACell → Value
  | .nil => .nilIface
  | .hdr k n => .iface 123 (.agg #[.int .i64 k, .int .i64 n])
  | .wd v => .iface 129 (.int .i64 v)

structure IsArena (w : World) (pa ps br bl : Nat) (st : Ar) : Prop where
  head : Arr w pa 119 [.pointer (some ⟨ps, 0, none⟩), .slice (some ⟨bl, 0, none⟩) st.cells.length st.cells.length]
  cells : Arr w bl 20 (st.cells.map ACell.enc)
  spans : IsSpans w ps br st.rows
  ne1 : pa ≠ ps
  ne2 : pa ≠ br
  ne3 : pa ≠ bl
  ne4 : ps ≠ bl
  ne5 : br ≠ bl
  ok : st.ok
theorem IsArena.small {w : World} {pa ps br bl : Nat} {st : Ar} (h : IsArena w pa ps br bl st) : st.cells.length ≤ 4096 := by
  have := h.spans.len; have := h.ok.len; omega
/-- what a call on an arena may turn -/
def arB (br bl : Nat) : Nat → Prop := fun k => k = br ∨ k = bl
theorem IsArena.upd {w w' : World} {pa ps br bl : Nat} {st : Ar} (h : IsArena w pa ps br bl st) {S : Nat → Prop} (hu : Upd S w w') (h1 : ¬ S pa) (h2 : ¬ S ps) (h3 : ¬ S br) (h4 : ¬ S bl) : IsArena w' pa ps br bl st :=
  ⟨hu.arr h.head h1, hu.arr h.cells h4, h.spans.upd hu h2 h3, h.ne1, h.ne2, h.ne3, h.ne4, h.ne5, h.ok⟩
theorem IsArena.below {w w' : World} {pa ps br bl : Nat} {st : Ar} (h : IsArena w pa ps br bl st) (hb : Below w.heap.size w w') : IsArena w' pa ps br bl st :=
  h.upd (Upd.of_below (S := fun _ => False) hb) (fun h => h) (fun h => h) (fun h => h) (fun h => h)
/-- a word turned -/
theorem IsArena.set {w : World} {pa ps br bl : Nat} {st : Ar} (h : IsArena w pa ps br bl st) {q : Nat} (hq : q < st.cells.length) (c : ACell) (hok : Ar.ok ⟨st.rows, st.cells.set q c⟩) : IsArena (w.setCell ⟨bl, q, none⟩ c.enc) pa ps br bl ⟨st.rows, st.cells.set q c⟩ := by
  have hu := upd_setCell w bl q c.enc
  refine ⟨by simpa using hu.arr h.head h.ne3, ?_, h.spans.upd hu h.ne4 h.ne5, h.ne1, h.ne2, h.ne3, h.ne4, h.ne5, hok⟩
  have := h.cells.set (j := q) (by simpa using hq) c.enc
  rwa [← List.map_set] at this

theorem ta_hdr_nil (w : World) : (Instr.typeAssert .nilIface 20 123 true).run Try.prog w = .ok (.tuple #[.agg #[.int .i64 0, .int .i64 0], .bool false]) w := by kernel_rfl
theorem ta_hdr_hdr (v : Value) (w : World) : (Instr.typeAssert (.iface 123 v) 20 123 true).run Try.prog w = .ok (.tuple #[v, .bool true]) w := by kernel_rfl
theorem ta_hdr_wd (v : Value) (w : World) : (Instr.typeAssert (.iface 129 v) 20 123 true).run Try.prog w = .ok (.tuple #[.agg #[.int .i64 0, .int .i64 0], .bool false]) w := by kernel_rfl

set_option maxRecDepth 100000 in
theorem arHead {w : World} {pa ps br bl : Nat} {st : Ar} (hs : IsArena w pa ps br bl st) (i : Int) : Calls Try.prog 87 #[.pointer (some ⟨pa, 0, none⟩), .int .i64 i] w fun e w' =>
    e = .returned (.tuple #[.agg #[.int .i64 (hK (st.head i)), .int .i64 (hN (st.head i))], .bool (st.head i).isSome]) ∧ Below w.heap.size w w' := by
  have c0 := hs.head.cell (j := 1) rfl
  have hl := hs.small
  have hpl := hs.head.lt
  have hbl := hs.cells.lt
  have t1 := ta_hdr_nil
  have t2 := ta_hdr_hdr
  have t3 := ta_hdr_wd
  by_cases h0 : 0 ≤ i
  · obtain ⟨i, rfl⟩ := Int.eq_ofNat_of_zero_le h0
    by_cases h1 : i < st.cells.length
    · have hr : st.cells[i]? = some st.cells[i] := List.getElem?_eq_getElem h1
      have hres : st.head (i : Int) = hdrAt st.cells[i] := by simp [Ar.head, hr]
      have c1 : w.cell? ⟨bl, i, none⟩ = some st.cells[i].enc := hs.cells.cell (by simp [hr])
      rw [hres]
      clear hres hr h0
      cases hc : st.cells[i] <;> rw [hc] at c1 <;> clear hc
      all_goals
        simp only [ACell.enc, hdrAt, hK, hN, Option.isSome] at c1 ⊢
        go_enter Try.func87, Try.ntmps87
        go_wp2
        go_returns
        exact ⟨rfl, by go_grown⟩
    · have hres : st.head (i : Int) = none := by simp [Ar.head, List.getElem?_eq_none (Nat.le_of_not_lt h1)]
      rw [hres]
      clear hres
      simp only [hK, hN, Option.isSome]
      go_enter Try.func87, Try.ntmps87
      go_wp2
      go_returns
      exact ⟨rfl, by go_grown⟩
  · have hres : st.head i = none := by simp [Ar.head, h0]
    rw [hres]
    clear hres
    simp only [hK, hN, Option.isSome]
    go_enter Try.func87, Try.ntmps87
    go_wp2
    go_returns
    exact ⟨rfl, by go_grown⟩

/-- a nil arena has no header -/
theorem arHead_nil (i : Int) (w : World) : Calls Try.prog 87 #[.pointer none, .int .i64 i] w fun e w' =>
    e = .returned (.tuple #[.agg #[.int .i64 0, .int .i64 0], .bool false]) ∧ Below w.heap.size w w' := by
  go_enter Try.func87, Try.ntmps87
  go_wp2
  go_returns
  exact ⟨rfl, by go_grown⟩

theorem arKind {w : World} {pa ps br bl : Nat} {st : Ar} (hs : IsArena w pa ps br bl st) (i : Int) : Calls Try.prog 36 #[.pointer (some ⟨pa, 0, none⟩), .int .i64 i] w fun e w' =>
    e = .returned (.int .i64 (hK (st.head i))) ∧ Below w.heap.size w w' := by
  have hh := arHead hs i
  go_enter Try.func36, Try.ntmps36
  go_wp2_with (go_at_call 87; refine hh.mono ?_; rintro e w1 ⟨rfl, hb⟩)
  have hz := hb.size
  go_returns
  exact ⟨rfl, by go_grown⟩
theorem arLen {w : World} {pa ps br bl : Nat} {st : Ar} (hs : IsArena w pa ps br bl st) (i : Int) : Calls Try.prog 38 #[.pointer (some ⟨pa, 0, none⟩), .int .i64 i] w fun e w' =>
    e = .returned (.int .i64 (hN (st.head i))) ∧ Below w.heap.size w w' := by
  have hh := arHead hs i
  go_enter Try.func38, Try.ntmps38
  go_wp2_with (go_at_call 87; refine hh.mono ?_; rintro e w1 ⟨rfl, hb⟩)
  have hz := hb.size
  go_returns
  exact ⟨rfl, by go_grown⟩
theorem arKind_nil (i : Int) (w : World) : Calls Try.prog 36 #[.pointer none, .int .i64 i] w fun e w' =>
    e = .returned (.int .i64 0) ∧ Below w.heap.size w w' := by
  have hh := arHead_nil i w
  go_enter Try.func36, Try.ntmps36
  go_wp2_with (go_at_call 87; refine hh.mono ?_; rintro e w1 ⟨rfl, hb⟩)
  have hz := hb.size
  go_returns
  exact ⟨rfl, by go_grown⟩
theorem arWords {w : World} {pa ps br bl : Nat} {st : Ar} (hs : IsArena w pa ps br bl st) : Calls Try.prog 35 #[.pointer (some ⟨pa, 0, none⟩)] w fun e w' =>
    e = .returned (.int .i64 st.cells.length) ∧ w = w' := by
  have c0 := hs.head.cell (j := 1) rfl
  have hl := hs.small
  go_enter Try.func35, Try.ntmps35
  go_wp2
  go_ret
  exact ⟨rfl, rfl⟩
theorem arUsed {w : World} {pa ps br bl : Nat} {st : Ar} (hs : IsArena w pa ps br bl st) : Calls Try.prog 33 #[.pointer (some ⟨pa, 0, none⟩)] w fun e w' =>
    e = .returned (.int .i64 (spWords st.rows)) ∧ Below w.heap.size w w' := by
  have c0 := hs.head.cell (j := 0) rfl
  have hw := spWords_calls hs.spans
  go_enter Try.func33, Try.ntmps33
  go_wp2_with (go_at_call 20; refine hw.mono ?_; rintro e w1 ⟨rfl, hb⟩)
  go_ret
  exact ⟨rfl, hb⟩

/-- the place of a word: the error that place tells, and where -/
def plV (st : Ar) (i j : Int) : Int := if (arLoad st i j).2 = 0 then i + 1 + j else 0
theorem arLoad_err (st : Ar) (i j : Int) : (arLoad st i j).2 = 0 ∨ (arLoad st i j).2 = 1 ∨ (arLoad st i j).2 = 8 := by
  unfold arLoad; split
  · simp
  · split <;> simp

set_option maxRecDepth 100000 in
theorem arPlace {w : World} {pa ps br bl : Nat} {st : Ar} (hs : IsArena w pa ps br bl st) (i j : Int) : Calls Try.prog 89 #[.pointer (some ⟨pa, 0, none⟩), .int .i64 i, .int .i64 j] w fun e w' =>
    e = .returned (.tuple #[.int .i64 (plV st i j), .int .i64 (arLoad st i j).2]) ∧ Below w.heap.size w w' := by
  have hl := hs.small
  have hh := arHead hs i
  cases hd : st.head i with
  | none =>
    have e1 : plV st i j = 0 ∧ (arLoad st i j).2 = 8 := by simp [plV, arLoad, hd]
    rw [e1.1, e1.2]
    rw [hd] at hh
    simp only [hK, hN, Option.isSome] at hh
    clear e1 hd
    go_enter Try.func89, Try.ntmps89
    go_wp2_with (go_at_call 87; refine hh.mono ?_; rintro e w1 ⟨rfl, hb⟩)
    go_ret2
    have hz := hb.size
    exact ⟨rfl, by go_grown⟩
  | some kn =>
    obtain ⟨k, n⟩ := kn
    obtain ⟨p, rfl, hp⟩ := Ar.head_some hd
    obtain ⟨_, _, b3, b4, b5, b6⟩ := hs.ok.fits hp
    rw [hd] at hh
    simp only [hK, hN, Option.isSome] at hh
    by_cases hj : j < 0 ∨ n ≤ j
    · have e1 : plV st p j = 0 ∧ (arLoad st p j).2 = 1 := by simp [plV, arLoad, hd, hj]
      rw [e1.1, e1.2]
      clear e1 hd hp
      by_cases hj0 : j < 0
      · go_enter Try.func89, Try.ntmps89
        go_wp2_with (go_at_call 87; refine hh.mono ?_; rintro e w1 ⟨rfl, hb⟩)
        go_ret2
        have hz := hb.size
        exact ⟨rfl, by go_grown⟩
      · have hj1 : n ≤ j := by omega
        have hj2 : 0 ≤ j := by omega
        clear hj hj0
        go_enter Try.func89, Try.ntmps89
        go_wp2_with (go_at_call 87; refine hh.mono ?_; rintro e w1 ⟨rfl, hb⟩)
        go_ret2
        have hz := hb.size
        exact ⟨rfl, by go_grown⟩
    · have e1 : plV st p j = p + 1 + j ∧ (arLoad st p j).2 = 0 := by simp [plV, arLoad, hd, hj]
      rw [e1.1, e1.2]
      have hj1 : j < n := by omega
      have hj2 : 0 ≤ j := by omega
      clear e1 hd hp hj
      go_enter Try.func89, Try.ntmps89
      go_wp2_with (go_at_call 87; refine hh.mono ?_; rintro e w1 ⟨rfl, hb⟩)
      go_ret2
      have hz := hb.size
      exact ⟨rfl, by go_grown⟩

theorem arLoad_ok {st : Ar} (hok : st.ok) {i j : Int} (h : (arLoad st i j).2 = 0) : ∃ (q : Nat) (v : Int), i + 1 + j = q ∧ st.cells[q]? = some (.wd v) ∧ (arLoad st i j).1 = v ∧ plV st i j = q ∧ arStoreN st i j = fun u => ⟨st.rows, st.cells.set q (.wd u)⟩ := by
  have h0 := h
  unfold arLoad at h
  split at h
  · simp at h
  rename_i k n hd
  split at h
  · simp at h
  rename_i hj
  obtain ⟨p, rfl, hp⟩ := Ar.head_some hd
  obtain ⟨_, _, _, _, _, _, _, _, hw⟩ := hok.hdr p k n hp
  obtain ⟨j, rfl⟩ := Int.eq_ofNat_of_zero_le (show 0 ≤ j by omega)
  obtain ⟨v, hv⟩ := hw j (by omega)
  refine ⟨p + 1 + j, v, by omega, hv, ?_, by simp only [plV, h0]; simp, ?_⟩
  · unfold arLoad
    rw [hd]
    simp only [if_neg hj]
    rw [show ((p : Int) + 1 + j).toNat = p + 1 + j from by omega, hv]; rfl
  · funext u
    unfold arStoreN
    rw [if_pos h0, show ((p : Int) + 1 + j).toNat = p + 1 + j from by omega]

theorem ta_wd_wd (v : Value) (w : World) : (Instr.typeAssert (.iface 129 v) 20 129 true).run Try.prog w = .ok (.tuple #[v, .bool true]) w := by kernel_rfl

set_option maxRecDepth 100000 in
theorem arLoad_calls {w : World} {pa ps br bl : Nat} {st : Ar} (hs : IsArena w pa ps br bl st) (i j : Int) : Calls Try.prog 40 #[.pointer (some ⟨pa, 0, none⟩), .int .i64 i, .int .i64 j] w fun e w' =>
    e = .returned (.tuple #[.int .i64 (arLoad st i j).1, .int .i64 (arLoad st i j).2]) ∧ Below w.heap.size w w' := by
  have hl := hs.small
  have hh := arPlace hs i j
  have hpl := hs.head.lt
  have hbl := hs.cells.lt
  have t3 := ta_wd_wd
  by_cases h0 : (arLoad st i j).2 = 0
  · obtain ⟨q, v, hq, hv, e1, e2, _⟩ := arLoad_ok hs.ok h0
    rw [h0, e1]
    rw [h0, e2] at hh
    have hql := (List.getElem?_eq_some_iff.1 hv).1
    have hcell : (st.cells.map ACell.enc)[q]? = some (.iface 129 (.int .i64 v)) := by simp [hv, ACell.enc]
    have HC := Lib.hid hcell
    clear h0 hq hv e1 e2 hcell
    go_enter Try.func40, Try.ntmps40
    go_wp2_with (go_at_call 89; refine hh.mono ?_; rintro e w1 ⟨rfl, hb⟩; have c1 := (hs.head.belowAll hb).cell (j := 1) rfl; have c2 := (hs.cells.belowAll hb).cell HC.out)
    go_ret2
    exact ⟨rfl, hb⟩
  · have hne : ((arLoad st i j).2 != 0) = true := by rw [bne_iff_ne]; exact h0
    have e1 : (arLoad st i j).1 = 0 := by
      unfold arLoad at h0 ⊢
      cases hd : st.head i with
      | none => rfl
      | some kn =>
        rw [hd] at h0
        by_cases h2 : j < 0 ∨ kn.2 ≤ j
        · simp [h2]
        · simp [h2] at h0
    rw [e1]
    clear e1 h0
    generalize (arLoad st i j).2 = er at *
    go_enter Try.func40, Try.ntmps40
    go_wp2_with (go_at_call 89; refine hh.mono ?_; rintro e w1 ⟨rfl, hb⟩)
    go_ret2
    exact ⟨rfl, hb⟩

set_option maxRecDepth 100000 in
theorem arStore_calls {w : World} {pa ps br bl : Nat} {st : Ar} (hs : IsArena w pa ps br bl st) (i j v : Int) : Calls Try.prog 27 #[.pointer (some ⟨pa, 0, none⟩), .int .i64 i, .int .i64 j, .int .i64 v] w fun e w' =>
    e = .returned (.int .i64 (arLoad st i j).2) ∧ IsArena w' pa ps br bl (arStoreN st i j v) ∧ Upd (arB br bl) w w' := by
  have hl := hs.small
  have hh := arPlace hs i j
  have hpl := hs.head.lt
  have hbl := hs.cells.lt
  by_cases h0 : (arLoad st i j).2 = 0
  · obtain ⟨q, v0, hq, hv, e1, e2, e3⟩ := arLoad_ok hs.ok h0
    have hok := hs.ok.store i j v
    rw [e3] at hok ⊢
    rw [h0]
    rw [h0, e2] at hh
    have hql := (List.getElem?_eq_some_iff.1 hv).1
    have hcell : (st.cells.map ACell.enc)[q]? = some (.iface 129 (.int .i64 v0)) := by simp [hv, ACell.enc]
    have HC := Lib.hid hcell
    clear h0 hq hv e1 e2 e3 hcell
    go_enter Try.func27, Try.ntmps27
    go_wp2_with (go_at_call 89; refine hh.mono ?_; rintro e w1 ⟨rfl, hb⟩; have c1 := (hs.head.belowAll hb).cell (j := 1) rfl; have c2 := (hs.cells.belowAll hb).cell HC.out; have f2 := (hs.cells.belowAll hb).frozen q)
    go_ret
    exact ⟨rfl, (hs.below hb).set hql (.wd v) hok, (Upd.of_below hb).then ((upd_setCell w1 bl q _).mono (fun k hk => .inl (.inr hk)))⟩
  · have hne : ((arLoad st i j).2 == 0) = false := by rw [beq_eq_false_iff_ne]; exact h0
    have e1 : arStoreN st i j v = st := by simp [arStoreN, h0]
    rw [e1]
    clear e1 h0
    generalize (arLoad st i j).2 = er at *
    go_enter Try.func27, Try.ntmps27
    go_wp2_with (go_at_call 89; refine hh.mono ?_; rintro e w1 ⟨rfl, hb⟩)
    go_ret
    exact ⟨rfl, hs.below hb, Upd.of_below hb⟩

set_option maxRecDepth 100000 in
theorem arAlloc_calls {w : World} {pa ps br bl : Nat} {st : Ar} (hs : IsArena w pa ps br bl st) (k n : Int) : Calls Try.prog 29 #[.pointer (some ⟨pa, 0, none⟩), .int .i64 k, .int .i64 n] w fun e w' =>
    e = .returned (.tuple #[.int .i64 (arAllocV st k n).1, .int .i64 (arAllocV st k n).2]) ∧ IsArena w' pa ps br bl (arAllocN st k n) ∧ Upd (arB br bl) w w' := by
  have hl := hs.small
  have hco := classOf n w
  have hpl := hs.head.lt
  have hbl := hs.cells.lt
  by_cases hbad : k < 1 ∨ 6 < k ∨ clsB n = false
  · have e1 : arAllocV st k n = (0, 1) ∧ arAllocN st k n = st := by simp [arAllocV, arAllocN, hbad]
    rw [e1.1, e1.2]
    clear e1
    generalize clsI n = c at *
    have : ∀ b, clsB n = b → Calls Try.prog 29 #[.pointer (some ⟨pa, 0, none⟩), .int .i64 k, .int .i64 n] w fun e w' => e = .returned (.tuple #[.int .i64 0, .int .i64 1]) ∧ IsArena w' pa ps br bl st ∧ Upd (arB br bl) w w' := by
      intro b hb
      rw [hb] at hco hbad
      by_cases h1 : k < 1
      · clear hbad hb
        go_enter Try.func29, Try.ntmps29
        go_wp2_with (go_at_call 90; refine hco.mono ?_; rintro e w1 ⟨rfl, hb⟩)
        go_ret2
        exact ⟨rfl, hs.below hb, Upd.of_below hb⟩
      · have h1' : 1 ≤ k := by omega
        by_cases h2 : 6 < k
        · clear hbad hb
          go_enter Try.func29, Try.ntmps29
          go_wp2_with (go_at_call 90; refine hco.mono ?_; rintro e w1 ⟨rfl, hb⟩)
          go_ret2
          exact ⟨rfl, hs.below hb, Upd.of_below hb⟩
        · have h2' : k ≤ 6 := by omega
          obtain rfl : b = false := by rcases hbad with h | h | h; omega; omega; exact h
          clear hbad hb h1 h2
          go_enter Try.func29, Try.ntmps29
          go_wp2_with (go_at_call 90; refine hco.mono ?_; rintro e w1 ⟨rfl, hb⟩)
          go_ret2
          exact ⟨rfl, hs.below hb, Upd.of_below hb⟩
    exact this _ rfl
  have hk1 : 1 ≤ k := by omega
  have hk6 : k ≤ 6 := by omega
  have hcb : clsB n = true := by cases hb : clsB n; exact absurd (.inr (.inr hb)) hbad; rfl
  obtain ⟨hn0, hnw⟩ := clsI_fits hcb
  rw [hcb] at hco
  have hokA := hs.ok.alloc k n
  have hV : ∀ i s l, spAlloc st.rows (clsI n) = some (i, s, l) → arAllocV st k n = (((i * 32 + s * cw (clsI n) : Nat) : Int), 0) ∧ arAllocN st k n = ⟨l, setRange st.cells (i * 32 + s * cw (clsI n)) (.hdr k n :: List.replicate n.toNat (.wd 0))⟩ := by
    intro i s l h; simp only [arAllocV, arAllocN, if_neg hbad, h, and_self]
  have hN : spAlloc st.rows (clsI n) = none → arAllocV st k n = (0, 9) ∧ arAllocN st k n = st := by
    intro h; simp only [arAllocV, arAllocN, if_neg hbad, h, and_self]
  clear hbad hcb
  generalize hc : clsI n = c at *
  have hspa := fun w1 (h : IsSpans w1 ps br st.rows) => spAlloc_calls h c
  cases ha : spAlloc st.rows c with
  | none =>
    simp only [spAllocV, spAllocN, ha] at hspa
    rw [(hN ha).1, (hN ha).2]
    have HSP := Lib.hid hspa
    clear hspa hV hN ha hokA
    go_enter Try.func29, Try.ntmps29
    go_wp2_with fail
    refine hco.mono ?_
    rintro e w1 ⟨rfl, hb⟩
    have c0 := (hs.head.belowAll hb).cell (j := 0) rfl
    go_wp2_with fail
    refine (HSP.out _ (hs.below hb).spans).mono ?_
    rintro e w2 ⟨rfl, hs2, hu2⟩
    go_wp2
    go_ret2
    have hs1 := hs.below hb
    exact ⟨rfl, ⟨hu2.arr hs1.head hs.ne2, hu2.arr hs1.cells (fun e => hs.ne5 e.symm), hs2, hs.ne1, hs.ne2, hs.ne3, hs.ne4, hs.ne5, hs.ok⟩, (Upd.of_below hb).then (hu2.mono (fun k hk => .inl (.inl hk)))⟩
  | some t =>
    obtain ⟨i, s, l⟩ := t
    simp only [spAllocV, spAllocN, ha] at hspa
    rw [(hV _ _ _ ha).2] at hokA
    rw [(hV _ _ _ ha).1, (hV _ _ _ ha).2]
    have HSP := Lib.hid hspa
    obtain ⟨hc0, hc3, r, r', hr, rfl, hcls, hrok', hus, _⟩ := spAlloc_spec hs.ok.rows ha
    have hsl : s < r'.used.length := (List.getElem?_eq_some_iff.1 hus).1
    have hil : i < st.rows.length := (List.getElem?_eq_some_iff.1 hr).1
    have hcw := cw_cases r' hrok' (by omega)
    rw [hcls] at hcw
    have hcwi : cwords c = (cw c : Int) := by unfold cw; have := (cwords_nonneg c).1; omega
    obtain ⟨n, rfl⟩ := Int.eq_ofNat_of_zero_le hn0
    have hlen := hs.ok.len
    have hb32 : s * cw c + n + 1 ≤ 32 := by rcases hcw with ⟨e1, e2⟩ | ⟨e1, e2⟩ | ⟨e1, e2⟩ | ⟨e1, e2⟩ <;> rw [e1] at hcwi ⊢ <;> omega
    have hw1 : 0 ≤ (s : Int) * cwords c := Int.mul_nonneg (by omega) (by omega)
    have hw2 : (s : Int) * cwords c ≤ 31 := by rw [hcwi]; have : ((s * cw c : Nat) : Int) ≤ 31 := by omega
                                               simpa using this
    have hil2 : i < 128 := by have := hs.spans.len; omega
    have HP : Hid ((i : Int) * 32 + (s : Int) * cwords c = ((i * 32 + s * cw c : Nat) : Int)) := Lib.hid (by rw [hcwi]; simp)
    obtain ⟨P, hP⟩ : ∃ P, i * 32 + s * cw c = P := ⟨_, rfl⟩
    rw [hP] at HP hokA ⊢
    have hfit : P + (n + 1) ≤ st.cells.length := by omega
    clear hspa hV hN ha hr hcls hrok' hus hcw hlen hc hcwi hP
    go_enter Try.func29, Try.ntmps29
    go_wp2_with fail
    refine hco.mono ?_
    rintro e w1 ⟨rfl, hb⟩
    have c0 := (hs.head.belowAll hb).cell (j := 0) rfl
    go_wp2_with fail
    refine (HSP.out _ (hs.below hb).spans).mono ?_
    rintro e w2 ⟨rfl, hs2, hu2⟩
    clear c0
    go_wp2_with fail
    refine (classWords c _).mono ?_
    rintro e w3 ⟨rfl, hb3⟩
    go_upto_region 10 with (fail)
    rw [HP.out]
    have hA1 := ((hs.below hb).head.same (hu2.block pa (hs.below hb).head.lt hs.ne2)).belowAll hb3
    have hA2 := ((hs.below hb).cells.same (hu2.block bl (hs.below hb).cells.lt (fun e => hs.ne5 e.symm))).belowAll hb3
    have hs3 := hs2.upd (Upd.of_below (S := fun _ => False) hb3) (fun h => h) (fun h => h)
    have hu3 := ((Upd.of_below (S := arB br bl) hb).then (hu2.mono (fun k hk => .inl (.inl hk)))).then (Upd.of_below hb3)
    have hPl : P < st.cells.length := by omega
    have c1 := hA1.cell (j := 1) rfl
    have c2 := hA2.cell (j := P) (v := st.cells[P].enc) (by simp [hPl])
    have f2 := hA2.frozen P
    have hA3 := hA2.set (j := P) (by simpa using hPl) (ACell.hdr k n).enc
    rw [← List.map_set] at hA3
    have e0 : st.cells.set P (.hdr k n) = setRange st.cells P [.hdr k n] := by
      have := setRange_snoc (l := st.cells) (p := P) (xs := []) (by simpa using hPl) (.hdr k n)
      simpa [setRange] using this
    rw [e0] at hA3
    have hd3 := (upd_setCell w3 bl P (ACell.hdr k n).enc).arr hA1 hs.ne3
    have hu4 := hu3.then ((upd_setCell w3 bl P (ACell.hdr k n).enc).mono (fun k hk => .inl (.inr hk)))
    have hs4 := hs3.upd (upd_setCell w3 bl P (ACell.hdr k n).enc) hs.ne4 hs.ne5
    clear e0
    have HSAVE := And.intro hs4 (And.intro hu4 (And.intro hd3 hA3))
    simp only [ACell.enc] at HSAVE
    have HS2 := Lib.hid HSAVE
    clear HSAVE hs4 hu4 hd3 hA3 hu3 hs3 hA2 hA1
    go_wp2
    obtain ⟨hs4, hu4, hd3, hA3⟩ := HS2.out
    clear c1 c2 f2
    go_loopw [14, 64] (fun _ i wr => ∃ m : Nat, m ≤ n ∧ i = .int .i64 m ∧ Arr wr bl 20 ((setRange st.cells P (.hdr k n :: List.replicate m (.wd 0))).map ACell.enc) ∧ Upd (fun k => k = bl) (w3.setCell ⟨bl, P, none⟩ (.iface 123 (.agg #[.int .i64 k, .int .i64 n]))) wr) (fun _ i _ => n - (intOf i).toNat)
    case atStart => exact ⟨0, by omega, rfl, by simpa using hA3, Upd.refl _ _⟩
    case round =>
      obtain ⟨m, hm, rfl, hAr, hur⟩ := hrel
      have hdr := hur.arr hd3 hs.ne3
      have c1 := hdr.cell (j := 1) rfl
      by_cases hlt : m < n
      · have hxl : (ACell.hdr k n :: List.replicate m (.wd 0)).length = m + 1 := by simp
        have hsn := setRange_snoc (l := st.cells) (p := P) (xs := .hdr k n :: List.replicate m (.wd 0)) (by rw [hxl]; omega) (.wd 0)
        have hrl := setRange_length (l := st.cells) (p := P) (xs := .hdr k n :: List.replicate m (.wd 0)) (by rw [hxl]; omega)
        rw [hxl] at hsn
        have hidx : P + 1 + m < (setRange st.cells P (.hdr k n :: List.replicate m (.wd 0))).length := by rw [hrl]; omega
        obtain ⟨v0, c2⟩ : ∃ v0, wr.cell? ⟨bl, P + 1 + m, none⟩ = some v0 := ⟨_, hAr.cell (j := P + 1 + m) (v := (setRange st.cells P (.hdr k n :: List.replicate m (.wd 0)))[P + 1 + m].enc) (by rw [List.getElem?_map, List.getElem?_eq_getElem hidx]; rfl)⟩
        have f2 := hAr.frozen (P + 1 + m)
        have hA4 := hAr.set (j := P + 1 + m) (by simpa using hidx) (ACell.wd 0).enc
        rw [← List.map_set, show P + 1 + m = P + (m + 1) from by omega, hsn] at hA4
        have HA4 := Lib.hid hA4
        have hi2 : P + 1 + m < st.cells.length := by omega
        clear hA4 hsn hrl hxl hidx
        go_wp2
        go_roundw
        case rel => exact ⟨m + 1, by omega, by go_num, by have := HA4.out; rw [show P + (m + 1) = P + 1 + m from by omega] at this; rw [List.replicate_succ']; exact this, hur.then (upd_setCell _ _ _ _)⟩
        case measure => simp [intOf]; omega
      · obtain rfl : m = n := by omega
        go_wp2
        go_ret2
        have hu5 := hu4.then (hur.mono (fun k hk => .inl (.inr hk)))
        refine ⟨rfl, ⟨?_, ?_, hs4.upd hur hs.ne4 hs.ne5, hs.ne1, hs.ne2, hs.ne3, hs.ne4, hs.ne5, hokA⟩, hu5⟩
        · have : (setRange st.cells P (.hdr k m :: List.replicate m (.wd 0))).length = st.cells.length := setRange_length (by simp; omega)
          simp only [Int.toNat_natCast, this]; exact hdr
        · simpa using hAr

theorem spUsed_of {sp : List Row} {i s : Nat} {r : Row} (hr : sp[i]? = some r) (hu : r.used[s]? = some true) : spUsed sp i s = true := by
  unfold spUsed
  rw [if_pos (by omega), Int.toNat_natCast, hr]
  simp only [Int.toNat_natCast, List.getD_eq_getElem?_getD, hu]
  simp

set_option maxRecDepth 100000 in
theorem arFree_calls {w : World} {pa ps br bl : Nat} {st : Ar} (hs : IsArena w pa ps br bl st) (i : Int) : Calls Try.prog 25 #[.pointer (some ⟨pa, 0, none⟩), .int .i64 i] w fun e w' =>
    e = .returned (.int .i64 (arFreeV st i)) ∧ IsArena w' pa ps br bl (arFreeN st i) ∧ Upd (arB br bl) w w' := by
  have hl := hs.small
  have hh := arHead hs i
  have hpl := hs.head.lt
  have hbl := hs.cells.lt
  cases hd : st.head i with
  | none =>
    have e1 : arFreeV st i = 8 ∧ arFreeN st i = st := by simp [arFreeV, arFreeN, hd]
    rw [e1.1, e1.2]
    rw [hd] at hh
    simp only [hK, hN, Option.isSome] at hh
    clear e1 hd
    go_enter Try.func25, Try.ntmps25
    go_wp2_with (go_at_call 87; refine hh.mono ?_; rintro e w1 ⟨rfl, hb⟩)
    go_ret
    have hz := hb.size
    have hb2 : Below w.heap.size w (w1.alloc (.cells #[.int .i64 0, .int .i64 0] 123)) := by go_grown
    exact ⟨rfl, hs.below hb2, Upd.of_below hb2⟩
  | some kn =>
    obtain ⟨k, n⟩ := kn
    have hokF := hs.ok.free i
    obtain ⟨p, rfl, hp⟩ := Ar.head_some hd
    obtain ⟨_, _, b3, b4, b5, b6⟩ := hs.ok.fits hp
    obtain ⟨_, _, _, r, hr, hn, hm, hu, _⟩ := hs.ok.hdr p k n hp
    rw [hd] at hh
    simp only [hK, hN, Option.isSome] at hh
    have hrok := hs.ok.rows r (List.mem_of_getElem? hr)
    have hne : r.cls ≠ -1 := by intro e; rw [e] at hn; simp [cwords] at hn; omega
    have hcl : spCls st.rows ((p / 32 : Nat) : Int) = r.cls := by
      unfold spCls
      rw [if_pos (by omega)]
      have : ((p / 32 : Nat) : Int).toNat = p / 32 := by omega
      rw [this, hr]
    have eN : arFreeN st p = ⟨spFree st.rows (p / 32) (p % 32 / cw r.cls), setRange st.cells p (List.replicate (n.toNat + 1) .nil)⟩ := by
      simp only [arFreeN, hd, Int.toNat_natCast]
      rw [hcl]
    have eV : arFreeV st p = 0 := by simp [arFreeV, hd]
    rw [eN] at hokF
    rw [eN, eV]
    obtain ⟨n, rfl⟩ := Int.eq_ofNat_of_zero_le b3
    have hcw := cw_cases r hrok hne
    have hcwi : cwords r.cls = (cw r.cls : Int) := by unfold cw; have := (cwords_nonneg r.cls).1; omega
    have hcwp : 0 < cw r.cls := by omega
    have husd : spUsed st.rows ((p / 32 : Nat) : Int) ((p % 32 / cw r.cls : Nat) : Int) = true := spUsed_of hr hu
    have hclc := fun w1 (h : IsSpans w1 ps br st.rows) => spClass h ((p / 32 : Nat) : Int)
    rw [hcl] at hclc
    have hfr := fun w1 (h : IsSpans w1 ps br st.rows) => spFree_yes h (p / 32) (p % 32 / cw r.cls) husd
    have hww := fun w1 => classWords r.cls w1
    rw [hcwi] at hww
    generalize r.cls = c at *
    have HF := Lib.hid hfr
    have HC := Lib.hid hclc
    have HW := Lib.hid hww
    clear hclc hfr hww eN eV hd hp hr hn hm hu hrok hcl hne husd hcw hcwi
    generalize cw c = W at *
    have hWne : ((W : Int) == 0) = false := by rw [beq_eq_false_iff_ne]; omega
    go_enter Try.func25, Try.ntmps25
    go_wp2_with fail
    refine hh.mono ?_
    rintro e w1 ⟨rfl, hb⟩
    clear hh
    have hA1 := hs.below hb
    go_upto_region 7 with (fail)
    obtain ⟨i0, hi0⟩ : ∃ i0, p / 32 = i0 := ⟨_, rfl⟩
    obtain ⟨s0, hs0⟩ : ∃ s0, p % 32 / W = s0 := ⟨_, rfl⟩
    rw [hi0] at HC HF
    rw [hs0] at HF
    rw [show ((p : Int) / 32) = (i0 : Int) from by omega]
    have hdiv : (Int.tdiv (Int.tmod (p : Int) 32) (W : Int)) = (s0 : Int) := by
      rw [Int.tmod_eq_emod_of_nonneg (by omega), show ((p : Int) % 32) = ((p % 32 : Nat) : Int) from by omega, ← hs0]
      rfl
    have hs0b : s0 < 32 := by rw [← hs0]; exact Nat.lt_of_le_of_lt (Nat.div_le_self _ _) (by omega)
    have HQ : Hid (IntKind.i64.wrap ((Int.tmod (p : Int) 32).tdiv (W : Int)) = (s0 : Int)) := Lib.hid (by rw [hdiv]; exact IntWalk.i64_in _ (by omega))
    clear hdiv
    have hW0 : ¬ W = 0 := by omega
    have hbox := Arr.made w1 123 [.int .i64 k, .int .i64 n]
    have hA2 := hA1.below ((Below.refl _ w1).alloc (Nat.le_refl _) (.cells #[.int .i64 k, .int .i64 n] 123))
    have hb2 := hb.alloc hb.size (.cells #[.int .i64 k, .int .i64 n] 123)
    have hbn : w.heap.size ≤ w1.heap.size := hb.size
    have hbs : w1.heap.size < (w1.alloc (.cells #[.int .i64 k, .int .i64 n] 123)).heap.size := by simp
    generalize hBX : w1.heap.size = bx at *
    generalize (w1.alloc (.cells #[.int .i64 k, .int .i64 n] 123)) = w2 at *
    clear hA1 hb hBX
    have c0 := hA2.head.cell (j := 0) rfl
    have hHK : Hid (∀ wx : World, Below w2.heap.size w2 wx → IsArena wx pa ps br bl st ∧ wx.cell? ⟨pa, 0, none⟩ = some (.pointer (some ⟨ps, 0, none⟩))) :=
      fun wx hx => ⟨hA2.below hx, (hA2.below hx).head.cell (j := 0) rfl⟩
    go_region_held3 (fun w' => w'.cell? ⟨pa, 0, none⟩ = some (.pointer (some ⟨ps, 0, none⟩)))
      (first | exact c0 | assumption | exact (hHK.out _ (below_undrew (by assumption))).2)
      (first | (go_at_call 16; refine (HC.out _ (hHK.out _ (Below.refl _ _).drew).1.spans).mono ?_; rintro e wx ⟨rfl, rfl⟩) | (go_at_call 84; refine (HW.out _).mono ?_; rintro e w3 ⟨rfl, hb3⟩) | (go_at_call 17; rw [HQ.out]; refine (HF.out _ (hHK.out _ (below_undrew (by assumption))).1.spans).mono ?_; rintro e w4 ⟨rfl, hs4, hu4⟩; have k4 := (hu4.arr (hHK.out _ (below_undrew hb3)).1.head hs.ne2).cell (j := 0) rfl))
    rename_i hheld
    clear hheld
    have hb3' := below_undrew hb3
    have hu2 : Upd (arB br bl) w w4 := (Upd.of_below (below_then' hb2 hb3')).then (hu4.mono (fun k hk => .inl (.inl hk)))
    have hh4 := hu4.arr (hA2.below hb3').head hs.ne2
    have hc4 := hu4.arr (hA2.below hb3').cells (fun e => hs.ne5 e.symm)
    have hx4 := hu4.arr (hbox.below hb3' hbs) (by have := hs.spans.rows.lt; omega)
    have x1 := hx4.cell (j := 1) rfl
    rw [hi0, hs0] at hokF
    have HI := Lib.hid hi0
    have HS := Lib.hid hs0
    clear hi0 hs0
    clear hb3 hb3' k4 c0 hHK HC HF HW HQ hu4 hWne hW0 hA2
    go_wp2
    clear x1
    go_loopw [8, 42] (fun _ i wr => ∃ m : Nat, m ≤ n + 1 ∧ i = .int .i64 m ∧ Arr wr bl 20 ((setRange st.cells p (List.replicate m .nil)).map ACell.enc) ∧ Upd (fun k => k = bl) w4 wr) (fun _ i _ => n + 1 - (intOf i).toNat)
    case atStart => exact ⟨0, by omega, rfl, by simpa [setRange] using hc4, Upd.refl _ _⟩
    case round =>
      obtain ⟨m, hm, rfl, hAr, hur⟩ := hrel
      have hdr := hur.arr hh4 hs.ne3
      have c1 := hdr.cell (j := 1) rfl
      by_cases hlt : m < n + 1
      · have hxl : (List.replicate m ACell.nil).length = m := by simp
        have hsn := setRange_snoc (l := st.cells) (p := p) (xs := List.replicate m .nil) (by rw [hxl]; omega) .nil
        have hrl := setRange_length (l := st.cells) (p := p) (xs := List.replicate m .nil) (by rw [hxl]; omega)
        rw [hxl] at hsn
        have hidx : p + m < (setRange st.cells p (List.replicate m .nil)).length := by rw [hrl]; omega
        obtain ⟨v0, c2⟩ : ∃ v0, wr.cell? ⟨bl, p + m, none⟩ = some v0 := ⟨_, hAr.cell (j := p + m) (v := (setRange st.cells p (List.replicate m .nil))[p + m].enc) (by rw [List.getElem?_map, List.getElem?_eq_getElem hidx]; rfl)⟩
        have f2 := hAr.frozen (p + m)
        have hA4 := hAr.set (j := p + m) (by simpa using hidx) ACell.nil.enc
        rw [← List.map_set, hsn] at hA4
        have HA4 := Lib.hid hA4
        have hi2 : p + m < st.cells.length := by omega
        clear hA4 hsn hrl hxl hidx
        go_wp2
        go_roundw
        case rel => exact ⟨m + 1, by omega, by go_num, by rw [List.replicate_succ']; exact HA4.out, hur.then (upd_setCell _ _ _ _)⟩
        case measure => simp [intOf]; omega
      · obtain rfl : m = n + 1 := by omega
        go_wp2
        go_ret
        have hu5 := hu2.then (hur.mono (fun k hk => .inl (.inr hk)))
        rw [HI.out, HS.out]
        refine ⟨rfl, ⟨?_, ?_, hs4.upd hur hs.ne4 hs.ne5, hs.ne1, hs.ne2, hs.ne3, hs.ne4, hs.ne5, hokF⟩, hu5⟩
        · have : (setRange st.cells p (List.replicate (n + 1) ACell.nil)).length = st.cells.length := setRange_length (by simp; omega)
          simp only [Int.toNat_natCast, this]; exact hdr
        · simpa using hAr

def SlPost (xs : List Int) (w : World) (e : Ending) (w' : World) : Prop := ∃ v, e = .returned v ∧ IntSl w' w.heap.size v xs ∧ Below w.heap.size w w'
def castL (l : List Nat) : List Int := l.map fun (n : Nat) => (n : Int)
theorem objsTo_succ (st : Ar) (m : Nat) : objsTo st (m + 1) = objsTo st m ++ (if (st.head m).isSome then [m] else []) := by
  unfold objsTo
  rw [List.range_succ, List.filter_append]
  congr 1
  simp only [List.filter_cons, List.filter_nil]
theorem objsTo_length (st : Ar) (m : Nat) : (objsTo st m).length ≤ m := by
  unfold objsTo
  exact Nat.le_trans (List.length_filter_le _ _) (by simp)

set_option maxRecDepth 100000 in
theorem arObjects {w : World} {pa ps br bl : Nat} {st : Ar} (hs : IsArena w pa ps br bl st) : Calls Try.prog 32 #[.pointer (some ⟨pa, 0, none⟩)] w (SlPost (castL (arObjs st)) w) := by
  obtain ⟨i0, hi, hz0, hz1, hz2⟩ := info_parts info_int
  have hl := hs.small
  have hwd := arWords hs
  have HW := Lib.hid hwd
  clear hwd
  go_enter Try.func32, Try.ntmps32
  go_wp2_with fail
  refine HW.out.mono ?_
  rintro e w1 ⟨rfl, rfl⟩
  go_wp2
  go_loopw [3, 9] (fun l i wr => ∃ m : Nat, m ≤ st.cells.length ∧ i = .int .i64 m ∧ IntSl wr w.heap.size l (castL (objsTo st m)) ∧ Below w.heap.size w wr) (fun _ i _ => st.cells.length - (intOf i).toNat)
  case atStart => exact ⟨0, by omega, rfl, IntSl.nil _ _, Below.refl _ _⟩
  case round =>
    obtain ⟨m, hm, rfl, hown, hb⟩ := hrel
    by_cases hlt : m < st.cells.length
    · have hh := arHead (hs.below hb) m
      have hsc := objsTo_succ st m
      have hol := objsTo_length st m
      have HOL : Hid ((castL (objsTo st m)).length ≤ 4096) := Lib.hid (by simp [castL]; omega)
      clear hol
      cases hso : (st.head m).isSome with
      | false =>
        rw [hso] at hsc hh
        simp only [Bool.false_eq_true, if_false, List.append_nil] at hsc
        have HSC := Lib.hid hsc
        clear hsc hso
        go_wp2_with fail
        refine hh.mono ?_
        rintro e w2 ⟨rfl, hb2⟩
        have hb3 := below_then' hb hb2
        have hz := hb2.size
        go_wp2
        go_roundw
        case rel => exact ⟨m + 1, by omega, by go_num, by rw [HSC.out]; exact (hown.below hb2).alloc _, hb3.alloc hb3.size _⟩
        case measure => simp [intOf]; omega
      | true =>
        rw [hso] at hsc hh
        simp only [if_true] at hsc
        have HSC := Lib.hid hsc
        clear hsc hso
        go_wp2_with fail
        refine hh.mono ?_
        rintro e w2 ⟨rfl, hb2⟩
        have hb3 := below_then' hb hb2
        have hz := hb2.size
        have hown2 := (hown.below hb2).alloc (.cells #[.int .i64 (hK (st.head m)), .int .i64 (hN (st.head m))] 123)
        have hb4 := hb3.alloc hb3.size (.cells #[.int .i64 (hK (st.head m)), .int .i64 (hN (st.head m))] 123)
        clear hown
        go_wp2_with (at_builtin; refine wpList_append_own _ rfl _ _ 22 rfl w.heap.size 3 i0 (.int .i64 0) 1 8 Try.underlying22 hi hz0 hz1 hz2 rfl (by decide) _ _ _ rfl (hown2.alloc _) ⟨w2.heap.size + 1, 0, none⟩ 1 1 [.int .i64 m] rfl rfl ?c1 ?c2 ?c3 ?c4 ?c5 ?_)
        case c1 => have := news_made (w2.alloc (.cells #[.int .i64 (hK (st.head m)), .int .i64 (hN (st.head m))] 123)) 3 [.int .i64 m]; simpa using this
        case c2 => intro u hu; simp at hu; subst hu; rfl
        case c3 => unfold maxLen; have := HOL.out; omega
        case c4 => have := HOL.out; omega
        case c5 => have := hb4.size; simp at this ⊢; omega
        intro v' w5 hown' hgrow hiff
        have hsl := IntSl.of_snoc hown' rfl
        have hb5 := (hb4.alloc hb4.size _).grown hgrow (hb4.alloc hb4.size _).size (fun k hk => (hown2.lt k hk).1)
        clear hiff hgrow hown'
        go_wp2
        go_roundw
        case rel => exact ⟨m + 1, by omega, by go_num, by rw [HSC.out]; simpa [castL] using hsl, hb5⟩
        case measure => simp [intOf]; omega
    · obtain rfl : m = st.cells.length := by omega
      go_wp2
      go_ret
      exact ⟨_, rfl, hown, hb⟩

theorem info_any : (Try.prog.info? 20).map (fun i => (i.zero, i.size, i.bytes)) = some (some .nilIface, 1, 16) := by kernel_rfl
set_option maxRecDepth 100000 in
theorem make_cells {t e : TypeId} {i : TypeInfo} {z : Value} (ht : Try.prog.underlying t = some (.slice e)) (hi : Try.prog.info? e = some i) (hz : i.zero = some z) (hs : i.size = 1) (hzc : z.cells = #[z]) (N : Nat) (hb : i.bytes * N ≤ 281474976710656) (hN : N ≤ 4096) (x : Int) (hx : x = N) (w : World) :
    (Instr.makeSlice t (.int .i64 x) (.int .i64 x)).run Try.prog w = .ok (.slice (some ⟨w.heap.size, 0, none⟩) N N) (w.alloc (.cells (List.replicate N z).toArray e)) := by
  subst hx
  rw [run_make w t e i z ht hi hz .i64 .i64 N N (by omega) (by omega) (by omega) (by omega)]
  simp only [Int.toNat_natCast]
  congr 3
  simp only [hs, Nat.mul_one, hzc]
  apply Array.ext
  · simp [madeCells]
  · intro j h1 h2
    simp [madeCells, Nat.mod_one]

def ArNewPost (n : Nat) (w : World) (e : Ending) (w' : World) : Prop :=
  ∃ pa ps br bl, e = .returned (.tuple #[.pointer (some ⟨pa, 0, none⟩), .int .i64 0]) ∧ IsArena w' pa ps br bl (arNew n) ∧ w.heap.size ≤ pa ∧ w.heap.size ≤ ps ∧ w.heap.size ≤ br ∧ w.heap.size ≤ bl ∧ Below w.heap.size w w'

set_option maxRecDepth 100000 in
theorem arNew_calls (n : Nat) (h2 : 2 ≤ n) (h128 : n ≤ 128) (w : World) : Calls Try.prog 21 #[.int .i64 n] w (ArNewPost n w) := by
  obtain ⟨i0, hi, hz0, hz1, hz2⟩ := info_parts info_any
  have hmk := fun wx => make_cells (t := 117) (e := 20) Try.underlying117 hi hz0 hz1 rfl (32 * n) (by rw [hz2]; omega) (by omega) ((n : Int) * 32) (by omega) wx
  generalize hcs : (List.replicate (32 * n) Value.nilIface) = cs at *
  have HCS := Lib.hid hcs
  clear hcs
  go_enter Try.func21, Try.ntmps21
  go_wp2_with fail
  refine (spNew n h2 h128 w).mono ?_
  rintro e w1 ⟨ps, br, rfl, hs1, hps, hbr, hb1⟩
  go_wp2
  go_ret2
  have hb2 := hb1.alloc hb1.size (.cells cs.toArray 20)
  have hA1 := Arr.made w1 20 cs
  have hs2 := hs1.upd (Upd.of_below (S := fun _ => False) ((Below.refl _ _).alloc (Nat.le_refl _) (.cells cs.toArray 20))) (fun h => h) (fun h => h)
  have hz : (w1.alloc (.cells cs.toArray 20)).heap.size = w1.heap.size + 1 := by simp
  have hpl := hs1.head
  have hbl := hs1.rows.lt
  have hpl : ps < w1.heap.size := by obtain ⟨cap, hh, _⟩ := hs1.head; exact hh.lt
  have hlen : (arNew n).cells.length = 32 * n := by simp [arNew]
  refine ⟨w1.heap.size + 1, ps, br, w1.heap.size, rfl, ?_, by have := hb1.size; omega, hps, hbr, hb1.size, hb2.alloc hb2.size _⟩
  have hs3 := hs2.upd (Upd.of_below (S := fun _ => False) ((Below.refl _ _).alloc (Nat.le_refl _) (.cells #[.pointer (some ⟨ps, 0, none⟩), .slice (some ⟨w1.heap.size, 0, none⟩) (32 * n) (32 * n)] 119))) (fun h => h) (fun h => h)
  have hA2 := hA1.alloc (.cells #[.pointer (some ⟨ps, 0, none⟩), .slice (some ⟨w1.heap.size, 0, none⟩) (32 * n) (32 * n)] 119)
  have hA3 := Arr.made (w1.alloc (.cells cs.toArray 20)) 119 [.pointer (some ⟨ps, 0, none⟩), .slice (some ⟨w1.heap.size, 0, none⟩) (32 * n) (32 * n)]
  rw [hz] at hA3
  refine ⟨by rw [hlen]; exact hA3, ?_, hs3, by omega, by omega, by omega, by omega, by omega, arNew_ok n⟩
  have : (arNew n).cells.map ACell.enc = cs := by rw [← HCS.out]; simp [arNew, ACell.enc]
  rw [this]; exact hA2
end Go.Proofs.Ytccaegiceneegaa
