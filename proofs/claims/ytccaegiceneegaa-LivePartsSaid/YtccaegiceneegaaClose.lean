/- From what a law's walk shows to what its statement says: the result is true, and all that was there reads as it did. No conditions. -/
import Derived.Test.YtccaegiceneegaaRows
import Derived.Test.YtccaegiceneegaaBase
import Derived.ProofKit
import Derived.ChangeSame
import Derived.Deep.Slices
import Derived.Deep.Fields
import Derived.WideKeyArgs
namespace Go.Proofs.Ytccaegiceneegaa
open Go.ChangeShapes Go.WideShapes Go.ChangeAt Go.RowKit Go.Deep

theorem own_knob : ownKnob Try.prog.godebug = none := by kernel_rfl
theorem laid_out : laidOutB Try.prog = true := by kernel_rfl

section
variable {H : Type} {enc : TypeId × Value → H} {P : Program}
/-- what reads the arguments reads them behind a call that turned nothing of them -/
theorem trodAll_stays (hl : laidOutB P = true) {W W' : World} (hb : Below W.heap.size W W') : ∀ (ts : List TypeId), (∀ t ∈ ts, P.readableRec t = true ∧ t < P.types.size) → ∀ {vs : List Value} {ds : List (DataW H)} {ps : List MemPlace},
    DataW.TrodAll enc P W 0 (fun _ => true) true ts vs ds ps → (∀ x ∈ ps, x.block < W.heap.size) → ∀ sp : Nat → Bool, (∀ p ∈ ps, sp p.block = true) → DataW.TrodAll enc P W' 0 sp true ts vs ds ps := by
  intro ts
  induction ts with
  | nil =>
    intro _ vs ds ps h _ sp _
    cases vs <;> cases ds <;> simp [DataW.TrodAll] at h ⊢ <;> exact h
  | cons t ts ih =>
    intro ht vs ds ps h hlt sp hs
    obtain ⟨v, vs', d, ds', p, q, rfl, rfl, rfl, h1, h2⟩ := trodAll_cons h
    refine ⟨p, q, WideElems.Trod_stays hl (ht t (List.mem_cons_self ..)).1 (ht t (List.mem_cons_self ..)).2 h1 (fun x hx => hb.same (hlt x (List.mem_append_left _ hx))) (fun x hx => hs x (List.mem_append_left _ hx)), ih (fun u hu => ht u (List.mem_cons_of_mem _ hu)) h2 (fun x hx => hlt x (List.mem_append_right _ hx)) sp (fun x hx => hs x (List.mem_append_right _ hx)), rfl⟩

theorem post_of_below {f : Func} {s : ChangeSpec} {apart fresh handsOn again : Bool} {W W' : World} {args : Array Value} {v : Value} {ds gs : List (DataW H)} {before pa pv : List MemPlace}
    (hW : DataW.Whole enc P f.params.toList s.vars apart W args.toList ds gs before)
    (hres : ∀ (b : Nat) (sp : Nat → Bool) (hd : Bool), DataW.TrodAll enc P W' b sp hd f.resultTypes.toList (v.resultList f.resultTypes.size) (s.fn H (ds ++ gs)).results [])
    (hargs : ∀ sp : Nat → Bool, (∀ p ∈ before, sp p.block = true) → DataW.TrodAll enc P W' 0 sp true f.params.toList args.toList (s.fn H (ds ++ gs)).args pa)
    (hvars : ∀ sp : Nat → Bool, (∀ p ∈ before, sp p.block = true) → DataW.TrodVars enc P W' sp s.vars (s.fn H (ds ++ gs)).vars pv)
    (hps : before = pa ++ pv) (hb : Below W.heap.size W W')
    (hok : ∀ (j : Nat) (t : TypeId) (r : Value), f.resultTypes[j]? = some t → (v.resultList f.resultTypes.size)[j]? = some r → Value.okWide P W' .any 0 t r) :
    s.post enc P f apart fresh handsOn again W args v W' := by
  have hlt : ∀ p ∈ before, p.block < W.heap.size := fun p hp => hW.lt p hp
  have hold : ∀ p ∈ before, (fun b => decide (b < W.heap.size)) p.block = true := fun p hp => by simpa using hlt p hp
  refine ⟨ds, gs, before, [], pa, pv, hW, hres _ _ _, hargs _ hold, hvars _ hold, World.keptBut_mono (fun p hp => ⟨hp, ?_⟩) (hb.frame (· ∈ before)), fun _ => ?_⟩
  · rw [hps, List.mem_append] at hp
    exact Or.inr hp
  · obtain ⟨_, _, _, _, _, hz, hn⟩ := hW
    refine ⟨hok, _, _, ([] ++ pa) ++ pv, ⟨[] ++ pa, pv, trodAll_append (hargs _ (fun _ _ => rfl)) (hres _ _ _), hvars _ (fun _ _ => rfl), rfl, ?_, ?_⟩, ?_⟩
    · intro b off hp
      have hin : MemPlace.cell b off ∈ before := by rw [hps]; simpa using hp
      rw [hb.frozen (hlt _ hin)]
      exact hz b off hin
    · intro ha
      have := hn ha
      rw [hps] at this
      simpa using this
    · intro p hp _
      rw [hps]
      simpa using hp

variable {w : World} {base : Nat} {spare : Nat → Bool} {held : Bool}
theorem open_slice_fields {t e : TypeId} {fs : Array Field} {fuel : Nat} {cs : List Value} {x : DataW H × List MemPlace} (ht : P.underlying t = some (.slice e)) (he : P.underlying e = some (.struct fs))
    (hone : oneCellFields P fs = true) (hC : P.cellsOf e = fs.size) (h : DataW.trod enc P w base spare held fuel t cs = some x) :
    (cs = [.slice none 0 0] ∧ x = (.nil, [])) ∨
    ∃ (a : Addr) (len cap m : Nat) (D : Nat → DataW H) (Pl : Nat → List MemPlace), cs = [.slice (some a) len cap] ∧ base ≤ a.block ∧ len ≤ cap ∧ cap ≤ maxLen ∧ m = (if spare a.block then cap else len) ∧
      x = (.slice ((List.range len).map D) ((List.range (m - len)).map fun j => D (len + j)), MemPlace.row a (m * fs.size) ++ (List.range m).flatMap Pl) ∧
      ∀ i, i < m → ∃ (ys : List (DataW H × List MemPlace)) (n : Nat), D i = .agg (ys.map (·.1)) ∧ Pl i = ys.flatMap (·.2) ∧ ys.length = fs.size ∧
        ∀ (j : Nat) (f : Field), fs[j]? = some f → ∃ (v : Value) (y : DataW H × List MemPlace), w.cell? (a.add (i * fs.size + j)) = some v ∧ ys[j]? = some y ∧ DataW.trod enc P w base spare held n f.type [v] = some y := by
  rcases open_slice ht h with h0 | ⟨a, len, cap, m, n, D, Pl, hcs, hb, hl, hm, hmm, hx, hi⟩
  · exact .inl h0
  · refine .inr ⟨a, len, cap, m, D, Pl, hcs, hb, hl, hm, hmm, by rw [hC] at hx; exact hx, fun i him => ?_⟩
    obtain ⟨cs', hc, ht'⟩ := hi i him
    rw [hC] at hc
    obtain ⟨ys, n', hn', hy, hlen, hyl, hf⟩ := DataW.trod_struct he ht'
    obtain ⟨_, hcl, hat⟩ := World.cells?_some hc
    simp only [Prod.mk.injEq] at hy
    refine ⟨ys, n', hy.1, hy.2, hyl, fun j f hj => ?_⟩
    obtain ⟨ho, hk⟩ := hone_of hone j f hj
    have hjl : j < fs.size := (Array.getElem?_eq_some_iff.1 hj).1
    have hcell := hat j hjl
    have hv : cs'[j]? = some (cs'[j]'(by omega)) := List.getElem?_eq_getElem (by omega)
    have h1 := hf j f hj
    rw [ho, hk] at h1
    have hone' : (cs'.drop j).take 1 = [cs'[j]'(by omega)] := by
      rw [List.drop_eq_getElem_cons (by omega)]
      rfl
    rw [hone'] at h1
    have hys : ys[j]? = some (ys[j]'(by omega)) := List.getElem?_eq_getElem (by omega)
    refine ⟨_, _, ?_, hys, h1.trans hys⟩
    rw [← Go.Deep.add_add, hcell, hv]
end

theorem list_of {α : Type} {Q : Nat → α → Prop} : ∀ n : Nat, (∀ i, i < n → ∃ o, Q i o) → ∃ l : List α, l.length = n ∧ ∀ i o, l[i]? = some o → Q i o := by
  intro n
  induction n with
  | zero => intro _; exact ⟨[], rfl, fun i o h => by simp at h⟩
  | succ n ih =>
    intro h
    obtain ⟨l, hl, hq⟩ := ih (fun i hi => h i (by omega))
    obtain ⟨o, ho⟩ := h n (by omega)
    refine ⟨l ++ [o], by simp [hl], fun i o' hi => ?_⟩
    by_cases e : i < l.length
    · rw [List.getElem?_append_left e] at hi; exact hq i o' hi
    · rw [List.getElem?_append_right (by omega)] at hi
      have e2 : i - l.length = 0 := by
        have := (List.getElem?_eq_some_iff.1 hi).1
        simp at this; omega
      rw [e2] at hi
      simp at hi
      subst hi
      have : i = n := by omega
      subst this; exact ho

/-- six whole numbers -/
structure Op6 where
  kd : Int
  k : Int
  n : Int
  at_ : Int
  j : Int
  v : Int
/-- a slice of structs of six whole numbers lies there -/
def OpsAt (w : World) (v : Value) (ops : List Op6) : Prop := (ops = [] ∧ v = .slice none 0 0) ∨ ∃ a cap, v = .slice (some a) ops.length cap ∧ ops.length ≤ cap ∧ cap ≤ maxLen ∧ (0 < ops.length → a.block < w.heap.size) ∧ ∀ (i : Nat) (o : Op6), ops[i]? = some o →
  w.cell? (a.add (i * 6)) = some (.int .i64 o.kd) ∧ w.cell? (a.add (i * 6 + 1)) = some (.int .i64 o.k) ∧ w.cell? (a.add (i * 6 + 2)) = some (.int .i64 o.n) ∧ w.cell? (a.add (i * 6 + 3)) = some (.int .i64 o.at_) ∧ w.cell? (a.add (i * 6 + 4)) = some (.int .i64 o.j) ∧ w.cell? (a.add (i * 6 + 5)) = some (.int .i64 o.v)

set_option maxRecDepth 100000 in
theorem open_ops {H : Type} {enc : TypeId × Value → H} {W : World} {t e : TypeId} {f0 f1 f2 f3 f4 f5 : Field} {v : Value} {d : DataW H} {ps : List MemPlace} (ht : Try.prog.underlying t = some (.slice e)) (he : Try.prog.underlying e = some (.struct #[f0, f1, f2, f3, f4, f5])) (hone : oneCellFields Try.prog #[f0, f1, f2, f3, f4, f5] = true) (hC : Try.prog.cellsOf e = 6)
    (hty : f0.type = 3 ∧ f1.type = 3 ∧ f2.type = 3 ∧ f3.type = 3 ∧ f4.type = 3 ∧ f5.type = 3) (hv : Value.okWide Try.prog W .any 0 t v) (h : DataW.Trod enc Try.prog W 0 (fun _ => true) true t v d ps) : ∃ ops : List Op6, OpsAt W v ops := by
  obtain ⟨a0, len, cap, rfl⟩ := okWide_slice ht hv
  obtain ⟨fuel, hf⟩ := h
  rcases open_slice_fields ht he hone hC hf with ⟨hcs, _⟩ | ⟨a, len', cap', m, D, Pl, hcs, _, hl, hm, hmm, _, hfi⟩
  · simp [Value.cells] at hcs
    obtain ⟨rfl, rfl, rfl⟩ := hcs
    exact ⟨[], .inl ⟨rfl, rfl⟩⟩
  · simp [Value.cells] at hcs
    obtain ⟨rfl, rfl, rfl⟩ := hcs
    simp only [if_true] at hmm
    subst hmm
    obtain ⟨t0, t1, t2, t3, t4, t5⟩ := hty
    have key : ∀ i, i < len → ∃ o : Op6, W.cell? (a.add (i * 6)) = some (.int .i64 o.kd) ∧ W.cell? (a.add (i * 6 + 1)) = some (.int .i64 o.k) ∧ W.cell? (a.add (i * 6 + 2)) = some (.int .i64 o.n) ∧ W.cell? (a.add (i * 6 + 3)) = some (.int .i64 o.at_) ∧ W.cell? (a.add (i * 6 + 4)) = some (.int .i64 o.j) ∧ W.cell? (a.add (i * 6 + 5)) = some (.int .i64 o.v) := by
      intro i hi
      obtain ⟨ys, n, _, _, _, hc⟩ := hfi i (by omega)
      have one : ∀ (j : Nat) (f : Field), (#[f0, f1, f2, f3, f4, f5] : Array Field)[j]? = some f → f.type = 3 → ∃ x : Int, W.cell? (a.add (i * 6 + j)) = some (.int .i64 x) := by
        intro j f hj hft
        obtain ⟨v, y, hcell, _, htr⟩ := hc j f hj
        rw [hft] at htr
        obtain ⟨x, hx, _⟩ := DataW.trod_int Try.underlying3 htr
        simp only [List.cons.injEq, and_true] at hx
        subst hx
        exact ⟨x, hcell⟩
      obtain ⟨x0, h0⟩ := one 0 f0 rfl t0
      obtain ⟨x1, h1⟩ := one 1 f1 rfl t1
      obtain ⟨x2, h2⟩ := one 2 f2 rfl t2
      obtain ⟨x3, h3⟩ := one 3 f3 rfl t3
      obtain ⟨x4, h4⟩ := one 4 f4 rfl t4
      obtain ⟨x5, h5⟩ := one 5 f5 rfl t5
      exact ⟨⟨x0, x1, x2, x3, x4, x5⟩, h0, h1, h2, h3, h4, h5⟩
    obtain ⟨ops, hol, hops⟩ := list_of len key
    refine ⟨ops, .inr ⟨a, _, by rw [hol], by omega, hm, fun h0 => ?_, hops⟩⟩
    obtain ⟨o, hc, _⟩ := key 0 (by omega)
    have := World.block_lt_of_cell? W _ hc
    unfold Addr.add at this
    split at this <;> exact this

set_option maxRecDepth 100000 in
/-- THE LAW's END: the call returned true, and has turned nothing that was there. -/
theorem law_end {H : Type} {enc : TypeId × Value → H} {f : Func} {s : ChangeSpec} {apart fresh handsOn again : Bool} {W W' : World} {args : Array Value} {ds : List (DataW H)} {before : List MemPlace}
    (hW : DataW.Whole enc Try.prog f.params.toList s.vars apart W args.toList ds [] before) (hv : s.vars = []) (hr : f.resultTypes = #[4]) (ht : ∀ t ∈ f.params.toList, Try.prog.readableRec t = true ∧ t < Try.prog.types.size)
    (hs1 : (s.fn H ds).results = [.lit (.bool true)]) (hs2 : (s.fn H ds).args = ds) (hs3 : (s.fn H ds).vars = []) (hb : Below W.heap.size W W') :
    s.post enc Try.prog f apart fresh handsOn again W args (.bool true) W' := by
  have hW0 := hW
  obtain ⟨p, q, hA, hV, hp, _, _⟩ := hW
  rw [hv] at hV
  obtain ⟨_, rfl⟩ := trodVars_none hV
  rw [List.append_nil] at hp
  subst hp
  have hres : ∀ (b : Nat) (sp : Nat → Bool) (hd : Bool), DataW.TrodAll enc Try.prog W' b sp hd f.resultTypes.toList ((Value.bool true).resultList f.resultTypes.size) (s.fn H (ds ++ [])).results [] := by
    intro b sp hd
    rw [List.append_nil, hs1, hr]
    exact trodAll_mk1 (shut_bool Try.underlying4 true)
  refine post_of_below (pa := before) (pv := []) hW0 hres ?_ ?_ (by simp) hb ?_
  · intro sp hs
    rw [List.append_nil, hs2]
    exact trodAll_stays laid_out hb _ ht hA (fun x hx => hW0.lt x hx) sp hs
  · intro sp _
    rw [List.append_nil, hs3, hv]
    rfl
  · intro j t r hj hr'
    exact ok_one hr rfl (okWide_bool_mk Try.underlying4 true) j t r hj hr'
end Go.Proofs.Ytccaegiceneegaa
