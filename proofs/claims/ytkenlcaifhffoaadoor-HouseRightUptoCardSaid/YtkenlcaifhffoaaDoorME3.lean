/- Texts put together: Eng13, Eng14, Eng15, Eng16, Eng17, Eng18, Eng19, Eng20, Base, Acc, Fam, EqualInt. -/
import Derived.Test.YtkenlcaifhffoaaDoorME2
import Derived.WalkKit
import Derived.ProofKit
import Derived.OpenShut
import Derived.DeepKeys
import Derived.Test.YtkenlcaifhffoaaDoorChecked
/- The engine, part 13: from a contract to what a law's statement asks. -/
section
namespace Go.Eng
open Go Go.ChangeShapes Go.WideShapes Go.RowKit

def oldK (w : World) : Kn := fun b _ => b < w.heap.size

theorem Pure.law {P : Program} {W : World} {f : FuncId} {pvs : List PV} {b : Bool} (h : Pure P W f pvs (.bool b)) (vs : List Value) (hl : pvs.length = vs.length)
    (hr : ∀ i, i < pvs.length → VRel (oldK W) W (pvs.getD i .dead) (vs.getD i undef)) :
    Calls P f vs.toArray W fun e w' => e = .returned (.bool b) ∧ Below W.heap.size W w' := by
  refine (h.calls.run (oldK W) W vs hl hr ⟨fun _ _ h => h, by simp, fun k hk => by cases hk⟩ ⟨Nat.le_refl _, fun _ _ => rfl, fun k hk => by cases hk⟩).mono ?_
  rintro e w' ⟨v, pv, σ', K', h2, rfl, h4, h5, h6⟩
  cases h4
  exact ⟨h2, h6.os, h6.tape, h6.output, h6.size, fun k hk => h6.keep k hk (fun k0 h0 => by cases h0)⟩

section
variable {H : Type} {enc : TypeId × Value → H} {P : Program}
theorem trodAll_stays (hl : laidOutB P = true) {W W' : World} {sp' : Nat → Bool} : ∀ {ts : List TypeId} {vs : List Value} {ds : List (DataW H)} {ps : List MemPlace},
    (ts.all fun t => P.readableRec t && decide (t < P.types.size)) = true → DataW.TrodAll enc P W 0 (fun _ => true) true ts vs ds ps → (∀ p ∈ ps, W.sameAt W' p) → (∀ p ∈ ps, sp' p.block = true) →
    DataW.TrodAll enc P W' 0 sp' true ts vs ds ps
  | [], _, _, _, _, h, _, _ => by
    obtain ⟨rfl, rfl, rfl⟩ := trodAll_nil h
    exact trodAll_mk0
  | t :: ts, vs, ds, ps, ht, h, hw, hs => by
    obtain ⟨v, vs1, d, ds1, a, b, rfl, rfl, rfl, h1, h2⟩ := trodAll_cons h
    simp only [List.all_cons, Bool.and_eq_true, decide_eq_true_eq] at ht
    exact ⟨a, b, WideElems.Trod_stays hl ht.1.1 ht.1.2 h1 (fun p hp => hw p (List.mem_append_left _ hp)) (fun p hp => hs p (List.mem_append_left _ hp)),
      trodAll_stays hl (by simpa using ht.2) h2 (fun p hp => hw p (List.mem_append_right _ hp)) (fun p hp => hs p (List.mem_append_right _ hp)), rfl⟩

theorem law_post {s : ChangeSpec} {f : Func} {tb : TypeId} {W W' : World} {args : Array Value} {ds gs : List (DataW H)} {before : List MemPlace} {apart fresh handsOn again : Bool}
    (hl : laidOutB P = true) (hts : (f.params.toList.all fun t => P.readableRec t && decide (t < P.types.size)) = true) (hres : f.resultTypes = #[tb]) (htb : P.underlying tb = some .bool) (hvars : s.vars = [])
    (hW : DataW.Whole enc P f.params.toList s.vars apart W args.toList ds gs before)
    (hfn : s.fn H (ds ++ gs) = { results := [.lit (.bool true)], args := ds }) (hb : Below W.heap.size W W') :
    s.post enc P f apart fresh handsOn again W args (.bool true) W' := by
  have hW' := hW
  obtain ⟨p, q, hA, hV, rfl, hz, hn⟩ := hW
  have hlt : ∀ x ∈ p ++ q, x.block < W.heap.size := fun x hx => by simpa using hW'.lt x hx
  rw [hvars] at hV
  obtain ⟨rfl, rfl⟩ := trodVars_none hV
  have hR : ∀ (b : Nat) (sp : Nat → Bool) (hd : Bool), DataW.TrodAll enc P W' b sp hd f.resultTypes.toList ((Value.bool true).resultList f.resultTypes.size) (s.fn H (ds ++ [])).results [] := fun _ _ _ => by
    rw [hfn, hres]; exact trodAll_cons_mk (shut_bool htb _) trodAll_mk0
  have hAr : ∀ sp : Nat → Bool, (∀ x ∈ p, sp x.block = true) → DataW.TrodAll enc P W' 0 sp true f.params.toList args.toList (s.fn H (ds ++ [])).args p := fun sp hsp => by
    rw [hfn]
    exact trodAll_stays hl hts hA (fun x hx => hb.same (hlt x (List.mem_append_left _ hx))) hsp
  have hVr : ∀ sp : Nat → Bool, DataW.TrodVars enc P W' sp s.vars (s.fn H (ds ++ [])).vars [] := fun _ => by rw [hfn, hvars]; rfl
  refine ⟨ds, [], p ++ [], [], p, [], hW', hR _ _ _, hAr _ (fun x hx => by simpa using hlt x (List.mem_append_left _ hx)), hVr _, World.keptBut_mono (fun x hx => ⟨hx, .inr (by simpa using hx)⟩) (hb.frame _), fun _ => ?_⟩
  refine ⟨ok_one hres rfl (okWide_bool_mk htb _), _, _, ([] ++ p) ++ [], ⟨[] ++ p, [], trodAll_append (hAr _ (fun _ _ => rfl)) (hR _ _ _), hVr _, rfl, fun b off hp => ?_, fun ha => ?_⟩, fun x hx _ => ?_⟩
  · rw [hb.frozen (p := ⟨b, off, none⟩) (show b < W.heap.size from hlt (.cell b off) (by simpa using hp))]
    exact hz b off (by simpa using hp)
  · simpa using hn ha
  · simpa using hx
end
end Go.Eng
end

/- The engine, part 14: contracts that were proved elsewhere, as contracts of the engine. -/
section
namespace Go.Eng
open Go Go.RowKit

def valOf : PV → Option Value
  | .bool b => some (.bool b)
  | .int k n => some (.int k n)
  | .str s => some (.string ⟨s.toArray⟩)
  | _ => none
theorem valOf_eq {K : Kn} {w : World} {p : PV} {v u : Value} (h : VRel K w p v) (hu : valOf p = some u) : v = u := by
  cases h <;> simp [valOf] at hu <;> exact hu
theorem valOf_rel {K : Kn} {w : World} {p : PV} {u : Value} (hu : valOf p = some u) : VRel K w p u := by
  cases p <;> simp [valOf] at hu <;> subst hu <;> first | exact .bool _ | exact .int _ _ | exact .str _
def valsOf : List PV → Option (List Value)
  | [] => some []
  | p :: r => match valOf p, valsOf r with
    | some v, some vs => some (v :: vs)
    | _, _ => none
theorem valsOf_spec : ∀ {ps : List PV} {us : List Value}, valsOf ps = some us → ps.length = us.length ∧ ∀ i, i < ps.length → valOf (ps.getD i .dead) = some (us.getD i undef)
  | [], us, h => by simp [valsOf] at h; subst h; exact ⟨rfl, fun i hi => by cases hi⟩
  | p :: r, us, h => by
    simp only [valsOf] at h
    split at h
    · rename_i v vs h1 h2
      cases h
      obtain ⟨g1, g2⟩ := valsOf_spec h2
      refine ⟨by simp [g1], fun i hi => ?_⟩
      cases i with
      | zero => simpa using h1
      | succ i => simpa using g2 i (by simpa using hi)
    · cases h
def retOf : PV → Option Value
  | .tup ps => match valsOf ps with
    | some us => some (.tuple us.toArray)
    | none => none
  | p => valOf p
theorem retOf_rel {K : Kn} {w : World} {p : PV} {u : Value} (hu : retOf p = some u) : VRel K w p u := by
  cases p
  case tup ps =>
    simp only [retOf] at hu
    split at hu
    · rename_i us h
      cases hu
      obtain ⟨g1, g2⟩ := valsOf_spec h
      exact .tup _ _ g1 fun i hi => valOf_rel (g2 i hi)
    · cases hu
  all_goals exact valOf_rel hu

theorem Ext.of_below {K : Kn} {w w' : World} (hb : Below w.heap.size w w') (hk : ∀ b o, K b o → b < w.heap.size) : Ext [] K w [] K w' :=
  ⟨hb.os, hb.tape, hb.output, hb.size, (fun b x hx => by
    have hlt : b < w.heap.size := by
      simp only [World.shape?] at hx
      cases h : w.heap[b]? with
      | none => simp [h] at hx
      | some o => exact (Array.getElem?_eq_some_iff.1 h).1
    simp only [World.shape?, hb.block b hlt] at hx ⊢
    exact hx), (fun b h _ => hb.block b h), (fun b o h => ⟨h, hb.cell (p := ⟨b, o, none⟩) (hk b o h)⟩), (fun k hk => by cases hk), (fun b o h => .inl h)⟩

theorem Pure.of_below {P : Program} {W : World} {f : FuncId} {fn : Func} {args : List PV} {r : PV} {us : List Value} {u : Value}
    (hf : P.funcs[f]? = some fn) (hbd : fn.body.isNone = false) (hn : (fn.name == "runtime.NumGoroutine") = false) (ha : valsOf args = some us) (hr : retOf r = some u)
    (h : ∀ w : World, W.heap.size ≤ w.heap.size → (∀ b, b < W.heap.size → w.heap[b]? = W.heap[b]?) → Calls P f us.toArray w fun e w' => e = .returned u ∧ Below w.heap.size w w') : Pure P W f args r := by
  obtain ⟨g1, g2⟩ := valsOf_spec ha
  refine ⟨⟨fn, hf, hbd, hn⟩, fun K w vs hl hv hm hp => ?_⟩
  obtain rfl : vs = us := by
    refine List.ext_getElem (hl.symm.trans g1) fun i h1 h2 => ?_
    have := valOf_eq (hv i (by omega)) (g2 i (by omega))
    simpa [List.getD_eq_getElem?_getD, h1, h2] using this
  refine (h w hp.size hp.base).mono ?_
  rintro e w' ⟨he, hb⟩
  exact ⟨u, r, [], K, he, rfl, retOf_rel hr, ⟨fun b o h => Nat.lt_of_lt_of_le (hm.kin b o h) hb.size, by simp, fun k hk => by cases hk⟩, Ext.of_below hb hm.kin⟩
end Go.Eng
end

/- The engine, part 15: structs that are compared. -/
section
namespace Go.Eng
open Go

end Go.Eng
end

/- The engine, part 16: contracts of calls that hand over what they made, or change what they were lent; readings in maps. -/
section
namespace Go.Eng
open Go

variable {P : Program} {W : World}

theorem ACalls.weak {f : FuncId} {args : List PV} {σ : Mem} {k : PV → Mem → Prop} (h : ACalls P W f args σ fun v σ' => ∃ τ, k v τ ∧ wkMem σ' τ) : ACalls P W f args σ k := by
  refine ⟨h.body, fun K w vs hl hr hm hp => (h.run K w vs hl hr hm hp).mono ?_⟩
  rintro e w' ⟨v, pv, σ', K', h2, ⟨τ, hk, ρ, hρ⟩, h4, h5, h6⟩
  have hs : τ.Sublist (τ ++ ρ) := List.sublist_append_left _ _
  exact ⟨v, pv, τ, K', h2, hk, h4, (h5.perm hρ).drop hs, (h6.perm (.refl _) hρ).trans (Ext.drop hs)⟩
def Gives {α : Type} (V : α → PV) (M : α → Mem) (R : α → Prop) : PV → Mem → Prop := fun v σ' => ∃ x, R x ∧ v = V x ∧ wkMem σ' (M x)
theorem Gives.mk {α : Type} {V : α → PV} {M : α → Mem} {R : α → Prop} (x : α) {v : PV} {σ : Mem} (hR : R x) (hv : v = V x) (hm : wkMem σ (M x)) : Gives V M R v σ := ⟨x, hR, hv, hm⟩
theorem wkMem.rfl' {σ : Mem} : wkMem σ σ := ⟨[], by simp⟩
theorem wkMem.app {σ τ : Mem} (h : wkMem σ τ) (ρ : Mem) : wkMem (σ ++ ρ) (τ ++ ρ) := by
  obtain ⟨q, hq⟩ := h
  refine ⟨q, (hq.append_right ρ).trans ?_⟩
  rw [List.append_assoc, List.append_assoc]
  exact (List.perm_append_comm).append_left τ
theorem wkMem.perm {σ σ' τ : Mem} (h : wkMem σ τ) (hp : σ'.Perm σ) : wkMem σ' τ := by
  obtain ⟨q, hq⟩ := h
  exact ⟨q, hp.trans hq⟩
theorem wkMem.nil (σ : Mem) : wkMem σ [] := ⟨σ, .refl _⟩
theorem wkMem.cons {σ r τ : Mem} {b : Nat} {c : Cont} (hl : Look σ b c r) (h : wkMem r τ) : wkMem σ (⟨b, c⟩ :: τ) := by
  obtain ⟨q, hq⟩ := h
  exact ⟨q, hl.perm.trans (hq.cons _)⟩
theorem ACalls.give {α : Type} {V : α → PV} {M : α → Mem} {R : α → Prop} {f : FuncId} {args : List PV} {σ : Mem} {k : PV → Mem → Prop} (h : ACalls P W f args [] (Gives V M R)) (hk : ∀ x, R x → k (V x) (M x ++ σ)) : ACalls P W f args σ k := by
  refine ACalls.weak ((h.frame σ).mono ?_)
  rintro v σ' ⟨σ1, ⟨x, hR, rfl, hw⟩, rfl⟩
  exact ⟨_, hk x hR, hw.app σ⟩
theorem ACalls.lend {α : Type} {V : α → PV} {M : α → Mem} {R : α → Prop} {f : FuncId} {args : List PV} {σ τ r : Mem} {k : PV → Mem → Prop} (h : ACalls P W f args τ (Gives V M R)) (hp : σ.Perm (τ ++ r)) (hk : ∀ x, R x → k (V x) (M x ++ r)) : ACalls P W f args σ k := by
  refine ACalls.weak (((h.frame r).perm hp).mono ?_)
  rintro v σ' ⟨σ1, ⟨x, hR, rfl, hw⟩, rfl⟩
  exact ⟨_, hk x hR, hw.app r⟩
theorem ACalls.lend1 {α : Type} {V : α → PV} {M : α → Mem} {R : α → Prop} {f : FuncId} {args : List PV} {σ r : Mem} {b : Nat} {c : Cont} {k : PV → Mem → Prop} (h : ACalls P W f args [⟨b, c⟩] (Gives V M R)) (hl : Look σ b c r) (hk : ∀ x, R x → k (V x) (M x ++ r)) : ACalls P W f args σ k :=
  h.lend hl.perm hk
theorem Pure.of_empty {f : FuncId} {r : PV} {sz : Nat} (h : ∀ a cap, Pure P W f [.lit (.slice a 0 cap)] r) : Pure P W f [.sl sz []] r := by
  refine ⟨⟨(h none 0).calls.body, fun K w vs hl hr hm hp => ?_⟩⟩
  obtain ⟨v, rfl⟩ := List.length_eq_one_iff.1 hl.symm
  have h0 := hr 0 (by simp)
  simp only [List.getD_cons_zero] at h0
  obtain ⟨a, cap, rfl⟩ : ∃ a cap, v = .slice a 0 cap := by
    cases h0 with
    | sl0 _ a cap => exact ⟨a, cap, rfl⟩
    | sl _ _ b o cap => exact ⟨_, cap, rfl⟩
  exact (h a cap).calls.run K w _ rfl (fun i hi => by
    obtain rfl : i = 0 := by simpa using hi
    exact .lit _) hm hp
theorem eql_nil {t e : TypeId} {xo yo : Operand} {x : PV} {r : Bool} (ht : P.underlying t = some (.slice e)) (hx : (∃ a c, x = .lit (.slice a 0 c) ∧ r = a.isNone) ∨ (∃ sz p l, x = .sl sz (p :: l) ∧ r = false) ∨ (∃ b sz i n, x = .rsl b sz i n ∧ r = false) ∨ (∃ e b n, x = .bsl e b n ∧ r = false) ∨ (x = .nils ∧ r = true)) :
    EqLaw P .eql t xo yo x .nils r := by
  refine ⟨fun K w u v h1 h2 => ?_⟩
  cases h2
  obtain ⟨a, n, c, rfl, rfl⟩ : ∃ a n c, u = .slice a n c ∧ r = a.isNone := by
    rcases hx with ⟨a, c, rfl, rfl⟩ | ⟨sz, p, l, rfl, rfl⟩ | ⟨b, sz, i, n, rfl, rfl⟩ | ⟨e, b, n, rfl, rfl⟩ | ⟨rfl, rfl⟩ <;> cases h1
    · exact ⟨a, 0, c, rfl, rfl⟩
    · exact ⟨_, _, _, rfl, rfl⟩
    · exact ⟨_, _, _, rfl, rfl⟩
    · exact ⟨_, _, _, rfl, rfl⟩
    · exact ⟨_, _, _, rfl, rfl⟩
  have e2 : ∀ d, (Op.equalIn (d + 1) t (.slice a n c) (.slice none 0 0)).run P w = .ok a.isNone w := fun d => by
    cases a <;> simp [Op.equalIn, run_underlying ht]
  have e1 : (Op.equal t (.slice a n c) (.slice none 0 0)).run P w = .ok a.isNone w := e2 9999
  have e0 : (eqGuard .eql t xo yo (.slice a n c) (.slice none 0 0)).run P w = .ok () w := by simp [eqGuard]
  rw [Sem.run_bind, e0, Result.andThen_ok]
  show (do pure (.bool (← Op.equal t _ _)) : Sem Value).run P w = _
  rw [Sem.run_bind, e1]; rfl
def getI (es : List (PV × PV)) (n : Int) : Option PV :=
  match es with
  | [] => none
  | (.int _ m, v) :: r => if n = m then some v else getI r n
  | _ :: r => getI r n
def intKeys (k : IntKind) : List (PV × PV) → Bool
  | [] => true
  | (.int k' _, _) :: r => kEq k k' && intKeys k r
  | _ :: _ => false
theorem findNow_get {K : Kn} {w : World} {k : IntKind} {n : Int} : ∀ (es : List (PV × PV)) (ents : List MapEntry) (j : Nat), es.length = ents.length → (∀ i, i < es.length → VRel K w (es.getD i (.dead, .dead)).1 (ents.getD i default).key ∧ VRel K w (es.getD i (.dead, .dead)).2 (ents.getD i default).val) → intKeys k es = true →
    (getI es n = none ∧ Instr.findNow (.int k) (.int k n) ents j = some none) ∨ (∃ v i z, getI es n = some v ∧ Instr.findNow (.int k) (.int k n) ents j = some (some (i, z)) ∧ VRel K w v z)
  | [], [], j, _, _, _ => .inl ⟨rfl, rfl⟩
  | [], _ :: _, _, hl, _, _ => by simp at hl
  | _ :: _, [], _, hl, _, _ => by simp at hl
  | (q, v) :: es, en :: ents, j, hl, hr, hn => by
    have h0 := hr 0 (by simp)
    simp only [List.getD_cons_zero] at h0
    have ih := findNow_get (k := k) (n := n) es ents (j + 1) (by simpa using hl) (fun i hi => by have := hr (i + 1) (by simpa using hi); simpa using this)
    cases q <;> simp only [intKeys] at hn <;> (try (cases hn; done))
    rename_i k' m
    simp only [Bool.and_eq_true] at hn
    obtain ⟨h1, h3⟩ := hn
    obtain rfl := kEq_eq h1
    obtain ⟨h0, hv⟩ := h0
    generalize hk : en.key = key at h0
    cases h0
    by_cases h4 : n = m
    · exact .inr ⟨v, j, en.val, by simp [getI, h4], by simp [Instr.findNow, hk, Instr.sameNow, h4], hv⟩
    · have h5 : (n == m) = false := beq_eq_false_iff_ne.2 h4
      rcases ih h3 with ⟨g1, g2⟩ | ⟨v', i, z, g1, g2, g3⟩
      · exact .inl ⟨by simp [getI, h4, g1], by simp [Instr.findNow, hk, Instr.sameNow, h5, g2]⟩
      · exact .inr ⟨v', i, z, by simp [getI, h4, g1], by simp [Instr.findNow, hk, Instr.sameNow, h5, g2], g3⟩
theorem look_int {t kt et : TypeId} {b : Nat} {k : IntKind} {n : Int} {es : List (PV × PV)} {σ r : Mem} {i0 : TypeInfo} {z : Value} {q : PV} (hl : Look σ b (.mpc es) r) (ht : P.underlying t = some (.map kt et)) (hkt : P.underlying kt = some (.int k)) (hi : P.info? et = some i0) (hz : i0.zero = some z)
    (hk : intKeys k es = true) (hq : (getI es n).getD (ofV z) = q) : LookLaw P t (.mp b) (.int k n) false σ q := by
  refine ⟨fun K w u v hm hx hi' => ?_⟩
  cases hx
  cases hi'
  obtain ⟨g1, ents, clock, g2, g3, g4⟩ : (∀ o, ¬ K b o) ∧ ∃ ents clock, w.heap[b]? = some (.map ents clock) ∧ ents.size = es.length ∧
      ∀ i, i < es.length → VRel K w (es.getD i (.dead, .dead)).1 (ents.getD i default).key ∧ VRel K w (es.getD i (.dead, .dead)).2 (ents.getD i default).val := BlkOk.old (hm.blk _ hl.mem)
  have e1 : (getObj b).run P w = .ok (.map ents clock) w := by simp [getObj, Sem.run, g2]
  have e0 : ∀ e, (Instr.checkKey e 10000 kt (.int k n)).run P w = .ok () w := fun e => checkKey_int 9999 e hkt
  rcases findNow_get (K := K) (w := w) (k := k) (n := n) es ents.toList 0 (by simp [g3]) (fun i hi => by
    have := g4 i hi
    simpa [List.getD_eq_getElem?_getD, Array.getD_eq_getD_getElem?] using this) hk with ⟨h1, h2⟩ | ⟨v', i, z', h1, h2, h3⟩
  · rw [h1] at hq
    simp only [Option.getD_none] at hq
    exact ⟨z, by simp [Instr.lookup, run_underlying ht, e1, e0, run_underlying hkt, Instr.findKey, h2, run_zeroValue hi hz], hq ▸ ofV_rel z⟩
  · rw [h1] at hq
    simp only [Option.getD_some] at hq
    exact ⟨z', by simp [Instr.lookup, run_underlying ht, e1, e0, run_underlying hkt, Instr.findKey, h2], hq ▸ h3⟩
end Go.Eng
end

/- The engine, part 17: running on: what a walk does by itself is the script of a default argument. -/
section
namespace Go.Eng
open Go
structure Hide (p : Prop) : Prop where
  out : p
theorem wh {p q : Prop} (hq : q) (h : p = q := by conv => lhs; whnf) : p := h ▸ hq
theorem go {p q : Prop} (hq : q) (h : Hide q → p := by (intro hq_; refine wh ?_; (repeat ((first | refine CondC.part ?_ | (refine GuardC.part ?_; refine wh ?_; fail_if_success refine brec ?_) | (apply GuardC.sp; (case' h1 => (refine wh ?_; (repeat ((refine need.mk ?_ ?_; focus (first | with_reducible exact fun h => h | with_reducible exact not_of_false | exact fun _ => rfl | (intro h_; simp [h_]; done) | (intro h_; simp_all; done))); refine wh ?_)); exact trivial)); (case' h2 => (intro hg_; (refine wh ?_; repeat ((first | (apply RowAt.mk; (case' hl => (repeat (first | exact .here _ _ _ | apply Look.there | exact Look.fam (by assumption) _)))) | refine Fits.ok (by omega) (by omega) ?_ | (refine need.mk ?_ ?_; focus (first | (first | omega | exact wkMem.skip wkMem.rfl' | rfl | (simp; done) | (simp [cellsB, PV.flat, cellB]; done) | (simp <;> omega) | (simp only [true_and, and_true, Bool.true_and, Bool.and_true, Bool.not_true, Bool.not_false, Bool.and_eq_true, Bool.not_eq_true, Bool.not_eq_false, Bool.or_eq_true, Bool.not_eq_true', Bool.not_eq_false', decide_eq_true_eq, decide_eq_false_iff_not, Decidable.not_not, ne_eq, beq_iff_eq]; omega) | (rw [Bool.eq_false_iff]; simp only [true_and, and_true, Bool.true_and, Bool.and_true, Bool.not_true, Bool.not_false, Bool.and_eq_true, Bool.not_eq_true, Bool.not_eq_false, Bool.or_eq_true, Bool.not_eq_true', Bool.not_eq_false', decide_eq_true_eq, decide_eq_false_iff_not, Decidable.not_not, ne_eq, beq_iff_eq]; omega)) | (simp at hg_; omega) | (intros; simp_all; done) | (intros; simp_all; omega))) | (refine New1.mk fun b_ hb_ => ?_; clear hb_) | (refine New2.mk fun b_ hb_ => ?_; clear hb_) | (refine Nat1.mk fun q_ hq_ => ?_; (first | (obtain rfl := Int.ofNat.inj hq_; clear hq_) | skip)) | refine at_known (by assumption) ?_ | (refine Elem1.mk fun e_ he_ => ?_; (first | (obtain ⟨x_, hx_, rfl⟩ := getMap he_; clear he_) | (obtain rfl := Option.some.inj he_; clear he_) | skip)) | (refine Lst1.mk fun s_ hs_ => ?_; (try simp only [List.take_length, List.drop_zero, ← List.map_take, ← List.map_drop] at hs_); subst hs_)); refine wh ?_)); refine And.intro ?_ rfl; exact Eq.refl _))) | refine GuardC.part ?_ | (refine needO.mk ?_ ?_; focus (refine wh ?_; (repeat ((refine need.mk ?_ ?_; focus (first | with_reducible exact fun h => h | with_reducible exact not_of_false | exact fun _ => rfl | (intro h_; simp [h_]; done) | (intro h_; simp_all; done))); refine wh ?_)); exact trivial)) | with_reducible refine need.mk (fun h => h) ?_ | with_reducible refine need.mk not_of_false ?_ | (apply RowAt.mk; (case' hl => (repeat (first | exact .here _ _ _ | apply Look.there | exact Look.fam (by assumption) _)))) | refine Fits.ok (by omega) (by omega) ?_ | (refine need.mk ?_ ?_; focus (first | omega | exact wkMem.skip wkMem.rfl' | rfl | (simp; done) | (simp [cellsB, PV.flat, cellB]; done) | (simp <;> omega) | (simp only [true_and, and_true, Bool.true_and, Bool.and_true, Bool.not_true, Bool.not_false, Bool.and_eq_true, Bool.not_eq_true, Bool.not_eq_false, Bool.or_eq_true, Bool.not_eq_true', Bool.not_eq_false', decide_eq_true_eq, decide_eq_false_iff_not, Decidable.not_not, ne_eq, beq_iff_eq]; omega) | (rw [Bool.eq_false_iff]; simp only [true_and, and_true, Bool.true_and, Bool.and_true, Bool.not_true, Bool.not_false, Bool.and_eq_true, Bool.not_eq_true, Bool.not_eq_false, Bool.or_eq_true, Bool.not_eq_true', Bool.not_eq_false', decide_eq_true_eq, decide_eq_false_iff_not, Decidable.not_not, ne_eq, beq_iff_eq]; omega))) | (refine Alt.a ?_ ?_; focus (first | omega | exact wkMem.skip wkMem.rfl' | rfl | (simp; done) | (simp [cellsB, PV.flat, cellB]; done) | (simp <;> omega) | (simp only [true_and, and_true, Bool.true_and, Bool.and_true, Bool.not_true, Bool.not_false, Bool.and_eq_true, Bool.not_eq_true, Bool.not_eq_false, Bool.or_eq_true, Bool.not_eq_true', Bool.not_eq_false', decide_eq_true_eq, decide_eq_false_iff_not, Decidable.not_not, ne_eq, beq_iff_eq]; omega) | (rw [Bool.eq_false_iff]; simp only [true_and, and_true, Bool.true_and, Bool.and_true, Bool.not_true, Bool.not_false, Bool.and_eq_true, Bool.not_eq_true, Bool.not_eq_false, Bool.or_eq_true, Bool.not_eq_true', Bool.not_eq_false', decide_eq_true_eq, decide_eq_false_iff_not, Decidable.not_not, ne_eq, beq_iff_eq]; omega))) | refine at_known (by assumption) ?_ | (refine InsAt.new ?_; refine wh ?_; apply MapAt.mk; (case' hl => (repeat (first | exact .here _ _ _ | apply Look.there))))); refine wh ?_)); exact Hide.out hq_)) : p := h ⟨hq⟩
end Go.Eng
end

/- The engine, part 18: calls that read what is owned and hand over what they made anew. -/
section
namespace Go.Eng
open Go

variable {P : Program} {W : World}

inductive Free : PV → Prop
  | bool (b : Bool) : Free (.bool b)
  | int (k : IntKind) (n : Int) : Free (.int k n)
  | str (s : List UInt8) : Free (.str s)
  | lit (v : Value) : Free (.lit v)
  | sl0 (sz : Nat) : Free (.sl sz [])
  | nils : Free .nils
  | bref (b f : Nat) : Free (.bref b f)
  | ref (b sz i f : Nat) : Free (.ref b sz i f)
  | rsl (b sz i n : Nat) : Free (.rsl b sz i n)
  | bsl (e b n : Nat) : Free (.bsl e b n)
  | tpt (e n b : Nat) : Free (.tpt e n b)
  | agg (cs : List PV) (h : ∀ c ∈ cs, Free c) : Free (.agg cs)
  | tup (cs : List PV) (h : ∀ c ∈ cs, Free c) : Free (.tup cs)
theorem Free.rel {p : PV} (h : Free p) : ∀ {K K' : Kn} {w : World} {v : Value}, VRel K w p v → VRel K' w p v := by
  induction h with
  | agg cs _ ih =>
    intro K K' w v hv
    cases hv with
    | agg _ vs hl hr => exact .agg _ vs hl fun i hi => ih _ (by simp [List.getD_eq_getElem?_getD, hi]) (hr i hi)
  | tup cs _ ih =>
    intro K K' w v hv
    cases hv with
    | tup _ vs hl hr => exact .tup _ vs hl fun i hi => ih _ (by simp [List.getD_eq_getElem?_getD, hi]) (hr i hi)
  | sl0 sz =>
    intro K K' w v hv
    cases hv with
    | sl0 _ a c => exact .sl0 _ _ _
    | sl _ _ b o cap hcap vs hz hk hv => exact .sl0 _ _ _
  | _ =>
    intro K K' w v hv
    cases hv <;> first
      | exact .bool _ | exact .int _ _ | exact .str _ | exact .lit _ | exact .nils | exact .bref _ _ | exact .ref _ _ _ _
      | (apply VRel.rsl <;> assumption) | (apply VRel.bsl <;> assumption) | (apply VRel.tpt; assumption)
theorem Free.flat {p : PV} (h : Free p) : ∀ c ∈ p.flat, Free c := by
  cases h with
  | agg cs h => exact h
  | _ => intro c hc; simp only [PV.flat, List.mem_singleton] at hc; subst hc; constructor <;> assumption
def FreeM (σ : Mem) : Prop := ∀ k ∈ σ, ∃ sz es fz, k.c = .row sz es fz ∧ ∀ e ∈ es, Free e
theorem FreeM.nil : FreeM [] := fun k hk => by cases hk
theorem FreeM.cons {b sz fz : Nat} {es : List PV} {σ : Mem} (h : ∀ e ∈ es, Free e) (g : FreeM σ) : FreeM (⟨b, .row sz es fz⟩ :: σ) := by
  intro k hk
  rcases List.mem_cons.1 hk with rfl | hk
  · exact ⟨sz, es, fz, rfl, h⟩
  · exact g k hk
theorem FreeM.app {σ τ : Mem} (h : FreeM σ) (g : FreeM τ) : FreeM (σ ++ τ) := by
  intro k hk
  rcases List.mem_append.1 hk with hk | hk
  · exact h k hk
  · exact g k hk
theorem ACalls.borrow {α : Type} {V : α → PV} {M : α → Mem} {R : α → Prop} {f : FuncId} {args args' : List PV} {σ : Mem} {k : PV → Mem → Prop} (h : ACalls P W f args' [] (Gives V M R)) (hf : ∀ x, R x → Free (V x) ∧ FreeM (M x))
    (hl : args.length = args'.length) (ha : ∀ i, i < args.length → Frz σ (args.getD i .dead) (args'.getD i .dead)) (hk : ∀ x, R x → k (V x) (M x ++ σ)) : ACalls P W f args σ k := by
  refine ⟨h.body, fun K w vs hlen hr hm hpre => ?_⟩
  have hrel : ∀ i, i < args'.length → VRel (allK K σ) w (args'.getD i .dead) (vs.getD i undef) := fun i hi => frz_sound hm (ha i (by omega)) _ (hr i (by omega))
  refine (h.run _ w vs (hl ▸ hlen) hrel (allK_sat hm) ⟨hpre.size, hpre.base, fun k hk => by cases hk⟩).mono ?_
  rintro e w' ⟨v, pv, σ', K', h2, ⟨x, hR, rfl, ρ, hρ⟩, h4, h5, h6⟩
  obtain ⟨f1, f2⟩ := hf x hR
  have h5' : SatM K' (M x) w' := (h5.perm hρ).drop (List.sublist_append_left _ _)
  have hnew : ∀ k ∈ M x, w.heap.size ≤ k.b := fun k hk => by
    rcases h6.own k (hρ.mem_iff.2 (List.mem_append_left _ hk)) with ⟨k0, h0, _⟩ | h0
    · cases h0
    · exact h0
  have hold : ∀ k ∈ σ, k.b < w.heap.size := fun k hk => (hm.blk k hk).lt
  let K2 : Kn := fun b o => K' b o ∧ ((∃ k ∈ σ, k.b = b) → K b o)
  have hK2 : ∀ b o, K b o → K2 b o ∧ w'.cell? ⟨b, o, none⟩ = w.cell? ⟨b, o, none⟩ := fun b o hb => ⟨⟨(h6.kn b o (.inl hb)).1, fun _ => hb⟩, (h6.kn b o (.inl hb)).2⟩
  refine ⟨v, V x, M x ++ σ, K2, h2, hk x hR, f1.rel h4, ⟨fun b o hb => h5.kin b o hb.1, ?_, fun k hk => ?_⟩, ?_⟩
  · rw [List.map_append, List.nodup_append]
    refine ⟨h5'.nodup, hm.nodup, fun a ha b hb e => ?_⟩
    obtain ⟨k1, g1, rfl⟩ := List.mem_map.1 ha
    obtain ⟨k2, g2, rfl⟩ := List.mem_map.1 hb
    have := hnew k1 g1
    have := hold k2 g2
    omega
  · rcases List.mem_append.1 hk with hk | hk
    · obtain ⟨sz, es, fz, hc, hes⟩ := f2 k hk
      obtain ⟨b, c⟩ := k
      obtain rfl : c = .row sz es fz := hc
      obtain ⟨g1, g2, g3, cs, ty, g4, g5, g6⟩ : RowOk K' w' b sz es fz := h5'.blk _ hk
      show RowOk K2 w' b sz es fz
      refine ⟨g1, fun o ho => g2 o ho.1, g3, cs, ty, g4, g5, fun i j hi hj => ?_⟩
      have hmem : es.getD i .dead ∈ es := by simp [List.getD_eq_getElem?_getD, hi]
      have hlen := g3 _ hmem
      refine Free.rel ((hes _ hmem).flat _ ?_) (g6 i j hi hj)
      generalize (es.getD i .dead).flat = l at hlen
      subst hlen
      simp [List.getD_eq_getElem?_getD, hj]
    · exact (hm.blk k hk).move (h6.keep k.b (hold k hk) (fun k0 h0 => by cases h0)) (fun o ho => ho.2 ⟨k, hk, rfl⟩) hK2 h6.shape
  · refine ⟨h6.os, h6.tape, h6.output, h6.size, h6.shape, fun b hb _ => h6.keep b hb (fun k0 h0 => by cases h0), hK2, fun k hk => ?_, fun b o hb => ?_⟩
    · rcases List.mem_append.1 hk with hk | hk
      · exact .inr (hnew k hk)
      · exact .inl ⟨k, hk, rfl⟩
    · rcases h6.fresh b o hb.1 with h | ⟨k0, h0, _⟩ | h
      · rcases h with h | ⟨sz, es, fz, h, _⟩
        · exact .inl h
        · exact .inr (.inl ⟨_, h, rfl⟩)
      · cases h0
      · exact .inr (.inr h)
theorem ACalls.pure {α : Type} {V : α → PV} {M : α → Mem} {R : α → Prop} {f : FuncId} {args : List PV} {r : PV} (h : ACalls P W f args [] (Gives V M R)) (hz : ∀ x, R x → Frz (M x) (V x) r) : Pure P W f args r :=
  Pure.of (ACalls.weak (h.mono fun _ _ ⟨x, hR, hv, hm⟩ => ⟨_, hv ▸ hz x hR, hm⟩))
theorem wkMem.skip {k : Blk} {σ τ : Mem} (h : wkMem σ τ) : wkMem (k :: σ) τ := by
  obtain ⟨q, hq⟩ := h
  exact ⟨k :: q, (hq.cons k).trans List.perm_middle.symm⟩
theorem ACalls.giveE {α : Type} {V : α → PV} {M : α → Mem} {R : α → Prop} {f : FuncId} {args : List PV} {σ : Mem} {k : PV → Mem → Prop} (h : ACalls P W f args [] (Gives V M R)) (hk : ∀ x, R x → k (V x) (σ ++ M x)) : ACalls P W f args σ k := by
  refine ACalls.weak ((h.frame σ).mono ?_)
  rintro v σ' ⟨σ1, ⟨x, hR, rfl, hw⟩, rfl⟩
  obtain ⟨q, hq⟩ := hw
  exact ⟨_, hk x hR, q, by rw [List.append_assoc]; exact (hq.append_right σ).trans List.perm_append_comm⟩
def headB (o : Op) : Bool := quietB o || match o with
  | .buildSlice .. => true
  | .call c => match c.callee with
    | .value _ => true
    | _ => false
  | _ => false
def headQ (ops : Array Oper) (n : Nat) : Bool := headOk ops n && (ops.toList.take n).all fun o => headB o.op
theorem headOk_of {ops : Array Oper} {n : Nat} (h : headQ ops n = true) : headOk ops n = true := by
  unfold headQ at h
  exact (Bool.and_eq_true _ _ ▸ h).1
end Go.Eng
end

/- The engine, part 19: a head, one operation of which changes memory, in whatever order. -/
section
namespace Go.Eng
open Go

variable {P : Program} {W : World} {ds : List Deferred}

def freeB (o : Oper) : Bool :=
  match o.guard, o.op with
  | none, .move _ => true
  | none, .assign _ => true
  | none, .pick _ _ _ => true
  | _, _ => false
def ancB (ops : Array Oper) : Nat → Nat → Nat → Bool
  | 0, _, _ => false
  | f + 1, m, i => depAt ops m i || (List.range ops.size).any fun j => depAt ops m j && ancB ops f j i
def noGuard (ops : Array Oper) (m : Nat) : Bool :=
  match ops[m]? with
  | some o => o.guard.isNone
  | none => false
def lateOk (ops : Array Oper) (m : Nat) : Bool := headOk ops (m + 1) && noGuard ops m
def lateFree (ops : Array Oper) (m : Nat) : Bool := lateOk ops m && (List.range m).all fun i => ancB ops (m + 1) m i || (match ops[i]? with | some o => freeB o | none => false)

def CertAt (P : Program) (W : World) (ops : Array Oper) (env : Env) (vs : List PV) (σ : Mem) (i : Nat) (o : Oper) : Prop :=
  ((o.guard = none ∨ ∃ j want, o.guard = some (j, want) ∧ guardV ops (envAt env (ops.toList.take i) (vs.take i)) j = some want) ∧ Yields P W o.op (envAt env (ops.toList.take i) (vs.take i)) σ (vs.getD i .dead)) ∨
    (∃ j want, o.guard = some (j, want) ∧ (guardV ops (envAt env (ops.toList.take i) (vs.take i)) j = some (!want) ∨ guardU ops (envAt env (ops.toList.take i) (vs.take i)) j = true) ∧ vs.getD i .dead = .tup [])

theorem HInv.opnds {nt : Nat} {ops : Array Oper} {n : Nat} {env : Env} {vs : List PV} {σ : Mem} {K0 : Kn} {w0 : World} {listed : Array Bool} {K : Kn} {a : Act} {w : World} (hf : HeadFacts ops n) (hvs : vs.length = n)
    (h : HInv ds W nt ops n env vs σ K0 w0 listed K a w) {i : Nat} {o : Oper} (hi : i ∈ Region.ready .any ops listed) (hin : i < n) (ho : ops[i]? = some o) : ∀ x ∈ o.op.operands, VRel K w (ev (envAt env (ops.toList.take i) (vs.take i)) x) (a.eval x) := fun x hx => by
  cases x with
  | tmp t =>
    refine h.slot hf hvs hi hin ho (t := t) ?_
    unfold Oper.looksAt
    exact List.mem_append_left _ (List.mem_filterMap.2 ⟨.tmp t, by simpa using hx, rfl⟩)
  | const v => exact ofV_rel v
  | global g => exact .lit _
  | func f => exact .fn f [] [] rfl (fun i hi => by simp at hi)

theorem HInv.opAt {nt : Nat} {ops : Array Oper} {n : Nat} {env : Env} {vs : List PV} {σ τ ρ : Mem} {K0 : Kn} {w0 : World} {listed : Array Bool} {K : Kn} {a : Act} {w : World} {Q : Exit → Act → World → Prop} {C : Act → World → Prop}
    (hf : HeadFacts ops n) (hvs : vs.length = n) (hok : opsOk nt ops.toList = true)
    (h : HInv ds W nt ops n env vs σ K0 w0 listed K a w) {i : Nat} {o : Oper} (hi : i ∈ Region.ready .any ops listed) (hin : i < n) (ho : ops[i]? = some o) (hp : σ.Perm (τ ++ ρ)) (hc : CertAt P W ops env vs τ i o)
    (hC : ∀ K' a' w', HInv ds W nt ops n env vs σ K0 w0 (listed.setIfInBounds i true) K' a' w' → C a' w') : wpOp P ops Q i C a w := by
  have hsl := fun t (ht : t ∈ o.looksAt ops) => h.slot hf hvs hi hin ho ht
  have hopnd := h.opnds hf hvs hi hin ho
  have hgd : ∀ j want x, o.guard = some (j, want) → guardV ops (envAt env (ops.toList.take i) (vs.take i)) j = some x → yielded ops a.tmps j = some x := fun j want x hg hv => by
    unfold guardV at hv
    split at hv
    case h_2 => cases hv
    rename_i oj hoj
    split at hv
    case h_2 => cases hv
    rename_i d hd
    split at hv
    case h_2 => cases hv
    rename_i b hb
    cases hv
    have hbind : ((ops[j]?).bind (·.dst)) = some d := by rw [hoj]; exact hd
    have h0 := hsl d (by
      unfold Oper.looksAt
      refine List.mem_append_right _ ?_
      rw [hg]
      simp only [hbind]
      exact List.mem_singleton.2 rfl)
    rw [hb] at h0
    unfold yielded
    rw [hbind]
    simp only [Option.bind_some]
    rw [Array.getD_eq_getD_getElem?] at h0
    cases hgv : a.tmps[d]? with
    | none => rw [hgv] at h0; simp only [Option.getD_none, undef] at h0; cases h0
    | some u =>
      rw [hgv] at h0
      simp only [Option.getD_some] at h0
      cases h0; rfl
  have hgu : ∀ j want, o.guard = some (j, want) → guardU ops (envAt env (ops.toList.take i) (vs.take i)) j = true → yielded ops a.tmps j = none := fun j want hg hv => by
    unfold guardU at hv
    split at hv
    case h_2 => cases hv
    rename_i oj hoj
    split at hv
    case h_2 => cases hv
    rename_i d hd
    split at hv
    case h_2 => cases hv
    rename_i hb
    have hbind : ((ops[j]?).bind (·.dst)) = some d := by rw [hoj]; exact hd
    have h0 := hsl d (by
      unfold Oper.looksAt
      refine List.mem_append_right _ ?_
      rw [hg]
      simp only [hbind]
      exact List.mem_singleton.2 rfl)
    rw [hb] at h0
    unfold yielded
    rw [hbind]
    simp only [Option.bind_some]
    rw [Array.getD_eq_getD_getElem?] at h0
    cases hgv : a.tmps[d]? with
    | none => rfl
    | some u =>
      rw [hgv] at h0
      simp only [Option.getD_some] at h0
      cases h0; rfl
  unfold wpOp
  simp only [ho]
  have hm1 : SatM K (τ ++ ρ) w := h.mem.perm hp
  have hp1 : Pre W τ w := ⟨h.pre.size, h.pre.base, fun k hk => h.pre.own k (hp.mem_iff.2 (List.mem_append_left _ hk))⟩
  rcases hc with ⟨hg, hy⟩ | ⟨j, want, hg, hv, hdead⟩
  · have hw : Region.wanted o (yielded ops a.tmps) = true := by
      rcases hg with hg | ⟨j, want, hg, hv⟩
      · simp [Region.wanted, hg]
      · simp [Region.wanted, hg, hgd j want want hg hv]
    rw [if_pos hw]
    refine .inl (opV_sound (k := fun v σ' => v = vs.getD i .dead ∧ σ' = τ) hm1.left hp1 hopnd (hy _ ⟨rfl, rfl⟩) ?_)
    rintro v pv σ' K' w' ⟨rfl, rfl⟩ hv hm' hx
    exact hC K' _ w' (h.step hf hi hin ho hok hv ((hm1.frame hm' hx).perm hp.symm) (hx.frame.perm hp.symm hp.symm))
  · have hw : ¬ Region.wanted o (yielded ops a.tmps) = true := by
      rcases hv with hv | hv
      · simp only [Region.wanted, hg, hgd j want _ hg hv]
        cases want <;> simp
      · simp only [Region.wanted, hg, hgu j want hg hv]
        cases want <;> simp
    rw [if_neg hw]
    exact hC K _ w (h.step hf hi hin ho hok (by rw [hdead]; exact .tup [] [] rfl (fun i hi => by cases hi)) h.mem (Ext.refl _ _ _))

theorem HInv.fin {nt : Nat} {ops : Array Oper} {n : Nat} {env : Env} {vs : List PV} {σ : Mem} {K0 : Kn} {w0 : World} {listed : Array Bool} {K : Kn} {a : Act} {w : World} (hf : HeadFacts ops n) (hvs : vs.length = n)
    (h : HInv ds W nt ops n env vs σ K0 w0 listed K a w) (hl : left listed n = 0) : listed = Array.replicate n true ++ Array.replicate (ops.size - n) false ∧ Sat ds W nt K (envAt env (ops.toList.take n) vs) σ a w := by
  have hopl : ∀ k : Nat, ops.toList[k]? = ops[k]? := fun k => by simp
  have hall := left_zero hl
  have hle := hf.le
  refine ⟨?_, h.mem, h.pre, h.sz, fun t => ?_, h.dfs⟩
  · apply Array.ext
    · simp [h.head.size]; omega
    · intro i h1 h2
      rw [Array.getElem_append]
      split
      · rename_i h3
        simp only [Array.size_replicate] at h3
        have := hall i h3
        simpa [Array.getD, h1] using this
      · rename_i h3
        simp only [Array.size_replicate] at h3
        have := h.head.tail i (by omega) (by rw [← h.head.size]; exact h1)
        simpa [Array.getD, h1] using this
  · by_cases hex : ∃ j, j < n ∧ dstIs ops j t = true
    · obtain ⟨j, hj, hd⟩ := hex
      obtain ⟨oj, hoj, hdj⟩ := dstIs_spec.1 hd
      rw [envAt_some _ _ _ t j oj (by simp [hvs]; omega) (by rw [List.getElem?_take, if_pos hj, hopl]; exact hoj) hdj (fun k ok hk hdk => by
        rw [List.getElem?_take] at hk
        split at hk
        · rw [hopl] at hk
          exact hf.uniq j oj t hj hoj hdj k (by omega) (dstIs_spec.2 ⟨ok, hk, hdk⟩)
        · cases hk)]
      exact h.done t j hj hd (hall j hj)
    · have hno : ∀ j, j < n → dstIs ops j t = false := fun j hj => by
        cases hd : dstIs ops j t with
        | false => rfl
        | true => exact absurd ⟨j, hj, hd⟩ hex
      rw [envAt_none _ _ _ t (fun ok hok' hdk => by
        obtain ⟨k, hk, rfl⟩ := List.getElem_of_mem hok'
        have hk' : k < n := by simp at hk; omega
        have e1 : ops[k]? = some (ops.toList.take n)[k] := by
          have : (ops.toList.take n)[k]? = ops.toList[k]? := by rw [List.getElem?_take, if_pos hk']
          rw [← hopl, ← this, List.getElem?_eq_getElem hk]
        have := hno k hk'
        rw [dstIs_spec.2 ⟨_, e1, hdk⟩] at this
        cases this)]
      exact h.other t hno

theorem HInv.next {nt : Nat} {ops : Array Oper} {n : Nat} {env : Env} {vs : List PV} {σ : Mem} {K0 : Kn} {w0 : World} {listed : Array Bool} {K : Kn} {a : Act} {w : World} (hf : HeadFacts ops n)
    (h : HInv ds W nt ops n env vs σ K0 w0 listed K a w) {m : Nat} (hl : left listed n = m + 1) : Region.ready .any ops listed ≠ [] ∧ ∀ i ∈ Region.ready .any ops listed, i < n ∧ left (listed.setIfInBounds i true) n = m := by
  obtain ⟨k, hk, hkn, hmin⟩ := left_pos hl
  have hr := ready_of_least hf h.head.size hk hkn hmin
  refine ⟨(fun h0 => by rw [h0] at hr; cases hr), fun i hi => ?_⟩
  have hle := hf.le
  have hisz : i < ops.size := by
    obtain ⟨_, o, ho, _⟩ := mem_ready.1 hi
    exact (Array.getElem?_eq_some_iff.1 ho).1
  have hin : i < n := by
    rcases Nat.lt_or_ge i n with h1 | h1
    · exact h1
    · obtain ⟨hs, hc⟩ := hf.tail (by omega)
      exact absurd hi (tail_waits hs hc (by omega) h.head _ k rfl hk (getD_in (by rw [h.head.size]; omega) hkn) i h1)
  have hun := getD_both (mem_ready.1 hi).1
  have := left_set hin (by rw [h.head.size]; exact hisz) hun
  exact ⟨hin, by omega⟩

theorem late_run {nt : Nat} {ops : Array Oper} {n : Nat} {env : Env} {vs : List PV} {σ σ0 : Mem} {K0 K1 : Kn} {w0 w1 : World} {Q : Exit → Env → Mem → Prop} {L : Nat → Prop} (hf : HeadFacts ops n) (hvs : vs.length = n) (hok : opsOk nt ops.toList = true)
    (x0 : Ext σ0 K0 w0 σ K1 w1) (hend : vcOps P W ops (Q .normal) (ops.toList.drop n) (envAt env (ops.toList.take n) vs) σ)
    (hL : ∀ i o, i < n → L i → ops[i]? = some o → ∃ τ ρ, σ.Perm (τ ++ ρ) ∧ CertAt P W ops env vs τ i o) :
    ∀ (m : Nat) (listed : Array Bool) (K : Kn) (a : Act) (w : World), HInv ds W nt ops n env vs σ K1 w1 listed K a w → (∀ i, i < n → listed.getD i false = false → L i) → left listed n = m →
      wpAny P .any ops (After ds W nt Q σ0 K0 w0) (m + (ops.size - n)) listed a w := by
  intro m
  have hopl : ∀ k : Nat, ops.toList[k]? = ops[k]? := fun k => by simp
  induction m with
  | zero =>
    intro listed K a w h _ hl
    obtain ⟨hlisted, hsat⟩ := h.fin hf hvs hl
    have hok' : opsOk nt (ops.toList.drop n) = true := by
      unfold opsOk at *
      rw [List.all_eq_true] at *
      exact fun o ho => hok o (List.mem_of_mem_drop ho)
    have hlen : (ops.toList.drop n).length = ops.size - n := by simp
    rw [Nat.zero_add, ← hlen]
    refine wpAny_of_seq (ops.toList.drop n) n listed a w (fun j => by rw [List.getElem?_drop, hopl]) (by rw [hlen, hlisted]; exact hf.seq) ?_
    exact vcOps_sound _ _ σ K a w hok' hend hsat (x0.trans h.ext)
  | succ m ih =>
    intro listed K a w h hall hl
    obtain ⟨hne, hnx⟩ := h.next hf hl
    rw [show m + 1 + (ops.size - n) = (m + (ops.size - n)) + 1 by omega]
    refine ⟨fun h0 => absurd h0 hne, fun i hi => ?_⟩
    obtain ⟨hin, hlm⟩ := hnx i hi
    obtain ⟨hun, o, ho, _⟩ := mem_ready.1 hi
    obtain ⟨τ, ρ, hp, hc⟩ := hL i o hin (hall i hin (getD_both hun)) ho
    refine h.opAt hf hvs hok hi hin ho hp hc fun K' a' w' h' => ih _ K' a' w' h' (fun j hj hjl => ?_) hlm
    refine hall j hj ?_
    by_cases e : j = i
    · subst e
      have : j < listed.size := by rw [h.head.size]; exact (Array.getElem?_eq_some_iff.1 ho).1
      have : (listed.setIfInBounds j true).getD j false = true := by simp [Array.getD, this]
      rw [this] at hjl; cases hjl
    · rwa [getD_set_ne false (Ne.symm e)] at hjl
theorem envAt_snoc : ∀ (l : List Oper) (vs : List PV) (env : Env) (o : Oper) (v : PV), vs.length = l.length → envAt env (l ++ [o]) (vs ++ [v]) = updO (envAt env l vs) o.dst v
  | [], [], env, o, v, _ => rfl
  | [], _ :: _, _, _, _, h => by simp at h
  | _ :: _, [], _, _, _, h => by simp at h
  | p :: l, u :: vs, env, o, v, h => by
    show envAt (updO env p.dst u) (l ++ [o]) (vs ++ [v]) = updO (envAt (updO env p.dst u) l vs) o.dst v
    exact envAt_snoc l vs _ o v (by simpa using h)
theorem anc_done {ops : Array Oper} {n : Nat} {listed : Array Bool} (hI : HeadInv .any ops n listed) {m : Nat} (hm : m ∈ Region.ready .any ops listed) : ∀ (f i : Nat), ancB ops f m i = true → listed.getD i false = true := by
  have up : ∀ (f k i : Nat), listed.getD k false = true → ancB ops f k i = true → listed.getD i false = true := by
    intro f
    induction f with
    | zero => intro k i _ h; cases h
    | succ f ih =>
      intro k i hk h
      simp only [ancB, Bool.or_eq_true, List.any_eq_true, Bool.and_eq_true] at h
      rcases h with h | ⟨j, _, h1, h2⟩
      · obtain ⟨o, ho, e, he, hb, hon⟩ := depAt_spec h
        have := hI.closed k o ho hk e he hb
        rwa [hon] at this
      · obtain ⟨o, ho, e, he, hb, hon⟩ := depAt_spec h1
        have := hI.closed k o ho hk e he hb
        rw [hon] at this
        exact ih j i this h2
  obtain ⟨_, om, hom, hall⟩ := mem_ready.1 hm
  intro f
  cases f with
  | zero => intro i h; cases h
  | succ f =>
    intro i h
    simp only [ancB, Bool.or_eq_true, List.any_eq_true, Bool.and_eq_true] at h
    rcases h with h | ⟨j, _, h1, h2⟩
    · obtain ⟨o, ho, e, he, hb, hon⟩ := depAt_spec h
      rw [hom] at ho; cases ho
      have := hall e he hb
      rwa [hon] at this
    · obtain ⟨o, ho, e, he, hb, hon⟩ := depAt_spec h1
      rw [hom] at ho; cases ho
      have := hall e he hb
      rw [hon] at this
      exact up f j i this h2
theorem pickV_mono {t : Bool} {a b : PV} {k k' : PV → Prop} (h : pickV t a b k) (hk : ∀ v, k v → k' v) : pickV t a b k' := by
  obtain ⟨v, h1, h2⟩ := pickV_det h
  exact h2 _ (hk v h1)
theorem free_cert {ops : Array Oper} {env : Env} {vs : List PV} {σ : Mem} {i : Nat} {o : Oper} (hf : freeB o = true) (h : CertAt P W ops env vs σ i o) : CertAt P W ops env vs [] i o := by
  obtain ⟨dst, op, ty, pos, after, guard⟩ := o
  cases guard with
  | some g => simp [freeB] at hf
  | none =>
    rcases h with ⟨_, hy⟩ | ⟨j, want, hg, _⟩
    · refine .inl ⟨.inl rfl, fun k hk => ?_⟩
      cases op <;> simp only [freeB] at hf <;> first
        | (cases hf; done)
        | (have h1 := hy (fun v _ => v = vs.getD i .dead) rfl
           simp only [opV] at h1 ⊢
           rw [h1]; exact hk)
        | (have h1 := hy (fun v _ => v = vs.getD i .dead) rfl
           simp only [opV] at h1 ⊢
           split at h1 <;> first
             | (cases h1; done)
             | (rename_i e; simp only [e]; exact pickV_mono h1 fun v hv => by rw [hv]; exact hk)
             | (exact pickV_mono h1 fun v hv => by rw [hv]; exact hk))
    · cases hg
theorem early_run {nt : Nat} {ops : Array Oper} {m : Nat} {om : Oper} {env : Env} {vs : List PV} {σ : Mem} {K0 : Kn} {w0 : World} {Q : Exit → Env → Mem → Prop} {k : PV → Mem → Prop} (hf : HeadFacts ops (m + 1)) (hvs : vs.length = m) (hok : opsOk nt ops.toList = true)
    (hom : ops[m]? = some om) (hg : om.guard = none) (hcert : Cert P W ops σ (ops.toList.take m) env vs) (hop : opV P W om.op (envAt env (ops.toList.take m) vs) σ k)
    (hk : ∀ pv σ', k pv σ' → (wkMem σ' σ ∨ ∀ i, i < m → ancB ops (m + 1) m i = true ∨ ∃ o, ops[i]? = some o ∧ freeB o = true) ∧ vcOps P W ops (Q .normal) (ops.toList.drop (m + 1)) (updO (envAt env (ops.toList.take m) vs) om.dst pv) σ') :
    ∀ (c : Nat) (listed : Array Bool) (K : Kn) (a : Act) (w : World), HInv ds W nt ops (m + 1) env (vs ++ [.dead]) σ K0 w0 listed K a w → listed.getD m false = false → left listed (m + 1) = c →
      wpAny P .any ops (After ds W nt Q σ K0 w0) (c + (ops.size - (m + 1))) listed a w := by
  intro c
  have hopl : ∀ k : Nat, ops.toList[k]? = ops[k]? := fun k => by simp
  have hmlt : m < ops.size := (Array.getElem?_eq_some_iff.1 hom).1
  have htk : ∀ (v : PV) (i : Nat), i ≤ m → (vs ++ [v]).take i = vs.take i := fun v i hi => by rw [List.take_append_of_le_length (by omega)]
  have hget : ∀ (v : PV) (i : Nat), i < m → (vs ++ [v]).getD i .dead = vs.getD i .dead := fun v i hi => by simp [List.getD_eq_getElem?_getD, List.getElem?_append_left (show i < vs.length by omega)]
  have hcat : ∀ (v : PV) i o, i < m → ops[i]? = some o → CertAt P W ops env (vs ++ [v]) σ i o := fun v i o hi ho => by
    have := cert_at _ _ _ hcert i o (by rw [List.getElem?_take, if_pos hi, hopl]; exact ho)
    rw [List.take_take, show min i m = i by omega] at this
    unfold CertAt
    rw [htk v i (by omega), hget v i hi]
    exact this
  induction c with
  | zero =>
    intro listed K a w h hml hl
    have := left_zero hl m (by omega)
    rw [hml] at this; cases this
  | succ c ih =>
    intro listed K a w h hml hl
    obtain ⟨hne, hnx⟩ := h.next hf hl
    rw [show c + 1 + (ops.size - (m + 1)) = (c + (ops.size - (m + 1))) + 1 by omega]
    refine ⟨fun h0 => absurd h0 hne, fun i hi => ?_⟩
    obtain ⟨hin, hlm⟩ := hnx i hi
    obtain ⟨hun, o, ho, _⟩ := mem_ready.1 hi
    by_cases him : i = m
    · subst him
      rw [hom] at ho; cases ho
      have hopnd := h.opnds hf (by simp [hvs]) hi hin hom
      rw [htk _ i (Nat.le_refl _), show vs.take i = vs by rw [List.take_of_length_le (by omega)]] at hopnd
      unfold wpOp
      simp only [hom]
      have hw : Region.wanted om (yielded ops a.tmps) = true := by simp [Region.wanted, hg]
      rw [if_pos hw]
      refine .inl (opV_sound (k := k) h.mem h.pre hopnd hop ?_)
      rintro v pv σ' K' w' hkv hv hm' hx
      obtain ⟨hlate, htail⟩ := hk pv σ' hkv
      have hlt : i < listed.size := by rw [h.head.size]; exact hmlt
      have key : ∀ t j, j < i + 1 → dstIs ops j t = true → (j = i ∧ om.dst = some t) ∨ (j < i ∧ om.dst ≠ some t) := fun t j hj hd => by
        by_cases e : j = i
        · subst e
          obtain ⟨o', ho', hd'⟩ := dstIs_spec.1 hd
          rw [hom] at ho'
          cases ho'
          exact .inl ⟨rfl, hd'⟩
        · exact .inr ⟨by omega, fun hd' => e (hf.uniq i om t hin hom hd' j hj hd)⟩
      have hH : HInv ds W nt ops (i + 1) env (vs ++ [pv]) σ' K' w' (listed.setIfInBounds i true) K' (a.put om.dst v) w' := by
        refine ⟨h.head.set hi hin, hm', h.pre.ext hx, Ext.refl _ _ _, by cases om.dst <;> simp [Act.put, h.sz], by cases om.dst <;> exact h.dfs, fun t ht => ?_, fun t j hj hd hl => ?_, fun t j hj hd hl => ?_⟩
        · have : om.dst ≠ some t := fun e => by
            have := ht i hin
            rw [dstIs_spec.2 ⟨om, hom, e⟩] at this
            cases this
          rw [put_at this]; exact hx.vrel (h.other t ht)
        · rcases key t j hj hd with ⟨rfl, e⟩ | ⟨e, e'⟩
          · rw [e]
            have hd' : t < nt := by
              have := List.all_eq_true.1 hok om (by have := (Array.getElem?_eq_some_iff.1 hom); obtain ⟨h1, h2⟩ := this; rw [← h2]; simp)
              simpa [e] using this
            rw [put_self (by rw [h.sz]; exact hd'), show (vs ++ [pv]).getD j .dead = pv by simp [List.getD_eq_getElem?_getD, ← hvs]]
            exact hv
          · rw [put_at e', hget pv j e, ← hget .dead j e]
            rw [getD_set_ne false (by omega)] at hl
            exact hx.vrel (h.done t j hj hd hl)
        · rcases key t j hj hd with ⟨rfl, e⟩ | ⟨e, e'⟩
          · have : (listed.setIfInBounds j true).getD j false = true := by simp [Array.getD, hlt]
            rw [this] at hl; cases hl
          · rw [put_at e']
            rw [getD_set_ne false (by omega)] at hl
            exact hx.vrel (h.todo t j hj hd hl)
      have hend : vcOps P W ops (Q .normal) (ops.toList.drop (i + 1)) (envAt env (ops.toList.take (i + 1)) (vs ++ [pv])) σ' := by
        have e1 : ops.toList.take (i + 1) = ops.toList.take i ++ [om] := take_snoc_of (by rw [hopl]; exact hom)
        rw [e1, envAt_snoc _ _ _ _ _ (by simp [hvs]; omega)]
        exact htail
      refine late_run (L := fun j => j < i ∧ listed.getD j false = false) hf (by simp [hvs]) hok (h.ext.trans hx) hend (fun j oj hj ⟨hji, hjl⟩ hoj => ?_) c _ K' _ w' hH (fun j hj hjl => ?_) hlm
      · have hcj := hcat pv j oj hji hoj
        rcases hlate with ⟨ρ, hρ⟩ | hfree
        · exact ⟨σ, ρ, hρ, hcj⟩
        · rcases hfree j hji with ha | ⟨o', ho', hfr⟩
          · have := anc_done h.head hi _ j ha
            rw [hjl] at this; cases this
          · rw [hoj] at ho'; cases ho'
            exact ⟨[], σ', .refl _, free_cert hfr hcj⟩
      · by_cases e : j = i
        · subst e
          have : (listed.setIfInBounds j true).getD j false = true := by simp [Array.getD, hlt]
          rw [this] at hjl; cases hjl
        · rw [getD_set_ne false (Ne.symm e)] at hjl
          exact ⟨by omega, hjl⟩
    · refine h.opAt hf (by simp [hvs]) hok hi hin ho (τ := σ) (ρ := []) (by simp) (hcat _ i o (by omega) ho) fun K' a' w' h' => ih _ K' a' w' h' ?_ hlm
      rw [getD_set_ne false him]; exact hml
def D2 (P : Program) (W : World) (ops : Array Oper) (Q : Env → Mem → Prop) (env : Env) (σ : Mem) : Prop :=
  ∃ m, lateOk ops m = true ∧ headF P W ops σ (fun env' => match ops[m]? with
    | some om => opF P W om.op env' σ fun v σ' => need (wkMem σ' σ) (forceV v fun v => putF env' om.dst v fun env'' => vcOpsF P W ops Q (ops.toList.drop (m + 1)) env'' σ')
    | none => False) (ops.toList.take m) env
def D3 (P : Program) (W : World) (ops : Array Oper) (Q : Env → Mem → Prop) (env : Env) (σ : Mem) : Prop :=
  ∃ m, lateFree ops m = true ∧ headF P W ops σ (fun env' => match ops[m]? with
    | some om => opF P W om.op env' σ fun v σ' => forceV v fun v => putF env' om.dst v fun env'' => vcOpsF P W ops Q (ops.toList.drop (m + 1)) env'' σ'
    | none => False) (ops.toList.take m) env
inductive Draws (A B C : Prop) : Prop
  | head (h : A)
  | late (h : B)
  | free (h : C)
def DD (P : Program) (W : World) (ops : Array Oper) (Q : Env → Mem → Prop) (env : Env) (σ : Mem) : Prop := Draws (D1 P W ops Q env σ) (D2 P W ops Q env σ) (D3 P W ops Q env σ)
theorem draw_of (hm : P.follows .mixedOrders = true) {nt id : Nat} {ops : Array Oper} {Q : Exit → Env → Mem → Prop} {env : Env} {σ : Mem} {K : Kn} {a : Act} {w : World} {m : Nat} {om : Oper} {vs : List PV} {k : PV → Mem → Prop} (hok : opsOk nt ops.toList = true) (hs : Sat ds W nt K env σ a w)
    (hl : lateOk ops m = true) (hom : ops[m]? = some om) (hlen : vs.length = (ops.toList.take m).length) (hcert : Cert P W ops σ (ops.toList.take m) env vs) (hop : opV P W om.op (envAt env (ops.toList.take m) vs) σ k)
    (hk : ∀ pv σ', k pv σ' → (wkMem σ' σ ∨ ∀ i, i < m → ancB ops (m + 1) m i = true ∨ ∃ o, ops[i]? = some o ∧ freeB o = true) ∧ vcOps P W ops (Q .normal) (ops.toList.drop (m + 1)) (updO (envAt env (ops.toList.take m) vs) om.dst pv) σ') :
    (Code.region id ops true).wp P (After ds W nt Q σ K w) a w := by
  unfold lateOk at hl
  simp only [Bool.and_eq_true] at hl
  have hf := headOk_spec hl.1
  have hg : om.guard = none := by
    have := hl.2
    unfold noGuard at this
    rw [hom] at this
    simpa using this
  have hmlt : m < ops.size := (Array.getElem?_eq_some_iff.1 hom).1
  have hvs : vs.length = m := by rw [hlen]; simp; omega
  refine wp_region_any hm ?_
  have hsz : ops.size = left (Array.replicate ops.size false) (m + 1) + (ops.size - (m + 1)) := by
    have : left (Array.replicate ops.size false) (m + 1) = m + 1 := by
      unfold left
      rw [List.countP_eq_length.2]
      · simp
      · intro i _
        rw [getD_replicate_false]; rfl
    have := hf.le; omega
  have hrun := early_run (nt := nt) (K0 := K) (w0 := w) (Q := Q) hf hvs hok hom hg hcert hop hk _ (Array.replicate ops.size false) K a { w with drawn := w.drawn + 1 } ⟨⟨by simp, (fun j oj _ hl => by rw [getD_replicate_false] at hl; cases hl), (fun t _ ht => by simp [Array.getD, ht])⟩,
    hs.mem.drawn _, hs.pre.ext (Ext.drawn σ K w _), Ext.drawn σ K w _, hs.sz, hs.dfs, fun t _ => (Ext.drawn σ K w _).vrel (hs.env t), (fun t j _ _ hl => by rw [getD_replicate_false] at hl; cases hl), fun t j _ _ _ => (Ext.drawn σ K w _).vrel (hs.env t)⟩ (getD_replicate_false _ _) rfl
  rw [← hsz] at hrun
  exact hrun
theorem DD_ok (hm : P.follows .mixedOrders = true) : DrawOk P W (DD P W) := by
  intro ds nt id ops Q env σ K a w hok h hs
  rcases h with h | ⟨m, hl, hv⟩ | ⟨m, hl, hv⟩
  · exact D1_ok hm ds nt id ops Q env σ K a w hok h hs
  · simp only [headF_eq, vcOpsF_eq, forceV_eq, putF_eq, opF_eq] at hv
    obtain ⟨vs, hlen, hcert, hend⟩ := headV_cert _ _ hv
    split at hend
    case h_2 => exact hend.elim
    rename_i om hom
    exact draw_of hm hok hs hl hom hlen hcert hend fun pv σ' ⟨h1, h2⟩ => ⟨.inl h1, h2⟩
  · simp only [headF_eq, vcOpsF_eq, forceV_eq, putF_eq, opF_eq] at hv
    obtain ⟨vs, hlen, hcert, hend⟩ := headV_cert _ _ hv
    split at hend
    case h_2 => exact hend.elim
    rename_i om hom
    unfold lateFree at hl
    simp only [Bool.and_eq_true, List.all_eq_true, List.mem_range, Bool.or_eq_true] at hl
    refine draw_of hm hok hs hl.1 hom hlen hcert hend fun pv σ' h2 => ⟨.inr fun i hi => ?_, h2⟩
    rcases hl.2 i hi with h | h
    · exact .inl h
    · split at h
      · rename_i o ho
        exact .inr ⟨o, ho, h⟩
      · cases h
end Go.Eng
end

/- The engine, part 20: short forms: what a walk does by itself stands here as the scripts of default arguments. -/
section
namespace Go.Eng
open Go
theorem n1_ {σ : Mem} {k : Nat → Prop} (h : ∀ b, k b) : New1 σ k := ⟨fun b _ => h b⟩
theorem n2_ {b : Nat} {σ : Mem} {k kk : Nat → Prop} (h : ∀ b', k b') : New2 b σ k kk := .mk fun b' _ => h b'
theorem em_ {α : Type} {f : α → PV} {l : List α} {q : Nat} {k : PV → Prop} (h : ∀ x, l[q]? = some x → k (f x)) : Elem1 (l.map f) q k := ⟨fun e he => by
  obtain ⟨x, hx, rfl⟩ := getMap he
  exact h x hx⟩
theorem ek_ {α : Type} {l : List α} {q : Nat} {k : α → Prop} {a : α} (h : k a) (e : l[q]? = some a := by rfl) : Elem1 l q k := ⟨fun e' he => by
  rw [e] at he
  cases he; exact h⟩
theorem Nat1.o {n : Nat} {k : Nat → Prop} (h : k n) : Nat1 (Int.ofNat n) k := ⟨fun q hq => by cases hq; exact h⟩
theorem Lst1.m {α : Type} {l l' : List α} {k : List α → Prop} (h : k l') (e : l = l' := by first | (conv => lhs; simp only [List.take_length, List.drop_zero, ← List.map_take, ← List.map_drop]) | rfl) : Lst1 l k := ⟨fun q hq => by subst hq; rw [e]; exact h⟩
theorem g0_ {p q : Prop} (hq : q) (h : Hide q → p := by (intro hq_; refine wh ?_; (repeat ((first | refine CondC.part ?_ | (refine GuardC.part ?_; refine wh ?_; fail_if_success refine brec ?_) | (apply GuardC.sp; (case' h1 => (refine wh ?_; (repeat ((refine need.mk ?_ ?_; focus (first | with_reducible exact fun h => h | with_reducible exact not_of_false | exact fun _ => rfl | (intro h_; simp [h_]; done) | (intro h_; simp_all; done))); refine wh ?_)); exact trivial)); (case' h2 => (intro hg_; (refine wh ?_; repeat ((first | (apply RowAt.mk; (case' hl => (repeat (first | exact .here _ _ _ | apply Look.there | exact Look.fam (by assumption) _)))) | refine Fits.ok (by omega) (by omega) ?_ | (refine need.mk ?_ ?_; focus (first | (first | omega | exact wkMem.skip wkMem.rfl' | rfl | (simp; done) | (simp [cellsB, PV.flat, cellB]; done) | (simp <;> omega) | (simp only [true_and, and_true, Bool.true_and, Bool.and_true, Bool.not_true, Bool.not_false, Bool.and_eq_true, Bool.not_eq_true, Bool.not_eq_false, Bool.or_eq_true, Bool.not_eq_true', Bool.not_eq_false', decide_eq_true_eq, decide_eq_false_iff_not, Decidable.not_not, ne_eq, beq_iff_eq]; omega) | (rw [Bool.eq_false_iff]; simp only [true_and, and_true, Bool.true_and, Bool.and_true, Bool.not_true, Bool.not_false, Bool.and_eq_true, Bool.not_eq_true, Bool.not_eq_false, Bool.or_eq_true, Bool.not_eq_true', Bool.not_eq_false', decide_eq_true_eq, decide_eq_false_iff_not, Decidable.not_not, ne_eq, beq_iff_eq]; omega)) | (simp at hg_; omega) | (intros; simp_all; done) | (intros; simp_all; omega))) | (refine New1.mk fun b_ hb_ => ?_; clear hb_) | (refine New2.mk fun b_ hb_ => ?_; clear hb_) | (refine Nat1.mk fun q_ hq_ => ?_; (first | (obtain rfl := Int.ofNat.inj hq_; clear hq_) | skip)) | refine at_known (by assumption) ?_ | (refine Elem1.mk fun e_ he_ => ?_; (first | (obtain ⟨x_, hx_, rfl⟩ := getMap he_; clear he_) | (obtain rfl := Option.some.inj he_; clear he_) | skip)) | (refine Lst1.mk fun s_ hs_ => ?_; (try simp only [List.take_length, List.drop_zero, ← List.map_take, ← List.map_drop] at hs_); subst hs_)); refine wh ?_)); refine And.intro ?_ rfl; exact Eq.refl _))) | refine GuardC.part ?_ | (refine needO.mk ?_ ?_; focus (refine wh ?_; (repeat ((refine need.mk ?_ ?_; focus (first | with_reducible exact fun h => h | with_reducible exact not_of_false | exact fun _ => rfl | (intro h_; simp [h_]; done) | (intro h_; simp_all; done))); refine wh ?_)); exact trivial)) | with_reducible refine need.mk (fun h => h) ?_ | with_reducible refine need.mk not_of_false ?_ | (apply RowAt.mk; (case' hl => (repeat (first | exact .here _ _ _ | apply Look.there | exact Look.fam (by assumption) _)))) | refine Fits.ok (by omega) (by omega) ?_ | (refine need.mk ?_ ?_; focus (first | omega | exact wkMem.skip wkMem.rfl' | rfl | (simp; done) | (simp [cellsB, PV.flat, cellB]; done) | (simp <;> omega) | (simp only [true_and, and_true, Bool.true_and, Bool.and_true, Bool.not_true, Bool.not_false, Bool.and_eq_true, Bool.not_eq_true, Bool.not_eq_false, Bool.or_eq_true, Bool.not_eq_true', Bool.not_eq_false', decide_eq_true_eq, decide_eq_false_iff_not, Decidable.not_not, ne_eq, beq_iff_eq]; omega) | (rw [Bool.eq_false_iff]; simp only [true_and, and_true, Bool.true_and, Bool.and_true, Bool.not_true, Bool.not_false, Bool.and_eq_true, Bool.not_eq_true, Bool.not_eq_false, Bool.or_eq_true, Bool.not_eq_true', Bool.not_eq_false', decide_eq_true_eq, decide_eq_false_iff_not, Decidable.not_not, ne_eq, beq_iff_eq]; omega))) | (refine Alt.a ?_ ?_; focus (first | omega | exact wkMem.skip wkMem.rfl' | rfl | (simp; done) | (simp [cellsB, PV.flat, cellB]; done) | (simp <;> omega) | (simp only [true_and, and_true, Bool.true_and, Bool.and_true, Bool.not_true, Bool.not_false, Bool.and_eq_true, Bool.not_eq_true, Bool.not_eq_false, Bool.or_eq_true, Bool.not_eq_true', Bool.not_eq_false', decide_eq_true_eq, decide_eq_false_iff_not, Decidable.not_not, ne_eq, beq_iff_eq]; omega) | (rw [Bool.eq_false_iff]; simp only [true_and, and_true, Bool.true_and, Bool.and_true, Bool.not_true, Bool.not_false, Bool.and_eq_true, Bool.not_eq_true, Bool.not_eq_false, Bool.or_eq_true, Bool.not_eq_true', Bool.not_eq_false', decide_eq_true_eq, decide_eq_false_iff_not, Decidable.not_not, ne_eq, beq_iff_eq]; omega))) | refine at_known (by assumption) ?_ | (refine InsAt.new ?_; refine wh ?_; apply MapAt.mk; (case' hl => (repeat (first | exact .here _ _ _ | apply Look.there)))) | refine Nat1.o ?_ | refine Lst1.m ?_ | refine ek_ ?_); refine wh ?_)); exact Hide.out hq_)) : p := h ⟨hq⟩
theorem g1_ {p q : Prop} (hq : q) (h : Hide q → p := by (intro hq_; refine wh ?_; (repeat ((first | refine CondC.part ?_ | (refine GuardC.part ?_; refine wh ?_; fail_if_success refine brec ?_) | (apply GuardC.sp; (case' h1 => (refine wh ?_; (repeat ((refine need.mk ?_ ?_; focus (first | with_reducible exact fun h => h | with_reducible exact not_of_false | exact fun _ => rfl | (intro h_; simp [h_]; done) | (intro h_; simp_all; done))); refine wh ?_)); exact trivial)); (case' h2 => (intro hg_; (refine wh ?_; repeat ((first | (apply RowAt.mk; (case' hl => (repeat (first | exact .here _ _ _ | apply Look.there | exact Look.fam (by assumption) _)))) | refine Fits.ok (by omega) (by omega) ?_ | (refine need.mk ?_ ?_; focus (first | (first | omega | exact wkMem.skip wkMem.rfl' | rfl | (simp; done) | (simp [cellsB, PV.flat, cellB]; done) | (simp <;> omega) | (simp only [true_and, and_true, Bool.true_and, Bool.and_true, Bool.not_true, Bool.not_false, Bool.and_eq_true, Bool.not_eq_true, Bool.not_eq_false, Bool.or_eq_true, Bool.not_eq_true', Bool.not_eq_false', decide_eq_true_eq, decide_eq_false_iff_not, Decidable.not_not, ne_eq, beq_iff_eq]; omega) | (rw [Bool.eq_false_iff]; simp only [true_and, and_true, Bool.true_and, Bool.and_true, Bool.not_true, Bool.not_false, Bool.and_eq_true, Bool.not_eq_true, Bool.not_eq_false, Bool.or_eq_true, Bool.not_eq_true', Bool.not_eq_false', decide_eq_true_eq, decide_eq_false_iff_not, Decidable.not_not, ne_eq, beq_iff_eq]; omega)) | (simp at hg_; omega) | (intros; simp_all; done) | (intros; simp_all; omega))) | (refine New1.mk fun b_ hb_ => ?_; clear hb_) | (refine New2.mk fun b_ hb_ => ?_; clear hb_) | (refine Nat1.mk fun q_ hq_ => ?_; (first | (obtain rfl := Int.ofNat.inj hq_; clear hq_) | skip)) | refine at_known (by assumption) ?_ | (refine Elem1.mk fun e_ he_ => ?_; (first | (obtain ⟨x_, hx_, rfl⟩ := getMap he_; clear he_) | (obtain rfl := Option.some.inj he_; clear he_) | skip)) | (refine Lst1.mk fun s_ hs_ => ?_; (try simp only [List.take_length, List.drop_zero, ← List.map_take, ← List.map_drop] at hs_); subst hs_)); refine wh ?_)); refine And.intro ?_ rfl; exact Eq.refl _))) | refine GuardC.part ?_ | (refine needO.mk ?_ ?_; focus (refine wh ?_; (repeat ((refine need.mk ?_ ?_; focus (first | with_reducible exact fun h => h | with_reducible exact not_of_false | exact fun _ => rfl | (intro h_; simp [h_]; done) | (intro h_; simp_all; done))); refine wh ?_)); exact trivial)) | with_reducible refine need.mk (fun h => h) ?_ | with_reducible refine need.mk not_of_false ?_ | (apply RowAt.mk; (case' hl => (repeat (first | exact .here _ _ _ | apply Look.there | exact Look.fam (by assumption) _)))) | refine Fits.ok (by omega) (by omega) ?_ | (refine need.mk ?_ ?_; focus (first | omega | exact wkMem.skip wkMem.rfl' | rfl | (simp; done) | (simp [cellsB, PV.flat, cellB]; done) | (simp <;> omega) | (simp only [true_and, and_true, Bool.true_and, Bool.and_true, Bool.not_true, Bool.not_false, Bool.and_eq_true, Bool.not_eq_true, Bool.not_eq_false, Bool.or_eq_true, Bool.not_eq_true', Bool.not_eq_false', decide_eq_true_eq, decide_eq_false_iff_not, Decidable.not_not, ne_eq, beq_iff_eq]; omega) | (rw [Bool.eq_false_iff]; simp only [true_and, and_true, Bool.true_and, Bool.and_true, Bool.not_true, Bool.not_false, Bool.and_eq_true, Bool.not_eq_true, Bool.not_eq_false, Bool.or_eq_true, Bool.not_eq_true', Bool.not_eq_false', decide_eq_true_eq, decide_eq_false_iff_not, Decidable.not_not, ne_eq, beq_iff_eq]; omega))) | (refine Alt.a ?_ ?_; focus (first | omega | exact wkMem.skip wkMem.rfl' | rfl | (simp; done) | (simp [cellsB, PV.flat, cellB]; done) | (simp <;> omega) | (simp only [true_and, and_true, Bool.true_and, Bool.and_true, Bool.not_true, Bool.not_false, Bool.and_eq_true, Bool.not_eq_true, Bool.not_eq_false, Bool.or_eq_true, Bool.not_eq_true', Bool.not_eq_false', decide_eq_true_eq, decide_eq_false_iff_not, Decidable.not_not, ne_eq, beq_iff_eq]; omega) | (rw [Bool.eq_false_iff]; simp only [true_and, and_true, Bool.true_and, Bool.and_true, Bool.not_true, Bool.not_false, Bool.and_eq_true, Bool.not_eq_true, Bool.not_eq_false, Bool.or_eq_true, Bool.not_eq_true', Bool.not_eq_false', decide_eq_true_eq, decide_eq_false_iff_not, Decidable.not_not, ne_eq, beq_iff_eq]; omega))) | refine at_known (by assumption) ?_ | (refine InsAt.new ?_; refine wh ?_; apply MapAt.mk; (case' hl => (repeat (first | exact .here _ _ _ | apply Look.there)))) | refine Nat1.o ?_ | refine Lst1.m ?_ | refine ek_ ?_ | ((first | (refine brec_t2 ?_ ?_; focus (first | (simp only [true_and, and_true, Bool.true_and, Bool.and_true, Bool.not_true, Bool.not_false, Bool.and_eq_true, Bool.not_eq_true, Bool.not_eq_false, Bool.or_eq_true, Bool.not_eq_true', Bool.not_eq_false', decide_eq_true_eq, decide_eq_false_iff_not, Decidable.not_not, ne_eq, beq_iff_eq]; omega) | (simp_all; done))) | (refine brec_f2 ?_ ?_; focus (first | (rw [Bool.eq_false_iff]; simp only [true_and, and_true, Bool.true_and, Bool.and_true, Bool.not_true, Bool.not_false, Bool.and_eq_true, Bool.not_eq_true, Bool.not_eq_false, Bool.or_eq_true, Bool.not_eq_true', Bool.not_eq_false', decide_eq_true_eq, decide_eq_false_iff_not, Decidable.not_not, ne_eq, beq_iff_eq]; omega) | (simp_all; done)))); intro hd_; (try rw [hd_]); clear hd_)); refine wh ?_)); exact Hide.out hq_)) : p := h ⟨hq⟩
theorem nm_ {c b : Bool} {p : Prop} (h : c = b) (h2 : c = b → p := by (intro h_; first | exact of_decide_eq_true h_ | exact Decidable.not_not.1 (of_decide_eq_false h_) | exact of_decide_eq_false h_ | (replace h_ := Bool.eq_false_iff.1 h_; simp only [true_and, and_true, Bool.true_and, Bool.and_true, Bool.not_true, Bool.not_false, Bool.and_eq_true, Bool.not_eq_true, Bool.not_eq_false, Bool.or_eq_true, Bool.not_eq_true', Bool.not_eq_false', decide_eq_true_eq, decide_eq_false_iff_not, Decidable.not_not, ne_eq, beq_iff_eq] at h_; exact h_) | (simp only [true_and, and_true, Bool.true_and, Bool.and_true, Bool.not_true, Bool.not_false, Bool.and_eq_true, Bool.not_eq_true, Bool.not_eq_false, Bool.or_eq_true, Bool.not_eq_true', Bool.not_eq_false', decide_eq_true_eq, decide_eq_false_iff_not, Decidable.not_not, ne_eq, beq_iff_eq] at h_; exact h_) | exact h_)) : p := h2 h
theorem wkEnv.nil {env : Env} : wkEnv env [] := trivial
theorem wkEnv.cons {env : Env} {t : Nat} {v : PV} {r : List (Nat × PV)} (h : env t = v) (g : wkEnv env r) : wkEnv env ((t, v) :: r) := ⟨h, g⟩
theorem nx_ {α : Type} {R : α → Prop} {μ : α → Nat} {c : Nat} {L : α → List (Nat × PV)} {M : α → Mem} {env : Env} {σ : Mem} (y : α) (hR : R y) (hμ : μ y < c)
    (hE : wkEnv env (L y) := by ((repeat (refine wkEnv.cons (by first | rfl | ((conv => lhs; whnf); first | rfl | (congr 1; (try push_cast); omega) | (congr 1; simp; done) | (congr 1; simp; omega) | (simp; done) | (simp [*]; done))) ?_)); exact wkEnv.nil)) (hM : wkMem σ (M y) := by (first | exact ⟨_, .refl _⟩ | exact wkMem.rfl' | exact ⟨_, .swap _ _ _⟩ | (repeat (first | exact wkMem.nil _ | exact wkMem.rfl' | exact wk_snoc _ _ _ | exact wk_fam (by assumption) _ _ _ | exact wk_famN (by assumption) _ _ _ | (apply wkMem.cons; (case' hl => (repeat (first | exact .here _ _ _ | apply Look.there)))) | apply wkMem.skip)))) : ∃ y, R y ∧ μ y < c ∧ wkEnv env (L y) ∧ wkMem σ (M y) := ⟨y, hR, hμ, hE, hM⟩
theorem loopI {body : (Exit → Env → Mem → Prop) → Env → Mem → Prop} {Q : Exit → Env → Mem → Prop} {env : Env} {σ : Mem} {α : Type} (L : α → List (Nat × PV)) (us : List (Nat × PV)) (M : α → Mem) (R : α → Prop) (μ : α → Nat) (x0 : α) (hr : R x0)
    (hb : ∀ x, R x → body (fun e env' σ' => match e with
      | .normal => ∃ y, R y ∧ μ y < μ x ∧ wkEnv env' (L y ++ us) ∧ wkMem σ' (M y)
      | e => Q e env' σ') (mkEnv (L x ++ us)) (M x))
    (hu : wkEnv env us := by ((repeat (refine wkEnv.cons (by first | ((conv => lhs; whnf); done) | ((conv => lhs; whnf); exact rfl)) ?_)); exact wkEnv.nil)) (hl : wkEnv env (L x0) := by ((repeat (refine wkEnv.cons (by first | rfl | ((conv => lhs; whnf); rfl) | (simp; done)) ?_)); exact wkEnv.nil)) (hm : wkMem σ (M x0) := by (first | exact ⟨_, .refl _⟩ | exact wkMem.rfl' | exact ⟨_, .swap _ _ _⟩ | (repeat (first | exact wkMem.nil _ | exact wkMem.rfl' | exact wk_snoc _ _ _ | exact wk_fam (by assumption) _ _ _ | exact wk_famN (by assumption) _ _ _ | (apply wkMem.cons; (case' hl => (repeat (first | exact .here _ _ _ | apply Look.there)))) | apply wkMem.skip)))) :
    Loops (∃ n, loopN body Q n env σ) <| ∃ (α : Type) (L : α → List (Nat × PV)) (M : α → Mem) (R : α → Prop) (μ : α → Nat),
      (∃ x, R x ∧ wkEnv env (L x) ∧ wkMem σ (M x)) ∧
      ∀ x, R x → body (fun e env' σ' => match e with
        | .normal => ∃ y, R y ∧ μ y < μ x ∧ wkEnv env' (L y) ∧ wkMem σ' (M y)
        | e => Q e env' σ') (mkEnv (L x)) (M x) := .inv (loop_use L us M R μ x0 hu hl hm hr hb)
theorem head_ {P : Program} {W : World} {ops : Array Oper} {Q : Env → Mem → Prop} {env : Env} {σ : Mem} {n : Nat} (k : headF P W ops σ (fun env' => vcOpsF P W ops Q (ops.toList.drop n) env' σ) (ops.toList.take n) env) (h : headOk ops n = true := by first | exact headOk_of (n := 60) (by decide +kernel) | exact headOk_of (n := 59) (by decide +kernel) | exact headOk_of (n := 58) (by decide +kernel) | exact headOk_of (n := 57) (by decide +kernel) | exact headOk_of (n := 56) (by decide +kernel) | exact headOk_of (n := 55) (by decide +kernel) | exact headOk_of (n := 54) (by decide +kernel) | exact headOk_of (n := 53) (by decide +kernel) | exact headOk_of (n := 52) (by decide +kernel) | exact headOk_of (n := 51) (by decide +kernel) | exact headOk_of (n := 50) (by decide +kernel) | exact headOk_of (n := 49) (by decide +kernel) | exact headOk_of (n := 48) (by decide +kernel) | exact headOk_of (n := 47) (by decide +kernel) | exact headOk_of (n := 46) (by decide +kernel) | exact headOk_of (n := 45) (by decide +kernel) | exact headOk_of (n := 44) (by decide +kernel) | exact headOk_of (n := 43) (by decide +kernel) | exact headOk_of (n := 42) (by decide +kernel) | exact headOk_of (n := 41) (by decide +kernel) | exact headOk_of (n := 40) (by decide +kernel) | exact headOk_of (n := 39) (by decide +kernel) | exact headOk_of (n := 38) (by decide +kernel) | exact headOk_of (n := 37) (by decide +kernel) | exact headOk_of (n := 36) (by decide +kernel) | exact headOk_of (n := 35) (by decide +kernel) | exact headOk_of (n := 34) (by decide +kernel) | exact headOk_of (n := 33) (by decide +kernel) | exact headOk_of (n := 32) (by decide +kernel) | exact headOk_of (n := 31) (by decide +kernel) | exact headOk_of (n := 30) (by decide +kernel) | exact headOk_of (n := 29) (by decide +kernel) | exact headOk_of (n := 28) (by decide +kernel) | exact headOk_of (n := 27) (by decide +kernel) | exact headOk_of (n := 26) (by decide +kernel) | exact headOk_of (n := 25) (by decide +kernel) | exact headOk_of (n := 24) (by decide +kernel) | exact headOk_of (n := 23) (by decide +kernel) | exact headOk_of (n := 22) (by decide +kernel) | exact headOk_of (n := 21) (by decide +kernel) | exact headOk_of (n := 20) (by decide +kernel) | exact headOk_of (n := 19) (by decide +kernel) | exact headOk_of (n := 18) (by decide +kernel) | exact headOk_of (n := 17) (by decide +kernel) | exact headOk_of (n := 16) (by decide +kernel) | exact headOk_of (n := 15) (by decide +kernel) | exact headOk_of (n := 14) (by decide +kernel) | exact headOk_of (n := 13) (by decide +kernel) | exact headOk_of (n := 12) (by decide +kernel) | exact headOk_of (n := 11) (by decide +kernel) | exact headOk_of (n := 10) (by decide +kernel) | exact headOk_of (n := 9) (by decide +kernel) | exact headOk_of (n := 8) (by decide +kernel) | exact headOk_of (n := 7) (by decide +kernel) | exact headOk_of (n := 6) (by decide +kernel) | exact headOk_of (n := 5) (by decide +kernel) | exact headOk_of (n := 4) (by decide +kernel) | exact headOk_of (n := 3) (by decide +kernel) | exact headOk_of (n := 2) (by decide +kernel) | exact headOk_of (n := 1) (by decide +kernel) | exact headOk_of (n := 0) (by decide +kernel)) : DD P W ops Q env σ := .head ⟨n, h, k⟩
end Go.Eng
end

/- What all contracts of this seat stand on. -/
section
namespace Go.Eng.YtkenlcaifhffoaaDoor
open Go Go.Eng Go.Proofs
theorem drawOk (W : World) : DrawOk Tryd.prog W (DD Tryd.prog W) := DD_ok (by decide)
theorem wrap_i64 {n : Int} (h1 : -9223372036854775808 ≤ n) (h2 : n ≤ 9223372036854775807) : IntKind.i64.wrap n = n := by rw [IntKind.wrap_i64]; omega
theorem wrap_i32 {n : Int} (h1 : -2147483648 ≤ n) (h2 : n ≤ 2147483647) : IntKind.i32.wrap n = n := by rw [IntKind.wrap_i32]; omega
theorem wrap_u8 {n : Int} (h1 : 0 ≤ n) (h2 : n ≤ 255) : IntKind.u8.wrap n = n := by rw [IntKind.wrap_u8]; omega
def ints (l : List Int) : List PV := l.map (PV.int .i64)
def i64ok (n : Int) : Prop := -9223372036854775808 ≤ n ∧ n ≤ 9223372036854775807
end Go.Eng.YtkenlcaifhffoaaDoor
end

/- A slice that grows: nil, or a row of the call's own. -/
section
namespace Go.Eng.YtkenlcaifhffoaaDoor
open Go Go.Eng Go.Proofs
def accV (b sz : Nat) : List PV → PV
  | [] => .nils
  | _ :: l => .rsl b sz 0 (l.length + 1)
def accM (b sz : Nat) : List PV → Mem
  | [] => []
  | x :: l => [⟨b, .row sz (x :: l) 0⟩]
theorem frz_of_acc {σ : Mem} {b sz : Nat} {l : List PV} (h : l ≠ [] → ∃ r, Look σ b (.row sz l 0) r) : Frz σ (accV b sz l) (.sl sz l) := by
  cases l with
  | nil => exact .nils sz
  | cons x l =>
    obtain ⟨r, h⟩ := h (by simp)
    exact .rsl b sz 0 _ (x :: l) (x :: l) 0 r h (by simp) (by simp) fun j hj => by rw [Nat.zero_add]; exact .refl _
theorem frz_row {σ r : Mem} {b sz fz : Nat} {l : List PV} (h : Look σ b (.row sz l fz) r) (n : Nat) (hn : n = l.length) : Frz σ (.rsl b sz 0 n) (.sl sz l) := by
  subst hn
  exact .rsl b sz 0 _ l l fz r h (by simp) rfl fun j hj => by rw [Nat.zero_add]; exact .refl _
theorem frz_tup2 {σ : Mem} {a b a' b' : PV} (h1 : Frz σ a a') (h2 : Frz σ b b') : Frz σ (.tup [a, b]) (.tup [a', b']) :=
  .tup _ _ rfl fun j hj => by
    match j, hj with
    | 0, _ => exact h1
    | 1, _ => exact h2
end Go.Eng.YtkenlcaifhffoaaDoor
end

/- Slices of slices of the call's own: a family of rows. -/
section
namespace Go.Eng.YtkenlcaifhffoaaDoor
open Go Go.Eng Go.Proofs
variable {α : Type} {sz : Nat} {f : α → PV}
def famM (sz : Nat) (f : α → PV) (l : List (Nat × List α)) : Mem := l.map fun p => ⟨p.1, .row sz (p.2.map f) 0⟩
def rowP (sz : Nat) (p : Nat × List α) : PV := .rsl p.1 sz 0 p.2.length
theorem famM_cons (p : Nat × List α) (l : List (Nat × List α)) : famM sz f (p :: l) = ⟨p.1, .row sz (p.2.map f) 0⟩ :: famM sz f l := rfl
theorem famM_snoc (p : Nat × List α) (l : List (Nat × List α)) : famM sz f (l ++ [p]) = famM sz f l ++ [⟨p.1, .row sz (p.2.map f) 0⟩] := by simp [famM]
theorem Look.fam {l : List (Nat × List α)} {i b : Nat} {r : List α} (h : l[i]? = some (b, r)) (τ : Mem) : Look (famM sz f l ++ τ) b (.row sz (r.map f) 0) (famM sz f (l.eraseIdx i) ++ τ) := by
  induction l generalizing i with
  | nil => simp at h
  | cons q l ih =>
    cases i with
    | zero =>
      simp only [List.getElem?_cons_zero, Option.some.injEq] at h
      subst h
      exact .here _ _ _
    | succ i =>
      simp only [List.getElem?_cons_succ] at h
      exact .there _ _ _ _ _ (ih h)
theorem wk_fam {l : List (Nat × List α)} {i : Nat} {p : Nat × List α} (h : l[i]? = some p) (b : Nat) (r : List α) (τ : Mem) : wkMem (⟨b, .row sz (r.map f) 0⟩ :: (famM sz f (l.eraseIdx i) ++ τ)) (famM sz f (l.set i (b, r)) ++ τ) := by
  refine ⟨[], ?_⟩
  rw [List.append_nil]
  induction l generalizing i with
  | nil => simp at h
  | cons q l ih =>
    cases i with
    | zero => exact .refl _
    | succ i =>
      simp only [List.getElem?_cons_succ] at h
      exact (List.Perm.swap _ _ _).trans ((ih h).cons _)
theorem wk_famN {l : List (Nat × List α)} {i : Nat} {p : Nat × List α} (h : l[i]? = some p) (b : Nat) (r : List α) (τ : Mem) : wkMem (⟨b, .row sz (r.map f) 0⟩ :: (famM sz f l ++ τ)) (famM sz f (l.set i (b, r)) ++ τ) := by
  obtain ⟨q, hq⟩ := wk_fam h b r τ (sz := sz) (f := f)
  have h2 := (Look.fam (sz := sz) (f := f) (b := p.1) (r := p.2) h τ).perm
  refine ⟨⟨p.1, .row sz (p.2.map f) 0⟩ :: q, ?_⟩
  exact ((h2.cons _).trans (List.Perm.swap _ _ _)).trans ((hq.cons _).trans List.perm_middle.symm)
theorem wk_snoc {l : List (Nat × List α)} (b : Nat) (r : List α) (τ : Mem) : wkMem (⟨b, .row sz (r.map f) 0⟩ :: (famM sz f l ++ τ)) (famM sz f (l ++ [(b, r)]) ++ τ) := by
  refine ⟨[], ?_⟩
  rw [List.append_nil, famM_snoc, List.append_assoc]
  exact List.perm_middle.symm
theorem Look.app {σ r : Mem} {b : Nat} {c : Cont} (h : Look σ b c r) : ∀ σ0 : Mem, Look (σ0 ++ σ) b c (σ0 ++ r)
  | [] => h
  | k :: σ0 => .there _ _ _ _ _ (Look.app h σ0)
theorem set_at {β : Type} {l : List β} {i : Nat} {x : β} (h : l[i]? = some x) (y : β) : (l.set i y)[i]? = some y := by
  rw [List.getElem?_set, if_pos rfl, if_pos (lt_of_at h)]
theorem set_self {β : Type} {l : List β} {i : Nat} {x : β} (h : l[i]? = some x) : l.set i x = l := by
  refine List.ext_getElem? fun k => ?_
  rw [List.getElem?_set]
  split
  · rename_i e; subst e
    rw [if_pos (lt_of_at h), h]
  · rfl
theorem Look.of_mem {σ : Mem} {b : Nat} {c : Cont} (h : ⟨b, c⟩ ∈ σ) : ∃ r, Look σ b c r := by
  induction σ with
  | nil => cases h
  | cons k σ ih =>
    rcases List.mem_cons.1 h with h | h
    · subst h; exact ⟨_, .here _ _ _⟩
    · obtain ⟨r, hr⟩ := ih h
      exact ⟨_, .there _ _ _ _ _ hr⟩
theorem Look.of_wk {σ τ : Mem} (hw : wkMem σ τ) {b : Nat} {c : Cont} (h : ⟨b, c⟩ ∈ τ) : ∃ r, Look σ b c r := by
  obtain ⟨q, hq⟩ := hw
  exact Look.of_mem (hq.mem_iff.2 (List.mem_append_left _ h))
theorem wkMem.swap {k k' : Blk} {σ τ : Mem} (h : wkMem (k :: k' :: σ) τ) : wkMem (k' :: k :: σ) τ := by
  obtain ⟨q, hq⟩ := h
  exact ⟨q, (List.Perm.swap _ _ _).trans hq⟩
end Go.Eng.YtkenlcaifhffoaaDoor
end

/- slices.Equal at []int. -/
section
namespace Go.Eng.YtkenlcaifhffoaaDoor
open Go Go.Eng Go.Proofs
variable (W : World)
set_option linter.unusedSimpArgs false
set_option maxRecDepth 100000
set_option linter.unusedVariables false
theorem equal_ints (a b : List Int) (ha : (a.length : Int) ≤ 9223372036854775807) :
    Pure Tryd.prog W 20 [.sl 1 (a.map (PV.int .i64)), .sl 1 (b.map (PV.int .i64))] (.bool (decide (a = b))) := by
  refine Pure.of (acalls_of_vc (drawOk W) Tryd.func20 rfl (by decide) (by decide) rfl ?_)
  refine g0_ ?_
  refine brec ?_; intro c_ hc; (try rw [hc]); cases c_ <;> replace hc := nm_ hc
  · have hlen : a.length = b.length := by simp at hc; omega
    refine g0_ ?_
    refine' loopI (α := Nat) (fun i => [(13, .int .i64 i)]) [(0, _), (1, _), (12, _)] (fun i => []) (fun i => i ≤ a.length ∧ a.take i = b.take i) (fun i => a.length - i) 0 ?_ ?_
    · exact ⟨Nat.zero_le _, by simp⟩
    rintro i ⟨hi, hw⟩
    refine g0_ ?_
    refine brec ?_; intro c_ h1; (try rw [h1]); cases c_ <;> replace h1 := nm_ h1
    · refine g0_ ?_
      have : i = a.length := by simp at h1; omega
      subst this
      rw [List.take_length, hlen, List.take_length] at hw
      rw [hw]
      simp
      exact .refl _
    · have hlt : i < a.length := by simp at h1; omega
      refine g0_ ?_
      refine head_ ?_; (refine g0_ ?_; repeat (refine em_ fun x_ hx_ => ?_; refine g0_ ?_))
      rename_i x hx
      refine brec ?_; intro c_ h2; (try rw [h2]); cases c_ <;> replace h2 := nm_ h2
      · refine g0_ ?_
        refine nx_ (i + 1) ?_ ?_
        · exact ⟨hlt, by rw [take_snoc_of hx, take_snoc_of hx_, hw, h2]⟩
        · omega
      · refine g0_ ?_
        have : a ≠ b := by rintro rfl; simp_all
        simp [this]
        exact .refl _
  · have hne : a ≠ b := by
      rintro rfl
      exact hc rfl
    refine g0_ ?_
    simp [hne]
    exact .refl _
end Go.Eng.YtkenlcaifhffoaaDoor
end


namespace Go.Eng
open Go
theorem lk_ {σ r : Mem} {b : Nat} {c : Cont} (h : Look σ b c r := by repeat (first | exact .here _ _ _ | apply Look.there)) : Look σ b c r := h
theorem wk_ {σ τ : Mem} (h : wkMem σ τ := by (first | exact ⟨_, .refl _⟩ | exact wkMem.rfl' | exact ⟨_, .swap _ _ _⟩ | (repeat (first | exact wkMem.nil _ | exact wkMem.rfl' | exact wk_snoc _ _ _ | exact wk_fam (by assumption) _ _ _ | exact wk_famN (by assumption) _ _ _ | (apply wkMem.cons; (case' hl => (repeat (first | exact .here _ _ _ | apply Look.there)))) | apply wkMem.skip)))) : wkMem σ τ := h
end Go.Eng
