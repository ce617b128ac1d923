/- The engine, part 16: contracts of calls that hand over what they made, or change what they were lent; readings in maps. -/
import Derived.Test.YtlfdmdhkbillpaaDoorEng15
namespace Go.Eng
open Go

variable {P : Program} {W : World}

/-- What is owned behind a call may be forgotten, and put in another order. -/
theorem ACalls.weak {f : FuncId} {args : List PV} {σ : Mem} {k : PV → Mem → Prop} (h : ACalls P W f args σ fun v σ' => ∃ τ, k v τ ∧ wkMem σ' τ) : ACalls P W f args σ k := by
  refine ⟨h.body, fun K w vs hl hr hm hp => (h.run K w vs hl hr hm hp).mono ?_⟩
  rintro e w' ⟨v, pv, σ', K', h2, ⟨τ, hk, ρ, hρ⟩, h4, h5, h6⟩
  have hs : τ.Sublist (τ ++ ρ) := List.sublist_append_left _ _
  exact ⟨v, pv, τ, K', h2, hk, h4, (h5.perm hρ).drop hs, (h6.perm (.refl _) hρ).trans (Ext.drop hs)⟩
/-- Handed over: a value and what is owned with it, of whatever the call chose. -/
def Gives {α : Type} (V : α → PV) (M : α → Mem) (R : α → Prop) : PV → Mem → Prop := fun v σ' => ∃ x, R x ∧ v = V x ∧ wkMem σ' (M x)
theorem Gives.mk {α : Type} {V : α → PV} {M : α → Mem} {R : α → Prop} (x : α) {v : PV} {σ : Mem} (hR : R x) (hv : v = V x) (hm : wkMem σ (M x)) : Gives V M R v σ := ⟨x, hR, hv, hm⟩
theorem wkMem.rfl' {σ : Mem} : wkMem σ σ := ⟨[], by simp⟩
theorem wkMem.app {σ τ : Mem} (h : wkMem σ τ) (ρ : Mem) : wkMem (σ ++ ρ) (τ ++ ρ) := by
  obtain ⟨q, hq⟩ := h
  refine ⟨q, (hq.append_right ρ).trans ?_⟩
  rw [List.append_assoc, List.append_assoc]
  exact (List.perm_append_comm).append_left τ
theorem wkMem.perm {σ σ' τ : Mem} (h : wkMem σ τ) (hp : σ'.Perm σ) : wkMem σ' τ := by
  obtain ⟨q, hq⟩ := h
  exact ⟨q, hp.trans hq⟩
theorem wkMem.nil (σ : Mem) : wkMem σ [] := ⟨σ, .refl _⟩
theorem wkMem.cons {σ r τ : Mem} {b : Nat} {c : Cont} (hl : Look σ b c r) (h : wkMem r τ) : wkMem σ (⟨b, c⟩ :: τ) := by
  obtain ⟨q, hq⟩ := h
  exact ⟨q, hl.perm.trans (hq.cons _)⟩
/-- A call that is lent nothing. -/
theorem ACalls.give {α : Type} {V : α → PV} {M : α → Mem} {R : α → Prop} {f : FuncId} {args : List PV} {σ : Mem} {k : PV → Mem → Prop} (h : ACalls P W f args [] (Gives V M R)) (hk : ∀ x, R x → k (V x) (M x ++ σ)) : ACalls P W f args σ k := by
  refine ACalls.weak ((h.frame σ).mono ?_)
  rintro v σ' ⟨σ1, ⟨x, hR, rfl, hw⟩, rfl⟩
  exact ⟨_, hk x hR, hw.app σ⟩
/-- A call that is lent some blocks. -/
theorem ACalls.lend {α : Type} {V : α → PV} {M : α → Mem} {R : α → Prop} {f : FuncId} {args : List PV} {σ τ r : Mem} {k : PV → Mem → Prop} (h : ACalls P W f args τ (Gives V M R)) (hp : σ.Perm (τ ++ r)) (hk : ∀ x, R x → k (V x) (M x ++ r)) : ACalls P W f args σ k := by
  refine ACalls.weak (((h.frame r).perm hp).mono ?_)
  rintro v σ' ⟨σ1, ⟨x, hR, rfl, hw⟩, rfl⟩
  exact ⟨_, hk x hR, hw.app r⟩
/-- .. one block. -/
theorem ACalls.lend1 {α : Type} {V : α → PV} {M : α → Mem} {R : α → Prop} {f : FuncId} {args : List PV} {σ r : Mem} {b : Nat} {c : Cont} {k : PV → Mem → Prop} (h : ACalls P W f args [⟨b, c⟩] (Gives V M R)) (hl : Look σ b c r) (hk : ∀ x, R x → k (V x) (M x ++ r)) : ACalls P W f args σ k :=
  h.lend hl.perm hk
/-- .. two blocks. -/
theorem ACalls.lend2 {α : Type} {V : α → PV} {M : α → Mem} {R : α → Prop} {f : FuncId} {args : List PV} {σ r r' : Mem} {b b' : Nat} {c c' : Cont} {k : PV → Mem → Prop} (h : ACalls P W f args [⟨b, c⟩, ⟨b', c'⟩] (Gives V M R)) (hl : Look σ b c r) (hl' : Look r b' c' r') (hk : ∀ x, R x → k (V x) (M x ++ r')) : ACalls P W f args σ k :=
  h.lend (hl.perm.trans (hl'.perm.cons _)) hk

/-- A slice without elements, whatever it is: nil or not. -/
theorem Pure.of_empty {f : FuncId} {r : PV} {sz : Nat} (h : ∀ a cap, Pure P W f [.lit (.slice a 0 cap)] r) : Pure P W f [.sl sz []] r := by
  refine ⟨⟨(h none 0).calls.body, fun K w vs hl hr hm hp => ?_⟩⟩
  obtain ⟨v, rfl⟩ := List.length_eq_one_iff.1 hl.symm
  have h0 := hr 0 (by simp)
  simp only [List.getD_cons_zero] at h0
  obtain ⟨a, cap, rfl⟩ : ∃ a cap, v = .slice a 0 cap := by
    cases h0 with
    | sl0 _ a cap => exact ⟨a, cap, rfl⟩
    | sl _ _ b o cap => exact ⟨_, cap, rfl⟩
  exact (h a cap).calls.run K w _ rfl (fun i hi => by
    obtain rfl : i = 0 := by simpa using hi
    exact .lit _) hm hp
/-- A slice held against nil. -/
theorem eql_nil {t e : TypeId} {xo yo : Operand} {x : PV} {r : Bool} (ht : P.underlying t = some (.slice e)) (hx : (∃ a c, x = .lit (.slice a 0 c) ∧ r = a.isNone) ∨ (∃ sz p l, x = .sl sz (p :: l) ∧ r = false) ∨ (∃ b sz i n, x = .rsl b sz i n ∧ r = false) ∨ (∃ e b n, x = .bsl e b n ∧ r = false) ∨ (x = .nils ∧ r = true)) :
    EqLaw P .eql t xo yo x .nils r := by
  refine ⟨fun K w u v h1 h2 => ?_⟩
  cases h2
  obtain ⟨a, n, c, rfl, rfl⟩ : ∃ a n c, u = .slice a n c ∧ r = a.isNone := by
    rcases hx with ⟨a, c, rfl, rfl⟩ | ⟨sz, p, l, rfl, rfl⟩ | ⟨b, sz, i, n, rfl, rfl⟩ | ⟨e, b, n, rfl, rfl⟩ | ⟨rfl, rfl⟩ <;> cases h1
    · exact ⟨a, 0, c, rfl, rfl⟩
    · exact ⟨_, _, _, rfl, rfl⟩
    · exact ⟨_, _, _, rfl, rfl⟩
    · exact ⟨_, _, _, rfl, rfl⟩
    · exact ⟨_, _, _, rfl, rfl⟩
  have e2 : ∀ d, (Op.equalIn (d + 1) t (.slice a n c) (.slice none 0 0)).run P w = .ok a.isNone w := fun d => by
    cases a <;> simp [Op.equalIn, run_underlying ht]
  have e1 : (Op.equal t (.slice a n c) (.slice none 0 0)).run P w = .ok a.isNone w := e2 9999
  have e0 : (eqGuard .eql t xo yo (.slice a n c) (.slice none 0 0)).run P w = .ok () w := by simp [eqGuard]
  rw [Sem.run_bind, e0, Result.andThen_ok]
  show (do pure (.bool (← Op.equal t _ _)) : Sem Value).run P w = _
  rw [Sem.run_bind, e1]; rfl
/-- The entry of a key. -/
def getI (es : List (PV × PV)) (n : Int) : Option PV :=
  match es with
  | [] => none
  | (.int _ m, v) :: r => if n = m then some v else getI r n
  | _ :: r => getI r n
def intKeys (k : IntKind) : List (PV × PV) → Bool
  | [] => true
  | (.int k' _, _) :: r => kEq k k' && intKeys k r
  | _ :: _ => false
theorem findNow_get {K : Kn} {w : World} {k : IntKind} {n : Int} : ∀ (es : List (PV × PV)) (ents : List MapEntry) (j : Nat), es.length = ents.length → (∀ i, i < es.length → VRel K w (es.getD i (.dead, .dead)).1 (ents.getD i default).key ∧ VRel K w (es.getD i (.dead, .dead)).2 (ents.getD i default).val) → intKeys k es = true →
    (getI es n = none ∧ Instr.findNow (.int k) (.int k n) ents j = some none) ∨ (∃ v i z, getI es n = some v ∧ Instr.findNow (.int k) (.int k n) ents j = some (some (i, z)) ∧ VRel K w v z)
  | [], [], j, _, _, _ => .inl ⟨rfl, rfl⟩
  | [], _ :: _, _, hl, _, _ => by simp at hl
  | _ :: _, [], _, hl, _, _ => by simp at hl
  | (q, v) :: es, en :: ents, j, hl, hr, hn => by
    have h0 := hr 0 (by simp)
    simp only [List.getD_cons_zero] at h0
    have ih := findNow_get (k := k) (n := n) es ents (j + 1) (by simpa using hl) (fun i hi => by have := hr (i + 1) (by simpa using hi); simpa using this)
    cases q <;> simp only [intKeys] at hn <;> (try (cases hn; done))
    rename_i k' m
    simp only [Bool.and_eq_true] at hn
    obtain ⟨h1, h3⟩ := hn
    obtain rfl := kEq_eq h1
    obtain ⟨h0, hv⟩ := h0
    generalize hk : en.key = key at h0
    cases h0
    by_cases h4 : n = m
    · exact .inr ⟨v, j, en.val, by simp [getI, h4], by simp [Instr.findNow, hk, Instr.sameNow, h4], hv⟩
    · have h5 : (n == m) = false := beq_eq_false_iff_ne.2 h4
      rcases ih h3 with ⟨g1, g2⟩ | ⟨v', i, z, g1, g2, g3⟩
      · exact .inl ⟨by simp [getI, h4, g1], by simp [Instr.findNow, hk, Instr.sameNow, h5, g2]⟩
      · exact .inr ⟨v', i, z, by simp [getI, h4, g1], by simp [Instr.findNow, hk, Instr.sameNow, h5, g2], g3⟩
/-- A number sought in a map of the call's own. -/
theorem look_int {t kt et : TypeId} {b : Nat} {k : IntKind} {n : Int} {es : List (PV × PV)} {σ r : Mem} {i0 : TypeInfo} {z : Value} {q : PV} (hl : Look σ b (.mpc es) r) (ht : P.underlying t = some (.map kt et)) (hkt : P.underlying kt = some (.int k)) (hi : P.info? et = some i0) (hz : i0.zero = some z)
    (hk : intKeys k es = true) (hq : (getI es n).getD (ofV z) = q) : LookLaw P t (.mp b) (.int k n) false σ q := by
  refine ⟨fun K w u v hm hx hi' => ?_⟩
  cases hx
  cases hi'
  obtain ⟨g1, ents, clock, g2, g3, g4⟩ : (∀ o, ¬ K b o) ∧ ∃ ents clock, w.heap[b]? = some (.map ents clock) ∧ ents.size = es.length ∧
      ∀ i, i < es.length → VRel K w (es.getD i (.dead, .dead)).1 (ents.getD i default).key ∧ VRel K w (es.getD i (.dead, .dead)).2 (ents.getD i default).val := hm.blk _ hl.mem
  have e1 : (getObj b).run P w = .ok (.map ents clock) w := by simp [getObj, Sem.run, g2]
  have e0 : ∀ e, (Instr.checkKey e 10000 kt (.int k n)).run P w = .ok () w := fun e => checkKey_int 9999 e hkt
  rcases findNow_get (K := K) (w := w) (k := k) (n := n) es ents.toList 0 (by simp [g3]) (fun i hi => by
    have := g4 i hi
    simpa [List.getD_eq_getElem?_getD, Array.getD_eq_getD_getElem?] using this) hk with ⟨h1, h2⟩ | ⟨v', i, z', h1, h2, h3⟩
  · rw [h1] at hq
    simp only [Option.getD_none] at hq
    exact ⟨z, by simp [Instr.lookup, run_underlying ht, e1, e0, run_underlying hkt, Instr.findKey, h2, run_zeroValue hi hz], hq ▸ ofV_rel z⟩
  · rw [h1] at hq
    simp only [Option.getD_some] at hq
    exact ⟨z', by simp [Instr.lookup, run_underlying ht, e1, e0, run_underlying hkt, Instr.findKey, h2], hq ▸ h3⟩
end Go.Eng
