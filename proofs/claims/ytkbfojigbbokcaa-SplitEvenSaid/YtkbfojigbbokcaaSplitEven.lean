/- Proved here: trellislaw.SplitEven returns true at every split and way, and each argument reads afterwards as before. The card's condition: none. -/
import Derived.Test.YtkbfojigbbokcaaMC8
import Derived.Test.YtkbfojigbbokcaaMSE
set_option linter.unusedSimpArgs false
set_option maxRecDepth 100000
set_option linter.unusedVariables false
namespace Go.Proofs.Ytkbfojigbbokcaa
open Go Go.Eng Go.ChangeShapes Go.WideShapes Go.ChangeAt Go.RowKit
open Go.ChangeMaps (open_string)

theorem splitEven_c0 : (fun (P : Program) (f : FuncId) (fn : Func) (s : ChangeSpec) (c : OpenClaim) => (c.wf (OpenSpec.ofChange s) : Bool)) Try.prog 3 Try.f3 (OpenSpec.ofChange Rows.splitEvenSpec).bare Rows.splitEvenRow = true := by kernel_rfl
theorem splitEven_c3 : (fun (P : Program) (f : FuncId) (fn : Func) (s : ChangeSpec) (c : OpenClaim) => (fn.params.all (P.readableRec ·) : Bool)) Try.prog 3 Try.f3 (OpenSpec.ofChange Rows.splitEvenSpec).bare Rows.splitEvenRow = true := by kernel_rfl
theorem splitEven_c4 : (fun (P : Program) (f : FuncId) (fn : Func) (s : ChangeSpec) (c : OpenClaim) => (namedTie P c.named s.vars : Bool)) Try.prog 3 Try.f3 (OpenSpec.ofChange Rows.splitEvenSpec).bare Rows.splitEvenRow = true := by kernel_rfl
theorem splitEven_c5 : (fun (P : Program) (f : FuncId) (fn : Func) (s : ChangeSpec) (c : OpenClaim) => ((c.stops == []) : Bool)) Try.prog 3 Try.f3 (OpenSpec.ofChange Rows.splitEvenSpec).bare Rows.splitEvenRow = true := by kernel_rfl
theorem splitEven_c7 : (fun (P : Program) (f : FuncId) (fn : Func) (s : ChangeSpec) (c : OpenClaim) => ((c.knobs == []) : Bool)) Try.prog 3 Try.f3 (OpenSpec.ofChange Rows.splitEvenSpec).bare Rows.splitEvenRow = true := by kernel_rfl
theorem splitEven_c9 : (fun (P : Program) (f : FuncId) (fn : Func) (s : ChangeSpec) (c : OpenClaim) => ((c.inPlace == P.inPlace f) : Bool)) Try.prog 3 Try.f3 (OpenSpec.ofChange Rows.splitEvenSpec).bare Rows.splitEvenRow = true := by kernel_rfl
theorem splitEven_c10 : (fun (P : Program) (f : FuncId) (fn : Func) (s : ChangeSpec) (c : OpenClaim) => ((c.unfollowed == P.unfollowed f) : Bool)) Try.prog 3 Try.f3 (OpenSpec.ofChange Rows.splitEvenSpec).bare Rows.splitEvenRow = true := by kernel_rfl
theorem splitEven_c11 : (fun (P : Program) (f : FuncId) (fn : Func) (s : ChangeSpec) (c : OpenClaim) => ((c.recurses == P.recurses f) : Bool)) Try.prog 3 Try.f3 (OpenSpec.ofChange Rows.splitEvenSpec).bare Rows.splitEvenRow = true := by kernel_rfl
theorem splitEven_c12 : (fun (P : Program) (f : FuncId) (fn : Func) (s : ChangeSpec) (c : OpenClaim) => ((c.named == P.varsNamed f) : Bool)) Try.prog 3 Try.f3 (OpenSpec.ofChange Rows.splitEvenSpec).bare Rows.splitEvenRow = true := by kernel_rfl
theorem splitEven_c13 : (fun (P : Program) (f : FuncId) (fn : Func) (s : ChangeSpec) (c : OpenClaim) => ((c.maps == (fn.params.toList ++ s.plain.varTypes P).any (P.mapsRec ·)) : Bool)) Try.prog 3 Try.f3 (OpenSpec.ofChange Rows.splitEvenSpec).bare Rows.splitEvenRow = true := by kernel_rfl
theorem splitEven_c14 : (fun (P : Program) (f : FuncId) (fn : Func) (s : ChangeSpec) (c : OpenClaim) => ((c.ifaces == (fn.params.toList ++ s.plain.varTypes P).any (P.ifacesRec ·)) : Bool)) Try.prog 3 Try.f3 (OpenSpec.ofChange Rows.splitEvenSpec).bare Rows.splitEvenRow = true := by kernel_rfl
theorem splitEven_c15 : (fun (P : Program) (f : FuncId) (fn : Func) (s : ChangeSpec) (c : OpenClaim) => ((c.mapsOut == P.mapsAmong fn.resultTypes.toList) : Bool)) Try.prog 3 Try.f3 (OpenSpec.ofChange Rows.splitEvenSpec).bare Rows.splitEvenRow = true := by kernel_rfl
theorem splitEven_c16 : (fun (P : Program) (f : FuncId) (fn : Func) (s : ChangeSpec) (c : OpenClaim) => ((c.loops == (fn.params.toList ++ s.plain.varTypes P).any (P.loopsFrom ·)) : Bool)) Try.prog 3 Try.f3 (OpenSpec.ofChange Rows.splitEvenSpec).bare Rows.splitEvenRow = true := by kernel_rfl
theorem splitEven_c17 : (fun (P : Program) (f : FuncId) (fn : Func) (s : ChangeSpec) (c : OpenClaim) => ((c.wideKeys == (fn.params.toList ++ s.plain.varTypes P ++ fn.resultTypes.toList).any (P.wideKeysFrom ·)) : Bool)) Try.prog 3 Try.f3 (OpenSpec.ofChange Rows.splitEvenSpec).bare Rows.splitEvenRow = true := by kernel_rfl
theorem splitEven_c18 : (fun (P : Program) (f : FuncId) (fn : Func) (s : ChangeSpec) (c : OpenClaim) => (s.vars.all (P.varReadable ·) : Bool)) Try.prog 3 Try.f3 (OpenSpec.ofChange Rows.splitEvenSpec).bare Rows.splitEvenRow = true := by kernel_rfl
theorem splitEven_c19 : (fun (P : Program) (f : FuncId) (fn : Func) (s : ChangeSpec) (c : OpenClaim) => (fn.resultTypes.all (fun t => P.readableRec t && decide (t < P.types.size)) : Bool)) Try.prog 3 Try.f3 (OpenSpec.ofChange Rows.splitEvenSpec).bare Rows.splitEvenRow = true := by kernel_rfl
theorem splitEven_c20 : (fun (P : Program) (f : FuncId) (fn : Func) (s : ChangeSpec) (c : OpenClaim) => ((c.ifacesOut == fn.resultTypes.toList.any (P.ifacesRec ·)) : Bool)) Try.prog 3 Try.f3 (OpenSpec.ofChange Rows.splitEvenSpec).bare Rows.splitEvenRow = true := by kernel_rfl
theorem splitEven_c21 : (fun (P : Program) (f : FuncId) (fn : Func) (s : ChangeSpec) (c : OpenClaim) => ((c.loopsOut == fn.resultTypes.toList.any (P.loopsFrom ·)) : Bool)) Try.prog 3 Try.f3 (OpenSpec.ofChange Rows.splitEvenSpec).bare Rows.splitEvenRow = true := by kernel_rfl
theorem splitEven_c23 : (fun (P : Program) (f : FuncId) (fn : Func) (s : ChangeSpec) (c : OpenClaim) => (c.shortTexts.isNone : Bool)) Try.prog 3 Try.f3 (OpenSpec.ofChange Rows.splitEvenSpec).bare Rows.splitEvenRow = true := by kernel_rfl
theorem splitEven_c28 : (fun (P : Program) (f : FuncId) (fn : Func) (s : ChangeSpec) (c : OpenClaim) => ((c.kinds == (if c.domain.isEmpty then [] else fn.params.toList.map fun t => match P.underlying t with | some (.int k) => some k | _ => none)) : Bool)) Try.prog 3 Try.f3 (OpenSpec.ofChange Rows.splitEvenSpec).bare Rows.splitEvenRow = true := by kernel_rfl
theorem splitEven_c29 : (fun (P : Program) (f : FuncId) (fn : Func) (s : ChangeSpec) (c : OpenClaim) => ((c.pinned == c.pinnedBy) : Bool)) Try.prog 3 Try.f3 (OpenSpec.ofChange Rows.splitEvenSpec).bare Rows.splitEvenRow = true := by kernel_rfl
theorem splitEven_c30 : (fun (P : Program) (f : FuncId) (fn : Func) (s : ChangeSpec) (c : OpenClaim) => ((c.veiled == (fn.params.toList ++ s.plain.varTypes P ++ fn.resultTypes.toList).any (P.veiledRec ·)) : Bool)) Try.prog 3 Try.f3 (OpenSpec.ofChange Rows.splitEvenSpec).bare Rows.splitEvenRow = true := by kernel_rfl
theorem splitEven_c31 : (fun (P : Program) (f : FuncId) (fn : Func) (s : ChangeSpec) (c : OpenClaim) => (c.veiledFits P fn.params.toList (fn.params.toList ++ s.plain.varTypes P ++ fn.resultTypes.toList) : Bool)) Try.prog 3 Try.f3 (OpenSpec.ofChange Rows.splitEvenSpec).bare Rows.splitEvenRow = true := by kernel_rfl
theorem splitEven_closed : joinedFacts Try.prog 3 Try.f3 (OpenSpec.ofChange Rows.splitEvenSpec).bare Rows.splitEvenRow = true := (and_t (and_t (and_t (and_t (and_t (and_t (and_t (and_t (and_t (and_t (and_t (and_t (and_t (and_t (and_t (and_t (and_t (and_t (and_t (and_t (and_t (and_t (and_t (and_t (and_t (and_t (and_t (and_t (and_t (and_t (and_t splitEven_c0 laidOut) mapsRowed) splitEven_c3) splitEven_c4) splitEven_c5) stops_nil) splitEven_c7) stopKnobs_nil) splitEven_c9) splitEven_c10) splitEven_c11) splitEven_c12) splitEven_c13) splitEven_c14) splitEven_c15) splitEven_c16) splitEven_c17) splitEven_c18) splitEven_c19) splitEven_c20) splitEven_c21) (by rw [plainKeys]; rfl)) splitEven_c23) stopsHeard) mayEnter) (by rw [liftsFinal]; rfl)) (by rw [make_cut]; rfl)) splitEven_c28) splitEven_c29) splitEven_c30) splitEven_c31)

theorem splitEven_contract (H : Type) (enc : TypeId × Value → H) (W : World) (base : Nat) (args : Array Value) (ds gs : List (DataW H)) (before : List MemPlace)
    (hval : ∀ (j : Nat) t v, Try.f3.params[j]? = some t → args[j]? = some v → Value.okWide Try.prog W .any base t v)
    (hW : DataW.Whole enc Try.prog Try.f3.params.toList Rows.splitEvenSpec.vars false W args.toList ds gs before) (hsz : (DataW.weightsEach Try.prog (Try.f3.params.toList ++ (OpenSpec.ofChange Rows.splitEvenSpec).bare.plain.varTypes Try.prog) (ds ++ gs)).all (· ≤ reachBytes) = true) (hL : laidMetH Try.prog Rows.splitEvenRow.laid W) :
    Calls Try.prog 3 args W fun e W' => ∃ v, e = .returned v ∧ Rows.splitEvenSpec.post enc Try.prog Try.f3 false true false false W args v W' := by
  have hT : Eng.Ytkbfojigbbokcaa.Free W := free_of hL
  have hW' := hW
  obtain ⟨p, q, hA, hV, rfl, hfz, hnd⟩ := hW
  rw [Try.params3] at hA hval hsz
  obtain ⟨v0, v1, d0, d1, p0, p1, rfl, rfl, rfl, h0, h1⟩ := trodAll_two hA
  obtain ⟨rfl, rfl⟩ := trodVars_none hV
  obtain ⟨n0, t0⟩ := h0
  obtain ⟨a0, b0, l0, f0, k0⟩ := opens_split.opens enc W n0 _ _ t0
  have r0 := vrel_split (show Try.prog.underlying 24 = _ from Try.underlying24) (hval 0 24 v0 rfl rfl) l0
  replace f0 := f0 (reach_of hsz 0 24 _ rfl rfl)
  obtain ⟨a1, rfl, rfl, rfl, w1⟩ := open_int Try.underlying3 (hval 1 3 v1 rfl rfl) h1
  have b1 : -9223372036854775808 ≤ a1 ∧ a1 ≤ 9223372036854775807 := by simpa [Lit.wf, IntKind.min, IntKind.max, IntKind.signed, IntKind.bits] using w1
  refine ((Eng.Ytkbfojigbbokcaa.splitEven_ok W hT a0 f0 a1 b1).law [v0, .int .i64 a1] rfl (fun i hi => ?_)).mono fun e W' ⟨he, hb⟩ => ⟨_, he, ?_⟩
  · match i, hi with
    | 0, _ => exact r0
    | 1, _ => exact .int _ _
  · exact law_post laidOut (by kernel_rfl) (by kernel_rfl) Try.underlying4 (by kernel_rfl) hW' rfl hb

theorem splitEven_reads (os : Os) {H : Type} (enc : TypeId × Value → H) : ∃ places, DataW.whole enc Try.prog ((noWorld os).forCall (fun _ _ => 0) ⟨#[], #[.agg #[.int .i64 0, .int .i64 0, .int .i64 0, .slice none 0 0], .int .i64 0], []⟩).memory Try.f3.params.toList Rows.splitEvenSpec.vars false (#[.agg #[.int .i64 0, .int .i64 0, .int .i64 0, .slice none 0 0], .int .i64 0] : Array Value).toList 8 = some ([.agg [.lit (.int .i64 0), .lit (.int .i64 0), .lit (.int .i64 0), .nil], .lit (.int .i64 0)], [], places) :=
  ⟨[], by kernel_rfl⟩

theorem splitEven_lifted (os : Os) (started : os.Started) (H : Type) (enc : TypeId × Value → H) (F : Stop.Interp) :
    ReturnsInHanded {} Try.checked os 3 .any ((OpenSpec.ofChange Rows.splitEvenSpec).preRow enc Try.prog Try.f3 Rows.splitEvenRow.domain false Rows.splitEvenRow.laid) (((OpenSpec.ofChange Rows.splitEvenSpec).at F).post enc Try.prog Try.f3 false true false false) := by
  obtain ⟨places, hx⟩ := splitEven_reads os enc
  refine returnsInHanded_of_row (C := Try.checked) (s := (OpenSpec.ofChange Rows.splitEvenSpec)) own started (by as_aux_lemma => kernel_rfl) Try.func3
    (witness_row_at (enc := enc) (C := Try.checked) false (noWorld os) #[.agg #[.int .i64 0, .int .i64 0, .int .i64 0, .slice none 0 0], .int .i64 0] rfl (by as_aux_lemma => kernel_rfl) (by as_aux_lemma => kernel_rfl) (by as_aux_lemma => kernel_rfl)
      (OpenSpec.preRow_of_cond 8 hx (by as_aux_lemma => kernel_rfl) (fun k hk => by cases hk) (by as_aux_lemma => kernel_rfl) (no_met os _))) ?_
  intro W base args ds gs before hval hW _ _ hsz hL _ _
  exact splitEven_contract H enc W base args ds gs before hval hW hsz hL

theorem splitEven_said : Rows.SplitEvenSaid :=
  OpenClaim.holds_of_cond 3 Try.f3 rfl rfl rfl rfl rfl rfl rfl ⟨rfl, rfl, rfl, rfl, rfl⟩ rfl rfl rfl rfl rfl (by as_aux_lemma => kernel_rfl) Try.func3 splitEven_closed
    (of_decide_eq_true (by as_aux_lemma => kernel_rfl)) (by unfold Func.isWrapper; rw [if_neg (of_decide_eq_false (by kernel_rfl))]; exact ⟨rfl, rfl⟩)
    (fun os started H enc _ F => by rw [OpenClaim.pre_eq_preRow]; exact splitEven_lifted os started H enc F)

end Go.Proofs.Ytkbfojigbbokcaa
