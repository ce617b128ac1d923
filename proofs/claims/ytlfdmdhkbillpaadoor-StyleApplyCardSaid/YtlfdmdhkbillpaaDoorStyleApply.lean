/- Proved here: trellislaw.StyleApply returns true at every style and list of numbers, and each argument reads afterwards as before. The card's condition: the tables of math/bits and strconv hold what the program's text lays. -/
import Derived.Test.YtlfdmdhkbillpaaDoorCloseNum
import Derived.Test.YtlfdmdhkbillpaaDoorStyleMap2
set_option linter.unusedSimpArgs false
set_option maxRecDepth 100000
set_option linter.unusedVariables false
namespace Go.Proofs.YtlfdmdhkbillpaaDoor
open Go Go.Eng Go.ChangeShapes Go.WideShapes Go.ChangeAt Go.RowKit
open Go.ChangeMaps (open_string)

theorem styleApply_c0 : (fun (P : Program) (f : FuncId) (fn : Func) (s : ChangeSpec) (c : OpenClaim) => (c.wf (OpenSpec.ofChange s) : Bool)) Tryd.prog 5 Tryd.f5 (OpenSpec.ofChange Rows.styleApplySpec).bare Rows.styleApplyRow = true := by kernel_rfl
theorem styleApply_c3 : (fun (P : Program) (f : FuncId) (fn : Func) (s : ChangeSpec) (c : OpenClaim) => (fn.params.all (P.readableRec ·) : Bool)) Tryd.prog 5 Tryd.f5 (OpenSpec.ofChange Rows.styleApplySpec).bare Rows.styleApplyRow = true := by kernel_rfl
theorem styleApply_c4 : (fun (P : Program) (f : FuncId) (fn : Func) (s : ChangeSpec) (c : OpenClaim) => (namedTie P c.named s.vars : Bool)) Tryd.prog 5 Tryd.f5 (OpenSpec.ofChange Rows.styleApplySpec).bare Rows.styleApplyRow = true := by kernel_rfl
theorem styleApply_c5 : (fun (P : Program) (f : FuncId) (fn : Func) (s : ChangeSpec) (c : OpenClaim) => ((c.stops == []) : Bool)) Tryd.prog 5 Tryd.f5 (OpenSpec.ofChange Rows.styleApplySpec).bare Rows.styleApplyRow = true := by kernel_rfl
theorem styleApply_c7 : (fun (P : Program) (f : FuncId) (fn : Func) (s : ChangeSpec) (c : OpenClaim) => ((c.knobs == []) : Bool)) Tryd.prog 5 Tryd.f5 (OpenSpec.ofChange Rows.styleApplySpec).bare Rows.styleApplyRow = true := by kernel_rfl
theorem styleApply_c9 : (fun (P : Program) (f : FuncId) (fn : Func) (s : ChangeSpec) (c : OpenClaim) => ((c.inPlace == P.inPlace f) : Bool)) Tryd.prog 5 Tryd.f5 (OpenSpec.ofChange Rows.styleApplySpec).bare Rows.styleApplyRow = true := by kernel_rfl
theorem styleApply_c10 : (fun (P : Program) (f : FuncId) (fn : Func) (s : ChangeSpec) (c : OpenClaim) => ((c.unfollowed == P.unfollowed f) : Bool)) Tryd.prog 5 Tryd.f5 (OpenSpec.ofChange Rows.styleApplySpec).bare Rows.styleApplyRow = true := by kernel_rfl
theorem styleApply_c11 : (fun (P : Program) (f : FuncId) (fn : Func) (s : ChangeSpec) (c : OpenClaim) => ((c.recurses == P.recurses f) : Bool)) Tryd.prog 5 Tryd.f5 (OpenSpec.ofChange Rows.styleApplySpec).bare Rows.styleApplyRow = true := by kernel_rfl
theorem styleApply_c12 : (fun (P : Program) (f : FuncId) (fn : Func) (s : ChangeSpec) (c : OpenClaim) => ((c.named == P.varsNamed f) : Bool)) Tryd.prog 5 Tryd.f5 (OpenSpec.ofChange Rows.styleApplySpec).bare Rows.styleApplyRow = true := by kernel_rfl
theorem styleApply_c13 : (fun (P : Program) (f : FuncId) (fn : Func) (s : ChangeSpec) (c : OpenClaim) => ((c.maps == (fn.params.toList ++ s.plain.varTypes P).any (P.mapsRec ·)) : Bool)) Tryd.prog 5 Tryd.f5 (OpenSpec.ofChange Rows.styleApplySpec).bare Rows.styleApplyRow = true := by kernel_rfl
theorem styleApply_c14 : (fun (P : Program) (f : FuncId) (fn : Func) (s : ChangeSpec) (c : OpenClaim) => ((c.ifaces == (fn.params.toList ++ s.plain.varTypes P).any (P.ifacesRec ·)) : Bool)) Tryd.prog 5 Tryd.f5 (OpenSpec.ofChange Rows.styleApplySpec).bare Rows.styleApplyRow = true := by kernel_rfl
theorem styleApply_c15 : (fun (P : Program) (f : FuncId) (fn : Func) (s : ChangeSpec) (c : OpenClaim) => ((c.mapsOut == P.mapsAmong fn.resultTypes.toList) : Bool)) Tryd.prog 5 Tryd.f5 (OpenSpec.ofChange Rows.styleApplySpec).bare Rows.styleApplyRow = true := by kernel_rfl
theorem styleApply_c16 : (fun (P : Program) (f : FuncId) (fn : Func) (s : ChangeSpec) (c : OpenClaim) => ((c.loops == (fn.params.toList ++ s.plain.varTypes P).any (P.loopsFrom ·)) : Bool)) Tryd.prog 5 Tryd.f5 (OpenSpec.ofChange Rows.styleApplySpec).bare Rows.styleApplyRow = true := by kernel_rfl
theorem styleApply_c17 : (fun (P : Program) (f : FuncId) (fn : Func) (s : ChangeSpec) (c : OpenClaim) => ((c.wideKeys == (fn.params.toList ++ s.plain.varTypes P ++ fn.resultTypes.toList).any (P.wideKeysFrom ·)) : Bool)) Tryd.prog 5 Tryd.f5 (OpenSpec.ofChange Rows.styleApplySpec).bare Rows.styleApplyRow = true := by kernel_rfl
theorem styleApply_c18 : (fun (P : Program) (f : FuncId) (fn : Func) (s : ChangeSpec) (c : OpenClaim) => (s.vars.all (P.varReadable ·) : Bool)) Tryd.prog 5 Tryd.f5 (OpenSpec.ofChange Rows.styleApplySpec).bare Rows.styleApplyRow = true := by kernel_rfl
theorem styleApply_c19 : (fun (P : Program) (f : FuncId) (fn : Func) (s : ChangeSpec) (c : OpenClaim) => (fn.resultTypes.all (fun t => P.readableRec t && decide (t < P.types.size)) : Bool)) Tryd.prog 5 Tryd.f5 (OpenSpec.ofChange Rows.styleApplySpec).bare Rows.styleApplyRow = true := by kernel_rfl
theorem styleApply_c20 : (fun (P : Program) (f : FuncId) (fn : Func) (s : ChangeSpec) (c : OpenClaim) => ((c.ifacesOut == fn.resultTypes.toList.any (P.ifacesRec ·)) : Bool)) Tryd.prog 5 Tryd.f5 (OpenSpec.ofChange Rows.styleApplySpec).bare Rows.styleApplyRow = true := by kernel_rfl
theorem styleApply_c21 : (fun (P : Program) (f : FuncId) (fn : Func) (s : ChangeSpec) (c : OpenClaim) => ((c.loopsOut == fn.resultTypes.toList.any (P.loopsFrom ·)) : Bool)) Tryd.prog 5 Tryd.f5 (OpenSpec.ofChange Rows.styleApplySpec).bare Rows.styleApplyRow = true := by kernel_rfl
theorem styleApply_c23 : (fun (P : Program) (f : FuncId) (fn : Func) (s : ChangeSpec) (c : OpenClaim) => (c.shortTexts.isNone : Bool)) Tryd.prog 5 Tryd.f5 (OpenSpec.ofChange Rows.styleApplySpec).bare Rows.styleApplyRow = true := by kernel_rfl
theorem styleApply_c28 : (fun (P : Program) (f : FuncId) (fn : Func) (s : ChangeSpec) (c : OpenClaim) => ((c.kinds == (if c.domain.isEmpty then [] else fn.params.toList.map fun t => match P.underlying t with | some (.int k) => some k | _ => none)) : Bool)) Tryd.prog 5 Tryd.f5 (OpenSpec.ofChange Rows.styleApplySpec).bare Rows.styleApplyRow = true := by kernel_rfl
theorem styleApply_c29 : (fun (P : Program) (f : FuncId) (fn : Func) (s : ChangeSpec) (c : OpenClaim) => ((c.pinned == c.pinnedBy) : Bool)) Tryd.prog 5 Tryd.f5 (OpenSpec.ofChange Rows.styleApplySpec).bare Rows.styleApplyRow = true := by kernel_rfl
theorem styleApply_c30 : (fun (P : Program) (f : FuncId) (fn : Func) (s : ChangeSpec) (c : OpenClaim) => ((c.veiled == (fn.params.toList ++ s.plain.varTypes P ++ fn.resultTypes.toList).any (P.veiledRec ·)) : Bool)) Tryd.prog 5 Tryd.f5 (OpenSpec.ofChange Rows.styleApplySpec).bare Rows.styleApplyRow = true := by kernel_rfl
theorem styleApply_c31 : (fun (P : Program) (f : FuncId) (fn : Func) (s : ChangeSpec) (c : OpenClaim) => (c.veiledFits P fn.params.toList (fn.params.toList ++ s.plain.varTypes P ++ fn.resultTypes.toList) : Bool)) Tryd.prog 5 Tryd.f5 (OpenSpec.ofChange Rows.styleApplySpec).bare Rows.styleApplyRow = true := by kernel_rfl
theorem styleApply_closed : joinedFacts Tryd.prog 5 Tryd.f5 (OpenSpec.ofChange Rows.styleApplySpec).bare Rows.styleApplyRow = true := (and_t (and_t (and_t (and_t (and_t (and_t (and_t (and_t (and_t (and_t (and_t (and_t (and_t (and_t (and_t (and_t (and_t (and_t (and_t (and_t (and_t (and_t (and_t (and_t (and_t (and_t (and_t (and_t (and_t (and_t (and_t styleApply_c0 laidOut) mapsRowed) styleApply_c3) styleApply_c4) styleApply_c5) stops_nil) styleApply_c7) stopKnobs_nil) styleApply_c9) styleApply_c10) styleApply_c11) styleApply_c12) styleApply_c13) styleApply_c14) styleApply_c15) styleApply_c16) styleApply_c17) styleApply_c18) styleApply_c19) styleApply_c20) styleApply_c21) (by rw [plainKeys]; rfl)) styleApply_c23) stopsHeard) mayEnter) (by rw [liftsFinal]; rfl)) (by rw [make_cut]; rfl)) styleApply_c28) styleApply_c29) styleApply_c30) styleApply_c31)

theorem styleApply_contract (H : Type) (enc : TypeId × Value → H) (W : World) (base : Nat) (args : Array Value) (ds gs : List (DataW H)) (before : List MemPlace)
    (hval : ∀ (j : Nat) t v, Tryd.f5.params[j]? = some t → args[j]? = some v → Value.okWide Tryd.prog W .any base t v)
    (hW : DataW.Whole enc Tryd.prog Tryd.f5.params.toList Rows.styleApplySpec.vars false W args.toList ds gs before) (hsz : (DataW.weightsEach Tryd.prog (Tryd.f5.params.toList ++ (OpenSpec.ofChange Rows.styleApplySpec).bare.plain.varTypes Tryd.prog) (ds ++ gs)).all (· ≤ reachBytes) = true) (hL : laidMetH Tryd.prog Rows.styleApplyRow.laid W) :
    Calls Tryd.prog 5 args W fun e W' => ∃ v, e = .returned v ∧ Rows.styleApplySpec.post enc Tryd.prog Tryd.f5 false true false false W args v W' := by
  have hT : Eng.YtlfdmdhkbillpaaDoor.Nums W := nums_of hL
  have hW' := hW
  obtain ⟨p, q, hA, hV, rfl, hfz, hnd⟩ := hW
  rw [Tryd.params5] at hA hval hsz
  obtain ⟨v0, v1, d0, d1, p0, p1, rfl, rfl, rfl, h0, h1⟩ := trodAll_two hA
  obtain ⟨rfl, rfl⟩ := trodVars_none hV
  obtain ⟨n0, t0⟩ := h0
  obtain ⟨a0, b0, l0, f0, k0⟩ := opens_style.opens enc W n0 _ _ t0
  have r0 := vrel_struct (show Tryd.prog.underlying 34 = _ from Tryd.underlying34) (hval 0 34 v0 rfl rfl) l0
  replace f0 := f0 (reach_of hsz 0 34 _ rfl rfl)
  obtain ⟨n1, t1⟩ := h1
  obtain ⟨a1, b1, l1, f1, k1⟩ := opens_ints.opens enc W n1 _ _ t1
  have r1 := vrel_slice (show Tryd.prog.underlying 25 = _ from Tryd.underlying25) (hval 1 25 v1 rfl rfl) l1
  replace f1 := f1 (reach_of hsz 1 25 _ rfl rfl)
  refine ((Eng.YtlfdmdhkbillpaaDoor.styleApply_ok W hT a0 b0 a1 b1 (fit_ints f1)).law [v0, v1] rfl (fun i hi => ?_)).mono fun e W' ⟨he, hb⟩ => ⟨_, he, ?_⟩
  · match i, hi with
    | 0, _ => exact r0
    | 1, _ => exact r1
  · exact law_post laidOut (by kernel_rfl) (by kernel_rfl) Tryd.underlying4 (by kernel_rfl) hW' rfl hb

theorem styleApply_reads (os : Os) {H : Type} (enc : TypeId × Value → H) : ∃ places, DataW.whole enc Tryd.prog ((numWorld os).forCall (fun _ _ => 0) ⟨#[], #[.agg #[.int .i64 0, .int .i64 0, .int .i64 0], .slice none 0 0], []⟩).memory Tryd.f5.params.toList Rows.styleApplySpec.vars false (#[.agg #[.int .i64 0, .int .i64 0, .int .i64 0], .slice none 0 0] : Array Value).toList 8 = some ([.agg [.lit (.int .i64 0), .lit (.int .i64 0), .lit (.int .i64 0)], .nil], [], places) :=
  ⟨[], by kernel_rfl⟩

theorem styleApply_lifted (os : Os) (started : os.Started) (H : Type) (enc : TypeId × Value → H) (F : Stop.Interp) :
    ReturnsInHanded {} Tryd.checked os 5 .any ((OpenSpec.ofChange Rows.styleApplySpec).preRow enc Tryd.prog Tryd.f5 Rows.styleApplyRow.domain false Rows.styleApplyRow.laid) (((OpenSpec.ofChange Rows.styleApplySpec).at F).post enc Tryd.prog Tryd.f5 false true false false) := by
  obtain ⟨places, hx⟩ := styleApply_reads os enc
  refine returnsInHanded_of_row (C := Tryd.checked) (s := (OpenSpec.ofChange Rows.styleApplySpec)) own started (by as_aux_lemma => kernel_rfl) Tryd.func5
    (witness_row_at (enc := enc) (C := Tryd.checked) false (numWorld os) #[.agg #[.int .i64 0, .int .i64 0, .int .i64 0], .slice none 0 0] rfl (by as_aux_lemma => kernel_rfl) (by as_aux_lemma => kernel_rfl) (by as_aux_lemma => kernel_rfl)
      (OpenSpec.preRow_of_cond 8 hx (by as_aux_lemma => kernel_rfl) (fun k hk => by cases hk) (by as_aux_lemma => kernel_rfl) (num_met os _))) ?_
  intro W base args ds gs before hval hW _ _ hsz hL _ _
  exact styleApply_contract H enc W base args ds gs before hval hW hsz hL

theorem styleApply_said : Rows.StyleApplySaid :=
  OpenClaim.holds_of_cond 5 Tryd.f5 rfl rfl rfl rfl rfl rfl rfl ⟨rfl, rfl, rfl, rfl, rfl⟩ rfl rfl rfl rfl rfl (by as_aux_lemma => kernel_rfl) Tryd.func5 styleApply_closed
    (of_decide_eq_true (by as_aux_lemma => kernel_rfl)) (by unfold Func.isWrapper; rw [if_neg (of_decide_eq_false (by kernel_rfl))]; exact ⟨rfl, rfl⟩)
    (fun os started H enc _ F => by rw [OpenClaim.pre_eq_preRow]; exact styleApply_lifted os started H enc F)

theorem styleApply_plain (f : FuncId) (fn : Func) (hf : Tryd.pinned.checked.prog.funcNamed Rows.styleApplyRow.func = some f) (hfn : Tryd.pinned.checked.prog.funcs[f]? = some fn) :
    false = Tryd.pinned.checked.prog.looks [] ∧ ∀ (j : Nat) t, fn.params[j]? = some t → Tryd.pinned.checked.prog.wantsStandIn t = false := by
  obtain rfl : f = 5 := Option.some.inj ((show Tryd.prog.funcNamed Rows.styleApplyRow.func = some 5 by kernel_rfl).symm.trans hf) |>.symm
  obtain rfl : fn = Tryd.f5 := (Option.some.inj (Tryd.func5.symm.trans hfn)).symm
  refine ⟨looks.symm, fun j t ht => ?_⟩
  have hall : (Tryd.f5.params.toList.all fun t => !Tryd.prog.wantsStandIn t) = true := by kernel_rfl
  have := List.all_eq_true.1 hall t (Array.mem_toList_iff.2 (Array.mem_of_getElem? ht))
  show Tryd.prog.wantsStandIn t = false
  simpa using this

theorem styleApply_card : Rows.StyleApplyCardSaid :=
  Claim7.holds_tied_plain_at .later [] _ _ _ _ styleApply_said (fun _ h => by cases h) (by as_aux_lemma => kernel_rfl) (fun _ h => by cases h) styleApply_row_tie rfl ⟨rfl, rfl⟩ main_is rfl styleApply_plain (by as_aux_lemma => kernel_rfl)
end Go.Proofs.YtlfdmdhkbillpaaDoor
