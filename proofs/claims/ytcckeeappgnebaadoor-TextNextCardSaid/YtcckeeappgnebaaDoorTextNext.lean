/- Proved here: trellislaw.TextNext returns true at every string, and each argument reads afterwards as before. The card's condition: the tables of package unicode/utf8 hold what the program's text lays. -/
import Derived.Test.YtcckeeappgnebaaDoorCloseU8
import Derived.Test.YtcckeeappgnebaaDoorText4
set_option maxRecDepth 100000
set_option linter.unusedVariables false
namespace Go.Proofs.YtcckeeappgnebaaDoor
open Go Go.Eng Go.ChangeShapes Go.WideShapes Go.ChangeAt Go.RowKit
open Go.ChangeMaps (open_string)

theorem textNext_c0 : (fun (P : Program) (f : FuncId) (fn : Func) (s : ChangeSpec) (c : OpenClaim) => (c.wf (OpenSpec.ofChange s) : Bool)) Tryd.prog 3 Tryd.f3 (OpenSpec.ofChange Rows.textNextSpec).bare Rows.textNextRow = true := by kernel_rfl
theorem textNext_c3 : (fun (P : Program) (f : FuncId) (fn : Func) (s : ChangeSpec) (c : OpenClaim) => (fn.params.all (P.readableRec ·) : Bool)) Tryd.prog 3 Tryd.f3 (OpenSpec.ofChange Rows.textNextSpec).bare Rows.textNextRow = true := by kernel_rfl
theorem textNext_c4 : (fun (P : Program) (f : FuncId) (fn : Func) (s : ChangeSpec) (c : OpenClaim) => (namedTie P c.named s.vars : Bool)) Tryd.prog 3 Tryd.f3 (OpenSpec.ofChange Rows.textNextSpec).bare Rows.textNextRow = true := by kernel_rfl
theorem textNext_c5 : (fun (P : Program) (f : FuncId) (fn : Func) (s : ChangeSpec) (c : OpenClaim) => ((c.stops == []) : Bool)) Tryd.prog 3 Tryd.f3 (OpenSpec.ofChange Rows.textNextSpec).bare Rows.textNextRow = true := by kernel_rfl
theorem textNext_c7 : (fun (P : Program) (f : FuncId) (fn : Func) (s : ChangeSpec) (c : OpenClaim) => ((c.knobs == []) : Bool)) Tryd.prog 3 Tryd.f3 (OpenSpec.ofChange Rows.textNextSpec).bare Rows.textNextRow = true := by kernel_rfl
theorem textNext_c9 : (fun (P : Program) (f : FuncId) (fn : Func) (s : ChangeSpec) (c : OpenClaim) => ((c.inPlace == P.inPlace f) : Bool)) Tryd.prog 3 Tryd.f3 (OpenSpec.ofChange Rows.textNextSpec).bare Rows.textNextRow = true := by kernel_rfl
theorem textNext_c10 : (fun (P : Program) (f : FuncId) (fn : Func) (s : ChangeSpec) (c : OpenClaim) => ((c.unfollowed == P.unfollowed f) : Bool)) Tryd.prog 3 Tryd.f3 (OpenSpec.ofChange Rows.textNextSpec).bare Rows.textNextRow = true := by kernel_rfl
theorem textNext_c11 : (fun (P : Program) (f : FuncId) (fn : Func) (s : ChangeSpec) (c : OpenClaim) => ((c.recurses == P.recurses f) : Bool)) Tryd.prog 3 Tryd.f3 (OpenSpec.ofChange Rows.textNextSpec).bare Rows.textNextRow = true := by kernel_rfl
theorem textNext_c12 : (fun (P : Program) (f : FuncId) (fn : Func) (s : ChangeSpec) (c : OpenClaim) => ((c.named == P.varsNamed f) : Bool)) Tryd.prog 3 Tryd.f3 (OpenSpec.ofChange Rows.textNextSpec).bare Rows.textNextRow = true := by kernel_rfl
theorem textNext_c13 : (fun (P : Program) (f : FuncId) (fn : Func) (s : ChangeSpec) (c : OpenClaim) => ((c.maps == (fn.params.toList ++ s.plain.varTypes P).any (P.mapsRec ·)) : Bool)) Tryd.prog 3 Tryd.f3 (OpenSpec.ofChange Rows.textNextSpec).bare Rows.textNextRow = true := by kernel_rfl
theorem textNext_c14 : (fun (P : Program) (f : FuncId) (fn : Func) (s : ChangeSpec) (c : OpenClaim) => ((c.ifaces == (fn.params.toList ++ s.plain.varTypes P).any (P.ifacesRec ·)) : Bool)) Tryd.prog 3 Tryd.f3 (OpenSpec.ofChange Rows.textNextSpec).bare Rows.textNextRow = true := by kernel_rfl
theorem textNext_c15 : (fun (P : Program) (f : FuncId) (fn : Func) (s : ChangeSpec) (c : OpenClaim) => ((c.mapsOut == P.mapsAmong fn.resultTypes.toList) : Bool)) Tryd.prog 3 Tryd.f3 (OpenSpec.ofChange Rows.textNextSpec).bare Rows.textNextRow = true := by kernel_rfl
theorem textNext_c16 : (fun (P : Program) (f : FuncId) (fn : Func) (s : ChangeSpec) (c : OpenClaim) => ((c.loops == (fn.params.toList ++ s.plain.varTypes P).any (P.loopsFrom ·)) : Bool)) Tryd.prog 3 Tryd.f3 (OpenSpec.ofChange Rows.textNextSpec).bare Rows.textNextRow = true := by kernel_rfl
theorem textNext_c17 : (fun (P : Program) (f : FuncId) (fn : Func) (s : ChangeSpec) (c : OpenClaim) => ((c.wideKeys == (fn.params.toList ++ s.plain.varTypes P ++ fn.resultTypes.toList).any (P.wideKeysFrom ·)) : Bool)) Tryd.prog 3 Tryd.f3 (OpenSpec.ofChange Rows.textNextSpec).bare Rows.textNextRow = true := by kernel_rfl
theorem textNext_c18 : (fun (P : Program) (f : FuncId) (fn : Func) (s : ChangeSpec) (c : OpenClaim) => (s.vars.all (P.varReadable ·) : Bool)) Tryd.prog 3 Tryd.f3 (OpenSpec.ofChange Rows.textNextSpec).bare Rows.textNextRow = true := by kernel_rfl
theorem textNext_c19 : (fun (P : Program) (f : FuncId) (fn : Func) (s : ChangeSpec) (c : OpenClaim) => (fn.resultTypes.all (fun t => P.readableRec t && decide (t < P.types.size)) : Bool)) Tryd.prog 3 Tryd.f3 (OpenSpec.ofChange Rows.textNextSpec).bare Rows.textNextRow = true := by kernel_rfl
theorem textNext_c20 : (fun (P : Program) (f : FuncId) (fn : Func) (s : ChangeSpec) (c : OpenClaim) => ((c.ifacesOut == fn.resultTypes.toList.any (P.ifacesRec ·)) : Bool)) Tryd.prog 3 Tryd.f3 (OpenSpec.ofChange Rows.textNextSpec).bare Rows.textNextRow = true := by kernel_rfl
theorem textNext_c21 : (fun (P : Program) (f : FuncId) (fn : Func) (s : ChangeSpec) (c : OpenClaim) => ((c.loopsOut == fn.resultTypes.toList.any (P.loopsFrom ·)) : Bool)) Tryd.prog 3 Tryd.f3 (OpenSpec.ofChange Rows.textNextSpec).bare Rows.textNextRow = true := by kernel_rfl
theorem textNext_c23 : (fun (P : Program) (f : FuncId) (fn : Func) (s : ChangeSpec) (c : OpenClaim) => (c.shortTexts.isNone : Bool)) Tryd.prog 3 Tryd.f3 (OpenSpec.ofChange Rows.textNextSpec).bare Rows.textNextRow = true := by kernel_rfl
theorem textNext_c28 : (fun (P : Program) (f : FuncId) (fn : Func) (s : ChangeSpec) (c : OpenClaim) => ((c.kinds == (if c.domain.isEmpty then [] else fn.params.toList.map fun t => match P.underlying t with | some (.int k) => some k | _ => none)) : Bool)) Tryd.prog 3 Tryd.f3 (OpenSpec.ofChange Rows.textNextSpec).bare Rows.textNextRow = true := by kernel_rfl
theorem textNext_c29 : (fun (P : Program) (f : FuncId) (fn : Func) (s : ChangeSpec) (c : OpenClaim) => ((c.pinned == c.pinnedBy) : Bool)) Tryd.prog 3 Tryd.f3 (OpenSpec.ofChange Rows.textNextSpec).bare Rows.textNextRow = true := by kernel_rfl
theorem textNext_c30 : (fun (P : Program) (f : FuncId) (fn : Func) (s : ChangeSpec) (c : OpenClaim) => ((c.veiled == (fn.params.toList ++ s.plain.varTypes P ++ fn.resultTypes.toList).any (P.veiledRec ·)) : Bool)) Tryd.prog 3 Tryd.f3 (OpenSpec.ofChange Rows.textNextSpec).bare Rows.textNextRow = true := by kernel_rfl
theorem textNext_c31 : (fun (P : Program) (f : FuncId) (fn : Func) (s : ChangeSpec) (c : OpenClaim) => (c.veiledFits P fn.params.toList (fn.params.toList ++ s.plain.varTypes P ++ fn.resultTypes.toList) : Bool)) Tryd.prog 3 Tryd.f3 (OpenSpec.ofChange Rows.textNextSpec).bare Rows.textNextRow = true := by kernel_rfl
theorem textNext_closed : joinedFacts Tryd.prog 3 Tryd.f3 (OpenSpec.ofChange Rows.textNextSpec).bare Rows.textNextRow = true := (and_t (and_t (and_t (and_t (and_t (and_t (and_t (and_t (and_t (and_t (and_t (and_t (and_t (and_t (and_t (and_t (and_t (and_t (and_t (and_t (and_t (and_t (and_t (and_t (and_t (and_t (and_t (and_t (and_t (and_t (and_t textNext_c0 laidOut) mapsRowed) textNext_c3) textNext_c4) textNext_c5) stops_nil) textNext_c7) stopKnobs_nil) textNext_c9) textNext_c10) textNext_c11) textNext_c12) textNext_c13) textNext_c14) textNext_c15) textNext_c16) textNext_c17) textNext_c18) textNext_c19) textNext_c20) textNext_c21) (by rw [plainKeys]; rfl)) textNext_c23) stopsHeard) mayEnter) (by rw [liftsFinal]; rfl)) (by rw [make_cut]; rfl)) textNext_c28) textNext_c29) textNext_c30) textNext_c31)

theorem textNext_contract (H : Type) (enc : TypeId × Value → H) (W : World) (base : Nat) (args : Array Value) (ds gs : List (DataW H)) (before : List MemPlace)
    (hval : ∀ (j : Nat) t v, Tryd.f3.params[j]? = some t → args[j]? = some v → Value.okWide Tryd.prog W .any base t v)
    (hW : DataW.Whole enc Tryd.prog Tryd.f3.params.toList Rows.textNextSpec.vars false W args.toList ds gs before) (hL : laidMetH Tryd.prog Rows.textNextRow.laid W) :
    Calls Tryd.prog 3 args W fun e W' => ∃ v, e = .returned v ∧ Rows.textNextSpec.post enc Tryd.prog Tryd.f3 false true false false W args v W' := by
  have hT : Eng.YtcckeeappgnebaaDoor.Tabs W := tabs_of hL
  have hW' := hW
  obtain ⟨p, q, hA, hV, rfl, hfz, hnd⟩ := hW
  rw [Tryd.params3] at hA hval
  obtain ⟨v0, d0, rfl, rfl, h0⟩ := trodAll_one hA
  obtain ⟨rfl, rfl⟩ := trodVars_none hV
  obtain ⟨a0, rfl, rfl, rfl, w0⟩ := open_string Tryd.underlying9 (hval 0 9 v0 rfl rfl) h0
  have b0 : a0.data.toList.length ≤ 9223372036854775807 := by have := w0; unfold maxLen at this; rw [Array.length_toList]; exact this
  refine ((Eng.YtcckeeappgnebaaDoor.textNext_ok W hT a0.data.toList b0).law [.string a0] rfl (fun i hi => ?_)).mono fun e W' ⟨he, hb⟩ => ⟨_, he, ?_⟩
  · match i, hi with
    | 0, _ => exact .str _
  · exact law_post laidOut (by kernel_rfl) (by kernel_rfl) Tryd.underlying4 (by kernel_rfl) hW' rfl hb

theorem textNext_reads (os : Os) {H : Type} (enc : TypeId × Value → H) : ∃ places, DataW.whole enc Tryd.prog ((u8World os).forCall (fun _ _ => 0) ⟨#[], #[.string ⟨#[]⟩], []⟩).memory Tryd.f3.params.toList Rows.textNextSpec.vars false (#[.string ⟨#[]⟩] : Array Value).toList 8 = some ([.lit (.string [])], [], places) :=
  ⟨[], by kernel_rfl⟩

theorem textNext_lifted (os : Os) (started : os.Started) (H : Type) (enc : TypeId × Value → H) (F : Stop.Interp) :
    ReturnsInHanded {} Tryd.checked os 3 .any ((OpenSpec.ofChange Rows.textNextSpec).preRow enc Tryd.prog Tryd.f3 Rows.textNextRow.domain false Rows.textNextRow.laid) (((OpenSpec.ofChange Rows.textNextSpec).at F).post enc Tryd.prog Tryd.f3 false true false false) := by
  obtain ⟨places, hx⟩ := textNext_reads os enc
  refine returnsInHanded_of_row (C := Tryd.checked) (s := (OpenSpec.ofChange Rows.textNextSpec)) own started (by as_aux_lemma => kernel_rfl) Tryd.func3
    (witness_row_at (enc := enc) (C := Tryd.checked) false (u8World os) #[.string ⟨#[]⟩] rfl (by as_aux_lemma => kernel_rfl) (by as_aux_lemma => kernel_rfl) (by as_aux_lemma => kernel_rfl)
      (OpenSpec.preRow_of_cond 8 hx (by as_aux_lemma => kernel_rfl) (fun k hk => by cases hk) (by as_aux_lemma => kernel_rfl) (u8_met os _))) ?_
  intro W base args ds gs before hval hW _ _ _ hL _ _
  exact textNext_contract H enc W base args ds gs before hval hW hL

theorem textNext_said : Rows.TextNextSaid :=
  OpenClaim.holds_of_cond 3 Tryd.f3 rfl rfl rfl rfl rfl rfl rfl ⟨rfl, rfl, rfl, rfl, rfl⟩ rfl rfl rfl rfl rfl (by as_aux_lemma => kernel_rfl) Tryd.func3 textNext_closed
    (of_decide_eq_true (by as_aux_lemma => kernel_rfl)) (by unfold Func.isWrapper; rw [if_neg (of_decide_eq_false (by kernel_rfl))]; exact ⟨rfl, rfl⟩)
    (fun os started H enc _ F => by rw [OpenClaim.pre_eq_preRow]; exact textNext_lifted os started H enc F)

theorem textNext_plain (f : FuncId) (fn : Func) (hf : Tryd.pinned.checked.prog.funcNamed Rows.textNextRow.func = some f) (hfn : Tryd.pinned.checked.prog.funcs[f]? = some fn) :
    true = Tryd.pinned.checked.prog.looks [] ∧ ∀ (j : Nat) t, fn.params[j]? = some t → Tryd.pinned.checked.prog.wantsStandIn t = false := by
  obtain rfl : f = 3 := Option.some.inj ((show Tryd.prog.funcNamed Rows.textNextRow.func = some 3 by kernel_rfl).symm.trans hf) |>.symm
  obtain rfl : fn = Tryd.f3 := (Option.some.inj (Tryd.func3.symm.trans hfn)).symm
  refine ⟨looks.symm, fun j t ht => ?_⟩
  have hall : (Tryd.f3.params.toList.all fun t => !Tryd.prog.wantsStandIn t) = true := by kernel_rfl
  have := List.all_eq_true.1 hall t (Array.mem_toList_iff.2 (Array.mem_of_getElem? ht))
  show Tryd.prog.wantsStandIn t = false
  simpa using this

theorem textNext_card : Rows.TextNextCardSaid :=
  Claim7.holds_tied_plain_at .later [] _ _ _ _ textNext_said (fun _ h => by cases h) (by as_aux_lemma => kernel_rfl) (fun _ h => by cases h) textNext_row_tie rfl ⟨rfl, rfl⟩ main_is rfl textNext_plain (by as_aux_lemma => kernel_rfl)
end Go.Proofs.YtcckeeappgnebaaDoor
