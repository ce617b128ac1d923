/- Proved here: trellislaw.BindPrint returns true at every table, and each argument reads afterwards as before. The card's condition: the tables of math/bits, strconv, strings, unicode and unicode/utf8 and the two errors of package strconv hold what the program's text lays. -/
import Derived.Test.YtbaokhehnilneaaGreatDoorMC15
import Derived.Test.YtbaokhehnilneaaGreatDoorMBN10
import Derived.Test.YtbaokhehnilneaaGreatDoorMC13
set_option linter.unusedSimpArgs false
set_option maxRecDepth 100000
set_option linter.unusedVariables false
namespace Go.Proofs.YtbaokhehnilneaaGreatDoor
open Go Go.Eng Go.ChangeShapes Go.WideShapes Go.ChangeAt Go.RowKit
open Go.ChangeMaps (open_string)

theorem bindPrint_c0 : (fun (P : Program) (f : FuncId) (fn : Func) (s : ChangeSpec) (c : OpenClaim) => (c.wf (OpenSpec.ofChange s) : Bool)) Tryz.prog 3 Tryz.f3 (OpenSpec.ofChange Rows.bindPrintSpec).bare Rows.bindPrintRow = true := by kernel_rfl
theorem bindPrint_c3 : (fun (P : Program) (f : FuncId) (fn : Func) (s : ChangeSpec) (c : OpenClaim) => (fn.params.all (P.readableRec ·) : Bool)) Tryz.prog 3 Tryz.f3 (OpenSpec.ofChange Rows.bindPrintSpec).bare Rows.bindPrintRow = true := by kernel_rfl
theorem bindPrint_c4 : (fun (P : Program) (f : FuncId) (fn : Func) (s : ChangeSpec) (c : OpenClaim) => (namedTie P c.named s.vars : Bool)) Tryz.prog 3 Tryz.f3 (OpenSpec.ofChange Rows.bindPrintSpec).bare Rows.bindPrintRow = true := by kernel_rfl
theorem bindPrint_c5 : (fun (P : Program) (f : FuncId) (fn : Func) (s : ChangeSpec) (c : OpenClaim) => ((c.stops == []) : Bool)) Tryz.prog 3 Tryz.f3 (OpenSpec.ofChange Rows.bindPrintSpec).bare Rows.bindPrintRow = true := by kernel_rfl
theorem bindPrint_c7 : (fun (P : Program) (f : FuncId) (fn : Func) (s : ChangeSpec) (c : OpenClaim) => ((c.knobs == []) : Bool)) Tryz.prog 3 Tryz.f3 (OpenSpec.ofChange Rows.bindPrintSpec).bare Rows.bindPrintRow = true := by kernel_rfl
theorem bindPrint_c9 : (fun (P : Program) (f : FuncId) (fn : Func) (s : ChangeSpec) (c : OpenClaim) => ((c.inPlace == P.inPlace f) : Bool)) Tryz.prog 3 Tryz.f3 (OpenSpec.ofChange Rows.bindPrintSpec).bare Rows.bindPrintRow = true := by kernel_rfl
theorem bindPrint_c10 : (fun (P : Program) (f : FuncId) (fn : Func) (s : ChangeSpec) (c : OpenClaim) => ((c.unfollowed == P.unfollowed f) : Bool)) Tryz.prog 3 Tryz.f3 (OpenSpec.ofChange Rows.bindPrintSpec).bare Rows.bindPrintRow = true := by kernel_rfl
theorem bindPrint_c11 : (fun (P : Program) (f : FuncId) (fn : Func) (s : ChangeSpec) (c : OpenClaim) => ((c.recurses == P.recurses f) : Bool)) Tryz.prog 3 Tryz.f3 (OpenSpec.ofChange Rows.bindPrintSpec).bare Rows.bindPrintRow = true := by kernel_rfl
theorem bindPrint_c12 : (fun (P : Program) (f : FuncId) (fn : Func) (s : ChangeSpec) (c : OpenClaim) => ((c.named == P.varsNamed f) : Bool)) Tryz.prog 3 Tryz.f3 (OpenSpec.ofChange Rows.bindPrintSpec).bare Rows.bindPrintRow = true := by kernel_rfl
theorem bindPrint_c13 : (fun (P : Program) (f : FuncId) (fn : Func) (s : ChangeSpec) (c : OpenClaim) => ((c.maps == (fn.params.toList ++ s.plain.varTypes P).any (P.mapsRec ·)) : Bool)) Tryz.prog 3 Tryz.f3 (OpenSpec.ofChange Rows.bindPrintSpec).bare Rows.bindPrintRow = true := by kernel_rfl
theorem bindPrint_c14 : (fun (P : Program) (f : FuncId) (fn : Func) (s : ChangeSpec) (c : OpenClaim) => ((c.ifaces == (fn.params.toList ++ s.plain.varTypes P).any (P.ifacesRec ·)) : Bool)) Tryz.prog 3 Tryz.f3 (OpenSpec.ofChange Rows.bindPrintSpec).bare Rows.bindPrintRow = true := by kernel_rfl
theorem bindPrint_c15 : (fun (P : Program) (f : FuncId) (fn : Func) (s : ChangeSpec) (c : OpenClaim) => ((c.mapsOut == P.mapsAmong fn.resultTypes.toList) : Bool)) Tryz.prog 3 Tryz.f3 (OpenSpec.ofChange Rows.bindPrintSpec).bare Rows.bindPrintRow = true := by kernel_rfl
theorem bindPrint_c16 : (fun (P : Program) (f : FuncId) (fn : Func) (s : ChangeSpec) (c : OpenClaim) => ((c.loops == (fn.params.toList ++ s.plain.varTypes P).any (P.loopsFrom ·)) : Bool)) Tryz.prog 3 Tryz.f3 (OpenSpec.ofChange Rows.bindPrintSpec).bare Rows.bindPrintRow = true := by kernel_rfl
theorem bindPrint_c17 : (fun (P : Program) (f : FuncId) (fn : Func) (s : ChangeSpec) (c : OpenClaim) => ((c.wideKeys == (fn.params.toList ++ s.plain.varTypes P ++ fn.resultTypes.toList).any (P.wideKeysFrom ·)) : Bool)) Tryz.prog 3 Tryz.f3 (OpenSpec.ofChange Rows.bindPrintSpec).bare Rows.bindPrintRow = true := by kernel_rfl
theorem bindPrint_c18 : (fun (P : Program) (f : FuncId) (fn : Func) (s : ChangeSpec) (c : OpenClaim) => (s.vars.all (P.varReadable ·) : Bool)) Tryz.prog 3 Tryz.f3 (OpenSpec.ofChange Rows.bindPrintSpec).bare Rows.bindPrintRow = true := by kernel_rfl
theorem bindPrint_c19 : (fun (P : Program) (f : FuncId) (fn : Func) (s : ChangeSpec) (c : OpenClaim) => (fn.resultTypes.all (fun t => P.readableRec t && decide (t < P.types.size)) : Bool)) Tryz.prog 3 Tryz.f3 (OpenSpec.ofChange Rows.bindPrintSpec).bare Rows.bindPrintRow = true := by kernel_rfl
theorem bindPrint_c20 : (fun (P : Program) (f : FuncId) (fn : Func) (s : ChangeSpec) (c : OpenClaim) => ((c.ifacesOut == fn.resultTypes.toList.any (P.ifacesRec ·)) : Bool)) Tryz.prog 3 Tryz.f3 (OpenSpec.ofChange Rows.bindPrintSpec).bare Rows.bindPrintRow = true := by kernel_rfl
theorem bindPrint_c21 : (fun (P : Program) (f : FuncId) (fn : Func) (s : ChangeSpec) (c : OpenClaim) => ((c.loopsOut == fn.resultTypes.toList.any (P.loopsFrom ·)) : Bool)) Tryz.prog 3 Tryz.f3 (OpenSpec.ofChange Rows.bindPrintSpec).bare Rows.bindPrintRow = true := by kernel_rfl
theorem bindPrint_c23 : (fun (P : Program) (f : FuncId) (fn : Func) (s : ChangeSpec) (c : OpenClaim) => (c.shortTexts.isNone : Bool)) Tryz.prog 3 Tryz.f3 (OpenSpec.ofChange Rows.bindPrintSpec).bare Rows.bindPrintRow = true := by kernel_rfl
theorem bindPrint_c28 : (fun (P : Program) (f : FuncId) (fn : Func) (s : ChangeSpec) (c : OpenClaim) => ((c.kinds == (if c.domain.isEmpty then [] else fn.params.toList.map fun t => match P.underlying t with | some (.int k) => some k | _ => none)) : Bool)) Tryz.prog 3 Tryz.f3 (OpenSpec.ofChange Rows.bindPrintSpec).bare Rows.bindPrintRow = true := by kernel_rfl
theorem bindPrint_c29 : (fun (P : Program) (f : FuncId) (fn : Func) (s : ChangeSpec) (c : OpenClaim) => ((c.pinned == c.pinnedBy) : Bool)) Tryz.prog 3 Tryz.f3 (OpenSpec.ofChange Rows.bindPrintSpec).bare Rows.bindPrintRow = true := by kernel_rfl
theorem bindPrint_c30 : (fun (P : Program) (f : FuncId) (fn : Func) (s : ChangeSpec) (c : OpenClaim) => ((c.veiled == (fn.params.toList ++ s.plain.varTypes P ++ fn.resultTypes.toList).any (P.veiledRec ·)) : Bool)) Tryz.prog 3 Tryz.f3 (OpenSpec.ofChange Rows.bindPrintSpec).bare Rows.bindPrintRow = true := by kernel_rfl
theorem bindPrint_c31 : (fun (P : Program) (f : FuncId) (fn : Func) (s : ChangeSpec) (c : OpenClaim) => (c.veiledFits P fn.params.toList (fn.params.toList ++ s.plain.varTypes P ++ fn.resultTypes.toList) : Bool)) Tryz.prog 3 Tryz.f3 (OpenSpec.ofChange Rows.bindPrintSpec).bare Rows.bindPrintRow = true := by kernel_rfl
theorem bindPrint_closed : joinedFacts Tryz.prog 3 Tryz.f3 (OpenSpec.ofChange Rows.bindPrintSpec).bare Rows.bindPrintRow = true := (and_t (and_t (and_t (and_t (and_t (and_t (and_t (and_t (and_t (and_t (and_t (and_t (and_t (and_t (and_t (and_t (and_t (and_t (and_t (and_t (and_t (and_t (and_t (and_t (and_t (and_t (and_t (and_t (and_t (and_t (and_t bindPrint_c0 laidOut) mapsRowed) bindPrint_c3) bindPrint_c4) bindPrint_c5) stops_nil) bindPrint_c7) stopKnobs_nil) bindPrint_c9) bindPrint_c10) bindPrint_c11) bindPrint_c12) bindPrint_c13) bindPrint_c14) bindPrint_c15) bindPrint_c16) bindPrint_c17) bindPrint_c18) bindPrint_c19) bindPrint_c20) bindPrint_c21) (by rw [plainKeys]; rfl)) bindPrint_c23) stopsHeard) mayEnter) (by rw [liftsFinal]; rfl)) (by rw [make_cut]; rfl)) bindPrint_c28) bindPrint_c29) bindPrint_c30) bindPrint_c31)

theorem bindPrint_contract (H : Type) (enc : TypeId × Value → H) (W : World) (base : Nat) (args : Array Value) (ds gs : List (DataW H)) (before : List MemPlace)
    (hval : ∀ (j : Nat) t v, Tryz.f3.params[j]? = some t → args[j]? = some v → Value.okWide Tryz.prog W .any base t v)
    (hW : DataW.Whole enc Tryz.prog Tryz.f3.params.toList Rows.bindPrintSpec.vars false W args.toList ds gs before) (hsz : (DataW.weightsEach Tryz.prog (Tryz.f3.params.toList ++ (OpenSpec.ofChange Rows.bindPrintSpec).bare.plain.varTypes Tryz.prog) (ds ++ gs)).all (· ≤ reachBytes) = true) (hL : laidMetH Tryz.prog Rows.bindPrintRow.laid W) (hO : W.ShapedOpen Tryz.prog) :
    Calls Tryz.prog 3 args W fun e W' => ∃ v, e = .returned v ∧ Rows.bindPrintSpec.post enc Tryz.prog Tryz.f3 false true false false W args v W' := by
  have hT : Eng.YtbaokhehnilneaaGreatDoor.Prtz W := prtz_of hL
  have hW' := hW
  obtain ⟨p, q, hA, hV, rfl, hfz, hnd⟩ := hW
  rw [Tryz.params3] at hA hval hsz
  obtain ⟨v0, d0, rfl, rfl, h0⟩ := trodAll_one hA
  obtain ⟨rfl, rfl⟩ := trodVars_none hV
  obtain ⟨n0, t0⟩ := h0
  obtain ⟨a0, b0, l0, f0, k0⟩ := opens_table.opens enc W n0 _ _ t0
  have r0 := vrel_struct (show Tryz.prog.underlying 26 = _ from Tryz.underlying26) (hval 0 26 v0 rfl rfl) l0
  replace f0 := f0 (reach_of hsz 0 26 _ rfl rfl)
  refine ((Eng.YtbaokhehnilneaaGreatDoor.bindPrint_ok W hT (max_of_rec hO) a0 (tab_ok b0 f0)).law [v0] rfl (fun i hi => ?_)).mono fun e W' ⟨he, hb⟩ => ⟨_, he, ?_⟩
  · match i, hi with
    | 0, _ => exact r0
  · exact law_post laidOut (by kernel_rfl) (by kernel_rfl) Tryz.underlying4 (by kernel_rfl) hW' rfl hb

theorem bindPrint_reads (os : Os) {H : Type} (enc : TypeId × Value → H) : ∃ places, DataW.whole enc Tryz.prog ((prtWorld os).forCall (fun _ _ => 0) ⟨#[], #[.agg #[.int .i64 0, .int .i32 0, .int .i64 0, .int .i64 0, .slice none 0 0]], []⟩).memory Tryz.f3.params.toList Rows.bindPrintSpec.vars false (#[.agg #[.int .i64 0, .int .i32 0, .int .i64 0, .int .i64 0, .slice none 0 0]] : Array Value).toList 8 = some ([.agg [.agg [.lit (.int .i64 0), .lit (.int .i32 0), .lit (.int .i64 0), .lit (.int .i64 0)], .nil]], [], places) :=
  ⟨[], by kernel_rfl⟩

theorem bindPrint_lifted (os : Os) (started : os.Started) (H : Type) (enc : TypeId × Value → H) (F : Stop.Interp) :
    ReturnsInHanded {} Tryz.checked os 3 .any ((OpenSpec.ofChange Rows.bindPrintSpec).preRow enc Tryz.prog Tryz.f3 Rows.bindPrintRow.domain false Rows.bindPrintRow.laid) (((OpenSpec.ofChange Rows.bindPrintSpec).at F).post enc Tryz.prog Tryz.f3 false true false false) := by
  obtain ⟨places, hx⟩ := bindPrint_reads os enc
  refine returnsInHanded_of_row (C := Tryz.checked) (s := (OpenSpec.ofChange Rows.bindPrintSpec)) own started (by as_aux_lemma => kernel_rfl) Tryz.func3
    (witness_row_atRef (enc := enc) (C := Tryz.checked) false (prtWorld os) #[.agg #[.int .i64 0, .int .i32 0, .int .i64 0, .int .i64 0, .slice none 0 0]] rfl (by as_aux_lemma => kernel_rfl) (by as_aux_lemma => kernel_rfl) (by as_aux_lemma => kernel_rfl)
      (OpenSpec.preRow_of_cond 8 hx (by as_aux_lemma => kernel_rfl) (fun k hk => by cases hk) (by as_aux_lemma => kernel_rfl) (prt_met os _))) ?_
  intro W base args ds gs before hval hW _ _ hsz hL hO _
  exact bindPrint_contract H enc W base args ds gs before hval hW hsz hL hO

theorem bindPrint_said : Rows.BindPrintSaid :=
  OpenClaim.holds_of_cond 3 Tryz.f3 rfl rfl rfl rfl rfl rfl rfl ⟨rfl, rfl, rfl, rfl, rfl⟩ rfl rfl rfl rfl rfl (by as_aux_lemma => kernel_rfl) Tryz.func3 bindPrint_closed
    (of_decide_eq_true (by as_aux_lemma => kernel_rfl)) (by unfold Func.isWrapper; rw [if_neg (of_decide_eq_false (by kernel_rfl))]; exact ⟨rfl, rfl⟩)
    (fun os started H enc _ F => by rw [OpenClaim.pre_eq_preRow]; exact bindPrint_lifted os started H enc F)

theorem bindPrint_plain (f : FuncId) (fn : Func) (hf : Tryz.pinned.checked.prog.funcNamed Rows.bindPrintRow.func = some f) (hfn : Tryz.pinned.checked.prog.funcs[f]? = some fn) :
    true = Tryz.pinned.checked.prog.looks [] ∧ ∀ (j : Nat) t, fn.params[j]? = some t → Tryz.pinned.checked.prog.wantsStandIn t = false := by
  obtain rfl : f = 3 := Option.some.inj ((show Tryz.prog.funcNamed Rows.bindPrintRow.func = some 3 by kernel_rfl).symm.trans hf) |>.symm
  obtain rfl : fn = Tryz.f3 := (Option.some.inj (Tryz.func3.symm.trans hfn)).symm
  refine ⟨looks.symm, fun j t ht => ?_⟩
  have hall : (Tryz.f3.params.toList.all fun t => !Tryz.prog.wantsStandIn t) = true := by kernel_rfl
  have := List.all_eq_true.1 hall t (Array.mem_toList_iff.2 (Array.mem_of_getElem? ht))
  show Tryz.prog.wantsStandIn t = false
  simpa using this

theorem bindPrint_card : Rows.BindPrintCardSaid :=
  Claim7.holds_tied_plain_at .later [] _ _ _ _ bindPrint_said (fun _ h => by cases h) (by as_aux_lemma => kernel_rfl) (fun _ h => by cases h) bindPrint_row_tie rfl ⟨rfl, rfl⟩ main_is rfl bindPrint_plain (by as_aux_lemma => kernel_rfl)
end Go.Proofs.YtbaokhehnilneaaGreatDoor
