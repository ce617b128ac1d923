/- Proved here: trellislaw.BindTable returns true at every table, key and text, and each argument reads afterwards as before. The card's condition: the tables of math/bits, strconv, strings, unicode and unicode/utf8 and the two errors of package strconv hold what the program's text lays. -/
import Derived.Test.YtecafnhnkklboaaDoorMC12
import Derived.Test.YtecafnhnkklboaaDoorMBN9
import Derived.Test.YtecafnhnkklboaaDoorMC13
set_option linter.unusedSimpArgs false
set_option maxRecDepth 100000
set_option linter.unusedVariables false
namespace Go.Proofs.YtecafnhnkklboaaDoor
open Go Go.Eng Go.ChangeShapes Go.WideShapes Go.ChangeAt Go.RowKit
open Go.ChangeMaps (open_string)

theorem bindTable_c0 : (fun (P : Program) (f : FuncId) (fn : Func) (s : ChangeSpec) (c : OpenClaim) => (c.wf (OpenSpec.ofChange s) : Bool)) Tryd.prog 6 Tryd.f6 (OpenSpec.ofChange Rows.bindTableSpec).bare Rows.bindTableRow = true := by kernel_rfl
theorem bindTable_c3 : (fun (P : Program) (f : FuncId) (fn : Func) (s : ChangeSpec) (c : OpenClaim) => (fn.params.all (P.readableRec ·) : Bool)) Tryd.prog 6 Tryd.f6 (OpenSpec.ofChange Rows.bindTableSpec).bare Rows.bindTableRow = true := by kernel_rfl
theorem bindTable_c4 : (fun (P : Program) (f : FuncId) (fn : Func) (s : ChangeSpec) (c : OpenClaim) => (namedTie P c.named s.vars : Bool)) Tryd.prog 6 Tryd.f6 (OpenSpec.ofChange Rows.bindTableSpec).bare Rows.bindTableRow = true := by kernel_rfl
theorem bindTable_c5 : (fun (P : Program) (f : FuncId) (fn : Func) (s : ChangeSpec) (c : OpenClaim) => ((c.stops == []) : Bool)) Tryd.prog 6 Tryd.f6 (OpenSpec.ofChange Rows.bindTableSpec).bare Rows.bindTableRow = true := by kernel_rfl
theorem bindTable_c7 : (fun (P : Program) (f : FuncId) (fn : Func) (s : ChangeSpec) (c : OpenClaim) => ((c.knobs == []) : Bool)) Tryd.prog 6 Tryd.f6 (OpenSpec.ofChange Rows.bindTableSpec).bare Rows.bindTableRow = true := by kernel_rfl
theorem bindTable_c9 : (fun (P : Program) (f : FuncId) (fn : Func) (s : ChangeSpec) (c : OpenClaim) => ((c.inPlace == P.inPlace f) : Bool)) Tryd.prog 6 Tryd.f6 (OpenSpec.ofChange Rows.bindTableSpec).bare Rows.bindTableRow = true := by kernel_rfl
theorem bindTable_c10 : (fun (P : Program) (f : FuncId) (fn : Func) (s : ChangeSpec) (c : OpenClaim) => ((c.unfollowed == P.unfollowed f) : Bool)) Tryd.prog 6 Tryd.f6 (OpenSpec.ofChange Rows.bindTableSpec).bare Rows.bindTableRow = true := by kernel_rfl
theorem bindTable_c11 : (fun (P : Program) (f : FuncId) (fn : Func) (s : ChangeSpec) (c : OpenClaim) => ((c.recurses == P.recurses f) : Bool)) Tryd.prog 6 Tryd.f6 (OpenSpec.ofChange Rows.bindTableSpec).bare Rows.bindTableRow = true := by kernel_rfl
theorem bindTable_c12 : (fun (P : Program) (f : FuncId) (fn : Func) (s : ChangeSpec) (c : OpenClaim) => ((c.named == P.varsNamed f) : Bool)) Tryd.prog 6 Tryd.f6 (OpenSpec.ofChange Rows.bindTableSpec).bare Rows.bindTableRow = true := by kernel_rfl
theorem bindTable_c13 : (fun (P : Program) (f : FuncId) (fn : Func) (s : ChangeSpec) (c : OpenClaim) => ((c.maps == (fn.params.toList ++ s.plain.varTypes P).any (P.mapsRec ·)) : Bool)) Tryd.prog 6 Tryd.f6 (OpenSpec.ofChange Rows.bindTableSpec).bare Rows.bindTableRow = true := by kernel_rfl
theorem bindTable_c14 : (fun (P : Program) (f : FuncId) (fn : Func) (s : ChangeSpec) (c : OpenClaim) => ((c.ifaces == (fn.params.toList ++ s.plain.varTypes P).any (P.ifacesRec ·)) : Bool)) Tryd.prog 6 Tryd.f6 (OpenSpec.ofChange Rows.bindTableSpec).bare Rows.bindTableRow = true := by kernel_rfl
theorem bindTable_c15 : (fun (P : Program) (f : FuncId) (fn : Func) (s : ChangeSpec) (c : OpenClaim) => ((c.mapsOut == P.mapsAmong fn.resultTypes.toList) : Bool)) Tryd.prog 6 Tryd.f6 (OpenSpec.ofChange Rows.bindTableSpec).bare Rows.bindTableRow = true := by kernel_rfl
theorem bindTable_c16 : (fun (P : Program) (f : FuncId) (fn : Func) (s : ChangeSpec) (c : OpenClaim) => ((c.loops == (fn.params.toList ++ s.plain.varTypes P).any (P.loopsFrom ·)) : Bool)) Tryd.prog 6 Tryd.f6 (OpenSpec.ofChange Rows.bindTableSpec).bare Rows.bindTableRow = true := by kernel_rfl
theorem bindTable_c17 : (fun (P : Program) (f : FuncId) (fn : Func) (s : ChangeSpec) (c : OpenClaim) => ((c.wideKeys == (fn.params.toList ++ s.plain.varTypes P ++ fn.resultTypes.toList).any (P.wideKeysFrom ·)) : Bool)) Tryd.prog 6 Tryd.f6 (OpenSpec.ofChange Rows.bindTableSpec).bare Rows.bindTableRow = true := by kernel_rfl
theorem bindTable_c18 : (fun (P : Program) (f : FuncId) (fn : Func) (s : ChangeSpec) (c : OpenClaim) => (s.vars.all (P.varReadable ·) : Bool)) Tryd.prog 6 Tryd.f6 (OpenSpec.ofChange Rows.bindTableSpec).bare Rows.bindTableRow = true := by kernel_rfl
theorem bindTable_c19 : (fun (P : Program) (f : FuncId) (fn : Func) (s : ChangeSpec) (c : OpenClaim) => (fn.resultTypes.all (fun t => P.readableRec t && decide (t < P.types.size)) : Bool)) Tryd.prog 6 Tryd.f6 (OpenSpec.ofChange Rows.bindTableSpec).bare Rows.bindTableRow = true := by kernel_rfl
theorem bindTable_c20 : (fun (P : Program) (f : FuncId) (fn : Func) (s : ChangeSpec) (c : OpenClaim) => ((c.ifacesOut == fn.resultTypes.toList.any (P.ifacesRec ·)) : Bool)) Tryd.prog 6 Tryd.f6 (OpenSpec.ofChange Rows.bindTableSpec).bare Rows.bindTableRow = true := by kernel_rfl
theorem bindTable_c21 : (fun (P : Program) (f : FuncId) (fn : Func) (s : ChangeSpec) (c : OpenClaim) => ((c.loopsOut == fn.resultTypes.toList.any (P.loopsFrom ·)) : Bool)) Tryd.prog 6 Tryd.f6 (OpenSpec.ofChange Rows.bindTableSpec).bare Rows.bindTableRow = true := by kernel_rfl
theorem bindTable_c23 : (fun (P : Program) (f : FuncId) (fn : Func) (s : ChangeSpec) (c : OpenClaim) => (c.shortTexts.isNone : Bool)) Tryd.prog 6 Tryd.f6 (OpenSpec.ofChange Rows.bindTableSpec).bare Rows.bindTableRow = true := by kernel_rfl
theorem bindTable_c28 : (fun (P : Program) (f : FuncId) (fn : Func) (s : ChangeSpec) (c : OpenClaim) => ((c.kinds == (if c.domain.isEmpty then [] else fn.params.toList.map fun t => match P.underlying t with | some (.int k) => some k | _ => none)) : Bool)) Tryd.prog 6 Tryd.f6 (OpenSpec.ofChange Rows.bindTableSpec).bare Rows.bindTableRow = true := by kernel_rfl
theorem bindTable_c29 : (fun (P : Program) (f : FuncId) (fn : Func) (s : ChangeSpec) (c : OpenClaim) => ((c.pinned == c.pinnedBy) : Bool)) Tryd.prog 6 Tryd.f6 (OpenSpec.ofChange Rows.bindTableSpec).bare Rows.bindTableRow = true := by kernel_rfl
theorem bindTable_c30 : (fun (P : Program) (f : FuncId) (fn : Func) (s : ChangeSpec) (c : OpenClaim) => ((c.veiled == (fn.params.toList ++ s.plain.varTypes P ++ fn.resultTypes.toList).any (P.veiledRec ·)) : Bool)) Tryd.prog 6 Tryd.f6 (OpenSpec.ofChange Rows.bindTableSpec).bare Rows.bindTableRow = true := by kernel_rfl
theorem bindTable_c31 : (fun (P : Program) (f : FuncId) (fn : Func) (s : ChangeSpec) (c : OpenClaim) => (c.veiledFits P fn.params.toList (fn.params.toList ++ s.plain.varTypes P ++ fn.resultTypes.toList) : Bool)) Tryd.prog 6 Tryd.f6 (OpenSpec.ofChange Rows.bindTableSpec).bare Rows.bindTableRow = true := by kernel_rfl
theorem bindTable_closed : joinedFacts Tryd.prog 6 Tryd.f6 (OpenSpec.ofChange Rows.bindTableSpec).bare Rows.bindTableRow = true := (and_t (and_t (and_t (and_t (and_t (and_t (and_t (and_t (and_t (and_t (and_t (and_t (and_t (and_t (and_t (and_t (and_t (and_t (and_t (and_t (and_t (and_t (and_t (and_t (and_t (and_t (and_t (and_t (and_t (and_t (and_t bindTable_c0 laidOut) mapsRowed) bindTable_c3) bindTable_c4) bindTable_c5) stops_nil) bindTable_c7) stopKnobs_nil) bindTable_c9) bindTable_c10) bindTable_c11) bindTable_c12) bindTable_c13) bindTable_c14) bindTable_c15) bindTable_c16) bindTable_c17) bindTable_c18) bindTable_c19) bindTable_c20) bindTable_c21) (by rw [plainKeys]; rfl)) bindTable_c23) stopsHeard) mayEnter) (by rw [liftsFinal]; rfl)) (by rw [make_cut]; rfl)) bindTable_c28) bindTable_c29) bindTable_c30) bindTable_c31)

theorem bindTable_contract (H : Type) (enc : TypeId × Value → H) (W : World) (base : Nat) (args : Array Value) (ds gs : List (DataW H)) (before : List MemPlace)
    (hval : ∀ (j : Nat) t v, Tryd.f6.params[j]? = some t → args[j]? = some v → Value.okWide Tryd.prog W .any base t v)
    (hW : DataW.Whole enc Tryd.prog Tryd.f6.params.toList Rows.bindTableSpec.vars false W args.toList ds gs before) (hsz : (DataW.weightsEach Tryd.prog (Tryd.f6.params.toList ++ (OpenSpec.ofChange Rows.bindTableSpec).bare.plain.varTypes Tryd.prog) (ds ++ gs)).all (· ≤ reachBytes) = true) (hL : laidMetH Tryd.prog Rows.bindTableRow.laid W) (hO : W.ShapedOpen Tryd.prog) :
    Calls Tryd.prog 6 args W fun e W' => ∃ v, e = .returned v ∧ Rows.bindTableSpec.post enc Tryd.prog Tryd.f6 false true false false W args v W' := by
  have hT : Eng.YtecafnhnkklboaaDoor.Namz W := namz_of hL
  have hW' := hW
  obtain ⟨p, q, hA, hV, rfl, hfz, hnd⟩ := hW
  rw [Tryd.params6] at hA hval hsz
  obtain ⟨v0, v1, v2, d0, d1, d2, p0, p1, p2, rfl, rfl, rfl, h0, h1, h2⟩ := trodAll_three hA
  obtain ⟨rfl, rfl⟩ := trodVars_none hV
  obtain ⟨n0, t0⟩ := h0
  obtain ⟨a0, b0, l0, f0, k0⟩ := opens_table.opens enc W n0 _ _ t0
  have r0 := vrel_struct (show Tryd.prog.underlying 26 = _ from Tryd.underlying26) (hval 0 26 v0 rfl rfl) l0
  replace f0 := f0 (reach_of hsz 0 26 _ rfl rfl)
  obtain ⟨n1, t1⟩ := h1
  obtain ⟨a1, b1, l1, f1, k1⟩ := opens_key.opens enc W n1 _ _ t1
  have r1 := vrel_struct (show Tryd.prog.underlying 23 = _ from Tryd.underlying23) (hval 1 23 v1 rfl rfl) l1
  replace f1 := f1 (reach_of hsz 1 23 _ rfl rfl)
  obtain ⟨a2, rfl, rfl, rfl, w2⟩ := open_string Tryd.underlying9 (hval 2 9 v2 rfl rfl) h2
  have b2 : a2.data.toList.length ≤ 140737488355328 := reach_str (reach_of hsz 2 9 _ rfl rfl)
  refine ((Eng.YtecafnhnkklboaaDoor.bindTable_ok W hT (max_of_rec hO) a0 (tab_ok b0 f0) f0.1 a1 b1 a2.data.toList b2).law [v0, v1, .string a2] rfl (fun i hi => ?_)).mono fun e W' ⟨he, hb⟩ => ⟨_, he, ?_⟩
  · match i, hi with
    | 0, _ => exact r0
    | 1, _ => exact r1
    | 2, _ => exact .str _
  · exact law_post laidOut (by kernel_rfl) (by kernel_rfl) Tryd.underlying4 (by kernel_rfl) hW' rfl hb

theorem bindTable_reads (os : Os) {H : Type} (enc : TypeId × Value → H) : ∃ places, DataW.whole enc Tryd.prog ((namesWorld os).forCall (fun _ _ => 0) ⟨#[], #[.agg #[.int .i64 0, .int .i32 0, .int .i64 0, .int .i64 0, .slice none 0 0], .agg #[.int .i64 0, .int .i32 0, .int .i64 0, .int .i64 0], .string ⟨#[]⟩], []⟩).memory Tryd.f6.params.toList Rows.bindTableSpec.vars false (#[.agg #[.int .i64 0, .int .i32 0, .int .i64 0, .int .i64 0, .slice none 0 0], .agg #[.int .i64 0, .int .i32 0, .int .i64 0, .int .i64 0], .string ⟨#[]⟩] : Array Value).toList 8 = some ([.agg [.agg [.lit (.int .i64 0), .lit (.int .i32 0), .lit (.int .i64 0), .lit (.int .i64 0)], .nil], .agg [.lit (.int .i64 0), .lit (.int .i32 0), .lit (.int .i64 0), .lit (.int .i64 0)], .lit (.string [])], [], places) :=
  ⟨[], by kernel_rfl⟩

theorem bindTable_lifted (os : Os) (started : os.Started) (H : Type) (enc : TypeId × Value → H) (F : Stop.Interp) :
    ReturnsInHanded {} Tryd.checked os 6 .any ((OpenSpec.ofChange Rows.bindTableSpec).preRow enc Tryd.prog Tryd.f6 Rows.bindTableRow.domain false Rows.bindTableRow.laid) (((OpenSpec.ofChange Rows.bindTableSpec).at F).post enc Tryd.prog Tryd.f6 false true false false) := by
  obtain ⟨places, hx⟩ := bindTable_reads os enc
  refine returnsInHanded_of_row (C := Tryd.checked) (s := (OpenSpec.ofChange Rows.bindTableSpec)) own started (by as_aux_lemma => kernel_rfl) Tryd.func6
    (witness_row_atRef (enc := enc) (C := Tryd.checked) false (namesWorld os) #[.agg #[.int .i64 0, .int .i32 0, .int .i64 0, .int .i64 0, .slice none 0 0], .agg #[.int .i64 0, .int .i32 0, .int .i64 0, .int .i64 0], .string ⟨#[]⟩] rfl (by as_aux_lemma => kernel_rfl) (by as_aux_lemma => kernel_rfl) (by as_aux_lemma => kernel_rfl)
      (OpenSpec.preRow_of_cond 8 hx (by as_aux_lemma => kernel_rfl) (fun k hk => by cases hk) (by as_aux_lemma => kernel_rfl) (names_met os _))) ?_
  intro W base args ds gs before hval hW _ _ hsz hL hO _
  exact bindTable_contract H enc W base args ds gs before hval hW hsz hL hO

theorem bindTable_said : Rows.BindTableSaid :=
  OpenClaim.holds_of_cond 6 Tryd.f6 rfl rfl rfl rfl rfl rfl rfl ⟨rfl, rfl, rfl, rfl, rfl⟩ rfl rfl rfl rfl rfl (by as_aux_lemma => kernel_rfl) Tryd.func6 bindTable_closed
    (of_decide_eq_true (by as_aux_lemma => kernel_rfl)) (by unfold Func.isWrapper; rw [if_neg (of_decide_eq_false (by kernel_rfl))]; exact ⟨rfl, rfl⟩)
    (fun os started H enc _ F => by rw [OpenClaim.pre_eq_preRow]; exact bindTable_lifted os started H enc F)

theorem bindTable_plain (f : FuncId) (fn : Func) (hf : Tryd.pinned.checked.prog.funcNamed Rows.bindTableRow.func = some f) (hfn : Tryd.pinned.checked.prog.funcs[f]? = some fn) :
    true = Tryd.pinned.checked.prog.looks [] ∧ ∀ (j : Nat) t, fn.params[j]? = some t → Tryd.pinned.checked.prog.wantsStandIn t = false := by
  obtain rfl : f = 6 := Option.some.inj ((show Tryd.prog.funcNamed Rows.bindTableRow.func = some 6 by kernel_rfl).symm.trans hf) |>.symm
  obtain rfl : fn = Tryd.f6 := (Option.some.inj (Tryd.func6.symm.trans hfn)).symm
  refine ⟨looks.symm, fun j t ht => ?_⟩
  have hall : (Tryd.f6.params.toList.all fun t => !Tryd.prog.wantsStandIn t) = true := by kernel_rfl
  have := List.all_eq_true.1 hall t (Array.mem_toList_iff.2 (Array.mem_of_getElem? ht))
  show Tryd.prog.wantsStandIn t = false
  simpa using this

theorem bindTable_card : Rows.BindTableCardSaid :=
  Claim7.holds_tied_plain_at .later [] _ _ _ _ bindTable_said (fun _ h => by cases h) (by as_aux_lemma => kernel_rfl) (fun _ h => by cases h) bindTable_row_tie rfl ⟨rfl, rfl⟩ main_is rfl bindTable_plain (by as_aux_lemma => kernel_rfl)
end Go.Proofs.YtecafnhnkklboaaDoor
