/- Proved here: trellislaw.ParseCuts returns true at every state of a reader, every bytes, and wherever they are cut, and each argument reads afterwards as before. The card's condition: the tables of package unicode/utf8 hold what the program's text lays. -/
import Derived.Test.YtkcldifniomfoaaDoorMC1
import Derived.Test.YtkcldifniomfoaaDoorMQ5
import Derived.Test.YtkcldifniomfoaaDoorMC4
set_option linter.unusedSimpArgs false
set_option maxRecDepth 100000
set_option linter.unusedVariables false
namespace Go.Proofs.YtkcldifniomfoaaDoor
open Go Go.Eng Go.ChangeShapes Go.WideShapes Go.ChangeAt Go.RowKit
open Go.ChangeMaps (open_string)

theorem parseCuts_c0 : (fun (P : Program) (f : FuncId) (fn : Func) (s : ChangeSpec) (c : OpenClaim) => (c.wf (OpenSpec.ofChange s) : Bool)) Tryd.prog 4 Tryd.f4 (OpenSpec.ofChange Rows.parseCutsSpec).bare Rows.parseCutsRow = true := by kernel_rfl
theorem parseCuts_c3 : (fun (P : Program) (f : FuncId) (fn : Func) (s : ChangeSpec) (c : OpenClaim) => (fn.params.all (P.readableRec ·) : Bool)) Tryd.prog 4 Tryd.f4 (OpenSpec.ofChange Rows.parseCutsSpec).bare Rows.parseCutsRow = true := by kernel_rfl
theorem parseCuts_c4 : (fun (P : Program) (f : FuncId) (fn : Func) (s : ChangeSpec) (c : OpenClaim) => (namedTie P c.named s.vars : Bool)) Tryd.prog 4 Tryd.f4 (OpenSpec.ofChange Rows.parseCutsSpec).bare Rows.parseCutsRow = true := by kernel_rfl
theorem parseCuts_c5 : (fun (P : Program) (f : FuncId) (fn : Func) (s : ChangeSpec) (c : OpenClaim) => ((c.stops == []) : Bool)) Tryd.prog 4 Tryd.f4 (OpenSpec.ofChange Rows.parseCutsSpec).bare Rows.parseCutsRow = true := by kernel_rfl
theorem parseCuts_c7 : (fun (P : Program) (f : FuncId) (fn : Func) (s : ChangeSpec) (c : OpenClaim) => ((c.knobs == []) : Bool)) Tryd.prog 4 Tryd.f4 (OpenSpec.ofChange Rows.parseCutsSpec).bare Rows.parseCutsRow = true := by kernel_rfl
theorem parseCuts_c9 : (fun (P : Program) (f : FuncId) (fn : Func) (s : ChangeSpec) (c : OpenClaim) => ((c.inPlace == P.inPlace f) : Bool)) Tryd.prog 4 Tryd.f4 (OpenSpec.ofChange Rows.parseCutsSpec).bare Rows.parseCutsRow = true := by kernel_rfl
theorem parseCuts_c10 : (fun (P : Program) (f : FuncId) (fn : Func) (s : ChangeSpec) (c : OpenClaim) => ((c.unfollowed == P.unfollowed f) : Bool)) Tryd.prog 4 Tryd.f4 (OpenSpec.ofChange Rows.parseCutsSpec).bare Rows.parseCutsRow = true := by kernel_rfl
theorem parseCuts_c11 : (fun (P : Program) (f : FuncId) (fn : Func) (s : ChangeSpec) (c : OpenClaim) => ((c.recurses == P.recurses f) : Bool)) Tryd.prog 4 Tryd.f4 (OpenSpec.ofChange Rows.parseCutsSpec).bare Rows.parseCutsRow = true := by kernel_rfl
theorem parseCuts_c12 : (fun (P : Program) (f : FuncId) (fn : Func) (s : ChangeSpec) (c : OpenClaim) => ((c.named == P.varsNamed f) : Bool)) Tryd.prog 4 Tryd.f4 (OpenSpec.ofChange Rows.parseCutsSpec).bare Rows.parseCutsRow = true := by kernel_rfl
theorem parseCuts_c13 : (fun (P : Program) (f : FuncId) (fn : Func) (s : ChangeSpec) (c : OpenClaim) => ((c.maps == (fn.params.toList ++ s.plain.varTypes P).any (P.mapsRec ·)) : Bool)) Tryd.prog 4 Tryd.f4 (OpenSpec.ofChange Rows.parseCutsSpec).bare Rows.parseCutsRow = true := by kernel_rfl
theorem parseCuts_c14 : (fun (P : Program) (f : FuncId) (fn : Func) (s : ChangeSpec) (c : OpenClaim) => ((c.ifaces == (fn.params.toList ++ s.plain.varTypes P).any (P.ifacesRec ·)) : Bool)) Tryd.prog 4 Tryd.f4 (OpenSpec.ofChange Rows.parseCutsSpec).bare Rows.parseCutsRow = true := by kernel_rfl
theorem parseCuts_c15 : (fun (P : Program) (f : FuncId) (fn : Func) (s : ChangeSpec) (c : OpenClaim) => ((c.mapsOut == P.mapsAmong fn.resultTypes.toList) : Bool)) Tryd.prog 4 Tryd.f4 (OpenSpec.ofChange Rows.parseCutsSpec).bare Rows.parseCutsRow = true := by kernel_rfl
theorem parseCuts_c16 : (fun (P : Program) (f : FuncId) (fn : Func) (s : ChangeSpec) (c : OpenClaim) => ((c.loops == (fn.params.toList ++ s.plain.varTypes P).any (P.loopsFrom ·)) : Bool)) Tryd.prog 4 Tryd.f4 (OpenSpec.ofChange Rows.parseCutsSpec).bare Rows.parseCutsRow = true := by kernel_rfl
theorem parseCuts_c17 : (fun (P : Program) (f : FuncId) (fn : Func) (s : ChangeSpec) (c : OpenClaim) => ((c.wideKeys == (fn.params.toList ++ s.plain.varTypes P ++ fn.resultTypes.toList).any (P.wideKeysFrom ·)) : Bool)) Tryd.prog 4 Tryd.f4 (OpenSpec.ofChange Rows.parseCutsSpec).bare Rows.parseCutsRow = true := by kernel_rfl
theorem parseCuts_c18 : (fun (P : Program) (f : FuncId) (fn : Func) (s : ChangeSpec) (c : OpenClaim) => (s.vars.all (P.varReadable ·) : Bool)) Tryd.prog 4 Tryd.f4 (OpenSpec.ofChange Rows.parseCutsSpec).bare Rows.parseCutsRow = true := by kernel_rfl
theorem parseCuts_c19 : (fun (P : Program) (f : FuncId) (fn : Func) (s : ChangeSpec) (c : OpenClaim) => (fn.resultTypes.all (fun t => P.readableRec t && decide (t < P.types.size)) : Bool)) Tryd.prog 4 Tryd.f4 (OpenSpec.ofChange Rows.parseCutsSpec).bare Rows.parseCutsRow = true := by kernel_rfl
theorem parseCuts_c20 : (fun (P : Program) (f : FuncId) (fn : Func) (s : ChangeSpec) (c : OpenClaim) => ((c.ifacesOut == fn.resultTypes.toList.any (P.ifacesRec ·)) : Bool)) Tryd.prog 4 Tryd.f4 (OpenSpec.ofChange Rows.parseCutsSpec).bare Rows.parseCutsRow = true := by kernel_rfl
theorem parseCuts_c21 : (fun (P : Program) (f : FuncId) (fn : Func) (s : ChangeSpec) (c : OpenClaim) => ((c.loopsOut == fn.resultTypes.toList.any (P.loopsFrom ·)) : Bool)) Tryd.prog 4 Tryd.f4 (OpenSpec.ofChange Rows.parseCutsSpec).bare Rows.parseCutsRow = true := by kernel_rfl
theorem parseCuts_c23 : (fun (P : Program) (f : FuncId) (fn : Func) (s : ChangeSpec) (c : OpenClaim) => (c.shortTexts.isNone : Bool)) Tryd.prog 4 Tryd.f4 (OpenSpec.ofChange Rows.parseCutsSpec).bare Rows.parseCutsRow = true := by kernel_rfl
theorem parseCuts_c28 : (fun (P : Program) (f : FuncId) (fn : Func) (s : ChangeSpec) (c : OpenClaim) => ((c.kinds == (if c.domain.isEmpty then [] else fn.params.toList.map fun t => match P.underlying t with | some (.int k) => some k | _ => none)) : Bool)) Tryd.prog 4 Tryd.f4 (OpenSpec.ofChange Rows.parseCutsSpec).bare Rows.parseCutsRow = true := by kernel_rfl
theorem parseCuts_c29 : (fun (P : Program) (f : FuncId) (fn : Func) (s : ChangeSpec) (c : OpenClaim) => ((c.pinned == c.pinnedBy) : Bool)) Tryd.prog 4 Tryd.f4 (OpenSpec.ofChange Rows.parseCutsSpec).bare Rows.parseCutsRow = true := by kernel_rfl
theorem parseCuts_c30 : (fun (P : Program) (f : FuncId) (fn : Func) (s : ChangeSpec) (c : OpenClaim) => ((c.veiled == (fn.params.toList ++ s.plain.varTypes P ++ fn.resultTypes.toList).any (P.veiledRec ·)) : Bool)) Tryd.prog 4 Tryd.f4 (OpenSpec.ofChange Rows.parseCutsSpec).bare Rows.parseCutsRow = true := by kernel_rfl
theorem parseCuts_c31 : (fun (P : Program) (f : FuncId) (fn : Func) (s : ChangeSpec) (c : OpenClaim) => (c.veiledFits P fn.params.toList (fn.params.toList ++ s.plain.varTypes P ++ fn.resultTypes.toList) : Bool)) Tryd.prog 4 Tryd.f4 (OpenSpec.ofChange Rows.parseCutsSpec).bare Rows.parseCutsRow = true := by kernel_rfl
theorem parseCuts_closed : joinedFacts Tryd.prog 4 Tryd.f4 (OpenSpec.ofChange Rows.parseCutsSpec).bare Rows.parseCutsRow = true := (and_t (and_t (and_t (and_t (and_t (and_t (and_t (and_t (and_t (and_t (and_t (and_t (and_t (and_t (and_t (and_t (and_t (and_t (and_t (and_t (and_t (and_t (and_t (and_t (and_t (and_t (and_t (and_t (and_t (and_t (and_t parseCuts_c0 laidOut) mapsRowed) parseCuts_c3) parseCuts_c4) parseCuts_c5) stops_nil) parseCuts_c7) stopKnobs_nil) parseCuts_c9) parseCuts_c10) parseCuts_c11) parseCuts_c12) parseCuts_c13) parseCuts_c14) parseCuts_c15) parseCuts_c16) parseCuts_c17) parseCuts_c18) parseCuts_c19) parseCuts_c20) parseCuts_c21) (by rw [plainKeys]; rfl)) parseCuts_c23) stopsHeard) mayEnter) (by rw [liftsFinal]; rfl)) (by rw [make_cut]; rfl)) parseCuts_c28) parseCuts_c29) parseCuts_c30) parseCuts_c31)

theorem parseCuts_contract (H : Type) (enc : TypeId × Value → H) (W : World) (base : Nat) (args : Array Value) (ds gs : List (DataW H)) (before : List MemPlace)
    (hval : ∀ (j : Nat) t v, Tryd.f4.params[j]? = some t → args[j]? = some v → Value.okWide Tryd.prog W .any base t v)
    (hW : DataW.Whole enc Tryd.prog Tryd.f4.params.toList Rows.parseCutsSpec.vars false W args.toList ds gs before) (hsz : (DataW.weightsEach Tryd.prog (Tryd.f4.params.toList ++ (OpenSpec.ofChange Rows.parseCutsSpec).bare.plain.varTypes Tryd.prog) (ds ++ gs)).all (· ≤ reachBytes) = true) (hL : laidMetH Tryd.prog Rows.parseCutsRow.laid W) :
    Calls Tryd.prog 4 args W fun e W' => ∃ v, e = .returned v ∧ Rows.parseCutsSpec.post enc Tryd.prog Tryd.f4 false true false false W args v W' := by
  have hT : Eng.YtkcldifniomfoaaDoor.Tabs W := tabs_of hL
  have hW' := hW
  obtain ⟨p, q, hA, hV, rfl, hfz, hnd⟩ := hW
  rw [Tryd.params4] at hA hval hsz
  obtain ⟨v0, v1, v2, d0, d1, d2, p0, p1, p2, rfl, rfl, rfl, h0, h1, h2⟩ := trodAll_three hA
  obtain ⟨rfl, rfl⟩ := trodVars_none hV
  obtain ⟨n0, t0⟩ := h0
  obtain ⟨a0, b0, l0, f0, k0⟩ := opens_state.opens enc W n0 _ _ t0
  have r0 := vrel_struct (show Tryd.prog.underlying 24 = _ from Tryd.underlying24) (hval 0 24 v0 rfl rfl) l0
  replace f0 := f0 (reach_of hsz 0 24 _ rfl rfl)
  obtain ⟨a1, rfl, rfl, rfl, w1⟩ := open_string Tryd.underlying9 (hval 1 9 v1 rfl rfl) h1
  have b1 : a1.data.toList.length ≤ 140737488355328 := reach_str (reach_of hsz 1 9 _ rfl rfl)
  obtain ⟨a2, rfl, rfl, rfl, w2⟩ := open_int Tryd.underlying3 (hval 2 3 v2 rfl rfl) h2
  have b2 : -9223372036854775808 ≤ a2 ∧ a2 ≤ 9223372036854775807 := by simpa [Lit.wf, IntKind.min, IntKind.max, IntKind.signed, IntKind.bits] using w2
  refine ((Eng.YtkcldifniomfoaaDoor.parseCuts_ok W hT a0 (pst_fair b0 f0) a1.data.toList b1 a2 b2).law [v0, .string a1, .int .i64 a2] rfl (fun i hi => ?_)).mono fun e W' ⟨he, hb⟩ => ⟨_, he, ?_⟩
  · match i, hi with
    | 0, _ => exact r0
    | 1, _ => exact .str _
    | 2, _ => exact .int _ _
  · exact law_post laidOut (by kernel_rfl) (by kernel_rfl) Tryd.underlying4 (by kernel_rfl) hW' rfl hb

theorem parseCuts_reads (os : Os) {H : Type} (enc : TypeId × Value → H) : ∃ places, DataW.whole enc Tryd.prog ((u8World os).forCall (fun _ _ => 0) ⟨#[], #[.agg #[.int .i64 0, .int .u8 0, .string ⟨#[]⟩, .slice none 0 0, .string ⟨#[]⟩, .string ⟨#[]⟩, .bool false], .string ⟨#[]⟩, .int .i64 0], []⟩).memory Tryd.f4.params.toList Rows.parseCutsSpec.vars false (#[.agg #[.int .i64 0, .int .u8 0, .string ⟨#[]⟩, .slice none 0 0, .string ⟨#[]⟩, .string ⟨#[]⟩, .bool false], .string ⟨#[]⟩, .int .i64 0] : Array Value).toList 8 = some ([.agg [.lit (.int .i64 0), .lit (.int .u8 0), .lit (.string []), .nil, .lit (.string []), .lit (.string []), .lit (.bool false)], .lit (.string []), .lit (.int .i64 0)], [], places) :=
  ⟨[], by kernel_rfl⟩

theorem parseCuts_lifted (os : Os) (started : os.Started) (H : Type) (enc : TypeId × Value → H) (F : Stop.Interp) :
    ReturnsInHanded {} Tryd.checked os 4 .any ((OpenSpec.ofChange Rows.parseCutsSpec).preRow enc Tryd.prog Tryd.f4 Rows.parseCutsRow.domain false Rows.parseCutsRow.laid) (((OpenSpec.ofChange Rows.parseCutsSpec).at F).post enc Tryd.prog Tryd.f4 false true false false) := by
  obtain ⟨places, hx⟩ := parseCuts_reads os enc
  refine returnsInHanded_of_row (C := Tryd.checked) (s := (OpenSpec.ofChange Rows.parseCutsSpec)) own started (by as_aux_lemma => kernel_rfl) Tryd.func4
    (witness_row_at (enc := enc) (C := Tryd.checked) false (u8World os) #[.agg #[.int .i64 0, .int .u8 0, .string ⟨#[]⟩, .slice none 0 0, .string ⟨#[]⟩, .string ⟨#[]⟩, .bool false], .string ⟨#[]⟩, .int .i64 0] rfl (by as_aux_lemma => kernel_rfl) (by as_aux_lemma => kernel_rfl) (by as_aux_lemma => kernel_rfl)
      (OpenSpec.preRow_of_cond 8 hx (by as_aux_lemma => kernel_rfl) (fun k hk => by cases hk) (by as_aux_lemma => kernel_rfl) (u8_met os _))) ?_
  intro W base args ds gs before hval hW _ _ hsz hL _ _
  exact parseCuts_contract H enc W base args ds gs before hval hW hsz hL

theorem parseCuts_said : Rows.ParseCutsSaid :=
  OpenClaim.holds_of_cond 4 Tryd.f4 rfl rfl rfl rfl rfl rfl rfl ⟨rfl, rfl, rfl, rfl, rfl⟩ rfl rfl rfl rfl rfl (by as_aux_lemma => kernel_rfl) Tryd.func4 parseCuts_closed
    (of_decide_eq_true (by as_aux_lemma => kernel_rfl)) (by unfold Func.isWrapper; rw [if_neg (of_decide_eq_false (by kernel_rfl))]; exact ⟨rfl, rfl⟩)
    (fun os started H enc _ F => by rw [OpenClaim.pre_eq_preRow]; exact parseCuts_lifted os started H enc F)

theorem parseCuts_plain (f : FuncId) (fn : Func) (hf : Tryd.pinned.checked.prog.funcNamed Rows.parseCutsRow.func = some f) (hfn : Tryd.pinned.checked.prog.funcs[f]? = some fn) :
    true = Tryd.pinned.checked.prog.looks [] ∧ ∀ (j : Nat) t, fn.params[j]? = some t → Tryd.pinned.checked.prog.wantsStandIn t = false := by
  obtain rfl : f = 4 := Option.some.inj ((show Tryd.prog.funcNamed Rows.parseCutsRow.func = some 4 by kernel_rfl).symm.trans hf) |>.symm
  obtain rfl : fn = Tryd.f4 := (Option.some.inj (Tryd.func4.symm.trans hfn)).symm
  refine ⟨looks.symm, fun j t ht => ?_⟩
  have hall : (Tryd.f4.params.toList.all fun t => !Tryd.prog.wantsStandIn t) = true := by kernel_rfl
  have := List.all_eq_true.1 hall t (Array.mem_toList_iff.2 (Array.mem_of_getElem? ht))
  show Tryd.prog.wantsStandIn t = false
  simpa using this

theorem parseCuts_card : Rows.ParseCutsCardSaid :=
  Claim7.holds_tied_plain_at .later [] _ _ _ _ parseCuts_said (fun _ h => by cases h) (by as_aux_lemma => kernel_rfl) (fun _ h => by cases h) parseCuts_row_tie rfl ⟨rfl, rfl⟩ main_is rfl parseCuts_plain (by as_aux_lemma => kernel_rfl)
end Go.Proofs.YtkcldifniomfoaaDoor
