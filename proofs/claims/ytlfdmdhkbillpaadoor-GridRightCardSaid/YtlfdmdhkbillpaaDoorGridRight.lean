/- Proved here: trellislaw.GridRight returns true at every two grids, part, cell, place and text, and each argument reads afterwards as before. The card's condition: the tables of package unicode/utf8 hold what the program's text lays. -/
import Derived.Test.YtlfdmdhkbillpaaDoorMC1
import Derived.Test.YtlfdmdhkbillpaaDoorMG3
set_option linter.unusedSimpArgs false
set_option maxRecDepth 100000
set_option linter.unusedVariables false
namespace Go.Proofs.YtlfdmdhkbillpaaDoor
open Go Go.Eng Go.ChangeShapes Go.WideShapes Go.ChangeAt Go.RowKit
open Go.ChangeMaps (open_string)

theorem gridRight_c0 : (fun (P : Program) (f : FuncId) (fn : Func) (s : ChangeSpec) (c : OpenClaim) => (c.wf (OpenSpec.ofChange s) : Bool)) Tryd.prog 11 Tryd.f11 (OpenSpec.ofChange Rows.gridRightSpec).bare Rows.gridRightRow = true := by kernel_rfl
theorem gridRight_c3 : (fun (P : Program) (f : FuncId) (fn : Func) (s : ChangeSpec) (c : OpenClaim) => (fn.params.all (P.readableRec ·) : Bool)) Tryd.prog 11 Tryd.f11 (OpenSpec.ofChange Rows.gridRightSpec).bare Rows.gridRightRow = true := by kernel_rfl
theorem gridRight_c4 : (fun (P : Program) (f : FuncId) (fn : Func) (s : ChangeSpec) (c : OpenClaim) => (namedTie P c.named s.vars : Bool)) Tryd.prog 11 Tryd.f11 (OpenSpec.ofChange Rows.gridRightSpec).bare Rows.gridRightRow = true := by kernel_rfl
theorem gridRight_c5 : (fun (P : Program) (f : FuncId) (fn : Func) (s : ChangeSpec) (c : OpenClaim) => ((c.stops == []) : Bool)) Tryd.prog 11 Tryd.f11 (OpenSpec.ofChange Rows.gridRightSpec).bare Rows.gridRightRow = true := by kernel_rfl
theorem gridRight_c7 : (fun (P : Program) (f : FuncId) (fn : Func) (s : ChangeSpec) (c : OpenClaim) => ((c.knobs == []) : Bool)) Tryd.prog 11 Tryd.f11 (OpenSpec.ofChange Rows.gridRightSpec).bare Rows.gridRightRow = true := by kernel_rfl
theorem gridRight_c9 : (fun (P : Program) (f : FuncId) (fn : Func) (s : ChangeSpec) (c : OpenClaim) => ((c.inPlace == P.inPlace f) : Bool)) Tryd.prog 11 Tryd.f11 (OpenSpec.ofChange Rows.gridRightSpec).bare Rows.gridRightRow = true := by kernel_rfl
theorem gridRight_c10 : (fun (P : Program) (f : FuncId) (fn : Func) (s : ChangeSpec) (c : OpenClaim) => ((c.unfollowed == P.unfollowed f) : Bool)) Tryd.prog 11 Tryd.f11 (OpenSpec.ofChange Rows.gridRightSpec).bare Rows.gridRightRow = true := by kernel_rfl
theorem gridRight_c11 : (fun (P : Program) (f : FuncId) (fn : Func) (s : ChangeSpec) (c : OpenClaim) => ((c.recurses == P.recurses f) : Bool)) Tryd.prog 11 Tryd.f11 (OpenSpec.ofChange Rows.gridRightSpec).bare Rows.gridRightRow = true := by kernel_rfl
theorem gridRight_c12 : (fun (P : Program) (f : FuncId) (fn : Func) (s : ChangeSpec) (c : OpenClaim) => ((c.named == P.varsNamed f) : Bool)) Tryd.prog 11 Tryd.f11 (OpenSpec.ofChange Rows.gridRightSpec).bare Rows.gridRightRow = true := by kernel_rfl
theorem gridRight_c13 : (fun (P : Program) (f : FuncId) (fn : Func) (s : ChangeSpec) (c : OpenClaim) => ((c.maps == (fn.params.toList ++ s.plain.varTypes P).any (P.mapsRec ·)) : Bool)) Tryd.prog 11 Tryd.f11 (OpenSpec.ofChange Rows.gridRightSpec).bare Rows.gridRightRow = true := by kernel_rfl
theorem gridRight_c14 : (fun (P : Program) (f : FuncId) (fn : Func) (s : ChangeSpec) (c : OpenClaim) => ((c.ifaces == (fn.params.toList ++ s.plain.varTypes P).any (P.ifacesRec ·)) : Bool)) Tryd.prog 11 Tryd.f11 (OpenSpec.ofChange Rows.gridRightSpec).bare Rows.gridRightRow = true := by kernel_rfl
theorem gridRight_c15 : (fun (P : Program) (f : FuncId) (fn : Func) (s : ChangeSpec) (c : OpenClaim) => ((c.mapsOut == P.mapsAmong fn.resultTypes.toList) : Bool)) Tryd.prog 11 Tryd.f11 (OpenSpec.ofChange Rows.gridRightSpec).bare Rows.gridRightRow = true := by kernel_rfl
theorem gridRight_c16 : (fun (P : Program) (f : FuncId) (fn : Func) (s : ChangeSpec) (c : OpenClaim) => ((c.loops == (fn.params.toList ++ s.plain.varTypes P).any (P.loopsFrom ·)) : Bool)) Tryd.prog 11 Tryd.f11 (OpenSpec.ofChange Rows.gridRightSpec).bare Rows.gridRightRow = true := by kernel_rfl
theorem gridRight_c17 : (fun (P : Program) (f : FuncId) (fn : Func) (s : ChangeSpec) (c : OpenClaim) => ((c.wideKeys == (fn.params.toList ++ s.plain.varTypes P ++ fn.resultTypes.toList).any (P.wideKeysFrom ·)) : Bool)) Tryd.prog 11 Tryd.f11 (OpenSpec.ofChange Rows.gridRightSpec).bare Rows.gridRightRow = true := by kernel_rfl
theorem gridRight_c18 : (fun (P : Program) (f : FuncId) (fn : Func) (s : ChangeSpec) (c : OpenClaim) => (s.vars.all (P.varReadable ·) : Bool)) Tryd.prog 11 Tryd.f11 (OpenSpec.ofChange Rows.gridRightSpec).bare Rows.gridRightRow = true := by kernel_rfl
theorem gridRight_c19 : (fun (P : Program) (f : FuncId) (fn : Func) (s : ChangeSpec) (c : OpenClaim) => (fn.resultTypes.all (fun t => P.readableRec t && decide (t < P.types.size)) : Bool)) Tryd.prog 11 Tryd.f11 (OpenSpec.ofChange Rows.gridRightSpec).bare Rows.gridRightRow = true := by kernel_rfl
theorem gridRight_c20 : (fun (P : Program) (f : FuncId) (fn : Func) (s : ChangeSpec) (c : OpenClaim) => ((c.ifacesOut == fn.resultTypes.toList.any (P.ifacesRec ·)) : Bool)) Tryd.prog 11 Tryd.f11 (OpenSpec.ofChange Rows.gridRightSpec).bare Rows.gridRightRow = true := by kernel_rfl
theorem gridRight_c21 : (fun (P : Program) (f : FuncId) (fn : Func) (s : ChangeSpec) (c : OpenClaim) => ((c.loopsOut == fn.resultTypes.toList.any (P.loopsFrom ·)) : Bool)) Tryd.prog 11 Tryd.f11 (OpenSpec.ofChange Rows.gridRightSpec).bare Rows.gridRightRow = true := by kernel_rfl
theorem gridRight_c23 : (fun (P : Program) (f : FuncId) (fn : Func) (s : ChangeSpec) (c : OpenClaim) => (c.shortTexts.isNone : Bool)) Tryd.prog 11 Tryd.f11 (OpenSpec.ofChange Rows.gridRightSpec).bare Rows.gridRightRow = true := by kernel_rfl
theorem gridRight_c28 : (fun (P : Program) (f : FuncId) (fn : Func) (s : ChangeSpec) (c : OpenClaim) => ((c.kinds == (if c.domain.isEmpty then [] else fn.params.toList.map fun t => match P.underlying t with | some (.int k) => some k | _ => none)) : Bool)) Tryd.prog 11 Tryd.f11 (OpenSpec.ofChange Rows.gridRightSpec).bare Rows.gridRightRow = true := by kernel_rfl
theorem gridRight_c29 : (fun (P : Program) (f : FuncId) (fn : Func) (s : ChangeSpec) (c : OpenClaim) => ((c.pinned == c.pinnedBy) : Bool)) Tryd.prog 11 Tryd.f11 (OpenSpec.ofChange Rows.gridRightSpec).bare Rows.gridRightRow = true := by kernel_rfl
theorem gridRight_c30 : (fun (P : Program) (f : FuncId) (fn : Func) (s : ChangeSpec) (c : OpenClaim) => ((c.veiled == (fn.params.toList ++ s.plain.varTypes P ++ fn.resultTypes.toList).any (P.veiledRec ·)) : Bool)) Tryd.prog 11 Tryd.f11 (OpenSpec.ofChange Rows.gridRightSpec).bare Rows.gridRightRow = true := by kernel_rfl
theorem gridRight_c31 : (fun (P : Program) (f : FuncId) (fn : Func) (s : ChangeSpec) (c : OpenClaim) => (c.veiledFits P fn.params.toList (fn.params.toList ++ s.plain.varTypes P ++ fn.resultTypes.toList) : Bool)) Tryd.prog 11 Tryd.f11 (OpenSpec.ofChange Rows.gridRightSpec).bare Rows.gridRightRow = true := by kernel_rfl
theorem gridRight_closed : joinedFacts Tryd.prog 11 Tryd.f11 (OpenSpec.ofChange Rows.gridRightSpec).bare Rows.gridRightRow = true := (and_t (and_t (and_t (and_t (and_t (and_t (and_t (and_t (and_t (and_t (and_t (and_t (and_t (and_t (and_t (and_t (and_t (and_t (and_t (and_t (and_t (and_t (and_t (and_t (and_t (and_t (and_t (and_t (and_t (and_t (and_t gridRight_c0 laidOut) mapsRowed) gridRight_c3) gridRight_c4) gridRight_c5) stops_nil) gridRight_c7) stopKnobs_nil) gridRight_c9) gridRight_c10) gridRight_c11) gridRight_c12) gridRight_c13) gridRight_c14) gridRight_c15) gridRight_c16) gridRight_c17) gridRight_c18) gridRight_c19) gridRight_c20) gridRight_c21) (by rw [plainKeys]; rfl)) gridRight_c23) stopsHeard) mayEnter) (by rw [liftsFinal]; rfl)) (by rw [make_cut]; rfl)) gridRight_c28) gridRight_c29) gridRight_c30) gridRight_c31)

theorem gridRight_contract (H : Type) (enc : TypeId × Value → H) (W : World) (base : Nat) (args : Array Value) (ds gs : List (DataW H)) (before : List MemPlace)
    (hval : ∀ (j : Nat) t v, Tryd.f11.params[j]? = some t → args[j]? = some v → Value.okWide Tryd.prog W .any base t v)
    (hW : DataW.Whole enc Tryd.prog Tryd.f11.params.toList Rows.gridRightSpec.vars false W args.toList ds gs before) (hsz : (DataW.weightsEach Tryd.prog (Tryd.f11.params.toList ++ (OpenSpec.ofChange Rows.gridRightSpec).bare.plain.varTypes Tryd.prog) (ds ++ gs)).all (· ≤ reachBytes) = true) (hL : laidMetH Tryd.prog Rows.gridRightRow.laid W) :
    Calls Tryd.prog 11 args W fun e W' => ∃ v, e = .returned v ∧ Rows.gridRightSpec.post enc Tryd.prog Tryd.f11 false true false false W args v W' := by
  have hT : Eng.YtlfdmdhkbillpaaDoor.Tabs W := tabs_of hL
  have hW' := hW
  obtain ⟨p, q, hA, hV, rfl, hfz, hnd⟩ := hW
  rw [Tryd.params11] at hA hval hsz
  obtain ⟨v0, v1, v2, v3, v4, v5, v6, d0, d1, d2, d3, d4, d5, d6, p0, p1, p2, p3, p4, p5, p6, rfl, rfl, rfl, h0, h1, h2, h3, h4, h5, h6⟩ := trodAll_seven hA
  obtain ⟨rfl, rfl⟩ := trodVars_none hV
  obtain ⟨n0, t0⟩ := h0
  obtain ⟨a0, b0, l0, f0, k0⟩ := opens_grid.opens enc W n0 _ _ t0
  have r0 := vrel_struct (show Tryd.prog.underlying 41 = _ from Tryd.underlying41) (hval 0 41 v0 rfl rfl) l0
  replace f0 := f0 (reach_of hsz 0 41 _ rfl rfl)
  obtain ⟨n1, t1⟩ := h1
  obtain ⟨a1, b1, l1, f1, k1⟩ := opens_grid.opens enc W n1 _ _ t1
  have r1 := vrel_struct (show Tryd.prog.underlying 41 = _ from Tryd.underlying41) (hval 1 41 v1 rfl rfl) l1
  replace f1 := f1 (reach_of hsz 1 41 _ rfl rfl)
  obtain ⟨n2, t2⟩ := h2
  obtain ⟨a2, b2, l2, f2, k2⟩ := opens_rect.opens enc W n2 _ _ t2
  have r2 := vrel_struct (show Tryd.prog.underlying 43 = _ from Tryd.underlying43) (hval 2 43 v2 rfl rfl) l2
  replace f2 := f2 (reach_of hsz 2 43 _ rfl rfl)
  obtain ⟨n3, t3⟩ := h3
  obtain ⟨a3, b3, l3, f3, k3⟩ := opens_cell.opens enc W n3 _ _ t3
  have r3 := vrel_struct (show Tryd.prog.underlying 45 = _ from Tryd.underlying45) (hval 3 45 v3 rfl rfl) l3
  replace f3 := f3 (reach_of hsz 3 45 _ rfl rfl)
  obtain ⟨a4, rfl, rfl, rfl, w4⟩ := open_int Tryd.underlying3 (hval 4 3 v4 rfl rfl) h4
  have b4 : -9223372036854775808 ≤ a4 ∧ a4 ≤ 9223372036854775807 := by simpa [Lit.wf, IntKind.min, IntKind.max, IntKind.signed, IntKind.bits] using w4
  obtain ⟨a5, rfl, rfl, rfl, w5⟩ := open_int Tryd.underlying3 (hval 5 3 v5 rfl rfl) h5
  have b5 : -9223372036854775808 ≤ a5 ∧ a5 ≤ 9223372036854775807 := by simpa [Lit.wf, IntKind.min, IntKind.max, IntKind.signed, IntKind.bits] using w5
  obtain ⟨a6, rfl, rfl, rfl, w6⟩ := open_string Tryd.underlying9 (hval 6 9 v6 rfl rfl) h6
  have b6 : a6.data.toList.length ≤ 140737488355328 := reach_str (reach_of hsz 6 9 _ rfl rfl)
  refine ((Eng.YtlfdmdhkbillpaaDoor.gridRight_ok W hT a0 (grid_ok b0 f0) a1 (grid_ok b1 f1) a2 b2 a3 b3 a4 b4 a5 b5 a6.data.toList b6).law [v0, v1, v2, v3, .int .i64 a4, .int .i64 a5, .string a6] rfl (fun i hi => ?_)).mono fun e W' ⟨he, hb⟩ => ⟨_, he, ?_⟩
  · match i, hi with
    | 0, _ => exact r0
    | 1, _ => exact r1
    | 2, _ => exact r2
    | 3, _ => exact r3
    | 4, _ => exact .int _ _
    | 5, _ => exact .int _ _
    | 6, _ => exact .str _
  · exact law_post laidOut (by kernel_rfl) (by kernel_rfl) Tryd.underlying4 (by kernel_rfl) hW' rfl hb

theorem gridRight_reads (os : Os) {H : Type} (enc : TypeId × Value → H) : ∃ places, DataW.whole enc Tryd.prog ((u8World os).forCall (fun _ _ => 0) ⟨#[], #[.agg #[.int .i64 0, .int .i64 0, .slice none 0 0], .agg #[.int .i64 0, .int .i64 0, .slice none 0 0], .agg #[.int .i64 0, .int .i64 0, .int .i64 0, .int .i64 0], .agg #[.int .i32 0, .int .i64 0, .int .i64 0, .int .i64 0], .int .i64 0, .int .i64 0, .string ⟨#[]⟩], []⟩).memory Tryd.f11.params.toList Rows.gridRightSpec.vars false (#[.agg #[.int .i64 0, .int .i64 0, .slice none 0 0], .agg #[.int .i64 0, .int .i64 0, .slice none 0 0], .agg #[.int .i64 0, .int .i64 0, .int .i64 0, .int .i64 0], .agg #[.int .i32 0, .int .i64 0, .int .i64 0, .int .i64 0], .int .i64 0, .int .i64 0, .string ⟨#[]⟩] : Array Value).toList 8 = some ([.agg [.lit (.int .i64 0), .lit (.int .i64 0), .nil], .agg [.lit (.int .i64 0), .lit (.int .i64 0), .nil], .agg [.lit (.int .i64 0), .lit (.int .i64 0), .lit (.int .i64 0), .lit (.int .i64 0)], .agg [.lit (.int .i32 0), .agg [.lit (.int .i64 0), .lit (.int .i64 0), .lit (.int .i64 0)]], .lit (.int .i64 0), .lit (.int .i64 0), .lit (.string [])], [], places) :=
  ⟨[], by kernel_rfl⟩

theorem gridRight_lifted (os : Os) (started : os.Started) (H : Type) (enc : TypeId × Value → H) (F : Stop.Interp) :
    ReturnsInHanded {} Tryd.checked os 11 .any ((OpenSpec.ofChange Rows.gridRightSpec).preRow enc Tryd.prog Tryd.f11 Rows.gridRightRow.domain false Rows.gridRightRow.laid) (((OpenSpec.ofChange Rows.gridRightSpec).at F).post enc Tryd.prog Tryd.f11 false true false false) := by
  obtain ⟨places, hx⟩ := gridRight_reads os enc
  refine returnsInHanded_of_row (C := Tryd.checked) (s := (OpenSpec.ofChange Rows.gridRightSpec)) own started (by as_aux_lemma => kernel_rfl) Tryd.func11
    (witness_row_at (enc := enc) (C := Tryd.checked) false (u8World os) #[.agg #[.int .i64 0, .int .i64 0, .slice none 0 0], .agg #[.int .i64 0, .int .i64 0, .slice none 0 0], .agg #[.int .i64 0, .int .i64 0, .int .i64 0, .int .i64 0], .agg #[.int .i32 0, .int .i64 0, .int .i64 0, .int .i64 0], .int .i64 0, .int .i64 0, .string ⟨#[]⟩] rfl (by as_aux_lemma => kernel_rfl) (by as_aux_lemma => kernel_rfl) (by as_aux_lemma => kernel_rfl)
      (OpenSpec.preRow_of_cond 8 hx (by as_aux_lemma => kernel_rfl) (fun k hk => by cases hk) (by as_aux_lemma => kernel_rfl) (u8_met os _))) ?_
  intro W base args ds gs before hval hW _ _ hsz hL _ _
  exact gridRight_contract H enc W base args ds gs before hval hW hsz hL

theorem gridRight_said : Rows.GridRightSaid :=
  OpenClaim.holds_of_cond 11 Tryd.f11 rfl rfl rfl rfl rfl rfl rfl ⟨rfl, rfl, rfl, rfl, rfl⟩ rfl rfl rfl rfl rfl (by as_aux_lemma => kernel_rfl) Tryd.func11 gridRight_closed
    (of_decide_eq_true (by as_aux_lemma => kernel_rfl)) (by unfold Func.isWrapper; rw [if_neg (of_decide_eq_false (by kernel_rfl))]; exact ⟨rfl, rfl⟩)
    (fun os started H enc _ F => by rw [OpenClaim.pre_eq_preRow]; exact gridRight_lifted os started H enc F)

theorem gridRight_plain (f : FuncId) (fn : Func) (hf : Tryd.pinned.checked.prog.funcNamed Rows.gridRightRow.func = some f) (hfn : Tryd.pinned.checked.prog.funcs[f]? = some fn) :
    false = Tryd.pinned.checked.prog.looks [] ∧ ∀ (j : Nat) t, fn.params[j]? = some t → Tryd.pinned.checked.prog.wantsStandIn t = false := by
  obtain rfl : f = 11 := Option.some.inj ((show Tryd.prog.funcNamed Rows.gridRightRow.func = some 11 by kernel_rfl).symm.trans hf) |>.symm
  obtain rfl : fn = Tryd.f11 := (Option.some.inj (Tryd.func11.symm.trans hfn)).symm
  refine ⟨looks.symm, fun j t ht => ?_⟩
  have hall : (Tryd.f11.params.toList.all fun t => !Tryd.prog.wantsStandIn t) = true := by kernel_rfl
  have := List.all_eq_true.1 hall t (Array.mem_toList_iff.2 (Array.mem_of_getElem? ht))
  show Tryd.prog.wantsStandIn t = false
  simpa using this

theorem gridRight_card : Rows.GridRightCardSaid :=
  Claim7.holds_tied_plain_at .later [] _ _ _ _ gridRight_said (fun _ h => by cases h) (by as_aux_lemma => kernel_rfl) (fun _ h => by cases h) gridRight_row_tie rfl ⟨rfl, rfl⟩ main_is rfl gridRight_plain (by as_aux_lemma => kernel_rfl)
end Go.Proofs.YtlfdmdhkbillpaaDoor
