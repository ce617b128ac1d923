/- Proved here: trellislaw.ShiftLines returns true at every screen and every number, and each argument reads afterwards as before. Narrower than the first form: what it reads is of bulk at most 1048576. -/
import Derived.Test.YtphoefglfbifdaaDoorMC1
import Derived.Test.YtphoefglfbifdaaDoorMK19
import Derived.Test.YtphoefglfbifdaaDoorMC3
set_option linter.unusedSimpArgs false
set_option maxRecDepth 100000
set_option linter.unusedVariables false
namespace Go.Proofs.YtphoefglfbifdaaDoor
open Go Go.Eng Go.ChangeShapes Go.WideShapes Go.ChangeAt Go.RowKit
open Go.ChangeMaps (open_string)

theorem shiftLines_c0 : (fun (P : Program) (f : FuncId) (fn : Func) (s : ChangeSpec) (c : OpenClaim) => (c.wf (OpenSpec.ofChange s) : Bool)) Tryd.prog 5 Tryd.f5 (Rows.OpenSpec.upto Rows.shiftLinesSpec).bare Rows.shiftLinesUptoRow = true := by kernel_rfl
theorem shiftLines_c3 : (fun (P : Program) (f : FuncId) (fn : Func) (s : ChangeSpec) (c : OpenClaim) => (fn.params.all (P.readableRec ·) : Bool)) Tryd.prog 5 Tryd.f5 (Rows.OpenSpec.upto Rows.shiftLinesSpec).bare Rows.shiftLinesUptoRow = true := by kernel_rfl
theorem shiftLines_c4 : (fun (P : Program) (f : FuncId) (fn : Func) (s : ChangeSpec) (c : OpenClaim) => (namedTie P c.named s.vars : Bool)) Tryd.prog 5 Tryd.f5 (Rows.OpenSpec.upto Rows.shiftLinesSpec).bare Rows.shiftLinesUptoRow = true := by kernel_rfl
theorem shiftLines_c5 : (fun (P : Program) (f : FuncId) (fn : Func) (s : ChangeSpec) (c : OpenClaim) => ((c.stops == []) : Bool)) Tryd.prog 5 Tryd.f5 (Rows.OpenSpec.upto Rows.shiftLinesSpec).bare Rows.shiftLinesUptoRow = true := by kernel_rfl
theorem shiftLines_c7 : (fun (P : Program) (f : FuncId) (fn : Func) (s : ChangeSpec) (c : OpenClaim) => ((c.knobs == []) : Bool)) Tryd.prog 5 Tryd.f5 (Rows.OpenSpec.upto Rows.shiftLinesSpec).bare Rows.shiftLinesUptoRow = true := by kernel_rfl
theorem shiftLines_c9 : (fun (P : Program) (f : FuncId) (fn : Func) (s : ChangeSpec) (c : OpenClaim) => ((c.inPlace == P.inPlace f) : Bool)) Tryd.prog 5 Tryd.f5 (Rows.OpenSpec.upto Rows.shiftLinesSpec).bare Rows.shiftLinesUptoRow = true := by kernel_rfl
theorem shiftLines_c10 : (fun (P : Program) (f : FuncId) (fn : Func) (s : ChangeSpec) (c : OpenClaim) => ((c.unfollowed == P.unfollowed f) : Bool)) Tryd.prog 5 Tryd.f5 (Rows.OpenSpec.upto Rows.shiftLinesSpec).bare Rows.shiftLinesUptoRow = true := by kernel_rfl
theorem shiftLines_c11 : (fun (P : Program) (f : FuncId) (fn : Func) (s : ChangeSpec) (c : OpenClaim) => ((c.recurses == P.recurses f) : Bool)) Tryd.prog 5 Tryd.f5 (Rows.OpenSpec.upto Rows.shiftLinesSpec).bare Rows.shiftLinesUptoRow = true := by kernel_rfl
theorem shiftLines_c12 : (fun (P : Program) (f : FuncId) (fn : Func) (s : ChangeSpec) (c : OpenClaim) => ((c.named == P.varsNamed f) : Bool)) Tryd.prog 5 Tryd.f5 (Rows.OpenSpec.upto Rows.shiftLinesSpec).bare Rows.shiftLinesUptoRow = true := by kernel_rfl
theorem shiftLines_c13 : (fun (P : Program) (f : FuncId) (fn : Func) (s : ChangeSpec) (c : OpenClaim) => ((c.maps == (fn.params.toList ++ s.plain.varTypes P).any (P.mapsRec ·)) : Bool)) Tryd.prog 5 Tryd.f5 (Rows.OpenSpec.upto Rows.shiftLinesSpec).bare Rows.shiftLinesUptoRow = true := by kernel_rfl
theorem shiftLines_c14 : (fun (P : Program) (f : FuncId) (fn : Func) (s : ChangeSpec) (c : OpenClaim) => ((c.ifaces == (fn.params.toList ++ s.plain.varTypes P).any (P.ifacesRec ·)) : Bool)) Tryd.prog 5 Tryd.f5 (Rows.OpenSpec.upto Rows.shiftLinesSpec).bare Rows.shiftLinesUptoRow = true := by kernel_rfl
theorem shiftLines_c15 : (fun (P : Program) (f : FuncId) (fn : Func) (s : ChangeSpec) (c : OpenClaim) => ((c.mapsOut == P.mapsAmong fn.resultTypes.toList) : Bool)) Tryd.prog 5 Tryd.f5 (Rows.OpenSpec.upto Rows.shiftLinesSpec).bare Rows.shiftLinesUptoRow = true := by kernel_rfl
theorem shiftLines_c16 : (fun (P : Program) (f : FuncId) (fn : Func) (s : ChangeSpec) (c : OpenClaim) => ((c.loops == (fn.params.toList ++ s.plain.varTypes P).any (P.loopsFrom ·)) : Bool)) Tryd.prog 5 Tryd.f5 (Rows.OpenSpec.upto Rows.shiftLinesSpec).bare Rows.shiftLinesUptoRow = true := by kernel_rfl
theorem shiftLines_c17 : (fun (P : Program) (f : FuncId) (fn : Func) (s : ChangeSpec) (c : OpenClaim) => ((c.wideKeys == (fn.params.toList ++ s.plain.varTypes P ++ fn.resultTypes.toList).any (P.wideKeysFrom ·)) : Bool)) Tryd.prog 5 Tryd.f5 (Rows.OpenSpec.upto Rows.shiftLinesSpec).bare Rows.shiftLinesUptoRow = true := by kernel_rfl
theorem shiftLines_c18 : (fun (P : Program) (f : FuncId) (fn : Func) (s : ChangeSpec) (c : OpenClaim) => (s.vars.all (P.varReadable ·) : Bool)) Tryd.prog 5 Tryd.f5 (Rows.OpenSpec.upto Rows.shiftLinesSpec).bare Rows.shiftLinesUptoRow = true := by kernel_rfl
theorem shiftLines_c19 : (fun (P : Program) (f : FuncId) (fn : Func) (s : ChangeSpec) (c : OpenClaim) => (fn.resultTypes.all (fun t => P.readableRec t && decide (t < P.types.size)) : Bool)) Tryd.prog 5 Tryd.f5 (Rows.OpenSpec.upto Rows.shiftLinesSpec).bare Rows.shiftLinesUptoRow = true := by kernel_rfl
theorem shiftLines_c20 : (fun (P : Program) (f : FuncId) (fn : Func) (s : ChangeSpec) (c : OpenClaim) => ((c.ifacesOut == fn.resultTypes.toList.any (P.ifacesRec ·)) : Bool)) Tryd.prog 5 Tryd.f5 (Rows.OpenSpec.upto Rows.shiftLinesSpec).bare Rows.shiftLinesUptoRow = true := by kernel_rfl
theorem shiftLines_c21 : (fun (P : Program) (f : FuncId) (fn : Func) (s : ChangeSpec) (c : OpenClaim) => ((c.loopsOut == fn.resultTypes.toList.any (P.loopsFrom ·)) : Bool)) Tryd.prog 5 Tryd.f5 (Rows.OpenSpec.upto Rows.shiftLinesSpec).bare Rows.shiftLinesUptoRow = true := by kernel_rfl
theorem shiftLines_c23 : (fun (P : Program) (f : FuncId) (fn : Func) (s : ChangeSpec) (c : OpenClaim) => (c.shortTexts.isNone : Bool)) Tryd.prog 5 Tryd.f5 (Rows.OpenSpec.upto Rows.shiftLinesSpec).bare Rows.shiftLinesUptoRow = true := by kernel_rfl
theorem shiftLines_c28 : (fun (P : Program) (f : FuncId) (fn : Func) (s : ChangeSpec) (c : OpenClaim) => ((c.kinds == (if c.domain.isEmpty then [] else fn.params.toList.map fun t => match P.underlying t with | some (.int k) => some k | _ => none)) : Bool)) Tryd.prog 5 Tryd.f5 (Rows.OpenSpec.upto Rows.shiftLinesSpec).bare Rows.shiftLinesUptoRow = true := by kernel_rfl
theorem shiftLines_c29 : (fun (P : Program) (f : FuncId) (fn : Func) (s : ChangeSpec) (c : OpenClaim) => ((c.pinned == c.pinnedBy) : Bool)) Tryd.prog 5 Tryd.f5 (Rows.OpenSpec.upto Rows.shiftLinesSpec).bare Rows.shiftLinesUptoRow = true := by kernel_rfl
theorem shiftLines_c30 : (fun (P : Program) (f : FuncId) (fn : Func) (s : ChangeSpec) (c : OpenClaim) => ((c.veiled == (fn.params.toList ++ s.plain.varTypes P ++ fn.resultTypes.toList).any (P.veiledRec ·)) : Bool)) Tryd.prog 5 Tryd.f5 (Rows.OpenSpec.upto Rows.shiftLinesSpec).bare Rows.shiftLinesUptoRow = true := by kernel_rfl
theorem shiftLines_c31 : (fun (P : Program) (f : FuncId) (fn : Func) (s : ChangeSpec) (c : OpenClaim) => (c.veiledFits P fn.params.toList (fn.params.toList ++ s.plain.varTypes P ++ fn.resultTypes.toList) : Bool)) Tryd.prog 5 Tryd.f5 (Rows.OpenSpec.upto Rows.shiftLinesSpec).bare Rows.shiftLinesUptoRow = true := by kernel_rfl
theorem shiftLines_closed : joinedFacts Tryd.prog 5 Tryd.f5 (Rows.OpenSpec.upto Rows.shiftLinesSpec).bare Rows.shiftLinesUptoRow = true := (and_t (and_t (and_t (and_t (and_t (and_t (and_t (and_t (and_t (and_t (and_t (and_t (and_t (and_t (and_t (and_t (and_t (and_t (and_t (and_t (and_t (and_t (and_t (and_t (and_t (and_t (and_t (and_t (and_t (and_t (and_t shiftLines_c0 laidOut) mapsRowed) shiftLines_c3) shiftLines_c4) shiftLines_c5) stops_nil) shiftLines_c7) stopKnobs_nil) shiftLines_c9) shiftLines_c10) shiftLines_c11) shiftLines_c12) shiftLines_c13) shiftLines_c14) shiftLines_c15) shiftLines_c16) shiftLines_c17) shiftLines_c18) shiftLines_c19) shiftLines_c20) shiftLines_c21) (by rw [plainKeys]; rfl)) shiftLines_c23) stopsHeard) mayEnter) (by rw [liftsFinal]; rfl)) (by rw [make_cut]; rfl)) shiftLines_c28) shiftLines_c29) shiftLines_c30) shiftLines_c31)

theorem shiftLines_contract (H : Type) (enc : TypeId × Value → H) (W : World) (base : Nat) (args : Array Value) (ds gs : List (DataW H)) (before : List MemPlace)
    (hval : ∀ (j : Nat) t v, Tryd.f5.params[j]? = some t → args[j]? = some v → Value.okWide Tryd.prog W .any base t v)
    (hW : DataW.Whole enc Tryd.prog Tryd.f5.params.toList Rows.shiftLinesSpec.vars false W args.toList ds gs before) (hsz : (DataW.weightsEach Tryd.prog (Tryd.f5.params.toList ++ (Rows.OpenSpec.upto Rows.shiftLinesSpec).bare.plain.varTypes Tryd.prog) (ds ++ gs)).all (· ≤ reachBytes) = true) (hL : laidMetH Tryd.prog Rows.shiftLinesUptoRow.laid W) (hk : Rows.uptoSmall H (ds ++ gs) = true) :
    Calls Tryd.prog 5 args W fun e W' => ∃ v, e = .returned v ∧ Rows.shiftLinesSpec.post enc Tryd.prog Tryd.f5 false true false false W args v W' := by
  have hT : Eng.YtphoefglfbifdaaDoor.Tabs W := tabs_of hL
  have hW' := hW
  obtain ⟨p, q, hA, hV, rfl, hfz, hnd⟩ := hW
  rw [Tryd.params5] at hA hval hsz
  obtain ⟨v0, v1, d0, d1, p0, p1, rfl, rfl, rfl, h0, h1⟩ := trodAll_two hA
  obtain ⟨rfl, rfl⟩ := trodVars_none hV
  obtain ⟨n0, t0⟩ := h0
  obtain ⟨a0, b0, l0, f0, k0⟩ := opens_screen.opens enc W n0 _ _ t0
  have r0 := vrel_struct (show Tryd.prog.underlying 32 = _ from Tryd.underlying32) (hval 0 32 v0 rfl rfl) l0
  replace f0 := f0 (reach_of hsz 0 32 _ rfl rfl)
  replace k0 := Nat.le_trans k0 (upto_of hk 0 _ rfl)
  obtain ⟨a1, rfl, rfl, rfl, w1⟩ := open_int Tryd.underlying3 (hval 1 3 v1 rfl rfl) h1
  have b1 : -9223372036854775808 ≤ a1 ∧ a1 ≤ 9223372036854775807 := by simpa [Lit.wf, IntKind.min, IntKind.max, IntKind.signed, IntKind.bits] using w1
  refine ((Eng.YtphoefglfbifdaaDoor.shiftLines_ok W hT a0 (scr_ok b0 f0 k0) a1 b1).law [v0, .int .i64 a1] rfl (fun i hi => ?_)).mono fun e W' ⟨he, hb⟩ => ⟨_, he, ?_⟩
  · match i, hi with
    | 0, _ => exact r0
    | 1, _ => exact .int _ _
  · exact law_post laidOut (by kernel_rfl) (by kernel_rfl) Tryd.underlying4 (by kernel_rfl) hW' rfl hb

theorem shiftLines_reads (os : Os) {H : Type} (enc : TypeId × Value → H) : ∃ places, DataW.whole enc Tryd.prog ((u8World os).forCall (fun _ _ => 0) ⟨#[], #[.agg #[.int .i64 0, .int .i64 0, .slice none 0 0, .int .i64 0, .int .i64 0, .bool false, .int .i64 0, .int .i64 0, .int .i64 0, .int .i64 0, .int .i64 0, .int .i64 0, .slice none 0 0, .int .i64 0, .int .i64 0, .int .i64 0, .int .i64 0, .int .i64 0, .int .i64 0, .int .i32 0, .string ⟨#[]⟩, .slice none 0 0], .int .i64 0], []⟩).memory Tryd.f5.params.toList Rows.shiftLinesSpec.vars false (#[.agg #[.int .i64 0, .int .i64 0, .slice none 0 0, .int .i64 0, .int .i64 0, .bool false, .int .i64 0, .int .i64 0, .int .i64 0, .int .i64 0, .int .i64 0, .int .i64 0, .slice none 0 0, .int .i64 0, .int .i64 0, .int .i64 0, .int .i64 0, .int .i64 0, .int .i64 0, .int .i32 0, .string ⟨#[]⟩, .slice none 0 0], .int .i64 0] : Array Value).toList 8 = some ([.agg [.agg [.lit (.int .i64 0), .lit (.int .i64 0), .nil], .lit (.int .i64 0), .lit (.int .i64 0), .lit (.bool false), .agg [.lit (.int .i64 0), .lit (.int .i64 0), .lit (.int .i64 0)], .lit (.int .i64 0), .lit (.int .i64 0), .lit (.int .i64 0), .nil, .agg [.lit (.int .i64 0), .lit (.int .i64 0), .agg [.lit (.int .i64 0), .lit (.int .i64 0), .lit (.int .i64 0)], .lit (.int .i64 0)], .lit (.int .i32 0), .lit (.string []), .nil], .lit (.int .i64 0)], [], places) :=
  ⟨[], by kernel_rfl⟩

theorem shiftLines_lifted (os : Os) (started : os.Started) (H : Type) (enc : TypeId × Value → H) (F : Stop.Interp) :
    ReturnsInHanded {} Tryd.checked os 5 .any ((Rows.OpenSpec.upto Rows.shiftLinesSpec).preRow enc Tryd.prog Tryd.f5 Rows.shiftLinesUptoRow.domain false Rows.shiftLinesUptoRow.laid) (((Rows.OpenSpec.upto Rows.shiftLinesSpec).at F).post enc Tryd.prog Tryd.f5 false true false false) := by
  obtain ⟨places, hx⟩ := shiftLines_reads os enc
  refine returnsInHanded_of_row (C := Tryd.checked) (s := (Rows.OpenSpec.upto Rows.shiftLinesSpec)) own started (by as_aux_lemma => kernel_rfl) Tryd.func5
    (witness_row_at (enc := enc) (C := Tryd.checked) false (u8World os) #[.agg #[.int .i64 0, .int .i64 0, .slice none 0 0, .int .i64 0, .int .i64 0, .bool false, .int .i64 0, .int .i64 0, .int .i64 0, .int .i64 0, .int .i64 0, .int .i64 0, .slice none 0 0, .int .i64 0, .int .i64 0, .int .i64 0, .int .i64 0, .int .i64 0, .int .i64 0, .int .i32 0, .string ⟨#[]⟩, .slice none 0 0], .int .i64 0] rfl (by as_aux_lemma => kernel_rfl) (by as_aux_lemma => kernel_rfl) (by as_aux_lemma => kernel_rfl)
      (OpenSpec.preRow_of_cond 8 hx (by as_aux_lemma => kernel_rfl) (fun k hk => by cases hk; kernel_rfl) (by as_aux_lemma => kernel_rfl) (u8_met os _))) ?_
  intro W base args ds gs before hval hW _ hcond hsz hL _ _
  exact shiftLines_contract H enc W base args ds gs before hval hW hsz hL (hcond _ rfl)

theorem shiftLines_said : Rows.ShiftLinesUptoSaid :=
  OpenClaim.holds_of_cond 5 Tryd.f5 rfl rfl rfl rfl rfl rfl rfl ⟨rfl, rfl, rfl, rfl, rfl⟩ rfl rfl rfl rfl rfl (by as_aux_lemma => kernel_rfl) Tryd.func5 shiftLines_closed
    (of_decide_eq_true (by as_aux_lemma => kernel_rfl)) (by unfold Func.isWrapper; rw [if_neg (of_decide_eq_false (by kernel_rfl))]; exact ⟨rfl, rfl⟩)
    (fun os started H enc _ F => by rw [OpenClaim.pre_eq_preRow]; exact shiftLines_lifted os started H enc F)

theorem shiftLines_plain (f : FuncId) (fn : Func) (hf : Tryd.pinned.checked.prog.funcNamed Rows.shiftLinesUptoRow.func = some f) (hfn : Tryd.pinned.checked.prog.funcs[f]? = some fn) :
    false = Tryd.pinned.checked.prog.looks [] ∧ ∀ (j : Nat) t, fn.params[j]? = some t → Tryd.pinned.checked.prog.wantsStandIn t = false := by
  obtain rfl : f = 5 := Option.some.inj ((show Tryd.prog.funcNamed Rows.shiftLinesUptoRow.func = some 5 by kernel_rfl).symm.trans hf) |>.symm
  obtain rfl : fn = Tryd.f5 := (Option.some.inj (Tryd.func5.symm.trans hfn)).symm
  refine ⟨looks.symm, fun j t ht => ?_⟩
  have hall : (Tryd.f5.params.toList.all fun t => !Tryd.prog.wantsStandIn t) = true := by kernel_rfl
  have := List.all_eq_true.1 hall t (Array.mem_toList_iff.2 (Array.mem_of_getElem? ht))
  show Tryd.prog.wantsStandIn t = false
  simpa using this

theorem shiftLines_card : Rows.ShiftLinesUptoCardSaid :=
  Claim7.holds_tied_plain_at .later [] _ _ _ _ shiftLines_said (fun _ h => by cases h) (by as_aux_lemma => kernel_rfl) (fun _ h => by cases h) shiftLinesUpto_row_tie rfl ⟨rfl, rfl⟩ main_is rfl shiftLines_plain (by as_aux_lemma => kernel_rfl)
end Go.Proofs.YtphoefglfbifdaaDoor
