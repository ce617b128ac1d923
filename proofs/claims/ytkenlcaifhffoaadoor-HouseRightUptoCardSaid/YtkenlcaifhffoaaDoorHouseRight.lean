/- Proved here: trellislaw.HouseRight returns true at every house, pane, way, session, window and name, and each argument reads afterwards as before. Narrower than the first form: what it reads is of bulk at most 1048576. -/
import Derived.Test.YtkenlcaifhffoaaDoorMC1
import Derived.Test.YtkenlcaifhffoaaDoorMHR1
import Derived.Test.YtkenlcaifhffoaaDoorMC17
set_option linter.unusedSimpArgs false
set_option maxRecDepth 100000
set_option linter.unusedVariables false
namespace Go.Proofs.YtkenlcaifhffoaaDoor
open Go Go.Eng Go.ChangeShapes Go.WideShapes Go.ChangeAt Go.RowKit
open Go.ChangeMaps (open_string)

theorem houseRight_c0 : (fun (P : Program) (f : FuncId) (fn : Func) (s : ChangeSpec) (c : OpenClaim) => (c.wf (OpenSpec.ofChange s) : Bool)) Tryd.prog 4 Tryd.f4 (Rows.OpenSpec.upto Rows.houseRightSpec).bare Rows.houseRightUptoRow = true := by kernel_rfl
theorem houseRight_c3 : (fun (P : Program) (f : FuncId) (fn : Func) (s : ChangeSpec) (c : OpenClaim) => (fn.params.all (P.readableRec ·) : Bool)) Tryd.prog 4 Tryd.f4 (Rows.OpenSpec.upto Rows.houseRightSpec).bare Rows.houseRightUptoRow = true := by kernel_rfl
theorem houseRight_c4 : (fun (P : Program) (f : FuncId) (fn : Func) (s : ChangeSpec) (c : OpenClaim) => (namedTie P c.named s.vars : Bool)) Tryd.prog 4 Tryd.f4 (Rows.OpenSpec.upto Rows.houseRightSpec).bare Rows.houseRightUptoRow = true := by kernel_rfl
theorem houseRight_c5 : (fun (P : Program) (f : FuncId) (fn : Func) (s : ChangeSpec) (c : OpenClaim) => ((c.stops == []) : Bool)) Tryd.prog 4 Tryd.f4 (Rows.OpenSpec.upto Rows.houseRightSpec).bare Rows.houseRightUptoRow = true := by kernel_rfl
theorem houseRight_c7 : (fun (P : Program) (f : FuncId) (fn : Func) (s : ChangeSpec) (c : OpenClaim) => ((c.knobs == []) : Bool)) Tryd.prog 4 Tryd.f4 (Rows.OpenSpec.upto Rows.houseRightSpec).bare Rows.houseRightUptoRow = true := by kernel_rfl
theorem houseRight_c9 : (fun (P : Program) (f : FuncId) (fn : Func) (s : ChangeSpec) (c : OpenClaim) => ((c.inPlace == P.inPlace f) : Bool)) Tryd.prog 4 Tryd.f4 (Rows.OpenSpec.upto Rows.houseRightSpec).bare Rows.houseRightUptoRow = true := by kernel_rfl
theorem houseRight_c10 : (fun (P : Program) (f : FuncId) (fn : Func) (s : ChangeSpec) (c : OpenClaim) => ((c.unfollowed == P.unfollowed f) : Bool)) Tryd.prog 4 Tryd.f4 (Rows.OpenSpec.upto Rows.houseRightSpec).bare Rows.houseRightUptoRow = true := by kernel_rfl
theorem houseRight_c11 : (fun (P : Program) (f : FuncId) (fn : Func) (s : ChangeSpec) (c : OpenClaim) => ((c.recurses == P.recurses f) : Bool)) Tryd.prog 4 Tryd.f4 (Rows.OpenSpec.upto Rows.houseRightSpec).bare Rows.houseRightUptoRow = true := by kernel_rfl
theorem houseRight_c12 : (fun (P : Program) (f : FuncId) (fn : Func) (s : ChangeSpec) (c : OpenClaim) => ((c.named == P.varsNamed f) : Bool)) Tryd.prog 4 Tryd.f4 (Rows.OpenSpec.upto Rows.houseRightSpec).bare Rows.houseRightUptoRow = true := by kernel_rfl
theorem houseRight_c13 : (fun (P : Program) (f : FuncId) (fn : Func) (s : ChangeSpec) (c : OpenClaim) => ((c.maps == (fn.params.toList ++ s.plain.varTypes P).any (P.mapsRec ·)) : Bool)) Tryd.prog 4 Tryd.f4 (Rows.OpenSpec.upto Rows.houseRightSpec).bare Rows.houseRightUptoRow = true := by kernel_rfl
theorem houseRight_c14 : (fun (P : Program) (f : FuncId) (fn : Func) (s : ChangeSpec) (c : OpenClaim) => ((c.ifaces == (fn.params.toList ++ s.plain.varTypes P).any (P.ifacesRec ·)) : Bool)) Tryd.prog 4 Tryd.f4 (Rows.OpenSpec.upto Rows.houseRightSpec).bare Rows.houseRightUptoRow = true := by kernel_rfl
theorem houseRight_c15 : (fun (P : Program) (f : FuncId) (fn : Func) (s : ChangeSpec) (c : OpenClaim) => ((c.mapsOut == P.mapsAmong fn.resultTypes.toList) : Bool)) Tryd.prog 4 Tryd.f4 (Rows.OpenSpec.upto Rows.houseRightSpec).bare Rows.houseRightUptoRow = true := by kernel_rfl
theorem houseRight_c16 : (fun (P : Program) (f : FuncId) (fn : Func) (s : ChangeSpec) (c : OpenClaim) => ((c.loops == (fn.params.toList ++ s.plain.varTypes P).any (P.loopsFrom ·)) : Bool)) Tryd.prog 4 Tryd.f4 (Rows.OpenSpec.upto Rows.houseRightSpec).bare Rows.houseRightUptoRow = true := by kernel_rfl
theorem houseRight_c17 : (fun (P : Program) (f : FuncId) (fn : Func) (s : ChangeSpec) (c : OpenClaim) => ((c.wideKeys == (fn.params.toList ++ s.plain.varTypes P ++ fn.resultTypes.toList).any (P.wideKeysFrom ·)) : Bool)) Tryd.prog 4 Tryd.f4 (Rows.OpenSpec.upto Rows.houseRightSpec).bare Rows.houseRightUptoRow = true := by kernel_rfl
theorem houseRight_c18 : (fun (P : Program) (f : FuncId) (fn : Func) (s : ChangeSpec) (c : OpenClaim) => (s.vars.all (P.varReadable ·) : Bool)) Tryd.prog 4 Tryd.f4 (Rows.OpenSpec.upto Rows.houseRightSpec).bare Rows.houseRightUptoRow = true := by kernel_rfl
theorem houseRight_c19 : (fun (P : Program) (f : FuncId) (fn : Func) (s : ChangeSpec) (c : OpenClaim) => (fn.resultTypes.all (fun t => P.readableRec t && decide (t < P.types.size)) : Bool)) Tryd.prog 4 Tryd.f4 (Rows.OpenSpec.upto Rows.houseRightSpec).bare Rows.houseRightUptoRow = true := by kernel_rfl
theorem houseRight_c20 : (fun (P : Program) (f : FuncId) (fn : Func) (s : ChangeSpec) (c : OpenClaim) => ((c.ifacesOut == fn.resultTypes.toList.any (P.ifacesRec ·)) : Bool)) Tryd.prog 4 Tryd.f4 (Rows.OpenSpec.upto Rows.houseRightSpec).bare Rows.houseRightUptoRow = true := by kernel_rfl
theorem houseRight_c21 : (fun (P : Program) (f : FuncId) (fn : Func) (s : ChangeSpec) (c : OpenClaim) => ((c.loopsOut == fn.resultTypes.toList.any (P.loopsFrom ·)) : Bool)) Tryd.prog 4 Tryd.f4 (Rows.OpenSpec.upto Rows.houseRightSpec).bare Rows.houseRightUptoRow = true := by kernel_rfl
theorem houseRight_c23 : (fun (P : Program) (f : FuncId) (fn : Func) (s : ChangeSpec) (c : OpenClaim) => (c.shortTexts.isNone : Bool)) Tryd.prog 4 Tryd.f4 (Rows.OpenSpec.upto Rows.houseRightSpec).bare Rows.houseRightUptoRow = true := by kernel_rfl
theorem houseRight_c28 : (fun (P : Program) (f : FuncId) (fn : Func) (s : ChangeSpec) (c : OpenClaim) => ((c.kinds == (if c.domain.isEmpty then [] else fn.params.toList.map fun t => match P.underlying t with | some (.int k) => some k | _ => none)) : Bool)) Tryd.prog 4 Tryd.f4 (Rows.OpenSpec.upto Rows.houseRightSpec).bare Rows.houseRightUptoRow = true := by kernel_rfl
theorem houseRight_c29 : (fun (P : Program) (f : FuncId) (fn : Func) (s : ChangeSpec) (c : OpenClaim) => ((c.pinned == c.pinnedBy) : Bool)) Tryd.prog 4 Tryd.f4 (Rows.OpenSpec.upto Rows.houseRightSpec).bare Rows.houseRightUptoRow = true := by kernel_rfl
theorem houseRight_c30 : (fun (P : Program) (f : FuncId) (fn : Func) (s : ChangeSpec) (c : OpenClaim) => ((c.veiled == (fn.params.toList ++ s.plain.varTypes P ++ fn.resultTypes.toList).any (P.veiledRec ·)) : Bool)) Tryd.prog 4 Tryd.f4 (Rows.OpenSpec.upto Rows.houseRightSpec).bare Rows.houseRightUptoRow = true := by kernel_rfl
theorem houseRight_c31 : (fun (P : Program) (f : FuncId) (fn : Func) (s : ChangeSpec) (c : OpenClaim) => (c.veiledFits P fn.params.toList (fn.params.toList ++ s.plain.varTypes P ++ fn.resultTypes.toList) : Bool)) Tryd.prog 4 Tryd.f4 (Rows.OpenSpec.upto Rows.houseRightSpec).bare Rows.houseRightUptoRow = true := by kernel_rfl
theorem houseRight_closed : joinedFacts Tryd.prog 4 Tryd.f4 (Rows.OpenSpec.upto Rows.houseRightSpec).bare Rows.houseRightUptoRow = true := (and_t (and_t (and_t (and_t (and_t (and_t (and_t (and_t (and_t (and_t (and_t (and_t (and_t (and_t (and_t (and_t (and_t (and_t (and_t (and_t (and_t (and_t (and_t (and_t (and_t (and_t (and_t (and_t (and_t (and_t (and_t houseRight_c0 laidOut) mapsRowed) houseRight_c3) houseRight_c4) houseRight_c5) stops_nil) houseRight_c7) stopKnobs_nil) houseRight_c9) houseRight_c10) houseRight_c11) houseRight_c12) houseRight_c13) houseRight_c14) houseRight_c15) houseRight_c16) houseRight_c17) houseRight_c18) houseRight_c19) houseRight_c20) houseRight_c21) (by rw [plainKeys]; rfl)) houseRight_c23) stopsHeard) mayEnter) (by rw [liftsFinal]; rfl)) (by rw [make_cut]; rfl)) houseRight_c28) houseRight_c29) houseRight_c30) houseRight_c31)

theorem houseRight_contract (H : Type) (enc : TypeId × Value → H) (W : World) (base : Nat) (args : Array Value) (ds gs : List (DataW H)) (before : List MemPlace)
    (hval : ∀ (j : Nat) t v, Tryd.f4.params[j]? = some t → args[j]? = some v → Value.okWide Tryd.prog W .any base t v)
    (hW : DataW.Whole enc Tryd.prog Tryd.f4.params.toList Rows.houseRightSpec.vars false W args.toList ds gs before) (hsz : (DataW.weightsEach Tryd.prog (Tryd.f4.params.toList ++ (Rows.OpenSpec.upto Rows.houseRightSpec).bare.plain.varTypes Tryd.prog) (ds ++ gs)).all (· ≤ reachBytes) = true) (hL : laidMetH Tryd.prog Rows.houseRightUptoRow.laid W) (hk : Rows.uptoSmall H (ds ++ gs) = true) :
    Calls Tryd.prog 4 args W fun e W' => ∃ v, e = .returned v ∧ Rows.houseRightSpec.post enc Tryd.prog Tryd.f4 false true false false W args v W' := by
  have hT : Eng.YtkenlcaifhffoaaDoor.Tabs W := tabs_of hL
  have hW' := hW
  obtain ⟨p, q, hA, hV, rfl, hfz, hnd⟩ := hW
  rw [Tryd.params4] at hA hval hsz
  obtain ⟨v0, v1, v2, v3, v4, v5, d0, d1, d2, d3, d4, d5, p0, p1, p2, p3, p4, p5, rfl, rfl, rfl, h0, h1, h2, h3, h4, h5⟩ := trodAll_six hA
  obtain ⟨rfl, rfl⟩ := trodVars_none hV
  obtain ⟨n0, t0⟩ := h0
  obtain ⟨a0, b0, l0, f0, k0⟩ := opens_house.opens enc W n0 _ _ t0
  have r0 := vrel_struct (show Tryd.prog.underlying 25 = _ from Tryd.underlying25) (hval 0 25 v0 rfl rfl) l0
  replace f0 := f0 (reach_of hsz 0 25 _ rfl rfl)
  replace k0 := Nat.le_trans k0 (upto_of hk 0 _ rfl)
  obtain ⟨a1, rfl, rfl, rfl, w1⟩ := open_int Tryd.underlying3 (hval 1 3 v1 rfl rfl) h1
  have b1 : -9223372036854775808 ≤ a1 ∧ a1 ≤ 9223372036854775807 := by simpa [Lit.wf, IntKind.min, IntKind.max, IntKind.signed, IntKind.bits] using w1
  obtain ⟨a2, rfl, rfl, rfl, w2⟩ := open_int Tryd.underlying3 (hval 2 3 v2 rfl rfl) h2
  have b2 : -9223372036854775808 ≤ a2 ∧ a2 ≤ 9223372036854775807 := by simpa [Lit.wf, IntKind.min, IntKind.max, IntKind.signed, IntKind.bits] using w2
  obtain ⟨a3, rfl, rfl, rfl, w3⟩ := open_int Tryd.underlying3 (hval 3 3 v3 rfl rfl) h3
  have b3 : -9223372036854775808 ≤ a3 ∧ a3 ≤ 9223372036854775807 := by simpa [Lit.wf, IntKind.min, IntKind.max, IntKind.signed, IntKind.bits] using w3
  obtain ⟨a4, rfl, rfl, rfl, w4⟩ := open_int Tryd.underlying3 (hval 4 3 v4 rfl rfl) h4
  have b4 : -9223372036854775808 ≤ a4 ∧ a4 ≤ 9223372036854775807 := by simpa [Lit.wf, IntKind.min, IntKind.max, IntKind.signed, IntKind.bits] using w4
  obtain ⟨a5, rfl, rfl, rfl, w5⟩ := open_string Tryd.underlying9 (hval 5 9 v5 rfl rfl) h5
  have b5 : a5.data.toList.length ≤ 1048576 := upto_str (upto_of hk 5 _ rfl)
  refine ((Eng.YtkenlcaifhffoaaDoor.houseRight_ok W hT a0 (hs_ok b0 f0 k0) a1 b1 a2 b2 a3 b3 a4 b4 a5.data.toList b5).law [v0, .int .i64 a1, .int .i64 a2, .int .i64 a3, .int .i64 a4, .string a5] rfl (fun i hi => ?_)).mono fun e W' ⟨he, hb⟩ => ⟨_, he, ?_⟩
  · match i, hi with
    | 0, _ => exact r0
    | 1, _ => exact .int _ _
    | 2, _ => exact .int _ _
    | 3, _ => exact .int _ _
    | 4, _ => exact .int _ _
    | 5, _ => exact .str _
  · exact law_post laidOut (by kernel_rfl) (by kernel_rfl) Tryd.underlying4 (by kernel_rfl) hW' rfl hb

theorem houseRight_reads (os : Os) {H : Type} (enc : TypeId × Value → H) : ∃ places, DataW.whole enc Tryd.prog ((u8World os).forCall (fun _ _ => 0) ⟨#[], #[.agg #[.slice none 0 0, .slice none 0 0, .int .i64 0], .int .i64 0, .int .i64 0, .int .i64 0, .int .i64 0, .string ⟨#[]⟩], []⟩).memory Tryd.f4.params.toList Rows.houseRightSpec.vars false (#[.agg #[.slice none 0 0, .slice none 0 0, .int .i64 0], .int .i64 0, .int .i64 0, .int .i64 0, .int .i64 0, .string ⟨#[]⟩] : Array Value).toList 8 = some ([.agg [.nil, .nil, .lit (.int .i64 0)], .lit (.int .i64 0), .lit (.int .i64 0), .lit (.int .i64 0), .lit (.int .i64 0), .lit (.string [])], [], places) :=
  ⟨[], by kernel_rfl⟩

theorem houseRight_lifted (os : Os) (started : os.Started) (H : Type) (enc : TypeId × Value → H) (F : Stop.Interp) :
    ReturnsInHanded {} Tryd.checked os 4 .any ((Rows.OpenSpec.upto Rows.houseRightSpec).preRow enc Tryd.prog Tryd.f4 Rows.houseRightUptoRow.domain false Rows.houseRightUptoRow.laid) (((Rows.OpenSpec.upto Rows.houseRightSpec).at F).post enc Tryd.prog Tryd.f4 false true false false) := by
  obtain ⟨places, hx⟩ := houseRight_reads os enc
  refine returnsInHanded_of_row (C := Tryd.checked) (s := (Rows.OpenSpec.upto Rows.houseRightSpec)) own started (by as_aux_lemma => kernel_rfl) Tryd.func4
    (witness_row_at (enc := enc) (C := Tryd.checked) false (u8World os) #[.agg #[.slice none 0 0, .slice none 0 0, .int .i64 0], .int .i64 0, .int .i64 0, .int .i64 0, .int .i64 0, .string ⟨#[]⟩] rfl (by as_aux_lemma => kernel_rfl) (by as_aux_lemma => kernel_rfl) (by as_aux_lemma => kernel_rfl)
      (OpenSpec.preRow_of_cond 8 hx (by as_aux_lemma => kernel_rfl) (fun k hk => by cases hk; kernel_rfl) (by as_aux_lemma => kernel_rfl) (u8_met os _))) ?_
  intro W base args ds gs before hval hW _ hcond hsz hL _ _
  exact houseRight_contract H enc W base args ds gs before hval hW hsz hL (hcond _ rfl)

theorem houseRight_said : Rows.HouseRightUptoSaid :=
  OpenClaim.holds_of_cond 4 Tryd.f4 rfl rfl rfl rfl rfl rfl rfl ⟨rfl, rfl, rfl, rfl, rfl⟩ rfl rfl rfl rfl rfl (by as_aux_lemma => kernel_rfl) Tryd.func4 houseRight_closed
    (of_decide_eq_true (by as_aux_lemma => kernel_rfl)) (by unfold Func.isWrapper; rw [if_neg (of_decide_eq_false (by kernel_rfl))]; exact ⟨rfl, rfl⟩)
    (fun os started H enc _ F => by rw [OpenClaim.pre_eq_preRow]; exact houseRight_lifted os started H enc F)

theorem houseRight_plain (f : FuncId) (fn : Func) (hf : Tryd.pinned.checked.prog.funcNamed Rows.houseRightUptoRow.func = some f) (hfn : Tryd.pinned.checked.prog.funcs[f]? = some fn) :
    true = Tryd.pinned.checked.prog.looks [] ∧ ∀ (j : Nat) t, fn.params[j]? = some t → Tryd.pinned.checked.prog.wantsStandIn t = false := by
  obtain rfl : f = 4 := Option.some.inj ((show Tryd.prog.funcNamed Rows.houseRightUptoRow.func = some 4 by kernel_rfl).symm.trans hf) |>.symm
  obtain rfl : fn = Tryd.f4 := (Option.some.inj (Tryd.func4.symm.trans hfn)).symm
  refine ⟨looks.symm, fun j t ht => ?_⟩
  have hall : (Tryd.f4.params.toList.all fun t => !Tryd.prog.wantsStandIn t) = true := by kernel_rfl
  have := List.all_eq_true.1 hall t (Array.mem_toList_iff.2 (Array.mem_of_getElem? ht))
  show Tryd.prog.wantsStandIn t = false
  simpa using this

theorem houseRight_card : Rows.HouseRightUptoCardSaid :=
  Claim7.holds_tied_plain_at .later [] _ _ _ _ houseRight_said (fun _ h => by cases h) (by as_aux_lemma => kernel_rfl) (fun _ h => by cases h) houseRightUpto_row_tie rfl ⟨rfl, rfl⟩ main_is rfl houseRight_plain (by as_aux_lemma => kernel_rfl)
end Go.Proofs.YtkenlcaifhffoaaDoor
