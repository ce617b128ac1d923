/- Proved here: trellislaw.HouseClose returns true at every house and pane, and each argument reads afterwards as before. Narrower than the first form: what it reads is of bulk at most 1048576. -/
import Derived.Test.YtkenlcaifhffoaaDoorMC1
import Derived.Test.YtkenlcaifhffoaaDoorMHS27
import Derived.Test.YtkenlcaifhffoaaDoorMC17
set_option linter.unusedSimpArgs false
set_option maxRecDepth 100000
set_option linter.unusedVariables false
namespace Go.Proofs.YtkenlcaifhffoaaDoor
open Go Go.Eng Go.ChangeShapes Go.WideShapes Go.ChangeAt Go.RowKit
open Go.ChangeMaps (open_string)

theorem houseClose_c0 : (fun (P : Program) (f : FuncId) (fn : Func) (s : ChangeSpec) (c : OpenClaim) => (c.wf (OpenSpec.ofChange s) : Bool)) Tryd.prog 3 Tryd.f3 (Rows.OpenSpec.upto Rows.houseCloseSpec).bare Rows.houseCloseUptoRow = true := by kernel_rfl
theorem houseClose_c3 : (fun (P : Program) (f : FuncId) (fn : Func) (s : ChangeSpec) (c : OpenClaim) => (fn.params.all (P.readableRec ·) : Bool)) Tryd.prog 3 Tryd.f3 (Rows.OpenSpec.upto Rows.houseCloseSpec).bare Rows.houseCloseUptoRow = true := by kernel_rfl
theorem houseClose_c4 : (fun (P : Program) (f : FuncId) (fn : Func) (s : ChangeSpec) (c : OpenClaim) => (namedTie P c.named s.vars : Bool)) Tryd.prog 3 Tryd.f3 (Rows.OpenSpec.upto Rows.houseCloseSpec).bare Rows.houseCloseUptoRow = true := by kernel_rfl
theorem houseClose_c5 : (fun (P : Program) (f : FuncId) (fn : Func) (s : ChangeSpec) (c : OpenClaim) => ((c.stops == []) : Bool)) Tryd.prog 3 Tryd.f3 (Rows.OpenSpec.upto Rows.houseCloseSpec).bare Rows.houseCloseUptoRow = true := by kernel_rfl
theorem houseClose_c7 : (fun (P : Program) (f : FuncId) (fn : Func) (s : ChangeSpec) (c : OpenClaim) => ((c.knobs == []) : Bool)) Tryd.prog 3 Tryd.f3 (Rows.OpenSpec.upto Rows.houseCloseSpec).bare Rows.houseCloseUptoRow = true := by kernel_rfl
theorem houseClose_c9 : (fun (P : Program) (f : FuncId) (fn : Func) (s : ChangeSpec) (c : OpenClaim) => ((c.inPlace == P.inPlace f) : Bool)) Tryd.prog 3 Tryd.f3 (Rows.OpenSpec.upto Rows.houseCloseSpec).bare Rows.houseCloseUptoRow = true := by kernel_rfl
theorem houseClose_c10 : (fun (P : Program) (f : FuncId) (fn : Func) (s : ChangeSpec) (c : OpenClaim) => ((c.unfollowed == P.unfollowed f) : Bool)) Tryd.prog 3 Tryd.f3 (Rows.OpenSpec.upto Rows.houseCloseSpec).bare Rows.houseCloseUptoRow = true := by kernel_rfl
theorem houseClose_c11 : (fun (P : Program) (f : FuncId) (fn : Func) (s : ChangeSpec) (c : OpenClaim) => ((c.recurses == P.recurses f) : Bool)) Tryd.prog 3 Tryd.f3 (Rows.OpenSpec.upto Rows.houseCloseSpec).bare Rows.houseCloseUptoRow = true := by kernel_rfl
theorem houseClose_c12 : (fun (P : Program) (f : FuncId) (fn : Func) (s : ChangeSpec) (c : OpenClaim) => ((c.named == P.varsNamed f) : Bool)) Tryd.prog 3 Tryd.f3 (Rows.OpenSpec.upto Rows.houseCloseSpec).bare Rows.houseCloseUptoRow = true := by kernel_rfl
theorem houseClose_c13 : (fun (P : Program) (f : FuncId) (fn : Func) (s : ChangeSpec) (c : OpenClaim) => ((c.maps == (fn.params.toList ++ s.plain.varTypes P).any (P.mapsRec ·)) : Bool)) Tryd.prog 3 Tryd.f3 (Rows.OpenSpec.upto Rows.houseCloseSpec).bare Rows.houseCloseUptoRow = true := by kernel_rfl
theorem houseClose_c14 : (fun (P : Program) (f : FuncId) (fn : Func) (s : ChangeSpec) (c : OpenClaim) => ((c.ifaces == (fn.params.toList ++ s.plain.varTypes P).any (P.ifacesRec ·)) : Bool)) Tryd.prog 3 Tryd.f3 (Rows.OpenSpec.upto Rows.houseCloseSpec).bare Rows.houseCloseUptoRow = true := by kernel_rfl
theorem houseClose_c15 : (fun (P : Program) (f : FuncId) (fn : Func) (s : ChangeSpec) (c : OpenClaim) => ((c.mapsOut == P.mapsAmong fn.resultTypes.toList) : Bool)) Tryd.prog 3 Tryd.f3 (Rows.OpenSpec.upto Rows.houseCloseSpec).bare Rows.houseCloseUptoRow = true := by kernel_rfl
theorem houseClose_c16 : (fun (P : Program) (f : FuncId) (fn : Func) (s : ChangeSpec) (c : OpenClaim) => ((c.loops == (fn.params.toList ++ s.plain.varTypes P).any (P.loopsFrom ·)) : Bool)) Tryd.prog 3 Tryd.f3 (Rows.OpenSpec.upto Rows.houseCloseSpec).bare Rows.houseCloseUptoRow = true := by kernel_rfl
theorem houseClose_c17 : (fun (P : Program) (f : FuncId) (fn : Func) (s : ChangeSpec) (c : OpenClaim) => ((c.wideKeys == (fn.params.toList ++ s.plain.varTypes P ++ fn.resultTypes.toList).any (P.wideKeysFrom ·)) : Bool)) Tryd.prog 3 Tryd.f3 (Rows.OpenSpec.upto Rows.houseCloseSpec).bare Rows.houseCloseUptoRow = true := by kernel_rfl
theorem houseClose_c18 : (fun (P : Program) (f : FuncId) (fn : Func) (s : ChangeSpec) (c : OpenClaim) => (s.vars.all (P.varReadable ·) : Bool)) Tryd.prog 3 Tryd.f3 (Rows.OpenSpec.upto Rows.houseCloseSpec).bare Rows.houseCloseUptoRow = true := by kernel_rfl
theorem houseClose_c19 : (fun (P : Program) (f : FuncId) (fn : Func) (s : ChangeSpec) (c : OpenClaim) => (fn.resultTypes.all (fun t => P.readableRec t && decide (t < P.types.size)) : Bool)) Tryd.prog 3 Tryd.f3 (Rows.OpenSpec.upto Rows.houseCloseSpec).bare Rows.houseCloseUptoRow = true := by kernel_rfl
theorem houseClose_c20 : (fun (P : Program) (f : FuncId) (fn : Func) (s : ChangeSpec) (c : OpenClaim) => ((c.ifacesOut == fn.resultTypes.toList.any (P.ifacesRec ·)) : Bool)) Tryd.prog 3 Tryd.f3 (Rows.OpenSpec.upto Rows.houseCloseSpec).bare Rows.houseCloseUptoRow = true := by kernel_rfl
theorem houseClose_c21 : (fun (P : Program) (f : FuncId) (fn : Func) (s : ChangeSpec) (c : OpenClaim) => ((c.loopsOut == fn.resultTypes.toList.any (P.loopsFrom ·)) : Bool)) Tryd.prog 3 Tryd.f3 (Rows.OpenSpec.upto Rows.houseCloseSpec).bare Rows.houseCloseUptoRow = true := by kernel_rfl
theorem houseClose_c23 : (fun (P : Program) (f : FuncId) (fn : Func) (s : ChangeSpec) (c : OpenClaim) => (c.shortTexts.isNone : Bool)) Tryd.prog 3 Tryd.f3 (Rows.OpenSpec.upto Rows.houseCloseSpec).bare Rows.houseCloseUptoRow = true := by kernel_rfl
theorem houseClose_c28 : (fun (P : Program) (f : FuncId) (fn : Func) (s : ChangeSpec) (c : OpenClaim) => ((c.kinds == (if c.domain.isEmpty then [] else fn.params.toList.map fun t => match P.underlying t with | some (.int k) => some k | _ => none)) : Bool)) Tryd.prog 3 Tryd.f3 (Rows.OpenSpec.upto Rows.houseCloseSpec).bare Rows.houseCloseUptoRow = true := by kernel_rfl
theorem houseClose_c29 : (fun (P : Program) (f : FuncId) (fn : Func) (s : ChangeSpec) (c : OpenClaim) => ((c.pinned == c.pinnedBy) : Bool)) Tryd.prog 3 Tryd.f3 (Rows.OpenSpec.upto Rows.houseCloseSpec).bare Rows.houseCloseUptoRow = true := by kernel_rfl
theorem houseClose_c30 : (fun (P : Program) (f : FuncId) (fn : Func) (s : ChangeSpec) (c : OpenClaim) => ((c.veiled == (fn.params.toList ++ s.plain.varTypes P ++ fn.resultTypes.toList).any (P.veiledRec ·)) : Bool)) Tryd.prog 3 Tryd.f3 (Rows.OpenSpec.upto Rows.houseCloseSpec).bare Rows.houseCloseUptoRow = true := by kernel_rfl
theorem houseClose_c31 : (fun (P : Program) (f : FuncId) (fn : Func) (s : ChangeSpec) (c : OpenClaim) => (c.veiledFits P fn.params.toList (fn.params.toList ++ s.plain.varTypes P ++ fn.resultTypes.toList) : Bool)) Tryd.prog 3 Tryd.f3 (Rows.OpenSpec.upto Rows.houseCloseSpec).bare Rows.houseCloseUptoRow = true := by kernel_rfl
theorem houseClose_closed : joinedFacts Tryd.prog 3 Tryd.f3 (Rows.OpenSpec.upto Rows.houseCloseSpec).bare Rows.houseCloseUptoRow = true := (and_t (and_t (and_t (and_t (and_t (and_t (and_t (and_t (and_t (and_t (and_t (and_t (and_t (and_t (and_t (and_t (and_t (and_t (and_t (and_t (and_t (and_t (and_t (and_t (and_t (and_t (and_t (and_t (and_t (and_t (and_t houseClose_c0 laidOut) mapsRowed) houseClose_c3) houseClose_c4) houseClose_c5) stops_nil) houseClose_c7) stopKnobs_nil) houseClose_c9) houseClose_c10) houseClose_c11) houseClose_c12) houseClose_c13) houseClose_c14) houseClose_c15) houseClose_c16) houseClose_c17) houseClose_c18) houseClose_c19) houseClose_c20) houseClose_c21) (by rw [plainKeys]; rfl)) houseClose_c23) stopsHeard) mayEnter) (by rw [liftsFinal]; rfl)) (by rw [make_cut]; rfl)) houseClose_c28) houseClose_c29) houseClose_c30) houseClose_c31)

theorem houseClose_contract (H : Type) (enc : TypeId × Value → H) (W : World) (base : Nat) (args : Array Value) (ds gs : List (DataW H)) (before : List MemPlace)
    (hval : ∀ (j : Nat) t v, Tryd.f3.params[j]? = some t → args[j]? = some v → Value.okWide Tryd.prog W .any base t v)
    (hW : DataW.Whole enc Tryd.prog Tryd.f3.params.toList Rows.houseCloseSpec.vars false W args.toList ds gs before) (hsz : (DataW.weightsEach Tryd.prog (Tryd.f3.params.toList ++ (Rows.OpenSpec.upto Rows.houseCloseSpec).bare.plain.varTypes Tryd.prog) (ds ++ gs)).all (· ≤ reachBytes) = true) (hL : laidMetH Tryd.prog Rows.houseCloseUptoRow.laid W) (hk : Rows.uptoSmall H (ds ++ gs) = true) :
    Calls Tryd.prog 3 args W fun e W' => ∃ v, e = .returned v ∧ Rows.houseCloseSpec.post enc Tryd.prog Tryd.f3 false true false false W args v W' := by
  have hT : Eng.YtkenlcaifhffoaaDoor.Tabs W := tabs_of hL
  have hW' := hW
  obtain ⟨p, q, hA, hV, rfl, hfz, hnd⟩ := hW
  rw [Tryd.params3] at hA hval hsz
  obtain ⟨v0, v1, d0, d1, p0, p1, rfl, rfl, rfl, h0, h1⟩ := trodAll_two hA
  obtain ⟨rfl, rfl⟩ := trodVars_none hV
  obtain ⟨n0, t0⟩ := h0
  obtain ⟨a0, b0, l0, f0, k0⟩ := opens_house.opens enc W n0 _ _ t0
  have r0 := vrel_struct (show Tryd.prog.underlying 25 = _ from Tryd.underlying25) (hval 0 25 v0 rfl rfl) l0
  replace f0 := f0 (reach_of hsz 0 25 _ rfl rfl)
  replace k0 := Nat.le_trans k0 (upto_of hk 0 _ rfl)
  obtain ⟨a1, rfl, rfl, rfl, w1⟩ := open_int Tryd.underlying3 (hval 1 3 v1 rfl rfl) h1
  have b1 : -9223372036854775808 ≤ a1 ∧ a1 ≤ 9223372036854775807 := by simpa [Lit.wf, IntKind.min, IntKind.max, IntKind.signed, IntKind.bits] using w1
  refine ((Eng.YtkenlcaifhffoaaDoor.houseClose_ok W hT a0 (hs_ok b0 f0 k0) a1 b1).law [v0, .int .i64 a1] rfl (fun i hi => ?_)).mono fun e W' ⟨he, hb⟩ => ⟨_, he, ?_⟩
  · match i, hi with
    | 0, _ => exact r0
    | 1, _ => exact .int _ _
  · exact law_post laidOut (by kernel_rfl) (by kernel_rfl) Tryd.underlying4 (by kernel_rfl) hW' rfl hb

theorem houseClose_reads (os : Os) {H : Type} (enc : TypeId × Value → H) : ∃ places, DataW.whole enc Tryd.prog ((u8World os).forCall (fun _ _ => 0) ⟨#[], #[.agg #[.slice none 0 0, .slice none 0 0, .int .i64 0], .int .i64 0], []⟩).memory Tryd.f3.params.toList Rows.houseCloseSpec.vars false (#[.agg #[.slice none 0 0, .slice none 0 0, .int .i64 0], .int .i64 0] : Array Value).toList 8 = some ([.agg [.nil, .nil, .lit (.int .i64 0)], .lit (.int .i64 0)], [], places) :=
  ⟨[], by kernel_rfl⟩

theorem houseClose_lifted (os : Os) (started : os.Started) (H : Type) (enc : TypeId × Value → H) (F : Stop.Interp) :
    ReturnsInHanded {} Tryd.checked os 3 .any ((Rows.OpenSpec.upto Rows.houseCloseSpec).preRow enc Tryd.prog Tryd.f3 Rows.houseCloseUptoRow.domain false Rows.houseCloseUptoRow.laid) (((Rows.OpenSpec.upto Rows.houseCloseSpec).at F).post enc Tryd.prog Tryd.f3 false true false false) := by
  obtain ⟨places, hx⟩ := houseClose_reads os enc
  refine returnsInHanded_of_row (C := Tryd.checked) (s := (Rows.OpenSpec.upto Rows.houseCloseSpec)) own started (by as_aux_lemma => kernel_rfl) Tryd.func3
    (witness_row_at (enc := enc) (C := Tryd.checked) false (u8World os) #[.agg #[.slice none 0 0, .slice none 0 0, .int .i64 0], .int .i64 0] rfl (by as_aux_lemma => kernel_rfl) (by as_aux_lemma => kernel_rfl) (by as_aux_lemma => kernel_rfl)
      (OpenSpec.preRow_of_cond 8 hx (by as_aux_lemma => kernel_rfl) (fun k hk => by cases hk; kernel_rfl) (by as_aux_lemma => kernel_rfl) (u8_met os _))) ?_
  intro W base args ds gs before hval hW _ hcond hsz hL _ _
  exact houseClose_contract H enc W base args ds gs before hval hW hsz hL (hcond _ rfl)

theorem houseClose_said : Rows.HouseCloseUptoSaid :=
  OpenClaim.holds_of_cond 3 Tryd.f3 rfl rfl rfl rfl rfl rfl rfl ⟨rfl, rfl, rfl, rfl, rfl⟩ rfl rfl rfl rfl rfl (by as_aux_lemma => kernel_rfl) Tryd.func3 houseClose_closed
    (of_decide_eq_true (by as_aux_lemma => kernel_rfl)) (by unfold Func.isWrapper; rw [if_neg (of_decide_eq_false (by kernel_rfl))]; exact ⟨rfl, rfl⟩)
    (fun os started H enc _ F => by rw [OpenClaim.pre_eq_preRow]; exact houseClose_lifted os started H enc F)

theorem houseClose_plain (f : FuncId) (fn : Func) (hf : Tryd.pinned.checked.prog.funcNamed Rows.houseCloseUptoRow.func = some f) (hfn : Tryd.pinned.checked.prog.funcs[f]? = some fn) :
    true = Tryd.pinned.checked.prog.looks [] ∧ ∀ (j : Nat) t, fn.params[j]? = some t → Tryd.pinned.checked.prog.wantsStandIn t = false := by
  obtain rfl : f = 3 := Option.some.inj ((show Tryd.prog.funcNamed Rows.houseCloseUptoRow.func = some 3 by kernel_rfl).symm.trans hf) |>.symm
  obtain rfl : fn = Tryd.f3 := (Option.some.inj (Tryd.func3.symm.trans hfn)).symm
  refine ⟨looks.symm, fun j t ht => ?_⟩
  have hall : (Tryd.f3.params.toList.all fun t => !Tryd.prog.wantsStandIn t) = true := by kernel_rfl
  have := List.all_eq_true.1 hall t (Array.mem_toList_iff.2 (Array.mem_of_getElem? ht))
  show Tryd.prog.wantsStandIn t = false
  simpa using this

theorem houseClose_card : Rows.HouseCloseUptoCardSaid :=
  Claim7.holds_tied_plain_at .later [] _ _ _ _ houseClose_said (fun _ h => by cases h) (by as_aux_lemma => kernel_rfl) (fun _ h => by cases h) houseCloseUpto_row_tie rfl ⟨rfl, rfl⟩ main_is rfl houseClose_plain (by as_aux_lemma => kernel_rfl)
end Go.Proofs.YtkenlcaifhffoaaDoor
