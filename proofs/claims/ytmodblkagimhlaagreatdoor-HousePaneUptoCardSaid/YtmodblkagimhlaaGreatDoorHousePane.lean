/- Proved here: trellislaw.HousePane returns true at every house, pane and way, and each argument reads afterwards as before. Narrower than the first form: what it reads is of bulk at most 1048576. -/
import Derived.Test.YtmodblkagimhlaaGreatDoorMC1
import Derived.Test.YtmodblkagimhlaaGreatDoorMHS18
import Derived.Test.YtmodblkagimhlaaGreatDoorMC17
set_option linter.unusedSimpArgs false
set_option maxRecDepth 100000
set_option linter.unusedVariables false
namespace Go.Proofs.YtmodblkagimhlaaGreatDoor
open Go Go.Eng Go.ChangeShapes Go.WideShapes Go.ChangeAt Go.RowKit
open Go.ChangeMaps (open_string)

theorem housePane_c0 : (fun (P : Program) (f : FuncId) (fn : Func) (s : ChangeSpec) (c : OpenClaim) => (c.wf (OpenSpec.ofChange s) : Bool)) Tryz.prog 3 Tryz.f3 (Rows.OpenSpec.upto Rows.housePaneSpec).bare Rows.housePaneUptoRow = true := by kernel_rfl
theorem housePane_c3 : (fun (P : Program) (f : FuncId) (fn : Func) (s : ChangeSpec) (c : OpenClaim) => (fn.params.all (P.readableRec ·) : Bool)) Tryz.prog 3 Tryz.f3 (Rows.OpenSpec.upto Rows.housePaneSpec).bare Rows.housePaneUptoRow = true := by kernel_rfl
theorem housePane_c4 : (fun (P : Program) (f : FuncId) (fn : Func) (s : ChangeSpec) (c : OpenClaim) => (namedTie P c.named s.vars : Bool)) Tryz.prog 3 Tryz.f3 (Rows.OpenSpec.upto Rows.housePaneSpec).bare Rows.housePaneUptoRow = true := by kernel_rfl
theorem housePane_c5 : (fun (P : Program) (f : FuncId) (fn : Func) (s : ChangeSpec) (c : OpenClaim) => ((c.stops == []) : Bool)) Tryz.prog 3 Tryz.f3 (Rows.OpenSpec.upto Rows.housePaneSpec).bare Rows.housePaneUptoRow = true := by kernel_rfl
theorem housePane_c7 : (fun (P : Program) (f : FuncId) (fn : Func) (s : ChangeSpec) (c : OpenClaim) => ((c.knobs == []) : Bool)) Tryz.prog 3 Tryz.f3 (Rows.OpenSpec.upto Rows.housePaneSpec).bare Rows.housePaneUptoRow = true := by kernel_rfl
theorem housePane_c9 : (fun (P : Program) (f : FuncId) (fn : Func) (s : ChangeSpec) (c : OpenClaim) => ((c.inPlace == P.inPlace f) : Bool)) Tryz.prog 3 Tryz.f3 (Rows.OpenSpec.upto Rows.housePaneSpec).bare Rows.housePaneUptoRow = true := by kernel_rfl
theorem housePane_c10 : (fun (P : Program) (f : FuncId) (fn : Func) (s : ChangeSpec) (c : OpenClaim) => ((c.unfollowed == P.unfollowed f) : Bool)) Tryz.prog 3 Tryz.f3 (Rows.OpenSpec.upto Rows.housePaneSpec).bare Rows.housePaneUptoRow = true := by kernel_rfl
theorem housePane_c11 : (fun (P : Program) (f : FuncId) (fn : Func) (s : ChangeSpec) (c : OpenClaim) => ((c.recurses == P.recurses f) : Bool)) Tryz.prog 3 Tryz.f3 (Rows.OpenSpec.upto Rows.housePaneSpec).bare Rows.housePaneUptoRow = true := by kernel_rfl
theorem housePane_c12 : (fun (P : Program) (f : FuncId) (fn : Func) (s : ChangeSpec) (c : OpenClaim) => ((c.named == P.varsNamed f) : Bool)) Tryz.prog 3 Tryz.f3 (Rows.OpenSpec.upto Rows.housePaneSpec).bare Rows.housePaneUptoRow = true := by kernel_rfl
theorem housePane_c13 : (fun (P : Program) (f : FuncId) (fn : Func) (s : ChangeSpec) (c : OpenClaim) => ((c.maps == (fn.params.toList ++ s.plain.varTypes P).any (P.mapsRec ·)) : Bool)) Tryz.prog 3 Tryz.f3 (Rows.OpenSpec.upto Rows.housePaneSpec).bare Rows.housePaneUptoRow = true := by kernel_rfl
theorem housePane_c14 : (fun (P : Program) (f : FuncId) (fn : Func) (s : ChangeSpec) (c : OpenClaim) => ((c.ifaces == (fn.params.toList ++ s.plain.varTypes P).any (P.ifacesRec ·)) : Bool)) Tryz.prog 3 Tryz.f3 (Rows.OpenSpec.upto Rows.housePaneSpec).bare Rows.housePaneUptoRow = true := by kernel_rfl
theorem housePane_c15 : (fun (P : Program) (f : FuncId) (fn : Func) (s : ChangeSpec) (c : OpenClaim) => ((c.mapsOut == P.mapsAmong fn.resultTypes.toList) : Bool)) Tryz.prog 3 Tryz.f3 (Rows.OpenSpec.upto Rows.housePaneSpec).bare Rows.housePaneUptoRow = true := by kernel_rfl
theorem housePane_c16 : (fun (P : Program) (f : FuncId) (fn : Func) (s : ChangeSpec) (c : OpenClaim) => ((c.loops == (fn.params.toList ++ s.plain.varTypes P).any (P.loopsFrom ·)) : Bool)) Tryz.prog 3 Tryz.f3 (Rows.OpenSpec.upto Rows.housePaneSpec).bare Rows.housePaneUptoRow = true := by kernel_rfl
theorem housePane_c17 : (fun (P : Program) (f : FuncId) (fn : Func) (s : ChangeSpec) (c : OpenClaim) => ((c.wideKeys == (fn.params.toList ++ s.plain.varTypes P ++ fn.resultTypes.toList).any (P.wideKeysFrom ·)) : Bool)) Tryz.prog 3 Tryz.f3 (Rows.OpenSpec.upto Rows.housePaneSpec).bare Rows.housePaneUptoRow = true := by kernel_rfl
theorem housePane_c18 : (fun (P : Program) (f : FuncId) (fn : Func) (s : ChangeSpec) (c : OpenClaim) => (s.vars.all (P.varReadable ·) : Bool)) Tryz.prog 3 Tryz.f3 (Rows.OpenSpec.upto Rows.housePaneSpec).bare Rows.housePaneUptoRow = true := by kernel_rfl
theorem housePane_c19 : (fun (P : Program) (f : FuncId) (fn : Func) (s : ChangeSpec) (c : OpenClaim) => (fn.resultTypes.all (fun t => P.readableRec t && decide (t < P.types.size)) : Bool)) Tryz.prog 3 Tryz.f3 (Rows.OpenSpec.upto Rows.housePaneSpec).bare Rows.housePaneUptoRow = true := by kernel_rfl
theorem housePane_c20 : (fun (P : Program) (f : FuncId) (fn : Func) (s : ChangeSpec) (c : OpenClaim) => ((c.ifacesOut == fn.resultTypes.toList.any (P.ifacesRec ·)) : Bool)) Tryz.prog 3 Tryz.f3 (Rows.OpenSpec.upto Rows.housePaneSpec).bare Rows.housePaneUptoRow = true := by kernel_rfl
theorem housePane_c21 : (fun (P : Program) (f : FuncId) (fn : Func) (s : ChangeSpec) (c : OpenClaim) => ((c.loopsOut == fn.resultTypes.toList.any (P.loopsFrom ·)) : Bool)) Tryz.prog 3 Tryz.f3 (Rows.OpenSpec.upto Rows.housePaneSpec).bare Rows.housePaneUptoRow = true := by kernel_rfl
theorem housePane_c23 : (fun (P : Program) (f : FuncId) (fn : Func) (s : ChangeSpec) (c : OpenClaim) => (c.shortTexts.isNone : Bool)) Tryz.prog 3 Tryz.f3 (Rows.OpenSpec.upto Rows.housePaneSpec).bare Rows.housePaneUptoRow = true := by kernel_rfl
theorem housePane_c28 : (fun (P : Program) (f : FuncId) (fn : Func) (s : ChangeSpec) (c : OpenClaim) => ((c.kinds == (if c.domain.isEmpty then [] else fn.params.toList.map fun t => match P.underlying t with | some (.int k) => some k | _ => none)) : Bool)) Tryz.prog 3 Tryz.f3 (Rows.OpenSpec.upto Rows.housePaneSpec).bare Rows.housePaneUptoRow = true := by kernel_rfl
theorem housePane_c29 : (fun (P : Program) (f : FuncId) (fn : Func) (s : ChangeSpec) (c : OpenClaim) => ((c.pinned == c.pinnedBy) : Bool)) Tryz.prog 3 Tryz.f3 (Rows.OpenSpec.upto Rows.housePaneSpec).bare Rows.housePaneUptoRow = true := by kernel_rfl
theorem housePane_c30 : (fun (P : Program) (f : FuncId) (fn : Func) (s : ChangeSpec) (c : OpenClaim) => ((c.veiled == (fn.params.toList ++ s.plain.varTypes P ++ fn.resultTypes.toList).any (P.veiledRec ·)) : Bool)) Tryz.prog 3 Tryz.f3 (Rows.OpenSpec.upto Rows.housePaneSpec).bare Rows.housePaneUptoRow = true := by kernel_rfl
theorem housePane_c31 : (fun (P : Program) (f : FuncId) (fn : Func) (s : ChangeSpec) (c : OpenClaim) => (c.veiledFits P fn.params.toList (fn.params.toList ++ s.plain.varTypes P ++ fn.resultTypes.toList) : Bool)) Tryz.prog 3 Tryz.f3 (Rows.OpenSpec.upto Rows.housePaneSpec).bare Rows.housePaneUptoRow = true := by kernel_rfl
theorem housePane_closed : joinedFacts Tryz.prog 3 Tryz.f3 (Rows.OpenSpec.upto Rows.housePaneSpec).bare Rows.housePaneUptoRow = true := (and_t (and_t (and_t (and_t (and_t (and_t (and_t (and_t (and_t (and_t (and_t (and_t (and_t (and_t (and_t (and_t (and_t (and_t (and_t (and_t (and_t (and_t (and_t (and_t (and_t (and_t (and_t (and_t (and_t (and_t (and_t housePane_c0 laidOut) mapsRowed) housePane_c3) housePane_c4) housePane_c5) stops_nil) housePane_c7) stopKnobs_nil) housePane_c9) housePane_c10) housePane_c11) housePane_c12) housePane_c13) housePane_c14) housePane_c15) housePane_c16) housePane_c17) housePane_c18) housePane_c19) housePane_c20) housePane_c21) (by rw [plainKeys]; rfl)) housePane_c23) stopsHeard) mayEnter) (by rw [liftsFinal]; rfl)) (by rw [make_cut]; rfl)) housePane_c28) housePane_c29) housePane_c30) housePane_c31)

theorem housePane_contract (H : Type) (enc : TypeId × Value → H) (W : World) (base : Nat) (args : Array Value) (ds gs : List (DataW H)) (before : List MemPlace)
    (hval : ∀ (j : Nat) t v, Tryz.f3.params[j]? = some t → args[j]? = some v → Value.okWide Tryz.prog W .any base t v)
    (hW : DataW.Whole enc Tryz.prog Tryz.f3.params.toList Rows.housePaneSpec.vars false W args.toList ds gs before) (hsz : (DataW.weightsEach Tryz.prog (Tryz.f3.params.toList ++ (Rows.OpenSpec.upto Rows.housePaneSpec).bare.plain.varTypes Tryz.prog) (ds ++ gs)).all (· ≤ reachBytes) = true) (hL : laidMetH Tryz.prog Rows.housePaneUptoRow.laid W) (hk : Rows.uptoSmall H (ds ++ gs) = true) :
    Calls Tryz.prog 3 args W fun e W' => ∃ v, e = .returned v ∧ Rows.housePaneSpec.post enc Tryz.prog Tryz.f3 false true false false W args v W' := by
  have hT : Eng.YtmodblkagimhlaaGreatDoor.Tabs W := tabs_of hL
  have hW' := hW
  obtain ⟨p, q, hA, hV, rfl, hfz, hnd⟩ := hW
  rw [Tryz.params3] at hA hval hsz
  obtain ⟨v0, v1, v2, d0, d1, d2, p0, p1, p2, rfl, rfl, rfl, h0, h1, h2⟩ := trodAll_three hA
  obtain ⟨rfl, rfl⟩ := trodVars_none hV
  obtain ⟨n0, t0⟩ := h0
  obtain ⟨a0, b0, l0, f0, k0⟩ := opens_house.opens enc W n0 _ _ t0
  have r0 := vrel_struct (show Tryz.prog.underlying 25 = _ from Tryz.underlying25) (hval 0 25 v0 rfl rfl) l0
  replace f0 := f0 (reach_of hsz 0 25 _ rfl rfl)
  replace k0 := Nat.le_trans k0 (upto_of hk 0 _ rfl)
  obtain ⟨a1, rfl, rfl, rfl, w1⟩ := open_int Tryz.underlying3 (hval 1 3 v1 rfl rfl) h1
  have b1 : -9223372036854775808 ≤ a1 ∧ a1 ≤ 9223372036854775807 := by simpa [Lit.wf, IntKind.min, IntKind.max, IntKind.signed, IntKind.bits] using w1
  obtain ⟨a2, rfl, rfl, rfl, w2⟩ := open_int Tryz.underlying3 (hval 2 3 v2 rfl rfl) h2
  have b2 : -9223372036854775808 ≤ a2 ∧ a2 ≤ 9223372036854775807 := by simpa [Lit.wf, IntKind.min, IntKind.max, IntKind.signed, IntKind.bits] using w2
  refine ((Eng.YtmodblkagimhlaaGreatDoor.housePane_ok W hT a0 (hs_ok b0 f0 k0) a1 b1 a2 b2).law [v0, .int .i64 a1, .int .i64 a2] rfl (fun i hi => ?_)).mono fun e W' ⟨he, hb⟩ => ⟨_, he, ?_⟩
  · match i, hi with
    | 0, _ => exact r0
    | 1, _ => exact .int _ _
    | 2, _ => exact .int _ _
  · exact law_post laidOut (by kernel_rfl) (by kernel_rfl) Tryz.underlying4 (by kernel_rfl) hW' rfl hb

theorem housePane_reads (os : Os) {H : Type} (enc : TypeId × Value → H) : ∃ places, DataW.whole enc Tryz.prog ((u8World os).forCall (fun _ _ => 0) ⟨#[], #[.agg #[.slice none 0 0, .slice none 0 0, .int .i64 0], .int .i64 0, .int .i64 0], []⟩).memory Tryz.f3.params.toList Rows.housePaneSpec.vars false (#[.agg #[.slice none 0 0, .slice none 0 0, .int .i64 0], .int .i64 0, .int .i64 0] : Array Value).toList 8 = some ([.agg [.nil, .nil, .lit (.int .i64 0)], .lit (.int .i64 0), .lit (.int .i64 0)], [], places) :=
  ⟨[], by kernel_rfl⟩

theorem housePane_lifted (os : Os) (started : os.Started) (H : Type) (enc : TypeId × Value → H) (F : Stop.Interp) :
    ReturnsInHanded {} Tryz.checked os 3 .any ((Rows.OpenSpec.upto Rows.housePaneSpec).preRow enc Tryz.prog Tryz.f3 Rows.housePaneUptoRow.domain false Rows.housePaneUptoRow.laid) (((Rows.OpenSpec.upto Rows.housePaneSpec).at F).post enc Tryz.prog Tryz.f3 false true false false) := by
  obtain ⟨places, hx⟩ := housePane_reads os enc
  refine returnsInHanded_of_row (C := Tryz.checked) (s := (Rows.OpenSpec.upto Rows.housePaneSpec)) own started (by as_aux_lemma => kernel_rfl) Tryz.func3
    (witness_row_at (enc := enc) (C := Tryz.checked) false (u8World os) #[.agg #[.slice none 0 0, .slice none 0 0, .int .i64 0], .int .i64 0, .int .i64 0] rfl (by as_aux_lemma => kernel_rfl) (by as_aux_lemma => kernel_rfl) (by as_aux_lemma => kernel_rfl)
      (OpenSpec.preRow_of_cond 8 hx (by as_aux_lemma => kernel_rfl) (fun k hk => by cases hk; kernel_rfl) (by as_aux_lemma => kernel_rfl) (u8_met os _))) ?_
  intro W base args ds gs before hval hW _ hcond hsz hL _ _
  exact housePane_contract H enc W base args ds gs before hval hW hsz hL (hcond _ rfl)

theorem housePane_said : Rows.HousePaneUptoSaid :=
  OpenClaim.holds_of_cond 3 Tryz.f3 rfl rfl rfl rfl rfl rfl rfl ⟨rfl, rfl, rfl, rfl, rfl⟩ rfl rfl rfl rfl rfl (by as_aux_lemma => kernel_rfl) Tryz.func3 housePane_closed
    (of_decide_eq_true (by as_aux_lemma => kernel_rfl)) (by unfold Func.isWrapper; rw [if_neg (of_decide_eq_false (by kernel_rfl))]; exact ⟨rfl, rfl⟩)
    (fun os started H enc _ F => by rw [OpenClaim.pre_eq_preRow]; exact housePane_lifted os started H enc F)

theorem housePane_plain (f : FuncId) (fn : Func) (hf : Tryz.pinned.checked.prog.funcNamed Rows.housePaneUptoRow.func = some f) (hfn : Tryz.pinned.checked.prog.funcs[f]? = some fn) :
    false = Tryz.pinned.checked.prog.looks [] ∧ ∀ (j : Nat) t, fn.params[j]? = some t → Tryz.pinned.checked.prog.wantsStandIn t = false := by
  obtain rfl : f = 3 := Option.some.inj ((show Tryz.prog.funcNamed Rows.housePaneUptoRow.func = some 3 by kernel_rfl).symm.trans hf) |>.symm
  obtain rfl : fn = Tryz.f3 := (Option.some.inj (Tryz.func3.symm.trans hfn)).symm
  refine ⟨looks.symm, fun j t ht => ?_⟩
  have hall : (Tryz.f3.params.toList.all fun t => !Tryz.prog.wantsStandIn t) = true := by kernel_rfl
  have := List.all_eq_true.1 hall t (Array.mem_toList_iff.2 (Array.mem_of_getElem? ht))
  show Tryz.prog.wantsStandIn t = false
  simpa using this

theorem housePane_card : Rows.HousePaneUptoCardSaid :=
  Claim7.holds_tied_plain_at .later [] _ _ _ _ housePane_said (fun _ h => by cases h) (by as_aux_lemma => kernel_rfl) (fun _ h => by cases h) housePaneUpto_row_tie rfl ⟨rfl, rfl⟩ main_is rfl housePane_plain (by as_aux_lemma => kernel_rfl)
end Go.Proofs.YtmodblkagimhlaaGreatDoor
