/- Proved here: trellislaw.HouseWindow returns true at every house, session, name and window, and each argument reads afterwards as before. Narrower than the first form: what it reads is of bulk at most 1048576. -/
import Derived.Test.YtmodblkagimhlaaGreatDoorMC1
import Derived.Test.YtmodblkagimhlaaGreatDoorMHS15
import Derived.Test.YtmodblkagimhlaaGreatDoorMC17
set_option linter.unusedSimpArgs false
set_option maxRecDepth 100000
set_option linter.unusedVariables false
namespace Go.Proofs.YtmodblkagimhlaaGreatDoor
open Go Go.Eng Go.ChangeShapes Go.WideShapes Go.ChangeAt Go.RowKit
open Go.ChangeMaps (open_string)

theorem houseWindow_c0 : (fun (P : Program) (f : FuncId) (fn : Func) (s : ChangeSpec) (c : OpenClaim) => (c.wf (OpenSpec.ofChange s) : Bool)) Tryz.prog 4 Tryz.f4 (Rows.OpenSpec.upto Rows.houseWindowSpec).bare Rows.houseWindowUptoRow = true := by kernel_rfl
theorem houseWindow_c3 : (fun (P : Program) (f : FuncId) (fn : Func) (s : ChangeSpec) (c : OpenClaim) => (fn.params.all (P.readableRec ·) : Bool)) Tryz.prog 4 Tryz.f4 (Rows.OpenSpec.upto Rows.houseWindowSpec).bare Rows.houseWindowUptoRow = true := by kernel_rfl
theorem houseWindow_c4 : (fun (P : Program) (f : FuncId) (fn : Func) (s : ChangeSpec) (c : OpenClaim) => (namedTie P c.named s.vars : Bool)) Tryz.prog 4 Tryz.f4 (Rows.OpenSpec.upto Rows.houseWindowSpec).bare Rows.houseWindowUptoRow = true := by kernel_rfl
theorem houseWindow_c5 : (fun (P : Program) (f : FuncId) (fn : Func) (s : ChangeSpec) (c : OpenClaim) => ((c.stops == []) : Bool)) Tryz.prog 4 Tryz.f4 (Rows.OpenSpec.upto Rows.houseWindowSpec).bare Rows.houseWindowUptoRow = true := by kernel_rfl
theorem houseWindow_c7 : (fun (P : Program) (f : FuncId) (fn : Func) (s : ChangeSpec) (c : OpenClaim) => ((c.knobs == []) : Bool)) Tryz.prog 4 Tryz.f4 (Rows.OpenSpec.upto Rows.houseWindowSpec).bare Rows.houseWindowUptoRow = true := by kernel_rfl
theorem houseWindow_c9 : (fun (P : Program) (f : FuncId) (fn : Func) (s : ChangeSpec) (c : OpenClaim) => ((c.inPlace == P.inPlace f) : Bool)) Tryz.prog 4 Tryz.f4 (Rows.OpenSpec.upto Rows.houseWindowSpec).bare Rows.houseWindowUptoRow = true := by kernel_rfl
theorem houseWindow_c10 : (fun (P : Program) (f : FuncId) (fn : Func) (s : ChangeSpec) (c : OpenClaim) => ((c.unfollowed == P.unfollowed f) : Bool)) Tryz.prog 4 Tryz.f4 (Rows.OpenSpec.upto Rows.houseWindowSpec).bare Rows.houseWindowUptoRow = true := by kernel_rfl
theorem houseWindow_c11 : (fun (P : Program) (f : FuncId) (fn : Func) (s : ChangeSpec) (c : OpenClaim) => ((c.recurses == P.recurses f) : Bool)) Tryz.prog 4 Tryz.f4 (Rows.OpenSpec.upto Rows.houseWindowSpec).bare Rows.houseWindowUptoRow = true := by kernel_rfl
theorem houseWindow_c12 : (fun (P : Program) (f : FuncId) (fn : Func) (s : ChangeSpec) (c : OpenClaim) => ((c.named == P.varsNamed f) : Bool)) Tryz.prog 4 Tryz.f4 (Rows.OpenSpec.upto Rows.houseWindowSpec).bare Rows.houseWindowUptoRow = true := by kernel_rfl
theorem houseWindow_c13 : (fun (P : Program) (f : FuncId) (fn : Func) (s : ChangeSpec) (c : OpenClaim) => ((c.maps == (fn.params.toList ++ s.plain.varTypes P).any (P.mapsRec ·)) : Bool)) Tryz.prog 4 Tryz.f4 (Rows.OpenSpec.upto Rows.houseWindowSpec).bare Rows.houseWindowUptoRow = true := by kernel_rfl
theorem houseWindow_c14 : (fun (P : Program) (f : FuncId) (fn : Func) (s : ChangeSpec) (c : OpenClaim) => ((c.ifaces == (fn.params.toList ++ s.plain.varTypes P).any (P.ifacesRec ·)) : Bool)) Tryz.prog 4 Tryz.f4 (Rows.OpenSpec.upto Rows.houseWindowSpec).bare Rows.houseWindowUptoRow = true := by kernel_rfl
theorem houseWindow_c15 : (fun (P : Program) (f : FuncId) (fn : Func) (s : ChangeSpec) (c : OpenClaim) => ((c.mapsOut == P.mapsAmong fn.resultTypes.toList) : Bool)) Tryz.prog 4 Tryz.f4 (Rows.OpenSpec.upto Rows.houseWindowSpec).bare Rows.houseWindowUptoRow = true := by kernel_rfl
theorem houseWindow_c16 : (fun (P : Program) (f : FuncId) (fn : Func) (s : ChangeSpec) (c : OpenClaim) => ((c.loops == (fn.params.toList ++ s.plain.varTypes P).any (P.loopsFrom ·)) : Bool)) Tryz.prog 4 Tryz.f4 (Rows.OpenSpec.upto Rows.houseWindowSpec).bare Rows.houseWindowUptoRow = true := by kernel_rfl
theorem houseWindow_c17 : (fun (P : Program) (f : FuncId) (fn : Func) (s : ChangeSpec) (c : OpenClaim) => ((c.wideKeys == (fn.params.toList ++ s.plain.varTypes P ++ fn.resultTypes.toList).any (P.wideKeysFrom ·)) : Bool)) Tryz.prog 4 Tryz.f4 (Rows.OpenSpec.upto Rows.houseWindowSpec).bare Rows.houseWindowUptoRow = true := by kernel_rfl
theorem houseWindow_c18 : (fun (P : Program) (f : FuncId) (fn : Func) (s : ChangeSpec) (c : OpenClaim) => (s.vars.all (P.varReadable ·) : Bool)) Tryz.prog 4 Tryz.f4 (Rows.OpenSpec.upto Rows.houseWindowSpec).bare Rows.houseWindowUptoRow = true := by kernel_rfl
theorem houseWindow_c19 : (fun (P : Program) (f : FuncId) (fn : Func) (s : ChangeSpec) (c : OpenClaim) => (fn.resultTypes.all (fun t => P.readableRec t && decide (t < P.types.size)) : Bool)) Tryz.prog 4 Tryz.f4 (Rows.OpenSpec.upto Rows.houseWindowSpec).bare Rows.houseWindowUptoRow = true := by kernel_rfl
theorem houseWindow_c20 : (fun (P : Program) (f : FuncId) (fn : Func) (s : ChangeSpec) (c : OpenClaim) => ((c.ifacesOut == fn.resultTypes.toList.any (P.ifacesRec ·)) : Bool)) Tryz.prog 4 Tryz.f4 (Rows.OpenSpec.upto Rows.houseWindowSpec).bare Rows.houseWindowUptoRow = true := by kernel_rfl
theorem houseWindow_c21 : (fun (P : Program) (f : FuncId) (fn : Func) (s : ChangeSpec) (c : OpenClaim) => ((c.loopsOut == fn.resultTypes.toList.any (P.loopsFrom ·)) : Bool)) Tryz.prog 4 Tryz.f4 (Rows.OpenSpec.upto Rows.houseWindowSpec).bare Rows.houseWindowUptoRow = true := by kernel_rfl
theorem houseWindow_c23 : (fun (P : Program) (f : FuncId) (fn : Func) (s : ChangeSpec) (c : OpenClaim) => (c.shortTexts.isNone : Bool)) Tryz.prog 4 Tryz.f4 (Rows.OpenSpec.upto Rows.houseWindowSpec).bare Rows.houseWindowUptoRow = true := by kernel_rfl
theorem houseWindow_c28 : (fun (P : Program) (f : FuncId) (fn : Func) (s : ChangeSpec) (c : OpenClaim) => ((c.kinds == (if c.domain.isEmpty then [] else fn.params.toList.map fun t => match P.underlying t with | some (.int k) => some k | _ => none)) : Bool)) Tryz.prog 4 Tryz.f4 (Rows.OpenSpec.upto Rows.houseWindowSpec).bare Rows.houseWindowUptoRow = true := by kernel_rfl
theorem houseWindow_c29 : (fun (P : Program) (f : FuncId) (fn : Func) (s : ChangeSpec) (c : OpenClaim) => ((c.pinned == c.pinnedBy) : Bool)) Tryz.prog 4 Tryz.f4 (Rows.OpenSpec.upto Rows.houseWindowSpec).bare Rows.houseWindowUptoRow = true := by kernel_rfl
theorem houseWindow_c30 : (fun (P : Program) (f : FuncId) (fn : Func) (s : ChangeSpec) (c : OpenClaim) => ((c.veiled == (fn.params.toList ++ s.plain.varTypes P ++ fn.resultTypes.toList).any (P.veiledRec ·)) : Bool)) Tryz.prog 4 Tryz.f4 (Rows.OpenSpec.upto Rows.houseWindowSpec).bare Rows.houseWindowUptoRow = true := by kernel_rfl
theorem houseWindow_c31 : (fun (P : Program) (f : FuncId) (fn : Func) (s : ChangeSpec) (c : OpenClaim) => (c.veiledFits P fn.params.toList (fn.params.toList ++ s.plain.varTypes P ++ fn.resultTypes.toList) : Bool)) Tryz.prog 4 Tryz.f4 (Rows.OpenSpec.upto Rows.houseWindowSpec).bare Rows.houseWindowUptoRow = true := by kernel_rfl
theorem houseWindow_closed : joinedFacts Tryz.prog 4 Tryz.f4 (Rows.OpenSpec.upto Rows.houseWindowSpec).bare Rows.houseWindowUptoRow = true := (and_t (and_t (and_t (and_t (and_t (and_t (and_t (and_t (and_t (and_t (and_t (and_t (and_t (and_t (and_t (and_t (and_t (and_t (and_t (and_t (and_t (and_t (and_t (and_t (and_t (and_t (and_t (and_t (and_t (and_t (and_t houseWindow_c0 laidOut) mapsRowed) houseWindow_c3) houseWindow_c4) houseWindow_c5) stops_nil) houseWindow_c7) stopKnobs_nil) houseWindow_c9) houseWindow_c10) houseWindow_c11) houseWindow_c12) houseWindow_c13) houseWindow_c14) houseWindow_c15) houseWindow_c16) houseWindow_c17) houseWindow_c18) houseWindow_c19) houseWindow_c20) houseWindow_c21) (by rw [plainKeys]; rfl)) houseWindow_c23) stopsHeard) mayEnter) (by rw [liftsFinal]; rfl)) (by rw [make_cut]; rfl)) houseWindow_c28) houseWindow_c29) houseWindow_c30) houseWindow_c31)

theorem houseWindow_contract (H : Type) (enc : TypeId × Value → H) (W : World) (base : Nat) (args : Array Value) (ds gs : List (DataW H)) (before : List MemPlace)
    (hval : ∀ (j : Nat) t v, Tryz.f4.params[j]? = some t → args[j]? = some v → Value.okWide Tryz.prog W .any base t v)
    (hW : DataW.Whole enc Tryz.prog Tryz.f4.params.toList Rows.houseWindowSpec.vars false W args.toList ds gs before) (hsz : (DataW.weightsEach Tryz.prog (Tryz.f4.params.toList ++ (Rows.OpenSpec.upto Rows.houseWindowSpec).bare.plain.varTypes Tryz.prog) (ds ++ gs)).all (· ≤ reachBytes) = true) (hL : laidMetH Tryz.prog Rows.houseWindowUptoRow.laid W) (hk : Rows.uptoSmall H (ds ++ gs) = true) :
    Calls Tryz.prog 4 args W fun e W' => ∃ v, e = .returned v ∧ Rows.houseWindowSpec.post enc Tryz.prog Tryz.f4 false true false false W args v W' := by
  have hT : Eng.YtmodblkagimhlaaGreatDoor.Tabs W := tabs_of hL
  have hW' := hW
  obtain ⟨p, q, hA, hV, rfl, hfz, hnd⟩ := hW
  rw [Tryz.params4] at hA hval hsz
  obtain ⟨v0, v1, v2, v3, d0, d1, d2, d3, p0, p1, p2, p3, rfl, rfl, rfl, h0, h1, h2, h3⟩ := trodAll_four hA
  obtain ⟨rfl, rfl⟩ := trodVars_none hV
  obtain ⟨n0, t0⟩ := h0
  obtain ⟨a0, b0, l0, f0, k0⟩ := opens_house.opens enc W n0 _ _ t0
  have r0 := vrel_struct (show Tryz.prog.underlying 25 = _ from Tryz.underlying25) (hval 0 25 v0 rfl rfl) l0
  replace f0 := f0 (reach_of hsz 0 25 _ rfl rfl)
  replace k0 := Nat.le_trans k0 (upto_of hk 0 _ rfl)
  obtain ⟨a1, rfl, rfl, rfl, w1⟩ := open_int Tryz.underlying3 (hval 1 3 v1 rfl rfl) h1
  have b1 : -9223372036854775808 ≤ a1 ∧ a1 ≤ 9223372036854775807 := by simpa [Lit.wf, IntKind.min, IntKind.max, IntKind.signed, IntKind.bits] using w1
  obtain ⟨a2, rfl, rfl, rfl, w2⟩ := open_string Tryz.underlying9 (hval 2 9 v2 rfl rfl) h2
  have b2 : a2.data.toList.length ≤ 1048576 := upto_str (upto_of hk 2 _ rfl)
  obtain ⟨a3, rfl, rfl, rfl, w3⟩ := open_int Tryz.underlying3 (hval 3 3 v3 rfl rfl) h3
  have b3 : -9223372036854775808 ≤ a3 ∧ a3 ≤ 9223372036854775807 := by simpa [Lit.wf, IntKind.min, IntKind.max, IntKind.signed, IntKind.bits] using w3
  refine ((Eng.YtmodblkagimhlaaGreatDoor.houseWindow_ok W hT a0 (hs_ok b0 f0 k0) a1 b1 a2.data.toList b2 a3 b3).law [v0, .int .i64 a1, .string a2, .int .i64 a3] rfl (fun i hi => ?_)).mono fun e W' ⟨he, hb⟩ => ⟨_, he, ?_⟩
  · match i, hi with
    | 0, _ => exact r0
    | 1, _ => exact .int _ _
    | 2, _ => exact .str _
    | 3, _ => exact .int _ _
  · exact law_post laidOut (by kernel_rfl) (by kernel_rfl) Tryz.underlying4 (by kernel_rfl) hW' rfl hb

theorem houseWindow_reads (os : Os) {H : Type} (enc : TypeId × Value → H) : ∃ places, DataW.whole enc Tryz.prog ((u8World os).forCall (fun _ _ => 0) ⟨#[], #[.agg #[.slice none 0 0, .slice none 0 0, .int .i64 0], .int .i64 0, .string ⟨#[]⟩, .int .i64 0], []⟩).memory Tryz.f4.params.toList Rows.houseWindowSpec.vars false (#[.agg #[.slice none 0 0, .slice none 0 0, .int .i64 0], .int .i64 0, .string ⟨#[]⟩, .int .i64 0] : Array Value).toList 8 = some ([.agg [.nil, .nil, .lit (.int .i64 0)], .lit (.int .i64 0), .lit (.string []), .lit (.int .i64 0)], [], places) :=
  ⟨[], by kernel_rfl⟩

theorem houseWindow_lifted (os : Os) (started : os.Started) (H : Type) (enc : TypeId × Value → H) (F : Stop.Interp) :
    ReturnsInHanded {} Tryz.checked os 4 .any ((Rows.OpenSpec.upto Rows.houseWindowSpec).preRow enc Tryz.prog Tryz.f4 Rows.houseWindowUptoRow.domain false Rows.houseWindowUptoRow.laid) (((Rows.OpenSpec.upto Rows.houseWindowSpec).at F).post enc Tryz.prog Tryz.f4 false true false false) := by
  obtain ⟨places, hx⟩ := houseWindow_reads os enc
  refine returnsInHanded_of_row (C := Tryz.checked) (s := (Rows.OpenSpec.upto Rows.houseWindowSpec)) own started (by as_aux_lemma => kernel_rfl) Tryz.func4
    (witness_row_at (enc := enc) (C := Tryz.checked) false (u8World os) #[.agg #[.slice none 0 0, .slice none 0 0, .int .i64 0], .int .i64 0, .string ⟨#[]⟩, .int .i64 0] rfl (by as_aux_lemma => kernel_rfl) (by as_aux_lemma => kernel_rfl) (by as_aux_lemma => kernel_rfl)
      (OpenSpec.preRow_of_cond 8 hx (by as_aux_lemma => kernel_rfl) (fun k hk => by cases hk; kernel_rfl) (by as_aux_lemma => kernel_rfl) (u8_met os _))) ?_
  intro W base args ds gs before hval hW _ hcond hsz hL _ _
  exact houseWindow_contract H enc W base args ds gs before hval hW hsz hL (hcond _ rfl)

theorem houseWindow_said : Rows.HouseWindowUptoSaid :=
  OpenClaim.holds_of_cond 4 Tryz.f4 rfl rfl rfl rfl rfl rfl rfl ⟨rfl, rfl, rfl, rfl, rfl⟩ rfl rfl rfl rfl rfl (by as_aux_lemma => kernel_rfl) Tryz.func4 houseWindow_closed
    (of_decide_eq_true (by as_aux_lemma => kernel_rfl)) (by unfold Func.isWrapper; rw [if_neg (of_decide_eq_false (by kernel_rfl))]; exact ⟨rfl, rfl⟩)
    (fun os started H enc _ F => by rw [OpenClaim.pre_eq_preRow]; exact houseWindow_lifted os started H enc F)

theorem houseWindow_plain (f : FuncId) (fn : Func) (hf : Tryz.pinned.checked.prog.funcNamed Rows.houseWindowUptoRow.func = some f) (hfn : Tryz.pinned.checked.prog.funcs[f]? = some fn) :
    false = Tryz.pinned.checked.prog.looks [] ∧ ∀ (j : Nat) t, fn.params[j]? = some t → Tryz.pinned.checked.prog.wantsStandIn t = false := by
  obtain rfl : f = 4 := Option.some.inj ((show Tryz.prog.funcNamed Rows.houseWindowUptoRow.func = some 4 by kernel_rfl).symm.trans hf) |>.symm
  obtain rfl : fn = Tryz.f4 := (Option.some.inj (Tryz.func4.symm.trans hfn)).symm
  refine ⟨looks.symm, fun j t ht => ?_⟩
  have hall : (Tryz.f4.params.toList.all fun t => !Tryz.prog.wantsStandIn t) = true := by kernel_rfl
  have := List.all_eq_true.1 hall t (Array.mem_toList_iff.2 (Array.mem_of_getElem? ht))
  show Tryz.prog.wantsStandIn t = false
  simpa using this

theorem houseWindow_card : Rows.HouseWindowUptoCardSaid :=
  Claim7.holds_tied_plain_at .later [] _ _ _ _ houseWindow_said (fun _ h => by cases h) (by as_aux_lemma => kernel_rfl) (fun _ h => by cases h) houseWindowUpto_row_tie rfl ⟨rfl, rfl⟩ main_is rfl houseWindow_plain (by as_aux_lemma => kernel_rfl)
end Go.Proofs.YtmodblkagimhlaaGreatDoor
