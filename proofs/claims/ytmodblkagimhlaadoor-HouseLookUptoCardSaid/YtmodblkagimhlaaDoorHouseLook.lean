/- Proved here: trellislaw.HouseLook returns true at every house, session and size, and each argument reads afterwards as before. Narrower than the first form: what it reads is of bulk at most 1048576. -/
import Derived.Test.YtmodblkagimhlaaDoorMC1
import Derived.Test.YtmodblkagimhlaaDoorMHS12
import Derived.Test.YtmodblkagimhlaaDoorMC17
set_option linter.unusedSimpArgs false
set_option maxRecDepth 100000
set_option linter.unusedVariables false
namespace Go.Proofs.YtmodblkagimhlaaDoor
open Go Go.Eng Go.ChangeShapes Go.WideShapes Go.ChangeAt Go.RowKit
open Go.ChangeMaps (open_string)

theorem houseLook_c0 : (fun (P : Program) (f : FuncId) (fn : Func) (s : ChangeSpec) (c : OpenClaim) => (c.wf (OpenSpec.ofChange s) : Bool)) Tryd.prog 7 Tryd.f7 (Rows.OpenSpec.upto Rows.houseLookSpec).bare Rows.houseLookUptoRow = true := by kernel_rfl
theorem houseLook_c3 : (fun (P : Program) (f : FuncId) (fn : Func) (s : ChangeSpec) (c : OpenClaim) => (fn.params.all (P.readableRec ·) : Bool)) Tryd.prog 7 Tryd.f7 (Rows.OpenSpec.upto Rows.houseLookSpec).bare Rows.houseLookUptoRow = true := by kernel_rfl
theorem houseLook_c4 : (fun (P : Program) (f : FuncId) (fn : Func) (s : ChangeSpec) (c : OpenClaim) => (namedTie P c.named s.vars : Bool)) Tryd.prog 7 Tryd.f7 (Rows.OpenSpec.upto Rows.houseLookSpec).bare Rows.houseLookUptoRow = true := by kernel_rfl
theorem houseLook_c5 : (fun (P : Program) (f : FuncId) (fn : Func) (s : ChangeSpec) (c : OpenClaim) => ((c.stops == []) : Bool)) Tryd.prog 7 Tryd.f7 (Rows.OpenSpec.upto Rows.houseLookSpec).bare Rows.houseLookUptoRow = true := by kernel_rfl
theorem houseLook_c7 : (fun (P : Program) (f : FuncId) (fn : Func) (s : ChangeSpec) (c : OpenClaim) => ((c.knobs == []) : Bool)) Tryd.prog 7 Tryd.f7 (Rows.OpenSpec.upto Rows.houseLookSpec).bare Rows.houseLookUptoRow = true := by kernel_rfl
theorem houseLook_c9 : (fun (P : Program) (f : FuncId) (fn : Func) (s : ChangeSpec) (c : OpenClaim) => ((c.inPlace == P.inPlace f) : Bool)) Tryd.prog 7 Tryd.f7 (Rows.OpenSpec.upto Rows.houseLookSpec).bare Rows.houseLookUptoRow = true := by kernel_rfl
theorem houseLook_c10 : (fun (P : Program) (f : FuncId) (fn : Func) (s : ChangeSpec) (c : OpenClaim) => ((c.unfollowed == P.unfollowed f) : Bool)) Tryd.prog 7 Tryd.f7 (Rows.OpenSpec.upto Rows.houseLookSpec).bare Rows.houseLookUptoRow = true := by kernel_rfl
theorem houseLook_c11 : (fun (P : Program) (f : FuncId) (fn : Func) (s : ChangeSpec) (c : OpenClaim) => ((c.recurses == P.recurses f) : Bool)) Tryd.prog 7 Tryd.f7 (Rows.OpenSpec.upto Rows.houseLookSpec).bare Rows.houseLookUptoRow = true := by kernel_rfl
theorem houseLook_c12 : (fun (P : Program) (f : FuncId) (fn : Func) (s : ChangeSpec) (c : OpenClaim) => ((c.named == P.varsNamed f) : Bool)) Tryd.prog 7 Tryd.f7 (Rows.OpenSpec.upto Rows.houseLookSpec).bare Rows.houseLookUptoRow = true := by kernel_rfl
theorem houseLook_c13 : (fun (P : Program) (f : FuncId) (fn : Func) (s : ChangeSpec) (c : OpenClaim) => ((c.maps == (fn.params.toList ++ s.plain.varTypes P).any (P.mapsRec ·)) : Bool)) Tryd.prog 7 Tryd.f7 (Rows.OpenSpec.upto Rows.houseLookSpec).bare Rows.houseLookUptoRow = true := by kernel_rfl
theorem houseLook_c14 : (fun (P : Program) (f : FuncId) (fn : Func) (s : ChangeSpec) (c : OpenClaim) => ((c.ifaces == (fn.params.toList ++ s.plain.varTypes P).any (P.ifacesRec ·)) : Bool)) Tryd.prog 7 Tryd.f7 (Rows.OpenSpec.upto Rows.houseLookSpec).bare Rows.houseLookUptoRow = true := by kernel_rfl
theorem houseLook_c15 : (fun (P : Program) (f : FuncId) (fn : Func) (s : ChangeSpec) (c : OpenClaim) => ((c.mapsOut == P.mapsAmong fn.resultTypes.toList) : Bool)) Tryd.prog 7 Tryd.f7 (Rows.OpenSpec.upto Rows.houseLookSpec).bare Rows.houseLookUptoRow = true := by kernel_rfl
theorem houseLook_c16 : (fun (P : Program) (f : FuncId) (fn : Func) (s : ChangeSpec) (c : OpenClaim) => ((c.loops == (fn.params.toList ++ s.plain.varTypes P).any (P.loopsFrom ·)) : Bool)) Tryd.prog 7 Tryd.f7 (Rows.OpenSpec.upto Rows.houseLookSpec).bare Rows.houseLookUptoRow = true := by kernel_rfl
theorem houseLook_c17 : (fun (P : Program) (f : FuncId) (fn : Func) (s : ChangeSpec) (c : OpenClaim) => ((c.wideKeys == (fn.params.toList ++ s.plain.varTypes P ++ fn.resultTypes.toList).any (P.wideKeysFrom ·)) : Bool)) Tryd.prog 7 Tryd.f7 (Rows.OpenSpec.upto Rows.houseLookSpec).bare Rows.houseLookUptoRow = true := by kernel_rfl
theorem houseLook_c18 : (fun (P : Program) (f : FuncId) (fn : Func) (s : ChangeSpec) (c : OpenClaim) => (s.vars.all (P.varReadable ·) : Bool)) Tryd.prog 7 Tryd.f7 (Rows.OpenSpec.upto Rows.houseLookSpec).bare Rows.houseLookUptoRow = true := by kernel_rfl
theorem houseLook_c19 : (fun (P : Program) (f : FuncId) (fn : Func) (s : ChangeSpec) (c : OpenClaim) => (fn.resultTypes.all (fun t => P.readableRec t && decide (t < P.types.size)) : Bool)) Tryd.prog 7 Tryd.f7 (Rows.OpenSpec.upto Rows.houseLookSpec).bare Rows.houseLookUptoRow = true := by kernel_rfl
theorem houseLook_c20 : (fun (P : Program) (f : FuncId) (fn : Func) (s : ChangeSpec) (c : OpenClaim) => ((c.ifacesOut == fn.resultTypes.toList.any (P.ifacesRec ·)) : Bool)) Tryd.prog 7 Tryd.f7 (Rows.OpenSpec.upto Rows.houseLookSpec).bare Rows.houseLookUptoRow = true := by kernel_rfl
theorem houseLook_c21 : (fun (P : Program) (f : FuncId) (fn : Func) (s : ChangeSpec) (c : OpenClaim) => ((c.loopsOut == fn.resultTypes.toList.any (P.loopsFrom ·)) : Bool)) Tryd.prog 7 Tryd.f7 (Rows.OpenSpec.upto Rows.houseLookSpec).bare Rows.houseLookUptoRow = true := by kernel_rfl
theorem houseLook_c23 : (fun (P : Program) (f : FuncId) (fn : Func) (s : ChangeSpec) (c : OpenClaim) => (c.shortTexts.isNone : Bool)) Tryd.prog 7 Tryd.f7 (Rows.OpenSpec.upto Rows.houseLookSpec).bare Rows.houseLookUptoRow = true := by kernel_rfl
theorem houseLook_c28 : (fun (P : Program) (f : FuncId) (fn : Func) (s : ChangeSpec) (c : OpenClaim) => ((c.kinds == (if c.domain.isEmpty then [] else fn.params.toList.map fun t => match P.underlying t with | some (.int k) => some k | _ => none)) : Bool)) Tryd.prog 7 Tryd.f7 (Rows.OpenSpec.upto Rows.houseLookSpec).bare Rows.houseLookUptoRow = true := by kernel_rfl
theorem houseLook_c29 : (fun (P : Program) (f : FuncId) (fn : Func) (s : ChangeSpec) (c : OpenClaim) => ((c.pinned == c.pinnedBy) : Bool)) Tryd.prog 7 Tryd.f7 (Rows.OpenSpec.upto Rows.houseLookSpec).bare Rows.houseLookUptoRow = true := by kernel_rfl
theorem houseLook_c30 : (fun (P : Program) (f : FuncId) (fn : Func) (s : ChangeSpec) (c : OpenClaim) => ((c.veiled == (fn.params.toList ++ s.plain.varTypes P ++ fn.resultTypes.toList).any (P.veiledRec ·)) : Bool)) Tryd.prog 7 Tryd.f7 (Rows.OpenSpec.upto Rows.houseLookSpec).bare Rows.houseLookUptoRow = true := by kernel_rfl
theorem houseLook_c31 : (fun (P : Program) (f : FuncId) (fn : Func) (s : ChangeSpec) (c : OpenClaim) => (c.veiledFits P fn.params.toList (fn.params.toList ++ s.plain.varTypes P ++ fn.resultTypes.toList) : Bool)) Tryd.prog 7 Tryd.f7 (Rows.OpenSpec.upto Rows.houseLookSpec).bare Rows.houseLookUptoRow = true := by kernel_rfl
theorem houseLook_closed : joinedFacts Tryd.prog 7 Tryd.f7 (Rows.OpenSpec.upto Rows.houseLookSpec).bare Rows.houseLookUptoRow = true := (and_t (and_t (and_t (and_t (and_t (and_t (and_t (and_t (and_t (and_t (and_t (and_t (and_t (and_t (and_t (and_t (and_t (and_t (and_t (and_t (and_t (and_t (and_t (and_t (and_t (and_t (and_t (and_t (and_t (and_t (and_t houseLook_c0 laidOut) mapsRowed) houseLook_c3) houseLook_c4) houseLook_c5) stops_nil) houseLook_c7) stopKnobs_nil) houseLook_c9) houseLook_c10) houseLook_c11) houseLook_c12) houseLook_c13) houseLook_c14) houseLook_c15) houseLook_c16) houseLook_c17) houseLook_c18) houseLook_c19) houseLook_c20) houseLook_c21) (by rw [plainKeys]; rfl)) houseLook_c23) stopsHeard) mayEnter) (by rw [liftsFinal]; rfl)) (by rw [make_cut]; rfl)) houseLook_c28) houseLook_c29) houseLook_c30) houseLook_c31)

theorem houseLook_contract (H : Type) (enc : TypeId × Value → H) (W : World) (base : Nat) (args : Array Value) (ds gs : List (DataW H)) (before : List MemPlace)
    (hval : ∀ (j : Nat) t v, Tryd.f7.params[j]? = some t → args[j]? = some v → Value.okWide Tryd.prog W .any base t v)
    (hW : DataW.Whole enc Tryd.prog Tryd.f7.params.toList Rows.houseLookSpec.vars false W args.toList ds gs before) (hsz : (DataW.weightsEach Tryd.prog (Tryd.f7.params.toList ++ (Rows.OpenSpec.upto Rows.houseLookSpec).bare.plain.varTypes Tryd.prog) (ds ++ gs)).all (· ≤ reachBytes) = true) (hL : laidMetH Tryd.prog Rows.houseLookUptoRow.laid W) (hk : Rows.uptoSmall H (ds ++ gs) = true) :
    Calls Tryd.prog 7 args W fun e W' => ∃ v, e = .returned v ∧ Rows.houseLookSpec.post enc Tryd.prog Tryd.f7 false true false false W args v W' := by
  have hT : Eng.YtmodblkagimhlaaDoor.Tabs W := tabs_of hL
  have hW' := hW
  obtain ⟨p, q, hA, hV, rfl, hfz, hnd⟩ := hW
  rw [Tryd.params7] at hA hval hsz
  obtain ⟨v0, v1, v2, v3, d0, d1, d2, d3, p0, p1, p2, p3, rfl, rfl, rfl, h0, h1, h2, h3⟩ := trodAll_four hA
  obtain ⟨rfl, rfl⟩ := trodVars_none hV
  obtain ⟨n0, t0⟩ := h0
  obtain ⟨a0, b0, l0, f0, k0⟩ := opens_house.opens enc W n0 _ _ t0
  have r0 := vrel_struct (show Tryd.prog.underlying 41 = _ from Tryd.underlying41) (hval 0 41 v0 rfl rfl) l0
  replace f0 := f0 (reach_of hsz 0 41 _ rfl rfl)
  replace k0 := Nat.le_trans k0 (upto_of hk 0 _ rfl)
  obtain ⟨a1, rfl, rfl, rfl, w1⟩ := open_int Tryd.underlying3 (hval 1 3 v1 rfl rfl) h1
  have b1 : -9223372036854775808 ≤ a1 ∧ a1 ≤ 9223372036854775807 := by simpa [Lit.wf, IntKind.min, IntKind.max, IntKind.signed, IntKind.bits] using w1
  obtain ⟨a2, rfl, rfl, rfl, w2⟩ := open_int Tryd.underlying3 (hval 2 3 v2 rfl rfl) h2
  have b2 : -9223372036854775808 ≤ a2 ∧ a2 ≤ 9223372036854775807 := by simpa [Lit.wf, IntKind.min, IntKind.max, IntKind.signed, IntKind.bits] using w2
  obtain ⟨a3, rfl, rfl, rfl, w3⟩ := open_int Tryd.underlying3 (hval 3 3 v3 rfl rfl) h3
  have b3 : -9223372036854775808 ≤ a3 ∧ a3 ≤ 9223372036854775807 := by simpa [Lit.wf, IntKind.min, IntKind.max, IntKind.signed, IntKind.bits] using w3
  refine ((Eng.YtmodblkagimhlaaDoor.houseLook_ok W hT a0 (hs_ok b0 f0 k0) a1 b1 a2 b2 a3 b3).law [v0, .int .i64 a1, .int .i64 a2, .int .i64 a3] rfl (fun i hi => ?_)).mono fun e W' ⟨he, hb⟩ => ⟨_, he, ?_⟩
  · match i, hi with
    | 0, _ => exact r0
    | 1, _ => exact .int _ _
    | 2, _ => exact .int _ _
    | 3, _ => exact .int _ _
  · exact law_post laidOut (by kernel_rfl) (by kernel_rfl) Tryd.underlying4 (by kernel_rfl) hW' rfl hb

theorem houseLook_reads (os : Os) {H : Type} (enc : TypeId × Value → H) : ∃ places, DataW.whole enc Tryd.prog ((u8World os).forCall (fun _ _ => 0) ⟨#[], #[.agg #[.slice none 0 0, .slice none 0 0, .int .i64 0], .int .i64 0, .int .i64 0, .int .i64 0], []⟩).memory Tryd.f7.params.toList Rows.houseLookSpec.vars false (#[.agg #[.slice none 0 0, .slice none 0 0, .int .i64 0], .int .i64 0, .int .i64 0, .int .i64 0] : Array Value).toList 8 = some ([.agg [.nil, .nil, .lit (.int .i64 0)], .lit (.int .i64 0), .lit (.int .i64 0), .lit (.int .i64 0)], [], places) :=
  ⟨[], by kernel_rfl⟩

theorem houseLook_lifted (os : Os) (started : os.Started) (H : Type) (enc : TypeId × Value → H) (F : Stop.Interp) :
    ReturnsInHanded {} Tryd.checked os 7 .any ((Rows.OpenSpec.upto Rows.houseLookSpec).preRow enc Tryd.prog Tryd.f7 Rows.houseLookUptoRow.domain false Rows.houseLookUptoRow.laid) (((Rows.OpenSpec.upto Rows.houseLookSpec).at F).post enc Tryd.prog Tryd.f7 false true false false) := by
  obtain ⟨places, hx⟩ := houseLook_reads os enc
  refine returnsInHanded_of_row (C := Tryd.checked) (s := (Rows.OpenSpec.upto Rows.houseLookSpec)) own started (by as_aux_lemma => kernel_rfl) Tryd.func7
    (witness_row_at (enc := enc) (C := Tryd.checked) false (u8World os) #[.agg #[.slice none 0 0, .slice none 0 0, .int .i64 0], .int .i64 0, .int .i64 0, .int .i64 0] rfl (by as_aux_lemma => kernel_rfl) (by as_aux_lemma => kernel_rfl) (by as_aux_lemma => kernel_rfl)
      (OpenSpec.preRow_of_cond 8 hx (by as_aux_lemma => kernel_rfl) (fun k hk => by cases hk; kernel_rfl) (by as_aux_lemma => kernel_rfl) (u8_met os _))) ?_
  intro W base args ds gs before hval hW _ hcond hsz hL _ _
  exact houseLook_contract H enc W base args ds gs before hval hW hsz hL (hcond _ rfl)

theorem houseLook_said : Rows.HouseLookUptoSaid :=
  OpenClaim.holds_of_cond 7 Tryd.f7 rfl rfl rfl rfl rfl rfl rfl ⟨rfl, rfl, rfl, rfl, rfl⟩ rfl rfl rfl rfl rfl (by as_aux_lemma => kernel_rfl) Tryd.func7 houseLook_closed
    (of_decide_eq_true (by as_aux_lemma => kernel_rfl)) (by unfold Func.isWrapper; rw [if_neg (of_decide_eq_false (by kernel_rfl))]; exact ⟨rfl, rfl⟩)
    (fun os started H enc _ F => by rw [OpenClaim.pre_eq_preRow]; exact houseLook_lifted os started H enc F)

theorem houseLook_plain (f : FuncId) (fn : Func) (hf : Tryd.pinned.checked.prog.funcNamed Rows.houseLookUptoRow.func = some f) (hfn : Tryd.pinned.checked.prog.funcs[f]? = some fn) :
    true = Tryd.pinned.checked.prog.looks [] ∧ ∀ (j : Nat) t, fn.params[j]? = some t → Tryd.pinned.checked.prog.wantsStandIn t = false := by
  obtain rfl : f = 7 := Option.some.inj ((show Tryd.prog.funcNamed Rows.houseLookUptoRow.func = some 7 by kernel_rfl).symm.trans hf) |>.symm
  obtain rfl : fn = Tryd.f7 := (Option.some.inj (Tryd.func7.symm.trans hfn)).symm
  refine ⟨looks.symm, fun j t ht => ?_⟩
  have hall : (Tryd.f7.params.toList.all fun t => !Tryd.prog.wantsStandIn t) = true := by kernel_rfl
  have := List.all_eq_true.1 hall t (Array.mem_toList_iff.2 (Array.mem_of_getElem? ht))
  show Tryd.prog.wantsStandIn t = false
  simpa using this

theorem houseLook_card : Rows.HouseLookUptoCardSaid :=
  Claim7.holds_tied_plain_at .later [] _ _ _ _ houseLook_said (fun _ h => by cases h) (by as_aux_lemma => kernel_rfl) (fun _ h => by cases h) houseLookUpto_row_tie rfl ⟨rfl, rfl⟩ main_is rfl houseLook_plain (by as_aux_lemma => kernel_rfl)
end Go.Proofs.YtmodblkagimhlaaDoor
