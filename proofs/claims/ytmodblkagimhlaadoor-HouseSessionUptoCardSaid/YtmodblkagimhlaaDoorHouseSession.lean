/- Proved here: trellislaw.HouseSession returns true at every house and any two names, and each argument reads afterwards as before. Narrower than the first form: what it reads is of bulk at most 1048576. -/
import Derived.Test.YtmodblkagimhlaaDoorMC1
import Derived.Test.YtmodblkagimhlaaDoorMHS11
import Derived.Test.YtmodblkagimhlaaDoorMC17
set_option linter.unusedSimpArgs false
set_option maxRecDepth 100000
set_option linter.unusedVariables false
namespace Go.Proofs.YtmodblkagimhlaaDoor
open Go Go.Eng Go.ChangeShapes Go.WideShapes Go.ChangeAt Go.RowKit
open Go.ChangeMaps (open_string)

theorem houseSession_c0 : (fun (P : Program) (f : FuncId) (fn : Func) (s : ChangeSpec) (c : OpenClaim) => (c.wf (OpenSpec.ofChange s) : Bool)) Tryd.prog 5 Tryd.f5 (Rows.OpenSpec.upto Rows.houseSessionSpec).bare Rows.houseSessionUptoRow = true := by kernel_rfl
theorem houseSession_c3 : (fun (P : Program) (f : FuncId) (fn : Func) (s : ChangeSpec) (c : OpenClaim) => (fn.params.all (P.readableRec ·) : Bool)) Tryd.prog 5 Tryd.f5 (Rows.OpenSpec.upto Rows.houseSessionSpec).bare Rows.houseSessionUptoRow = true := by kernel_rfl
theorem houseSession_c4 : (fun (P : Program) (f : FuncId) (fn : Func) (s : ChangeSpec) (c : OpenClaim) => (namedTie P c.named s.vars : Bool)) Tryd.prog 5 Tryd.f5 (Rows.OpenSpec.upto Rows.houseSessionSpec).bare Rows.houseSessionUptoRow = true := by kernel_rfl
theorem houseSession_c5 : (fun (P : Program) (f : FuncId) (fn : Func) (s : ChangeSpec) (c : OpenClaim) => ((c.stops == []) : Bool)) Tryd.prog 5 Tryd.f5 (Rows.OpenSpec.upto Rows.houseSessionSpec).bare Rows.houseSessionUptoRow = true := by kernel_rfl
theorem houseSession_c7 : (fun (P : Program) (f : FuncId) (fn : Func) (s : ChangeSpec) (c : OpenClaim) => ((c.knobs == []) : Bool)) Tryd.prog 5 Tryd.f5 (Rows.OpenSpec.upto Rows.houseSessionSpec).bare Rows.houseSessionUptoRow = true := by kernel_rfl
theorem houseSession_c9 : (fun (P : Program) (f : FuncId) (fn : Func) (s : ChangeSpec) (c : OpenClaim) => ((c.inPlace == P.inPlace f) : Bool)) Tryd.prog 5 Tryd.f5 (Rows.OpenSpec.upto Rows.houseSessionSpec).bare Rows.houseSessionUptoRow = true := by kernel_rfl
theorem houseSession_c10 : (fun (P : Program) (f : FuncId) (fn : Func) (s : ChangeSpec) (c : OpenClaim) => ((c.unfollowed == P.unfollowed f) : Bool)) Tryd.prog 5 Tryd.f5 (Rows.OpenSpec.upto Rows.houseSessionSpec).bare Rows.houseSessionUptoRow = true := by kernel_rfl
theorem houseSession_c11 : (fun (P : Program) (f : FuncId) (fn : Func) (s : ChangeSpec) (c : OpenClaim) => ((c.recurses == P.recurses f) : Bool)) Tryd.prog 5 Tryd.f5 (Rows.OpenSpec.upto Rows.houseSessionSpec).bare Rows.houseSessionUptoRow = true := by kernel_rfl
theorem houseSession_c12 : (fun (P : Program) (f : FuncId) (fn : Func) (s : ChangeSpec) (c : OpenClaim) => ((c.named == P.varsNamed f) : Bool)) Tryd.prog 5 Tryd.f5 (Rows.OpenSpec.upto Rows.houseSessionSpec).bare Rows.houseSessionUptoRow = true := by kernel_rfl
theorem houseSession_c13 : (fun (P : Program) (f : FuncId) (fn : Func) (s : ChangeSpec) (c : OpenClaim) => ((c.maps == (fn.params.toList ++ s.plain.varTypes P).any (P.mapsRec ·)) : Bool)) Tryd.prog 5 Tryd.f5 (Rows.OpenSpec.upto Rows.houseSessionSpec).bare Rows.houseSessionUptoRow = true := by kernel_rfl
theorem houseSession_c14 : (fun (P : Program) (f : FuncId) (fn : Func) (s : ChangeSpec) (c : OpenClaim) => ((c.ifaces == (fn.params.toList ++ s.plain.varTypes P).any (P.ifacesRec ·)) : Bool)) Tryd.prog 5 Tryd.f5 (Rows.OpenSpec.upto Rows.houseSessionSpec).bare Rows.houseSessionUptoRow = true := by kernel_rfl
theorem houseSession_c15 : (fun (P : Program) (f : FuncId) (fn : Func) (s : ChangeSpec) (c : OpenClaim) => ((c.mapsOut == P.mapsAmong fn.resultTypes.toList) : Bool)) Tryd.prog 5 Tryd.f5 (Rows.OpenSpec.upto Rows.houseSessionSpec).bare Rows.houseSessionUptoRow = true := by kernel_rfl
theorem houseSession_c16 : (fun (P : Program) (f : FuncId) (fn : Func) (s : ChangeSpec) (c : OpenClaim) => ((c.loops == (fn.params.toList ++ s.plain.varTypes P).any (P.loopsFrom ·)) : Bool)) Tryd.prog 5 Tryd.f5 (Rows.OpenSpec.upto Rows.houseSessionSpec).bare Rows.houseSessionUptoRow = true := by kernel_rfl
theorem houseSession_c17 : (fun (P : Program) (f : FuncId) (fn : Func) (s : ChangeSpec) (c : OpenClaim) => ((c.wideKeys == (fn.params.toList ++ s.plain.varTypes P ++ fn.resultTypes.toList).any (P.wideKeysFrom ·)) : Bool)) Tryd.prog 5 Tryd.f5 (Rows.OpenSpec.upto Rows.houseSessionSpec).bare Rows.houseSessionUptoRow = true := by kernel_rfl
theorem houseSession_c18 : (fun (P : Program) (f : FuncId) (fn : Func) (s : ChangeSpec) (c : OpenClaim) => (s.vars.all (P.varReadable ·) : Bool)) Tryd.prog 5 Tryd.f5 (Rows.OpenSpec.upto Rows.houseSessionSpec).bare Rows.houseSessionUptoRow = true := by kernel_rfl
theorem houseSession_c19 : (fun (P : Program) (f : FuncId) (fn : Func) (s : ChangeSpec) (c : OpenClaim) => (fn.resultTypes.all (fun t => P.readableRec t && decide (t < P.types.size)) : Bool)) Tryd.prog 5 Tryd.f5 (Rows.OpenSpec.upto Rows.houseSessionSpec).bare Rows.houseSessionUptoRow = true := by kernel_rfl
theorem houseSession_c20 : (fun (P : Program) (f : FuncId) (fn : Func) (s : ChangeSpec) (c : OpenClaim) => ((c.ifacesOut == fn.resultTypes.toList.any (P.ifacesRec ·)) : Bool)) Tryd.prog 5 Tryd.f5 (Rows.OpenSpec.upto Rows.houseSessionSpec).bare Rows.houseSessionUptoRow = true := by kernel_rfl
theorem houseSession_c21 : (fun (P : Program) (f : FuncId) (fn : Func) (s : ChangeSpec) (c : OpenClaim) => ((c.loopsOut == fn.resultTypes.toList.any (P.loopsFrom ·)) : Bool)) Tryd.prog 5 Tryd.f5 (Rows.OpenSpec.upto Rows.houseSessionSpec).bare Rows.houseSessionUptoRow = true := by kernel_rfl
theorem houseSession_c23 : (fun (P : Program) (f : FuncId) (fn : Func) (s : ChangeSpec) (c : OpenClaim) => (c.shortTexts.isNone : Bool)) Tryd.prog 5 Tryd.f5 (Rows.OpenSpec.upto Rows.houseSessionSpec).bare Rows.houseSessionUptoRow = true := by kernel_rfl
theorem houseSession_c28 : (fun (P : Program) (f : FuncId) (fn : Func) (s : ChangeSpec) (c : OpenClaim) => ((c.kinds == (if c.domain.isEmpty then [] else fn.params.toList.map fun t => match P.underlying t with | some (.int k) => some k | _ => none)) : Bool)) Tryd.prog 5 Tryd.f5 (Rows.OpenSpec.upto Rows.houseSessionSpec).bare Rows.houseSessionUptoRow = true := by kernel_rfl
theorem houseSession_c29 : (fun (P : Program) (f : FuncId) (fn : Func) (s : ChangeSpec) (c : OpenClaim) => ((c.pinned == c.pinnedBy) : Bool)) Tryd.prog 5 Tryd.f5 (Rows.OpenSpec.upto Rows.houseSessionSpec).bare Rows.houseSessionUptoRow = true := by kernel_rfl
theorem houseSession_c30 : (fun (P : Program) (f : FuncId) (fn : Func) (s : ChangeSpec) (c : OpenClaim) => ((c.veiled == (fn.params.toList ++ s.plain.varTypes P ++ fn.resultTypes.toList).any (P.veiledRec ·)) : Bool)) Tryd.prog 5 Tryd.f5 (Rows.OpenSpec.upto Rows.houseSessionSpec).bare Rows.houseSessionUptoRow = true := by kernel_rfl
theorem houseSession_c31 : (fun (P : Program) (f : FuncId) (fn : Func) (s : ChangeSpec) (c : OpenClaim) => (c.veiledFits P fn.params.toList (fn.params.toList ++ s.plain.varTypes P ++ fn.resultTypes.toList) : Bool)) Tryd.prog 5 Tryd.f5 (Rows.OpenSpec.upto Rows.houseSessionSpec).bare Rows.houseSessionUptoRow = true := by kernel_rfl
theorem houseSession_closed : joinedFacts Tryd.prog 5 Tryd.f5 (Rows.OpenSpec.upto Rows.houseSessionSpec).bare Rows.houseSessionUptoRow = true := (and_t (and_t (and_t (and_t (and_t (and_t (and_t (and_t (and_t (and_t (and_t (and_t (and_t (and_t (and_t (and_t (and_t (and_t (and_t (and_t (and_t (and_t (and_t (and_t (and_t (and_t (and_t (and_t (and_t (and_t (and_t houseSession_c0 laidOut) mapsRowed) houseSession_c3) houseSession_c4) houseSession_c5) stops_nil) houseSession_c7) stopKnobs_nil) houseSession_c9) houseSession_c10) houseSession_c11) houseSession_c12) houseSession_c13) houseSession_c14) houseSession_c15) houseSession_c16) houseSession_c17) houseSession_c18) houseSession_c19) houseSession_c20) houseSession_c21) (by rw [plainKeys]; rfl)) houseSession_c23) stopsHeard) mayEnter) (by rw [liftsFinal]; rfl)) (by rw [make_cut]; rfl)) houseSession_c28) houseSession_c29) houseSession_c30) houseSession_c31)

theorem houseSession_contract (H : Type) (enc : TypeId × Value → H) (W : World) (base : Nat) (args : Array Value) (ds gs : List (DataW H)) (before : List MemPlace)
    (hval : ∀ (j : Nat) t v, Tryd.f5.params[j]? = some t → args[j]? = some v → Value.okWide Tryd.prog W .any base t v)
    (hW : DataW.Whole enc Tryd.prog Tryd.f5.params.toList Rows.houseSessionSpec.vars false W args.toList ds gs before) (hsz : (DataW.weightsEach Tryd.prog (Tryd.f5.params.toList ++ (Rows.OpenSpec.upto Rows.houseSessionSpec).bare.plain.varTypes Tryd.prog) (ds ++ gs)).all (· ≤ reachBytes) = true) (hL : laidMetH Tryd.prog Rows.houseSessionUptoRow.laid W) (hk : Rows.uptoSmall H (ds ++ gs) = true) :
    Calls Tryd.prog 5 args W fun e W' => ∃ v, e = .returned v ∧ Rows.houseSessionSpec.post enc Tryd.prog Tryd.f5 false true false false W args v W' := by
  have hT : Eng.YtmodblkagimhlaaDoor.Tabs W := tabs_of hL
  have hW' := hW
  obtain ⟨p, q, hA, hV, rfl, hfz, hnd⟩ := hW
  rw [Tryd.params5] at hA hval hsz
  obtain ⟨v0, v1, v2, d0, d1, d2, p0, p1, p2, rfl, rfl, rfl, h0, h1, h2⟩ := trodAll_three hA
  obtain ⟨rfl, rfl⟩ := trodVars_none hV
  obtain ⟨n0, t0⟩ := h0
  obtain ⟨a0, b0, l0, f0, k0⟩ := opens_house.opens enc W n0 _ _ t0
  have r0 := vrel_struct (show Tryd.prog.underlying 41 = _ from Tryd.underlying41) (hval 0 41 v0 rfl rfl) l0
  replace f0 := f0 (reach_of hsz 0 41 _ rfl rfl)
  replace k0 := Nat.le_trans k0 (upto_of hk 0 _ rfl)
  obtain ⟨a1, rfl, rfl, rfl, w1⟩ := open_string Tryd.underlying9 (hval 1 9 v1 rfl rfl) h1
  have b1 : a1.data.toList.length ≤ 1048576 := upto_str (upto_of hk 1 _ rfl)
  obtain ⟨a2, rfl, rfl, rfl, w2⟩ := open_string Tryd.underlying9 (hval 2 9 v2 rfl rfl) h2
  have b2 : a2.data.toList.length ≤ 1048576 := upto_str (upto_of hk 2 _ rfl)
  refine ((Eng.YtmodblkagimhlaaDoor.houseSession_ok W hT a0 (hs_ok b0 f0 k0) a1.data.toList b1 a2.data.toList b2).law [v0, .string a1, .string a2] rfl (fun i hi => ?_)).mono fun e W' ⟨he, hb⟩ => ⟨_, he, ?_⟩
  · match i, hi with
    | 0, _ => exact r0
    | 1, _ => exact .str _
    | 2, _ => exact .str _
  · exact law_post laidOut (by kernel_rfl) (by kernel_rfl) Tryd.underlying4 (by kernel_rfl) hW' rfl hb

theorem houseSession_reads (os : Os) {H : Type} (enc : TypeId × Value → H) : ∃ places, DataW.whole enc Tryd.prog ((u8World os).forCall (fun _ _ => 0) ⟨#[], #[.agg #[.slice none 0 0, .slice none 0 0, .int .i64 0], .string ⟨#[]⟩, .string ⟨#[]⟩], []⟩).memory Tryd.f5.params.toList Rows.houseSessionSpec.vars false (#[.agg #[.slice none 0 0, .slice none 0 0, .int .i64 0], .string ⟨#[]⟩, .string ⟨#[]⟩] : Array Value).toList 8 = some ([.agg [.nil, .nil, .lit (.int .i64 0)], .lit (.string []), .lit (.string [])], [], places) :=
  ⟨[], by kernel_rfl⟩

theorem houseSession_lifted (os : Os) (started : os.Started) (H : Type) (enc : TypeId × Value → H) (F : Stop.Interp) :
    ReturnsInHanded {} Tryd.checked os 5 .any ((Rows.OpenSpec.upto Rows.houseSessionSpec).preRow enc Tryd.prog Tryd.f5 Rows.houseSessionUptoRow.domain false Rows.houseSessionUptoRow.laid) (((Rows.OpenSpec.upto Rows.houseSessionSpec).at F).post enc Tryd.prog Tryd.f5 false true false false) := by
  obtain ⟨places, hx⟩ := houseSession_reads os enc
  refine returnsInHanded_of_row (C := Tryd.checked) (s := (Rows.OpenSpec.upto Rows.houseSessionSpec)) own started (by as_aux_lemma => kernel_rfl) Tryd.func5
    (witness_row_at (enc := enc) (C := Tryd.checked) false (u8World os) #[.agg #[.slice none 0 0, .slice none 0 0, .int .i64 0], .string ⟨#[]⟩, .string ⟨#[]⟩] rfl (by as_aux_lemma => kernel_rfl) (by as_aux_lemma => kernel_rfl) (by as_aux_lemma => kernel_rfl)
      (OpenSpec.preRow_of_cond 8 hx (by as_aux_lemma => kernel_rfl) (fun k hk => by cases hk; kernel_rfl) (by as_aux_lemma => kernel_rfl) (u8_met os _))) ?_
  intro W base args ds gs before hval hW _ hcond hsz hL _ _
  exact houseSession_contract H enc W base args ds gs before hval hW hsz hL (hcond _ rfl)

theorem houseSession_said : Rows.HouseSessionUptoSaid :=
  OpenClaim.holds_of_cond 5 Tryd.f5 rfl rfl rfl rfl rfl rfl rfl ⟨rfl, rfl, rfl, rfl, rfl⟩ rfl rfl rfl rfl rfl (by as_aux_lemma => kernel_rfl) Tryd.func5 houseSession_closed
    (of_decide_eq_true (by as_aux_lemma => kernel_rfl)) (by unfold Func.isWrapper; rw [if_neg (of_decide_eq_false (by kernel_rfl))]; exact ⟨rfl, rfl⟩)
    (fun os started H enc _ F => by rw [OpenClaim.pre_eq_preRow]; exact houseSession_lifted os started H enc F)

theorem houseSession_plain (f : FuncId) (fn : Func) (hf : Tryd.pinned.checked.prog.funcNamed Rows.houseSessionUptoRow.func = some f) (hfn : Tryd.pinned.checked.prog.funcs[f]? = some fn) :
    true = Tryd.pinned.checked.prog.looks [] ∧ ∀ (j : Nat) t, fn.params[j]? = some t → Tryd.pinned.checked.prog.wantsStandIn t = false := by
  obtain rfl : f = 5 := Option.some.inj ((show Tryd.prog.funcNamed Rows.houseSessionUptoRow.func = some 5 by kernel_rfl).symm.trans hf) |>.symm
  obtain rfl : fn = Tryd.f5 := (Option.some.inj (Tryd.func5.symm.trans hfn)).symm
  refine ⟨looks.symm, fun j t ht => ?_⟩
  have hall : (Tryd.f5.params.toList.all fun t => !Tryd.prog.wantsStandIn t) = true := by kernel_rfl
  have := List.all_eq_true.1 hall t (Array.mem_toList_iff.2 (Array.mem_of_getElem? ht))
  show Tryd.prog.wantsStandIn t = false
  simpa using this

theorem houseSession_card : Rows.HouseSessionUptoCardSaid :=
  Claim7.holds_tied_plain_at .later [] _ _ _ _ houseSession_said (fun _ h => by cases h) (by as_aux_lemma => kernel_rfl) (fun _ h => by cases h) houseSessionUpto_row_tie rfl ⟨rfl, rfl⟩ main_is rfl houseSession_plain (by as_aux_lemma => kernel_rfl)
end Go.Proofs.YtmodblkagimhlaaDoor
