/- Proved here: trellislaw.PutStands returns true at every width and every text, and each argument reads afterwards as before. The card's condition: the tables of package unicode/utf8 hold what the program's text lays. -/
import Derived.Test.YtgpkedepboenpaaDoorMC1
import Derived.Test.YtgpkedepboenpaaDoorMW17
set_option linter.unusedSimpArgs false
set_option maxRecDepth 100000
set_option linter.unusedVariables false
namespace Go.Proofs.YtgpkedepboenpaaDoor
open Go Go.Eng Go.ChangeShapes Go.WideShapes Go.ChangeAt Go.RowKit
open Go.ChangeMaps (open_string)

theorem putStands_c0 : (fun (P : Program) (f : FuncId) (fn : Func) (s : ChangeSpec) (c : OpenClaim) => (c.wf (OpenSpec.ofChange s) : Bool)) Tryd.prog 14 Tryd.f14 (OpenSpec.ofChange Rows.putStandsSpec).bare Rows.putStandsRow = true := by kernel_rfl
theorem putStands_c3 : (fun (P : Program) (f : FuncId) (fn : Func) (s : ChangeSpec) (c : OpenClaim) => (fn.params.all (P.readableRec ·) : Bool)) Tryd.prog 14 Tryd.f14 (OpenSpec.ofChange Rows.putStandsSpec).bare Rows.putStandsRow = true := by kernel_rfl
theorem putStands_c4 : (fun (P : Program) (f : FuncId) (fn : Func) (s : ChangeSpec) (c : OpenClaim) => (namedTie P c.named s.vars : Bool)) Tryd.prog 14 Tryd.f14 (OpenSpec.ofChange Rows.putStandsSpec).bare Rows.putStandsRow = true := by kernel_rfl
theorem putStands_c5 : (fun (P : Program) (f : FuncId) (fn : Func) (s : ChangeSpec) (c : OpenClaim) => ((c.stops == []) : Bool)) Tryd.prog 14 Tryd.f14 (OpenSpec.ofChange Rows.putStandsSpec).bare Rows.putStandsRow = true := by kernel_rfl
theorem putStands_c7 : (fun (P : Program) (f : FuncId) (fn : Func) (s : ChangeSpec) (c : OpenClaim) => ((c.knobs == []) : Bool)) Tryd.prog 14 Tryd.f14 (OpenSpec.ofChange Rows.putStandsSpec).bare Rows.putStandsRow = true := by kernel_rfl
theorem putStands_c9 : (fun (P : Program) (f : FuncId) (fn : Func) (s : ChangeSpec) (c : OpenClaim) => ((c.inPlace == P.inPlace f) : Bool)) Tryd.prog 14 Tryd.f14 (OpenSpec.ofChange Rows.putStandsSpec).bare Rows.putStandsRow = true := by kernel_rfl
theorem putStands_c10 : (fun (P : Program) (f : FuncId) (fn : Func) (s : ChangeSpec) (c : OpenClaim) => ((c.unfollowed == P.unfollowed f) : Bool)) Tryd.prog 14 Tryd.f14 (OpenSpec.ofChange Rows.putStandsSpec).bare Rows.putStandsRow = true := by kernel_rfl
theorem putStands_c11 : (fun (P : Program) (f : FuncId) (fn : Func) (s : ChangeSpec) (c : OpenClaim) => ((c.recurses == P.recurses f) : Bool)) Tryd.prog 14 Tryd.f14 (OpenSpec.ofChange Rows.putStandsSpec).bare Rows.putStandsRow = true := by kernel_rfl
theorem putStands_c12 : (fun (P : Program) (f : FuncId) (fn : Func) (s : ChangeSpec) (c : OpenClaim) => ((c.named == P.varsNamed f) : Bool)) Tryd.prog 14 Tryd.f14 (OpenSpec.ofChange Rows.putStandsSpec).bare Rows.putStandsRow = true := by kernel_rfl
theorem putStands_c13 : (fun (P : Program) (f : FuncId) (fn : Func) (s : ChangeSpec) (c : OpenClaim) => ((c.maps == (fn.params.toList ++ s.plain.varTypes P).any (P.mapsRec ·)) : Bool)) Tryd.prog 14 Tryd.f14 (OpenSpec.ofChange Rows.putStandsSpec).bare Rows.putStandsRow = true := by kernel_rfl
theorem putStands_c14 : (fun (P : Program) (f : FuncId) (fn : Func) (s : ChangeSpec) (c : OpenClaim) => ((c.ifaces == (fn.params.toList ++ s.plain.varTypes P).any (P.ifacesRec ·)) : Bool)) Tryd.prog 14 Tryd.f14 (OpenSpec.ofChange Rows.putStandsSpec).bare Rows.putStandsRow = true := by kernel_rfl
theorem putStands_c15 : (fun (P : Program) (f : FuncId) (fn : Func) (s : ChangeSpec) (c : OpenClaim) => ((c.mapsOut == P.mapsAmong fn.resultTypes.toList) : Bool)) Tryd.prog 14 Tryd.f14 (OpenSpec.ofChange Rows.putStandsSpec).bare Rows.putStandsRow = true := by kernel_rfl
theorem putStands_c16 : (fun (P : Program) (f : FuncId) (fn : Func) (s : ChangeSpec) (c : OpenClaim) => ((c.loops == (fn.params.toList ++ s.plain.varTypes P).any (P.loopsFrom ·)) : Bool)) Tryd.prog 14 Tryd.f14 (OpenSpec.ofChange Rows.putStandsSpec).bare Rows.putStandsRow = true := by kernel_rfl
theorem putStands_c17 : (fun (P : Program) (f : FuncId) (fn : Func) (s : ChangeSpec) (c : OpenClaim) => ((c.wideKeys == (fn.params.toList ++ s.plain.varTypes P ++ fn.resultTypes.toList).any (P.wideKeysFrom ·)) : Bool)) Tryd.prog 14 Tryd.f14 (OpenSpec.ofChange Rows.putStandsSpec).bare Rows.putStandsRow = true := by kernel_rfl
theorem putStands_c18 : (fun (P : Program) (f : FuncId) (fn : Func) (s : ChangeSpec) (c : OpenClaim) => (s.vars.all (P.varReadable ·) : Bool)) Tryd.prog 14 Tryd.f14 (OpenSpec.ofChange Rows.putStandsSpec).bare Rows.putStandsRow = true := by kernel_rfl
theorem putStands_c19 : (fun (P : Program) (f : FuncId) (fn : Func) (s : ChangeSpec) (c : OpenClaim) => (fn.resultTypes.all (fun t => P.readableRec t && decide (t < P.types.size)) : Bool)) Tryd.prog 14 Tryd.f14 (OpenSpec.ofChange Rows.putStandsSpec).bare Rows.putStandsRow = true := by kernel_rfl
theorem putStands_c20 : (fun (P : Program) (f : FuncId) (fn : Func) (s : ChangeSpec) (c : OpenClaim) => ((c.ifacesOut == fn.resultTypes.toList.any (P.ifacesRec ·)) : Bool)) Tryd.prog 14 Tryd.f14 (OpenSpec.ofChange Rows.putStandsSpec).bare Rows.putStandsRow = true := by kernel_rfl
theorem putStands_c21 : (fun (P : Program) (f : FuncId) (fn : Func) (s : ChangeSpec) (c : OpenClaim) => ((c.loopsOut == fn.resultTypes.toList.any (P.loopsFrom ·)) : Bool)) Tryd.prog 14 Tryd.f14 (OpenSpec.ofChange Rows.putStandsSpec).bare Rows.putStandsRow = true := by kernel_rfl
theorem putStands_c23 : (fun (P : Program) (f : FuncId) (fn : Func) (s : ChangeSpec) (c : OpenClaim) => (c.shortTexts.isNone : Bool)) Tryd.prog 14 Tryd.f14 (OpenSpec.ofChange Rows.putStandsSpec).bare Rows.putStandsRow = true := by kernel_rfl
theorem putStands_c28 : (fun (P : Program) (f : FuncId) (fn : Func) (s : ChangeSpec) (c : OpenClaim) => ((c.kinds == (if c.domain.isEmpty then [] else fn.params.toList.map fun t => match P.underlying t with | some (.int k) => some k | _ => none)) : Bool)) Tryd.prog 14 Tryd.f14 (OpenSpec.ofChange Rows.putStandsSpec).bare Rows.putStandsRow = true := by kernel_rfl
theorem putStands_c29 : (fun (P : Program) (f : FuncId) (fn : Func) (s : ChangeSpec) (c : OpenClaim) => ((c.pinned == c.pinnedBy) : Bool)) Tryd.prog 14 Tryd.f14 (OpenSpec.ofChange Rows.putStandsSpec).bare Rows.putStandsRow = true := by kernel_rfl
theorem putStands_c30 : (fun (P : Program) (f : FuncId) (fn : Func) (s : ChangeSpec) (c : OpenClaim) => ((c.veiled == (fn.params.toList ++ s.plain.varTypes P ++ fn.resultTypes.toList).any (P.veiledRec ·)) : Bool)) Tryd.prog 14 Tryd.f14 (OpenSpec.ofChange Rows.putStandsSpec).bare Rows.putStandsRow = true := by kernel_rfl
theorem putStands_c31 : (fun (P : Program) (f : FuncId) (fn : Func) (s : ChangeSpec) (c : OpenClaim) => (c.veiledFits P fn.params.toList (fn.params.toList ++ s.plain.varTypes P ++ fn.resultTypes.toList) : Bool)) Tryd.prog 14 Tryd.f14 (OpenSpec.ofChange Rows.putStandsSpec).bare Rows.putStandsRow = true := by kernel_rfl
theorem putStands_closed : joinedFacts Tryd.prog 14 Tryd.f14 (OpenSpec.ofChange Rows.putStandsSpec).bare Rows.putStandsRow = true := (and_t (and_t (and_t (and_t (and_t (and_t (and_t (and_t (and_t (and_t (and_t (and_t (and_t (and_t (and_t (and_t (and_t (and_t (and_t (and_t (and_t (and_t (and_t (and_t (and_t (and_t (and_t (and_t (and_t (and_t (and_t putStands_c0 laidOut) mapsRowed) putStands_c3) putStands_c4) putStands_c5) stops_nil) putStands_c7) stopKnobs_nil) putStands_c9) putStands_c10) putStands_c11) putStands_c12) putStands_c13) putStands_c14) putStands_c15) putStands_c16) putStands_c17) putStands_c18) putStands_c19) putStands_c20) putStands_c21) (by rw [plainKeys]; rfl)) putStands_c23) stopsHeard) mayEnter) (by rw [liftsFinal]; rfl)) (by rw [make_cut]; rfl)) putStands_c28) putStands_c29) putStands_c30) putStands_c31)

theorem putStands_contract (H : Type) (enc : TypeId × Value → H) (W : World) (base : Nat) (args : Array Value) (ds gs : List (DataW H)) (before : List MemPlace)
    (hval : ∀ (j : Nat) t v, Tryd.f14.params[j]? = some t → args[j]? = some v → Value.okWide Tryd.prog W .any base t v)
    (hW : DataW.Whole enc Tryd.prog Tryd.f14.params.toList Rows.putStandsSpec.vars false W args.toList ds gs before) (hsz : (DataW.weightsEach Tryd.prog (Tryd.f14.params.toList ++ (OpenSpec.ofChange Rows.putStandsSpec).bare.plain.varTypes Tryd.prog) (ds ++ gs)).all (· ≤ reachBytes) = true) (hL : laidMetH Tryd.prog Rows.putStandsRow.laid W) :
    Calls Tryd.prog 14 args W fun e W' => ∃ v, e = .returned v ∧ Rows.putStandsSpec.post enc Tryd.prog Tryd.f14 false true false false W args v W' := by
  have hT : Eng.YtgpkedepboenpaaDoor.Tabs W := tabs_of hL
  have hW' := hW
  obtain ⟨p, q, hA, hV, rfl, hfz, hnd⟩ := hW
  rw [Tryd.params14] at hA hval hsz
  obtain ⟨v0, v1, d0, d1, p0, p1, rfl, rfl, rfl, h0, h1⟩ := trodAll_two hA
  obtain ⟨rfl, rfl⟩ := trodVars_none hV
  obtain ⟨a0, rfl, rfl, rfl, w0⟩ := open_int Tryd.underlying3 (hval 0 3 v0 rfl rfl) h0
  have b0 : -9223372036854775808 ≤ a0 ∧ a0 ≤ 9223372036854775807 := by simpa [Lit.wf, IntKind.min, IntKind.max, IntKind.signed, IntKind.bits] using w0
  obtain ⟨a1, rfl, rfl, rfl, w1⟩ := open_string Tryd.underlying9 (hval 1 9 v1 rfl rfl) h1
  have b1 : a1.data.toList.length ≤ 140737488355328 := reach_str (reach_of hsz 1 9 _ rfl rfl)
  refine ((Eng.YtgpkedepboenpaaDoor.putStands_ok W hT a0 b0 a1.data.toList b1).law [.int .i64 a0, .string a1] rfl (fun i hi => ?_)).mono fun e W' ⟨he, hb⟩ => ⟨_, he, ?_⟩
  · match i, hi with
    | 0, _ => exact .int _ _
    | 1, _ => exact .str _
  · exact law_post laidOut (by kernel_rfl) (by kernel_rfl) Tryd.underlying4 (by kernel_rfl) hW' rfl hb

theorem putStands_reads (os : Os) {H : Type} (enc : TypeId × Value → H) : ∃ places, DataW.whole enc Tryd.prog ((u8World os).forCall (fun _ _ => 0) ⟨#[], #[.int .i64 0, .string ⟨#[]⟩], []⟩).memory Tryd.f14.params.toList Rows.putStandsSpec.vars false (#[.int .i64 0, .string ⟨#[]⟩] : Array Value).toList 8 = some ([.lit (.int .i64 0), .lit (.string [])], [], places) :=
  ⟨[], by kernel_rfl⟩

theorem putStands_lifted (os : Os) (started : os.Started) (H : Type) (enc : TypeId × Value → H) (F : Stop.Interp) :
    ReturnsInHanded {} Tryd.checked os 14 .any ((OpenSpec.ofChange Rows.putStandsSpec).preRow enc Tryd.prog Tryd.f14 Rows.putStandsRow.domain false Rows.putStandsRow.laid) (((OpenSpec.ofChange Rows.putStandsSpec).at F).post enc Tryd.prog Tryd.f14 false true false false) := by
  obtain ⟨places, hx⟩ := putStands_reads os enc
  refine returnsInHanded_of_row (C := Tryd.checked) (s := (OpenSpec.ofChange Rows.putStandsSpec)) own started (by as_aux_lemma => kernel_rfl) Tryd.func14
    (witness_row_at (enc := enc) (C := Tryd.checked) false (u8World os) #[.int .i64 0, .string ⟨#[]⟩] rfl (by as_aux_lemma => kernel_rfl) (by as_aux_lemma => kernel_rfl) (by as_aux_lemma => kernel_rfl)
      (OpenSpec.preRow_of_cond 8 hx (by as_aux_lemma => kernel_rfl) (fun k hk => by cases hk) (by as_aux_lemma => kernel_rfl) (u8_met os _))) ?_
  intro W base args ds gs before hval hW _ _ hsz hL _ _
  exact putStands_contract H enc W base args ds gs before hval hW hsz hL

theorem putStands_said : Rows.PutStandsSaid :=
  OpenClaim.holds_of_cond 14 Tryd.f14 rfl rfl rfl rfl rfl rfl rfl ⟨rfl, rfl, rfl, rfl, rfl⟩ rfl rfl rfl rfl rfl (by as_aux_lemma => kernel_rfl) Tryd.func14 putStands_closed
    (of_decide_eq_true (by as_aux_lemma => kernel_rfl)) (by unfold Func.isWrapper; rw [if_neg (of_decide_eq_false (by kernel_rfl))]; exact ⟨rfl, rfl⟩)
    (fun os started H enc _ F => by rw [OpenClaim.pre_eq_preRow]; exact putStands_lifted os started H enc F)

theorem putStands_plain (f : FuncId) (fn : Func) (hf : Tryd.pinned.checked.prog.funcNamed Rows.putStandsRow.func = some f) (hfn : Tryd.pinned.checked.prog.funcs[f]? = some fn) :
    false = Tryd.pinned.checked.prog.looks [] ∧ ∀ (j : Nat) t, fn.params[j]? = some t → Tryd.pinned.checked.prog.wantsStandIn t = false := by
  obtain rfl : f = 14 := Option.some.inj ((show Tryd.prog.funcNamed Rows.putStandsRow.func = some 14 by kernel_rfl).symm.trans hf) |>.symm
  obtain rfl : fn = Tryd.f14 := (Option.some.inj (Tryd.func14.symm.trans hfn)).symm
  refine ⟨looks.symm, fun j t ht => ?_⟩
  have hall : (Tryd.f14.params.toList.all fun t => !Tryd.prog.wantsStandIn t) = true := by kernel_rfl
  have := List.all_eq_true.1 hall t (Array.mem_toList_iff.2 (Array.mem_of_getElem? ht))
  show Tryd.prog.wantsStandIn t = false
  simpa using this

theorem putStands_card : Rows.PutStandsCardSaid :=
  Claim7.holds_tied_plain_at .later [] _ _ _ _ putStands_said (fun _ h => by cases h) (by as_aux_lemma => kernel_rfl) (fun _ h => by cases h) putStands_row_tie rfl ⟨rfl, rfl⟩ main_is rfl putStands_plain (by as_aux_lemma => kernel_rfl)
end Go.Proofs.YtgpkedepboenpaaDoor
