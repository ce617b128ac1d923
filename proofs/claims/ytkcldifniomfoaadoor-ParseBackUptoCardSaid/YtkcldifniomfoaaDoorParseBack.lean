/- Proved here: trellislaw.ParseBack returns true at every list of events, and each argument reads afterwards as before. Narrower than the first form: what it reads is of bulk at most 1048576. -/
import Derived.Test.YtkcldifniomfoaaDoorMC5
import Derived.Test.YtkcldifniomfoaaDoorMQ12
import Derived.Test.YtkcldifniomfoaaDoorMC6
set_option linter.unusedSimpArgs false
set_option maxRecDepth 100000
set_option linter.unusedVariables false
namespace Go.Proofs.YtkcldifniomfoaaDoor
open Go Go.Eng Go.ChangeShapes Go.WideShapes Go.ChangeAt Go.RowKit
open Go.ChangeMaps (open_string)

theorem parseBack_c0 : (fun (P : Program) (f : FuncId) (fn : Func) (s : ChangeSpec) (c : OpenClaim) => (c.wf (OpenSpec.ofChange s) : Bool)) Tryd.prog 6 Tryd.f6 (Rows.OpenSpec.upto Rows.parseBackSpec).bare Rows.parseBackUptoRow = true := by kernel_rfl
theorem parseBack_c3 : (fun (P : Program) (f : FuncId) (fn : Func) (s : ChangeSpec) (c : OpenClaim) => (fn.params.all (P.readableRec ·) : Bool)) Tryd.prog 6 Tryd.f6 (Rows.OpenSpec.upto Rows.parseBackSpec).bare Rows.parseBackUptoRow = true := by kernel_rfl
theorem parseBack_c4 : (fun (P : Program) (f : FuncId) (fn : Func) (s : ChangeSpec) (c : OpenClaim) => (namedTie P c.named s.vars : Bool)) Tryd.prog 6 Tryd.f6 (Rows.OpenSpec.upto Rows.parseBackSpec).bare Rows.parseBackUptoRow = true := by kernel_rfl
theorem parseBack_c5 : (fun (P : Program) (f : FuncId) (fn : Func) (s : ChangeSpec) (c : OpenClaim) => ((c.stops == []) : Bool)) Tryd.prog 6 Tryd.f6 (Rows.OpenSpec.upto Rows.parseBackSpec).bare Rows.parseBackUptoRow = true := by kernel_rfl
theorem parseBack_c7 : (fun (P : Program) (f : FuncId) (fn : Func) (s : ChangeSpec) (c : OpenClaim) => ((c.knobs == []) : Bool)) Tryd.prog 6 Tryd.f6 (Rows.OpenSpec.upto Rows.parseBackSpec).bare Rows.parseBackUptoRow = true := by kernel_rfl
theorem parseBack_c9 : (fun (P : Program) (f : FuncId) (fn : Func) (s : ChangeSpec) (c : OpenClaim) => ((c.inPlace == P.inPlace f) : Bool)) Tryd.prog 6 Tryd.f6 (Rows.OpenSpec.upto Rows.parseBackSpec).bare Rows.parseBackUptoRow = true := by kernel_rfl
theorem parseBack_c10 : (fun (P : Program) (f : FuncId) (fn : Func) (s : ChangeSpec) (c : OpenClaim) => ((c.unfollowed == P.unfollowed f) : Bool)) Tryd.prog 6 Tryd.f6 (Rows.OpenSpec.upto Rows.parseBackSpec).bare Rows.parseBackUptoRow = true := by kernel_rfl
theorem parseBack_c11 : (fun (P : Program) (f : FuncId) (fn : Func) (s : ChangeSpec) (c : OpenClaim) => ((c.recurses == P.recurses f) : Bool)) Tryd.prog 6 Tryd.f6 (Rows.OpenSpec.upto Rows.parseBackSpec).bare Rows.parseBackUptoRow = true := by kernel_rfl
theorem parseBack_c12 : (fun (P : Program) (f : FuncId) (fn : Func) (s : ChangeSpec) (c : OpenClaim) => ((c.named == P.varsNamed f) : Bool)) Tryd.prog 6 Tryd.f6 (Rows.OpenSpec.upto Rows.parseBackSpec).bare Rows.parseBackUptoRow = true := by kernel_rfl
theorem parseBack_c13 : (fun (P : Program) (f : FuncId) (fn : Func) (s : ChangeSpec) (c : OpenClaim) => ((c.maps == (fn.params.toList ++ s.plain.varTypes P).any (P.mapsRec ·)) : Bool)) Tryd.prog 6 Tryd.f6 (Rows.OpenSpec.upto Rows.parseBackSpec).bare Rows.parseBackUptoRow = true := by kernel_rfl
theorem parseBack_c14 : (fun (P : Program) (f : FuncId) (fn : Func) (s : ChangeSpec) (c : OpenClaim) => ((c.ifaces == (fn.params.toList ++ s.plain.varTypes P).any (P.ifacesRec ·)) : Bool)) Tryd.prog 6 Tryd.f6 (Rows.OpenSpec.upto Rows.parseBackSpec).bare Rows.parseBackUptoRow = true := by kernel_rfl
theorem parseBack_c15 : (fun (P : Program) (f : FuncId) (fn : Func) (s : ChangeSpec) (c : OpenClaim) => ((c.mapsOut == P.mapsAmong fn.resultTypes.toList) : Bool)) Tryd.prog 6 Tryd.f6 (Rows.OpenSpec.upto Rows.parseBackSpec).bare Rows.parseBackUptoRow = true := by kernel_rfl
theorem parseBack_c16 : (fun (P : Program) (f : FuncId) (fn : Func) (s : ChangeSpec) (c : OpenClaim) => ((c.loops == (fn.params.toList ++ s.plain.varTypes P).any (P.loopsFrom ·)) : Bool)) Tryd.prog 6 Tryd.f6 (Rows.OpenSpec.upto Rows.parseBackSpec).bare Rows.parseBackUptoRow = true := by kernel_rfl
theorem parseBack_c17 : (fun (P : Program) (f : FuncId) (fn : Func) (s : ChangeSpec) (c : OpenClaim) => ((c.wideKeys == (fn.params.toList ++ s.plain.varTypes P ++ fn.resultTypes.toList).any (P.wideKeysFrom ·)) : Bool)) Tryd.prog 6 Tryd.f6 (Rows.OpenSpec.upto Rows.parseBackSpec).bare Rows.parseBackUptoRow = true := by kernel_rfl
theorem parseBack_c18 : (fun (P : Program) (f : FuncId) (fn : Func) (s : ChangeSpec) (c : OpenClaim) => (s.vars.all (P.varReadable ·) : Bool)) Tryd.prog 6 Tryd.f6 (Rows.OpenSpec.upto Rows.parseBackSpec).bare Rows.parseBackUptoRow = true := by kernel_rfl
theorem parseBack_c19 : (fun (P : Program) (f : FuncId) (fn : Func) (s : ChangeSpec) (c : OpenClaim) => (fn.resultTypes.all (fun t => P.readableRec t && decide (t < P.types.size)) : Bool)) Tryd.prog 6 Tryd.f6 (Rows.OpenSpec.upto Rows.parseBackSpec).bare Rows.parseBackUptoRow = true := by kernel_rfl
theorem parseBack_c20 : (fun (P : Program) (f : FuncId) (fn : Func) (s : ChangeSpec) (c : OpenClaim) => ((c.ifacesOut == fn.resultTypes.toList.any (P.ifacesRec ·)) : Bool)) Tryd.prog 6 Tryd.f6 (Rows.OpenSpec.upto Rows.parseBackSpec).bare Rows.parseBackUptoRow = true := by kernel_rfl
theorem parseBack_c21 : (fun (P : Program) (f : FuncId) (fn : Func) (s : ChangeSpec) (c : OpenClaim) => ((c.loopsOut == fn.resultTypes.toList.any (P.loopsFrom ·)) : Bool)) Tryd.prog 6 Tryd.f6 (Rows.OpenSpec.upto Rows.parseBackSpec).bare Rows.parseBackUptoRow = true := by kernel_rfl
theorem parseBack_c23 : (fun (P : Program) (f : FuncId) (fn : Func) (s : ChangeSpec) (c : OpenClaim) => (c.shortTexts.isNone : Bool)) Tryd.prog 6 Tryd.f6 (Rows.OpenSpec.upto Rows.parseBackSpec).bare Rows.parseBackUptoRow = true := by kernel_rfl
theorem parseBack_c28 : (fun (P : Program) (f : FuncId) (fn : Func) (s : ChangeSpec) (c : OpenClaim) => ((c.kinds == (if c.domain.isEmpty then [] else fn.params.toList.map fun t => match P.underlying t with | some (.int k) => some k | _ => none)) : Bool)) Tryd.prog 6 Tryd.f6 (Rows.OpenSpec.upto Rows.parseBackSpec).bare Rows.parseBackUptoRow = true := by kernel_rfl
theorem parseBack_c29 : (fun (P : Program) (f : FuncId) (fn : Func) (s : ChangeSpec) (c : OpenClaim) => ((c.pinned == c.pinnedBy) : Bool)) Tryd.prog 6 Tryd.f6 (Rows.OpenSpec.upto Rows.parseBackSpec).bare Rows.parseBackUptoRow = true := by kernel_rfl
theorem parseBack_c30 : (fun (P : Program) (f : FuncId) (fn : Func) (s : ChangeSpec) (c : OpenClaim) => ((c.veiled == (fn.params.toList ++ s.plain.varTypes P ++ fn.resultTypes.toList).any (P.veiledRec ·)) : Bool)) Tryd.prog 6 Tryd.f6 (Rows.OpenSpec.upto Rows.parseBackSpec).bare Rows.parseBackUptoRow = true := by kernel_rfl
theorem parseBack_c31 : (fun (P : Program) (f : FuncId) (fn : Func) (s : ChangeSpec) (c : OpenClaim) => (c.veiledFits P fn.params.toList (fn.params.toList ++ s.plain.varTypes P ++ fn.resultTypes.toList) : Bool)) Tryd.prog 6 Tryd.f6 (Rows.OpenSpec.upto Rows.parseBackSpec).bare Rows.parseBackUptoRow = true := by kernel_rfl
theorem parseBack_closed : joinedFacts Tryd.prog 6 Tryd.f6 (Rows.OpenSpec.upto Rows.parseBackSpec).bare Rows.parseBackUptoRow = true := (and_t (and_t (and_t (and_t (and_t (and_t (and_t (and_t (and_t (and_t (and_t (and_t (and_t (and_t (and_t (and_t (and_t (and_t (and_t (and_t (and_t (and_t (and_t (and_t (and_t (and_t (and_t (and_t (and_t (and_t (and_t parseBack_c0 laidOut) mapsRowed) parseBack_c3) parseBack_c4) parseBack_c5) stops_nil) parseBack_c7) stopKnobs_nil) parseBack_c9) parseBack_c10) parseBack_c11) parseBack_c12) parseBack_c13) parseBack_c14) parseBack_c15) parseBack_c16) parseBack_c17) parseBack_c18) parseBack_c19) parseBack_c20) parseBack_c21) (by rw [plainKeys]; rfl)) parseBack_c23) stopsHeard) mayEnter) (by rw [liftsFinal]; rfl)) (by rw [make_cut]; rfl)) parseBack_c28) parseBack_c29) parseBack_c30) parseBack_c31)

theorem parseBack_contract (H : Type) (enc : TypeId × Value → H) (W : World) (base : Nat) (args : Array Value) (ds gs : List (DataW H)) (before : List MemPlace)
    (hval : ∀ (j : Nat) t v, Tryd.f6.params[j]? = some t → args[j]? = some v → Value.okWide Tryd.prog W .any base t v)
    (hW : DataW.Whole enc Tryd.prog Tryd.f6.params.toList Rows.parseBackSpec.vars false W args.toList ds gs before) (hsz : (DataW.weightsEach Tryd.prog (Tryd.f6.params.toList ++ (Rows.OpenSpec.upto Rows.parseBackSpec).bare.plain.varTypes Tryd.prog) (ds ++ gs)).all (· ≤ reachBytes) = true) (hL : laidMetH Tryd.prog Rows.parseBackUptoRow.laid W) (hk : Rows.uptoSmall H (ds ++ gs) = true) :
    Calls Tryd.prog 6 args W fun e W' => ∃ v, e = .returned v ∧ Rows.parseBackSpec.post enc Tryd.prog Tryd.f6 false true false false W args v W' := by
  have hT : Eng.YtkcldifniomfoaaDoor.Both W := both_of hL
  have hW' := hW
  obtain ⟨p, q, hA, hV, rfl, hfz, hnd⟩ := hW
  rw [Tryd.params6] at hA hval hsz
  obtain ⟨v0, d0, rfl, rfl, h0⟩ := trodAll_one hA
  obtain ⟨rfl, rfl⟩ := trodVars_none hV
  obtain ⟨n0, t0⟩ := h0
  obtain ⟨a0, b0, l0, f0, k0⟩ := opens_events.opens enc W n0 _ _ t0
  have r0 := vrel_slice (show Tryd.prog.underlying 25 = _ from Tryd.underlying25) (hval 0 25 v0 rfl rfl) l0
  replace f0 := f0 (reach_of hsz 0 25 _ rfl rfl)
  replace k0 := Nat.le_trans k0 (upto_of hk 0 _ rfl)
  refine ((Eng.YtkcldifniomfoaaDoor.parseBack_ok W hT a0 (events_few b0 k0).1 (events_few b0 k0).2).law [v0] rfl (fun i hi => ?_)).mono fun e W' ⟨he, hb⟩ => ⟨_, he, ?_⟩
  · match i, hi with
    | 0, _ => exact r0
  · exact law_post laidOut (by kernel_rfl) (by kernel_rfl) Tryd.underlying4 (by kernel_rfl) hW' rfl hb

theorem parseBack_reads (os : Os) {H : Type} (enc : TypeId × Value → H) : ∃ places, DataW.whole enc Tryd.prog ((bothWorld os).forCall (fun _ _ => 0) ⟨#[], #[.slice none 0 0], []⟩).memory Tryd.f6.params.toList Rows.parseBackSpec.vars false (#[.slice none 0 0] : Array Value).toList 8 = some ([.nil], [], places) :=
  ⟨[], by kernel_rfl⟩

theorem parseBack_lifted (os : Os) (started : os.Started) (H : Type) (enc : TypeId × Value → H) (F : Stop.Interp) :
    ReturnsInHanded {} Tryd.checked os 6 .any ((Rows.OpenSpec.upto Rows.parseBackSpec).preRow enc Tryd.prog Tryd.f6 Rows.parseBackUptoRow.domain false Rows.parseBackUptoRow.laid) (((Rows.OpenSpec.upto Rows.parseBackSpec).at F).post enc Tryd.prog Tryd.f6 false true false false) := by
  obtain ⟨places, hx⟩ := parseBack_reads os enc
  refine returnsInHanded_of_row (C := Tryd.checked) (s := (Rows.OpenSpec.upto Rows.parseBackSpec)) own started (by as_aux_lemma => kernel_rfl) Tryd.func6
    (witness_row_at (enc := enc) (C := Tryd.checked) false (bothWorld os) #[.slice none 0 0] rfl (by as_aux_lemma => kernel_rfl) (by as_aux_lemma => kernel_rfl) (by as_aux_lemma => kernel_rfl)
      (OpenSpec.preRow_of_cond 8 hx (by as_aux_lemma => kernel_rfl) (fun k hk => by cases hk; kernel_rfl) (by as_aux_lemma => kernel_rfl) (both_met os _))) ?_
  intro W base args ds gs before hval hW _ hcond hsz hL _ _
  exact parseBack_contract H enc W base args ds gs before hval hW hsz hL (hcond _ rfl)

theorem parseBack_said : Rows.ParseBackUptoSaid :=
  OpenClaim.holds_of_cond 6 Tryd.f6 rfl rfl rfl rfl rfl rfl rfl ⟨rfl, rfl, rfl, rfl, rfl⟩ rfl rfl rfl rfl rfl (by as_aux_lemma => kernel_rfl) Tryd.func6 parseBack_closed
    (of_decide_eq_true (by as_aux_lemma => kernel_rfl)) (by unfold Func.isWrapper; rw [if_neg (of_decide_eq_false (by kernel_rfl))]; exact ⟨rfl, rfl⟩)
    (fun os started H enc _ F => by rw [OpenClaim.pre_eq_preRow]; exact parseBack_lifted os started H enc F)

theorem parseBack_plain (f : FuncId) (fn : Func) (hf : Tryd.pinned.checked.prog.funcNamed Rows.parseBackUptoRow.func = some f) (hfn : Tryd.pinned.checked.prog.funcs[f]? = some fn) :
    true = Tryd.pinned.checked.prog.looks [] ∧ ∀ (j : Nat) t, fn.params[j]? = some t → Tryd.pinned.checked.prog.wantsStandIn t = false := by
  obtain rfl : f = 6 := Option.some.inj ((show Tryd.prog.funcNamed Rows.parseBackUptoRow.func = some 6 by kernel_rfl).symm.trans hf) |>.symm
  obtain rfl : fn = Tryd.f6 := (Option.some.inj (Tryd.func6.symm.trans hfn)).symm
  refine ⟨looks.symm, fun j t ht => ?_⟩
  have hall : (Tryd.f6.params.toList.all fun t => !Tryd.prog.wantsStandIn t) = true := by kernel_rfl
  have := List.all_eq_true.1 hall t (Array.mem_toList_iff.2 (Array.mem_of_getElem? ht))
  show Tryd.prog.wantsStandIn t = false
  simpa using this

theorem parseBack_card : Rows.ParseBackUptoCardSaid :=
  Claim7.holds_tied_plain_at .later [] _ _ _ _ parseBack_said (fun _ h => by cases h) (by as_aux_lemma => kernel_rfl) (fun _ h => by cases h) parseBackUpto_row_tie rfl ⟨rfl, rfl⟩ main_is rfl parseBack_plain (by as_aux_lemma => kernel_rfl)
end Go.Proofs.YtkcldifniomfoaaDoor
