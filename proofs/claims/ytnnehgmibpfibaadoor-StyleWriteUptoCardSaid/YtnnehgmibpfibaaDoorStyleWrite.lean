/- Proved here: trellislaw.StyleWrite returns true at every list of numbers whose bulk is at most 1048576, and each argument reads afterwards as before. Narrower than the first form: what it reads is of bulk at most 1048576. -/
import Derived.Test.YtnnehgmibpfibaaDoorCloseNum
import Derived.Test.YtnnehgmibpfibaaDoorStyle7
set_option linter.unusedSimpArgs false
set_option maxRecDepth 100000
set_option linter.unusedVariables false
namespace Go.Proofs.YtnnehgmibpfibaaDoor
open Go Go.Eng Go.ChangeShapes Go.WideShapes Go.ChangeAt Go.RowKit
open Go.ChangeMaps (open_string)

theorem styleWrite_c0 : (fun (P : Program) (f : FuncId) (fn : Func) (s : ChangeSpec) (c : OpenClaim) => (c.wf (OpenSpec.ofChange s) : Bool)) Tryd.prog 11 Tryd.f11 (Rows.OpenSpec.upto Rows.styleWriteSpec).bare Rows.styleWriteUptoRow = true := by kernel_rfl
theorem styleWrite_c3 : (fun (P : Program) (f : FuncId) (fn : Func) (s : ChangeSpec) (c : OpenClaim) => (fn.params.all (P.readableRec ·) : Bool)) Tryd.prog 11 Tryd.f11 (Rows.OpenSpec.upto Rows.styleWriteSpec).bare Rows.styleWriteUptoRow = true := by kernel_rfl
theorem styleWrite_c4 : (fun (P : Program) (f : FuncId) (fn : Func) (s : ChangeSpec) (c : OpenClaim) => (namedTie P c.named s.vars : Bool)) Tryd.prog 11 Tryd.f11 (Rows.OpenSpec.upto Rows.styleWriteSpec).bare Rows.styleWriteUptoRow = true := by kernel_rfl
theorem styleWrite_c5 : (fun (P : Program) (f : FuncId) (fn : Func) (s : ChangeSpec) (c : OpenClaim) => ((c.stops == []) : Bool)) Tryd.prog 11 Tryd.f11 (Rows.OpenSpec.upto Rows.styleWriteSpec).bare Rows.styleWriteUptoRow = true := by kernel_rfl
theorem styleWrite_c7 : (fun (P : Program) (f : FuncId) (fn : Func) (s : ChangeSpec) (c : OpenClaim) => ((c.knobs == []) : Bool)) Tryd.prog 11 Tryd.f11 (Rows.OpenSpec.upto Rows.styleWriteSpec).bare Rows.styleWriteUptoRow = true := by kernel_rfl
theorem styleWrite_c9 : (fun (P : Program) (f : FuncId) (fn : Func) (s : ChangeSpec) (c : OpenClaim) => ((c.inPlace == P.inPlace f) : Bool)) Tryd.prog 11 Tryd.f11 (Rows.OpenSpec.upto Rows.styleWriteSpec).bare Rows.styleWriteUptoRow = true := by kernel_rfl
theorem styleWrite_c10 : (fun (P : Program) (f : FuncId) (fn : Func) (s : ChangeSpec) (c : OpenClaim) => ((c.unfollowed == P.unfollowed f) : Bool)) Tryd.prog 11 Tryd.f11 (Rows.OpenSpec.upto Rows.styleWriteSpec).bare Rows.styleWriteUptoRow = true := by kernel_rfl
theorem styleWrite_c11 : (fun (P : Program) (f : FuncId) (fn : Func) (s : ChangeSpec) (c : OpenClaim) => ((c.recurses == P.recurses f) : Bool)) Tryd.prog 11 Tryd.f11 (Rows.OpenSpec.upto Rows.styleWriteSpec).bare Rows.styleWriteUptoRow = true := by kernel_rfl
theorem styleWrite_c12 : (fun (P : Program) (f : FuncId) (fn : Func) (s : ChangeSpec) (c : OpenClaim) => ((c.named == P.varsNamed f) : Bool)) Tryd.prog 11 Tryd.f11 (Rows.OpenSpec.upto Rows.styleWriteSpec).bare Rows.styleWriteUptoRow = true := by kernel_rfl
theorem styleWrite_c13 : (fun (P : Program) (f : FuncId) (fn : Func) (s : ChangeSpec) (c : OpenClaim) => ((c.maps == (fn.params.toList ++ s.plain.varTypes P).any (P.mapsRec ·)) : Bool)) Tryd.prog 11 Tryd.f11 (Rows.OpenSpec.upto Rows.styleWriteSpec).bare Rows.styleWriteUptoRow = true := by kernel_rfl
theorem styleWrite_c14 : (fun (P : Program) (f : FuncId) (fn : Func) (s : ChangeSpec) (c : OpenClaim) => ((c.ifaces == (fn.params.toList ++ s.plain.varTypes P).any (P.ifacesRec ·)) : Bool)) Tryd.prog 11 Tryd.f11 (Rows.OpenSpec.upto Rows.styleWriteSpec).bare Rows.styleWriteUptoRow = true := by kernel_rfl
theorem styleWrite_c15 : (fun (P : Program) (f : FuncId) (fn : Func) (s : ChangeSpec) (c : OpenClaim) => ((c.mapsOut == P.mapsAmong fn.resultTypes.toList) : Bool)) Tryd.prog 11 Tryd.f11 (Rows.OpenSpec.upto Rows.styleWriteSpec).bare Rows.styleWriteUptoRow = true := by kernel_rfl
theorem styleWrite_c16 : (fun (P : Program) (f : FuncId) (fn : Func) (s : ChangeSpec) (c : OpenClaim) => ((c.loops == (fn.params.toList ++ s.plain.varTypes P).any (P.loopsFrom ·)) : Bool)) Tryd.prog 11 Tryd.f11 (Rows.OpenSpec.upto Rows.styleWriteSpec).bare Rows.styleWriteUptoRow = true := by kernel_rfl
theorem styleWrite_c17 : (fun (P : Program) (f : FuncId) (fn : Func) (s : ChangeSpec) (c : OpenClaim) => ((c.wideKeys == (fn.params.toList ++ s.plain.varTypes P ++ fn.resultTypes.toList).any (P.wideKeysFrom ·)) : Bool)) Tryd.prog 11 Tryd.f11 (Rows.OpenSpec.upto Rows.styleWriteSpec).bare Rows.styleWriteUptoRow = true := by kernel_rfl
theorem styleWrite_c18 : (fun (P : Program) (f : FuncId) (fn : Func) (s : ChangeSpec) (c : OpenClaim) => (s.vars.all (P.varReadable ·) : Bool)) Tryd.prog 11 Tryd.f11 (Rows.OpenSpec.upto Rows.styleWriteSpec).bare Rows.styleWriteUptoRow = true := by kernel_rfl
theorem styleWrite_c19 : (fun (P : Program) (f : FuncId) (fn : Func) (s : ChangeSpec) (c : OpenClaim) => (fn.resultTypes.all (fun t => P.readableRec t && decide (t < P.types.size)) : Bool)) Tryd.prog 11 Tryd.f11 (Rows.OpenSpec.upto Rows.styleWriteSpec).bare Rows.styleWriteUptoRow = true := by kernel_rfl
theorem styleWrite_c20 : (fun (P : Program) (f : FuncId) (fn : Func) (s : ChangeSpec) (c : OpenClaim) => ((c.ifacesOut == fn.resultTypes.toList.any (P.ifacesRec ·)) : Bool)) Tryd.prog 11 Tryd.f11 (Rows.OpenSpec.upto Rows.styleWriteSpec).bare Rows.styleWriteUptoRow = true := by kernel_rfl
theorem styleWrite_c21 : (fun (P : Program) (f : FuncId) (fn : Func) (s : ChangeSpec) (c : OpenClaim) => ((c.loopsOut == fn.resultTypes.toList.any (P.loopsFrom ·)) : Bool)) Tryd.prog 11 Tryd.f11 (Rows.OpenSpec.upto Rows.styleWriteSpec).bare Rows.styleWriteUptoRow = true := by kernel_rfl
theorem styleWrite_c23 : (fun (P : Program) (f : FuncId) (fn : Func) (s : ChangeSpec) (c : OpenClaim) => (c.shortTexts.isNone : Bool)) Tryd.prog 11 Tryd.f11 (Rows.OpenSpec.upto Rows.styleWriteSpec).bare Rows.styleWriteUptoRow = true := by kernel_rfl
theorem styleWrite_c28 : (fun (P : Program) (f : FuncId) (fn : Func) (s : ChangeSpec) (c : OpenClaim) => ((c.kinds == (if c.domain.isEmpty then [] else fn.params.toList.map fun t => match P.underlying t with | some (.int k) => some k | _ => none)) : Bool)) Tryd.prog 11 Tryd.f11 (Rows.OpenSpec.upto Rows.styleWriteSpec).bare Rows.styleWriteUptoRow = true := by kernel_rfl
theorem styleWrite_c29 : (fun (P : Program) (f : FuncId) (fn : Func) (s : ChangeSpec) (c : OpenClaim) => ((c.pinned == c.pinnedBy) : Bool)) Tryd.prog 11 Tryd.f11 (Rows.OpenSpec.upto Rows.styleWriteSpec).bare Rows.styleWriteUptoRow = true := by kernel_rfl
theorem styleWrite_c30 : (fun (P : Program) (f : FuncId) (fn : Func) (s : ChangeSpec) (c : OpenClaim) => ((c.veiled == (fn.params.toList ++ s.plain.varTypes P ++ fn.resultTypes.toList).any (P.veiledRec ·)) : Bool)) Tryd.prog 11 Tryd.f11 (Rows.OpenSpec.upto Rows.styleWriteSpec).bare Rows.styleWriteUptoRow = true := by kernel_rfl
theorem styleWrite_c31 : (fun (P : Program) (f : FuncId) (fn : Func) (s : ChangeSpec) (c : OpenClaim) => (c.veiledFits P fn.params.toList (fn.params.toList ++ s.plain.varTypes P ++ fn.resultTypes.toList) : Bool)) Tryd.prog 11 Tryd.f11 (Rows.OpenSpec.upto Rows.styleWriteSpec).bare Rows.styleWriteUptoRow = true := by kernel_rfl
theorem styleWrite_closed : joinedFacts Tryd.prog 11 Tryd.f11 (Rows.OpenSpec.upto Rows.styleWriteSpec).bare Rows.styleWriteUptoRow = true := (and_t (and_t (and_t (and_t (and_t (and_t (and_t (and_t (and_t (and_t (and_t (and_t (and_t (and_t (and_t (and_t (and_t (and_t (and_t (and_t (and_t (and_t (and_t (and_t (and_t (and_t (and_t (and_t (and_t (and_t (and_t styleWrite_c0 laidOut) mapsRowed) styleWrite_c3) styleWrite_c4) styleWrite_c5) stops_nil) styleWrite_c7) stopKnobs_nil) styleWrite_c9) styleWrite_c10) styleWrite_c11) styleWrite_c12) styleWrite_c13) styleWrite_c14) styleWrite_c15) styleWrite_c16) styleWrite_c17) styleWrite_c18) styleWrite_c19) styleWrite_c20) styleWrite_c21) (by rw [plainKeys]; rfl)) styleWrite_c23) stopsHeard) mayEnter) (by rw [liftsFinal]; rfl)) (by rw [make_cut]; rfl)) styleWrite_c28) styleWrite_c29) styleWrite_c30) styleWrite_c31)

theorem styleWrite_contract (H : Type) (enc : TypeId × Value → H) (W : World) (base : Nat) (args : Array Value) (ds gs : List (DataW H)) (before : List MemPlace)
    (hval : ∀ (j : Nat) t v, Tryd.f11.params[j]? = some t → args[j]? = some v → Value.okWide Tryd.prog W .any base t v)
    (hW : DataW.Whole enc Tryd.prog Tryd.f11.params.toList Rows.styleWriteSpec.vars false W args.toList ds gs before) (hsz : (DataW.weightsEach Tryd.prog (Tryd.f11.params.toList ++ (Rows.OpenSpec.upto Rows.styleWriteSpec).bare.plain.varTypes Tryd.prog) (ds ++ gs)).all (· ≤ reachBytes) = true) (hL : laidMetH Tryd.prog Rows.styleWriteUptoRow.laid W) (hk : Rows.uptoSmall H (ds ++ gs) = true) :
    Calls Tryd.prog 11 args W fun e W' => ∃ v, e = .returned v ∧ Rows.styleWriteSpec.post enc Tryd.prog Tryd.f11 false true false false W args v W' := by
  have hT : Eng.YtnnehgmibpfibaaDoor.Nums W := nums_of hL
  have hW' := hW
  obtain ⟨p, q, hA, hV, rfl, hfz, hnd⟩ := hW
  rw [Tryd.params11] at hA hval hsz
  obtain ⟨v0, d0, rfl, rfl, h0⟩ := trodAll_one hA
  obtain ⟨rfl, rfl⟩ := trodVars_none hV
  obtain ⟨n0, t0⟩ := h0
  obtain ⟨a0, b0, l0, f0, k0⟩ := opens_ints.opens enc W n0 _ _ t0
  have r0 := vrel_slice (show Tryd.prog.underlying 32 = _ from Tryd.underlying32) (hval 0 32 v0 rfl rfl) l0
  replace f0 := f0 (reach_of hsz 0 32 _ rfl rfl)
  replace k0 := Nat.le_trans k0 (upto_of hk 0 _ rfl)
  refine ((Eng.YtnnehgmibpfibaaDoor.styleWrite_ok W hT a0 b0 (upto_ints k0)).law [v0] rfl (fun i hi => ?_)).mono fun e W' ⟨he, hb⟩ => ⟨_, he, ?_⟩
  · match i, hi with
    | 0, _ => exact r0
  · exact law_post laidOut (by kernel_rfl) (by kernel_rfl) Tryd.underlying4 (by kernel_rfl) hW' rfl hb

theorem styleWrite_reads (os : Os) {H : Type} (enc : TypeId × Value → H) : ∃ places, DataW.whole enc Tryd.prog ((numWorld os).forCall (fun _ _ => 0) ⟨#[], #[.slice none 0 0], []⟩).memory Tryd.f11.params.toList Rows.styleWriteSpec.vars false (#[.slice none 0 0] : Array Value).toList 8 = some ([.nil], [], places) :=
  ⟨[], by kernel_rfl⟩

theorem styleWrite_lifted (os : Os) (started : os.Started) (H : Type) (enc : TypeId × Value → H) (F : Stop.Interp) :
    ReturnsInHanded {} Tryd.checked os 11 .any ((Rows.OpenSpec.upto Rows.styleWriteSpec).preRow enc Tryd.prog Tryd.f11 Rows.styleWriteUptoRow.domain false Rows.styleWriteUptoRow.laid) (((Rows.OpenSpec.upto Rows.styleWriteSpec).at F).post enc Tryd.prog Tryd.f11 false true false false) := by
  obtain ⟨places, hx⟩ := styleWrite_reads os enc
  refine returnsInHanded_of_row (C := Tryd.checked) (s := (Rows.OpenSpec.upto Rows.styleWriteSpec)) own started (by as_aux_lemma => kernel_rfl) Tryd.func11
    (witness_row_at (enc := enc) (C := Tryd.checked) false (numWorld os) #[.slice none 0 0] rfl (by as_aux_lemma => kernel_rfl) (by as_aux_lemma => kernel_rfl) (by as_aux_lemma => kernel_rfl)
      (OpenSpec.preRow_of_cond 8 hx (by as_aux_lemma => kernel_rfl) (fun k hk => by cases hk; kernel_rfl) (by as_aux_lemma => kernel_rfl) (num_met os _))) ?_
  intro W base args ds gs before hval hW _ hcond hsz hL _ _
  exact styleWrite_contract H enc W base args ds gs before hval hW hsz hL (hcond _ rfl)

theorem styleWrite_said : Rows.StyleWriteUptoSaid :=
  OpenClaim.holds_of_cond 11 Tryd.f11 rfl rfl rfl rfl rfl rfl rfl ⟨rfl, rfl, rfl, rfl, rfl⟩ rfl rfl rfl rfl rfl (by as_aux_lemma => kernel_rfl) Tryd.func11 styleWrite_closed
    (of_decide_eq_true (by as_aux_lemma => kernel_rfl)) (by unfold Func.isWrapper; rw [if_neg (of_decide_eq_false (by kernel_rfl))]; exact ⟨rfl, rfl⟩)
    (fun os started H enc _ F => by rw [OpenClaim.pre_eq_preRow]; exact styleWrite_lifted os started H enc F)

theorem styleWrite_plain (f : FuncId) (fn : Func) (hf : Tryd.pinned.checked.prog.funcNamed Rows.styleWriteUptoRow.func = some f) (hfn : Tryd.pinned.checked.prog.funcs[f]? = some fn) :
    true = Tryd.pinned.checked.prog.looks [] ∧ ∀ (j : Nat) t, fn.params[j]? = some t → Tryd.pinned.checked.prog.wantsStandIn t = false := by
  obtain rfl : f = 11 := Option.some.inj ((show Tryd.prog.funcNamed Rows.styleWriteUptoRow.func = some 11 by kernel_rfl).symm.trans hf) |>.symm
  obtain rfl : fn = Tryd.f11 := (Option.some.inj (Tryd.func11.symm.trans hfn)).symm
  refine ⟨looks.symm, fun j t ht => ?_⟩
  have hall : (Tryd.f11.params.toList.all fun t => !Tryd.prog.wantsStandIn t) = true := by kernel_rfl
  have := List.all_eq_true.1 hall t (Array.mem_toList_iff.2 (Array.mem_of_getElem? ht))
  show Tryd.prog.wantsStandIn t = false
  simpa using this

theorem styleWrite_card : Rows.StyleWriteUptoCardSaid :=
  Claim7.holds_tied_plain_at .later [] _ _ _ _ styleWrite_said (fun _ h => by cases h) (by as_aux_lemma => kernel_rfl) (fun _ h => by cases h) styleWriteUpto_row_tie rfl ⟨rfl, rfl⟩ main_is rfl styleWrite_plain (by as_aux_lemma => kernel_rfl)
end Go.Proofs.YtnnehgmibpfibaaDoor
