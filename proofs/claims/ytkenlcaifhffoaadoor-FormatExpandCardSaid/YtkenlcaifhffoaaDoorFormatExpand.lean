/- Proved here: trellislaw.FormatExpand returns true at every text and every items, and each argument reads afterwards as before. The card's condition: the tables of math/bits, strconv and unicode/utf8 and the two errors of package strconv hold what the program's text lays. -/
import Derived.Test.YtkenlcaifhffoaaDoorMC15
import Derived.Test.YtkenlcaifhffoaaDoorMFX2
import Derived.Test.YtkenlcaifhffoaaDoorMOF1
set_option linter.unusedSimpArgs false
set_option maxRecDepth 100000
set_option linter.unusedVariables false
namespace Go.Proofs.YtkenlcaifhffoaaDoor
open Go Go.Eng Go.ChangeShapes Go.WideShapes Go.ChangeAt Go.RowKit
open Go.ChangeMaps (open_string)

theorem formatExpand_c0 : (fun (P : Program) (f : FuncId) (fn : Func) (s : ChangeSpec) (c : OpenClaim) => (c.wf (OpenSpec.ofChange s) : Bool)) Tryd.prog 5 Tryd.f5 (OpenSpec.ofChange Rows.formatExpandSpec).bare Rows.formatExpandRow = true := by kernel_rfl
theorem formatExpand_c3 : (fun (P : Program) (f : FuncId) (fn : Func) (s : ChangeSpec) (c : OpenClaim) => (fn.params.all (P.readableRec ·) : Bool)) Tryd.prog 5 Tryd.f5 (OpenSpec.ofChange Rows.formatExpandSpec).bare Rows.formatExpandRow = true := by kernel_rfl
theorem formatExpand_c4 : (fun (P : Program) (f : FuncId) (fn : Func) (s : ChangeSpec) (c : OpenClaim) => (namedTie P c.named s.vars : Bool)) Tryd.prog 5 Tryd.f5 (OpenSpec.ofChange Rows.formatExpandSpec).bare Rows.formatExpandRow = true := by kernel_rfl
theorem formatExpand_c5 : (fun (P : Program) (f : FuncId) (fn : Func) (s : ChangeSpec) (c : OpenClaim) => ((c.stops == []) : Bool)) Tryd.prog 5 Tryd.f5 (OpenSpec.ofChange Rows.formatExpandSpec).bare Rows.formatExpandRow = true := by kernel_rfl
theorem formatExpand_c7 : (fun (P : Program) (f : FuncId) (fn : Func) (s : ChangeSpec) (c : OpenClaim) => ((c.knobs == []) : Bool)) Tryd.prog 5 Tryd.f5 (OpenSpec.ofChange Rows.formatExpandSpec).bare Rows.formatExpandRow = true := by kernel_rfl
theorem formatExpand_c9 : (fun (P : Program) (f : FuncId) (fn : Func) (s : ChangeSpec) (c : OpenClaim) => ((c.inPlace == P.inPlace f) : Bool)) Tryd.prog 5 Tryd.f5 (OpenSpec.ofChange Rows.formatExpandSpec).bare Rows.formatExpandRow = true := by kernel_rfl
theorem formatExpand_c10 : (fun (P : Program) (f : FuncId) (fn : Func) (s : ChangeSpec) (c : OpenClaim) => ((c.unfollowed == P.unfollowed f) : Bool)) Tryd.prog 5 Tryd.f5 (OpenSpec.ofChange Rows.formatExpandSpec).bare Rows.formatExpandRow = true := by kernel_rfl
theorem formatExpand_c11 : (fun (P : Program) (f : FuncId) (fn : Func) (s : ChangeSpec) (c : OpenClaim) => ((c.recurses == P.recurses f) : Bool)) Tryd.prog 5 Tryd.f5 (OpenSpec.ofChange Rows.formatExpandSpec).bare Rows.formatExpandRow = true := by kernel_rfl
theorem formatExpand_c12 : (fun (P : Program) (f : FuncId) (fn : Func) (s : ChangeSpec) (c : OpenClaim) => ((c.named == P.varsNamed f) : Bool)) Tryd.prog 5 Tryd.f5 (OpenSpec.ofChange Rows.formatExpandSpec).bare Rows.formatExpandRow = true := by kernel_rfl
theorem formatExpand_c13 : (fun (P : Program) (f : FuncId) (fn : Func) (s : ChangeSpec) (c : OpenClaim) => ((c.maps == (fn.params.toList ++ s.plain.varTypes P).any (P.mapsRec ·)) : Bool)) Tryd.prog 5 Tryd.f5 (OpenSpec.ofChange Rows.formatExpandSpec).bare Rows.formatExpandRow = true := by kernel_rfl
theorem formatExpand_c14 : (fun (P : Program) (f : FuncId) (fn : Func) (s : ChangeSpec) (c : OpenClaim) => ((c.ifaces == (fn.params.toList ++ s.plain.varTypes P).any (P.ifacesRec ·)) : Bool)) Tryd.prog 5 Tryd.f5 (OpenSpec.ofChange Rows.formatExpandSpec).bare Rows.formatExpandRow = true := by kernel_rfl
theorem formatExpand_c15 : (fun (P : Program) (f : FuncId) (fn : Func) (s : ChangeSpec) (c : OpenClaim) => ((c.mapsOut == P.mapsAmong fn.resultTypes.toList) : Bool)) Tryd.prog 5 Tryd.f5 (OpenSpec.ofChange Rows.formatExpandSpec).bare Rows.formatExpandRow = true := by kernel_rfl
theorem formatExpand_c16 : (fun (P : Program) (f : FuncId) (fn : Func) (s : ChangeSpec) (c : OpenClaim) => ((c.loops == (fn.params.toList ++ s.plain.varTypes P).any (P.loopsFrom ·)) : Bool)) Tryd.prog 5 Tryd.f5 (OpenSpec.ofChange Rows.formatExpandSpec).bare Rows.formatExpandRow = true := by kernel_rfl
theorem formatExpand_c17 : (fun (P : Program) (f : FuncId) (fn : Func) (s : ChangeSpec) (c : OpenClaim) => ((c.wideKeys == (fn.params.toList ++ s.plain.varTypes P ++ fn.resultTypes.toList).any (P.wideKeysFrom ·)) : Bool)) Tryd.prog 5 Tryd.f5 (OpenSpec.ofChange Rows.formatExpandSpec).bare Rows.formatExpandRow = true := by kernel_rfl
theorem formatExpand_c18 : (fun (P : Program) (f : FuncId) (fn : Func) (s : ChangeSpec) (c : OpenClaim) => (s.vars.all (P.varReadable ·) : Bool)) Tryd.prog 5 Tryd.f5 (OpenSpec.ofChange Rows.formatExpandSpec).bare Rows.formatExpandRow = true := by kernel_rfl
theorem formatExpand_c19 : (fun (P : Program) (f : FuncId) (fn : Func) (s : ChangeSpec) (c : OpenClaim) => (fn.resultTypes.all (fun t => P.readableRec t && decide (t < P.types.size)) : Bool)) Tryd.prog 5 Tryd.f5 (OpenSpec.ofChange Rows.formatExpandSpec).bare Rows.formatExpandRow = true := by kernel_rfl
theorem formatExpand_c20 : (fun (P : Program) (f : FuncId) (fn : Func) (s : ChangeSpec) (c : OpenClaim) => ((c.ifacesOut == fn.resultTypes.toList.any (P.ifacesRec ·)) : Bool)) Tryd.prog 5 Tryd.f5 (OpenSpec.ofChange Rows.formatExpandSpec).bare Rows.formatExpandRow = true := by kernel_rfl
theorem formatExpand_c21 : (fun (P : Program) (f : FuncId) (fn : Func) (s : ChangeSpec) (c : OpenClaim) => ((c.loopsOut == fn.resultTypes.toList.any (P.loopsFrom ·)) : Bool)) Tryd.prog 5 Tryd.f5 (OpenSpec.ofChange Rows.formatExpandSpec).bare Rows.formatExpandRow = true := by kernel_rfl
theorem formatExpand_c23 : (fun (P : Program) (f : FuncId) (fn : Func) (s : ChangeSpec) (c : OpenClaim) => (c.shortTexts.isNone : Bool)) Tryd.prog 5 Tryd.f5 (OpenSpec.ofChange Rows.formatExpandSpec).bare Rows.formatExpandRow = true := by kernel_rfl
theorem formatExpand_c28 : (fun (P : Program) (f : FuncId) (fn : Func) (s : ChangeSpec) (c : OpenClaim) => ((c.kinds == (if c.domain.isEmpty then [] else fn.params.toList.map fun t => match P.underlying t with | some (.int k) => some k | _ => none)) : Bool)) Tryd.prog 5 Tryd.f5 (OpenSpec.ofChange Rows.formatExpandSpec).bare Rows.formatExpandRow = true := by kernel_rfl
theorem formatExpand_c29 : (fun (P : Program) (f : FuncId) (fn : Func) (s : ChangeSpec) (c : OpenClaim) => ((c.pinned == c.pinnedBy) : Bool)) Tryd.prog 5 Tryd.f5 (OpenSpec.ofChange Rows.formatExpandSpec).bare Rows.formatExpandRow = true := by kernel_rfl
theorem formatExpand_c30 : (fun (P : Program) (f : FuncId) (fn : Func) (s : ChangeSpec) (c : OpenClaim) => ((c.veiled == (fn.params.toList ++ s.plain.varTypes P ++ fn.resultTypes.toList).any (P.veiledRec ·)) : Bool)) Tryd.prog 5 Tryd.f5 (OpenSpec.ofChange Rows.formatExpandSpec).bare Rows.formatExpandRow = true := by kernel_rfl
theorem formatExpand_c31 : (fun (P : Program) (f : FuncId) (fn : Func) (s : ChangeSpec) (c : OpenClaim) => (c.veiledFits P fn.params.toList (fn.params.toList ++ s.plain.varTypes P ++ fn.resultTypes.toList) : Bool)) Tryd.prog 5 Tryd.f5 (OpenSpec.ofChange Rows.formatExpandSpec).bare Rows.formatExpandRow = true := by kernel_rfl
theorem formatExpand_closed : joinedFacts Tryd.prog 5 Tryd.f5 (OpenSpec.ofChange Rows.formatExpandSpec).bare Rows.formatExpandRow = true := (and_t (and_t (and_t (and_t (and_t (and_t (and_t (and_t (and_t (and_t (and_t (and_t (and_t (and_t (and_t (and_t (and_t (and_t (and_t (and_t (and_t (and_t (and_t (and_t (and_t (and_t (and_t (and_t (and_t (and_t (and_t formatExpand_c0 laidOut) mapsRowed) formatExpand_c3) formatExpand_c4) formatExpand_c5) stops_nil) formatExpand_c7) stopKnobs_nil) formatExpand_c9) formatExpand_c10) formatExpand_c11) formatExpand_c12) formatExpand_c13) formatExpand_c14) formatExpand_c15) formatExpand_c16) formatExpand_c17) formatExpand_c18) formatExpand_c19) formatExpand_c20) formatExpand_c21) (by rw [plainKeys]; rfl)) formatExpand_c23) stopsHeard) mayEnter) (by rw [liftsFinal]; rfl)) (by rw [make_cut]; rfl)) formatExpand_c28) formatExpand_c29) formatExpand_c30) formatExpand_c31)

theorem formatExpand_contract (H : Type) (enc : TypeId × Value → H) (W : World) (base : Nat) (args : Array Value) (ds gs : List (DataW H)) (before : List MemPlace)
    (hval : ∀ (j : Nat) t v, Tryd.f5.params[j]? = some t → args[j]? = some v → Value.okWide Tryd.prog W .any base t v)
    (hW : DataW.Whole enc Tryd.prog Tryd.f5.params.toList Rows.formatExpandSpec.vars false W args.toList ds gs before) (hsz : (DataW.weightsEach Tryd.prog (Tryd.f5.params.toList ++ (OpenSpec.ofChange Rows.formatExpandSpec).bare.plain.varTypes Tryd.prog) (ds ++ gs)).all (· ≤ reachBytes) = true) (hL : laidMetH Tryd.prog Rows.formatExpandRow.laid W) :
    Calls Tryd.prog 5 args W fun e W' => ∃ v, e = .returned v ∧ Rows.formatExpandSpec.post enc Tryd.prog Tryd.f5 false true false false W args v W' := by
  have hT : Eng.YtkenlcaifhffoaaDoor.Fmtz W := fmtz_of hL
  have hW' := hW
  obtain ⟨p, q, hA, hV, rfl, hfz, hnd⟩ := hW
  rw [Tryd.params5] at hA hval hsz
  obtain ⟨v0, v1, d0, d1, p0, p1, rfl, rfl, rfl, h0, h1⟩ := trodAll_two hA
  obtain ⟨rfl, rfl⟩ := trodVars_none hV
  obtain ⟨a0, rfl, rfl, rfl, w0⟩ := open_string Tryd.underlying9 (hval 0 9 v0 rfl rfl) h0
  have b0 : a0.data.toList.length ≤ 140737488355328 := reach_str (reach_of hsz 0 9 _ rfl rfl)
  obtain ⟨n1, t1⟩ := h1
  obtain ⟨a1, b1, l1, f1, k1⟩ := opens_items.opens enc W n1 _ _ t1
  have r1 := vrel_slice (show Tryd.prog.underlying 45 = _ from Tryd.underlying45) (hval 1 45 v1 rfl rfl) l1
  replace f1 := f1 (reach_of hsz 1 45 _ rfl rfl)
  refine ((Eng.YtkenlcaifhffoaaDoor.formatExpand_ok W hT a0.data.toList b0 a1 (items_fit f1)).law [.string a0, v1] rfl (fun i hi => ?_)).mono fun e W' ⟨he, hb⟩ => ⟨_, he, ?_⟩
  · match i, hi with
    | 0, _ => exact .str _
    | 1, _ => exact r1
  · exact law_post laidOut (by kernel_rfl) (by kernel_rfl) Tryd.underlying4 (by kernel_rfl) hW' rfl hb

theorem formatExpand_reads (os : Os) {H : Type} (enc : TypeId × Value → H) : ∃ places, DataW.whole enc Tryd.prog ((recsWorld os).forCall (fun _ _ => 0) ⟨#[], #[.string ⟨#[]⟩, .slice none 0 0], []⟩).memory Tryd.f5.params.toList Rows.formatExpandSpec.vars false (#[.string ⟨#[]⟩, .slice none 0 0] : Array Value).toList 8 = some ([.lit (.string []), .nil], [], places) :=
  ⟨[], by kernel_rfl⟩

theorem formatExpand_lifted (os : Os) (started : os.Started) (H : Type) (enc : TypeId × Value → H) (F : Stop.Interp) :
    ReturnsInHanded {} Tryd.checked os 5 .any ((OpenSpec.ofChange Rows.formatExpandSpec).preRow enc Tryd.prog Tryd.f5 Rows.formatExpandRow.domain false Rows.formatExpandRow.laid) (((OpenSpec.ofChange Rows.formatExpandSpec).at F).post enc Tryd.prog Tryd.f5 false true false false) := by
  obtain ⟨places, hx⟩ := formatExpand_reads os enc
  refine returnsInHanded_of_row (C := Tryd.checked) (s := (OpenSpec.ofChange Rows.formatExpandSpec)) own started (by as_aux_lemma => kernel_rfl) Tryd.func5
    (witness_row_at (enc := enc) (C := Tryd.checked) false (recsWorld os) #[.string ⟨#[]⟩, .slice none 0 0] rfl (by as_aux_lemma => kernel_rfl) (by as_aux_lemma => kernel_rfl) (by as_aux_lemma => kernel_rfl)
      (OpenSpec.preRow_of_cond 8 hx (by as_aux_lemma => kernel_rfl) (fun k hk => by cases hk) (by as_aux_lemma => kernel_rfl) (recs_met os _))) ?_
  intro W base args ds gs before hval hW _ _ hsz hL _ _
  exact formatExpand_contract H enc W base args ds gs before hval hW hsz hL

theorem formatExpand_said : Rows.FormatExpandSaid :=
  OpenClaim.holds_of_cond 5 Tryd.f5 rfl rfl rfl rfl rfl rfl rfl ⟨rfl, rfl, rfl, rfl, rfl⟩ rfl rfl rfl rfl rfl (by as_aux_lemma => kernel_rfl) Tryd.func5 formatExpand_closed
    (of_decide_eq_true (by as_aux_lemma => kernel_rfl)) (by unfold Func.isWrapper; rw [if_neg (of_decide_eq_false (by kernel_rfl))]; exact ⟨rfl, rfl⟩)
    (fun os started H enc _ F => by rw [OpenClaim.pre_eq_preRow]; exact formatExpand_lifted os started H enc F)

theorem formatExpand_plain (f : FuncId) (fn : Func) (hf : Tryd.pinned.checked.prog.funcNamed Rows.formatExpandRow.func = some f) (hfn : Tryd.pinned.checked.prog.funcs[f]? = some fn) :
    true = Tryd.pinned.checked.prog.looks [] ∧ ∀ (j : Nat) t, fn.params[j]? = some t → Tryd.pinned.checked.prog.wantsStandIn t = false := by
  obtain rfl : f = 5 := Option.some.inj ((show Tryd.prog.funcNamed Rows.formatExpandRow.func = some 5 by kernel_rfl).symm.trans hf) |>.symm
  obtain rfl : fn = Tryd.f5 := (Option.some.inj (Tryd.func5.symm.trans hfn)).symm
  refine ⟨looks.symm, fun j t ht => ?_⟩
  have hall : (Tryd.f5.params.toList.all fun t => !Tryd.prog.wantsStandIn t) = true := by kernel_rfl
  have := List.all_eq_true.1 hall t (Array.mem_toList_iff.2 (Array.mem_of_getElem? ht))
  show Tryd.prog.wantsStandIn t = false
  simpa using this

theorem formatExpand_card : Rows.FormatExpandCardSaid :=
  Claim7.holds_tied_plain_at .later [] _ _ _ _ formatExpand_said (fun _ h => by cases h) (by as_aux_lemma => kernel_rfl) (fun _ h => by cases h) formatExpand_row_tie rfl ⟨rfl, rfl⟩ main_is rfl formatExpand_plain (by as_aux_lemma => kernel_rfl)
end Go.Proofs.YtkenlcaifhffoaaDoor
