/- Proved here: trellislaw.BindWords returns true at every text and words, and each argument reads afterwards as before. Narrower than the first form: what it reads is of bulk at most 1048576. -/
import Derived.Test.YtecafnhnkklboaaDoorMC10
import Derived.Test.YtecafnhnkklboaaDoorMBN6
import Derived.Test.YtecafnhnkklboaaDoorMC13
set_option linter.unusedSimpArgs false
set_option maxRecDepth 100000
set_option linter.unusedVariables false
namespace Go.Proofs.YtecafnhnkklboaaDoor
open Go Go.Eng Go.ChangeShapes Go.WideShapes Go.ChangeAt Go.RowKit
open Go.ChangeMaps (open_string)

theorem bindWords_c0 : (fun (P : Program) (f : FuncId) (fn : Func) (s : ChangeSpec) (c : OpenClaim) => (c.wf (OpenSpec.ofChange s) : Bool)) Tryd.prog 4 Tryd.f4 (Rows.OpenSpec.upto Rows.bindWordsSpec).bare Rows.bindWordsUptoRow = true := by kernel_rfl
theorem bindWords_c3 : (fun (P : Program) (f : FuncId) (fn : Func) (s : ChangeSpec) (c : OpenClaim) => (fn.params.all (P.readableRec ·) : Bool)) Tryd.prog 4 Tryd.f4 (Rows.OpenSpec.upto Rows.bindWordsSpec).bare Rows.bindWordsUptoRow = true := by kernel_rfl
theorem bindWords_c4 : (fun (P : Program) (f : FuncId) (fn : Func) (s : ChangeSpec) (c : OpenClaim) => (namedTie P c.named s.vars : Bool)) Tryd.prog 4 Tryd.f4 (Rows.OpenSpec.upto Rows.bindWordsSpec).bare Rows.bindWordsUptoRow = true := by kernel_rfl
theorem bindWords_c5 : (fun (P : Program) (f : FuncId) (fn : Func) (s : ChangeSpec) (c : OpenClaim) => ((c.stops == []) : Bool)) Tryd.prog 4 Tryd.f4 (Rows.OpenSpec.upto Rows.bindWordsSpec).bare Rows.bindWordsUptoRow = true := by kernel_rfl
theorem bindWords_c7 : (fun (P : Program) (f : FuncId) (fn : Func) (s : ChangeSpec) (c : OpenClaim) => ((c.knobs == []) : Bool)) Tryd.prog 4 Tryd.f4 (Rows.OpenSpec.upto Rows.bindWordsSpec).bare Rows.bindWordsUptoRow = true := by kernel_rfl
theorem bindWords_c9 : (fun (P : Program) (f : FuncId) (fn : Func) (s : ChangeSpec) (c : OpenClaim) => ((c.inPlace == P.inPlace f) : Bool)) Tryd.prog 4 Tryd.f4 (Rows.OpenSpec.upto Rows.bindWordsSpec).bare Rows.bindWordsUptoRow = true := by kernel_rfl
theorem bindWords_c10 : (fun (P : Program) (f : FuncId) (fn : Func) (s : ChangeSpec) (c : OpenClaim) => ((c.unfollowed == P.unfollowed f) : Bool)) Tryd.prog 4 Tryd.f4 (Rows.OpenSpec.upto Rows.bindWordsSpec).bare Rows.bindWordsUptoRow = true := by kernel_rfl
theorem bindWords_c11 : (fun (P : Program) (f : FuncId) (fn : Func) (s : ChangeSpec) (c : OpenClaim) => ((c.recurses == P.recurses f) : Bool)) Tryd.prog 4 Tryd.f4 (Rows.OpenSpec.upto Rows.bindWordsSpec).bare Rows.bindWordsUptoRow = true := by kernel_rfl
theorem bindWords_c12 : (fun (P : Program) (f : FuncId) (fn : Func) (s : ChangeSpec) (c : OpenClaim) => ((c.named == P.varsNamed f) : Bool)) Tryd.prog 4 Tryd.f4 (Rows.OpenSpec.upto Rows.bindWordsSpec).bare Rows.bindWordsUptoRow = true := by kernel_rfl
theorem bindWords_c13 : (fun (P : Program) (f : FuncId) (fn : Func) (s : ChangeSpec) (c : OpenClaim) => ((c.maps == (fn.params.toList ++ s.plain.varTypes P).any (P.mapsRec ·)) : Bool)) Tryd.prog 4 Tryd.f4 (Rows.OpenSpec.upto Rows.bindWordsSpec).bare Rows.bindWordsUptoRow = true := by kernel_rfl
theorem bindWords_c14 : (fun (P : Program) (f : FuncId) (fn : Func) (s : ChangeSpec) (c : OpenClaim) => ((c.ifaces == (fn.params.toList ++ s.plain.varTypes P).any (P.ifacesRec ·)) : Bool)) Tryd.prog 4 Tryd.f4 (Rows.OpenSpec.upto Rows.bindWordsSpec).bare Rows.bindWordsUptoRow = true := by kernel_rfl
theorem bindWords_c15 : (fun (P : Program) (f : FuncId) (fn : Func) (s : ChangeSpec) (c : OpenClaim) => ((c.mapsOut == P.mapsAmong fn.resultTypes.toList) : Bool)) Tryd.prog 4 Tryd.f4 (Rows.OpenSpec.upto Rows.bindWordsSpec).bare Rows.bindWordsUptoRow = true := by kernel_rfl
theorem bindWords_c16 : (fun (P : Program) (f : FuncId) (fn : Func) (s : ChangeSpec) (c : OpenClaim) => ((c.loops == (fn.params.toList ++ s.plain.varTypes P).any (P.loopsFrom ·)) : Bool)) Tryd.prog 4 Tryd.f4 (Rows.OpenSpec.upto Rows.bindWordsSpec).bare Rows.bindWordsUptoRow = true := by kernel_rfl
theorem bindWords_c17 : (fun (P : Program) (f : FuncId) (fn : Func) (s : ChangeSpec) (c : OpenClaim) => ((c.wideKeys == (fn.params.toList ++ s.plain.varTypes P ++ fn.resultTypes.toList).any (P.wideKeysFrom ·)) : Bool)) Tryd.prog 4 Tryd.f4 (Rows.OpenSpec.upto Rows.bindWordsSpec).bare Rows.bindWordsUptoRow = true := by kernel_rfl
theorem bindWords_c18 : (fun (P : Program) (f : FuncId) (fn : Func) (s : ChangeSpec) (c : OpenClaim) => (s.vars.all (P.varReadable ·) : Bool)) Tryd.prog 4 Tryd.f4 (Rows.OpenSpec.upto Rows.bindWordsSpec).bare Rows.bindWordsUptoRow = true := by kernel_rfl
theorem bindWords_c19 : (fun (P : Program) (f : FuncId) (fn : Func) (s : ChangeSpec) (c : OpenClaim) => (fn.resultTypes.all (fun t => P.readableRec t && decide (t < P.types.size)) : Bool)) Tryd.prog 4 Tryd.f4 (Rows.OpenSpec.upto Rows.bindWordsSpec).bare Rows.bindWordsUptoRow = true := by kernel_rfl
theorem bindWords_c20 : (fun (P : Program) (f : FuncId) (fn : Func) (s : ChangeSpec) (c : OpenClaim) => ((c.ifacesOut == fn.resultTypes.toList.any (P.ifacesRec ·)) : Bool)) Tryd.prog 4 Tryd.f4 (Rows.OpenSpec.upto Rows.bindWordsSpec).bare Rows.bindWordsUptoRow = true := by kernel_rfl
theorem bindWords_c21 : (fun (P : Program) (f : FuncId) (fn : Func) (s : ChangeSpec) (c : OpenClaim) => ((c.loopsOut == fn.resultTypes.toList.any (P.loopsFrom ·)) : Bool)) Tryd.prog 4 Tryd.f4 (Rows.OpenSpec.upto Rows.bindWordsSpec).bare Rows.bindWordsUptoRow = true := by kernel_rfl
theorem bindWords_c23 : (fun (P : Program) (f : FuncId) (fn : Func) (s : ChangeSpec) (c : OpenClaim) => (c.shortTexts.isNone : Bool)) Tryd.prog 4 Tryd.f4 (Rows.OpenSpec.upto Rows.bindWordsSpec).bare Rows.bindWordsUptoRow = true := by kernel_rfl
theorem bindWords_c28 : (fun (P : Program) (f : FuncId) (fn : Func) (s : ChangeSpec) (c : OpenClaim) => ((c.kinds == (if c.domain.isEmpty then [] else fn.params.toList.map fun t => match P.underlying t with | some (.int k) => some k | _ => none)) : Bool)) Tryd.prog 4 Tryd.f4 (Rows.OpenSpec.upto Rows.bindWordsSpec).bare Rows.bindWordsUptoRow = true := by kernel_rfl
theorem bindWords_c29 : (fun (P : Program) (f : FuncId) (fn : Func) (s : ChangeSpec) (c : OpenClaim) => ((c.pinned == c.pinnedBy) : Bool)) Tryd.prog 4 Tryd.f4 (Rows.OpenSpec.upto Rows.bindWordsSpec).bare Rows.bindWordsUptoRow = true := by kernel_rfl
theorem bindWords_c30 : (fun (P : Program) (f : FuncId) (fn : Func) (s : ChangeSpec) (c : OpenClaim) => ((c.veiled == (fn.params.toList ++ s.plain.varTypes P ++ fn.resultTypes.toList).any (P.veiledRec ·)) : Bool)) Tryd.prog 4 Tryd.f4 (Rows.OpenSpec.upto Rows.bindWordsSpec).bare Rows.bindWordsUptoRow = true := by kernel_rfl
theorem bindWords_c31 : (fun (P : Program) (f : FuncId) (fn : Func) (s : ChangeSpec) (c : OpenClaim) => (c.veiledFits P fn.params.toList (fn.params.toList ++ s.plain.varTypes P ++ fn.resultTypes.toList) : Bool)) Tryd.prog 4 Tryd.f4 (Rows.OpenSpec.upto Rows.bindWordsSpec).bare Rows.bindWordsUptoRow = true := by kernel_rfl
theorem bindWords_closed : joinedFacts Tryd.prog 4 Tryd.f4 (Rows.OpenSpec.upto Rows.bindWordsSpec).bare Rows.bindWordsUptoRow = true := (and_t (and_t (and_t (and_t (and_t (and_t (and_t (and_t (and_t (and_t (and_t (and_t (and_t (and_t (and_t (and_t (and_t (and_t (and_t (and_t (and_t (and_t (and_t (and_t (and_t (and_t (and_t (and_t (and_t (and_t (and_t bindWords_c0 laidOut) mapsRowed) bindWords_c3) bindWords_c4) bindWords_c5) stops_nil) bindWords_c7) stopKnobs_nil) bindWords_c9) bindWords_c10) bindWords_c11) bindWords_c12) bindWords_c13) bindWords_c14) bindWords_c15) bindWords_c16) bindWords_c17) bindWords_c18) bindWords_c19) bindWords_c20) bindWords_c21) (by rw [plainKeys]; rfl)) bindWords_c23) stopsHeard) mayEnter) (by rw [liftsFinal]; rfl)) (by rw [make_cut]; rfl)) bindWords_c28) bindWords_c29) bindWords_c30) bindWords_c31)

theorem bindWords_contract (H : Type) (enc : TypeId × Value → H) (W : World) (base : Nat) (args : Array Value) (ds gs : List (DataW H)) (before : List MemPlace)
    (hval : ∀ (j : Nat) t v, Tryd.f4.params[j]? = some t → args[j]? = some v → Value.okWide Tryd.prog W .any base t v)
    (hW : DataW.Whole enc Tryd.prog Tryd.f4.params.toList Rows.bindWordsSpec.vars false W args.toList ds gs before) (hsz : (DataW.weightsEach Tryd.prog (Tryd.f4.params.toList ++ (Rows.OpenSpec.upto Rows.bindWordsSpec).bare.plain.varTypes Tryd.prog) (ds ++ gs)).all (· ≤ reachBytes) = true) (hL : laidMetH Tryd.prog Rows.bindWordsUptoRow.laid W) (hO : W.ShapedOpen Tryd.prog) (hk : Rows.uptoSmall H (ds ++ gs) = true) :
    Calls Tryd.prog 4 args W fun e W' => ∃ v, e = .returned v ∧ Rows.bindWordsSpec.post enc Tryd.prog Tryd.f4 false true false false W args v W' := by
  have hT : Eng.YtecafnhnkklboaaDoor.Keyz W := keyz_of hL
  have hW' := hW
  obtain ⟨p, q, hA, hV, rfl, hfz, hnd⟩ := hW
  rw [Tryd.params4] at hA hval hsz
  obtain ⟨v0, v1, d0, d1, p0, p1, rfl, rfl, rfl, h0, h1⟩ := trodAll_two hA
  obtain ⟨rfl, rfl⟩ := trodVars_none hV
  obtain ⟨a0, rfl, rfl, rfl, w0⟩ := open_string Tryd.underlying9 (hval 0 9 v0 rfl rfl) h0
  have b0 : a0.data.toList.length ≤ 1048576 := upto_str (upto_of hk 0 _ rfl)
  obtain ⟨n1, t1⟩ := h1
  obtain ⟨a1, b1, l1, f1, k1⟩ := opens_words.opens enc W n1 _ _ t1
  have r1 := vrel_slice (show Tryd.prog.underlying 28 = _ from Tryd.underlying28) (hval 1 28 v1 rfl rfl) l1
  replace f1 := f1 (reach_of hsz 1 28 _ rfl rfl)
  replace k1 := Nat.le_trans k1 (upto_of hk 1 _ rfl)
  refine ((Eng.YtecafnhnkklboaaDoor.bindWords_ok W hT (max_of_rec hO) a0.data.toList b0 a1 (words_sum k1)).law [.string a0, v1] rfl (fun i hi => ?_)).mono fun e W' ⟨he, hb⟩ => ⟨_, he, ?_⟩
  · match i, hi with
    | 0, _ => exact .str _
    | 1, _ => exact r1
  · exact law_post laidOut (by kernel_rfl) (by kernel_rfl) Tryd.underlying4 (by kernel_rfl) hW' rfl hb

theorem bindWords_reads (os : Os) {H : Type} (enc : TypeId × Value → H) : ∃ places, DataW.whole enc Tryd.prog ((recsWorld os).forCall (fun _ _ => 0) ⟨#[], #[.string ⟨#[]⟩, .slice none 0 0], []⟩).memory Tryd.f4.params.toList Rows.bindWordsSpec.vars false (#[.string ⟨#[]⟩, .slice none 0 0] : Array Value).toList 8 = some ([.lit (.string []), .nil], [], places) :=
  ⟨[], by kernel_rfl⟩

theorem bindWords_lifted (os : Os) (started : os.Started) (H : Type) (enc : TypeId × Value → H) (F : Stop.Interp) :
    ReturnsInHanded {} Tryd.checked os 4 .any ((Rows.OpenSpec.upto Rows.bindWordsSpec).preRow enc Tryd.prog Tryd.f4 Rows.bindWordsUptoRow.domain false Rows.bindWordsUptoRow.laid) (((Rows.OpenSpec.upto Rows.bindWordsSpec).at F).post enc Tryd.prog Tryd.f4 false true false false) := by
  obtain ⟨places, hx⟩ := bindWords_reads os enc
  refine returnsInHanded_of_row (C := Tryd.checked) (s := (Rows.OpenSpec.upto Rows.bindWordsSpec)) own started (by as_aux_lemma => kernel_rfl) Tryd.func4
    (witness_row_at (enc := enc) (C := Tryd.checked) false (recsWorld os) #[.string ⟨#[]⟩, .slice none 0 0] rfl (by as_aux_lemma => kernel_rfl) (by as_aux_lemma => kernel_rfl) (by as_aux_lemma => kernel_rfl)
      (OpenSpec.preRow_of_cond 8 hx (by as_aux_lemma => kernel_rfl) (fun k hk => by cases hk; kernel_rfl) (by as_aux_lemma => kernel_rfl) (recs_met os _))) ?_
  intro W base args ds gs before hval hW _ hcond hsz hL hO _
  exact bindWords_contract H enc W base args ds gs before hval hW hsz hL hO (hcond _ rfl)

theorem bindWords_said : Rows.BindWordsUptoSaid :=
  OpenClaim.holds_of_cond 4 Tryd.f4 rfl rfl rfl rfl rfl rfl rfl ⟨rfl, rfl, rfl, rfl, rfl⟩ rfl rfl rfl rfl rfl (by as_aux_lemma => kernel_rfl) Tryd.func4 bindWords_closed
    (of_decide_eq_true (by as_aux_lemma => kernel_rfl)) (by unfold Func.isWrapper; rw [if_neg (of_decide_eq_false (by kernel_rfl))]; exact ⟨rfl, rfl⟩)
    (fun os started H enc _ F => by rw [OpenClaim.pre_eq_preRow]; exact bindWords_lifted os started H enc F)

theorem bindWords_plain (f : FuncId) (fn : Func) (hf : Tryd.pinned.checked.prog.funcNamed Rows.bindWordsUptoRow.func = some f) (hfn : Tryd.pinned.checked.prog.funcs[f]? = some fn) :
    true = Tryd.pinned.checked.prog.looks [] ∧ ∀ (j : Nat) t, fn.params[j]? = some t → Tryd.pinned.checked.prog.wantsStandIn t = false := by
  obtain rfl : f = 4 := Option.some.inj ((show Tryd.prog.funcNamed Rows.bindWordsUptoRow.func = some 4 by kernel_rfl).symm.trans hf) |>.symm
  obtain rfl : fn = Tryd.f4 := (Option.some.inj (Tryd.func4.symm.trans hfn)).symm
  refine ⟨looks.symm, fun j t ht => ?_⟩
  have hall : (Tryd.f4.params.toList.all fun t => !Tryd.prog.wantsStandIn t) = true := by kernel_rfl
  have := List.all_eq_true.1 hall t (Array.mem_toList_iff.2 (Array.mem_of_getElem? ht))
  show Tryd.prog.wantsStandIn t = false
  simpa using this

theorem bindWords_card : Rows.BindWordsUptoCardSaid :=
  Claim7.holds_tied_plain_at .later [] _ _ _ _ bindWords_said (fun _ h => by cases h) (by as_aux_lemma => kernel_rfl) (fun _ h => by cases h) bindWordsUpto_row_tie rfl ⟨rfl, rfl⟩ main_is rfl bindWords_plain (by as_aux_lemma => kernel_rfl)
end Go.Proofs.YtecafnhnkklboaaDoor
