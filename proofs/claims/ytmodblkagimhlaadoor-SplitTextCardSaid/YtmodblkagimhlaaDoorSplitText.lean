/- Proved here: trellislaw.SplitText returns true at every split and text, and each argument reads afterwards as before. The card's condition: the tables of math/bits and strconv and the two errors of package strconv hold what the program's text lays. -/
import Derived.Test.YtmodblkagimhlaaDoorMC16
import Derived.Test.YtmodblkagimhlaaDoorMSX5
import Derived.Test.YtmodblkagimhlaaDoorMC8
set_option linter.unusedSimpArgs false
set_option maxRecDepth 100000
set_option linter.unusedVariables false
namespace Go.Proofs.YtmodblkagimhlaaDoor
open Go Go.Eng Go.ChangeShapes Go.WideShapes Go.ChangeAt Go.RowKit
open Go.ChangeMaps (open_string)

theorem splitText_c0 : (fun (P : Program) (f : FuncId) (fn : Func) (s : ChangeSpec) (c : OpenClaim) => (c.wf (OpenSpec.ofChange s) : Bool)) Tryd.prog 3 Tryd.f3 (OpenSpec.ofChange Rows.splitTextSpec).bare Rows.splitTextRow = true := by kernel_rfl
theorem splitText_c3 : (fun (P : Program) (f : FuncId) (fn : Func) (s : ChangeSpec) (c : OpenClaim) => (fn.params.all (P.readableRec ·) : Bool)) Tryd.prog 3 Tryd.f3 (OpenSpec.ofChange Rows.splitTextSpec).bare Rows.splitTextRow = true := by kernel_rfl
theorem splitText_c4 : (fun (P : Program) (f : FuncId) (fn : Func) (s : ChangeSpec) (c : OpenClaim) => (namedTie P c.named s.vars : Bool)) Tryd.prog 3 Tryd.f3 (OpenSpec.ofChange Rows.splitTextSpec).bare Rows.splitTextRow = true := by kernel_rfl
theorem splitText_c5 : (fun (P : Program) (f : FuncId) (fn : Func) (s : ChangeSpec) (c : OpenClaim) => ((c.stops == []) : Bool)) Tryd.prog 3 Tryd.f3 (OpenSpec.ofChange Rows.splitTextSpec).bare Rows.splitTextRow = true := by kernel_rfl
theorem splitText_c7 : (fun (P : Program) (f : FuncId) (fn : Func) (s : ChangeSpec) (c : OpenClaim) => ((c.knobs == []) : Bool)) Tryd.prog 3 Tryd.f3 (OpenSpec.ofChange Rows.splitTextSpec).bare Rows.splitTextRow = true := by kernel_rfl
theorem splitText_c9 : (fun (P : Program) (f : FuncId) (fn : Func) (s : ChangeSpec) (c : OpenClaim) => ((c.inPlace == P.inPlace f) : Bool)) Tryd.prog 3 Tryd.f3 (OpenSpec.ofChange Rows.splitTextSpec).bare Rows.splitTextRow = true := by kernel_rfl
theorem splitText_c10 : (fun (P : Program) (f : FuncId) (fn : Func) (s : ChangeSpec) (c : OpenClaim) => ((c.unfollowed == P.unfollowed f) : Bool)) Tryd.prog 3 Tryd.f3 (OpenSpec.ofChange Rows.splitTextSpec).bare Rows.splitTextRow = true := by kernel_rfl
theorem splitText_c11 : (fun (P : Program) (f : FuncId) (fn : Func) (s : ChangeSpec) (c : OpenClaim) => ((c.recurses == P.recurses f) : Bool)) Tryd.prog 3 Tryd.f3 (OpenSpec.ofChange Rows.splitTextSpec).bare Rows.splitTextRow = true := by kernel_rfl
theorem splitText_c12 : (fun (P : Program) (f : FuncId) (fn : Func) (s : ChangeSpec) (c : OpenClaim) => ((c.named == P.varsNamed f) : Bool)) Tryd.prog 3 Tryd.f3 (OpenSpec.ofChange Rows.splitTextSpec).bare Rows.splitTextRow = true := by kernel_rfl
theorem splitText_c13 : (fun (P : Program) (f : FuncId) (fn : Func) (s : ChangeSpec) (c : OpenClaim) => ((c.maps == (fn.params.toList ++ s.plain.varTypes P).any (P.mapsRec ·)) : Bool)) Tryd.prog 3 Tryd.f3 (OpenSpec.ofChange Rows.splitTextSpec).bare Rows.splitTextRow = true := by kernel_rfl
theorem splitText_c14 : (fun (P : Program) (f : FuncId) (fn : Func) (s : ChangeSpec) (c : OpenClaim) => ((c.ifaces == (fn.params.toList ++ s.plain.varTypes P).any (P.ifacesRec ·)) : Bool)) Tryd.prog 3 Tryd.f3 (OpenSpec.ofChange Rows.splitTextSpec).bare Rows.splitTextRow = true := by kernel_rfl
theorem splitText_c15 : (fun (P : Program) (f : FuncId) (fn : Func) (s : ChangeSpec) (c : OpenClaim) => ((c.mapsOut == P.mapsAmong fn.resultTypes.toList) : Bool)) Tryd.prog 3 Tryd.f3 (OpenSpec.ofChange Rows.splitTextSpec).bare Rows.splitTextRow = true := by kernel_rfl
theorem splitText_c16 : (fun (P : Program) (f : FuncId) (fn : Func) (s : ChangeSpec) (c : OpenClaim) => ((c.loops == (fn.params.toList ++ s.plain.varTypes P).any (P.loopsFrom ·)) : Bool)) Tryd.prog 3 Tryd.f3 (OpenSpec.ofChange Rows.splitTextSpec).bare Rows.splitTextRow = true := by kernel_rfl
theorem splitText_c17 : (fun (P : Program) (f : FuncId) (fn : Func) (s : ChangeSpec) (c : OpenClaim) => ((c.wideKeys == (fn.params.toList ++ s.plain.varTypes P ++ fn.resultTypes.toList).any (P.wideKeysFrom ·)) : Bool)) Tryd.prog 3 Tryd.f3 (OpenSpec.ofChange Rows.splitTextSpec).bare Rows.splitTextRow = true := by kernel_rfl
theorem splitText_c18 : (fun (P : Program) (f : FuncId) (fn : Func) (s : ChangeSpec) (c : OpenClaim) => (s.vars.all (P.varReadable ·) : Bool)) Tryd.prog 3 Tryd.f3 (OpenSpec.ofChange Rows.splitTextSpec).bare Rows.splitTextRow = true := by kernel_rfl
theorem splitText_c19 : (fun (P : Program) (f : FuncId) (fn : Func) (s : ChangeSpec) (c : OpenClaim) => (fn.resultTypes.all (fun t => P.readableRec t && decide (t < P.types.size)) : Bool)) Tryd.prog 3 Tryd.f3 (OpenSpec.ofChange Rows.splitTextSpec).bare Rows.splitTextRow = true := by kernel_rfl
theorem splitText_c20 : (fun (P : Program) (f : FuncId) (fn : Func) (s : ChangeSpec) (c : OpenClaim) => ((c.ifacesOut == fn.resultTypes.toList.any (P.ifacesRec ·)) : Bool)) Tryd.prog 3 Tryd.f3 (OpenSpec.ofChange Rows.splitTextSpec).bare Rows.splitTextRow = true := by kernel_rfl
theorem splitText_c21 : (fun (P : Program) (f : FuncId) (fn : Func) (s : ChangeSpec) (c : OpenClaim) => ((c.loopsOut == fn.resultTypes.toList.any (P.loopsFrom ·)) : Bool)) Tryd.prog 3 Tryd.f3 (OpenSpec.ofChange Rows.splitTextSpec).bare Rows.splitTextRow = true := by kernel_rfl
theorem splitText_c23 : (fun (P : Program) (f : FuncId) (fn : Func) (s : ChangeSpec) (c : OpenClaim) => (c.shortTexts.isNone : Bool)) Tryd.prog 3 Tryd.f3 (OpenSpec.ofChange Rows.splitTextSpec).bare Rows.splitTextRow = true := by kernel_rfl
theorem splitText_c28 : (fun (P : Program) (f : FuncId) (fn : Func) (s : ChangeSpec) (c : OpenClaim) => ((c.kinds == (if c.domain.isEmpty then [] else fn.params.toList.map fun t => match P.underlying t with | some (.int k) => some k | _ => none)) : Bool)) Tryd.prog 3 Tryd.f3 (OpenSpec.ofChange Rows.splitTextSpec).bare Rows.splitTextRow = true := by kernel_rfl
theorem splitText_c29 : (fun (P : Program) (f : FuncId) (fn : Func) (s : ChangeSpec) (c : OpenClaim) => ((c.pinned == c.pinnedBy) : Bool)) Tryd.prog 3 Tryd.f3 (OpenSpec.ofChange Rows.splitTextSpec).bare Rows.splitTextRow = true := by kernel_rfl
theorem splitText_c30 : (fun (P : Program) (f : FuncId) (fn : Func) (s : ChangeSpec) (c : OpenClaim) => ((c.veiled == (fn.params.toList ++ s.plain.varTypes P ++ fn.resultTypes.toList).any (P.veiledRec ·)) : Bool)) Tryd.prog 3 Tryd.f3 (OpenSpec.ofChange Rows.splitTextSpec).bare Rows.splitTextRow = true := by kernel_rfl
theorem splitText_c31 : (fun (P : Program) (f : FuncId) (fn : Func) (s : ChangeSpec) (c : OpenClaim) => (c.veiledFits P fn.params.toList (fn.params.toList ++ s.plain.varTypes P ++ fn.resultTypes.toList) : Bool)) Tryd.prog 3 Tryd.f3 (OpenSpec.ofChange Rows.splitTextSpec).bare Rows.splitTextRow = true := by kernel_rfl
theorem splitText_closed : joinedFacts Tryd.prog 3 Tryd.f3 (OpenSpec.ofChange Rows.splitTextSpec).bare Rows.splitTextRow = true := (and_t (and_t (and_t (and_t (and_t (and_t (and_t (and_t (and_t (and_t (and_t (and_t (and_t (and_t (and_t (and_t (and_t (and_t (and_t (and_t (and_t (and_t (and_t (and_t (and_t (and_t (and_t (and_t (and_t (and_t (and_t splitText_c0 laidOut) mapsRowed) splitText_c3) splitText_c4) splitText_c5) stops_nil) splitText_c7) stopKnobs_nil) splitText_c9) splitText_c10) splitText_c11) splitText_c12) splitText_c13) splitText_c14) splitText_c15) splitText_c16) splitText_c17) splitText_c18) splitText_c19) splitText_c20) splitText_c21) (by rw [plainKeys]; rfl)) splitText_c23) stopsHeard) mayEnter) (by rw [liftsFinal]; rfl)) (by rw [make_cut]; rfl)) splitText_c28) splitText_c29) splitText_c30) splitText_c31)

theorem splitText_contract (H : Type) (enc : TypeId × Value → H) (W : World) (base : Nat) (args : Array Value) (ds gs : List (DataW H)) (before : List MemPlace)
    (hval : ∀ (j : Nat) t v, Tryd.f3.params[j]? = some t → args[j]? = some v → Value.okWide Tryd.prog W .any base t v)
    (hW : DataW.Whole enc Tryd.prog Tryd.f3.params.toList Rows.splitTextSpec.vars false W args.toList ds gs before) (hsz : (DataW.weightsEach Tryd.prog (Tryd.f3.params.toList ++ (OpenSpec.ofChange Rows.splitTextSpec).bare.plain.varTypes Tryd.prog) (ds ++ gs)).all (· ≤ reachBytes) = true) (hL : laidMetH Tryd.prog Rows.splitTextRow.laid W) :
    Calls Tryd.prog 3 args W fun e W' => ∃ v, e = .returned v ∧ Rows.splitTextSpec.post enc Tryd.prog Tryd.f3 false true false false W args v W' := by
  have hT : Eng.YtmodblkagimhlaaDoor.Recs W := errs_of hL
  have hW' := hW
  obtain ⟨p, q, hA, hV, rfl, hfz, hnd⟩ := hW
  rw [Tryd.params3] at hA hval hsz
  obtain ⟨v0, v1, d0, d1, p0, p1, rfl, rfl, rfl, h0, h1⟩ := trodAll_two hA
  obtain ⟨rfl, rfl⟩ := trodVars_none hV
  obtain ⟨n0, t0⟩ := h0
  obtain ⟨a0, b0, l0, f0, k0⟩ := opens_split.opens enc W n0 _ _ t0
  have r0 := vrel_split (show Tryd.prog.underlying 24 = _ from Tryd.underlying24) (hval 0 24 v0 rfl rfl) l0
  replace f0 := f0 (reach_of hsz 0 24 _ rfl rfl)
  obtain ⟨a1, rfl, rfl, rfl, w1⟩ := open_string Tryd.underlying9 (hval 1 9 v1 rfl rfl) h1
  have b1 : a1.data.toList.length ≤ 140737488355328 := reach_str (reach_of hsz 1 9 _ rfl rfl)
  refine ((Eng.YtmodblkagimhlaaDoor.splitText_ok W hT a0 f0 a1.data.toList b1).law [v0, .string a1] rfl (fun i hi => ?_)).mono fun e W' ⟨he, hb⟩ => ⟨_, he, ?_⟩
  · match i, hi with
    | 0, _ => exact r0
    | 1, _ => exact .str _
  · exact law_post laidOut (by kernel_rfl) (by kernel_rfl) Tryd.underlying4 (by kernel_rfl) hW' rfl hb

theorem splitText_reads (os : Os) {H : Type} (enc : TypeId × Value → H) : ∃ places, DataW.whole enc Tryd.prog ((recsWorld os).forCall (fun _ _ => 0) ⟨#[], #[.agg #[.int .i64 0, .int .i64 0, .int .i64 0, .slice none 0 0], .string ⟨#[]⟩], []⟩).memory Tryd.f3.params.toList Rows.splitTextSpec.vars false (#[.agg #[.int .i64 0, .int .i64 0, .int .i64 0, .slice none 0 0], .string ⟨#[]⟩] : Array Value).toList 8 = some ([.agg [.lit (.int .i64 0), .lit (.int .i64 0), .lit (.int .i64 0), .nil], .lit (.string [])], [], places) :=
  ⟨[], by kernel_rfl⟩

theorem splitText_lifted (os : Os) (started : os.Started) (H : Type) (enc : TypeId × Value → H) (F : Stop.Interp) :
    ReturnsInHanded {} Tryd.checked os 3 .any ((OpenSpec.ofChange Rows.splitTextSpec).preRow enc Tryd.prog Tryd.f3 Rows.splitTextRow.domain false Rows.splitTextRow.laid) (((OpenSpec.ofChange Rows.splitTextSpec).at F).post enc Tryd.prog Tryd.f3 false true false false) := by
  obtain ⟨places, hx⟩ := splitText_reads os enc
  refine returnsInHanded_of_row (C := Tryd.checked) (s := (OpenSpec.ofChange Rows.splitTextSpec)) own started (by as_aux_lemma => kernel_rfl) Tryd.func3
    (witness_row_at (enc := enc) (C := Tryd.checked) false (recsWorld os) #[.agg #[.int .i64 0, .int .i64 0, .int .i64 0, .slice none 0 0], .string ⟨#[]⟩] rfl (by as_aux_lemma => kernel_rfl) (by as_aux_lemma => kernel_rfl) (by as_aux_lemma => kernel_rfl)
      (OpenSpec.preRow_of_cond 8 hx (by as_aux_lemma => kernel_rfl) (fun k hk => by cases hk) (by as_aux_lemma => kernel_rfl) (errs_met os _))) ?_
  intro W base args ds gs before hval hW _ _ hsz hL _ _
  exact splitText_contract H enc W base args ds gs before hval hW hsz hL

theorem splitText_said : Rows.SplitTextSaid :=
  OpenClaim.holds_of_cond 3 Tryd.f3 rfl rfl rfl rfl rfl rfl rfl ⟨rfl, rfl, rfl, rfl, rfl⟩ rfl rfl rfl rfl rfl (by as_aux_lemma => kernel_rfl) Tryd.func3 splitText_closed
    (of_decide_eq_true (by as_aux_lemma => kernel_rfl)) (by unfold Func.isWrapper; rw [if_neg (of_decide_eq_false (by kernel_rfl))]; exact ⟨rfl, rfl⟩)
    (fun os started H enc _ F => by rw [OpenClaim.pre_eq_preRow]; exact splitText_lifted os started H enc F)

theorem splitText_plain (f : FuncId) (fn : Func) (hf : Tryd.pinned.checked.prog.funcNamed Rows.splitTextRow.func = some f) (hfn : Tryd.pinned.checked.prog.funcs[f]? = some fn) :
    true = Tryd.pinned.checked.prog.looks [] ∧ ∀ (j : Nat) t, fn.params[j]? = some t → Tryd.pinned.checked.prog.wantsStandIn t = false := by
  obtain rfl : f = 3 := Option.some.inj ((show Tryd.prog.funcNamed Rows.splitTextRow.func = some 3 by kernel_rfl).symm.trans hf) |>.symm
  obtain rfl : fn = Tryd.f3 := (Option.some.inj (Tryd.func3.symm.trans hfn)).symm
  refine ⟨looks.symm, fun j t ht => ?_⟩
  have hall : (Tryd.f3.params.toList.all fun t => !Tryd.prog.wantsStandIn t) = true := by kernel_rfl
  have := List.all_eq_true.1 hall t (Array.mem_toList_iff.2 (Array.mem_of_getElem? ht))
  show Tryd.prog.wantsStandIn t = false
  simpa using this

theorem splitText_card : Rows.SplitTextCardSaid :=
  Claim7.holds_tied_plain_at .later [] _ _ _ _ splitText_said (fun _ h => by cases h) (by as_aux_lemma => kernel_rfl) (fun _ h => by cases h) splitText_row_tie rfl ⟨rfl, rfl⟩ main_is rfl splitText_plain (by as_aux_lemma => kernel_rfl)
end Go.Proofs.YtmodblkagimhlaaDoor
