/- Proved here: trellislaw.RecordBack returns true at every recording, and each argument reads afterwards as before. The card's condition: the tables of math/bits, strconv and unicode/utf8 and the two errors of package strconv hold what the program's text lays. -/
import Derived.Test.YtlffjmnnoceakaaDoorMC7
import Derived.Test.YtlffjmnnoceakaaDoorMRD
import Derived.Test.YtlffjmnnoceakaaDoorMC1
set_option linter.unusedSimpArgs false
set_option maxRecDepth 100000
set_option linter.unusedVariables false
namespace Go.Proofs.YtlffjmnnoceakaaDoor
open Go Go.Eng Go.ChangeShapes Go.WideShapes Go.ChangeAt Go.RowKit
open Go.ChangeMaps (open_string)

theorem recordBack_c0 : (fun (P : Program) (f : FuncId) (fn : Func) (s : ChangeSpec) (c : OpenClaim) => (c.wf (OpenSpec.ofChange s) : Bool)) Tryd.prog 3 Tryd.f3 (OpenSpec.ofChange Rows.recordBackSpec).bare Rows.recordBackRow = true := by kernel_rfl
theorem recordBack_c3 : (fun (P : Program) (f : FuncId) (fn : Func) (s : ChangeSpec) (c : OpenClaim) => (fn.params.all (P.readableRec ·) : Bool)) Tryd.prog 3 Tryd.f3 (OpenSpec.ofChange Rows.recordBackSpec).bare Rows.recordBackRow = true := by kernel_rfl
theorem recordBack_c4 : (fun (P : Program) (f : FuncId) (fn : Func) (s : ChangeSpec) (c : OpenClaim) => (namedTie P c.named s.vars : Bool)) Tryd.prog 3 Tryd.f3 (OpenSpec.ofChange Rows.recordBackSpec).bare Rows.recordBackRow = true := by kernel_rfl
theorem recordBack_c5 : (fun (P : Program) (f : FuncId) (fn : Func) (s : ChangeSpec) (c : OpenClaim) => ((c.stops == []) : Bool)) Tryd.prog 3 Tryd.f3 (OpenSpec.ofChange Rows.recordBackSpec).bare Rows.recordBackRow = true := by kernel_rfl
theorem recordBack_c7 : (fun (P : Program) (f : FuncId) (fn : Func) (s : ChangeSpec) (c : OpenClaim) => ((c.knobs == []) : Bool)) Tryd.prog 3 Tryd.f3 (OpenSpec.ofChange Rows.recordBackSpec).bare Rows.recordBackRow = true := by kernel_rfl
theorem recordBack_c9 : (fun (P : Program) (f : FuncId) (fn : Func) (s : ChangeSpec) (c : OpenClaim) => ((c.inPlace == P.inPlace f) : Bool)) Tryd.prog 3 Tryd.f3 (OpenSpec.ofChange Rows.recordBackSpec).bare Rows.recordBackRow = true := by kernel_rfl
theorem recordBack_c10 : (fun (P : Program) (f : FuncId) (fn : Func) (s : ChangeSpec) (c : OpenClaim) => ((c.unfollowed == P.unfollowed f) : Bool)) Tryd.prog 3 Tryd.f3 (OpenSpec.ofChange Rows.recordBackSpec).bare Rows.recordBackRow = true := by kernel_rfl
theorem recordBack_c11 : (fun (P : Program) (f : FuncId) (fn : Func) (s : ChangeSpec) (c : OpenClaim) => ((c.recurses == P.recurses f) : Bool)) Tryd.prog 3 Tryd.f3 (OpenSpec.ofChange Rows.recordBackSpec).bare Rows.recordBackRow = true := by kernel_rfl
theorem recordBack_c12 : (fun (P : Program) (f : FuncId) (fn : Func) (s : ChangeSpec) (c : OpenClaim) => ((c.named == P.varsNamed f) : Bool)) Tryd.prog 3 Tryd.f3 (OpenSpec.ofChange Rows.recordBackSpec).bare Rows.recordBackRow = true := by kernel_rfl
theorem recordBack_c13 : (fun (P : Program) (f : FuncId) (fn : Func) (s : ChangeSpec) (c : OpenClaim) => ((c.maps == (fn.params.toList ++ s.plain.varTypes P).any (P.mapsRec ·)) : Bool)) Tryd.prog 3 Tryd.f3 (OpenSpec.ofChange Rows.recordBackSpec).bare Rows.recordBackRow = true := by kernel_rfl
theorem recordBack_c14 : (fun (P : Program) (f : FuncId) (fn : Func) (s : ChangeSpec) (c : OpenClaim) => ((c.ifaces == (fn.params.toList ++ s.plain.varTypes P).any (P.ifacesRec ·)) : Bool)) Tryd.prog 3 Tryd.f3 (OpenSpec.ofChange Rows.recordBackSpec).bare Rows.recordBackRow = true := by kernel_rfl
theorem recordBack_c15 : (fun (P : Program) (f : FuncId) (fn : Func) (s : ChangeSpec) (c : OpenClaim) => ((c.mapsOut == P.mapsAmong fn.resultTypes.toList) : Bool)) Tryd.prog 3 Tryd.f3 (OpenSpec.ofChange Rows.recordBackSpec).bare Rows.recordBackRow = true := by kernel_rfl
theorem recordBack_c16 : (fun (P : Program) (f : FuncId) (fn : Func) (s : ChangeSpec) (c : OpenClaim) => ((c.loops == (fn.params.toList ++ s.plain.varTypes P).any (P.loopsFrom ·)) : Bool)) Tryd.prog 3 Tryd.f3 (OpenSpec.ofChange Rows.recordBackSpec).bare Rows.recordBackRow = true := by kernel_rfl
theorem recordBack_c17 : (fun (P : Program) (f : FuncId) (fn : Func) (s : ChangeSpec) (c : OpenClaim) => ((c.wideKeys == (fn.params.toList ++ s.plain.varTypes P ++ fn.resultTypes.toList).any (P.wideKeysFrom ·)) : Bool)) Tryd.prog 3 Tryd.f3 (OpenSpec.ofChange Rows.recordBackSpec).bare Rows.recordBackRow = true := by kernel_rfl
theorem recordBack_c18 : (fun (P : Program) (f : FuncId) (fn : Func) (s : ChangeSpec) (c : OpenClaim) => (s.vars.all (P.varReadable ·) : Bool)) Tryd.prog 3 Tryd.f3 (OpenSpec.ofChange Rows.recordBackSpec).bare Rows.recordBackRow = true := by kernel_rfl
theorem recordBack_c19 : (fun (P : Program) (f : FuncId) (fn : Func) (s : ChangeSpec) (c : OpenClaim) => (fn.resultTypes.all (fun t => P.readableRec t && decide (t < P.types.size)) : Bool)) Tryd.prog 3 Tryd.f3 (OpenSpec.ofChange Rows.recordBackSpec).bare Rows.recordBackRow = true := by kernel_rfl
theorem recordBack_c20 : (fun (P : Program) (f : FuncId) (fn : Func) (s : ChangeSpec) (c : OpenClaim) => ((c.ifacesOut == fn.resultTypes.toList.any (P.ifacesRec ·)) : Bool)) Tryd.prog 3 Tryd.f3 (OpenSpec.ofChange Rows.recordBackSpec).bare Rows.recordBackRow = true := by kernel_rfl
theorem recordBack_c21 : (fun (P : Program) (f : FuncId) (fn : Func) (s : ChangeSpec) (c : OpenClaim) => ((c.loopsOut == fn.resultTypes.toList.any (P.loopsFrom ·)) : Bool)) Tryd.prog 3 Tryd.f3 (OpenSpec.ofChange Rows.recordBackSpec).bare Rows.recordBackRow = true := by kernel_rfl
theorem recordBack_c23 : (fun (P : Program) (f : FuncId) (fn : Func) (s : ChangeSpec) (c : OpenClaim) => (c.shortTexts.isNone : Bool)) Tryd.prog 3 Tryd.f3 (OpenSpec.ofChange Rows.recordBackSpec).bare Rows.recordBackRow = true := by kernel_rfl
theorem recordBack_c28 : (fun (P : Program) (f : FuncId) (fn : Func) (s : ChangeSpec) (c : OpenClaim) => ((c.kinds == (if c.domain.isEmpty then [] else fn.params.toList.map fun t => match P.underlying t with | some (.int k) => some k | _ => none)) : Bool)) Tryd.prog 3 Tryd.f3 (OpenSpec.ofChange Rows.recordBackSpec).bare Rows.recordBackRow = true := by kernel_rfl
theorem recordBack_c29 : (fun (P : Program) (f : FuncId) (fn : Func) (s : ChangeSpec) (c : OpenClaim) => ((c.pinned == c.pinnedBy) : Bool)) Tryd.prog 3 Tryd.f3 (OpenSpec.ofChange Rows.recordBackSpec).bare Rows.recordBackRow = true := by kernel_rfl
theorem recordBack_c30 : (fun (P : Program) (f : FuncId) (fn : Func) (s : ChangeSpec) (c : OpenClaim) => ((c.veiled == (fn.params.toList ++ s.plain.varTypes P ++ fn.resultTypes.toList).any (P.veiledRec ·)) : Bool)) Tryd.prog 3 Tryd.f3 (OpenSpec.ofChange Rows.recordBackSpec).bare Rows.recordBackRow = true := by kernel_rfl
theorem recordBack_c31 : (fun (P : Program) (f : FuncId) (fn : Func) (s : ChangeSpec) (c : OpenClaim) => (c.veiledFits P fn.params.toList (fn.params.toList ++ s.plain.varTypes P ++ fn.resultTypes.toList) : Bool)) Tryd.prog 3 Tryd.f3 (OpenSpec.ofChange Rows.recordBackSpec).bare Rows.recordBackRow = true := by kernel_rfl
theorem recordBack_closed : joinedFacts Tryd.prog 3 Tryd.f3 (OpenSpec.ofChange Rows.recordBackSpec).bare Rows.recordBackRow = true := (and_t (and_t (and_t (and_t (and_t (and_t (and_t (and_t (and_t (and_t (and_t (and_t (and_t (and_t (and_t (and_t (and_t (and_t (and_t (and_t (and_t (and_t (and_t (and_t (and_t (and_t (and_t (and_t (and_t (and_t (and_t recordBack_c0 laidOut) mapsRowed) recordBack_c3) recordBack_c4) recordBack_c5) stops_nil) recordBack_c7) stopKnobs_nil) recordBack_c9) recordBack_c10) recordBack_c11) recordBack_c12) recordBack_c13) recordBack_c14) recordBack_c15) recordBack_c16) recordBack_c17) recordBack_c18) recordBack_c19) recordBack_c20) recordBack_c21) (by rw [plainKeys]; rfl)) recordBack_c23) stopsHeard) mayEnter) (by rw [liftsFinal]; rfl)) (by rw [make_cut]; rfl)) recordBack_c28) recordBack_c29) recordBack_c30) recordBack_c31)

theorem recordBack_contract (H : Type) (enc : TypeId × Value → H) (W : World) (base : Nat) (args : Array Value) (ds gs : List (DataW H)) (before : List MemPlace)
    (hval : ∀ (j : Nat) t v, Tryd.f3.params[j]? = some t → args[j]? = some v → Value.okWide Tryd.prog W .any base t v)
    (hW : DataW.Whole enc Tryd.prog Tryd.f3.params.toList Rows.recordBackSpec.vars false W args.toList ds gs before) (hsz : (DataW.weightsEach Tryd.prog (Tryd.f3.params.toList ++ (OpenSpec.ofChange Rows.recordBackSpec).bare.plain.varTypes Tryd.prog) (ds ++ gs)).all (· ≤ reachBytes) = true) (hL : laidMetH Tryd.prog Rows.recordBackRow.laid W) (hO : W.ShapedOpen Tryd.prog) :
    Calls Tryd.prog 3 args W fun e W' => ∃ v, e = .returned v ∧ Rows.recordBackSpec.post enc Tryd.prog Tryd.f3 false true false false W args v W' := by
  have hT : Eng.YtlffjmnnoceakaaDoor.Recs W := recs_of hL
  have hW' := hW
  obtain ⟨p, q, hA, hV, rfl, hfz, hnd⟩ := hW
  rw [Tryd.params3] at hA hval hsz
  obtain ⟨v0, d0, rfl, rfl, h0⟩ := trodAll_one hA
  obtain ⟨rfl, rfl⟩ := trodVars_none hV
  obtain ⟨n0, t0⟩ := h0
  obtain ⟨a0, b0, l0, f0, k0⟩ := opens_haps.opens enc W n0 _ _ t0
  have r0 := vrel_slice (show Tryd.prog.underlying 22 = _ from Tryd.underlying22) (hval 0 22 v0 rfl rfl) l0
  replace f0 := f0 (reach_of hsz 0 22 _ rfl rfl)
  refine ((Eng.YtlffjmnnoceakaaDoor.recordBack_ok W hT (max_of_rec hO) a0 b0 (fit_haps f0)).law [v0] rfl (fun i hi => ?_)).mono fun e W' ⟨he, hb⟩ => ⟨_, he, ?_⟩
  · match i, hi with
    | 0, _ => exact r0
  · exact law_post laidOut (by kernel_rfl) (by kernel_rfl) Tryd.underlying4 (by kernel_rfl) hW' rfl hb

theorem recordBack_reads (os : Os) {H : Type} (enc : TypeId × Value → H) : ∃ places, DataW.whole enc Tryd.prog ((recsWorld os).forCall (fun _ _ => 0) ⟨#[], #[.slice none 0 0], []⟩).memory Tryd.f3.params.toList Rows.recordBackSpec.vars false (#[.slice none 0 0] : Array Value).toList 8 = some ([.nil], [], places) :=
  ⟨[], by kernel_rfl⟩

theorem recordBack_lifted (os : Os) (started : os.Started) (H : Type) (enc : TypeId × Value → H) (F : Stop.Interp) :
    ReturnsInHanded {} Tryd.checked os 3 .any ((OpenSpec.ofChange Rows.recordBackSpec).preRow enc Tryd.prog Tryd.f3 Rows.recordBackRow.domain false Rows.recordBackRow.laid) (((OpenSpec.ofChange Rows.recordBackSpec).at F).post enc Tryd.prog Tryd.f3 false true false false) := by
  obtain ⟨places, hx⟩ := recordBack_reads os enc
  refine returnsInHanded_of_row (C := Tryd.checked) (s := (OpenSpec.ofChange Rows.recordBackSpec)) own started (by as_aux_lemma => kernel_rfl) Tryd.func3
    (witness_row_at (enc := enc) (C := Tryd.checked) false (recsWorld os) #[.slice none 0 0] rfl (by as_aux_lemma => kernel_rfl) (by as_aux_lemma => kernel_rfl) (by as_aux_lemma => kernel_rfl)
      (OpenSpec.preRow_of_cond 8 hx (by as_aux_lemma => kernel_rfl) (fun k hk => by cases hk) (by as_aux_lemma => kernel_rfl) (recs_met os _))) ?_
  intro W base args ds gs before hval hW _ _ hsz hL hO _
  exact recordBack_contract H enc W base args ds gs before hval hW hsz hL hO

theorem recordBack_said : Rows.RecordBackSaid :=
  OpenClaim.holds_of_cond 3 Tryd.f3 rfl rfl rfl rfl rfl rfl rfl ⟨rfl, rfl, rfl, rfl, rfl⟩ rfl rfl rfl rfl rfl (by as_aux_lemma => kernel_rfl) Tryd.func3 recordBack_closed
    (of_decide_eq_true (by as_aux_lemma => kernel_rfl)) (by unfold Func.isWrapper; rw [if_neg (of_decide_eq_false (by kernel_rfl))]; exact ⟨rfl, rfl⟩)
    (fun os started H enc _ F => by rw [OpenClaim.pre_eq_preRow]; exact recordBack_lifted os started H enc F)

theorem recordBack_plain (f : FuncId) (fn : Func) (hf : Tryd.pinned.checked.prog.funcNamed Rows.recordBackRow.func = some f) (hfn : Tryd.pinned.checked.prog.funcs[f]? = some fn) :
    true = Tryd.pinned.checked.prog.looks [] ∧ ∀ (j : Nat) t, fn.params[j]? = some t → Tryd.pinned.checked.prog.wantsStandIn t = false := by
  obtain rfl : f = 3 := Option.some.inj ((show Tryd.prog.funcNamed Rows.recordBackRow.func = some 3 by kernel_rfl).symm.trans hf) |>.symm
  obtain rfl : fn = Tryd.f3 := (Option.some.inj (Tryd.func3.symm.trans hfn)).symm
  refine ⟨looks.symm, fun j t ht => ?_⟩
  have hall : (Tryd.f3.params.toList.all fun t => !Tryd.prog.wantsStandIn t) = true := by kernel_rfl
  have := List.all_eq_true.1 hall t (Array.mem_toList_iff.2 (Array.mem_of_getElem? ht))
  show Tryd.prog.wantsStandIn t = false
  simpa using this

theorem recordBack_card : Rows.RecordBackCardSaid :=
  Claim7.holds_tied_plain_at .later [] _ _ _ _ recordBack_said (fun _ h => by cases h) (by as_aux_lemma => kernel_rfl) (fun _ h => by cases h) recordBack_row_tie rfl ⟨rfl, rfl⟩ main_is rfl recordBack_plain (by as_aux_lemma => kernel_rfl)
end Go.Proofs.YtlffjmnnoceakaaDoor
