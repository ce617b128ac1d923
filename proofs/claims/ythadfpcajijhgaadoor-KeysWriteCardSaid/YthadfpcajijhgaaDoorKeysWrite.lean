/- Proved here: trellislaw.KeysWrite returns true at all keys, keypad and not, and each argument reads afterwards as before. The card's condition: the tables of math/bits, strconv and unicode/utf8 and the two errors of package strconv hold what the program's text lays. -/
import Derived.Test.YthadfpcajijhgaaDoorMC10
import Derived.Test.YthadfpcajijhgaaDoorMKY10
import Derived.Test.YthadfpcajijhgaaDoorMC11
set_option linter.unusedSimpArgs false
set_option maxRecDepth 100000
set_option linter.unusedVariables false
namespace Go.Proofs.YthadfpcajijhgaaDoor
open Go Go.Eng Go.ChangeShapes Go.WideShapes Go.ChangeAt Go.RowKit
open Go.ChangeMaps (open_string)

theorem keysWrite_c0 : (fun (P : Program) (f : FuncId) (fn : Func) (s : ChangeSpec) (c : OpenClaim) => (c.wf (OpenSpec.ofChange s) : Bool)) Tryd.prog 3 Tryd.f3 (OpenSpec.ofChange Rows.keysWriteSpec).bare Rows.keysWriteRow = true := by kernel_rfl
theorem keysWrite_c3 : (fun (P : Program) (f : FuncId) (fn : Func) (s : ChangeSpec) (c : OpenClaim) => (fn.params.all (P.readableRec ·) : Bool)) Tryd.prog 3 Tryd.f3 (OpenSpec.ofChange Rows.keysWriteSpec).bare Rows.keysWriteRow = true := by kernel_rfl
theorem keysWrite_c4 : (fun (P : Program) (f : FuncId) (fn : Func) (s : ChangeSpec) (c : OpenClaim) => (namedTie P c.named s.vars : Bool)) Tryd.prog 3 Tryd.f3 (OpenSpec.ofChange Rows.keysWriteSpec).bare Rows.keysWriteRow = true := by kernel_rfl
theorem keysWrite_c5 : (fun (P : Program) (f : FuncId) (fn : Func) (s : ChangeSpec) (c : OpenClaim) => ((c.stops == []) : Bool)) Tryd.prog 3 Tryd.f3 (OpenSpec.ofChange Rows.keysWriteSpec).bare Rows.keysWriteRow = true := by kernel_rfl
theorem keysWrite_c7 : (fun (P : Program) (f : FuncId) (fn : Func) (s : ChangeSpec) (c : OpenClaim) => ((c.knobs == []) : Bool)) Tryd.prog 3 Tryd.f3 (OpenSpec.ofChange Rows.keysWriteSpec).bare Rows.keysWriteRow = true := by kernel_rfl
theorem keysWrite_c9 : (fun (P : Program) (f : FuncId) (fn : Func) (s : ChangeSpec) (c : OpenClaim) => ((c.inPlace == P.inPlace f) : Bool)) Tryd.prog 3 Tryd.f3 (OpenSpec.ofChange Rows.keysWriteSpec).bare Rows.keysWriteRow = true := by kernel_rfl
theorem keysWrite_c10 : (fun (P : Program) (f : FuncId) (fn : Func) (s : ChangeSpec) (c : OpenClaim) => ((c.unfollowed == P.unfollowed f) : Bool)) Tryd.prog 3 Tryd.f3 (OpenSpec.ofChange Rows.keysWriteSpec).bare Rows.keysWriteRow = true := by kernel_rfl
theorem keysWrite_c11 : (fun (P : Program) (f : FuncId) (fn : Func) (s : ChangeSpec) (c : OpenClaim) => ((c.recurses == P.recurses f) : Bool)) Tryd.prog 3 Tryd.f3 (OpenSpec.ofChange Rows.keysWriteSpec).bare Rows.keysWriteRow = true := by kernel_rfl
theorem keysWrite_c12 : (fun (P : Program) (f : FuncId) (fn : Func) (s : ChangeSpec) (c : OpenClaim) => ((c.named == P.varsNamed f) : Bool)) Tryd.prog 3 Tryd.f3 (OpenSpec.ofChange Rows.keysWriteSpec).bare Rows.keysWriteRow = true := by kernel_rfl
theorem keysWrite_c13 : (fun (P : Program) (f : FuncId) (fn : Func) (s : ChangeSpec) (c : OpenClaim) => ((c.maps == (fn.params.toList ++ s.plain.varTypes P).any (P.mapsRec ·)) : Bool)) Tryd.prog 3 Tryd.f3 (OpenSpec.ofChange Rows.keysWriteSpec).bare Rows.keysWriteRow = true := by kernel_rfl
theorem keysWrite_c14 : (fun (P : Program) (f : FuncId) (fn : Func) (s : ChangeSpec) (c : OpenClaim) => ((c.ifaces == (fn.params.toList ++ s.plain.varTypes P).any (P.ifacesRec ·)) : Bool)) Tryd.prog 3 Tryd.f3 (OpenSpec.ofChange Rows.keysWriteSpec).bare Rows.keysWriteRow = true := by kernel_rfl
theorem keysWrite_c15 : (fun (P : Program) (f : FuncId) (fn : Func) (s : ChangeSpec) (c : OpenClaim) => ((c.mapsOut == P.mapsAmong fn.resultTypes.toList) : Bool)) Tryd.prog 3 Tryd.f3 (OpenSpec.ofChange Rows.keysWriteSpec).bare Rows.keysWriteRow = true := by kernel_rfl
theorem keysWrite_c16 : (fun (P : Program) (f : FuncId) (fn : Func) (s : ChangeSpec) (c : OpenClaim) => ((c.loops == (fn.params.toList ++ s.plain.varTypes P).any (P.loopsFrom ·)) : Bool)) Tryd.prog 3 Tryd.f3 (OpenSpec.ofChange Rows.keysWriteSpec).bare Rows.keysWriteRow = true := by kernel_rfl
theorem keysWrite_c17 : (fun (P : Program) (f : FuncId) (fn : Func) (s : ChangeSpec) (c : OpenClaim) => ((c.wideKeys == (fn.params.toList ++ s.plain.varTypes P ++ fn.resultTypes.toList).any (P.wideKeysFrom ·)) : Bool)) Tryd.prog 3 Tryd.f3 (OpenSpec.ofChange Rows.keysWriteSpec).bare Rows.keysWriteRow = true := by kernel_rfl
theorem keysWrite_c18 : (fun (P : Program) (f : FuncId) (fn : Func) (s : ChangeSpec) (c : OpenClaim) => (s.vars.all (P.varReadable ·) : Bool)) Tryd.prog 3 Tryd.f3 (OpenSpec.ofChange Rows.keysWriteSpec).bare Rows.keysWriteRow = true := by kernel_rfl
theorem keysWrite_c19 : (fun (P : Program) (f : FuncId) (fn : Func) (s : ChangeSpec) (c : OpenClaim) => (fn.resultTypes.all (fun t => P.readableRec t && decide (t < P.types.size)) : Bool)) Tryd.prog 3 Tryd.f3 (OpenSpec.ofChange Rows.keysWriteSpec).bare Rows.keysWriteRow = true := by kernel_rfl
theorem keysWrite_c20 : (fun (P : Program) (f : FuncId) (fn : Func) (s : ChangeSpec) (c : OpenClaim) => ((c.ifacesOut == fn.resultTypes.toList.any (P.ifacesRec ·)) : Bool)) Tryd.prog 3 Tryd.f3 (OpenSpec.ofChange Rows.keysWriteSpec).bare Rows.keysWriteRow = true := by kernel_rfl
theorem keysWrite_c21 : (fun (P : Program) (f : FuncId) (fn : Func) (s : ChangeSpec) (c : OpenClaim) => ((c.loopsOut == fn.resultTypes.toList.any (P.loopsFrom ·)) : Bool)) Tryd.prog 3 Tryd.f3 (OpenSpec.ofChange Rows.keysWriteSpec).bare Rows.keysWriteRow = true := by kernel_rfl
theorem keysWrite_c23 : (fun (P : Program) (f : FuncId) (fn : Func) (s : ChangeSpec) (c : OpenClaim) => (c.shortTexts.isNone : Bool)) Tryd.prog 3 Tryd.f3 (OpenSpec.ofChange Rows.keysWriteSpec).bare Rows.keysWriteRow = true := by kernel_rfl
theorem keysWrite_c28 : (fun (P : Program) (f : FuncId) (fn : Func) (s : ChangeSpec) (c : OpenClaim) => ((c.kinds == (if c.domain.isEmpty then [] else fn.params.toList.map fun t => match P.underlying t with | some (.int k) => some k | _ => none)) : Bool)) Tryd.prog 3 Tryd.f3 (OpenSpec.ofChange Rows.keysWriteSpec).bare Rows.keysWriteRow = true := by kernel_rfl
theorem keysWrite_c29 : (fun (P : Program) (f : FuncId) (fn : Func) (s : ChangeSpec) (c : OpenClaim) => ((c.pinned == c.pinnedBy) : Bool)) Tryd.prog 3 Tryd.f3 (OpenSpec.ofChange Rows.keysWriteSpec).bare Rows.keysWriteRow = true := by kernel_rfl
theorem keysWrite_c30 : (fun (P : Program) (f : FuncId) (fn : Func) (s : ChangeSpec) (c : OpenClaim) => ((c.veiled == (fn.params.toList ++ s.plain.varTypes P ++ fn.resultTypes.toList).any (P.veiledRec ·)) : Bool)) Tryd.prog 3 Tryd.f3 (OpenSpec.ofChange Rows.keysWriteSpec).bare Rows.keysWriteRow = true := by kernel_rfl
theorem keysWrite_c31 : (fun (P : Program) (f : FuncId) (fn : Func) (s : ChangeSpec) (c : OpenClaim) => (c.veiledFits P fn.params.toList (fn.params.toList ++ s.plain.varTypes P ++ fn.resultTypes.toList) : Bool)) Tryd.prog 3 Tryd.f3 (OpenSpec.ofChange Rows.keysWriteSpec).bare Rows.keysWriteRow = true := by kernel_rfl
theorem keysWrite_closed : joinedFacts Tryd.prog 3 Tryd.f3 (OpenSpec.ofChange Rows.keysWriteSpec).bare Rows.keysWriteRow = true := (and_t (and_t (and_t (and_t (and_t (and_t (and_t (and_t (and_t (and_t (and_t (and_t (and_t (and_t (and_t (and_t (and_t (and_t (and_t (and_t (and_t (and_t (and_t (and_t (and_t (and_t (and_t (and_t (and_t (and_t (and_t keysWrite_c0 laidOut) mapsRowed) keysWrite_c3) keysWrite_c4) keysWrite_c5) stops_nil) keysWrite_c7) stopKnobs_nil) keysWrite_c9) keysWrite_c10) keysWrite_c11) keysWrite_c12) keysWrite_c13) keysWrite_c14) keysWrite_c15) keysWrite_c16) keysWrite_c17) keysWrite_c18) keysWrite_c19) keysWrite_c20) keysWrite_c21) (by rw [plainKeys]; rfl)) keysWrite_c23) stopsHeard) mayEnter) (by rw [liftsFinal]; rfl)) (by rw [make_cut]; rfl)) keysWrite_c28) keysWrite_c29) keysWrite_c30) keysWrite_c31)

theorem keysWrite_contract (H : Type) (enc : TypeId × Value → H) (W : World) (base : Nat) (args : Array Value) (ds gs : List (DataW H)) (before : List MemPlace)
    (hval : ∀ (j : Nat) t v, Tryd.f3.params[j]? = some t → args[j]? = some v → Value.okWide Tryd.prog W .any base t v)
    (hW : DataW.Whole enc Tryd.prog Tryd.f3.params.toList Rows.keysWriteSpec.vars false W args.toList ds gs before) (hsz : (DataW.weightsEach Tryd.prog (Tryd.f3.params.toList ++ (OpenSpec.ofChange Rows.keysWriteSpec).bare.plain.varTypes Tryd.prog) (ds ++ gs)).all (· ≤ reachBytes) = true) (hL : laidMetH Tryd.prog Rows.keysWriteRow.laid W) (hO : W.ShapedOpen Tryd.prog) :
    Calls Tryd.prog 3 args W fun e W' => ∃ v, e = .returned v ∧ Rows.keysWriteSpec.post enc Tryd.prog Tryd.f3 false true false false W args v W' := by
  have hT : Eng.YthadfpcajijhgaaDoor.Keyz W := keyz_of hL
  have hW' := hW
  obtain ⟨p, q, hA, hV, rfl, hfz, hnd⟩ := hW
  rw [Tryd.params3] at hA hval hsz
  obtain ⟨v0, v1, d0, d1, p0, p1, rfl, rfl, rfl, h0, h1⟩ := trodAll_two hA
  obtain ⟨rfl, rfl⟩ := trodVars_none hV
  obtain ⟨n0, t0⟩ := h0
  obtain ⟨a0, b0, l0, f0, k0⟩ := opens_key.opens enc W n0 _ _ t0
  have r0 := vrel_struct (show Tryd.prog.underlying 23 = _ from Tryd.underlying23) (hval 0 23 v0 rfl rfl) l0
  replace f0 := f0 (reach_of hsz 0 23 _ rfl rfl)
  obtain ⟨a1, rfl, rfl, rfl⟩ := open_bool Tryd.underlying4 (hval 1 4 v1 rfl rfl) h1
  refine ((Eng.YthadfpcajijhgaaDoor.keysWrite_ok W hT (max_of_rec hO) a0 b0 a1).law [v0, .bool a1] rfl (fun i hi => ?_)).mono fun e W' ⟨he, hb⟩ => ⟨_, he, ?_⟩
  · match i, hi with
    | 0, _ => exact r0
    | 1, _ => exact .bool _
  · exact law_post laidOut (by kernel_rfl) (by kernel_rfl) Tryd.underlying4 (by kernel_rfl) hW' rfl hb

theorem keysWrite_reads (os : Os) {H : Type} (enc : TypeId × Value → H) : ∃ places, DataW.whole enc Tryd.prog ((recsWorld os).forCall (fun _ _ => 0) ⟨#[], #[.agg #[.int .i64 0, .int .i32 0, .int .i64 0, .int .i64 0], .bool false], []⟩).memory Tryd.f3.params.toList Rows.keysWriteSpec.vars false (#[.agg #[.int .i64 0, .int .i32 0, .int .i64 0, .int .i64 0], .bool false] : Array Value).toList 8 = some ([.agg [.lit (.int .i64 0), .lit (.int .i32 0), .lit (.int .i64 0), .lit (.int .i64 0)], .lit (.bool false)], [], places) :=
  ⟨[], by kernel_rfl⟩

theorem keysWrite_lifted (os : Os) (started : os.Started) (H : Type) (enc : TypeId × Value → H) (F : Stop.Interp) :
    ReturnsInHanded {} Tryd.checked os 3 .any ((OpenSpec.ofChange Rows.keysWriteSpec).preRow enc Tryd.prog Tryd.f3 Rows.keysWriteRow.domain false Rows.keysWriteRow.laid) (((OpenSpec.ofChange Rows.keysWriteSpec).at F).post enc Tryd.prog Tryd.f3 false true false false) := by
  obtain ⟨places, hx⟩ := keysWrite_reads os enc
  refine returnsInHanded_of_row (C := Tryd.checked) (s := (OpenSpec.ofChange Rows.keysWriteSpec)) own started (by as_aux_lemma => kernel_rfl) Tryd.func3
    (witness_row_at (enc := enc) (C := Tryd.checked) false (recsWorld os) #[.agg #[.int .i64 0, .int .i32 0, .int .i64 0, .int .i64 0], .bool false] rfl (by as_aux_lemma => kernel_rfl) (by as_aux_lemma => kernel_rfl) (by as_aux_lemma => kernel_rfl)
      (OpenSpec.preRow_of_cond 8 hx (by as_aux_lemma => kernel_rfl) (fun k hk => by cases hk) (by as_aux_lemma => kernel_rfl) (recs_met os _))) ?_
  intro W base args ds gs before hval hW _ _ hsz hL hO _
  exact keysWrite_contract H enc W base args ds gs before hval hW hsz hL hO

theorem keysWrite_said : Rows.KeysWriteSaid :=
  OpenClaim.holds_of_cond 3 Tryd.f3 rfl rfl rfl rfl rfl rfl rfl ⟨rfl, rfl, rfl, rfl, rfl⟩ rfl rfl rfl rfl rfl (by as_aux_lemma => kernel_rfl) Tryd.func3 keysWrite_closed
    (of_decide_eq_true (by as_aux_lemma => kernel_rfl)) (by unfold Func.isWrapper; rw [if_neg (of_decide_eq_false (by kernel_rfl))]; exact ⟨rfl, rfl⟩)
    (fun os started H enc _ F => by rw [OpenClaim.pre_eq_preRow]; exact keysWrite_lifted os started H enc F)

theorem keysWrite_plain (f : FuncId) (fn : Func) (hf : Tryd.pinned.checked.prog.funcNamed Rows.keysWriteRow.func = some f) (hfn : Tryd.pinned.checked.prog.funcs[f]? = some fn) :
    true = Tryd.pinned.checked.prog.looks [] ∧ ∀ (j : Nat) t, fn.params[j]? = some t → Tryd.pinned.checked.prog.wantsStandIn t = false := by
  obtain rfl : f = 3 := Option.some.inj ((show Tryd.prog.funcNamed Rows.keysWriteRow.func = some 3 by kernel_rfl).symm.trans hf) |>.symm
  obtain rfl : fn = Tryd.f3 := (Option.some.inj (Tryd.func3.symm.trans hfn)).symm
  refine ⟨looks.symm, fun j t ht => ?_⟩
  have hall : (Tryd.f3.params.toList.all fun t => !Tryd.prog.wantsStandIn t) = true := by kernel_rfl
  have := List.all_eq_true.1 hall t (Array.mem_toList_iff.2 (Array.mem_of_getElem? ht))
  show Tryd.prog.wantsStandIn t = false
  simpa using this

theorem keysWrite_card : Rows.KeysWriteCardSaid :=
  Claim7.holds_tied_plain_at .later [] _ _ _ _ keysWrite_said (fun _ h => by cases h) (by as_aux_lemma => kernel_rfl) (fun _ h => by cases h) keysWrite_row_tie rfl ⟨rfl, rfl⟩ main_is rfl keysWrite_plain (by as_aux_lemma => kernel_rfl)
end Go.Proofs.YthadfpcajijhgaaDoor
