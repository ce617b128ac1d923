/- Proved here: trellislaw.KeysName returns true at all keys and texts, and each argument reads afterwards as before. The card's condition: the tables of math/bits, strconv, strings, unicode and unicode/utf8 and the two errors of package strconv hold what the program's text lays. -/
import Derived.Test.YthadfpcajijhgaaDoorMC12
import Derived.Test.YthadfpcajijhgaaDoorMKY12
import Derived.Test.YthadfpcajijhgaaDoorMC11
set_option linter.unusedSimpArgs false
set_option maxRecDepth 100000
set_option linter.unusedVariables false
namespace Go.Proofs.YthadfpcajijhgaaDoor
open Go Go.Eng Go.ChangeShapes Go.WideShapes Go.ChangeAt Go.RowKit
open Go.ChangeMaps (open_string)

theorem keysName_c0 : (fun (P : Program) (f : FuncId) (fn : Func) (s : ChangeSpec) (c : OpenClaim) => (c.wf (OpenSpec.ofChange s) : Bool)) Tryd.prog 5 Tryd.f5 (OpenSpec.ofChange Rows.keysNameSpec).bare Rows.keysNameRow = true := by kernel_rfl
theorem keysName_c3 : (fun (P : Program) (f : FuncId) (fn : Func) (s : ChangeSpec) (c : OpenClaim) => (fn.params.all (P.readableRec ·) : Bool)) Tryd.prog 5 Tryd.f5 (OpenSpec.ofChange Rows.keysNameSpec).bare Rows.keysNameRow = true := by kernel_rfl
theorem keysName_c4 : (fun (P : Program) (f : FuncId) (fn : Func) (s : ChangeSpec) (c : OpenClaim) => (namedTie P c.named s.vars : Bool)) Tryd.prog 5 Tryd.f5 (OpenSpec.ofChange Rows.keysNameSpec).bare Rows.keysNameRow = true := by kernel_rfl
theorem keysName_c5 : (fun (P : Program) (f : FuncId) (fn : Func) (s : ChangeSpec) (c : OpenClaim) => ((c.stops == []) : Bool)) Tryd.prog 5 Tryd.f5 (OpenSpec.ofChange Rows.keysNameSpec).bare Rows.keysNameRow = true := by kernel_rfl
theorem keysName_c7 : (fun (P : Program) (f : FuncId) (fn : Func) (s : ChangeSpec) (c : OpenClaim) => ((c.knobs == []) : Bool)) Tryd.prog 5 Tryd.f5 (OpenSpec.ofChange Rows.keysNameSpec).bare Rows.keysNameRow = true := by kernel_rfl
theorem keysName_c9 : (fun (P : Program) (f : FuncId) (fn : Func) (s : ChangeSpec) (c : OpenClaim) => ((c.inPlace == P.inPlace f) : Bool)) Tryd.prog 5 Tryd.f5 (OpenSpec.ofChange Rows.keysNameSpec).bare Rows.keysNameRow = true := by kernel_rfl
theorem keysName_c10 : (fun (P : Program) (f : FuncId) (fn : Func) (s : ChangeSpec) (c : OpenClaim) => ((c.unfollowed == P.unfollowed f) : Bool)) Tryd.prog 5 Tryd.f5 (OpenSpec.ofChange Rows.keysNameSpec).bare Rows.keysNameRow = true := by kernel_rfl
theorem keysName_c11 : (fun (P : Program) (f : FuncId) (fn : Func) (s : ChangeSpec) (c : OpenClaim) => ((c.recurses == P.recurses f) : Bool)) Tryd.prog 5 Tryd.f5 (OpenSpec.ofChange Rows.keysNameSpec).bare Rows.keysNameRow = true := by kernel_rfl
theorem keysName_c12 : (fun (P : Program) (f : FuncId) (fn : Func) (s : ChangeSpec) (c : OpenClaim) => ((c.named == P.varsNamed f) : Bool)) Tryd.prog 5 Tryd.f5 (OpenSpec.ofChange Rows.keysNameSpec).bare Rows.keysNameRow = true := by kernel_rfl
theorem keysName_c13 : (fun (P : Program) (f : FuncId) (fn : Func) (s : ChangeSpec) (c : OpenClaim) => ((c.maps == (fn.params.toList ++ s.plain.varTypes P).any (P.mapsRec ·)) : Bool)) Tryd.prog 5 Tryd.f5 (OpenSpec.ofChange Rows.keysNameSpec).bare Rows.keysNameRow = true := by kernel_rfl
theorem keysName_c14 : (fun (P : Program) (f : FuncId) (fn : Func) (s : ChangeSpec) (c : OpenClaim) => ((c.ifaces == (fn.params.toList ++ s.plain.varTypes P).any (P.ifacesRec ·)) : Bool)) Tryd.prog 5 Tryd.f5 (OpenSpec.ofChange Rows.keysNameSpec).bare Rows.keysNameRow = true := by kernel_rfl
theorem keysName_c15 : (fun (P : Program) (f : FuncId) (fn : Func) (s : ChangeSpec) (c : OpenClaim) => ((c.mapsOut == P.mapsAmong fn.resultTypes.toList) : Bool)) Tryd.prog 5 Tryd.f5 (OpenSpec.ofChange Rows.keysNameSpec).bare Rows.keysNameRow = true := by kernel_rfl
theorem keysName_c16 : (fun (P : Program) (f : FuncId) (fn : Func) (s : ChangeSpec) (c : OpenClaim) => ((c.loops == (fn.params.toList ++ s.plain.varTypes P).any (P.loopsFrom ·)) : Bool)) Tryd.prog 5 Tryd.f5 (OpenSpec.ofChange Rows.keysNameSpec).bare Rows.keysNameRow = true := by kernel_rfl
theorem keysName_c17 : (fun (P : Program) (f : FuncId) (fn : Func) (s : ChangeSpec) (c : OpenClaim) => ((c.wideKeys == (fn.params.toList ++ s.plain.varTypes P ++ fn.resultTypes.toList).any (P.wideKeysFrom ·)) : Bool)) Tryd.prog 5 Tryd.f5 (OpenSpec.ofChange Rows.keysNameSpec).bare Rows.keysNameRow = true := by kernel_rfl
theorem keysName_c18 : (fun (P : Program) (f : FuncId) (fn : Func) (s : ChangeSpec) (c : OpenClaim) => (s.vars.all (P.varReadable ·) : Bool)) Tryd.prog 5 Tryd.f5 (OpenSpec.ofChange Rows.keysNameSpec).bare Rows.keysNameRow = true := by kernel_rfl
theorem keysName_c19 : (fun (P : Program) (f : FuncId) (fn : Func) (s : ChangeSpec) (c : OpenClaim) => (fn.resultTypes.all (fun t => P.readableRec t && decide (t < P.types.size)) : Bool)) Tryd.prog 5 Tryd.f5 (OpenSpec.ofChange Rows.keysNameSpec).bare Rows.keysNameRow = true := by kernel_rfl
theorem keysName_c20 : (fun (P : Program) (f : FuncId) (fn : Func) (s : ChangeSpec) (c : OpenClaim) => ((c.ifacesOut == fn.resultTypes.toList.any (P.ifacesRec ·)) : Bool)) Tryd.prog 5 Tryd.f5 (OpenSpec.ofChange Rows.keysNameSpec).bare Rows.keysNameRow = true := by kernel_rfl
theorem keysName_c21 : (fun (P : Program) (f : FuncId) (fn : Func) (s : ChangeSpec) (c : OpenClaim) => ((c.loopsOut == fn.resultTypes.toList.any (P.loopsFrom ·)) : Bool)) Tryd.prog 5 Tryd.f5 (OpenSpec.ofChange Rows.keysNameSpec).bare Rows.keysNameRow = true := by kernel_rfl
theorem keysName_c23 : (fun (P : Program) (f : FuncId) (fn : Func) (s : ChangeSpec) (c : OpenClaim) => (c.shortTexts.isNone : Bool)) Tryd.prog 5 Tryd.f5 (OpenSpec.ofChange Rows.keysNameSpec).bare Rows.keysNameRow = true := by kernel_rfl
theorem keysName_c28 : (fun (P : Program) (f : FuncId) (fn : Func) (s : ChangeSpec) (c : OpenClaim) => ((c.kinds == (if c.domain.isEmpty then [] else fn.params.toList.map fun t => match P.underlying t with | some (.int k) => some k | _ => none)) : Bool)) Tryd.prog 5 Tryd.f5 (OpenSpec.ofChange Rows.keysNameSpec).bare Rows.keysNameRow = true := by kernel_rfl
theorem keysName_c29 : (fun (P : Program) (f : FuncId) (fn : Func) (s : ChangeSpec) (c : OpenClaim) => ((c.pinned == c.pinnedBy) : Bool)) Tryd.prog 5 Tryd.f5 (OpenSpec.ofChange Rows.keysNameSpec).bare Rows.keysNameRow = true := by kernel_rfl
theorem keysName_c30 : (fun (P : Program) (f : FuncId) (fn : Func) (s : ChangeSpec) (c : OpenClaim) => ((c.veiled == (fn.params.toList ++ s.plain.varTypes P ++ fn.resultTypes.toList).any (P.veiledRec ·)) : Bool)) Tryd.prog 5 Tryd.f5 (OpenSpec.ofChange Rows.keysNameSpec).bare Rows.keysNameRow = true := by kernel_rfl
theorem keysName_c31 : (fun (P : Program) (f : FuncId) (fn : Func) (s : ChangeSpec) (c : OpenClaim) => (c.veiledFits P fn.params.toList (fn.params.toList ++ s.plain.varTypes P ++ fn.resultTypes.toList) : Bool)) Tryd.prog 5 Tryd.f5 (OpenSpec.ofChange Rows.keysNameSpec).bare Rows.keysNameRow = true := by kernel_rfl
theorem keysName_closed : joinedFacts Tryd.prog 5 Tryd.f5 (OpenSpec.ofChange Rows.keysNameSpec).bare Rows.keysNameRow = true := (and_t (and_t (and_t (and_t (and_t (and_t (and_t (and_t (and_t (and_t (and_t (and_t (and_t (and_t (and_t (and_t (and_t (and_t (and_t (and_t (and_t (and_t (and_t (and_t (and_t (and_t (and_t (and_t (and_t (and_t (and_t keysName_c0 laidOut) mapsRowed) keysName_c3) keysName_c4) keysName_c5) stops_nil) keysName_c7) stopKnobs_nil) keysName_c9) keysName_c10) keysName_c11) keysName_c12) keysName_c13) keysName_c14) keysName_c15) keysName_c16) keysName_c17) keysName_c18) keysName_c19) keysName_c20) keysName_c21) (by rw [plainKeys]; rfl)) keysName_c23) stopsHeard) mayEnter) (by rw [liftsFinal]; rfl)) (by rw [make_cut]; rfl)) keysName_c28) keysName_c29) keysName_c30) keysName_c31)

theorem keysName_contract (H : Type) (enc : TypeId × Value → H) (W : World) (base : Nat) (args : Array Value) (ds gs : List (DataW H)) (before : List MemPlace)
    (hval : ∀ (j : Nat) t v, Tryd.f5.params[j]? = some t → args[j]? = some v → Value.okWide Tryd.prog W .any base t v)
    (hW : DataW.Whole enc Tryd.prog Tryd.f5.params.toList Rows.keysNameSpec.vars false W args.toList ds gs before) (hsz : (DataW.weightsEach Tryd.prog (Tryd.f5.params.toList ++ (OpenSpec.ofChange Rows.keysNameSpec).bare.plain.varTypes Tryd.prog) (ds ++ gs)).all (· ≤ reachBytes) = true) (hL : laidMetH Tryd.prog Rows.keysNameRow.laid W) (hO : W.ShapedOpen Tryd.prog) :
    Calls Tryd.prog 5 args W fun e W' => ∃ v, e = .returned v ∧ Rows.keysNameSpec.post enc Tryd.prog Tryd.f5 false true false false W args v W' := by
  have hT : Eng.YthadfpcajijhgaaDoor.Namz W := namz_of hL
  have hW' := hW
  obtain ⟨p, q, hA, hV, rfl, hfz, hnd⟩ := hW
  rw [Tryd.params5] at hA hval hsz
  obtain ⟨v0, v1, d0, d1, p0, p1, rfl, rfl, rfl, h0, h1⟩ := trodAll_two hA
  obtain ⟨rfl, rfl⟩ := trodVars_none hV
  obtain ⟨n0, t0⟩ := h0
  obtain ⟨a0, b0, l0, f0, k0⟩ := opens_key.opens enc W n0 _ _ t0
  have r0 := vrel_struct (show Tryd.prog.underlying 23 = _ from Tryd.underlying23) (hval 0 23 v0 rfl rfl) l0
  replace f0 := f0 (reach_of hsz 0 23 _ rfl rfl)
  obtain ⟨a1, rfl, rfl, rfl, w1⟩ := open_string Tryd.underlying9 (hval 1 9 v1 rfl rfl) h1
  have b1 : a1.data.toList.length ≤ 140737488355328 := reach_str (reach_of hsz 1 9 _ rfl rfl)
  refine ((Eng.YthadfpcajijhgaaDoor.keysName_ok W hT (max_of_rec hO) a0 b0 a1.data.toList b1).law [v0, .string a1] rfl (fun i hi => ?_)).mono fun e W' ⟨he, hb⟩ => ⟨_, he, ?_⟩
  · match i, hi with
    | 0, _ => exact r0
    | 1, _ => exact .str _
  · exact law_post laidOut (by kernel_rfl) (by kernel_rfl) Tryd.underlying4 (by kernel_rfl) hW' rfl hb

theorem keysName_reads (os : Os) {H : Type} (enc : TypeId × Value → H) : ∃ places, DataW.whole enc Tryd.prog ((namesWorld os).forCall (fun _ _ => 0) ⟨#[], #[.agg #[.int .i64 0, .int .i32 0, .int .i64 0, .int .i64 0], .string ⟨#[]⟩], []⟩).memory Tryd.f5.params.toList Rows.keysNameSpec.vars false (#[.agg #[.int .i64 0, .int .i32 0, .int .i64 0, .int .i64 0], .string ⟨#[]⟩] : Array Value).toList 8 = some ([.agg [.lit (.int .i64 0), .lit (.int .i32 0), .lit (.int .i64 0), .lit (.int .i64 0)], .lit (.string [])], [], places) :=
  ⟨[], by kernel_rfl⟩

theorem keysName_lifted (os : Os) (started : os.Started) (H : Type) (enc : TypeId × Value → H) (F : Stop.Interp) :
    ReturnsInHanded {} Tryd.checked os 5 .any ((OpenSpec.ofChange Rows.keysNameSpec).preRow enc Tryd.prog Tryd.f5 Rows.keysNameRow.domain false Rows.keysNameRow.laid) (((OpenSpec.ofChange Rows.keysNameSpec).at F).post enc Tryd.prog Tryd.f5 false true false false) := by
  obtain ⟨places, hx⟩ := keysName_reads os enc
  refine returnsInHanded_of_row (C := Tryd.checked) (s := (OpenSpec.ofChange Rows.keysNameSpec)) own started (by as_aux_lemma => kernel_rfl) Tryd.func5
    (witness_row_atRef (enc := enc) (C := Tryd.checked) false (namesWorld os) #[.agg #[.int .i64 0, .int .i32 0, .int .i64 0, .int .i64 0], .string ⟨#[]⟩] rfl (by as_aux_lemma => kernel_rfl) (by as_aux_lemma => kernel_rfl) (by as_aux_lemma => kernel_rfl)
      (OpenSpec.preRow_of_cond 8 hx (by as_aux_lemma => kernel_rfl) (fun k hk => by cases hk) (by as_aux_lemma => kernel_rfl) (names_met os _))) ?_
  intro W base args ds gs before hval hW _ _ hsz hL hO _
  exact keysName_contract H enc W base args ds gs before hval hW hsz hL hO

theorem keysName_said : Rows.KeysNameSaid :=
  OpenClaim.holds_of_cond 5 Tryd.f5 rfl rfl rfl rfl rfl rfl rfl ⟨rfl, rfl, rfl, rfl, rfl⟩ rfl rfl rfl rfl rfl (by as_aux_lemma => kernel_rfl) Tryd.func5 keysName_closed
    (of_decide_eq_true (by as_aux_lemma => kernel_rfl)) (by unfold Func.isWrapper; rw [if_neg (of_decide_eq_false (by kernel_rfl))]; exact ⟨rfl, rfl⟩)
    (fun os started H enc _ F => by rw [OpenClaim.pre_eq_preRow]; exact keysName_lifted os started H enc F)

theorem keysName_plain (f : FuncId) (fn : Func) (hf : Tryd.pinned.checked.prog.funcNamed Rows.keysNameRow.func = some f) (hfn : Tryd.pinned.checked.prog.funcs[f]? = some fn) :
    true = Tryd.pinned.checked.prog.looks [] ∧ ∀ (j : Nat) t, fn.params[j]? = some t → Tryd.pinned.checked.prog.wantsStandIn t = false := by
  obtain rfl : f = 5 := Option.some.inj ((show Tryd.prog.funcNamed Rows.keysNameRow.func = some 5 by kernel_rfl).symm.trans hf) |>.symm
  obtain rfl : fn = Tryd.f5 := (Option.some.inj (Tryd.func5.symm.trans hfn)).symm
  refine ⟨looks.symm, fun j t ht => ?_⟩
  have hall : (Tryd.f5.params.toList.all fun t => !Tryd.prog.wantsStandIn t) = true := by kernel_rfl
  have := List.all_eq_true.1 hall t (Array.mem_toList_iff.2 (Array.mem_of_getElem? ht))
  show Tryd.prog.wantsStandIn t = false
  simpa using this

theorem keysName_card : Rows.KeysNameCardSaid :=
  Claim7.holds_tied_plain_at .later [] _ _ _ _ keysName_said (fun _ h => by cases h) (by as_aux_lemma => kernel_rfl) (fun _ h => by cases h) keysName_row_tie rfl ⟨rfl, rfl⟩ main_is rfl keysName_plain (by as_aux_lemma => kernel_rfl)
end Go.Proofs.YthadfpcajijhgaaDoor
