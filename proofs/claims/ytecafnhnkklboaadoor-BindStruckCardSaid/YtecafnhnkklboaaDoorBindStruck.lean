/- Proved here: trellislaw.BindStruck returns true at every table and keys, keypad and not, armed and not, and each argument reads afterwards as before. The card's condition: the tables of math/bits, strconv and unicode/utf8 and the two errors of package strconv hold what the program's text lays. -/
import Derived.Test.YtecafnhnkklboaaDoorMC10
import Derived.Test.YtecafnhnkklboaaDoorMBN7
import Derived.Test.YtecafnhnkklboaaDoorMC13
set_option linter.unusedSimpArgs false
set_option maxRecDepth 100000
set_option linter.unusedVariables false
namespace Go.Proofs.YtecafnhnkklboaaDoor
open Go Go.Eng Go.ChangeShapes Go.WideShapes Go.ChangeAt Go.RowKit
open Go.ChangeMaps (open_string)

theorem bindStruck_c0 : (fun (P : Program) (f : FuncId) (fn : Func) (s : ChangeSpec) (c : OpenClaim) => (c.wf (OpenSpec.ofChange s) : Bool)) Tryd.prog 5 Tryd.f5 (OpenSpec.ofChange Rows.bindStruckSpec).bare Rows.bindStruckRow = true := by kernel_rfl
theorem bindStruck_c3 : (fun (P : Program) (f : FuncId) (fn : Func) (s : ChangeSpec) (c : OpenClaim) => (fn.params.all (P.readableRec ·) : Bool)) Tryd.prog 5 Tryd.f5 (OpenSpec.ofChange Rows.bindStruckSpec).bare Rows.bindStruckRow = true := by kernel_rfl
theorem bindStruck_c4 : (fun (P : Program) (f : FuncId) (fn : Func) (s : ChangeSpec) (c : OpenClaim) => (namedTie P c.named s.vars : Bool)) Tryd.prog 5 Tryd.f5 (OpenSpec.ofChange Rows.bindStruckSpec).bare Rows.bindStruckRow = true := by kernel_rfl
theorem bindStruck_c5 : (fun (P : Program) (f : FuncId) (fn : Func) (s : ChangeSpec) (c : OpenClaim) => ((c.stops == []) : Bool)) Tryd.prog 5 Tryd.f5 (OpenSpec.ofChange Rows.bindStruckSpec).bare Rows.bindStruckRow = true := by kernel_rfl
theorem bindStruck_c7 : (fun (P : Program) (f : FuncId) (fn : Func) (s : ChangeSpec) (c : OpenClaim) => ((c.knobs == []) : Bool)) Tryd.prog 5 Tryd.f5 (OpenSpec.ofChange Rows.bindStruckSpec).bare Rows.bindStruckRow = true := by kernel_rfl
theorem bindStruck_c9 : (fun (P : Program) (f : FuncId) (fn : Func) (s : ChangeSpec) (c : OpenClaim) => ((c.inPlace == P.inPlace f) : Bool)) Tryd.prog 5 Tryd.f5 (OpenSpec.ofChange Rows.bindStruckSpec).bare Rows.bindStruckRow = true := by kernel_rfl
theorem bindStruck_c10 : (fun (P : Program) (f : FuncId) (fn : Func) (s : ChangeSpec) (c : OpenClaim) => ((c.unfollowed == P.unfollowed f) : Bool)) Tryd.prog 5 Tryd.f5 (OpenSpec.ofChange Rows.bindStruckSpec).bare Rows.bindStruckRow = true := by kernel_rfl
theorem bindStruck_c11 : (fun (P : Program) (f : FuncId) (fn : Func) (s : ChangeSpec) (c : OpenClaim) => ((c.recurses == P.recurses f) : Bool)) Tryd.prog 5 Tryd.f5 (OpenSpec.ofChange Rows.bindStruckSpec).bare Rows.bindStruckRow = true := by kernel_rfl
theorem bindStruck_c12 : (fun (P : Program) (f : FuncId) (fn : Func) (s : ChangeSpec) (c : OpenClaim) => ((c.named == P.varsNamed f) : Bool)) Tryd.prog 5 Tryd.f5 (OpenSpec.ofChange Rows.bindStruckSpec).bare Rows.bindStruckRow = true := by kernel_rfl
theorem bindStruck_c13 : (fun (P : Program) (f : FuncId) (fn : Func) (s : ChangeSpec) (c : OpenClaim) => ((c.maps == (fn.params.toList ++ s.plain.varTypes P).any (P.mapsRec ·)) : Bool)) Tryd.prog 5 Tryd.f5 (OpenSpec.ofChange Rows.bindStruckSpec).bare Rows.bindStruckRow = true := by kernel_rfl
theorem bindStruck_c14 : (fun (P : Program) (f : FuncId) (fn : Func) (s : ChangeSpec) (c : OpenClaim) => ((c.ifaces == (fn.params.toList ++ s.plain.varTypes P).any (P.ifacesRec ·)) : Bool)) Tryd.prog 5 Tryd.f5 (OpenSpec.ofChange Rows.bindStruckSpec).bare Rows.bindStruckRow = true := by kernel_rfl
theorem bindStruck_c15 : (fun (P : Program) (f : FuncId) (fn : Func) (s : ChangeSpec) (c : OpenClaim) => ((c.mapsOut == P.mapsAmong fn.resultTypes.toList) : Bool)) Tryd.prog 5 Tryd.f5 (OpenSpec.ofChange Rows.bindStruckSpec).bare Rows.bindStruckRow = true := by kernel_rfl
theorem bindStruck_c16 : (fun (P : Program) (f : FuncId) (fn : Func) (s : ChangeSpec) (c : OpenClaim) => ((c.loops == (fn.params.toList ++ s.plain.varTypes P).any (P.loopsFrom ·)) : Bool)) Tryd.prog 5 Tryd.f5 (OpenSpec.ofChange Rows.bindStruckSpec).bare Rows.bindStruckRow = true := by kernel_rfl
theorem bindStruck_c17 : (fun (P : Program) (f : FuncId) (fn : Func) (s : ChangeSpec) (c : OpenClaim) => ((c.wideKeys == (fn.params.toList ++ s.plain.varTypes P ++ fn.resultTypes.toList).any (P.wideKeysFrom ·)) : Bool)) Tryd.prog 5 Tryd.f5 (OpenSpec.ofChange Rows.bindStruckSpec).bare Rows.bindStruckRow = true := by kernel_rfl
theorem bindStruck_c18 : (fun (P : Program) (f : FuncId) (fn : Func) (s : ChangeSpec) (c : OpenClaim) => (s.vars.all (P.varReadable ·) : Bool)) Tryd.prog 5 Tryd.f5 (OpenSpec.ofChange Rows.bindStruckSpec).bare Rows.bindStruckRow = true := by kernel_rfl
theorem bindStruck_c19 : (fun (P : Program) (f : FuncId) (fn : Func) (s : ChangeSpec) (c : OpenClaim) => (fn.resultTypes.all (fun t => P.readableRec t && decide (t < P.types.size)) : Bool)) Tryd.prog 5 Tryd.f5 (OpenSpec.ofChange Rows.bindStruckSpec).bare Rows.bindStruckRow = true := by kernel_rfl
theorem bindStruck_c20 : (fun (P : Program) (f : FuncId) (fn : Func) (s : ChangeSpec) (c : OpenClaim) => ((c.ifacesOut == fn.resultTypes.toList.any (P.ifacesRec ·)) : Bool)) Tryd.prog 5 Tryd.f5 (OpenSpec.ofChange Rows.bindStruckSpec).bare Rows.bindStruckRow = true := by kernel_rfl
theorem bindStruck_c21 : (fun (P : Program) (f : FuncId) (fn : Func) (s : ChangeSpec) (c : OpenClaim) => ((c.loopsOut == fn.resultTypes.toList.any (P.loopsFrom ·)) : Bool)) Tryd.prog 5 Tryd.f5 (OpenSpec.ofChange Rows.bindStruckSpec).bare Rows.bindStruckRow = true := by kernel_rfl
theorem bindStruck_c23 : (fun (P : Program) (f : FuncId) (fn : Func) (s : ChangeSpec) (c : OpenClaim) => (c.shortTexts.isNone : Bool)) Tryd.prog 5 Tryd.f5 (OpenSpec.ofChange Rows.bindStruckSpec).bare Rows.bindStruckRow = true := by kernel_rfl
theorem bindStruck_c28 : (fun (P : Program) (f : FuncId) (fn : Func) (s : ChangeSpec) (c : OpenClaim) => ((c.kinds == (if c.domain.isEmpty then [] else fn.params.toList.map fun t => match P.underlying t with | some (.int k) => some k | _ => none)) : Bool)) Tryd.prog 5 Tryd.f5 (OpenSpec.ofChange Rows.bindStruckSpec).bare Rows.bindStruckRow = true := by kernel_rfl
theorem bindStruck_c29 : (fun (P : Program) (f : FuncId) (fn : Func) (s : ChangeSpec) (c : OpenClaim) => ((c.pinned == c.pinnedBy) : Bool)) Tryd.prog 5 Tryd.f5 (OpenSpec.ofChange Rows.bindStruckSpec).bare Rows.bindStruckRow = true := by kernel_rfl
theorem bindStruck_c30 : (fun (P : Program) (f : FuncId) (fn : Func) (s : ChangeSpec) (c : OpenClaim) => ((c.veiled == (fn.params.toList ++ s.plain.varTypes P ++ fn.resultTypes.toList).any (P.veiledRec ·)) : Bool)) Tryd.prog 5 Tryd.f5 (OpenSpec.ofChange Rows.bindStruckSpec).bare Rows.bindStruckRow = true := by kernel_rfl
theorem bindStruck_c31 : (fun (P : Program) (f : FuncId) (fn : Func) (s : ChangeSpec) (c : OpenClaim) => (c.veiledFits P fn.params.toList (fn.params.toList ++ s.plain.varTypes P ++ fn.resultTypes.toList) : Bool)) Tryd.prog 5 Tryd.f5 (OpenSpec.ofChange Rows.bindStruckSpec).bare Rows.bindStruckRow = true := by kernel_rfl
theorem bindStruck_closed : joinedFacts Tryd.prog 5 Tryd.f5 (OpenSpec.ofChange Rows.bindStruckSpec).bare Rows.bindStruckRow = true := (and_t (and_t (and_t (and_t (and_t (and_t (and_t (and_t (and_t (and_t (and_t (and_t (and_t (and_t (and_t (and_t (and_t (and_t (and_t (and_t (and_t (and_t (and_t (and_t (and_t (and_t (and_t (and_t (and_t (and_t (and_t bindStruck_c0 laidOut) mapsRowed) bindStruck_c3) bindStruck_c4) bindStruck_c5) stops_nil) bindStruck_c7) stopKnobs_nil) bindStruck_c9) bindStruck_c10) bindStruck_c11) bindStruck_c12) bindStruck_c13) bindStruck_c14) bindStruck_c15) bindStruck_c16) bindStruck_c17) bindStruck_c18) bindStruck_c19) bindStruck_c20) bindStruck_c21) (by rw [plainKeys]; rfl)) bindStruck_c23) stopsHeard) mayEnter) (by rw [liftsFinal]; rfl)) (by rw [make_cut]; rfl)) bindStruck_c28) bindStruck_c29) bindStruck_c30) bindStruck_c31)

theorem bindStruck_contract (H : Type) (enc : TypeId × Value → H) (W : World) (base : Nat) (args : Array Value) (ds gs : List (DataW H)) (before : List MemPlace)
    (hval : ∀ (j : Nat) t v, Tryd.f5.params[j]? = some t → args[j]? = some v → Value.okWide Tryd.prog W .any base t v)
    (hW : DataW.Whole enc Tryd.prog Tryd.f5.params.toList Rows.bindStruckSpec.vars false W args.toList ds gs before) (hsz : (DataW.weightsEach Tryd.prog (Tryd.f5.params.toList ++ (OpenSpec.ofChange Rows.bindStruckSpec).bare.plain.varTypes Tryd.prog) (ds ++ gs)).all (· ≤ reachBytes) = true) (hL : laidMetH Tryd.prog Rows.bindStruckRow.laid W) (hO : W.ShapedOpen Tryd.prog) :
    Calls Tryd.prog 5 args W fun e W' => ∃ v, e = .returned v ∧ Rows.bindStruckSpec.post enc Tryd.prog Tryd.f5 false true false false W args v W' := by
  have hT : Eng.YtecafnhnkklboaaDoor.Keyz W := keyz_of hL
  have hW' := hW
  obtain ⟨p, q, hA, hV, rfl, hfz, hnd⟩ := hW
  rw [Tryd.params5] at hA hval hsz
  obtain ⟨v0, v1, v2, v3, d0, d1, d2, d3, p0, p1, p2, p3, rfl, rfl, rfl, h0, h1, h2, h3⟩ := trodAll_four hA
  obtain ⟨rfl, rfl⟩ := trodVars_none hV
  obtain ⟨n0, t0⟩ := h0
  obtain ⟨a0, b0, l0, f0, k0⟩ := opens_table.opens enc W n0 _ _ t0
  have r0 := vrel_struct (show Tryd.prog.underlying 26 = _ from Tryd.underlying26) (hval 0 26 v0 rfl rfl) l0
  replace f0 := f0 (reach_of hsz 0 26 _ rfl rfl)
  obtain ⟨n1, t1⟩ := h1
  obtain ⟨a1, b1, l1, f1, k1⟩ := opens_keys.opens enc W n1 _ _ t1
  have r1 := vrel_slice (show Tryd.prog.underlying 27 = _ from Tryd.underlying27) (hval 1 27 v1 rfl rfl) l1
  replace f1 := f1 (reach_of hsz 1 27 _ rfl rfl)
  obtain ⟨a2, rfl, rfl, rfl⟩ := open_bool Tryd.underlying4 (hval 2 4 v2 rfl rfl) h2
  obtain ⟨a3, rfl, rfl, rfl⟩ := open_bool Tryd.underlying4 (hval 3 4 v3 rfl rfl) h3
  refine ((Eng.YtecafnhnkklboaaDoor.bindStruck_ok W hT (max_of_rec hO) a0 (tab_ok b0 f0) a1 (keys_fit b1 f1) a2 a3).law [v0, v1, .bool a2, .bool a3] rfl (fun i hi => ?_)).mono fun e W' ⟨he, hb⟩ => ⟨_, he, ?_⟩
  · match i, hi with
    | 0, _ => exact r0
    | 1, _ => exact r1
    | 2, _ => exact .bool _
    | 3, _ => exact .bool _
  · exact law_post laidOut (by kernel_rfl) (by kernel_rfl) Tryd.underlying4 (by kernel_rfl) hW' rfl hb

theorem bindStruck_reads (os : Os) {H : Type} (enc : TypeId × Value → H) : ∃ places, DataW.whole enc Tryd.prog ((recsWorld os).forCall (fun _ _ => 0) ⟨#[], #[.agg #[.int .i64 0, .int .i32 0, .int .i64 0, .int .i64 0, .slice none 0 0], .slice none 0 0, .bool false, .bool false], []⟩).memory Tryd.f5.params.toList Rows.bindStruckSpec.vars false (#[.agg #[.int .i64 0, .int .i32 0, .int .i64 0, .int .i64 0, .slice none 0 0], .slice none 0 0, .bool false, .bool false] : Array Value).toList 8 = some ([.agg [.agg [.lit (.int .i64 0), .lit (.int .i32 0), .lit (.int .i64 0), .lit (.int .i64 0)], .nil], .nil, .lit (.bool false), .lit (.bool false)], [], places) :=
  ⟨[], by kernel_rfl⟩

theorem bindStruck_lifted (os : Os) (started : os.Started) (H : Type) (enc : TypeId × Value → H) (F : Stop.Interp) :
    ReturnsInHanded {} Tryd.checked os 5 .any ((OpenSpec.ofChange Rows.bindStruckSpec).preRow enc Tryd.prog Tryd.f5 Rows.bindStruckRow.domain false Rows.bindStruckRow.laid) (((OpenSpec.ofChange Rows.bindStruckSpec).at F).post enc Tryd.prog Tryd.f5 false true false false) := by
  obtain ⟨places, hx⟩ := bindStruck_reads os enc
  refine returnsInHanded_of_row (C := Tryd.checked) (s := (OpenSpec.ofChange Rows.bindStruckSpec)) own started (by as_aux_lemma => kernel_rfl) Tryd.func5
    (witness_row_at (enc := enc) (C := Tryd.checked) false (recsWorld os) #[.agg #[.int .i64 0, .int .i32 0, .int .i64 0, .int .i64 0, .slice none 0 0], .slice none 0 0, .bool false, .bool false] rfl (by as_aux_lemma => kernel_rfl) (by as_aux_lemma => kernel_rfl) (by as_aux_lemma => kernel_rfl)
      (OpenSpec.preRow_of_cond 8 hx (by as_aux_lemma => kernel_rfl) (fun k hk => by cases hk) (by as_aux_lemma => kernel_rfl) (recs_met os _))) ?_
  intro W base args ds gs before hval hW _ _ hsz hL hO _
  exact bindStruck_contract H enc W base args ds gs before hval hW hsz hL hO

theorem bindStruck_said : Rows.BindStruckSaid :=
  OpenClaim.holds_of_cond 5 Tryd.f5 rfl rfl rfl rfl rfl rfl rfl ⟨rfl, rfl, rfl, rfl, rfl⟩ rfl rfl rfl rfl rfl (by as_aux_lemma => kernel_rfl) Tryd.func5 bindStruck_closed
    (of_decide_eq_true (by as_aux_lemma => kernel_rfl)) (by unfold Func.isWrapper; rw [if_neg (of_decide_eq_false (by kernel_rfl))]; exact ⟨rfl, rfl⟩)
    (fun os started H enc _ F => by rw [OpenClaim.pre_eq_preRow]; exact bindStruck_lifted os started H enc F)

theorem bindStruck_plain (f : FuncId) (fn : Func) (hf : Tryd.pinned.checked.prog.funcNamed Rows.bindStruckRow.func = some f) (hfn : Tryd.pinned.checked.prog.funcs[f]? = some fn) :
    true = Tryd.pinned.checked.prog.looks [] ∧ ∀ (j : Nat) t, fn.params[j]? = some t → Tryd.pinned.checked.prog.wantsStandIn t = false := by
  obtain rfl : f = 5 := Option.some.inj ((show Tryd.prog.funcNamed Rows.bindStruckRow.func = some 5 by kernel_rfl).symm.trans hf) |>.symm
  obtain rfl : fn = Tryd.f5 := (Option.some.inj (Tryd.func5.symm.trans hfn)).symm
  refine ⟨looks.symm, fun j t ht => ?_⟩
  have hall : (Tryd.f5.params.toList.all fun t => !Tryd.prog.wantsStandIn t) = true := by kernel_rfl
  have := List.all_eq_true.1 hall t (Array.mem_toList_iff.2 (Array.mem_of_getElem? ht))
  show Tryd.prog.wantsStandIn t = false
  simpa using this

theorem bindStruck_card : Rows.BindStruckCardSaid :=
  Claim7.holds_tied_plain_at .later [] _ _ _ _ bindStruck_said (fun _ h => by cases h) (by as_aux_lemma => kernel_rfl) (fun _ h => by cases h) bindStruck_row_tie rfl ⟨rfl, rfl⟩ main_is rfl bindStruck_plain (by as_aux_lemma => kernel_rfl)
end Go.Proofs.YtecafnhnkklboaaDoor
