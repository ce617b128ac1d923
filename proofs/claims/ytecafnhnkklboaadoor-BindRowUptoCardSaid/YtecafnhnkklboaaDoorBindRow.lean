/- Proved here: trellislaw.BindRow returns true at every table, keys, cut, keypad and not, armed and not, and words, and each argument reads afterwards as before. Narrower than the first form: what it reads is of bulk at most 1048576. -/
import Derived.Test.YtecafnhnkklboaaDoorMC10
import Derived.Test.YtecafnhnkklboaaDoorMBN3
import Derived.Test.YtecafnhnkklboaaDoorMC13
import Derived.Test.YtecafnhnkklboaaDoorMC1
set_option linter.unusedSimpArgs false
set_option maxRecDepth 100000
set_option linter.unusedVariables false
namespace Go.Proofs.YtecafnhnkklboaaDoor
open Go Go.Eng Go.ChangeShapes Go.WideShapes Go.ChangeAt Go.RowKit
open Go.ChangeMaps (open_string)

theorem bindRow_c0 : (fun (P : Program) (f : FuncId) (fn : Func) (s : ChangeSpec) (c : OpenClaim) => (c.wf (OpenSpec.ofChange s) : Bool)) Tryd.prog 3 Tryd.f3 (Rows.OpenSpec.upto Rows.bindRowSpec).bare Rows.bindRowUptoRow = true := by kernel_rfl
theorem bindRow_c3 : (fun (P : Program) (f : FuncId) (fn : Func) (s : ChangeSpec) (c : OpenClaim) => (fn.params.all (P.readableRec ·) : Bool)) Tryd.prog 3 Tryd.f3 (Rows.OpenSpec.upto Rows.bindRowSpec).bare Rows.bindRowUptoRow = true := by kernel_rfl
theorem bindRow_c4 : (fun (P : Program) (f : FuncId) (fn : Func) (s : ChangeSpec) (c : OpenClaim) => (namedTie P c.named s.vars : Bool)) Tryd.prog 3 Tryd.f3 (Rows.OpenSpec.upto Rows.bindRowSpec).bare Rows.bindRowUptoRow = true := by kernel_rfl
theorem bindRow_c5 : (fun (P : Program) (f : FuncId) (fn : Func) (s : ChangeSpec) (c : OpenClaim) => ((c.stops == []) : Bool)) Tryd.prog 3 Tryd.f3 (Rows.OpenSpec.upto Rows.bindRowSpec).bare Rows.bindRowUptoRow = true := by kernel_rfl
theorem bindRow_c7 : (fun (P : Program) (f : FuncId) (fn : Func) (s : ChangeSpec) (c : OpenClaim) => ((c.knobs == []) : Bool)) Tryd.prog 3 Tryd.f3 (Rows.OpenSpec.upto Rows.bindRowSpec).bare Rows.bindRowUptoRow = true := by kernel_rfl
theorem bindRow_c9 : (fun (P : Program) (f : FuncId) (fn : Func) (s : ChangeSpec) (c : OpenClaim) => ((c.inPlace == P.inPlace f) : Bool)) Tryd.prog 3 Tryd.f3 (Rows.OpenSpec.upto Rows.bindRowSpec).bare Rows.bindRowUptoRow = true := by kernel_rfl
theorem bindRow_c10 : (fun (P : Program) (f : FuncId) (fn : Func) (s : ChangeSpec) (c : OpenClaim) => ((c.unfollowed == P.unfollowed f) : Bool)) Tryd.prog 3 Tryd.f3 (Rows.OpenSpec.upto Rows.bindRowSpec).bare Rows.bindRowUptoRow = true := by kernel_rfl
theorem bindRow_c11 : (fun (P : Program) (f : FuncId) (fn : Func) (s : ChangeSpec) (c : OpenClaim) => ((c.recurses == P.recurses f) : Bool)) Tryd.prog 3 Tryd.f3 (Rows.OpenSpec.upto Rows.bindRowSpec).bare Rows.bindRowUptoRow = true := by kernel_rfl
theorem bindRow_c12 : (fun (P : Program) (f : FuncId) (fn : Func) (s : ChangeSpec) (c : OpenClaim) => ((c.named == P.varsNamed f) : Bool)) Tryd.prog 3 Tryd.f3 (Rows.OpenSpec.upto Rows.bindRowSpec).bare Rows.bindRowUptoRow = true := by kernel_rfl
theorem bindRow_c13 : (fun (P : Program) (f : FuncId) (fn : Func) (s : ChangeSpec) (c : OpenClaim) => ((c.maps == (fn.params.toList ++ s.plain.varTypes P).any (P.mapsRec ·)) : Bool)) Tryd.prog 3 Tryd.f3 (Rows.OpenSpec.upto Rows.bindRowSpec).bare Rows.bindRowUptoRow = true := by kernel_rfl
theorem bindRow_c14 : (fun (P : Program) (f : FuncId) (fn : Func) (s : ChangeSpec) (c : OpenClaim) => ((c.ifaces == (fn.params.toList ++ s.plain.varTypes P).any (P.ifacesRec ·)) : Bool)) Tryd.prog 3 Tryd.f3 (Rows.OpenSpec.upto Rows.bindRowSpec).bare Rows.bindRowUptoRow = true := by kernel_rfl
theorem bindRow_c15 : (fun (P : Program) (f : FuncId) (fn : Func) (s : ChangeSpec) (c : OpenClaim) => ((c.mapsOut == P.mapsAmong fn.resultTypes.toList) : Bool)) Tryd.prog 3 Tryd.f3 (Rows.OpenSpec.upto Rows.bindRowSpec).bare Rows.bindRowUptoRow = true := by kernel_rfl
theorem bindRow_c16 : (fun (P : Program) (f : FuncId) (fn : Func) (s : ChangeSpec) (c : OpenClaim) => ((c.loops == (fn.params.toList ++ s.plain.varTypes P).any (P.loopsFrom ·)) : Bool)) Tryd.prog 3 Tryd.f3 (Rows.OpenSpec.upto Rows.bindRowSpec).bare Rows.bindRowUptoRow = true := by kernel_rfl
theorem bindRow_c17 : (fun (P : Program) (f : FuncId) (fn : Func) (s : ChangeSpec) (c : OpenClaim) => ((c.wideKeys == (fn.params.toList ++ s.plain.varTypes P ++ fn.resultTypes.toList).any (P.wideKeysFrom ·)) : Bool)) Tryd.prog 3 Tryd.f3 (Rows.OpenSpec.upto Rows.bindRowSpec).bare Rows.bindRowUptoRow = true := by kernel_rfl
theorem bindRow_c18 : (fun (P : Program) (f : FuncId) (fn : Func) (s : ChangeSpec) (c : OpenClaim) => (s.vars.all (P.varReadable ·) : Bool)) Tryd.prog 3 Tryd.f3 (Rows.OpenSpec.upto Rows.bindRowSpec).bare Rows.bindRowUptoRow = true := by kernel_rfl
theorem bindRow_c19 : (fun (P : Program) (f : FuncId) (fn : Func) (s : ChangeSpec) (c : OpenClaim) => (fn.resultTypes.all (fun t => P.readableRec t && decide (t < P.types.size)) : Bool)) Tryd.prog 3 Tryd.f3 (Rows.OpenSpec.upto Rows.bindRowSpec).bare Rows.bindRowUptoRow = true := by kernel_rfl
theorem bindRow_c20 : (fun (P : Program) (f : FuncId) (fn : Func) (s : ChangeSpec) (c : OpenClaim) => ((c.ifacesOut == fn.resultTypes.toList.any (P.ifacesRec ·)) : Bool)) Tryd.prog 3 Tryd.f3 (Rows.OpenSpec.upto Rows.bindRowSpec).bare Rows.bindRowUptoRow = true := by kernel_rfl
theorem bindRow_c21 : (fun (P : Program) (f : FuncId) (fn : Func) (s : ChangeSpec) (c : OpenClaim) => ((c.loopsOut == fn.resultTypes.toList.any (P.loopsFrom ·)) : Bool)) Tryd.prog 3 Tryd.f3 (Rows.OpenSpec.upto Rows.bindRowSpec).bare Rows.bindRowUptoRow = true := by kernel_rfl
theorem bindRow_c23 : (fun (P : Program) (f : FuncId) (fn : Func) (s : ChangeSpec) (c : OpenClaim) => (c.shortTexts.isNone : Bool)) Tryd.prog 3 Tryd.f3 (Rows.OpenSpec.upto Rows.bindRowSpec).bare Rows.bindRowUptoRow = true := by kernel_rfl
theorem bindRow_c28 : (fun (P : Program) (f : FuncId) (fn : Func) (s : ChangeSpec) (c : OpenClaim) => ((c.kinds == (if c.domain.isEmpty then [] else fn.params.toList.map fun t => match P.underlying t with | some (.int k) => some k | _ => none)) : Bool)) Tryd.prog 3 Tryd.f3 (Rows.OpenSpec.upto Rows.bindRowSpec).bare Rows.bindRowUptoRow = true := by kernel_rfl
theorem bindRow_c29 : (fun (P : Program) (f : FuncId) (fn : Func) (s : ChangeSpec) (c : OpenClaim) => ((c.pinned == c.pinnedBy) : Bool)) Tryd.prog 3 Tryd.f3 (Rows.OpenSpec.upto Rows.bindRowSpec).bare Rows.bindRowUptoRow = true := by kernel_rfl
theorem bindRow_c30 : (fun (P : Program) (f : FuncId) (fn : Func) (s : ChangeSpec) (c : OpenClaim) => ((c.veiled == (fn.params.toList ++ s.plain.varTypes P ++ fn.resultTypes.toList).any (P.veiledRec ·)) : Bool)) Tryd.prog 3 Tryd.f3 (Rows.OpenSpec.upto Rows.bindRowSpec).bare Rows.bindRowUptoRow = true := by kernel_rfl
theorem bindRow_c31 : (fun (P : Program) (f : FuncId) (fn : Func) (s : ChangeSpec) (c : OpenClaim) => (c.veiledFits P fn.params.toList (fn.params.toList ++ s.plain.varTypes P ++ fn.resultTypes.toList) : Bool)) Tryd.prog 3 Tryd.f3 (Rows.OpenSpec.upto Rows.bindRowSpec).bare Rows.bindRowUptoRow = true := by kernel_rfl
theorem bindRow_closed : joinedFacts Tryd.prog 3 Tryd.f3 (Rows.OpenSpec.upto Rows.bindRowSpec).bare Rows.bindRowUptoRow = true := (and_t (and_t (and_t (and_t (and_t (and_t (and_t (and_t (and_t (and_t (and_t (and_t (and_t (and_t (and_t (and_t (and_t (and_t (and_t (and_t (and_t (and_t (and_t (and_t (and_t (and_t (and_t (and_t (and_t (and_t (and_t bindRow_c0 laidOut) mapsRowed) bindRow_c3) bindRow_c4) bindRow_c5) stops_nil) bindRow_c7) stopKnobs_nil) bindRow_c9) bindRow_c10) bindRow_c11) bindRow_c12) bindRow_c13) bindRow_c14) bindRow_c15) bindRow_c16) bindRow_c17) bindRow_c18) bindRow_c19) bindRow_c20) bindRow_c21) (by rw [plainKeys]; rfl)) bindRow_c23) stopsHeard) mayEnter) (by rw [liftsFinal]; rfl)) (by rw [make_cut]; rfl)) bindRow_c28) bindRow_c29) bindRow_c30) bindRow_c31)

theorem bindRow_contract (H : Type) (enc : TypeId × Value → H) (W : World) (base : Nat) (args : Array Value) (ds gs : List (DataW H)) (before : List MemPlace)
    (hval : ∀ (j : Nat) t v, Tryd.f3.params[j]? = some t → args[j]? = some v → Value.okWide Tryd.prog W .any base t v)
    (hW : DataW.Whole enc Tryd.prog Tryd.f3.params.toList Rows.bindRowSpec.vars false W args.toList ds gs before) (hsz : (DataW.weightsEach Tryd.prog (Tryd.f3.params.toList ++ (Rows.OpenSpec.upto Rows.bindRowSpec).bare.plain.varTypes Tryd.prog) (ds ++ gs)).all (· ≤ reachBytes) = true) (hL : laidMetH Tryd.prog Rows.bindRowUptoRow.laid W) (hk : Rows.uptoSmall H (ds ++ gs) = true) :
    Calls Tryd.prog 3 args W fun e W' => ∃ v, e = .returned v ∧ Rows.bindRowSpec.post enc Tryd.prog Tryd.f3 false true false false W args v W' := by
  have hT : Eng.YtecafnhnkklboaaDoor.Keyz W := keyz_of hL
  have hW' := hW
  obtain ⟨p, q, hA, hV, rfl, hfz, hnd⟩ := hW
  rw [Tryd.params3] at hA hval hsz
  obtain ⟨v0, v1, v2, v3, v4, v5, d0, d1, d2, d3, d4, d5, p0, p1, p2, p3, p4, p5, rfl, rfl, rfl, h0, h1, h2, h3, h4, h5⟩ := trodAll_six hA
  obtain ⟨rfl, rfl⟩ := trodVars_none hV
  obtain ⟨n0, t0⟩ := h0
  obtain ⟨a0, b0, l0, f0, k0⟩ := opens_table.opens enc W n0 _ _ t0
  have r0 := vrel_struct (show Tryd.prog.underlying 26 = _ from Tryd.underlying26) (hval 0 26 v0 rfl rfl) l0
  replace f0 := f0 (reach_of hsz 0 26 _ rfl rfl)
  replace k0 := Nat.le_trans k0 (upto_of hk 0 _ rfl)
  obtain ⟨n1, t1⟩ := h1
  obtain ⟨a1, b1, l1, f1, k1⟩ := opens_keys.opens enc W n1 _ _ t1
  have r1 := vrel_slice (show Tryd.prog.underlying 27 = _ from Tryd.underlying27) (hval 1 27 v1 rfl rfl) l1
  replace f1 := f1 (reach_of hsz 1 27 _ rfl rfl)
  replace k1 := Nat.le_trans k1 (upto_of hk 1 _ rfl)
  obtain ⟨a2, rfl, rfl, rfl, w2⟩ := open_int Tryd.underlying3 (hval 2 3 v2 rfl rfl) h2
  have b2 : -9223372036854775808 ≤ a2 ∧ a2 ≤ 9223372036854775807 := by simpa [Lit.wf, IntKind.min, IntKind.max, IntKind.signed, IntKind.bits] using w2
  obtain ⟨a3, rfl, rfl, rfl⟩ := open_bool Tryd.underlying4 (hval 3 4 v3 rfl rfl) h3
  obtain ⟨a4, rfl, rfl, rfl⟩ := open_bool Tryd.underlying4 (hval 4 4 v4 rfl rfl) h4
  obtain ⟨n5, t5⟩ := h5
  obtain ⟨a5, b5, l5, f5, k5⟩ := opens_words.opens enc W n5 _ _ t5
  have r5 := vrel_slice (show Tryd.prog.underlying 28 = _ from Tryd.underlying28) (hval 5 28 v5 rfl rfl) l5
  replace f5 := f5 (reach_of hsz 5 28 _ rfl rfl)
  replace k5 := Nat.le_trans k5 (upto_of hk 5 _ rfl)
  refine ((Eng.YtecafnhnkklboaaDoor.bindRow_ok W hT a0 (tab_ok b0 f0) a1 (keys_fit b1 f1) a2 b2 a3 a4 a5 (words_sum k5)).law [v0, v1, .int .i64 a2, .bool a3, .bool a4, v5] rfl (fun i hi => ?_)).mono fun e W' ⟨he, hb⟩ => ⟨_, he, ?_⟩
  · match i, hi with
    | 0, _ => exact r0
    | 1, _ => exact r1
    | 2, _ => exact .int _ _
    | 3, _ => exact .bool _
    | 4, _ => exact .bool _
    | 5, _ => exact r5
  · exact law_post laidOut (by kernel_rfl) (by kernel_rfl) Tryd.underlying4 (by kernel_rfl) hW' rfl hb

theorem bindRow_reads (os : Os) {H : Type} (enc : TypeId × Value → H) : ∃ places, DataW.whole enc Tryd.prog ((recsWorld os).forCall (fun _ _ => 0) ⟨#[], #[.agg #[.int .i64 0, .int .i32 0, .int .i64 0, .int .i64 0, .slice none 0 0], .slice none 0 0, .int .i64 0, .bool false, .bool false, .slice none 0 0], []⟩).memory Tryd.f3.params.toList Rows.bindRowSpec.vars false (#[.agg #[.int .i64 0, .int .i32 0, .int .i64 0, .int .i64 0, .slice none 0 0], .slice none 0 0, .int .i64 0, .bool false, .bool false, .slice none 0 0] : Array Value).toList 8 = some ([.agg [.agg [.lit (.int .i64 0), .lit (.int .i32 0), .lit (.int .i64 0), .lit (.int .i64 0)], .nil], .nil, .lit (.int .i64 0), .lit (.bool false), .lit (.bool false), .nil], [], places) :=
  ⟨[], by kernel_rfl⟩

theorem bindRow_lifted (os : Os) (started : os.Started) (H : Type) (enc : TypeId × Value → H) (F : Stop.Interp) :
    ReturnsInHanded {} Tryd.checked os 3 .any ((Rows.OpenSpec.upto Rows.bindRowSpec).preRow enc Tryd.prog Tryd.f3 Rows.bindRowUptoRow.domain false Rows.bindRowUptoRow.laid) (((Rows.OpenSpec.upto Rows.bindRowSpec).at F).post enc Tryd.prog Tryd.f3 false true false false) := by
  obtain ⟨places, hx⟩ := bindRow_reads os enc
  refine returnsInHanded_of_row (C := Tryd.checked) (s := (Rows.OpenSpec.upto Rows.bindRowSpec)) own started (by as_aux_lemma => kernel_rfl) Tryd.func3
    (witness_row_at (enc := enc) (C := Tryd.checked) false (recsWorld os) #[.agg #[.int .i64 0, .int .i32 0, .int .i64 0, .int .i64 0, .slice none 0 0], .slice none 0 0, .int .i64 0, .bool false, .bool false, .slice none 0 0] rfl (by as_aux_lemma => kernel_rfl) (by as_aux_lemma => kernel_rfl) (by as_aux_lemma => kernel_rfl)
      (OpenSpec.preRow_of_cond 8 hx (by as_aux_lemma => kernel_rfl) (fun k hk => by cases hk; kernel_rfl) (by as_aux_lemma => kernel_rfl) (recs_met os _))) ?_
  intro W base args ds gs before hval hW _ hcond hsz hL _ _
  exact bindRow_contract H enc W base args ds gs before hval hW hsz hL (hcond _ rfl)

theorem bindRow_said : Rows.BindRowUptoSaid :=
  OpenClaim.holds_of_cond 3 Tryd.f3 rfl rfl rfl rfl rfl rfl rfl ⟨rfl, rfl, rfl, rfl, rfl⟩ rfl rfl rfl rfl rfl (by as_aux_lemma => kernel_rfl) Tryd.func3 bindRow_closed
    (of_decide_eq_true (by as_aux_lemma => kernel_rfl)) (by unfold Func.isWrapper; rw [if_neg (of_decide_eq_false (by kernel_rfl))]; exact ⟨rfl, rfl⟩)
    (fun os started H enc _ F => by rw [OpenClaim.pre_eq_preRow]; exact bindRow_lifted os started H enc F)

theorem bindRow_plain (f : FuncId) (fn : Func) (hf : Tryd.pinned.checked.prog.funcNamed Rows.bindRowUptoRow.func = some f) (hfn : Tryd.pinned.checked.prog.funcs[f]? = some fn) :
    true = Tryd.pinned.checked.prog.looks [] ∧ ∀ (j : Nat) t, fn.params[j]? = some t → Tryd.pinned.checked.prog.wantsStandIn t = false := by
  obtain rfl : f = 3 := Option.some.inj ((show Tryd.prog.funcNamed Rows.bindRowUptoRow.func = some 3 by kernel_rfl).symm.trans hf) |>.symm
  obtain rfl : fn = Tryd.f3 := (Option.some.inj (Tryd.func3.symm.trans hfn)).symm
  refine ⟨looks.symm, fun j t ht => ?_⟩
  have hall : (Tryd.f3.params.toList.all fun t => !Tryd.prog.wantsStandIn t) = true := by kernel_rfl
  have := List.all_eq_true.1 hall t (Array.mem_toList_iff.2 (Array.mem_of_getElem? ht))
  show Tryd.prog.wantsStandIn t = false
  simpa using this

theorem bindRow_card : Rows.BindRowUptoCardSaid :=
  Claim7.holds_tied_plain_at .later [] _ _ _ _ bindRow_said (fun _ h => by cases h) (by as_aux_lemma => kernel_rfl) (fun _ h => by cases h) bindRowUpto_row_tie rfl ⟨rfl, rfl⟩ main_is rfl bindRow_plain (by as_aux_lemma => kernel_rfl)
end Go.Proofs.YtecafnhnkklboaaDoor
