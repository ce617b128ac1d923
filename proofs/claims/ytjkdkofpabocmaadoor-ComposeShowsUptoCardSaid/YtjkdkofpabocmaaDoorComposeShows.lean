/- Proved here: trellislaw.ComposeShows returns true at every split, pane, panes, screens, size and state, and each argument reads afterwards as before. Narrower than the first form: what it reads is of bulk at most 1048576. -/
import Derived.Test.YtjkdkofpabocmaaDoorMC1
import Derived.Test.YtjkdkofpabocmaaDoorMCM3
import Derived.Test.YtjkdkofpabocmaaDoorMC9
set_option linter.unusedSimpArgs false
set_option maxRecDepth 100000
set_option linter.unusedVariables false
namespace Go.Proofs.YtjkdkofpabocmaaDoor
open Go Go.Eng Go.ChangeShapes Go.WideShapes Go.ChangeAt Go.RowKit
open Go.ChangeMaps (open_string)

theorem composeShows_c0 : (fun (P : Program) (f : FuncId) (fn : Func) (s : ChangeSpec) (c : OpenClaim) => (c.wf (OpenSpec.ofChange s) : Bool)) Tryd.prog 3 Tryd.f3 (Rows.OpenSpec.upto Rows.composeShowsSpec).bare Rows.composeShowsUptoRow = true := by kernel_rfl
theorem composeShows_c3 : (fun (P : Program) (f : FuncId) (fn : Func) (s : ChangeSpec) (c : OpenClaim) => (fn.params.all (P.readableRec ·) : Bool)) Tryd.prog 3 Tryd.f3 (Rows.OpenSpec.upto Rows.composeShowsSpec).bare Rows.composeShowsUptoRow = true := by kernel_rfl
theorem composeShows_c4 : (fun (P : Program) (f : FuncId) (fn : Func) (s : ChangeSpec) (c : OpenClaim) => (namedTie P c.named s.vars : Bool)) Tryd.prog 3 Tryd.f3 (Rows.OpenSpec.upto Rows.composeShowsSpec).bare Rows.composeShowsUptoRow = true := by kernel_rfl
theorem composeShows_c5 : (fun (P : Program) (f : FuncId) (fn : Func) (s : ChangeSpec) (c : OpenClaim) => ((c.stops == []) : Bool)) Tryd.prog 3 Tryd.f3 (Rows.OpenSpec.upto Rows.composeShowsSpec).bare Rows.composeShowsUptoRow = true := by kernel_rfl
theorem composeShows_c7 : (fun (P : Program) (f : FuncId) (fn : Func) (s : ChangeSpec) (c : OpenClaim) => ((c.knobs == []) : Bool)) Tryd.prog 3 Tryd.f3 (Rows.OpenSpec.upto Rows.composeShowsSpec).bare Rows.composeShowsUptoRow = true := by kernel_rfl
theorem composeShows_c9 : (fun (P : Program) (f : FuncId) (fn : Func) (s : ChangeSpec) (c : OpenClaim) => ((c.inPlace == P.inPlace f) : Bool)) Tryd.prog 3 Tryd.f3 (Rows.OpenSpec.upto Rows.composeShowsSpec).bare Rows.composeShowsUptoRow = true := by kernel_rfl
theorem composeShows_c10 : (fun (P : Program) (f : FuncId) (fn : Func) (s : ChangeSpec) (c : OpenClaim) => ((c.unfollowed == P.unfollowed f) : Bool)) Tryd.prog 3 Tryd.f3 (Rows.OpenSpec.upto Rows.composeShowsSpec).bare Rows.composeShowsUptoRow = true := by kernel_rfl
theorem composeShows_c11 : (fun (P : Program) (f : FuncId) (fn : Func) (s : ChangeSpec) (c : OpenClaim) => ((c.recurses == P.recurses f) : Bool)) Tryd.prog 3 Tryd.f3 (Rows.OpenSpec.upto Rows.composeShowsSpec).bare Rows.composeShowsUptoRow = true := by kernel_rfl
theorem composeShows_c12 : (fun (P : Program) (f : FuncId) (fn : Func) (s : ChangeSpec) (c : OpenClaim) => ((c.named == P.varsNamed f) : Bool)) Tryd.prog 3 Tryd.f3 (Rows.OpenSpec.upto Rows.composeShowsSpec).bare Rows.composeShowsUptoRow = true := by kernel_rfl
theorem composeShows_c13 : (fun (P : Program) (f : FuncId) (fn : Func) (s : ChangeSpec) (c : OpenClaim) => ((c.maps == (fn.params.toList ++ s.plain.varTypes P).any (P.mapsRec ·)) : Bool)) Tryd.prog 3 Tryd.f3 (Rows.OpenSpec.upto Rows.composeShowsSpec).bare Rows.composeShowsUptoRow = true := by kernel_rfl
theorem composeShows_c14 : (fun (P : Program) (f : FuncId) (fn : Func) (s : ChangeSpec) (c : OpenClaim) => ((c.ifaces == (fn.params.toList ++ s.plain.varTypes P).any (P.ifacesRec ·)) : Bool)) Tryd.prog 3 Tryd.f3 (Rows.OpenSpec.upto Rows.composeShowsSpec).bare Rows.composeShowsUptoRow = true := by kernel_rfl
theorem composeShows_c15 : (fun (P : Program) (f : FuncId) (fn : Func) (s : ChangeSpec) (c : OpenClaim) => ((c.mapsOut == P.mapsAmong fn.resultTypes.toList) : Bool)) Tryd.prog 3 Tryd.f3 (Rows.OpenSpec.upto Rows.composeShowsSpec).bare Rows.composeShowsUptoRow = true := by kernel_rfl
theorem composeShows_c16 : (fun (P : Program) (f : FuncId) (fn : Func) (s : ChangeSpec) (c : OpenClaim) => ((c.loops == (fn.params.toList ++ s.plain.varTypes P).any (P.loopsFrom ·)) : Bool)) Tryd.prog 3 Tryd.f3 (Rows.OpenSpec.upto Rows.composeShowsSpec).bare Rows.composeShowsUptoRow = true := by kernel_rfl
theorem composeShows_c17 : (fun (P : Program) (f : FuncId) (fn : Func) (s : ChangeSpec) (c : OpenClaim) => ((c.wideKeys == (fn.params.toList ++ s.plain.varTypes P ++ fn.resultTypes.toList).any (P.wideKeysFrom ·)) : Bool)) Tryd.prog 3 Tryd.f3 (Rows.OpenSpec.upto Rows.composeShowsSpec).bare Rows.composeShowsUptoRow = true := by kernel_rfl
theorem composeShows_c18 : (fun (P : Program) (f : FuncId) (fn : Func) (s : ChangeSpec) (c : OpenClaim) => (s.vars.all (P.varReadable ·) : Bool)) Tryd.prog 3 Tryd.f3 (Rows.OpenSpec.upto Rows.composeShowsSpec).bare Rows.composeShowsUptoRow = true := by kernel_rfl
theorem composeShows_c19 : (fun (P : Program) (f : FuncId) (fn : Func) (s : ChangeSpec) (c : OpenClaim) => (fn.resultTypes.all (fun t => P.readableRec t && decide (t < P.types.size)) : Bool)) Tryd.prog 3 Tryd.f3 (Rows.OpenSpec.upto Rows.composeShowsSpec).bare Rows.composeShowsUptoRow = true := by kernel_rfl
theorem composeShows_c20 : (fun (P : Program) (f : FuncId) (fn : Func) (s : ChangeSpec) (c : OpenClaim) => ((c.ifacesOut == fn.resultTypes.toList.any (P.ifacesRec ·)) : Bool)) Tryd.prog 3 Tryd.f3 (Rows.OpenSpec.upto Rows.composeShowsSpec).bare Rows.composeShowsUptoRow = true := by kernel_rfl
theorem composeShows_c21 : (fun (P : Program) (f : FuncId) (fn : Func) (s : ChangeSpec) (c : OpenClaim) => ((c.loopsOut == fn.resultTypes.toList.any (P.loopsFrom ·)) : Bool)) Tryd.prog 3 Tryd.f3 (Rows.OpenSpec.upto Rows.composeShowsSpec).bare Rows.composeShowsUptoRow = true := by kernel_rfl
theorem composeShows_c23 : (fun (P : Program) (f : FuncId) (fn : Func) (s : ChangeSpec) (c : OpenClaim) => (c.shortTexts.isNone : Bool)) Tryd.prog 3 Tryd.f3 (Rows.OpenSpec.upto Rows.composeShowsSpec).bare Rows.composeShowsUptoRow = true := by kernel_rfl
theorem composeShows_c28 : (fun (P : Program) (f : FuncId) (fn : Func) (s : ChangeSpec) (c : OpenClaim) => ((c.kinds == (if c.domain.isEmpty then [] else fn.params.toList.map fun t => match P.underlying t with | some (.int k) => some k | _ => none)) : Bool)) Tryd.prog 3 Tryd.f3 (Rows.OpenSpec.upto Rows.composeShowsSpec).bare Rows.composeShowsUptoRow = true := by kernel_rfl
theorem composeShows_c29 : (fun (P : Program) (f : FuncId) (fn : Func) (s : ChangeSpec) (c : OpenClaim) => ((c.pinned == c.pinnedBy) : Bool)) Tryd.prog 3 Tryd.f3 (Rows.OpenSpec.upto Rows.composeShowsSpec).bare Rows.composeShowsUptoRow = true := by kernel_rfl
theorem composeShows_c30 : (fun (P : Program) (f : FuncId) (fn : Func) (s : ChangeSpec) (c : OpenClaim) => ((c.veiled == (fn.params.toList ++ s.plain.varTypes P ++ fn.resultTypes.toList).any (P.veiledRec ·)) : Bool)) Tryd.prog 3 Tryd.f3 (Rows.OpenSpec.upto Rows.composeShowsSpec).bare Rows.composeShowsUptoRow = true := by kernel_rfl
theorem composeShows_c31 : (fun (P : Program) (f : FuncId) (fn : Func) (s : ChangeSpec) (c : OpenClaim) => (c.veiledFits P fn.params.toList (fn.params.toList ++ s.plain.varTypes P ++ fn.resultTypes.toList) : Bool)) Tryd.prog 3 Tryd.f3 (Rows.OpenSpec.upto Rows.composeShowsSpec).bare Rows.composeShowsUptoRow = true := by kernel_rfl
theorem composeShows_closed : joinedFacts Tryd.prog 3 Tryd.f3 (Rows.OpenSpec.upto Rows.composeShowsSpec).bare Rows.composeShowsUptoRow = true := (and_t (and_t (and_t (and_t (and_t (and_t (and_t (and_t (and_t (and_t (and_t (and_t (and_t (and_t (and_t (and_t (and_t (and_t (and_t (and_t (and_t (and_t (and_t (and_t (and_t (and_t (and_t (and_t (and_t (and_t (and_t composeShows_c0 laidOut) mapsRowed) composeShows_c3) composeShows_c4) composeShows_c5) stops_nil) composeShows_c7) stopKnobs_nil) composeShows_c9) composeShows_c10) composeShows_c11) composeShows_c12) composeShows_c13) composeShows_c14) composeShows_c15) composeShows_c16) composeShows_c17) composeShows_c18) composeShows_c19) composeShows_c20) composeShows_c21) (by rw [plainKeys]; rfl)) composeShows_c23) stopsHeard) mayEnter) (by rw [liftsFinal]; rfl)) (by rw [make_cut]; rfl)) composeShows_c28) composeShows_c29) composeShows_c30) composeShows_c31)

theorem composeShows_contract (H : Type) (enc : TypeId × Value → H) (W : World) (base : Nat) (args : Array Value) (ds gs : List (DataW H)) (before : List MemPlace)
    (hval : ∀ (j : Nat) t v, Tryd.f3.params[j]? = some t → args[j]? = some v → Value.okWide Tryd.prog W .any base t v)
    (hW : DataW.Whole enc Tryd.prog Tryd.f3.params.toList Rows.composeShowsSpec.vars false W args.toList ds gs before) (hsz : (DataW.weightsEach Tryd.prog (Tryd.f3.params.toList ++ (Rows.OpenSpec.upto Rows.composeShowsSpec).bare.plain.varTypes Tryd.prog) (ds ++ gs)).all (· ≤ reachBytes) = true) (hL : laidMetH Tryd.prog Rows.composeShowsUptoRow.laid W) (hk : Rows.uptoSmall H (ds ++ gs) = true) :
    Calls Tryd.prog 3 args W fun e W' => ∃ v, e = .returned v ∧ Rows.composeShowsSpec.post enc Tryd.prog Tryd.f3 false true false false W args v W' := by
  have hT : Eng.YtjkdkofpabocmaaDoor.Tabs W := tabs_of hL
  have hW' := hW
  obtain ⟨p, q, hA, hV, rfl, hfz, hnd⟩ := hW
  rw [Tryd.params3] at hA hval hsz
  obtain ⟨v0, v1, v2, v3, v4, v5, v6, d0, d1, d2, d3, d4, d5, d6, p0, p1, p2, p3, p4, p5, p6, rfl, rfl, rfl, h0, h1, h2, h3, h4, h5, h6⟩ := trodAll_seven hA
  obtain ⟨rfl, rfl⟩ := trodVars_none hV
  obtain ⟨n0, t0⟩ := h0
  obtain ⟨a0, b0, l0, f0, k0⟩ := opens_split.opens enc W n0 _ _ t0
  have r0 := vrel_split (show Tryd.prog.underlying 24 = _ from Tryd.underlying24) (hval 0 24 v0 rfl rfl) l0
  replace f0 := f0 (reach_of hsz 0 24 _ rfl rfl)
  replace k0 := Nat.le_trans k0 (upto_of hk 0 _ rfl)
  obtain ⟨a1, rfl, rfl, rfl, w1⟩ := open_int Tryd.underlying3 (hval 1 3 v1 rfl rfl) h1
  have b1 : -9223372036854775808 ≤ a1 ∧ a1 ≤ 9223372036854775807 := by simpa [Lit.wf, IntKind.min, IntKind.max, IntKind.signed, IntKind.bits] using w1
  obtain ⟨n2, t2⟩ := h2
  obtain ⟨a2, b2, l2, f2, k2⟩ := opens_ints.opens enc W n2 _ _ t2
  have r2 := vrel_slice (show Tryd.prog.underlying 25 = _ from Tryd.underlying25) (hval 2 25 v2 rfl rfl) l2
  replace f2 := f2 (reach_of hsz 2 25 _ rfl rfl)
  replace k2 := Nat.le_trans k2 (upto_of hk 2 _ rfl)
  obtain ⟨n3, t3⟩ := h3
  obtain ⟨a3, b3, l3, f3, k3⟩ := opens_screens.opens enc W n3 _ _ t3
  have r3 := vrel_slice (show Tryd.prog.underlying 26 = _ from Tryd.underlying26) (hval 3 26 v3 rfl rfl) l3
  replace f3 := f3 (reach_of hsz 3 26 _ rfl rfl)
  replace k3 := Nat.le_trans k3 (upto_of hk 3 _ rfl)
  obtain ⟨a4, rfl, rfl, rfl, w4⟩ := open_int Tryd.underlying3 (hval 4 3 v4 rfl rfl) h4
  have b4 : -9223372036854775808 ≤ a4 ∧ a4 ≤ 9223372036854775807 := by simpa [Lit.wf, IntKind.min, IntKind.max, IntKind.signed, IntKind.bits] using w4
  obtain ⟨a5, rfl, rfl, rfl, w5⟩ := open_int Tryd.underlying3 (hval 5 3 v5 rfl rfl) h5
  have b5 : -9223372036854775808 ≤ a5 ∧ a5 ≤ 9223372036854775807 := by simpa [Lit.wf, IntKind.min, IntKind.max, IntKind.signed, IntKind.bits] using w5
  obtain ⟨a6, rfl, rfl, rfl, w6⟩ := open_string Tryd.underlying9 (hval 6 9 v6 rfl rfl) h6
  have b6 : a6.data.toList.length ≤ 1048576 := upto_str (upto_of hk 6 _ rfl)
  refine ((Eng.YtjkdkofpabocmaaDoor.composeShows_ok W hT a0 f0 a1 b1 a2 b2 (upto_ints k2) a3 (scrs_ok b3 f3 k3).1 (scrs_ok b3 f3 k3).2 a4 b4 a5 b5 a6.data.toList b6).law [v0, .int .i64 a1, v2, v3, .int .i64 a4, .int .i64 a5, .string a6] rfl (fun i hi => ?_)).mono fun e W' ⟨he, hb⟩ => ⟨_, he, ?_⟩
  · match i, hi with
    | 0, _ => exact r0
    | 1, _ => exact .int _ _
    | 2, _ => exact r2
    | 3, _ => exact r3
    | 4, _ => exact .int _ _
    | 5, _ => exact .int _ _
    | 6, _ => exact .str _
  · exact law_post laidOut (by kernel_rfl) (by kernel_rfl) Tryd.underlying4 (by kernel_rfl) hW' rfl hb

theorem composeShows_reads (os : Os) {H : Type} (enc : TypeId × Value → H) : ∃ places, DataW.whole enc Tryd.prog ((u8World os).forCall (fun _ _ => 0) ⟨#[], #[.agg #[.int .i64 0, .int .i64 0, .int .i64 0, .slice none 0 0], .int .i64 0, .slice none 0 0, .slice none 0 0, .int .i64 0, .int .i64 0, .string ⟨#[]⟩], []⟩).memory Tryd.f3.params.toList Rows.composeShowsSpec.vars false (#[.agg #[.int .i64 0, .int .i64 0, .int .i64 0, .slice none 0 0], .int .i64 0, .slice none 0 0, .slice none 0 0, .int .i64 0, .int .i64 0, .string ⟨#[]⟩] : Array Value).toList 8 = some ([.agg [.lit (.int .i64 0), .lit (.int .i64 0), .lit (.int .i64 0), .nil], .lit (.int .i64 0), .nil, .nil, .lit (.int .i64 0), .lit (.int .i64 0), .lit (.string [])], [], places) :=
  ⟨[], by kernel_rfl⟩

theorem composeShows_lifted (os : Os) (started : os.Started) (H : Type) (enc : TypeId × Value → H) (F : Stop.Interp) :
    ReturnsInHanded {} Tryd.checked os 3 .any ((Rows.OpenSpec.upto Rows.composeShowsSpec).preRow enc Tryd.prog Tryd.f3 Rows.composeShowsUptoRow.domain false Rows.composeShowsUptoRow.laid) (((Rows.OpenSpec.upto Rows.composeShowsSpec).at F).post enc Tryd.prog Tryd.f3 false true false false) := by
  obtain ⟨places, hx⟩ := composeShows_reads os enc
  refine returnsInHanded_of_row (C := Tryd.checked) (s := (Rows.OpenSpec.upto Rows.composeShowsSpec)) own started (by as_aux_lemma => kernel_rfl) Tryd.func3
    (witness_row_at (enc := enc) (C := Tryd.checked) false (u8World os) #[.agg #[.int .i64 0, .int .i64 0, .int .i64 0, .slice none 0 0], .int .i64 0, .slice none 0 0, .slice none 0 0, .int .i64 0, .int .i64 0, .string ⟨#[]⟩] rfl (by as_aux_lemma => kernel_rfl) (by as_aux_lemma => kernel_rfl) (by as_aux_lemma => kernel_rfl)
      (OpenSpec.preRow_of_cond 8 hx (by as_aux_lemma => kernel_rfl) (fun k hk => by cases hk; kernel_rfl) (by as_aux_lemma => kernel_rfl) (u8_met os _))) ?_
  intro W base args ds gs before hval hW _ hcond hsz hL _ _
  exact composeShows_contract H enc W base args ds gs before hval hW hsz hL (hcond _ rfl)

theorem composeShows_said : Rows.ComposeShowsUptoSaid :=
  OpenClaim.holds_of_cond 3 Tryd.f3 rfl rfl rfl rfl rfl rfl rfl ⟨rfl, rfl, rfl, rfl, rfl⟩ rfl rfl rfl rfl rfl (by as_aux_lemma => kernel_rfl) Tryd.func3 composeShows_closed
    (of_decide_eq_true (by as_aux_lemma => kernel_rfl)) (by unfold Func.isWrapper; rw [if_neg (of_decide_eq_false (by kernel_rfl))]; exact ⟨rfl, rfl⟩)
    (fun os started H enc _ F => by rw [OpenClaim.pre_eq_preRow]; exact composeShows_lifted os started H enc F)

theorem composeShows_plain (f : FuncId) (fn : Func) (hf : Tryd.pinned.checked.prog.funcNamed Rows.composeShowsUptoRow.func = some f) (hfn : Tryd.pinned.checked.prog.funcs[f]? = some fn) :
    true = Tryd.pinned.checked.prog.looks [] ∧ ∀ (j : Nat) t, fn.params[j]? = some t → Tryd.pinned.checked.prog.wantsStandIn t = false := by
  obtain rfl : f = 3 := Option.some.inj ((show Tryd.prog.funcNamed Rows.composeShowsUptoRow.func = some 3 by kernel_rfl).symm.trans hf) |>.symm
  obtain rfl : fn = Tryd.f3 := (Option.some.inj (Tryd.func3.symm.trans hfn)).symm
  refine ⟨looks.symm, fun j t ht => ?_⟩
  have hall : (Tryd.f3.params.toList.all fun t => !Tryd.prog.wantsStandIn t) = true := by kernel_rfl
  have := List.all_eq_true.1 hall t (Array.mem_toList_iff.2 (Array.mem_of_getElem? ht))
  show Tryd.prog.wantsStandIn t = false
  simpa using this

theorem composeShows_card : Rows.ComposeShowsUptoCardSaid :=
  Claim7.holds_tied_plain_at .later [] _ _ _ _ composeShows_said (fun _ h => by cases h) (by as_aux_lemma => kernel_rfl) (fun _ h => by cases h) composeShowsUpto_row_tie rfl ⟨rfl, rfl⟩ main_is rfl composeShows_plain (by as_aux_lemma => kernel_rfl)
end Go.Proofs.YtjkdkofpabocmaaDoor
