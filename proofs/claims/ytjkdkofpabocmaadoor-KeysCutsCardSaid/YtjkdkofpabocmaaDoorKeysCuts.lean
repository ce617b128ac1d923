/- Proved here: trellislaw.KeysCuts returns true at all bytes, cut and end, and each argument reads afterwards as before. The card's condition: the tables of math/bits, strconv and unicode/utf8 and the two errors of package strconv hold what the program's text lays. -/
import Derived.Test.YtjkdkofpabocmaaDoorMC10
import Derived.Test.YtjkdkofpabocmaaDoorMKY3
set_option linter.unusedSimpArgs false
set_option maxRecDepth 100000
set_option linter.unusedVariables false
namespace Go.Proofs.YtjkdkofpabocmaaDoor
open Go Go.Eng Go.ChangeShapes Go.WideShapes Go.ChangeAt Go.RowKit
open Go.ChangeMaps (open_string)

theorem keysCuts_c0 : (fun (P : Program) (f : FuncId) (fn : Func) (s : ChangeSpec) (c : OpenClaim) => (c.wf (OpenSpec.ofChange s) : Bool)) Tryd.prog 6 Tryd.f6 (OpenSpec.ofChange Rows.keysCutsSpec).bare Rows.keysCutsRow = true := by kernel_rfl
theorem keysCuts_c3 : (fun (P : Program) (f : FuncId) (fn : Func) (s : ChangeSpec) (c : OpenClaim) => (fn.params.all (P.readableRec ·) : Bool)) Tryd.prog 6 Tryd.f6 (OpenSpec.ofChange Rows.keysCutsSpec).bare Rows.keysCutsRow = true := by kernel_rfl
theorem keysCuts_c4 : (fun (P : Program) (f : FuncId) (fn : Func) (s : ChangeSpec) (c : OpenClaim) => (namedTie P c.named s.vars : Bool)) Tryd.prog 6 Tryd.f6 (OpenSpec.ofChange Rows.keysCutsSpec).bare Rows.keysCutsRow = true := by kernel_rfl
theorem keysCuts_c5 : (fun (P : Program) (f : FuncId) (fn : Func) (s : ChangeSpec) (c : OpenClaim) => ((c.stops == []) : Bool)) Tryd.prog 6 Tryd.f6 (OpenSpec.ofChange Rows.keysCutsSpec).bare Rows.keysCutsRow = true := by kernel_rfl
theorem keysCuts_c7 : (fun (P : Program) (f : FuncId) (fn : Func) (s : ChangeSpec) (c : OpenClaim) => ((c.knobs == []) : Bool)) Tryd.prog 6 Tryd.f6 (OpenSpec.ofChange Rows.keysCutsSpec).bare Rows.keysCutsRow = true := by kernel_rfl
theorem keysCuts_c9 : (fun (P : Program) (f : FuncId) (fn : Func) (s : ChangeSpec) (c : OpenClaim) => ((c.inPlace == P.inPlace f) : Bool)) Tryd.prog 6 Tryd.f6 (OpenSpec.ofChange Rows.keysCutsSpec).bare Rows.keysCutsRow = true := by kernel_rfl
theorem keysCuts_c10 : (fun (P : Program) (f : FuncId) (fn : Func) (s : ChangeSpec) (c : OpenClaim) => ((c.unfollowed == P.unfollowed f) : Bool)) Tryd.prog 6 Tryd.f6 (OpenSpec.ofChange Rows.keysCutsSpec).bare Rows.keysCutsRow = true := by kernel_rfl
theorem keysCuts_c11 : (fun (P : Program) (f : FuncId) (fn : Func) (s : ChangeSpec) (c : OpenClaim) => ((c.recurses == P.recurses f) : Bool)) Tryd.prog 6 Tryd.f6 (OpenSpec.ofChange Rows.keysCutsSpec).bare Rows.keysCutsRow = true := by kernel_rfl
theorem keysCuts_c12 : (fun (P : Program) (f : FuncId) (fn : Func) (s : ChangeSpec) (c : OpenClaim) => ((c.named == P.varsNamed f) : Bool)) Tryd.prog 6 Tryd.f6 (OpenSpec.ofChange Rows.keysCutsSpec).bare Rows.keysCutsRow = true := by kernel_rfl
theorem keysCuts_c13 : (fun (P : Program) (f : FuncId) (fn : Func) (s : ChangeSpec) (c : OpenClaim) => ((c.maps == (fn.params.toList ++ s.plain.varTypes P).any (P.mapsRec ·)) : Bool)) Tryd.prog 6 Tryd.f6 (OpenSpec.ofChange Rows.keysCutsSpec).bare Rows.keysCutsRow = true := by kernel_rfl
theorem keysCuts_c14 : (fun (P : Program) (f : FuncId) (fn : Func) (s : ChangeSpec) (c : OpenClaim) => ((c.ifaces == (fn.params.toList ++ s.plain.varTypes P).any (P.ifacesRec ·)) : Bool)) Tryd.prog 6 Tryd.f6 (OpenSpec.ofChange Rows.keysCutsSpec).bare Rows.keysCutsRow = true := by kernel_rfl
theorem keysCuts_c15 : (fun (P : Program) (f : FuncId) (fn : Func) (s : ChangeSpec) (c : OpenClaim) => ((c.mapsOut == P.mapsAmong fn.resultTypes.toList) : Bool)) Tryd.prog 6 Tryd.f6 (OpenSpec.ofChange Rows.keysCutsSpec).bare Rows.keysCutsRow = true := by kernel_rfl
theorem keysCuts_c16 : (fun (P : Program) (f : FuncId) (fn : Func) (s : ChangeSpec) (c : OpenClaim) => ((c.loops == (fn.params.toList ++ s.plain.varTypes P).any (P.loopsFrom ·)) : Bool)) Tryd.prog 6 Tryd.f6 (OpenSpec.ofChange Rows.keysCutsSpec).bare Rows.keysCutsRow = true := by kernel_rfl
theorem keysCuts_c17 : (fun (P : Program) (f : FuncId) (fn : Func) (s : ChangeSpec) (c : OpenClaim) => ((c.wideKeys == (fn.params.toList ++ s.plain.varTypes P ++ fn.resultTypes.toList).any (P.wideKeysFrom ·)) : Bool)) Tryd.prog 6 Tryd.f6 (OpenSpec.ofChange Rows.keysCutsSpec).bare Rows.keysCutsRow = true := by kernel_rfl
theorem keysCuts_c18 : (fun (P : Program) (f : FuncId) (fn : Func) (s : ChangeSpec) (c : OpenClaim) => (s.vars.all (P.varReadable ·) : Bool)) Tryd.prog 6 Tryd.f6 (OpenSpec.ofChange Rows.keysCutsSpec).bare Rows.keysCutsRow = true := by kernel_rfl
theorem keysCuts_c19 : (fun (P : Program) (f : FuncId) (fn : Func) (s : ChangeSpec) (c : OpenClaim) => (fn.resultTypes.all (fun t => P.readableRec t && decide (t < P.types.size)) : Bool)) Tryd.prog 6 Tryd.f6 (OpenSpec.ofChange Rows.keysCutsSpec).bare Rows.keysCutsRow = true := by kernel_rfl
theorem keysCuts_c20 : (fun (P : Program) (f : FuncId) (fn : Func) (s : ChangeSpec) (c : OpenClaim) => ((c.ifacesOut == fn.resultTypes.toList.any (P.ifacesRec ·)) : Bool)) Tryd.prog 6 Tryd.f6 (OpenSpec.ofChange Rows.keysCutsSpec).bare Rows.keysCutsRow = true := by kernel_rfl
theorem keysCuts_c21 : (fun (P : Program) (f : FuncId) (fn : Func) (s : ChangeSpec) (c : OpenClaim) => ((c.loopsOut == fn.resultTypes.toList.any (P.loopsFrom ·)) : Bool)) Tryd.prog 6 Tryd.f6 (OpenSpec.ofChange Rows.keysCutsSpec).bare Rows.keysCutsRow = true := by kernel_rfl
theorem keysCuts_c23 : (fun (P : Program) (f : FuncId) (fn : Func) (s : ChangeSpec) (c : OpenClaim) => (c.shortTexts.isNone : Bool)) Tryd.prog 6 Tryd.f6 (OpenSpec.ofChange Rows.keysCutsSpec).bare Rows.keysCutsRow = true := by kernel_rfl
theorem keysCuts_c28 : (fun (P : Program) (f : FuncId) (fn : Func) (s : ChangeSpec) (c : OpenClaim) => ((c.kinds == (if c.domain.isEmpty then [] else fn.params.toList.map fun t => match P.underlying t with | some (.int k) => some k | _ => none)) : Bool)) Tryd.prog 6 Tryd.f6 (OpenSpec.ofChange Rows.keysCutsSpec).bare Rows.keysCutsRow = true := by kernel_rfl
theorem keysCuts_c29 : (fun (P : Program) (f : FuncId) (fn : Func) (s : ChangeSpec) (c : OpenClaim) => ((c.pinned == c.pinnedBy) : Bool)) Tryd.prog 6 Tryd.f6 (OpenSpec.ofChange Rows.keysCutsSpec).bare Rows.keysCutsRow = true := by kernel_rfl
theorem keysCuts_c30 : (fun (P : Program) (f : FuncId) (fn : Func) (s : ChangeSpec) (c : OpenClaim) => ((c.veiled == (fn.params.toList ++ s.plain.varTypes P ++ fn.resultTypes.toList).any (P.veiledRec ·)) : Bool)) Tryd.prog 6 Tryd.f6 (OpenSpec.ofChange Rows.keysCutsSpec).bare Rows.keysCutsRow = true := by kernel_rfl
theorem keysCuts_c31 : (fun (P : Program) (f : FuncId) (fn : Func) (s : ChangeSpec) (c : OpenClaim) => (c.veiledFits P fn.params.toList (fn.params.toList ++ s.plain.varTypes P ++ fn.resultTypes.toList) : Bool)) Tryd.prog 6 Tryd.f6 (OpenSpec.ofChange Rows.keysCutsSpec).bare Rows.keysCutsRow = true := by kernel_rfl
theorem keysCuts_closed : joinedFacts Tryd.prog 6 Tryd.f6 (OpenSpec.ofChange Rows.keysCutsSpec).bare Rows.keysCutsRow = true := (and_t (and_t (and_t (and_t (and_t (and_t (and_t (and_t (and_t (and_t (and_t (and_t (and_t (and_t (and_t (and_t (and_t (and_t (and_t (and_t (and_t (and_t (and_t (and_t (and_t (and_t (and_t (and_t (and_t (and_t (and_t keysCuts_c0 laidOut) mapsRowed) keysCuts_c3) keysCuts_c4) keysCuts_c5) stops_nil) keysCuts_c7) stopKnobs_nil) keysCuts_c9) keysCuts_c10) keysCuts_c11) keysCuts_c12) keysCuts_c13) keysCuts_c14) keysCuts_c15) keysCuts_c16) keysCuts_c17) keysCuts_c18) keysCuts_c19) keysCuts_c20) keysCuts_c21) (by rw [plainKeys]; rfl)) keysCuts_c23) stopsHeard) mayEnter) (by rw [liftsFinal]; rfl)) (by rw [make_cut]; rfl)) keysCuts_c28) keysCuts_c29) keysCuts_c30) keysCuts_c31)

theorem keysCuts_contract (H : Type) (enc : TypeId × Value → H) (W : World) (base : Nat) (args : Array Value) (ds gs : List (DataW H)) (before : List MemPlace)
    (hval : ∀ (j : Nat) t v, Tryd.f6.params[j]? = some t → args[j]? = some v → Value.okWide Tryd.prog W .any base t v)
    (hW : DataW.Whole enc Tryd.prog Tryd.f6.params.toList Rows.keysCutsSpec.vars false W args.toList ds gs before) (hsz : (DataW.weightsEach Tryd.prog (Tryd.f6.params.toList ++ (OpenSpec.ofChange Rows.keysCutsSpec).bare.plain.varTypes Tryd.prog) (ds ++ gs)).all (· ≤ reachBytes) = true) (hL : laidMetH Tryd.prog Rows.keysCutsRow.laid W) (hO : W.ShapedOpen Tryd.prog) :
    Calls Tryd.prog 6 args W fun e W' => ∃ v, e = .returned v ∧ Rows.keysCutsSpec.post enc Tryd.prog Tryd.f6 false true false false W args v W' := by
  have hT : Eng.YtjkdkofpabocmaaDoor.Keyz W := keyz_of hL
  have hW' := hW
  obtain ⟨p, q, hA, hV, rfl, hfz, hnd⟩ := hW
  rw [Tryd.params6] at hA hval hsz
  obtain ⟨v0, v1, v2, d0, d1, d2, p0, p1, p2, rfl, rfl, rfl, h0, h1, h2⟩ := trodAll_three hA
  obtain ⟨rfl, rfl⟩ := trodVars_none hV
  obtain ⟨a0, rfl, rfl, rfl, w0⟩ := open_string Tryd.underlying9 (hval 0 9 v0 rfl rfl) h0
  have b0 : a0.data.toList.length ≤ 140737488355328 := reach_str (reach_of hsz 0 9 _ rfl rfl)
  obtain ⟨a1, rfl, rfl, rfl, w1⟩ := open_int Tryd.underlying3 (hval 1 3 v1 rfl rfl) h1
  have b1 : -9223372036854775808 ≤ a1 ∧ a1 ≤ 9223372036854775807 := by simpa [Lit.wf, IntKind.min, IntKind.max, IntKind.signed, IntKind.bits] using w1
  obtain ⟨a2, rfl, rfl, rfl⟩ := open_bool Tryd.underlying4 (hval 2 4 v2 rfl rfl) h2
  refine ((Eng.YtjkdkofpabocmaaDoor.keysCuts_ok W hT (max_of_rec hO) a0.data.toList b0 a1 b1 a2).law [.string a0, .int .i64 a1, .bool a2] rfl (fun i hi => ?_)).mono fun e W' ⟨he, hb⟩ => ⟨_, he, ?_⟩
  · match i, hi with
    | 0, _ => exact .str _
    | 1, _ => exact .int _ _
    | 2, _ => exact .bool _
  · exact law_post laidOut (by kernel_rfl) (by kernel_rfl) Tryd.underlying4 (by kernel_rfl) hW' rfl hb

theorem keysCuts_reads (os : Os) {H : Type} (enc : TypeId × Value → H) : ∃ places, DataW.whole enc Tryd.prog ((recsWorld os).forCall (fun _ _ => 0) ⟨#[], #[.string ⟨#[]⟩, .int .i64 0, .bool false], []⟩).memory Tryd.f6.params.toList Rows.keysCutsSpec.vars false (#[.string ⟨#[]⟩, .int .i64 0, .bool false] : Array Value).toList 8 = some ([.lit (.string []), .lit (.int .i64 0), .lit (.bool false)], [], places) :=
  ⟨[], by kernel_rfl⟩

theorem keysCuts_lifted (os : Os) (started : os.Started) (H : Type) (enc : TypeId × Value → H) (F : Stop.Interp) :
    ReturnsInHanded {} Tryd.checked os 6 .any ((OpenSpec.ofChange Rows.keysCutsSpec).preRow enc Tryd.prog Tryd.f6 Rows.keysCutsRow.domain false Rows.keysCutsRow.laid) (((OpenSpec.ofChange Rows.keysCutsSpec).at F).post enc Tryd.prog Tryd.f6 false true false false) := by
  obtain ⟨places, hx⟩ := keysCuts_reads os enc
  refine returnsInHanded_of_row (C := Tryd.checked) (s := (OpenSpec.ofChange Rows.keysCutsSpec)) own started (by as_aux_lemma => kernel_rfl) Tryd.func6
    (witness_row_at (enc := enc) (C := Tryd.checked) false (recsWorld os) #[.string ⟨#[]⟩, .int .i64 0, .bool false] rfl (by as_aux_lemma => kernel_rfl) (by as_aux_lemma => kernel_rfl) (by as_aux_lemma => kernel_rfl)
      (OpenSpec.preRow_of_cond 8 hx (by as_aux_lemma => kernel_rfl) (fun k hk => by cases hk) (by as_aux_lemma => kernel_rfl) (recs_met os _))) ?_
  intro W base args ds gs before hval hW _ _ hsz hL hO _
  exact keysCuts_contract H enc W base args ds gs before hval hW hsz hL hO

theorem keysCuts_said : Rows.KeysCutsSaid :=
  OpenClaim.holds_of_cond 6 Tryd.f6 rfl rfl rfl rfl rfl rfl rfl ⟨rfl, rfl, rfl, rfl, rfl⟩ rfl rfl rfl rfl rfl (by as_aux_lemma => kernel_rfl) Tryd.func6 keysCuts_closed
    (of_decide_eq_true (by as_aux_lemma => kernel_rfl)) (by unfold Func.isWrapper; rw [if_neg (of_decide_eq_false (by kernel_rfl))]; exact ⟨rfl, rfl⟩)
    (fun os started H enc _ F => by rw [OpenClaim.pre_eq_preRow]; exact keysCuts_lifted os started H enc F)

theorem keysCuts_plain (f : FuncId) (fn : Func) (hf : Tryd.pinned.checked.prog.funcNamed Rows.keysCutsRow.func = some f) (hfn : Tryd.pinned.checked.prog.funcs[f]? = some fn) :
    true = Tryd.pinned.checked.prog.looks [] ∧ ∀ (j : Nat) t, fn.params[j]? = some t → Tryd.pinned.checked.prog.wantsStandIn t = false := by
  obtain rfl : f = 6 := Option.some.inj ((show Tryd.prog.funcNamed Rows.keysCutsRow.func = some 6 by kernel_rfl).symm.trans hf) |>.symm
  obtain rfl : fn = Tryd.f6 := (Option.some.inj (Tryd.func6.symm.trans hfn)).symm
  refine ⟨looks.symm, fun j t ht => ?_⟩
  have hall : (Tryd.f6.params.toList.all fun t => !Tryd.prog.wantsStandIn t) = true := by kernel_rfl
  have := List.all_eq_true.1 hall t (Array.mem_toList_iff.2 (Array.mem_of_getElem? ht))
  show Tryd.prog.wantsStandIn t = false
  simpa using this

theorem keysCuts_card : Rows.KeysCutsCardSaid :=
  Claim7.holds_tied_plain_at .later [] _ _ _ _ keysCuts_said (fun _ h => by cases h) (by as_aux_lemma => kernel_rfl) (fun _ h => by cases h) keysCuts_row_tie rfl ⟨rfl, rfl⟩ main_is rfl keysCuts_plain (by as_aux_lemma => kernel_rfl)
end Go.Proofs.YtjkdkofpabocmaaDoor
