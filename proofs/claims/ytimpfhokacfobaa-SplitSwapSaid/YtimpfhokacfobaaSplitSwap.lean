/- Proved here: trellislaw.SplitSwap returns true at every split, two panes and a size, and each argument reads afterwards as before. The card's condition: none. -/
import Derived.Test.YtimpfhokacfobaaMC8
import Derived.Test.YtimpfhokacfobaaMSS2
set_option linter.unusedSimpArgs false
set_option maxRecDepth 100000
set_option linter.unusedVariables false
namespace Go.Proofs.Ytimpfhokacfobaa
open Go Go.Eng Go.ChangeShapes Go.WideShapes Go.ChangeAt Go.RowKit
open Go.ChangeMaps (open_string)

theorem splitSwap_c0 : (fun (P : Program) (f : FuncId) (fn : Func) (s : ChangeSpec) (c : OpenClaim) => (c.wf (OpenSpec.ofChange s) : Bool)) Try.prog 3 Try.f3 (OpenSpec.ofChange Rows.splitSwapSpec).bare Rows.splitSwapRow = true := by kernel_rfl
theorem splitSwap_c3 : (fun (P : Program) (f : FuncId) (fn : Func) (s : ChangeSpec) (c : OpenClaim) => (fn.params.all (P.readableRec ·) : Bool)) Try.prog 3 Try.f3 (OpenSpec.ofChange Rows.splitSwapSpec).bare Rows.splitSwapRow = true := by kernel_rfl
theorem splitSwap_c4 : (fun (P : Program) (f : FuncId) (fn : Func) (s : ChangeSpec) (c : OpenClaim) => (namedTie P c.named s.vars : Bool)) Try.prog 3 Try.f3 (OpenSpec.ofChange Rows.splitSwapSpec).bare Rows.splitSwapRow = true := by kernel_rfl
theorem splitSwap_c5 : (fun (P : Program) (f : FuncId) (fn : Func) (s : ChangeSpec) (c : OpenClaim) => ((c.stops == []) : Bool)) Try.prog 3 Try.f3 (OpenSpec.ofChange Rows.splitSwapSpec).bare Rows.splitSwapRow = true := by kernel_rfl
theorem splitSwap_c7 : (fun (P : Program) (f : FuncId) (fn : Func) (s : ChangeSpec) (c : OpenClaim) => ((c.knobs == []) : Bool)) Try.prog 3 Try.f3 (OpenSpec.ofChange Rows.splitSwapSpec).bare Rows.splitSwapRow = true := by kernel_rfl
theorem splitSwap_c9 : (fun (P : Program) (f : FuncId) (fn : Func) (s : ChangeSpec) (c : OpenClaim) => ((c.inPlace == P.inPlace f) : Bool)) Try.prog 3 Try.f3 (OpenSpec.ofChange Rows.splitSwapSpec).bare Rows.splitSwapRow = true := by kernel_rfl
theorem splitSwap_c10 : (fun (P : Program) (f : FuncId) (fn : Func) (s : ChangeSpec) (c : OpenClaim) => ((c.unfollowed == P.unfollowed f) : Bool)) Try.prog 3 Try.f3 (OpenSpec.ofChange Rows.splitSwapSpec).bare Rows.splitSwapRow = true := by kernel_rfl
theorem splitSwap_c11 : (fun (P : Program) (f : FuncId) (fn : Func) (s : ChangeSpec) (c : OpenClaim) => ((c.recurses == P.recurses f) : Bool)) Try.prog 3 Try.f3 (OpenSpec.ofChange Rows.splitSwapSpec).bare Rows.splitSwapRow = true := by kernel_rfl
theorem splitSwap_c12 : (fun (P : Program) (f : FuncId) (fn : Func) (s : ChangeSpec) (c : OpenClaim) => ((c.named == P.varsNamed f) : Bool)) Try.prog 3 Try.f3 (OpenSpec.ofChange Rows.splitSwapSpec).bare Rows.splitSwapRow = true := by kernel_rfl
theorem splitSwap_c13 : (fun (P : Program) (f : FuncId) (fn : Func) (s : ChangeSpec) (c : OpenClaim) => ((c.maps == (fn.params.toList ++ s.plain.varTypes P).any (P.mapsRec ·)) : Bool)) Try.prog 3 Try.f3 (OpenSpec.ofChange Rows.splitSwapSpec).bare Rows.splitSwapRow = true := by kernel_rfl
theorem splitSwap_c14 : (fun (P : Program) (f : FuncId) (fn : Func) (s : ChangeSpec) (c : OpenClaim) => ((c.ifaces == (fn.params.toList ++ s.plain.varTypes P).any (P.ifacesRec ·)) : Bool)) Try.prog 3 Try.f3 (OpenSpec.ofChange Rows.splitSwapSpec).bare Rows.splitSwapRow = true := by kernel_rfl
theorem splitSwap_c15 : (fun (P : Program) (f : FuncId) (fn : Func) (s : ChangeSpec) (c : OpenClaim) => ((c.mapsOut == P.mapsAmong fn.resultTypes.toList) : Bool)) Try.prog 3 Try.f3 (OpenSpec.ofChange Rows.splitSwapSpec).bare Rows.splitSwapRow = true := by kernel_rfl
theorem splitSwap_c16 : (fun (P : Program) (f : FuncId) (fn : Func) (s : ChangeSpec) (c : OpenClaim) => ((c.loops == (fn.params.toList ++ s.plain.varTypes P).any (P.loopsFrom ·)) : Bool)) Try.prog 3 Try.f3 (OpenSpec.ofChange Rows.splitSwapSpec).bare Rows.splitSwapRow = true := by kernel_rfl
theorem splitSwap_c17 : (fun (P : Program) (f : FuncId) (fn : Func) (s : ChangeSpec) (c : OpenClaim) => ((c.wideKeys == (fn.params.toList ++ s.plain.varTypes P ++ fn.resultTypes.toList).any (P.wideKeysFrom ·)) : Bool)) Try.prog 3 Try.f3 (OpenSpec.ofChange Rows.splitSwapSpec).bare Rows.splitSwapRow = true := by kernel_rfl
theorem splitSwap_c18 : (fun (P : Program) (f : FuncId) (fn : Func) (s : ChangeSpec) (c : OpenClaim) => (s.vars.all (P.varReadable ·) : Bool)) Try.prog 3 Try.f3 (OpenSpec.ofChange Rows.splitSwapSpec).bare Rows.splitSwapRow = true := by kernel_rfl
theorem splitSwap_c19 : (fun (P : Program) (f : FuncId) (fn : Func) (s : ChangeSpec) (c : OpenClaim) => (fn.resultTypes.all (fun t => P.readableRec t && decide (t < P.types.size)) : Bool)) Try.prog 3 Try.f3 (OpenSpec.ofChange Rows.splitSwapSpec).bare Rows.splitSwapRow = true := by kernel_rfl
theorem splitSwap_c20 : (fun (P : Program) (f : FuncId) (fn : Func) (s : ChangeSpec) (c : OpenClaim) => ((c.ifacesOut == fn.resultTypes.toList.any (P.ifacesRec ·)) : Bool)) Try.prog 3 Try.f3 (OpenSpec.ofChange Rows.splitSwapSpec).bare Rows.splitSwapRow = true := by kernel_rfl
theorem splitSwap_c21 : (fun (P : Program) (f : FuncId) (fn : Func) (s : ChangeSpec) (c : OpenClaim) => ((c.loopsOut == fn.resultTypes.toList.any (P.loopsFrom ·)) : Bool)) Try.prog 3 Try.f3 (OpenSpec.ofChange Rows.splitSwapSpec).bare Rows.splitSwapRow = true := by kernel_rfl
theorem splitSwap_c23 : (fun (P : Program) (f : FuncId) (fn : Func) (s : ChangeSpec) (c : OpenClaim) => (c.shortTexts.isNone : Bool)) Try.prog 3 Try.f3 (OpenSpec.ofChange Rows.splitSwapSpec).bare Rows.splitSwapRow = true := by kernel_rfl
theorem splitSwap_c28 : (fun (P : Program) (f : FuncId) (fn : Func) (s : ChangeSpec) (c : OpenClaim) => ((c.kinds == (if c.domain.isEmpty then [] else fn.params.toList.map fun t => match P.underlying t with | some (.int k) => some k | _ => none)) : Bool)) Try.prog 3 Try.f3 (OpenSpec.ofChange Rows.splitSwapSpec).bare Rows.splitSwapRow = true := by kernel_rfl
theorem splitSwap_c29 : (fun (P : Program) (f : FuncId) (fn : Func) (s : ChangeSpec) (c : OpenClaim) => ((c.pinned == c.pinnedBy) : Bool)) Try.prog 3 Try.f3 (OpenSpec.ofChange Rows.splitSwapSpec).bare Rows.splitSwapRow = true := by kernel_rfl
theorem splitSwap_c30 : (fun (P : Program) (f : FuncId) (fn : Func) (s : ChangeSpec) (c : OpenClaim) => ((c.veiled == (fn.params.toList ++ s.plain.varTypes P ++ fn.resultTypes.toList).any (P.veiledRec ·)) : Bool)) Try.prog 3 Try.f3 (OpenSpec.ofChange Rows.splitSwapSpec).bare Rows.splitSwapRow = true := by kernel_rfl
theorem splitSwap_c31 : (fun (P : Program) (f : FuncId) (fn : Func) (s : ChangeSpec) (c : OpenClaim) => (c.veiledFits P fn.params.toList (fn.params.toList ++ s.plain.varTypes P ++ fn.resultTypes.toList) : Bool)) Try.prog 3 Try.f3 (OpenSpec.ofChange Rows.splitSwapSpec).bare Rows.splitSwapRow = true := by kernel_rfl
theorem splitSwap_closed : joinedFacts Try.prog 3 Try.f3 (OpenSpec.ofChange Rows.splitSwapSpec).bare Rows.splitSwapRow = true := (and_t (and_t (and_t (and_t (and_t (and_t (and_t (and_t (and_t (and_t (and_t (and_t (and_t (and_t (and_t (and_t (and_t (and_t (and_t (and_t (and_t (and_t (and_t (and_t (and_t (and_t (and_t (and_t (and_t (and_t (and_t splitSwap_c0 laidOut) mapsRowed) splitSwap_c3) splitSwap_c4) splitSwap_c5) stops_nil) splitSwap_c7) stopKnobs_nil) splitSwap_c9) splitSwap_c10) splitSwap_c11) splitSwap_c12) splitSwap_c13) splitSwap_c14) splitSwap_c15) splitSwap_c16) splitSwap_c17) splitSwap_c18) splitSwap_c19) splitSwap_c20) splitSwap_c21) (by rw [plainKeys]; rfl)) splitSwap_c23) stopsHeard) mayEnter) (by rw [liftsFinal]; rfl)) (by rw [make_cut]; rfl)) splitSwap_c28) splitSwap_c29) splitSwap_c30) splitSwap_c31)

theorem splitSwap_contract (H : Type) (enc : TypeId × Value → H) (W : World) (base : Nat) (args : Array Value) (ds gs : List (DataW H)) (before : List MemPlace)
    (hval : ∀ (j : Nat) t v, Try.f3.params[j]? = some t → args[j]? = some v → Value.okWide Try.prog W .any base t v)
    (hW : DataW.Whole enc Try.prog Try.f3.params.toList Rows.splitSwapSpec.vars false W args.toList ds gs before) (hsz : (DataW.weightsEach Try.prog (Try.f3.params.toList ++ (OpenSpec.ofChange Rows.splitSwapSpec).bare.plain.varTypes Try.prog) (ds ++ gs)).all (· ≤ reachBytes) = true) (hL : laidMetH Try.prog Rows.splitSwapRow.laid W) :
    Calls Try.prog 3 args W fun e W' => ∃ v, e = .returned v ∧ Rows.splitSwapSpec.post enc Try.prog Try.f3 false true false false W args v W' := by
  have hT : Eng.Ytimpfhokacfobaa.Free W := free_of hL
  have hW' := hW
  obtain ⟨p, q, hA, hV, rfl, hfz, hnd⟩ := hW
  rw [Try.params3] at hA hval hsz
  obtain ⟨v0, v1, v2, v3, d0, d1, d2, d3, p0, p1, p2, p3, rfl, rfl, rfl, h0, h1, h2, h3⟩ := trodAll_four hA
  obtain ⟨rfl, rfl⟩ := trodVars_none hV
  obtain ⟨n0, t0⟩ := h0
  obtain ⟨a0, b0, l0, f0, k0⟩ := opens_split.opens enc W n0 _ _ t0
  have r0 := vrel_split (show Try.prog.underlying 24 = _ from Try.underlying24) (hval 0 24 v0 rfl rfl) l0
  replace f0 := f0 (reach_of hsz 0 24 _ rfl rfl)
  obtain ⟨a1, rfl, rfl, rfl, w1⟩ := open_int Try.underlying3 (hval 1 3 v1 rfl rfl) h1
  have b1 : -9223372036854775808 ≤ a1 ∧ a1 ≤ 9223372036854775807 := by simpa [Lit.wf, IntKind.min, IntKind.max, IntKind.signed, IntKind.bits] using w1
  obtain ⟨a2, rfl, rfl, rfl, w2⟩ := open_int Try.underlying3 (hval 2 3 v2 rfl rfl) h2
  have b2 : -9223372036854775808 ≤ a2 ∧ a2 ≤ 9223372036854775807 := by simpa [Lit.wf, IntKind.min, IntKind.max, IntKind.signed, IntKind.bits] using w2
  obtain ⟨a3, rfl, rfl, rfl, w3⟩ := open_int Try.underlying3 (hval 3 3 v3 rfl rfl) h3
  have b3 : -9223372036854775808 ≤ a3 ∧ a3 ≤ 9223372036854775807 := by simpa [Lit.wf, IntKind.min, IntKind.max, IntKind.signed, IntKind.bits] using w3
  refine ((Eng.Ytimpfhokacfobaa.splitSwap_ok W hT a0 f0 a1 b1 a2 b2 a3 b3).law [v0, .int .i64 a1, .int .i64 a2, .int .i64 a3] rfl (fun i hi => ?_)).mono fun e W' ⟨he, hb⟩ => ⟨_, he, ?_⟩
  · match i, hi with
    | 0, _ => exact r0
    | 1, _ => exact .int _ _
    | 2, _ => exact .int _ _
    | 3, _ => exact .int _ _
  · exact law_post laidOut (by kernel_rfl) (by kernel_rfl) Try.underlying4 (by kernel_rfl) hW' rfl hb

theorem splitSwap_reads (os : Os) {H : Type} (enc : TypeId × Value → H) : ∃ places, DataW.whole enc Try.prog ((noWorld os).forCall (fun _ _ => 0) ⟨#[], #[.agg #[.int .i64 0, .int .i64 0, .int .i64 0, .slice none 0 0], .int .i64 0, .int .i64 0, .int .i64 0], []⟩).memory Try.f3.params.toList Rows.splitSwapSpec.vars false (#[.agg #[.int .i64 0, .int .i64 0, .int .i64 0, .slice none 0 0], .int .i64 0, .int .i64 0, .int .i64 0] : Array Value).toList 8 = some ([.agg [.lit (.int .i64 0), .lit (.int .i64 0), .lit (.int .i64 0), .nil], .lit (.int .i64 0), .lit (.int .i64 0), .lit (.int .i64 0)], [], places) :=
  ⟨[], by kernel_rfl⟩

theorem splitSwap_lifted (os : Os) (started : os.Started) (H : Type) (enc : TypeId × Value → H) (F : Stop.Interp) :
    ReturnsInHanded {} Try.checked os 3 .any ((OpenSpec.ofChange Rows.splitSwapSpec).preRow enc Try.prog Try.f3 Rows.splitSwapRow.domain false Rows.splitSwapRow.laid) (((OpenSpec.ofChange Rows.splitSwapSpec).at F).post enc Try.prog Try.f3 false true false false) := by
  obtain ⟨places, hx⟩ := splitSwap_reads os enc
  refine returnsInHanded_of_row (C := Try.checked) (s := (OpenSpec.ofChange Rows.splitSwapSpec)) own started (by as_aux_lemma => kernel_rfl) Try.func3
    (witness_row_at (enc := enc) (C := Try.checked) false (noWorld os) #[.agg #[.int .i64 0, .int .i64 0, .int .i64 0, .slice none 0 0], .int .i64 0, .int .i64 0, .int .i64 0] rfl (by as_aux_lemma => kernel_rfl) (by as_aux_lemma => kernel_rfl) (by as_aux_lemma => kernel_rfl)
      (OpenSpec.preRow_of_cond 8 hx (by as_aux_lemma => kernel_rfl) (fun k hk => by cases hk) (by as_aux_lemma => kernel_rfl) (no_met os _))) ?_
  intro W base args ds gs before hval hW _ _ hsz hL _ _
  exact splitSwap_contract H enc W base args ds gs before hval hW hsz hL

theorem splitSwap_said : Rows.SplitSwapSaid :=
  OpenClaim.holds_of_cond 3 Try.f3 rfl rfl rfl rfl rfl rfl rfl ⟨rfl, rfl, rfl, rfl, rfl⟩ rfl rfl rfl rfl rfl (by as_aux_lemma => kernel_rfl) Try.func3 splitSwap_closed
    (of_decide_eq_true (by as_aux_lemma => kernel_rfl)) (by unfold Func.isWrapper; rw [if_neg (of_decide_eq_false (by kernel_rfl))]; exact ⟨rfl, rfl⟩)
    (fun os started H enc _ F => by rw [OpenClaim.pre_eq_preRow]; exact splitSwap_lifted os started H enc F)

end Go.Proofs.Ytimpfhokacfobaa
