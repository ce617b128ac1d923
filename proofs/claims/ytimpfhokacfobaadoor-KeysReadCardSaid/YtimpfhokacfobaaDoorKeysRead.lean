/- Proved here: trellislaw.KeysRead returns true at all bytes, last and not, and each argument reads afterwards as before. The card's condition: the tables of math/bits, strconv and unicode/utf8 and the two errors of package strconv hold what the program's text lays. -/
import Derived.Test.YtimpfhokacfobaaDoorMC10
import Derived.Test.YtimpfhokacfobaaDoorMKY14
set_option linter.unusedSimpArgs false
set_option maxRecDepth 100000
set_option linter.unusedVariables false
namespace Go.Proofs.YtimpfhokacfobaaDoor
open Go Go.Eng Go.ChangeShapes Go.WideShapes Go.ChangeAt Go.RowKit
open Go.ChangeMaps (open_string)

theorem keysRead_c0 : (fun (P : Program) (f : FuncId) (fn : Func) (s : ChangeSpec) (c : OpenClaim) => (c.wf (OpenSpec.ofChange s) : Bool)) Tryd.prog 4 Tryd.f4 (OpenSpec.ofChange Rows.keysReadSpec).bare Rows.keysReadRow = true := by kernel_rfl
theorem keysRead_c3 : (fun (P : Program) (f : FuncId) (fn : Func) (s : ChangeSpec) (c : OpenClaim) => (fn.params.all (P.readableRec ·) : Bool)) Tryd.prog 4 Tryd.f4 (OpenSpec.ofChange Rows.keysReadSpec).bare Rows.keysReadRow = true := by kernel_rfl
theorem keysRead_c4 : (fun (P : Program) (f : FuncId) (fn : Func) (s : ChangeSpec) (c : OpenClaim) => (namedTie P c.named s.vars : Bool)) Tryd.prog 4 Tryd.f4 (OpenSpec.ofChange Rows.keysReadSpec).bare Rows.keysReadRow = true := by kernel_rfl
theorem keysRead_c5 : (fun (P : Program) (f : FuncId) (fn : Func) (s : ChangeSpec) (c : OpenClaim) => ((c.stops == []) : Bool)) Tryd.prog 4 Tryd.f4 (OpenSpec.ofChange Rows.keysReadSpec).bare Rows.keysReadRow = true := by kernel_rfl
theorem keysRead_c7 : (fun (P : Program) (f : FuncId) (fn : Func) (s : ChangeSpec) (c : OpenClaim) => ((c.knobs == []) : Bool)) Tryd.prog 4 Tryd.f4 (OpenSpec.ofChange Rows.keysReadSpec).bare Rows.keysReadRow = true := by kernel_rfl
theorem keysRead_c9 : (fun (P : Program) (f : FuncId) (fn : Func) (s : ChangeSpec) (c : OpenClaim) => ((c.inPlace == P.inPlace f) : Bool)) Tryd.prog 4 Tryd.f4 (OpenSpec.ofChange Rows.keysReadSpec).bare Rows.keysReadRow = true := by kernel_rfl
theorem keysRead_c10 : (fun (P : Program) (f : FuncId) (fn : Func) (s : ChangeSpec) (c : OpenClaim) => ((c.unfollowed == P.unfollowed f) : Bool)) Tryd.prog 4 Tryd.f4 (OpenSpec.ofChange Rows.keysReadSpec).bare Rows.keysReadRow = true := by kernel_rfl
theorem keysRead_c11 : (fun (P : Program) (f : FuncId) (fn : Func) (s : ChangeSpec) (c : OpenClaim) => ((c.recurses == P.recurses f) : Bool)) Tryd.prog 4 Tryd.f4 (OpenSpec.ofChange Rows.keysReadSpec).bare Rows.keysReadRow = true := by kernel_rfl
theorem keysRead_c12 : (fun (P : Program) (f : FuncId) (fn : Func) (s : ChangeSpec) (c : OpenClaim) => ((c.named == P.varsNamed f) : Bool)) Tryd.prog 4 Tryd.f4 (OpenSpec.ofChange Rows.keysReadSpec).bare Rows.keysReadRow = true := by kernel_rfl
theorem keysRead_c13 : (fun (P : Program) (f : FuncId) (fn : Func) (s : ChangeSpec) (c : OpenClaim) => ((c.maps == (fn.params.toList ++ s.plain.varTypes P).any (P.mapsRec ·)) : Bool)) Tryd.prog 4 Tryd.f4 (OpenSpec.ofChange Rows.keysReadSpec).bare Rows.keysReadRow = true := by kernel_rfl
theorem keysRead_c14 : (fun (P : Program) (f : FuncId) (fn : Func) (s : ChangeSpec) (c : OpenClaim) => ((c.ifaces == (fn.params.toList ++ s.plain.varTypes P).any (P.ifacesRec ·)) : Bool)) Tryd.prog 4 Tryd.f4 (OpenSpec.ofChange Rows.keysReadSpec).bare Rows.keysReadRow = true := by kernel_rfl
theorem keysRead_c15 : (fun (P : Program) (f : FuncId) (fn : Func) (s : ChangeSpec) (c : OpenClaim) => ((c.mapsOut == P.mapsAmong fn.resultTypes.toList) : Bool)) Tryd.prog 4 Tryd.f4 (OpenSpec.ofChange Rows.keysReadSpec).bare Rows.keysReadRow = true := by kernel_rfl
theorem keysRead_c16 : (fun (P : Program) (f : FuncId) (fn : Func) (s : ChangeSpec) (c : OpenClaim) => ((c.loops == (fn.params.toList ++ s.plain.varTypes P).any (P.loopsFrom ·)) : Bool)) Tryd.prog 4 Tryd.f4 (OpenSpec.ofChange Rows.keysReadSpec).bare Rows.keysReadRow = true := by kernel_rfl
theorem keysRead_c17 : (fun (P : Program) (f : FuncId) (fn : Func) (s : ChangeSpec) (c : OpenClaim) => ((c.wideKeys == (fn.params.toList ++ s.plain.varTypes P ++ fn.resultTypes.toList).any (P.wideKeysFrom ·)) : Bool)) Tryd.prog 4 Tryd.f4 (OpenSpec.ofChange Rows.keysReadSpec).bare Rows.keysReadRow = true := by kernel_rfl
theorem keysRead_c18 : (fun (P : Program) (f : FuncId) (fn : Func) (s : ChangeSpec) (c : OpenClaim) => (s.vars.all (P.varReadable ·) : Bool)) Tryd.prog 4 Tryd.f4 (OpenSpec.ofChange Rows.keysReadSpec).bare Rows.keysReadRow = true := by kernel_rfl
theorem keysRead_c19 : (fun (P : Program) (f : FuncId) (fn : Func) (s : ChangeSpec) (c : OpenClaim) => (fn.resultTypes.all (fun t => P.readableRec t && decide (t < P.types.size)) : Bool)) Tryd.prog 4 Tryd.f4 (OpenSpec.ofChange Rows.keysReadSpec).bare Rows.keysReadRow = true := by kernel_rfl
theorem keysRead_c20 : (fun (P : Program) (f : FuncId) (fn : Func) (s : ChangeSpec) (c : OpenClaim) => ((c.ifacesOut == fn.resultTypes.toList.any (P.ifacesRec ·)) : Bool)) Tryd.prog 4 Tryd.f4 (OpenSpec.ofChange Rows.keysReadSpec).bare Rows.keysReadRow = true := by kernel_rfl
theorem keysRead_c21 : (fun (P : Program) (f : FuncId) (fn : Func) (s : ChangeSpec) (c : OpenClaim) => ((c.loopsOut == fn.resultTypes.toList.any (P.loopsFrom ·)) : Bool)) Tryd.prog 4 Tryd.f4 (OpenSpec.ofChange Rows.keysReadSpec).bare Rows.keysReadRow = true := by kernel_rfl
theorem keysRead_c23 : (fun (P : Program) (f : FuncId) (fn : Func) (s : ChangeSpec) (c : OpenClaim) => (c.shortTexts.isNone : Bool)) Tryd.prog 4 Tryd.f4 (OpenSpec.ofChange Rows.keysReadSpec).bare Rows.keysReadRow = true := by kernel_rfl
theorem keysRead_c28 : (fun (P : Program) (f : FuncId) (fn : Func) (s : ChangeSpec) (c : OpenClaim) => ((c.kinds == (if c.domain.isEmpty then [] else fn.params.toList.map fun t => match P.underlying t with | some (.int k) => some k | _ => none)) : Bool)) Tryd.prog 4 Tryd.f4 (OpenSpec.ofChange Rows.keysReadSpec).bare Rows.keysReadRow = true := by kernel_rfl
theorem keysRead_c29 : (fun (P : Program) (f : FuncId) (fn : Func) (s : ChangeSpec) (c : OpenClaim) => ((c.pinned == c.pinnedBy) : Bool)) Tryd.prog 4 Tryd.f4 (OpenSpec.ofChange Rows.keysReadSpec).bare Rows.keysReadRow = true := by kernel_rfl
theorem keysRead_c30 : (fun (P : Program) (f : FuncId) (fn : Func) (s : ChangeSpec) (c : OpenClaim) => ((c.veiled == (fn.params.toList ++ s.plain.varTypes P ++ fn.resultTypes.toList).any (P.veiledRec ·)) : Bool)) Tryd.prog 4 Tryd.f4 (OpenSpec.ofChange Rows.keysReadSpec).bare Rows.keysReadRow = true := by kernel_rfl
theorem keysRead_c31 : (fun (P : Program) (f : FuncId) (fn : Func) (s : ChangeSpec) (c : OpenClaim) => (c.veiledFits P fn.params.toList (fn.params.toList ++ s.plain.varTypes P ++ fn.resultTypes.toList) : Bool)) Tryd.prog 4 Tryd.f4 (OpenSpec.ofChange Rows.keysReadSpec).bare Rows.keysReadRow = true := by kernel_rfl
theorem keysRead_closed : joinedFacts Tryd.prog 4 Tryd.f4 (OpenSpec.ofChange Rows.keysReadSpec).bare Rows.keysReadRow = true := (and_t (and_t (and_t (and_t (and_t (and_t (and_t (and_t (and_t (and_t (and_t (and_t (and_t (and_t (and_t (and_t (and_t (and_t (and_t (and_t (and_t (and_t (and_t (and_t (and_t (and_t (and_t (and_t (and_t (and_t (and_t keysRead_c0 laidOut) mapsRowed) keysRead_c3) keysRead_c4) keysRead_c5) stops_nil) keysRead_c7) stopKnobs_nil) keysRead_c9) keysRead_c10) keysRead_c11) keysRead_c12) keysRead_c13) keysRead_c14) keysRead_c15) keysRead_c16) keysRead_c17) keysRead_c18) keysRead_c19) keysRead_c20) keysRead_c21) (by rw [plainKeys]; rfl)) keysRead_c23) stopsHeard) mayEnter) (by rw [liftsFinal]; rfl)) (by rw [make_cut]; rfl)) keysRead_c28) keysRead_c29) keysRead_c30) keysRead_c31)

theorem keysRead_contract (H : Type) (enc : TypeId × Value → H) (W : World) (base : Nat) (args : Array Value) (ds gs : List (DataW H)) (before : List MemPlace)
    (hval : ∀ (j : Nat) t v, Tryd.f4.params[j]? = some t → args[j]? = some v → Value.okWide Tryd.prog W .any base t v)
    (hW : DataW.Whole enc Tryd.prog Tryd.f4.params.toList Rows.keysReadSpec.vars false W args.toList ds gs before) (hsz : (DataW.weightsEach Tryd.prog (Tryd.f4.params.toList ++ (OpenSpec.ofChange Rows.keysReadSpec).bare.plain.varTypes Tryd.prog) (ds ++ gs)).all (· ≤ reachBytes) = true) (hL : laidMetH Tryd.prog Rows.keysReadRow.laid W) (hO : W.ShapedOpen Tryd.prog) :
    Calls Tryd.prog 4 args W fun e W' => ∃ v, e = .returned v ∧ Rows.keysReadSpec.post enc Tryd.prog Tryd.f4 false true false false W args v W' := by
  have hT : Eng.YtimpfhokacfobaaDoor.Keyz W := keyz_of hL
  have hW' := hW
  obtain ⟨p, q, hA, hV, rfl, hfz, hnd⟩ := hW
  rw [Tryd.params4] at hA hval hsz
  obtain ⟨v0, v1, d0, d1, p0, p1, rfl, rfl, rfl, h0, h1⟩ := trodAll_two hA
  obtain ⟨rfl, rfl⟩ := trodVars_none hV
  obtain ⟨a0, rfl, rfl, rfl, w0⟩ := open_string Tryd.underlying9 (hval 0 9 v0 rfl rfl) h0
  have b0 : a0.data.toList.length ≤ 140737488355328 := reach_str (reach_of hsz 0 9 _ rfl rfl)
  obtain ⟨a1, rfl, rfl, rfl⟩ := open_bool Tryd.underlying4 (hval 1 4 v1 rfl rfl) h1
  refine ((Eng.YtimpfhokacfobaaDoor.keysRead_ok W hT (max_of_rec hO) a0.data.toList b0 a1).law [.string a0, .bool a1] rfl (fun i hi => ?_)).mono fun e W' ⟨he, hb⟩ => ⟨_, he, ?_⟩
  · match i, hi with
    | 0, _ => exact .str _
    | 1, _ => exact .bool _
  · exact law_post laidOut (by kernel_rfl) (by kernel_rfl) Tryd.underlying4 (by kernel_rfl) hW' rfl hb

theorem keysRead_reads (os : Os) {H : Type} (enc : TypeId × Value → H) : ∃ places, DataW.whole enc Tryd.prog ((recsWorld os).forCall (fun _ _ => 0) ⟨#[], #[.string ⟨#[]⟩, .bool false], []⟩).memory Tryd.f4.params.toList Rows.keysReadSpec.vars false (#[.string ⟨#[]⟩, .bool false] : Array Value).toList 8 = some ([.lit (.string []), .lit (.bool false)], [], places) :=
  ⟨[], by kernel_rfl⟩

theorem keysRead_lifted (os : Os) (started : os.Started) (H : Type) (enc : TypeId × Value → H) (F : Stop.Interp) :
    ReturnsInHanded {} Tryd.checked os 4 .any ((OpenSpec.ofChange Rows.keysReadSpec).preRow enc Tryd.prog Tryd.f4 Rows.keysReadRow.domain false Rows.keysReadRow.laid) (((OpenSpec.ofChange Rows.keysReadSpec).at F).post enc Tryd.prog Tryd.f4 false true false false) := by
  obtain ⟨places, hx⟩ := keysRead_reads os enc
  refine returnsInHanded_of_row (C := Tryd.checked) (s := (OpenSpec.ofChange Rows.keysReadSpec)) own started (by as_aux_lemma => kernel_rfl) Tryd.func4
    (witness_row_at (enc := enc) (C := Tryd.checked) false (recsWorld os) #[.string ⟨#[]⟩, .bool false] rfl (by as_aux_lemma => kernel_rfl) (by as_aux_lemma => kernel_rfl) (by as_aux_lemma => kernel_rfl)
      (OpenSpec.preRow_of_cond 8 hx (by as_aux_lemma => kernel_rfl) (fun k hk => by cases hk) (by as_aux_lemma => kernel_rfl) (recs_met os _))) ?_
  intro W base args ds gs before hval hW _ _ hsz hL hO _
  exact keysRead_contract H enc W base args ds gs before hval hW hsz hL hO

theorem keysRead_said : Rows.KeysReadSaid :=
  OpenClaim.holds_of_cond 4 Tryd.f4 rfl rfl rfl rfl rfl rfl rfl ⟨rfl, rfl, rfl, rfl, rfl⟩ rfl rfl rfl rfl rfl (by as_aux_lemma => kernel_rfl) Tryd.func4 keysRead_closed
    (of_decide_eq_true (by as_aux_lemma => kernel_rfl)) (by unfold Func.isWrapper; rw [if_neg (of_decide_eq_false (by kernel_rfl))]; exact ⟨rfl, rfl⟩)
    (fun os started H enc _ F => by rw [OpenClaim.pre_eq_preRow]; exact keysRead_lifted os started H enc F)

theorem keysRead_plain (f : FuncId) (fn : Func) (hf : Tryd.pinned.checked.prog.funcNamed Rows.keysReadRow.func = some f) (hfn : Tryd.pinned.checked.prog.funcs[f]? = some fn) :
    true = Tryd.pinned.checked.prog.looks [] ∧ ∀ (j : Nat) t, fn.params[j]? = some t → Tryd.pinned.checked.prog.wantsStandIn t = false := by
  obtain rfl : f = 4 := Option.some.inj ((show Tryd.prog.funcNamed Rows.keysReadRow.func = some 4 by kernel_rfl).symm.trans hf) |>.symm
  obtain rfl : fn = Tryd.f4 := (Option.some.inj (Tryd.func4.symm.trans hfn)).symm
  refine ⟨looks.symm, fun j t ht => ?_⟩
  have hall : (Tryd.f4.params.toList.all fun t => !Tryd.prog.wantsStandIn t) = true := by kernel_rfl
  have := List.all_eq_true.1 hall t (Array.mem_toList_iff.2 (Array.mem_of_getElem? ht))
  show Tryd.prog.wantsStandIn t = false
  simpa using this

theorem keysRead_card : Rows.KeysReadCardSaid :=
  Claim7.holds_tied_plain_at .later [] _ _ _ _ keysRead_said (fun _ h => by cases h) (by as_aux_lemma => kernel_rfl) (fun _ h => by cases h) keysRead_row_tie rfl ⟨rfl, rfl⟩ main_is rfl keysRead_plain (by as_aux_lemma => kernel_rfl)
end Go.Proofs.YtimpfhokacfobaaDoor
