/- The engine, part 13: from a contract to what a law's statement asks. -/
import Derived.Test.YtlfdmdhkbillpaaDoorEng12
import Derived.WalkKit
import Derived.ProofKit
import Derived.OpenShut
namespace Go.Eng
open Go Go.ChangeShapes Go.WideShapes Go.RowKit

/-- All that was there at the start. -/
def oldK (w : World) : Kn := fun b _ => b < w.heap.size

/-- A law's contract as a call. -/
theorem Pure.law {P : Program} {W : World} {f : FuncId} {pvs : List PV} {b : Bool} (h : Pure P W f pvs (.bool b)) (vs : List Value) (hl : pvs.length = vs.length)
    (hr : ∀ i, i < pvs.length → VRel (oldK W) W (pvs.getD i .dead) (vs.getD i undef)) :
    Calls P f vs.toArray W fun e w' => e = .returned (.bool b) ∧ Below W.heap.size W w' := by
  refine (h.calls.run (oldK W) W vs hl hr ⟨fun _ _ h => h, by simp, fun k hk => by cases hk⟩ ⟨Nat.le_refl _, fun _ _ => rfl, fun k hk => by cases hk⟩).mono ?_
  rintro e w' ⟨v, pv, σ', K', h2, rfl, h4, h5, h6⟩
  cases h4
  exact ⟨h2, h6.os, h6.tape, h6.output, h6.size, fun k hk => h6.keep k hk (fun k0 h0 => by cases h0)⟩

section
variable {H : Type} {enc : TypeId × Value → H} {P : Program}
theorem trodAll_stays (hl : laidOutB P = true) {W W' : World} {sp' : Nat → Bool} : ∀ {ts : List TypeId} {vs : List Value} {ds : List (DataW H)} {ps : List MemPlace},
    (ts.all fun t => P.readableRec t && decide (t < P.types.size)) = true → DataW.TrodAll enc P W 0 (fun _ => true) true ts vs ds ps → (∀ p ∈ ps, W.sameAt W' p) → (∀ p ∈ ps, sp' p.block = true) →
    DataW.TrodAll enc P W' 0 sp' true ts vs ds ps
  | [], _, _, _, _, h, _, _ => by
    obtain ⟨rfl, rfl, rfl⟩ := trodAll_nil h
    exact trodAll_mk0
  | t :: ts, vs, ds, ps, ht, h, hw, hs => by
    obtain ⟨v, vs1, d, ds1, a, b, rfl, rfl, rfl, h1, h2⟩ := trodAll_cons h
    simp only [List.all_cons, Bool.and_eq_true, decide_eq_true_eq] at ht
    exact ⟨a, b, WideElems.Trod_stays hl ht.1.1 ht.1.2 h1 (fun p hp => hw p (List.mem_append_left _ hp)) (fun p hp => hs p (List.mem_append_left _ hp)),
      trodAll_stays hl (by simpa using ht.2) h2 (fun p hp => hw p (List.mem_append_right _ hp)) (fun p hp => hs p (List.mem_append_right _ hp)), rfl⟩

/-- What a law's row asks behind the call: true, and each argument as it was. -/
theorem law_post {s : ChangeSpec} {f : Func} {tb : TypeId} {W W' : World} {args : Array Value} {ds gs : List (DataW H)} {before : List MemPlace} {apart fresh handsOn again : Bool}
    (hl : laidOutB P = true) (hts : (f.params.toList.all fun t => P.readableRec t && decide (t < P.types.size)) = true) (hres : f.resultTypes = #[tb]) (htb : P.underlying tb = some .bool) (hvars : s.vars = [])
    (hW : DataW.Whole enc P f.params.toList s.vars apart W args.toList ds gs before)
    (hfn : s.fn H (ds ++ gs) = { results := [.lit (.bool true)], args := ds }) (hb : Below W.heap.size W W') :
    s.post enc P f apart fresh handsOn again W args (.bool true) W' := by
  have hW' := hW
  obtain ⟨p, q, hA, hV, rfl, hz, hn⟩ := hW
  have hlt : ∀ x ∈ p ++ q, x.block < W.heap.size := fun x hx => by simpa using hW'.lt x hx
  rw [hvars] at hV
  obtain ⟨rfl, rfl⟩ := trodVars_none hV
  have hR : ∀ (b : Nat) (sp : Nat → Bool) (hd : Bool), DataW.TrodAll enc P W' b sp hd f.resultTypes.toList ((Value.bool true).resultList f.resultTypes.size) (s.fn H (ds ++ [])).results [] := fun _ _ _ => by
    rw [hfn, hres]; exact trodAll_cons_mk (shut_bool htb _) trodAll_mk0
  have hAr : ∀ sp : Nat → Bool, (∀ x ∈ p, sp x.block = true) → DataW.TrodAll enc P W' 0 sp true f.params.toList args.toList (s.fn H (ds ++ [])).args p := fun sp hsp => by
    rw [hfn]
    exact trodAll_stays hl hts hA (fun x hx => hb.same (hlt x (List.mem_append_left _ hx))) hsp
  have hVr : ∀ sp : Nat → Bool, DataW.TrodVars enc P W' sp s.vars (s.fn H (ds ++ [])).vars [] := fun _ => by rw [hfn, hvars]; rfl
  refine ⟨ds, [], p ++ [], [], p, [], hW', hR _ _ _, hAr _ (fun x hx => by simpa using hlt x (List.mem_append_left _ hx)), hVr _, World.keptBut_mono (fun x hx => ⟨hx, .inr (by simpa using hx)⟩) (hb.frame _), fun _ => ?_⟩
  refine ⟨ok_one hres rfl (okWide_bool_mk htb _), _, _, ([] ++ p) ++ [], ⟨[] ++ p, [], trodAll_append (hAr _ (fun _ _ => rfl)) (hR _ _ _), hVr _, rfl, fun b off hp => ?_, fun ha => ?_⟩, fun x hx _ => ?_⟩
  · rw [hb.frozen (p := ⟨b, off, none⟩) (show b < W.heap.size from hlt (.cell b off) (by simpa using hp))]
    exact hz b off (by simpa using hp)
  · simpa using hn ha
  · simpa using hx
end
end Go.Eng
