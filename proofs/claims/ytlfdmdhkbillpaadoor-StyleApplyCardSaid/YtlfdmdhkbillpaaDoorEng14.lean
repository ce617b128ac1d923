/- The engine, part 14: contracts that were proved elsewhere, as contracts of the engine. -/
import Derived.Test.YtlfdmdhkbillpaaDoorEng13
namespace Go.Eng
open Go Go.RowKit

/-- Values that hold no address. -/
def valOf : PV → Option Value
  | .bool b => some (.bool b)
  | .int k n => some (.int k n)
  | .str s => some (.string ⟨s.toArray⟩)
  | _ => none
theorem valOf_eq {K : Kn} {w : World} {p : PV} {v u : Value} (h : VRel K w p v) (hu : valOf p = some u) : v = u := by
  cases h <;> simp [valOf] at hu <;> exact hu
theorem valOf_rel {K : Kn} {w : World} {p : PV} {u : Value} (hu : valOf p = some u) : VRel K w p u := by
  cases p <;> simp [valOf] at hu <;> subst hu <;> first | exact .bool _ | exact .int _ _ | exact .str _
def valsOf : List PV → Option (List Value)
  | [] => some []
  | p :: r => match valOf p, valsOf r with
    | some v, some vs => some (v :: vs)
    | _, _ => none
theorem valsOf_spec : ∀ {ps : List PV} {us : List Value}, valsOf ps = some us → ps.length = us.length ∧ ∀ i, i < ps.length → valOf (ps.getD i .dead) = some (us.getD i undef)
  | [], us, h => by simp [valsOf] at h; subst h; exact ⟨rfl, fun i hi => by cases hi⟩
  | p :: r, us, h => by
    simp only [valsOf] at h
    split at h
    · rename_i v vs h1 h2
      cases h
      obtain ⟨g1, g2⟩ := valsOf_spec h2
      refine ⟨by simp [g1], fun i hi => ?_⟩
      cases i with
      | zero => simpa using h1
      | succ i => simpa using g2 i (by simpa using hi)
    · cases h
/-- What comes back: a value that holds no address, or several. -/
def retOf : PV → Option Value
  | .tup ps => match valsOf ps with
    | some us => some (.tuple us.toArray)
    | none => none
  | p => valOf p
theorem retOf_rel {K : Kn} {w : World} {p : PV} {u : Value} (hu : retOf p = some u) : VRel K w p u := by
  cases p
  case tup ps =>
    simp only [retOf] at hu
    split at hu
    · rename_i us h
      cases hu
      obtain ⟨g1, g2⟩ := valsOf_spec h
      exact .tup _ _ g1 fun i hi => valOf_rel (g2 i hi)
    · cases hu
  all_goals exact valOf_rel hu

theorem Ext.of_below {K : Kn} {w w' : World} (hb : Below w.heap.size w w') (hk : ∀ b o, K b o → b < w.heap.size) : Ext [] K w [] K w' :=
  ⟨hb.os, hb.tape, hb.output, hb.size, (fun b x hx => by
    have hlt : b < w.heap.size := by
      simp only [World.shape?] at hx
      cases h : w.heap[b]? with
      | none => simp [h] at hx
      | some o => exact (Array.getElem?_eq_some_iff.1 h).1
    simp only [World.shape?, hb.block b hlt] at hx ⊢
    exact hx), (fun b h _ => hb.block b h), (fun b o h => ⟨h, hb.cell (p := ⟨b, o, none⟩) (hk b o h)⟩), (fun k hk => by cases hk), (fun b o h => .inl h)⟩

/-- A contract over plain arguments that leaves all that was there. -/
theorem Pure.of_below {P : Program} {W : World} {f : FuncId} {fn : Func} {args : List PV} {r : PV} {us : List Value} {u : Value}
    (hf : P.funcs[f]? = some fn) (hbd : fn.body.isNone = false) (hn : (fn.name == "runtime.NumGoroutine") = false) (ha : valsOf args = some us) (hr : retOf r = some u)
    (h : ∀ w : World, W.heap.size ≤ w.heap.size → (∀ b, b < W.heap.size → w.heap[b]? = W.heap[b]?) → Calls P f us.toArray w fun e w' => e = .returned u ∧ Below w.heap.size w w') : Pure P W f args r := by
  obtain ⟨g1, g2⟩ := valsOf_spec ha
  refine ⟨⟨fn, hf, hbd, hn⟩, fun K w vs hl hv hm hp => ?_⟩
  obtain rfl : vs = us := by
    refine List.ext_getElem (hl.symm.trans g1) fun i h1 h2 => ?_
    have := valOf_eq (hv i (by omega)) (g2 i (by omega))
    simpa [List.getD_eq_getElem?_getD, h1, h2] using this
  refine (h w hp.size hp.base).mono ?_
  rintro e w' ⟨he, hb⟩
  exact ⟨u, r, [], K, he, rfl, retOf_rel hr, ⟨fun b o h => Nat.lt_of_lt_of_le (hm.kin b o h) hb.size, by simp, fun k hk => by cases hk⟩, Ext.of_below hb hm.kin⟩
end Go.Eng
