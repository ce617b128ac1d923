/- The engine, part 15: structs that are compared. -/
import Derived.Test.YtlfdmdhkbillpaaDoorEng14
import Derived.DeepKeys
namespace Go.Eng
open Go

theorem agg_vals {K : Kn} {w : World} {cs : List PV} {us : List Value} {u : Value} (h : VRel K w (.agg cs) u) (hc : valsOf cs = some us) : u = .agg us.toArray := by
  cases h with
  | agg _ vs hl hv =>
    obtain ⟨g1, g2⟩ := valsOf_spec hc
    obtain rfl : vs = us := by
      refine List.ext_getElem (hl.symm.trans g1) fun i h1 h2 => ?_
      have := valOf_eq (hv i (by omega)) (g2 i (by omega))
      simpa [List.getD_eq_getElem?_getD, h1, h2] using this
    rfl
theorem eql_agg {P : Program} {t : TypeId} {m D D' : Nat} {us vs : List Value} {la lb : List Lit} (w : World) (xo yo : Operand) (op : BinOp) (hk : P.keyTypeAt m t = true) (hm : m ≤ 10000) (hg : P.eqGuardType P.depth t = false)
    (hu : us.toArray.size = P.cellsOf t) (hv : vs.toArray.size = P.cellsOf t) {fs : Array Field} (ht : P.underlying t = some (.struct fs)) (ha : P.keyLits D t us = some la) (hb : P.keyLits D' t vs = some lb)
    {r : Bool} (hr : r = true ↔ la = lb) : (eqGuard op t xo yo (.agg us.toArray) (.agg vs.toArray)).run P w = .ok () w ∧ (Op.equal t (.agg us.toArray) (.agg vs.toArray)).run P w = .ok r w := by
  refine ⟨?_, ?_⟩
  · unfold eqGuard
    cases op <;> simp [hg]
  · have e : Op.equal t (.agg us.toArray) (.agg vs.toArray) = Op.equalIn ((10000 - m) + m) t (.agg us.toArray) (.agg vs.toArray) := by
      rw [Nat.sub_add_cancel hm]; rfl
    obtain ⟨r', hr', hiff⟩ := run_equalIn_deep (10000 - m) m t hk w D D' (.agg us.toArray) (.agg vs.toArray) la lb (by simp [Value.formed, ht] at *; omega) (by simp [Value.formed, ht] at *; omega) (by simpa [Value.cells] using ha) (by simpa [Value.cells] using hb)
    rw [e, hr']
    congr 1
    rw [Bool.eq_iff_iff, hiff, hr]
/-- Structs of numbers, bools and strings: by what their cells are. -/
theorem eqLaw_agg {P : Program} {t : TypeId} (m : Nat) {D D' : Nat} {cs ds : List PV} {us vs : List Value} {la lb : List Lit} {xo yo : Operand} (hk : P.keyTypeAt m t = true) (hm : m ≤ 10000) (hg : P.eqGuardType P.depth t = false)
    {fs : Array Field} (ht : P.underlying t = some (.struct fs)) (hcu : valsOf cs = some us) (hcv : valsOf ds = some vs) (hu : us.toArray.size = P.cellsOf t) (hv : vs.toArray.size = P.cellsOf t)
    (ha : P.keyLits D t us = some la) (hb : P.keyLits D' t vs = some lb) {r : Bool} (hr : r = true ↔ la = lb) : EqLaw P .eql t xo yo (.agg cs) (.agg ds) r := by
  refine ⟨fun K w u v h1 h2 => ?_⟩
  rw [agg_vals h1 hcu, agg_vals h2 hcv]
  obtain ⟨g1, g2⟩ := eql_agg w xo yo .eql hk hm hg hu hv ht ha hb hr
  rw [Sem.run_bind, g1, Result.andThen_ok]
  show (do pure (.bool (← Op.equal t _ _)) : Sem Value).run P w = _
  rw [Sem.run_bind, g2]; rfl
theorem neqLaw_agg {P : Program} {t : TypeId} (m : Nat) {D D' : Nat} {cs ds : List PV} {us vs : List Value} {la lb : List Lit} {xo yo : Operand} (hk : P.keyTypeAt m t = true) (hm : m ≤ 10000) (hg : P.eqGuardType P.depth t = false)
    {fs : Array Field} (ht : P.underlying t = some (.struct fs)) (hcu : valsOf cs = some us) (hcv : valsOf ds = some vs) (hu : us.toArray.size = P.cellsOf t) (hv : vs.toArray.size = P.cellsOf t)
    (ha : P.keyLits D t us = some la) (hb : P.keyLits D' t vs = some lb) {r : Bool} (hr : r = true ↔ la = lb) : EqLaw P .neq t xo yo (.agg cs) (.agg ds) (!r) := by
  refine ⟨fun K w u v h1 h2 => ?_⟩
  rw [agg_vals h1 hcu, agg_vals h2 hcv]
  obtain ⟨g1, g2⟩ := eql_agg w xo yo .neq hk hm hg hu hv ht ha hb hr
  rw [Sem.run_bind, g1, Result.andThen_ok]
  show (do pure (.bool (!(← Op.equal t _ _))) : Sem Value).run P w = _
  rw [Sem.run_bind, g2]; rfl
end Go.Eng
