/- Texts put together: Spl11, Spl12, Spl13, Spl14, Spl15. -/
import Derived.Test.YtkenlcaifhffoaaDoorMSB
import Derived.Test.YtkenlcaifhffoaaDoorMSC
/- Splits: least cells (b_ x_ q_ e_). -/
section
namespace Go.Eng.YtkenlcaifhffoaaDoor
open Go Go.Eng Go.Proofs
variable (W : World)
set_option linter.unusedSimpArgs false
set_option maxRecDepth 100000
set_option linter.unusedVariables false
set_option maxHeartbeats 4000000
def stepW (w : Int) (acc : Int × Int) (i : Nat) (ab : Int × Int) : Int × Int :=
  if w = 1 then (if 0 < i then acc.1 + ab.1 + 1 else acc.1 + ab.1, max acc.2 ab.2) else (max acc.1 ab.1, if 0 < i then acc.2 + ab.2 + 1 else acc.2 + ab.2)
mutual
def leastT : Spl → Int × Int
  | .mk w p s ks => if w = 0 then (1, 1) else leastTs w ks 0 (0, 0)
def leastTs (w : Int) : List Spl → Nat → Int × Int → Int × Int
  | [], _, acc => acc
  | k :: ks, i, acc => leastTs w ks (i + 1) (stepW w acc i (leastT k))
end
def accB (i m : Nat) (acc : Int × Int) : Prop := (i = 0 ∧ acc = (0, 0)) ∨ (0 < i ∧ 1 ≤ acc.1 ∧ 1 ≤ acc.2 ∧ acc.1 ≤ 2 * m - 1 ∧ acc.2 ≤ 2 * m - 1)
end Go.Eng.YtkenlcaifhffoaaDoor
end

/- Splits: shares of cells (b_ x_ q_ e_). -/
section
namespace Go.Eng.YtkenlcaifhffoaaDoor
open Go Go.Eng Go.Proofs
variable (W : World)
set_option linter.unusedSimpArgs false
set_option maxRecDepth 100000
set_option linter.unusedVariables false
set_option maxHeartbeats 4000000
def needK (w : Int) (k : Spl) : Int := if w = 2 then (leastT k).2 else (leastT k).1
def sumL (l : List Int) : Int := l.foldr (· + ·) 0
def restS (w : Int) (ks : List Spl) (all : Int) : Int := all - (ks.length - 1) - sumL (ks.map (needK w))
def sizesS (ks : List Spl) : Int := sumL (ks.map Spl.size)
def sharesGo (w rest sum : Int) : List Spl → Int → Int → List Int
  | [], _, _ => []
  | k :: ks, at_, done => (needK w k + (rest * (at_ + k.size)).tdiv sum - done) :: sharesGo w rest sum ks (at_ + k.size) ((rest * (at_ + k.size)).tdiv sum)
def sharesT (w : Int) (ks : List Spl) (all : Int) : List Int := sharesGo w (restS w ks all) (sizesS ks) ks 0 0
end Go.Eng.YtkenlcaifhffoaaDoor
end

/- Splits: how one is laid out (plain). -/
section
namespace Go.Eng.YtkenlcaifhffoaaDoor
open Go Go.Eng Go.Proofs
set_option linter.unusedSimpArgs false
set_option maxRecDepth 100000
set_option linter.unusedVariables false
structure Plc where
  p : Int
  x : Int
  y : Int
  w : Int
  h : Int
  deriving DecidableEq
def encPlc (a : Plc) : PV := .agg [.int .i64 a.p, .int .i64 a.x, .int .i64 a.y, .int .i64 a.w, .int .i64 a.h]
mutual
def layT : Spl → Int → Int → Int → Int → List Plc
  | .mk w p s ks, x, y, wd, hg => if w = 0 then [⟨p, x, y, wd, hg⟩] else layTs w wd hg ks (sharesT w ks (if w = 2 then hg else wd)) x y
def layTs (w wd hg : Int) : List Spl → List Int → Int → Int → List Plc
  | [], _, _, _ => []
  | k :: ks, ns, x, y => if w = 1 then layT k x y (ns.headD 0) hg ++ layTs w wd hg ks ns.tail (x + (ns.headD 0 + 1)) y else layT k x y wd (ns.headD 0) ++ layTs w wd hg ks ns.tail x (y + (ns.headD 0 + 1))
end
def enough (w : Int) : List Spl → List Int → Prop
  | [], ns => ns = []
  | k :: ks, ns => ∃ n r, ns = n :: r ∧ needK w k ≤ n ∧ enough w ks r
def alongT (w : Int) (a : Int × Int) : Int := if w = 2 then a.2 else a.1
def acrossT (w : Int) (a : Int × Int) : Int := if w = 2 then a.1 else a.2
end Go.Eng.YtkenlcaifhffoaaDoor
end

/- Splits: lay, Lay (b_ x_ q_ e_). -/
section
namespace Go.Eng.YtkenlcaifhffoaaDoor
open Go Go.Eng Go.Proofs
variable (W : World)
set_option linter.unusedSimpArgs false
set_option maxRecDepth 100000
set_option linter.unusedVariables false
set_option maxHeartbeats 4000000
def plcsV (l : List Plc) : List PV := l.map encPlc
end Go.Eng.YtkenlcaifhffoaaDoor
end

/- Splits: Lay; places compared; parted (b_ x_ q_ e_). -/
section
namespace Go.Eng.YtkenlcaifhffoaaDoor
open Go Go.Eng Go.Proofs
variable (W : World)
set_option linter.unusedSimpArgs false
set_option maxRecDepth 100000
set_option linter.unusedVariables false
set_option maxHeartbeats 4000000
def laysR (t : Spl) (w h : Int) : List Plc × Int :=
  if (visS t 0 (0, [])).1 ≠ 0 then ([], (visS t 0 (0, [])).1) else if w < (leastT t).1 ∨ h < (leastT t).2 ∨ 120 < w ∨ 60 < h then ([], 3) else (layT t 0 0 w h, 0)
def Plc.ok (a : Plc) : Prop := i64ok a.p ∧ i64ok a.x ∧ i64ok a.y ∧ i64ok a.w ∧ i64ok a.h
def litsPlc (a : Plc) : List Lit := [.int .i64 a.p, .int .i64 a.x, .int .i64 a.y, .int .i64 a.w, .int .i64 a.h]
def plcs0 : List Plc := [⟨1, 0, 0, 3, 5⟩, ⟨2, 4, 0, 7, 2⟩, ⟨3, 4, 3, 7, 2⟩]
end Go.Eng.YtkenlcaifhffoaaDoor
end
