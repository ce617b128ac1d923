/- Texts put together: Hs17, Hs18. -/
import Derived.Test.YtkenlcaifhffoaaDoorMHS19
import Derived.Test.YtkenlcaifhffoaaDoorMHS6
import Derived.Test.YtkenlcaifhffoaaDoorMHS5
/- Houses: a window leaves its session: house.leave (b_). -/
section
namespace Go.Eng.YtkenlcaifhffoaaDoor
open Go Go.Eng Go.Proofs
variable (W : World)
set_option linter.unusedSimpArgs false
set_option maxRecDepth 100000
set_option linter.unusedVariables false
set_option maxHeartbeats 8000000
def lvA (act bef k : Int) : Int := if act = k then (if bef = k then (if k = 0 then 1 else k - 1) else bef) else act
def lvB (act bef k : Int) : Int := if bef = k then lvA act bef k else bef
def lvD (a k : Int) : Int := if k < a then a - 1 else a
theorem leaveH_ok (bs bw i k : Nat) (R es : List PV) (n : List UInt8) (act bef : Int) (hb : R[i]? = some (.agg [.str n, .rsl bw 8 0 es.length, .int .i64 act, .int .i64 bef])) (hc : es.all cellsB = true) (hk : k < es.length) (hl : es.length ≤ 6) (ha : 0 ≤ act ∧ act < 6) (hbf : 0 ≤ bef ∧ bef < 6) :
    ACalls Tryd.prog W 36 [.ref bs 4 i 0, .int .i64 k] [⟨bs, .row 4 R 0⟩, ⟨bw, .row 8 es 0⟩]
      (Gives (fun _ : Unit => .tup []) (fun _ => [⟨bs, .row 4 (R.set i (.agg [.str n, .rsl bw 8 0 (es.length - 1), .int .i64 (lvD (lvA act bef k) k), .int .i64 (lvD (lvB act bef k) k)])) 0⟩, ⟨bw, .row 8 (es.take k ++ es.drop (k + 1) ++ [zWnD]) 0⟩]) (fun _ => True)) := by
  have hdl := delWnD_ok W bw k (k + 1) rfl es hc hk
  rw [show ((k + 1 : Nat) : Int) = (k : Int) + 1 from rfl] at hdl
  have hil := lt_of_at hb
  by_cases h1 : act = k
  · by_cases h2 : bef = k
    · by_cases h3 : k = 0
      · have hA : lvA act bef k = 1 := by rw [lvA, if_pos h1, if_pos h2, if_pos (by omega)]
        rw [show lvB act bef k = 1 by rw [lvB, if_pos h2, hA], hA]
        refine acalls_of_vc (DL_ok (by decide)) Tryd.func36 rfl (by decide) (by decide) rfl ?_
        refine gs_ ?_
        refine gds_ ?_
        refine gs_ ?_
        refine gds_ ?_
        refine gs_ ?_
        refine gds_ ?_
        refine gs_ ?_
        refine gds_ ?_
        refine gs_ ?_
        refine ACalls.lend1 hdl lk_ ?_
        rintro _ -
        refine gs_ ?_
        (try simp only [List.set_set])
        refine headL_ (head_ ?_); refine g0_ ?_
        refine' loopI (α := Nat × Int × Int) (fun (j, a, c) => [(67, .int .i64 j)]) [(1, _), (66, _)] (fun (j, a, c) => ⟨bs, .row 4 (R.set i (.agg [.str n, .rsl bw 8 0 (es.length - 1), .int .i64 a, .int .i64 c])) 0⟩ :: ⟨bw, .row 8 (es.take k ++ es.drop (k + 1) ++ [zWnD]) 0⟩ :: []) (fun (j, a, c) => j ≤ 2 ∧ a = (if j = 0 then 1 else lvD (1) k) ∧ c = (if j ≤ 1 then 1 else lvD (1) k)) (fun (j, a, c) => 2 - j) (0, 1, 1) ?_ ?_
        · exact ⟨by omega, rfl, rfl⟩
        rintro ⟨j, a, c⟩ ⟨hj, ha2, hc2⟩
        replace hb := set_at hb (.agg [.str n, .rsl bw 8 0 (es.length - 1), .int .i64 a, .int .i64 c])
        rcases j with _ | _ | j
        · rw [if_pos rfl] at ha2
          rw [if_pos (by omega)] at hc2
          by_cases hka : (k : Int) < a
          · have hla : lvD (1) k = a - 1 := by rw [lvD, if_pos (by omega)]; omega
            refine gs_ ?_
            refine gds_ ?_
            refine gs_ ?_
            refine gds_ ?_
            refine gs_ ?_
            simp only [List.set_set]
            refine nx_ (1, a - 1, c) ?_ ?_
            · exact ⟨by omega, by rw [if_neg (by omega), hla], by rw [if_pos (by omega)]; exact hc2⟩
            · ((try dsimp only); (try simp only [List.length_drop, List.length_take, List.length_append, List.length_cons, List.length_nil, List.length_map] at *); omega)
          · exfalso
            omega
        · rw [if_neg (by omega)] at ha2
          rw [if_pos (by omega)] at hc2
          by_cases hka : (k : Int) < c
          · have hla : lvD (1) k = c - 1 := by rw [lvD, if_pos (by omega)]; omega
            refine gs_ ?_
            refine gds_ ?_
            refine gs_ ?_
            refine gds_ ?_
            refine gs_ ?_
            simp only [List.set_set]
            refine nx_ (2, a, c - 1) ?_ ?_
            · exact ⟨by omega, by rw [if_neg (by omega)]; exact ha2, by rw [if_neg (by omega), hla]⟩
            · ((try dsimp only); (try simp only [List.length_drop, List.length_take, List.length_append, List.length_cons, List.length_nil, List.length_map] at *); omega)
          · exfalso
            omega
        · obtain rfl : j = 0 := by omega
          rw [if_neg (by omega)] at ha2 hc2
          subst ha2 hc2
          refine gs_ ?_
          refine gds_ ?_
          exact ⟨(), trivial, rfl, wkMem.rfl'⟩
      · have hA : lvA act bef k = (k : Int) - 1 := by rw [lvA, if_pos h1, if_pos h2, if_neg (by omega)]
        rw [show lvB act bef k = (k : Int) - 1 by rw [lvB, if_pos h2, hA], hA]
        refine acalls_of_vc (DL_ok (by decide)) Tryd.func36 rfl (by decide) (by decide) rfl ?_
        refine gs_ ?_
        refine gds_ ?_
        refine gs_ ?_
        refine gds_ ?_
        refine gs_ ?_
        refine gds_ ?_
        refine gs_ ?_
        refine gds_ ?_
        refine gs_ ?_
        refine ACalls.lend1 hdl lk_ ?_
        rintro _ -
        refine gs_ ?_
        (try simp only [List.set_set])
        refine headL_ (head_ ?_); refine g0_ ?_
        rw [show (if (k : Int) - 1 < 0 then 0 else (k : Int) - 1) = (k : Int) - 1 from if_neg (by omega)]
        refine' loopI (α := Nat × Int × Int) (fun (j, a, c) => [(67, .int .i64 j)]) [(1, _), (66, _)] (fun (j, a, c) => ⟨bs, .row 4 (R.set i (.agg [.str n, .rsl bw 8 0 (es.length - 1), .int .i64 a, .int .i64 c])) 0⟩ :: ⟨bw, .row 8 (es.take k ++ es.drop (k + 1) ++ [zWnD]) 0⟩ :: []) (fun (j, a, c) => j ≤ 2 ∧ a = (if j = 0 then (k : Int) - 1 else lvD ((k : Int) - 1) k) ∧ c = (if j ≤ 1 then (k : Int) - 1 else lvD ((k : Int) - 1) k)) (fun (j, a, c) => 2 - j) (0, (k : Int) - 1, (k : Int) - 1) ?_ ?_
        · exact ⟨by omega, rfl, rfl⟩
        rintro ⟨j, a, c⟩ ⟨hj, ha2, hc2⟩
        replace hb := set_at hb (.agg [.str n, .rsl bw 8 0 (es.length - 1), .int .i64 a, .int .i64 c])
        rcases j with _ | _ | j
        · rw [if_pos rfl] at ha2
          rw [if_pos (by omega)] at hc2
          by_cases hka : (k : Int) < a
          · exfalso
            omega
          · have hla : lvD ((k : Int) - 1) k = a := by rw [lvD, if_neg (by omega)]; omega
            refine gs_ ?_
            refine gds_ ?_
            refine gs_ ?_
            refine gds_ ?_
            refine nx_ (1, a, c) ?_ ?_
            · exact ⟨by omega, by rw [if_neg (by omega), hla], by rw [if_pos (by omega)]; exact hc2⟩
            · ((try dsimp only); (try simp only [List.length_drop, List.length_take, List.length_append, List.length_cons, List.length_nil, List.length_map] at *); omega)
        · rw [if_neg (by omega)] at ha2
          rw [if_pos (by omega)] at hc2
          by_cases hka : (k : Int) < c
          · exfalso
            omega
          · have hla : lvD ((k : Int) - 1) k = c := by rw [lvD, if_neg (by omega)]; omega
            refine gs_ ?_
            refine gds_ ?_
            refine gs_ ?_
            refine gds_ ?_
            refine nx_ (2, a, c) ?_ ?_
            · exact ⟨by omega, by rw [if_neg (by omega)]; exact ha2, by rw [if_neg (by omega), hla]⟩
            · ((try dsimp only); (try simp only [List.length_drop, List.length_take, List.length_append, List.length_cons, List.length_nil, List.length_map] at *); omega)
        · obtain rfl : j = 0 := by omega
          rw [if_neg (by omega)] at ha2 hc2
          subst ha2 hc2
          refine gs_ ?_
          refine gds_ ?_
          exact ⟨(), trivial, rfl, wkMem.rfl'⟩
    · rw [show lvB act bef k = bef from if_neg h2, show lvA act bef k = bef by rw [lvA, if_pos h1, if_neg h2]]
      refine acalls_of_vc (DL_ok (by decide)) Tryd.func36 rfl (by decide) (by decide) rfl ?_
      refine gs_ ?_
      refine gds_ ?_
      refine gs_ ?_
      refine gds_ ?_
      refine gs_ ?_
      refine gds_ ?_
      refine gs_ ?_
      refine ACalls.lend1 hdl lk_ ?_
      rintro _ -
      refine gs_ ?_
      (try simp only [List.set_set])
      refine headL_ (head_ ?_); refine g0_ ?_
      refine' loopI (α := Nat × Int × Int) (fun (j, a, c) => [(67, .int .i64 j)]) [(1, _), (66, _)] (fun (j, a, c) => ⟨bs, .row 4 (R.set i (.agg [.str n, .rsl bw 8 0 (es.length - 1), .int .i64 a, .int .i64 c])) 0⟩ :: ⟨bw, .row 8 (es.take k ++ es.drop (k + 1) ++ [zWnD]) 0⟩ :: []) (fun (j, a, c) => j ≤ 2 ∧ a = (if j = 0 then bef else lvD (bef) k) ∧ c = (if j ≤ 1 then bef else lvD (bef) k)) (fun (j, a, c) => 2 - j) (0, bef, bef) ?_ ?_
      · exact ⟨by omega, rfl, rfl⟩
      rintro ⟨j, a, c⟩ ⟨hj, ha2, hc2⟩
      replace hb := set_at hb (.agg [.str n, .rsl bw 8 0 (es.length - 1), .int .i64 a, .int .i64 c])
      rcases j with _ | _ | j
      · rw [if_pos rfl] at ha2
        rw [if_pos (by omega)] at hc2
        by_cases hka : (k : Int) < a
        · have hla : lvD (bef) k = a - 1 := by rw [lvD, if_pos (by omega)]; omega
          refine gs_ ?_
          refine gds_ ?_
          refine gs_ ?_
          refine gds_ ?_
          refine gs_ ?_
          simp only [List.set_set]
          refine nx_ (1, a - 1, c) ?_ ?_
          · exact ⟨by omega, by rw [if_neg (by omega), hla], by rw [if_pos (by omega)]; exact hc2⟩
          · ((try dsimp only); (try simp only [List.length_drop, List.length_take, List.length_append, List.length_cons, List.length_nil, List.length_map] at *); omega)
        · have hla : lvD (bef) k = a := by rw [lvD, if_neg (by omega)]; omega
          refine gs_ ?_
          refine gds_ ?_
          refine gs_ ?_
          refine gds_ ?_
          refine nx_ (1, a, c) ?_ ?_
          · exact ⟨by omega, by rw [if_neg (by omega), hla], by rw [if_pos (by omega)]; exact hc2⟩
          · ((try dsimp only); (try simp only [List.length_drop, List.length_take, List.length_append, List.length_cons, List.length_nil, List.length_map] at *); omega)
      · rw [if_neg (by omega)] at ha2
        rw [if_pos (by omega)] at hc2
        by_cases hka : (k : Int) < c
        · have hla : lvD (bef) k = c - 1 := by rw [lvD, if_pos (by omega)]; omega
          refine gs_ ?_
          refine gds_ ?_
          refine gs_ ?_
          refine gds_ ?_
          refine gs_ ?_
          simp only [List.set_set]
          refine nx_ (2, a, c - 1) ?_ ?_
          · exact ⟨by omega, by rw [if_neg (by omega)]; exact ha2, by rw [if_neg (by omega), hla]⟩
          · ((try dsimp only); (try simp only [List.length_drop, List.length_take, List.length_append, List.length_cons, List.length_nil, List.length_map] at *); omega)
        · have hla : lvD (bef) k = c := by rw [lvD, if_neg (by omega)]; omega
          refine gs_ ?_
          refine gds_ ?_
          refine gs_ ?_
          refine gds_ ?_
          refine nx_ (2, a, c) ?_ ?_
          · exact ⟨by omega, by rw [if_neg (by omega)]; exact ha2, by rw [if_neg (by omega), hla]⟩
          · ((try dsimp only); (try simp only [List.length_drop, List.length_take, List.length_append, List.length_cons, List.length_nil, List.length_map] at *); omega)
      · obtain rfl : j = 0 := by omega
        rw [if_neg (by omega)] at ha2 hc2
        subst ha2 hc2
        refine gs_ ?_
        refine gds_ ?_
        exact ⟨(), trivial, rfl, wkMem.rfl'⟩
  · by_cases h2 : bef = k
    · rw [show lvB act bef k = act by rw [lvB, if_pos h2, lvA, if_neg h1], show lvA act bef k = act from if_neg h1]
      refine acalls_of_vc (DL_ok (by decide)) Tryd.func36 rfl (by decide) (by decide) rfl ?_
      refine gs_ ?_
      refine gds_ ?_
      refine gs_ ?_
      refine gds_ ?_
      refine gs_ ?_
      refine ACalls.lend1 hdl lk_ ?_
      rintro _ -
      refine gs_ ?_
      (try simp only [List.set_set])
      refine headL_ (head_ ?_); refine g0_ ?_
      refine' loopI (α := Nat × Int × Int) (fun (j, a, c) => [(67, .int .i64 j)]) [(1, _), (66, _)] (fun (j, a, c) => ⟨bs, .row 4 (R.set i (.agg [.str n, .rsl bw 8 0 (es.length - 1), .int .i64 a, .int .i64 c])) 0⟩ :: ⟨bw, .row 8 (es.take k ++ es.drop (k + 1) ++ [zWnD]) 0⟩ :: []) (fun (j, a, c) => j ≤ 2 ∧ a = (if j = 0 then act else lvD (act) k) ∧ c = (if j ≤ 1 then act else lvD (act) k)) (fun (j, a, c) => 2 - j) (0, act, act) ?_ ?_
      · exact ⟨by omega, rfl, rfl⟩
      rintro ⟨j, a, c⟩ ⟨hj, ha2, hc2⟩
      replace hb := set_at hb (.agg [.str n, .rsl bw 8 0 (es.length - 1), .int .i64 a, .int .i64 c])
      rcases j with _ | _ | j
      · rw [if_pos rfl] at ha2
        rw [if_pos (by omega)] at hc2
        by_cases hka : (k : Int) < a
        · have hla : lvD (act) k = a - 1 := by rw [lvD, if_pos (by omega)]; omega
          refine gs_ ?_
          refine gds_ ?_
          refine gs_ ?_
          refine gds_ ?_
          refine gs_ ?_
          simp only [List.set_set]
          refine nx_ (1, a - 1, c) ?_ ?_
          · exact ⟨by omega, by rw [if_neg (by omega), hla], by rw [if_pos (by omega)]; exact hc2⟩
          · ((try dsimp only); (try simp only [List.length_drop, List.length_take, List.length_append, List.length_cons, List.length_nil, List.length_map] at *); omega)
        · have hla : lvD (act) k = a := by rw [lvD, if_neg (by omega)]; omega
          refine gs_ ?_
          refine gds_ ?_
          refine gs_ ?_
          refine gds_ ?_
          refine nx_ (1, a, c) ?_ ?_
          · exact ⟨by omega, by rw [if_neg (by omega), hla], by rw [if_pos (by omega)]; exact hc2⟩
          · ((try dsimp only); (try simp only [List.length_drop, List.length_take, List.length_append, List.length_cons, List.length_nil, List.length_map] at *); omega)
      · rw [if_neg (by omega)] at ha2
        rw [if_pos (by omega)] at hc2
        by_cases hka : (k : Int) < c
        · have hla : lvD (act) k = c - 1 := by rw [lvD, if_pos (by omega)]; omega
          refine gs_ ?_
          refine gds_ ?_
          refine gs_ ?_
          refine gds_ ?_
          refine gs_ ?_
          simp only [List.set_set]
          refine nx_ (2, a, c - 1) ?_ ?_
          · exact ⟨by omega, by rw [if_neg (by omega)]; exact ha2, by rw [if_neg (by omega), hla]⟩
          · ((try dsimp only); (try simp only [List.length_drop, List.length_take, List.length_append, List.length_cons, List.length_nil, List.length_map] at *); omega)
        · have hla : lvD (act) k = c := by rw [lvD, if_neg (by omega)]; omega
          refine gs_ ?_
          refine gds_ ?_
          refine gs_ ?_
          refine gds_ ?_
          refine nx_ (2, a, c) ?_ ?_
          · exact ⟨by omega, by rw [if_neg (by omega)]; exact ha2, by rw [if_neg (by omega), hla]⟩
          · ((try dsimp only); (try simp only [List.length_drop, List.length_take, List.length_append, List.length_cons, List.length_nil, List.length_map] at *); omega)
      · obtain rfl : j = 0 := by omega
        rw [if_neg (by omega)] at ha2 hc2
        subst ha2 hc2
        refine gs_ ?_
        refine gds_ ?_
        exact ⟨(), trivial, rfl, wkMem.rfl'⟩
    · rw [show lvB act bef k = bef from if_neg h2, show lvA act bef k = act from if_neg h1]
      refine acalls_of_vc (DL_ok (by decide)) Tryd.func36 rfl (by decide) (by decide) rfl ?_
      refine gs_ ?_
      refine gds_ ?_
      refine gs_ ?_
      refine gds_ ?_
      refine gs_ ?_
      refine ACalls.lend1 hdl lk_ ?_
      rintro _ -
      refine gs_ ?_
      (try simp only [List.set_set])
      refine headL_ (head_ ?_); refine g0_ ?_
      refine' loopI (α := Nat × Int × Int) (fun (j, a, c) => [(67, .int .i64 j)]) [(1, _), (66, _)] (fun (j, a, c) => ⟨bs, .row 4 (R.set i (.agg [.str n, .rsl bw 8 0 (es.length - 1), .int .i64 a, .int .i64 c])) 0⟩ :: ⟨bw, .row 8 (es.take k ++ es.drop (k + 1) ++ [zWnD]) 0⟩ :: []) (fun (j, a, c) => j ≤ 2 ∧ a = (if j = 0 then act else lvD (act) k) ∧ c = (if j ≤ 1 then bef else lvD (bef) k)) (fun (j, a, c) => 2 - j) (0, act, bef) ?_ ?_
      · exact ⟨by omega, rfl, rfl⟩
      rintro ⟨j, a, c⟩ ⟨hj, ha2, hc2⟩
      replace hb := set_at hb (.agg [.str n, .rsl bw 8 0 (es.length - 1), .int .i64 a, .int .i64 c])
      rcases j with _ | _ | j
      · rw [if_pos rfl] at ha2
        rw [if_pos (by omega)] at hc2
        by_cases hka : (k : Int) < a
        · have hla : lvD (act) k = a - 1 := by rw [lvD, if_pos (by omega)]; omega
          refine gs_ ?_
          refine gds_ ?_
          refine gs_ ?_
          refine gds_ ?_
          refine gs_ ?_
          simp only [List.set_set]
          refine nx_ (1, a - 1, c) ?_ ?_
          · exact ⟨by omega, by rw [if_neg (by omega), hla], by rw [if_pos (by omega)]; exact hc2⟩
          · ((try dsimp only); (try simp only [List.length_drop, List.length_take, List.length_append, List.length_cons, List.length_nil, List.length_map] at *); omega)
        · have hla : lvD (act) k = a := by rw [lvD, if_neg (by omega)]; omega
          refine gs_ ?_
          refine gds_ ?_
          refine gs_ ?_
          refine gds_ ?_
          refine nx_ (1, a, c) ?_ ?_
          · exact ⟨by omega, by rw [if_neg (by omega), hla], by rw [if_pos (by omega)]; exact hc2⟩
          · ((try dsimp only); (try simp only [List.length_drop, List.length_take, List.length_append, List.length_cons, List.length_nil, List.length_map] at *); omega)
      · rw [if_neg (by omega)] at ha2
        rw [if_pos (by omega)] at hc2
        by_cases hka : (k : Int) < c
        · have hla : lvD (bef) k = c - 1 := by rw [lvD, if_pos (by omega)]; omega
          refine gs_ ?_
          refine gds_ ?_
          refine gs_ ?_
          refine gds_ ?_
          refine gs_ ?_
          simp only [List.set_set]
          refine nx_ (2, a, c - 1) ?_ ?_
          · exact ⟨by omega, by rw [if_neg (by omega)]; exact ha2, by rw [if_neg (by omega), hla]⟩
          · ((try dsimp only); (try simp only [List.length_drop, List.length_take, List.length_append, List.length_cons, List.length_nil, List.length_map] at *); omega)
        · have hla : lvD (bef) k = c := by rw [lvD, if_neg (by omega)]; omega
          refine gs_ ?_
          refine gds_ ?_
          refine gs_ ?_
          refine gds_ ?_
          refine nx_ (2, a, c) ?_ ?_
          · exact ⟨by omega, by rw [if_neg (by omega)]; exact ha2, by rw [if_neg (by omega), hla]⟩
          · ((try dsimp only); (try simp only [List.length_drop, List.length_take, List.length_append, List.length_cons, List.length_nil, List.length_map] at *); omega)
      · obtain rfl : j = 0 := by omega
        rw [if_neg (by omega)] at ha2 hc2
        subst ha2 hc2
        refine gs_ ?_
        refine gds_ ?_
        exact ⟨(), trivial, rfl, wkMem.rfl'⟩
end Go.Eng.YtkenlcaifhffoaaDoor
end

/- Houses: which window, which viewer (b_ x_ q_ e_). -/
section
namespace Go.Eng.YtkenlcaifhffoaaDoor
open Go Go.Eng Go.Proofs
variable (W : World)
set_option linter.unusedSimpArgs false
set_option maxRecDepth 100000
set_option linter.unusedVariables false
set_option maxHeartbeats 8000000
def paneW (w : Win) : Int := w.s.pane
theorem idxWin_okE (x : Win) (n : Int) : Pure Tryd.prog W 35 [encWin x, .ip (.int .i64 n) 0] (.bool (decide (paneW x = n))) := by
  unfold encWin
  refine Pure.of (acalls_of_vc (drawOk W) Tryd.func35 rfl (by decide) (by decide) rfl ?_)
  (refine g0_ ?_; repeat (refine n1_ fun b_ => ?_; refine g0_ ?_))
  exact .refl _
theorem idxVw_okE (x : Vw) (n : Int) : Pure Tryd.prog W 79 [encVw x, .ip (.int .i64 n) 0] (.bool (decide (x.s = n))) := by
  unfold encVw
  refine Pure.of (acalls_of_vc (drawOk W) Tryd.func79 rfl (by decide) (by decide) rfl ?_)
  (refine g0_ ?_; repeat (refine n1_ fun b_ => ?_; refine g0_ ?_))
  exact .refl _
theorem idxWin_ok (l : List Win) (n : Int) (hl : (l.length : Int) ≤ 9223372036854775807) : Pure Tryd.prog W 34 [.sl 8 (l.map encWin), .fn 35 [.ip (.int .i64 n) 0]] (.int .i64 (if n ∈ l.map paneW then ((l.map paneW).idxOf n : Nat) else -1)) := by
  have hlm : (l.map encWin).length = l.length := List.length_map _
  refine Pure.of (acalls_of_vc (drawOk W) Tryd.func34 rfl (by decide) (by decide) rfl ?_)
  refine g0_ ?_
  refine' loopI (α := Nat) (fun i => [(8, .int .i64 i)]) [(0, _), (1, _), (7, _)] (fun i => []) (fun i => i ≤ l.length ∧ n ∉ (l.take i).map paneW) (fun i => l.length - i) 0 ?_ ?_
  · exact ⟨Nat.zero_le _, by simp⟩
  rintro i ⟨hi, hx⟩
  by_cases hie : i = l.length
  · subst hie
    rw [List.take_length] at hx
    refine g0_ ?_
    refine g1_ ?_
    exact .of_eq (by rw [if_neg hx])
  · have hlt : i < l.length := by omega
    obtain ⟨x, hxi⟩ : ∃ x, l[i]? = some x := ⟨_, List.getElem?_eq_getElem hlt⟩
    have he := idxWin_okE W x n
    unfold encWin at he
    by_cases h2 : paneW x = n
    · rw [decide_eq_true h2] at he
      refine g0_ ?_
      refine g1_ ?_
      refine (he).use ?_; refine g0_ ?_
      refine g1_ ?_
      refine .of_eq ?_
      have hm : n ∈ l.map paneW := List.mem_map.2 ⟨x, List.mem_of_getElem? hxi, h2⟩
      have hio : (l.map paneW).idxOf n = i := by
        have e : l.map paneW = (l.take i).map paneW ++ (l.drop i).map paneW := by rw [← List.map_append, List.take_append_drop]
        rw [e, List.idxOf_append, if_neg hx, drop_cons_of hxi, List.map_cons, h2, List.idxOf_cons_self, List.length_map, List.length_take]
        omega
      rw [if_pos hm, hio]
    · rw [decide_eq_false h2] at he
      refine g0_ ?_
      refine g1_ ?_
      refine (he).use ?_; refine g0_ ?_
      refine g1_ ?_
      refine nx_ (i + 1) ?_ ?_
      · exact ⟨hlt, by rw [take_snoc_of hxi, List.map_append, List.mem_append, not_or]; exact ⟨hx, by simpa using fun h => h2 h.symm⟩⟩
      · omega
theorem idxVw_ok (l : List Vw) (n : Int) (hl : (l.length : Int) ≤ 9223372036854775807) : Pure Tryd.prog W 104 [.sl 3 (l.map encVw), .fn 79 [.ip (.int .i64 n) 0]] (.int .i64 (if n ∈ l.map Vw.s then ((l.map Vw.s).idxOf n : Nat) else -1)) := by
  have hlm : (l.map encVw).length = l.length := List.length_map _
  refine Pure.of (acalls_of_vc (drawOk W) Tryd.func104 rfl (by decide) (by decide) rfl ?_)
  refine g0_ ?_
  refine' loopI (α := Nat) (fun i => [(8, .int .i64 i)]) [(0, _), (1, _), (7, _)] (fun i => []) (fun i => i ≤ l.length ∧ n ∉ (l.take i).map Vw.s) (fun i => l.length - i) 0 ?_ ?_
  · exact ⟨Nat.zero_le _, by simp⟩
  rintro i ⟨hi, hx⟩
  by_cases hie : i = l.length
  · subst hie
    rw [List.take_length] at hx
    refine g0_ ?_
    refine g1_ ?_
    exact .of_eq (by rw [if_neg hx])
  · have hlt : i < l.length := by omega
    obtain ⟨x, hxi⟩ : ∃ x, l[i]? = some x := ⟨_, List.getElem?_eq_getElem hlt⟩
    have he := idxVw_okE W x n
    unfold encVw at he
    by_cases h2 : x.s = n
    · rw [decide_eq_true h2] at he
      refine g0_ ?_
      refine g1_ ?_
      refine (he).use ?_; refine g0_ ?_
      refine g1_ ?_
      refine .of_eq ?_
      have hm : n ∈ l.map Vw.s := List.mem_map.2 ⟨x, List.mem_of_getElem? hxi, h2⟩
      have hio : (l.map Vw.s).idxOf n = i := by
        have e : l.map Vw.s = (l.take i).map Vw.s ++ (l.drop i).map Vw.s := by rw [← List.map_append, List.take_append_drop]
        rw [e, List.idxOf_append, if_neg hx, drop_cons_of hxi, List.map_cons, h2, List.idxOf_cons_self, List.length_map, List.length_take]
        omega
      rw [if_pos hm, hio]
    · rw [decide_eq_false h2] at he
      refine g0_ ?_
      refine g1_ ?_
      refine (he).use ?_; refine g0_ ?_
      refine g1_ ?_
      refine nx_ (i + 1) ?_ ?_
      · exact ⟨hlt, by rw [take_snoc_of hxi, List.map_append, List.mem_append, not_or]; exact ⟨hx, by simpa using fun h => h2 h.symm⟩⟩
      · omega
end Go.Eng.YtkenlcaifhffoaaDoor
end
