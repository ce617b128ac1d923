/- Texts put together: Spl16. -/
import Derived.Test.YtkbfojigbbokcaaMSA
import Derived.Test.YtkbfojigbbokcaaMSD
import Derived.Test.YtkbfojigbbokcaaMSB
/- The law SplitEven (b_ x_ q_ e_). -/
section
namespace Go.Eng.Ytkbfojigbbokcaa
open Go Go.Eng Go.Proofs
variable (W : World)
set_option linter.unusedSimpArgs false
set_option maxRecDepth 100000
set_option linter.unusedVariables false
set_option maxHeartbeats 4000000
theorem zeroT_ok : zeroT.ok := by simp [zeroT, Spl.ok, Spls.ok, i64ok]
def zeroV : PV := .agg [.int .i64 0, .int .i64 0, .int .i64 0, .sl 4 []]
theorem zeroV_eq : encSpl zeroT = zeroV := by rw [zeroT, encSpl_mk]; rfl
theorem chk_eq (t : Spl) : (visS t 0 (0, [])).1 = (chkT t 0 []).1 := (checks_agree t 0 [] (by decide)).1
theorem chk_panes {t : Spl} (h : (chkT t 0 []).1 = 0) : (chkT t 0 []).2 = panesT t := by
  have := (chk_right t 0 [] h).2.1
  rwa [List.nil_append] at this
theorem panes_bd (t : Spl) : ∀ way, t.right way → ∀ x ∈ panesT t, 1 ≤ x ∧ x ≤ 9999 := by
  induction t using spl_induct with
  | h w p s ks ih =>
    intro way hr x hx
    rw [right_mk] at hr
    rw [panesT_mk] at hx
    rcases hr.2 with ⟨h0, hk, h1, h2⟩ | ⟨hw, -, -, -, hkr⟩
    · rw [if_pos h0, List.mem_singleton] at hx
      subst hx
      exact ⟨h1, h2⟩
    · rw [if_neg (by omega), List.mem_flatMap] at hx
      obtain ⟨k, hk, hx⟩ := hx
      exact ih k hk w (hkr k hk) x hx
theorem leafT_ok {x : Int} (h : 1 ≤ x ∧ x ≤ 9999) : (leafT x).ok := by
  have : i64ok x := by unfold i64ok; omega
  simp [leafT, Spl.ok, Spls.ok, this]
  unfold i64ok; omega
theorem leaves_ok {way : Int} {l : List Int} (hw : way = 1 ∨ way = 2) (hl : l.length ≤ 12) (h : ∀ x ∈ l, 1 ≤ x ∧ x ≤ 9999) : (Spl.mk way 0 1 (l.map leafT)).ok := by
  rw [spl_ok]
  refine ⟨by unfold i64ok; omega, by unfold i64ok; omega, by unfold i64ok; omega, by rw [List.length_map]; omega, fun k hk => ?_⟩
  obtain ⟨x, hx, rfl⟩ := List.mem_map.1 hk
  exact leafT_ok (h x hx)
theorem splitEven_ok1 (t : Spl) (ht : t.ok) (way : Int) : Pure Try.prog W 3 [encSpl t, .int .i64 way] (.bool true) := by
  have hev := even_ok W t ht way
  have hck := checkR_ok W t ht
  have hpt := parted_ok W
  have hno := noSplit_ok W zeroT zeroT_ok
  rw [sameT_rfl, zeroV_eq] at hno
  have hce := chk_eq t
  have hcp := @chk_panes t
  have hvr := @vis_right t
  unfold evenT at hev
  rw [hce] at hev
  rw [hce] at hvr
  have hl1 := fun h => right_panes t 0 (hvr h).1
  generalize chkT t 0 [] = r at *
  obtain ⟨c, qs⟩ := r
  simp only at *
  by_cases h0 : c = 0
  · subst h0
    obtain rfl := hcp rfl
    rw [if_neg (by simp)] at hev
    have hl12 := (hvr rfl).2.2.1
    have hl1 := hl1 rfl
    generalize hpe : panesT t = l at *
    obtain ⟨w, p, s, ks⟩ := t
    rw [encSpl_mk] at hev hck ⊢
    by_cases hw : way ≠ 1 ∧ way ≠ 2
    · rw [if_pos hw, zeroV_eq] at hev
      refine Pure.of (acalls_of_vc (drawOk W) Try.func3 rfl (by decide) (by decide) rfl ?_)
      (refine g0_ ?_; repeat ((first | refine n1_ fun b_ => ?_ | refine n2_ fun b_ => ?_ | refine Nat1.mk fun q_ hq_ => ?_ | refine em_ fun x_ hx_ => ?_ | refine Elem1.mk fun e_ he_ => ?_); refine g0_ ?_))
      refine (hev).use ?_; (refine g0_ ?_; repeat ((first | refine n1_ fun b_ => ?_ | refine n2_ fun b_ => ?_ | refine Nat1.mk fun q_ hq_ => ?_ | refine em_ fun x_ hx_ => ?_ | refine Elem1.mk fun e_ he_ => ?_); refine g0_ ?_))
      refine (hck).use ?_; (refine g0_ ?_; repeat ((first | refine n1_ fun b_ => ?_ | refine n2_ fun b_ => ?_ | refine Nat1.mk fun q_ hq_ => ?_ | refine em_ fun x_ hx_ => ?_ | refine Elem1.mk fun e_ he_ => ?_); refine g0_ ?_))
      (refine g1_ ?_; repeat ((first | refine n1_ fun b_ => ?_ | refine n2_ fun b_ => ?_ | refine Nat1.mk fun q_ hq_ => ?_ | refine em_ fun x_ hx_ => ?_ | refine Elem1.mk fun e_ he_ => ?_); refine g1_ ?_))
      refine (hpt).use ?_; (refine g0_ ?_; repeat ((first | refine n1_ fun b_ => ?_ | refine n2_ fun b_ => ?_ | refine Nat1.mk fun q_ hq_ => ?_ | refine em_ fun x_ hx_ => ?_ | refine Elem1.mk fun e_ he_ => ?_); refine g0_ ?_))
      (refine g1_ ?_; repeat ((first | refine n1_ fun b_ => ?_ | refine n2_ fun b_ => ?_ | refine Nat1.mk fun q_ hq_ => ?_ | refine em_ fun x_ hx_ => ?_ | refine Elem1.mk fun e_ he_ => ?_); refine g1_ ?_))
      refine (hpt).use ?_; (refine g0_ ?_; repeat ((first | refine n1_ fun b_ => ?_ | refine n2_ fun b_ => ?_ | refine Nat1.mk fun q_ hq_ => ?_ | refine em_ fun x_ hx_ => ?_ | refine Elem1.mk fun e_ he_ => ?_); refine g0_ ?_))
      (refine g1_ ?_; repeat ((first | refine n1_ fun b_ => ?_ | refine n2_ fun b_ => ?_ | refine Nat1.mk fun q_ hq_ => ?_ | refine em_ fun x_ hx_ => ?_ | refine Elem1.mk fun e_ he_ => ?_); refine g1_ ?_))
      refine (hno).use ?_; (refine g0_ ?_; repeat ((first | refine n1_ fun b_ => ?_ | refine n2_ fun b_ => ?_ | refine Nat1.mk fun q_ hq_ => ?_ | refine em_ fun x_ hx_ => ?_ | refine Elem1.mk fun e_ he_ => ?_); refine g0_ ?_))
      exact .refl _
    · rw [if_neg hw] at hev
      have hbd := panes_bd _ _ (hvr rfl).1
      rw [hpe] at hbd
      have hTok := leaves_ok (show way = 1 ∨ way = 2 by omega) hl12 hbd
      have hsm := sameT_ok W _ hTok (.mk way 0 1 (l.map leafT))
      rw [sameT_rfl] at hsm
      by_cases h1 : l.length = 1
      · rw [evenL, if_pos h1, leafT, encSpl_mk] at hev
        refine Pure.of (acalls_of_vc (drawOk W) Try.func3 rfl (by decide) (by decide) rfl ?_)
        (refine g0_ ?_; repeat ((first | refine n1_ fun b_ => ?_ | refine n2_ fun b_ => ?_ | refine Nat1.mk fun q_ hq_ => ?_ | refine em_ fun x_ hx_ => ?_ | refine Elem1.mk fun e_ he_ => ?_); refine g0_ ?_))
        refine (hev).use ?_; (refine g0_ ?_; repeat ((first | refine n1_ fun b_ => ?_ | refine n2_ fun b_ => ?_ | refine Nat1.mk fun q_ hq_ => ?_ | refine em_ fun x_ hx_ => ?_ | refine Elem1.mk fun e_ he_ => ?_); refine g0_ ?_))
        revert b_
        intro b5
        refine (hck).use ?_; (refine g0_ ?_; repeat ((first | refine n1_ fun b_ => ?_ | refine n2_ fun b_ => ?_ | refine Nat1.mk fun q_ hq_ => ?_ | refine em_ fun x_ hx_ => ?_ | refine Elem1.mk fun e_ he_ => ?_); refine g0_ ?_))
        (refine g1_ ?_; repeat ((first | refine n1_ fun b_ => ?_ | refine n2_ fun b_ => ?_ | refine Nat1.mk fun q_ hq_ => ?_ | refine em_ fun x_ hx_ => ?_ | refine Elem1.mk fun e_ he_ => ?_); refine g1_ ?_))
        refine (hpt).use ?_; (refine g0_ ?_; repeat ((first | refine n1_ fun b_ => ?_ | refine n2_ fun b_ => ?_ | refine Nat1.mk fun q_ hq_ => ?_ | refine em_ fun x_ hx_ => ?_ | refine Elem1.mk fun e_ he_ => ?_); refine g0_ ?_))
        (refine g1_ ?_; repeat ((first | refine n1_ fun b_ => ?_ | refine n2_ fun b_ => ?_ | refine Nat1.mk fun q_ hq_ => ?_ | refine em_ fun x_ hx_ => ?_ | refine Elem1.mk fun e_ he_ => ?_); refine g1_ ?_))
        refine' loopI (α := Nat × Nat × (List Int)) (fun (i, b', es) => [(53, .int .i64 i)]) [(5, _), (6, _), (7, _), (9, _), (51, _), (52, _)] (fun (i, b', es) => ⟨b_, .row 4 [.agg [.int .i64 way, .int .i64 0, .int .i64 1, accV b' 4 (es.map leafV)]] 0⟩ :: ⟨b5, .row 4 [.agg [.int .i64 0, .int .i64 (l.headD 0), .int .i64 1, .sl 4 []]] 0⟩ :: accM b' 4 (es.map leafV)) (fun (i, b', es) => i ≤ l.length ∧ es = l.take i) (fun (i, b', es) => l.length - i) (0, 0, []) ?_ ?_
        · exact ⟨Nat.zero_le _, rfl⟩
        rintro ⟨i, b', es⟩ ⟨hi, hes⟩
        rcases es with _ | ⟨e0, es⟩
        · (refine g0_ ?_; repeat ((first | refine n1_ fun b_ => ?_ | refine n2_ fun b_ => ?_ | refine Nat1.mk fun q_ hq_ => ?_ | refine em_ fun x_ hx_ => ?_ | refine Elem1.mk fun e_ he_ => ?_); refine g0_ ?_))
          refine brec ?_; intro c_ hlt; (try rw [hlt]); cases c_ <;> replace hlt := nm_ hlt
          · have : i = l.length := by rw [panesV_len] at hlt; omega
            subst this
            rw [List.take_length] at hes
            exact absurd (congrArg List.length hes) (by simp only [List.length_nil]; omega)
          · have hil : i < l.length := by rw [panesV_len] at hlt; omega
            have hee := congrArg List.length hes
            simp only [List.length_cons, List.length_nil, List.length_take] at hee
            (refine g0_ ?_; repeat ((first | refine n1_ fun b_ => ?_ | refine n2_ fun b_ => ?_ | refine Nat1.mk fun q_ hq_ => ?_ | refine em_ fun x_ hx_ => ?_ | refine Elem1.mk fun e_ he_ => ?_); refine g0_ ?_))
            refine .inl ?_
            (refine g0_ ?_; repeat ((first | refine n1_ fun b_ => ?_ | refine n2_ fun b_ => ?_ | refine Nat1.mk fun q_ hq_ => ?_ | refine em_ fun x_ hx_ => ?_ | refine Elem1.mk fun e_ he_ => ?_); refine g0_ ?_))
            try rw [show ∀ v : PV, (List.map leafV es).length + 1 + [v].length = (List.map leafV (es ++ [x_])).length + 1 from fun v => by simp]
            try (rw [show ∀ v : PV, v = leafV x_ → (leafV e0 :: List.map leafV es) ++ [v] = List.map leafV (e0 :: es ++ [x_]) from fun v hv => by simp [hv]]; rotate_left; rfl)
            refine nx_ (i + 1, b_, [] ++ [x_]) ?_ ?_
            · exact ⟨hil, by rw [take_snoc_of hx_, ← hes]⟩
            · ((try dsimp only); (try simp only [List.length_drop, List.length_take, List.length_append, List.length_cons, List.length_nil, List.length_map] at *); omega)
        · (refine g0_ ?_; repeat ((first | refine n1_ fun b_ => ?_ | refine n2_ fun b_ => ?_ | refine Nat1.mk fun q_ hq_ => ?_ | refine em_ fun x_ hx_ => ?_ | refine Elem1.mk fun e_ he_ => ?_); refine g0_ ?_))
          refine brec ?_; intro c_ hlt; (try rw [hlt]); cases c_ <;> replace hlt := nm_ hlt
          · have : i = l.length := by rw [panesV_len] at hlt; omega
            subst this
            rw [List.take_length] at hes
            subst hes
            obtain rfl : es = [] := by simpa using h1
            have hs1 := sameT_ok W (leafT e0) (leafT_ok (hbd e0 (by simp))) (leafT e0)
            rw [sameT_rfl] at hs1
            (refine g0_ ?_; repeat ((first | refine n1_ fun b_ => ?_ | refine n2_ fun b_ => ?_ | refine Nat1.mk fun q_ hq_ => ?_ | refine em_ fun x_ hx_ => ?_ | refine Elem1.mk fun e_ he_ => ?_); refine g0_ ?_))
            (refine g1_ ?_; repeat ((first | refine n1_ fun b_ => ?_ | refine n2_ fun b_ => ?_ | refine Nat1.mk fun q_ hq_ => ?_ | refine em_ fun x_ hx_ => ?_ | refine Elem1.mk fun e_ he_ => ?_); refine g1_ ?_))
            refine hs1.borrow rfl rfl (fun j hj => ?_) ?_
            · match j, hj with
              | 0, _ => rw [leafT, encSpl_mk]; exact .refl _
              | 1, _ => exact frz_leaf _ e0
            (refine g0_ ?_; repeat ((first | refine n1_ fun b_ => ?_ | refine n2_ fun b_ => ?_ | refine Nat1.mk fun q_ hq_ => ?_ | refine em_ fun x_ hx_ => ?_ | refine Elem1.mk fun e_ he_ => ?_); refine g0_ ?_))
            exact .refl _
          · have hil : i < l.length := by rw [panesV_len] at hlt; omega
            have hee := congrArg List.length hes
            simp only [List.length_cons, List.length_nil, List.length_take] at hee
            (refine g0_ ?_; repeat ((first | refine n1_ fun b_ => ?_ | refine n2_ fun b_ => ?_ | refine Nat1.mk fun q_ hq_ => ?_ | refine em_ fun x_ hx_ => ?_ | refine Elem1.mk fun e_ he_ => ?_); refine g0_ ?_))
            refine .inl ?_
            (refine g0_ ?_; repeat ((first | refine n1_ fun b_ => ?_ | refine n2_ fun b_ => ?_ | refine Nat1.mk fun q_ hq_ => ?_ | refine em_ fun x_ hx_ => ?_ | refine Elem1.mk fun e_ he_ => ?_); refine g0_ ?_))
            try rw [show ∀ v : PV, (List.map leafV es).length + 1 + [v].length = (List.map leafV (es ++ [x_])).length + 1 from fun v => by simp]
            try (rw [show ∀ v : PV, v = leafV x_ → (leafV e0 :: List.map leafV es) ++ [v] = List.map leafV (e0 :: es ++ [x_]) from fun v hv => by simp [hv]]; rotate_left; rfl)
            refine nx_ (i + 1, b_, (e0 :: es) ++ [x_]) ?_ ?_
            · exact ⟨hil, by rw [take_snoc_of hx_, ← hes]⟩
            · ((try dsimp only); (try simp only [List.length_drop, List.length_take, List.length_append, List.length_cons, List.length_nil, List.length_map] at *); omega)
      · rw [evenL, if_neg h1, encSpl_mk] at hev
        refine Pure.of (acalls_of_vc (drawOk W) Try.func3 rfl (by decide) (by decide) rfl ?_)
        (refine g0_ ?_; repeat ((first | refine n1_ fun b_ => ?_ | refine n2_ fun b_ => ?_ | refine Nat1.mk fun q_ hq_ => ?_ | refine em_ fun x_ hx_ => ?_ | refine Elem1.mk fun e_ he_ => ?_); refine g0_ ?_))
        refine (hev).use ?_; (refine g0_ ?_; repeat ((first | refine n1_ fun b_ => ?_ | refine n2_ fun b_ => ?_ | refine Nat1.mk fun q_ hq_ => ?_ | refine em_ fun x_ hx_ => ?_ | refine Elem1.mk fun e_ he_ => ?_); refine g0_ ?_))
        revert b_
        intro b5
        refine (hck).use ?_; (refine g0_ ?_; repeat ((first | refine n1_ fun b_ => ?_ | refine n2_ fun b_ => ?_ | refine Nat1.mk fun q_ hq_ => ?_ | refine em_ fun x_ hx_ => ?_ | refine Elem1.mk fun e_ he_ => ?_); refine g0_ ?_))
        (refine g1_ ?_; repeat ((first | refine n1_ fun b_ => ?_ | refine n2_ fun b_ => ?_ | refine Nat1.mk fun q_ hq_ => ?_ | refine em_ fun x_ hx_ => ?_ | refine Elem1.mk fun e_ he_ => ?_); refine g1_ ?_))
        refine (hpt).use ?_; (refine g0_ ?_; repeat ((first | refine n1_ fun b_ => ?_ | refine n2_ fun b_ => ?_ | refine Nat1.mk fun q_ hq_ => ?_ | refine em_ fun x_ hx_ => ?_ | refine Elem1.mk fun e_ he_ => ?_); refine g0_ ?_))
        (refine g1_ ?_; repeat ((first | refine n1_ fun b_ => ?_ | refine n2_ fun b_ => ?_ | refine Nat1.mk fun q_ hq_ => ?_ | refine em_ fun x_ hx_ => ?_ | refine Elem1.mk fun e_ he_ => ?_); refine g1_ ?_))
        refine' loopI (α := Nat × Nat × (List Int)) (fun (i, b', es) => [(53, .int .i64 i)]) [(5, _), (6, _), (7, _), (9, _), (51, _), (52, _)] (fun (i, b', es) => ⟨b_, .row 4 [.agg [.int .i64 way, .int .i64 0, .int .i64 1, accV b' 4 (es.map leafV)]] 0⟩ :: ⟨b5, .row 4 [.agg [.int .i64 way, .int .i64 0, .int .i64 1, .sl 4 ((l.map leafT).map encSpl)]] 0⟩ :: accM b' 4 (es.map leafV)) (fun (i, b', es) => i ≤ l.length ∧ es = l.take i) (fun (i, b', es) => l.length - i) (0, 0, []) ?_ ?_
        · exact ⟨Nat.zero_le _, rfl⟩
        rintro ⟨i, b', es⟩ ⟨hi, hes⟩
        rcases es with _ | ⟨e0, es⟩
        · (refine g0_ ?_; repeat ((first | refine n1_ fun b_ => ?_ | refine n2_ fun b_ => ?_ | refine Nat1.mk fun q_ hq_ => ?_ | refine em_ fun x_ hx_ => ?_ | refine Elem1.mk fun e_ he_ => ?_); refine g0_ ?_))
          refine brec ?_; intro c_ hlt; (try rw [hlt]); cases c_ <;> replace hlt := nm_ hlt
          · have : i = l.length := by rw [panesV_len] at hlt; omega
            subst this
            rw [List.take_length] at hes
            exact absurd (congrArg List.length hes) (by simp only [List.length_nil]; omega)
          · have hil : i < l.length := by rw [panesV_len] at hlt; omega
            have hee := congrArg List.length hes
            simp only [List.length_cons, List.length_nil, List.length_take] at hee
            (refine g0_ ?_; repeat ((first | refine n1_ fun b_ => ?_ | refine n2_ fun b_ => ?_ | refine Nat1.mk fun q_ hq_ => ?_ | refine em_ fun x_ hx_ => ?_ | refine Elem1.mk fun e_ he_ => ?_); refine g0_ ?_))
            refine .inl ?_
            (refine g0_ ?_; repeat ((first | refine n1_ fun b_ => ?_ | refine n2_ fun b_ => ?_ | refine Nat1.mk fun q_ hq_ => ?_ | refine em_ fun x_ hx_ => ?_ | refine Elem1.mk fun e_ he_ => ?_); refine g0_ ?_))
            try rw [show ∀ v : PV, (List.map leafV es).length + 1 + [v].length = (List.map leafV (es ++ [x_])).length + 1 from fun v => by simp]
            try (rw [show ∀ v : PV, v = leafV x_ → (leafV e0 :: List.map leafV es) ++ [v] = List.map leafV (e0 :: es ++ [x_]) from fun v hv => by simp [hv]]; rotate_left; rfl)
            refine nx_ (i + 1, b_, [] ++ [x_]) ?_ ?_
            · exact ⟨hil, by rw [take_snoc_of hx_, ← hes]⟩
            · ((try dsimp only); (try simp only [List.length_drop, List.length_take, List.length_append, List.length_cons, List.length_nil, List.length_map] at *); omega)
        · (refine g0_ ?_; repeat ((first | refine n1_ fun b_ => ?_ | refine n2_ fun b_ => ?_ | refine Nat1.mk fun q_ hq_ => ?_ | refine em_ fun x_ hx_ => ?_ | refine Elem1.mk fun e_ he_ => ?_); refine g0_ ?_))
          refine brec ?_; intro c_ hlt; (try rw [hlt]); cases c_ <;> replace hlt := nm_ hlt
          · have : i = l.length := by rw [panesV_len] at hlt; omega
            subst this
            rw [List.take_length] at hes
            subst hes
            have hn1 : ¬ es.length = 0 := by simpa using h1
            have hln' : (panesV (e0 :: es)).length = es.length + 1 := by rw [panesV_len]; rfl
            (refine g0_ ?_; repeat ((first | refine n1_ fun b_ => ?_ | refine n2_ fun b_ => ?_ | refine Nat1.mk fun q_ hq_ => ?_ | refine em_ fun x_ hx_ => ?_ | refine Elem1.mk fun e_ he_ => ?_); refine g0_ ?_))
            (refine g1_ ?_; repeat ((first | refine n1_ fun b_ => ?_ | refine n2_ fun b_ => ?_ | refine Nat1.mk fun q_ hq_ => ?_ | refine em_ fun x_ hx_ => ?_ | refine Elem1.mk fun e_ he_ => ?_); refine g1_ ?_))
            refine hsm.borrow rfl rfl (fun j hj => ?_) ?_
            · match j, hj with
              | 0, _ => rw [encSpl_mk]; exact .refl _
              | 1, _ =>
                rw [encSpl_mk]
                refine .agg _ _ rfl fun j hj => ?_
                match j, hj with
                | 0, _ => exact .refl _
                | 1, _ => exact .refl _
                | 2, _ => exact .refl _
                | 3, _ => exact frz_leaves (by repeat (first | exact .here _ _ _ | apply Look.there))
            (refine g0_ ?_; repeat ((first | refine n1_ fun b_ => ?_ | refine n2_ fun b_ => ?_ | refine Nat1.mk fun q_ hq_ => ?_ | refine em_ fun x_ hx_ => ?_ | refine Elem1.mk fun e_ he_ => ?_); refine g0_ ?_))
            exact .refl _
          · have hil : i < l.length := by rw [panesV_len] at hlt; omega
            have hee := congrArg List.length hes
            simp only [List.length_cons, List.length_nil, List.length_take] at hee
            (refine g0_ ?_; repeat ((first | refine n1_ fun b_ => ?_ | refine n2_ fun b_ => ?_ | refine Nat1.mk fun q_ hq_ => ?_ | refine em_ fun x_ hx_ => ?_ | refine Elem1.mk fun e_ he_ => ?_); refine g0_ ?_))
            refine .inl ?_
            (refine g0_ ?_; repeat ((first | refine n1_ fun b_ => ?_ | refine n2_ fun b_ => ?_ | refine Nat1.mk fun q_ hq_ => ?_ | refine em_ fun x_ hx_ => ?_ | refine Elem1.mk fun e_ he_ => ?_); refine g0_ ?_))
            try rw [show ∀ v : PV, (List.map leafV es).length + 1 + [v].length = (List.map leafV (es ++ [x_])).length + 1 from fun v => by simp]
            try (rw [show ∀ v : PV, v = leafV x_ → (leafV e0 :: List.map leafV es) ++ [v] = List.map leafV (e0 :: es ++ [x_]) from fun v hv => by simp [hv]]; rotate_left; rfl)
            refine nx_ (i + 1, b_, (e0 :: es) ++ [x_]) ?_ ?_
            · exact ⟨hil, by rw [take_snoc_of hx_, ← hes]⟩
            · ((try dsimp only); (try simp only [List.length_drop, List.length_take, List.length_append, List.length_cons, List.length_nil, List.length_map] at *); omega)
  · rw [if_pos h0, zeroV_eq] at hev
    obtain ⟨w, p, s, ks⟩ := t
    rw [encSpl_mk] at hev hck ⊢
    refine Pure.of (acalls_of_vc (drawOk W) Try.func3 rfl (by decide) (by decide) rfl ?_)
    (refine g0_ ?_; repeat ((first | refine n1_ fun b_ => ?_ | refine n2_ fun b_ => ?_ | refine Nat1.mk fun q_ hq_ => ?_ | refine em_ fun x_ hx_ => ?_ | refine Elem1.mk fun e_ he_ => ?_); refine g0_ ?_))
    refine (hev).use ?_; (refine g0_ ?_; repeat ((first | refine n1_ fun b_ => ?_ | refine n2_ fun b_ => ?_ | refine Nat1.mk fun q_ hq_ => ?_ | refine em_ fun x_ hx_ => ?_ | refine Elem1.mk fun e_ he_ => ?_); refine g0_ ?_))
    refine (hck).use ?_; (refine g0_ ?_; repeat ((first | refine n1_ fun b_ => ?_ | refine n2_ fun b_ => ?_ | refine Nat1.mk fun q_ hq_ => ?_ | refine em_ fun x_ hx_ => ?_ | refine Elem1.mk fun e_ he_ => ?_); refine g0_ ?_))
    (refine g1_ ?_; repeat ((first | refine n1_ fun b_ => ?_ | refine n2_ fun b_ => ?_ | refine Nat1.mk fun q_ hq_ => ?_ | refine em_ fun x_ hx_ => ?_ | refine Elem1.mk fun e_ he_ => ?_); refine g1_ ?_))
    refine (hpt).use ?_; (refine g0_ ?_; repeat ((first | refine n1_ fun b_ => ?_ | refine n2_ fun b_ => ?_ | refine Nat1.mk fun q_ hq_ => ?_ | refine em_ fun x_ hx_ => ?_ | refine Elem1.mk fun e_ he_ => ?_); refine g0_ ?_))
    (refine g1_ ?_; repeat ((first | refine n1_ fun b_ => ?_ | refine n2_ fun b_ => ?_ | refine Nat1.mk fun q_ hq_ => ?_ | refine em_ fun x_ hx_ => ?_ | refine Elem1.mk fun e_ he_ => ?_); refine g1_ ?_))
    refine (hpt).use ?_; (refine g0_ ?_; repeat ((first | refine n1_ fun b_ => ?_ | refine n2_ fun b_ => ?_ | refine Nat1.mk fun q_ hq_ => ?_ | refine em_ fun x_ hx_ => ?_ | refine Elem1.mk fun e_ he_ => ?_); refine g0_ ?_))
    (refine g1_ ?_; repeat ((first | refine n1_ fun b_ => ?_ | refine n2_ fun b_ => ?_ | refine Nat1.mk fun q_ hq_ => ?_ | refine em_ fun x_ hx_ => ?_ | refine Elem1.mk fun e_ he_ => ?_); refine g1_ ?_))
    refine (hno).use ?_; (refine g0_ ?_; repeat ((first | refine n1_ fun b_ => ?_ | refine n2_ fun b_ => ?_ | refine Nat1.mk fun q_ hq_ => ?_ | refine em_ fun x_ hx_ => ?_ | refine Elem1.mk fun e_ he_ => ?_); refine g0_ ?_))
    exact .refl _
theorem splitEven_ok (_ : Free W) (t : Spl) (ht : t.ok) (way : Int) (_ : i64ok way) : Pure Try.prog W 3 [encSpl t, .int .i64 way] (.bool true) := splitEven_ok1 W t ht way
end Go.Eng.Ytkbfojigbbokcaa
end
