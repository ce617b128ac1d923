/- Texts put together: HseW. -/
import Derived.Test.YtmodblkagimhlaaDoorMHS7
import Derived.Test.YtmodblkagimhlaaDoorMHS3
/- The law HouseCheck (b_ x_ q_ e_). -/
section
namespace Go.Eng.YtmodblkagimhlaaDoor
open Go Go.Eng Go.Proofs
variable (W : World)
set_option linter.unusedSimpArgs false
set_option maxRecDepth 100000
set_option linter.unusedVariables false
set_option maxHeartbeats 8000000
def wantS (s : Ses) : List Int := s.wins.flatMap fun w => (chkT w.s 0 []).2
theorem want_right {h : Hs} (h0 : chkH h = 0) : h.ses.flatMap wantS = panesH h := by
  have hsr := right_win h0
  unfold panesH
  have key : ∀ l : List Ses, (∀ s ∈ l, SesR h.next s) → l.flatMap wantS = l.flatMap panesS := by
    intro l
    induction l with
    | nil => intro _; rfl
    | cons s l ih =>
      intro hl
      rw [List.flatMap_cons, List.flatMap_cons, ih fun x hx => hl x (List.mem_cons_of_mem _ hx)]
      congr 1
      unfold wantS panesS
      have hw := (hl s (by simp)).win
      generalize s.wins = ws at *
      induction ws with
      | nil => rfl
      | cons w ws ih2 =>
        rw [List.flatMap_cons, List.flatMap_cons, ih2 fun x hx => hw x (List.mem_cons_of_mem _ hx)]
        congr 1
        have hv := (hw w (by simp)).vis
        rw [chk_eq] at hv
        exact chk_panes hv
  exact key _ hsr
theorem houseCheck_ok (hT : Tabs W) (h : Hs) (hok : h.ok) : Pure Tryd.prog W 4 [encHs h] (.bool true) := by
  have hcr := checkHR_ok W hT h hok
  have hcp := checkH_ok W hT h hok
  have hhd := housed_ok W hT
  have hsl := hok.ses
  have hm1 : (h.ses.map encSes).length = h.ses.length := List.length_map _
  by_cases h0 : chkH h = 0
  · have hpn := panesHP_ok W hT h hok h0
    rw [h0] at hcr hcp
    rw [encHs_mk h] at *
    refine Pure.of (acalls_of_vc (drawOk W) Tryd.func4 rfl (by decide) (by decide) rfl ?_)
    (refine g0_ ?_; repeat ((first | refine n1_ fun b_ => ?_ | refine n2_ fun b_ => ?_ | refine Nat1.mk fun q_ hq_ => ?_ | refine em_ fun x_ hx_ => ?_ | refine Elem1.mk fun e_ he_ => ?_); refine g0_ ?_))
    refine (hcr).use ?_; (refine g0_ ?_; repeat ((first | refine n1_ fun b_ => ?_ | refine n2_ fun b_ => ?_ | refine Nat1.mk fun q_ hq_ => ?_ | refine em_ fun x_ hx_ => ?_ | refine Elem1.mk fun e_ he_ => ?_); refine g0_ ?_))
    (refine g0_ ?_; repeat ((first | refine n1_ fun b_ => ?_ | refine n2_ fun b_ => ?_ | refine Nat1.mk fun q_ hq_ => ?_ | refine em_ fun x_ hx_ => ?_ | refine Elem1.mk fun e_ he_ => ?_); refine g0_ ?_))
    refine (hpn).use ?_; (refine g0_ ?_; repeat ((first | refine n1_ fun b_ => ?_ | refine n2_ fun b_ => ?_ | refine Nat1.mk fun q_ hq_ => ?_ | refine em_ fun x_ hx_ => ?_ | refine Elem1.mk fun e_ he_ => ?_); refine g0_ ?_))
    (refine g0_ ?_; repeat ((first | refine n1_ fun b_ => ?_ | refine n2_ fun b_ => ?_ | refine Nat1.mk fun q_ hq_ => ?_ | refine em_ fun x_ hx_ => ?_ | refine Elem1.mk fun e_ he_ => ?_); refine g0_ ?_))
    refine (hhd).use ?_; (refine g0_ ?_; repeat ((first | refine n1_ fun b_ => ?_ | refine n2_ fun b_ => ?_ | refine Nat1.mk fun q_ hq_ => ?_ | refine em_ fun x_ hx_ => ?_ | refine Elem1.mk fun e_ he_ => ?_); refine g0_ ?_))
    (refine g1_ ?_; repeat ((first | refine n1_ fun b_ => ?_ | refine n2_ fun b_ => ?_ | refine Nat1.mk fun q_ hq_ => ?_ | refine em_ fun x_ hx_ => ?_ | refine Elem1.mk fun e_ he_ => ?_); refine g1_ ?_))
    refine (hcp).use ?_; (refine g0_ ?_; repeat ((first | refine n1_ fun b_ => ?_ | refine n2_ fun b_ => ?_ | refine Nat1.mk fun q_ hq_ => ?_ | refine em_ fun x_ hx_ => ?_ | refine Elem1.mk fun e_ he_ => ?_); refine g0_ ?_))
    (refine g1_ ?_; repeat ((first | refine n1_ fun b_ => ?_ | refine n2_ fun b_ => ?_ | refine Nat1.mk fun q_ hq_ => ?_ | refine em_ fun x_ hx_ => ?_ | refine Elem1.mk fun e_ he_ => ?_); refine g1_ ?_))
    refine' loopI (α := Nat × Nat × (List Int)) (fun (i, bo, o) => [(31, .int .i64 i), (6, accV bo 1 (panesV o))]) [(3, _), (4, _), (5, _), (29, _), (30, _)] (fun (i, bo, o) => accM bo 1 (panesV o)) (fun (i, bo, o) => i ≤ h.ses.length ∧ o = (h.ses.take i).flatMap wantS ∧ o.length ≤ 12582912 * i) (fun (i, bo, o) => h.ses.length - i) (0, 0, []) ?_ ?_
    · exact ⟨Nat.zero_le _, rfl, Nat.zero_le _⟩
    rintro ⟨i, bo, o⟩ ⟨hi, ho, hol⟩
    by_cases hie : i = h.ses.length
    · subst hie
      rw [List.take_length] at ho
      have heq := equal_ints W (panesH h) o (by rw [← want_right h0, ← ho]; omega)
      rw [decide_eq_true (by rw [ho, want_right h0])] at heq
      rcases o with _ | ⟨o0, o⟩
      · (refine g0_ ?_; repeat ((first | refine n1_ fun b_ => ?_ | refine n2_ fun b_ => ?_ | refine Nat1.mk fun q_ hq_ => ?_ | refine em_ fun x_ hx_ => ?_ | refine Elem1.mk fun e_ he_ => ?_); refine g0_ ?_))
        (refine g1_ ?_; repeat ((first | refine n1_ fun b_ => ?_ | refine n2_ fun b_ => ?_ | refine Nat1.mk fun q_ hq_ => ?_ | refine em_ fun x_ hx_ => ?_ | refine Elem1.mk fun e_ he_ => ?_); refine g1_ ?_))
        refine heq.borrow rfl rfl (fun j hj => ?_) ?_
        · match j, hj with
          | 0, _ => exact .refl _
          | 1, _ => exact .nils 1
        (refine g1_ ?_; repeat ((first | refine n1_ fun b_ => ?_ | refine n2_ fun b_ => ?_ | refine Nat1.mk fun q_ hq_ => ?_ | refine em_ fun x_ hx_ => ?_ | refine Elem1.mk fun e_ he_ => ?_); refine g1_ ?_))
        exact .refl _
      · (refine g0_ ?_; repeat ((first | refine n1_ fun b_ => ?_ | refine n2_ fun b_ => ?_ | refine Nat1.mk fun q_ hq_ => ?_ | refine em_ fun x_ hx_ => ?_ | refine Elem1.mk fun e_ he_ => ?_); refine g0_ ?_))
        (refine g1_ ?_; repeat ((first | refine n1_ fun b_ => ?_ | refine n2_ fun b_ => ?_ | refine Nat1.mk fun q_ hq_ => ?_ | refine em_ fun x_ hx_ => ?_ | refine Elem1.mk fun e_ he_ => ?_); refine g1_ ?_))
        refine heq.borrow rfl rfl (fun j hj => ?_) ?_
        · match j, hj with
          | 0, _ => exact .refl _
          | 1, _ => exact frz_row (by repeat (first | exact .here _ _ _ | apply Look.there)) _ rfl
        (refine g1_ ?_; repeat ((first | refine n1_ fun b_ => ?_ | refine n2_ fun b_ => ?_ | refine Nat1.mk fun q_ hq_ => ?_ | refine em_ fun x_ hx_ => ?_ | refine Elem1.mk fun e_ he_ => ?_); refine g1_ ?_))
        exact .refl _
    · have hil : i < h.ses.length := by omega
      obtain ⟨x, hx⟩ : ∃ x, h.ses[i]? = some x := ⟨_, List.getElem?_eq_getElem hil⟩
      have hxo := hok.se x (List.mem_of_getElem? hx)
      have hwm : (x.wins.map encWin).length = x.wins.length := List.length_map _
      have hxw := hxo.wins
      (refine g0_ ?_; repeat ((first | refine n1_ fun b_ => ?_ | refine n2_ fun b_ => ?_ | refine Nat1.mk fun q_ hq_ => ?_ | refine em_ fun x_ hx_ => ?_ | refine Elem1.mk fun e_ he_ => ?_); refine g0_ ?_))
      (refine g1_ ?_; repeat ((first | refine n1_ fun b_ => ?_ | refine n2_ fun b_ => ?_ | refine Nat1.mk fun q_ hq_ => ?_ | refine em_ fun x_ hx_ => ?_ | refine Elem1.mk fun e_ he_ => ?_); refine g1_ ?_))
      refine' loopI (α := Nat × Nat × (List Int)) (fun (j, bo, o) => [(38, .int .i64 j), (6, accV bo 1 (panesV o))]) [(3, _), (4, _), (5, _), (29, _), (30, _), (31, _), (36, _), (37, _)] (fun (j, bo, o) => accM bo 1 (panesV o)) (fun (j, bo, o) => j ≤ x.wins.length ∧ o = (h.ses.take i).flatMap wantS ++ (x.wins.take j).flatMap (fun w => (chkT w.s 0 []).2) ∧ o.length ≤ 12582912 * i + 12 * j) (fun (j, bo, o) => x.wins.length - j) (0, bo, o) ?_ ?_
      · exact ⟨Nat.zero_le _, by rw [ho]; simp, hol⟩
      clear ho hol
      rintro ⟨j, bo, o⟩ ⟨hj, ho, hol⟩
      by_cases hje : j = x.wins.length
      · subst hje
        rw [List.take_length] at ho
        (refine g0_ ?_; repeat ((first | refine n1_ fun b_ => ?_ | refine n2_ fun b_ => ?_ | refine Nat1.mk fun q_ hq_ => ?_ | refine em_ fun x_ hx_ => ?_ | refine Elem1.mk fun e_ he_ => ?_); refine g0_ ?_))
        (refine g1_ ?_; repeat ((first | refine n1_ fun b_ => ?_ | refine n2_ fun b_ => ?_ | refine Nat1.mk fun q_ hq_ => ?_ | refine em_ fun x_ hx_ => ?_ | refine Elem1.mk fun e_ he_ => ?_); refine g1_ ?_))
        refine nx_ (i + 1, bo, o) ?_ ?_
        · exact ⟨hil, by rw [ho, take_snoc_of hx, List.flatMap_append]; simp [wantS], (show o.length ≤ 12582912 * (i + 1) by omega)⟩
        · ((try dsimp only); (try simp only [List.length_drop, List.length_take, List.length_append, List.length_cons, List.length_nil, List.length_map] at *); omega)
      · have hjl : j < x.wins.length := by omega
        obtain ⟨y, hy⟩ : ∃ y, x.wins[j]? = some y := ⟨_, List.getElem?_eq_getElem hjl⟩
        have hck := checkR_ok W y.s (hxo.win y (List.mem_of_getElem? hy)).s
        have hfew := chkT_few y.s 0 [] (by decide)
        have ho2 : o ++ (chkT y.s 0 []).2 = (h.ses.take i).flatMap wantS ++ (x.wins.take (j + 1)).flatMap (fun w => (chkT w.s 0 []).2) := by rw [take_snoc_of hy, List.flatMap_append, ← List.append_assoc, ← ho]; simp
        clear ho
        rw [encSpl_eta] at hck
        generalize chkT y.s 0 [] = C at *
        obtain ⟨c, qs⟩ := C
        dsimp only at *
        rcases qs with _ | ⟨q0, qs⟩
        · rw [show panesV [] = [] from rfl] at hck
          rcases o with _ | ⟨o0, o⟩
          · (refine g0_ ?_; repeat ((first | refine n1_ fun b_ => ?_ | refine n2_ fun b_ => ?_ | refine Nat1.mk fun q_ hq_ => ?_ | refine em_ fun x_ hx_ => ?_ | refine Elem1.mk fun e_ he_ => ?_); refine g0_ ?_))
            (refine g1_ ?_; repeat ((first | refine n1_ fun b_ => ?_ | refine n2_ fun b_ => ?_ | refine Nat1.mk fun q_ hq_ => ?_ | refine em_ fun x_ hx_ => ?_ | refine Elem1.mk fun e_ he_ => ?_); refine g1_ ?_))
            refine (hck).use ?_; (refine g0_ ?_; repeat ((first | refine n1_ fun b_ => ?_ | refine n2_ fun b_ => ?_ | refine Nat1.mk fun q_ hq_ => ?_ | refine em_ fun x_ hx_ => ?_ | refine Elem1.mk fun e_ he_ => ?_); refine g0_ ?_))
            (refine g1_ ?_; repeat ((first | refine n1_ fun b_ => ?_ | refine n2_ fun b_ => ?_ | refine Nat1.mk fun q_ hq_ => ?_ | refine em_ fun x_ hx_ => ?_ | refine Elem1.mk fun e_ he_ => ?_); refine g1_ ?_))
            refine nx_ (j + 1, bo, ([] : List Int)) ?_ ?_
            · exact ⟨hjl, (by rw [← ho2] <;> simp), (by simp only [List.length_append, List.length_cons, List.length_nil] at *; omega)⟩
            · ((try dsimp only); (try simp only [List.length_drop, List.length_take, List.length_append, List.length_cons, List.length_nil, List.length_map] at *); omega)
          · have hom : (List.map (PV.int .i64) o).length = o.length := List.length_map _
            have hol2 := hol
            rw [List.length_cons] at hol2
            (refine g0_ ?_; repeat ((first | refine n1_ fun b_ => ?_ | refine n2_ fun b_ => ?_ | refine Nat1.mk fun q_ hq_ => ?_ | refine em_ fun x_ hx_ => ?_ | refine Elem1.mk fun e_ he_ => ?_); refine g0_ ?_))
            (refine g1_ ?_; repeat ((first | refine n1_ fun b_ => ?_ | refine n2_ fun b_ => ?_ | refine Nat1.mk fun q_ hq_ => ?_ | refine em_ fun x_ hx_ => ?_ | refine Elem1.mk fun e_ he_ => ?_); refine g1_ ?_))
            refine (hck).use ?_; (refine g0_ ?_; repeat ((first | refine n1_ fun b_ => ?_ | refine n2_ fun b_ => ?_ | refine Nat1.mk fun q_ hq_ => ?_ | refine em_ fun x_ hx_ => ?_ | refine Elem1.mk fun e_ he_ => ?_); refine g0_ ?_))
            (refine g1_ ?_; repeat ((first | refine n1_ fun b_ => ?_ | refine n2_ fun b_ => ?_ | refine Nat1.mk fun q_ hq_ => ?_ | refine em_ fun x_ hx_ => ?_ | refine Elem1.mk fun e_ he_ => ?_); refine g1_ ?_))
            rw [List.append_nil]
            refine nx_ (j + 1, b_, o0 :: o) ?_ ?_
            · exact ⟨hjl, (by rw [← ho2] <;> simp), (by simp only [List.length_append, List.length_cons, List.length_nil] at *; omega)⟩
            · ((try dsimp only); (try simp only [List.length_drop, List.length_take, List.length_append, List.length_cons, List.length_nil, List.length_map] at *); omega)
        · rw [show panesV (q0 :: qs) = .int .i64 q0 :: panesV qs from rfl] at hck
          have hpl := panesV_len qs
          have hfew2 := hfew
          rw [List.length_cons] at hfew2
          rcases o with _ | ⟨o0, o⟩
          · (refine g0_ ?_; repeat ((first | refine n1_ fun b_ => ?_ | refine n2_ fun b_ => ?_ | refine Nat1.mk fun q_ hq_ => ?_ | refine em_ fun x_ hx_ => ?_ | refine Elem1.mk fun e_ he_ => ?_); refine g0_ ?_))
            (refine g1_ ?_; repeat ((first | refine n1_ fun b_ => ?_ | refine n2_ fun b_ => ?_ | refine Nat1.mk fun q_ hq_ => ?_ | refine em_ fun x_ hx_ => ?_ | refine Elem1.mk fun e_ he_ => ?_); refine g1_ ?_))
            refine (hck).use ?_; (refine g0_ ?_; repeat ((first | refine n1_ fun b_ => ?_ | refine n2_ fun b_ => ?_ | refine Nat1.mk fun q_ hq_ => ?_ | refine em_ fun x_ hx_ => ?_ | refine Elem1.mk fun e_ he_ => ?_); refine g0_ ?_))
            (refine g1_ ?_; repeat ((first | refine n1_ fun b_ => ?_ | refine n2_ fun b_ => ?_ | refine Nat1.mk fun q_ hq_ => ?_ | refine em_ fun x_ hx_ => ?_ | refine Elem1.mk fun e_ he_ => ?_); refine g1_ ?_))
            refine need.mk (ints_all (q0 :: qs)) ?_
            (refine g0_ ?_; repeat ((first | refine n1_ fun b_ => ?_ | refine n2_ fun b_ => ?_ | refine Nat1.mk fun q_ hq_ => ?_ | refine em_ fun x_ hx_ => ?_ | refine Elem1.mk fun e_ he_ => ?_); refine g0_ ?_))
            refine nx_ (j + 1, b_, q0 :: qs) ?_ ?_
            · exact ⟨hjl, (by rw [← ho2] <;> simp), (by simp only [List.length_append, List.length_cons, List.length_nil] at *; omega)⟩
            · ((try dsimp only); (try simp only [List.length_drop, List.length_take, List.length_append, List.length_cons, List.length_nil, List.length_map] at *); omega)
          · have hom : (List.map (PV.int .i64) o).length = o.length := List.length_map _
            have hol2 := hol
            rw [List.length_cons] at hol2
            (refine g0_ ?_; repeat ((first | refine n1_ fun b_ => ?_ | refine n2_ fun b_ => ?_ | refine Nat1.mk fun q_ hq_ => ?_ | refine em_ fun x_ hx_ => ?_ | refine Elem1.mk fun e_ he_ => ?_); refine g0_ ?_))
            (refine g1_ ?_; repeat ((first | refine n1_ fun b_ => ?_ | refine n2_ fun b_ => ?_ | refine Nat1.mk fun q_ hq_ => ?_ | refine em_ fun x_ hx_ => ?_ | refine Elem1.mk fun e_ he_ => ?_); refine g1_ ?_))
            refine (hck).use ?_; (refine g0_ ?_; repeat ((first | refine n1_ fun b_ => ?_ | refine n2_ fun b_ => ?_ | refine Nat1.mk fun q_ hq_ => ?_ | refine em_ fun x_ hx_ => ?_ | refine Elem1.mk fun e_ he_ => ?_); refine g0_ ?_))
            (refine g1_ ?_; repeat ((first | refine n1_ fun b_ => ?_ | refine n2_ fun b_ => ?_ | refine Nat1.mk fun q_ hq_ => ?_ | refine em_ fun x_ hx_ => ?_ | refine Elem1.mk fun e_ he_ => ?_); refine g1_ ?_))
            refine need.mk (ints_all (q0 :: qs)) ?_
            (refine g0_ ?_; repeat ((first | refine n1_ fun b_ => ?_ | refine n2_ fun b_ => ?_ | refine Nat1.mk fun q_ hq_ => ?_ | refine em_ fun x_ hx_ => ?_ | refine Elem1.mk fun e_ he_ => ?_); refine g0_ ?_))
            rw [show (List.map (PV.int .i64) o).length + 1 + (PV.int .i64 q0 :: panesV qs).length = (List.map (PV.int .i64) (o ++ q0 :: qs)).length + 1 from by simp [panesV]; omega]
            rw [show (PV.int .i64 o0 :: List.map (PV.int .i64) o) ++ (PV.int .i64 q0 :: panesV qs) = panesV (o0 :: o ++ q0 :: qs) from by simp [panesV]]
            refine nx_ (j + 1, b_, o0 :: o ++ q0 :: qs) ?_ ?_
            · exact ⟨hjl, (by rw [← ho2] <;> simp), (by simp only [List.length_append, List.length_cons, List.length_nil] at *; omega)⟩
            · ((try dsimp only); (try simp only [List.length_drop, List.length_take, List.length_append, List.length_cons, List.length_nil, List.length_map] at *); omega)
  · have hpn := panesHP_bad W hT h hok h0
    generalize chkH h = C at *
    rw [encHs_mk h] at *
    refine Pure.of (acalls_of_vc (drawOk W) Tryd.func4 rfl (by decide) (by decide) rfl ?_)
    (refine g0_ ?_; repeat ((first | refine n1_ fun b_ => ?_ | refine n2_ fun b_ => ?_ | refine Nat1.mk fun q_ hq_ => ?_ | refine em_ fun x_ hx_ => ?_ | refine Elem1.mk fun e_ he_ => ?_); refine g0_ ?_))
    refine (hcr).use ?_; (refine g0_ ?_; repeat ((first | refine n1_ fun b_ => ?_ | refine n2_ fun b_ => ?_ | refine Nat1.mk fun q_ hq_ => ?_ | refine em_ fun x_ hx_ => ?_ | refine Elem1.mk fun e_ he_ => ?_); refine g0_ ?_))
    (refine g0_ ?_; repeat ((first | refine n1_ fun b_ => ?_ | refine n2_ fun b_ => ?_ | refine Nat1.mk fun q_ hq_ => ?_ | refine em_ fun x_ hx_ => ?_ | refine Elem1.mk fun e_ he_ => ?_); refine g0_ ?_))
    refine (hpn).use ?_; (refine g0_ ?_; repeat ((first | refine n1_ fun b_ => ?_ | refine n2_ fun b_ => ?_ | refine Nat1.mk fun q_ hq_ => ?_ | refine em_ fun x_ hx_ => ?_ | refine Elem1.mk fun e_ he_ => ?_); refine g0_ ?_))
    (refine g0_ ?_; repeat ((first | refine n1_ fun b_ => ?_ | refine n2_ fun b_ => ?_ | refine Nat1.mk fun q_ hq_ => ?_ | refine em_ fun x_ hx_ => ?_ | refine Elem1.mk fun e_ he_ => ?_); refine g0_ ?_))
    refine (hhd).use ?_; (refine g0_ ?_; repeat ((first | refine n1_ fun b_ => ?_ | refine n2_ fun b_ => ?_ | refine Nat1.mk fun q_ hq_ => ?_ | refine em_ fun x_ hx_ => ?_ | refine Elem1.mk fun e_ he_ => ?_); refine g0_ ?_))
    (refine g1_ ?_; repeat ((first | refine n1_ fun b_ => ?_ | refine n2_ fun b_ => ?_ | refine Nat1.mk fun q_ hq_ => ?_ | refine em_ fun x_ hx_ => ?_ | refine Elem1.mk fun e_ he_ => ?_); refine g1_ ?_))
    refine (hcp).use ?_; (refine g0_ ?_; repeat ((first | refine n1_ fun b_ => ?_ | refine n2_ fun b_ => ?_ | refine Nat1.mk fun q_ hq_ => ?_ | refine em_ fun x_ hx_ => ?_ | refine Elem1.mk fun e_ he_ => ?_); refine g0_ ?_))
    (refine g1_ ?_; repeat ((first | refine n1_ fun b_ => ?_ | refine n2_ fun b_ => ?_ | refine Nat1.mk fun q_ hq_ => ?_ | refine em_ fun x_ hx_ => ?_ | refine Elem1.mk fun e_ he_ => ?_); refine g1_ ?_))
    refine' loopI (α := Nat × Nat × (List Int)) (fun (i, bo, o) => [(31, .int .i64 i), (6, accV bo 1 (panesV o))]) [(3, _), (4, _), (5, _), (29, _), (30, _)] (fun (i, bo, o) => accM bo 1 (panesV o)) (fun (i, bo, o) => i ≤ h.ses.length ∧ o = (h.ses.take i).flatMap wantS ∧ o.length ≤ 12582912 * i) (fun (i, bo, o) => h.ses.length - i) (0, 0, []) ?_ ?_
    · exact ⟨Nat.zero_le _, rfl, Nat.zero_le _⟩
    rintro ⟨i, bo, o⟩ ⟨hi, ho, hol⟩
    by_cases hie : i = h.ses.length
    · subst hie
      rw [List.take_length] at ho
      (refine g0_ ?_; repeat ((first | refine n1_ fun b_ => ?_ | refine n2_ fun b_ => ?_ | refine Nat1.mk fun q_ hq_ => ?_ | refine em_ fun x_ hx_ => ?_ | refine Elem1.mk fun e_ he_ => ?_); refine g0_ ?_))
      (refine g1_ ?_; repeat ((first | refine n1_ fun b_ => ?_ | refine n2_ fun b_ => ?_ | refine Nat1.mk fun q_ hq_ => ?_ | refine em_ fun x_ hx_ => ?_ | refine Elem1.mk fun e_ he_ => ?_); refine g1_ ?_))
      exact .of_eq (by simp)
    · have hil : i < h.ses.length := by omega
      obtain ⟨x, hx⟩ : ∃ x, h.ses[i]? = some x := ⟨_, List.getElem?_eq_getElem hil⟩
      have hxo := hok.se x (List.mem_of_getElem? hx)
      have hwm : (x.wins.map encWin).length = x.wins.length := List.length_map _
      have hxw := hxo.wins
      (refine g0_ ?_; repeat ((first | refine n1_ fun b_ => ?_ | refine n2_ fun b_ => ?_ | refine Nat1.mk fun q_ hq_ => ?_ | refine em_ fun x_ hx_ => ?_ | refine Elem1.mk fun e_ he_ => ?_); refine g0_ ?_))
      (refine g1_ ?_; repeat ((first | refine n1_ fun b_ => ?_ | refine n2_ fun b_ => ?_ | refine Nat1.mk fun q_ hq_ => ?_ | refine em_ fun x_ hx_ => ?_ | refine Elem1.mk fun e_ he_ => ?_); refine g1_ ?_))
      refine' loopI (α := Nat × Nat × (List Int)) (fun (j, bo, o) => [(38, .int .i64 j), (6, accV bo 1 (panesV o))]) [(3, _), (4, _), (5, _), (29, _), (30, _), (31, _), (36, _), (37, _)] (fun (j, bo, o) => accM bo 1 (panesV o)) (fun (j, bo, o) => j ≤ x.wins.length ∧ o = (h.ses.take i).flatMap wantS ++ (x.wins.take j).flatMap (fun w => (chkT w.s 0 []).2) ∧ o.length ≤ 12582912 * i + 12 * j) (fun (j, bo, o) => x.wins.length - j) (0, bo, o) ?_ ?_
      · exact ⟨Nat.zero_le _, by rw [ho]; simp, hol⟩
      clear ho hol
      rintro ⟨j, bo, o⟩ ⟨hj, ho, hol⟩
      by_cases hje : j = x.wins.length
      · subst hje
        rw [List.take_length] at ho
        (refine g0_ ?_; repeat ((first | refine n1_ fun b_ => ?_ | refine n2_ fun b_ => ?_ | refine Nat1.mk fun q_ hq_ => ?_ | refine em_ fun x_ hx_ => ?_ | refine Elem1.mk fun e_ he_ => ?_); refine g0_ ?_))
        (refine g1_ ?_; repeat ((first | refine n1_ fun b_ => ?_ | refine n2_ fun b_ => ?_ | refine Nat1.mk fun q_ hq_ => ?_ | refine em_ fun x_ hx_ => ?_ | refine Elem1.mk fun e_ he_ => ?_); refine g1_ ?_))
        refine nx_ (i + 1, bo, o) ?_ ?_
        · exact ⟨hil, by rw [ho, take_snoc_of hx, List.flatMap_append]; simp [wantS], (show o.length ≤ 12582912 * (i + 1) by omega)⟩
        · ((try dsimp only); (try simp only [List.length_drop, List.length_take, List.length_append, List.length_cons, List.length_nil, List.length_map] at *); omega)
      · have hjl : j < x.wins.length := by omega
        obtain ⟨y, hy⟩ : ∃ y, x.wins[j]? = some y := ⟨_, List.getElem?_eq_getElem hjl⟩
        have hck := checkR_ok W y.s (hxo.win y (List.mem_of_getElem? hy)).s
        have hfew := chkT_few y.s 0 [] (by decide)
        have ho2 : o ++ (chkT y.s 0 []).2 = (h.ses.take i).flatMap wantS ++ (x.wins.take (j + 1)).flatMap (fun w => (chkT w.s 0 []).2) := by rw [take_snoc_of hy, List.flatMap_append, ← List.append_assoc, ← ho]; simp
        clear ho
        rw [encSpl_eta] at hck
        generalize chkT y.s 0 [] = C at *
        obtain ⟨c, qs⟩ := C
        dsimp only at *
        rcases qs with _ | ⟨q0, qs⟩
        · rw [show panesV [] = [] from rfl] at hck
          rcases o with _ | ⟨o0, o⟩
          · (refine g0_ ?_; repeat ((first | refine n1_ fun b_ => ?_ | refine n2_ fun b_ => ?_ | refine Nat1.mk fun q_ hq_ => ?_ | refine em_ fun x_ hx_ => ?_ | refine Elem1.mk fun e_ he_ => ?_); refine g0_ ?_))
            (refine g1_ ?_; repeat ((first | refine n1_ fun b_ => ?_ | refine n2_ fun b_ => ?_ | refine Nat1.mk fun q_ hq_ => ?_ | refine em_ fun x_ hx_ => ?_ | refine Elem1.mk fun e_ he_ => ?_); refine g1_ ?_))
            refine (hck).use ?_; (refine g0_ ?_; repeat ((first | refine n1_ fun b_ => ?_ | refine n2_ fun b_ => ?_ | refine Nat1.mk fun q_ hq_ => ?_ | refine em_ fun x_ hx_ => ?_ | refine Elem1.mk fun e_ he_ => ?_); refine g0_ ?_))
            (refine g1_ ?_; repeat ((first | refine n1_ fun b_ => ?_ | refine n2_ fun b_ => ?_ | refine Nat1.mk fun q_ hq_ => ?_ | refine em_ fun x_ hx_ => ?_ | refine Elem1.mk fun e_ he_ => ?_); refine g1_ ?_))
            refine nx_ (j + 1, bo, ([] : List Int)) ?_ ?_
            · exact ⟨hjl, (by rw [← ho2] <;> simp), (by simp only [List.length_append, List.length_cons, List.length_nil] at *; omega)⟩
            · ((try dsimp only); (try simp only [List.length_drop, List.length_take, List.length_append, List.length_cons, List.length_nil, List.length_map] at *); omega)
          · have hom : (List.map (PV.int .i64) o).length = o.length := List.length_map _
            have hol2 := hol
            rw [List.length_cons] at hol2
            (refine g0_ ?_; repeat ((first | refine n1_ fun b_ => ?_ | refine n2_ fun b_ => ?_ | refine Nat1.mk fun q_ hq_ => ?_ | refine em_ fun x_ hx_ => ?_ | refine Elem1.mk fun e_ he_ => ?_); refine g0_ ?_))
            (refine g1_ ?_; repeat ((first | refine n1_ fun b_ => ?_ | refine n2_ fun b_ => ?_ | refine Nat1.mk fun q_ hq_ => ?_ | refine em_ fun x_ hx_ => ?_ | refine Elem1.mk fun e_ he_ => ?_); refine g1_ ?_))
            refine (hck).use ?_; (refine g0_ ?_; repeat ((first | refine n1_ fun b_ => ?_ | refine n2_ fun b_ => ?_ | refine Nat1.mk fun q_ hq_ => ?_ | refine em_ fun x_ hx_ => ?_ | refine Elem1.mk fun e_ he_ => ?_); refine g0_ ?_))
            (refine g1_ ?_; repeat ((first | refine n1_ fun b_ => ?_ | refine n2_ fun b_ => ?_ | refine Nat1.mk fun q_ hq_ => ?_ | refine em_ fun x_ hx_ => ?_ | refine Elem1.mk fun e_ he_ => ?_); refine g1_ ?_))
            rw [List.append_nil]
            refine nx_ (j + 1, b_, o0 :: o) ?_ ?_
            · exact ⟨hjl, (by rw [← ho2] <;> simp), (by simp only [List.length_append, List.length_cons, List.length_nil] at *; omega)⟩
            · ((try dsimp only); (try simp only [List.length_drop, List.length_take, List.length_append, List.length_cons, List.length_nil, List.length_map] at *); omega)
        · rw [show panesV (q0 :: qs) = .int .i64 q0 :: panesV qs from rfl] at hck
          have hpl := panesV_len qs
          have hfew2 := hfew
          rw [List.length_cons] at hfew2
          rcases o with _ | ⟨o0, o⟩
          · (refine g0_ ?_; repeat ((first | refine n1_ fun b_ => ?_ | refine n2_ fun b_ => ?_ | refine Nat1.mk fun q_ hq_ => ?_ | refine em_ fun x_ hx_ => ?_ | refine Elem1.mk fun e_ he_ => ?_); refine g0_ ?_))
            (refine g1_ ?_; repeat ((first | refine n1_ fun b_ => ?_ | refine n2_ fun b_ => ?_ | refine Nat1.mk fun q_ hq_ => ?_ | refine em_ fun x_ hx_ => ?_ | refine Elem1.mk fun e_ he_ => ?_); refine g1_ ?_))
            refine (hck).use ?_; (refine g0_ ?_; repeat ((first | refine n1_ fun b_ => ?_ | refine n2_ fun b_ => ?_ | refine Nat1.mk fun q_ hq_ => ?_ | refine em_ fun x_ hx_ => ?_ | refine Elem1.mk fun e_ he_ => ?_); refine g0_ ?_))
            (refine g1_ ?_; repeat ((first | refine n1_ fun b_ => ?_ | refine n2_ fun b_ => ?_ | refine Nat1.mk fun q_ hq_ => ?_ | refine em_ fun x_ hx_ => ?_ | refine Elem1.mk fun e_ he_ => ?_); refine g1_ ?_))
            refine need.mk (ints_all (q0 :: qs)) ?_
            (refine g0_ ?_; repeat ((first | refine n1_ fun b_ => ?_ | refine n2_ fun b_ => ?_ | refine Nat1.mk fun q_ hq_ => ?_ | refine em_ fun x_ hx_ => ?_ | refine Elem1.mk fun e_ he_ => ?_); refine g0_ ?_))
            refine nx_ (j + 1, b_, q0 :: qs) ?_ ?_
            · exact ⟨hjl, (by rw [← ho2] <;> simp), (by simp only [List.length_append, List.length_cons, List.length_nil] at *; omega)⟩
            · ((try dsimp only); (try simp only [List.length_drop, List.length_take, List.length_append, List.length_cons, List.length_nil, List.length_map] at *); omega)
          · have hom : (List.map (PV.int .i64) o).length = o.length := List.length_map _
            have hol2 := hol
            rw [List.length_cons] at hol2
            (refine g0_ ?_; repeat ((first | refine n1_ fun b_ => ?_ | refine n2_ fun b_ => ?_ | refine Nat1.mk fun q_ hq_ => ?_ | refine em_ fun x_ hx_ => ?_ | refine Elem1.mk fun e_ he_ => ?_); refine g0_ ?_))
            (refine g1_ ?_; repeat ((first | refine n1_ fun b_ => ?_ | refine n2_ fun b_ => ?_ | refine Nat1.mk fun q_ hq_ => ?_ | refine em_ fun x_ hx_ => ?_ | refine Elem1.mk fun e_ he_ => ?_); refine g1_ ?_))
            refine (hck).use ?_; (refine g0_ ?_; repeat ((first | refine n1_ fun b_ => ?_ | refine n2_ fun b_ => ?_ | refine Nat1.mk fun q_ hq_ => ?_ | refine em_ fun x_ hx_ => ?_ | refine Elem1.mk fun e_ he_ => ?_); refine g0_ ?_))
            (refine g1_ ?_; repeat ((first | refine n1_ fun b_ => ?_ | refine n2_ fun b_ => ?_ | refine Nat1.mk fun q_ hq_ => ?_ | refine em_ fun x_ hx_ => ?_ | refine Elem1.mk fun e_ he_ => ?_); refine g1_ ?_))
            refine need.mk (ints_all (q0 :: qs)) ?_
            (refine g0_ ?_; repeat ((first | refine n1_ fun b_ => ?_ | refine n2_ fun b_ => ?_ | refine Nat1.mk fun q_ hq_ => ?_ | refine em_ fun x_ hx_ => ?_ | refine Elem1.mk fun e_ he_ => ?_); refine g0_ ?_))
            rw [show (List.map (PV.int .i64) o).length + 1 + (PV.int .i64 q0 :: panesV qs).length = (List.map (PV.int .i64) (o ++ q0 :: qs)).length + 1 from by simp [panesV]; omega]
            rw [show (PV.int .i64 o0 :: List.map (PV.int .i64) o) ++ (PV.int .i64 q0 :: panesV qs) = panesV (o0 :: o ++ q0 :: qs) from by simp [panesV]]
            refine nx_ (j + 1, b_, o0 :: o ++ q0 :: qs) ?_ ?_
            · exact ⟨hjl, (by rw [← ho2] <;> simp), (by simp only [List.length_append, List.length_cons, List.length_nil] at *; omega)⟩
            · ((try dsimp only); (try simp only [List.length_drop, List.length_take, List.length_append, List.length_cons, List.length_nil, List.length_map] at *); omega)
end Go.Eng.YtmodblkagimhlaaDoor
end
