/- Texts put together: CmpA, CmpB, CmpC. -/
import Derived.Test.YtjkdkofpabocmaaDoorMCM1
import Derived.Test.YtjkdkofpabocmaaDoorMSH
import Derived.Test.YtjkdkofpabocmaaDoorMG2
import Derived.Test.YtjkdkofpabocmaaDoorMG3
/- Frames: who has a cell (b_ x_ q_ e_). -/
section
namespace Go.Eng.YtjkdkofpabocmaaDoor
open Go Go.Eng Go.Proofs
variable (W : World)
set_option linter.unusedSimpArgs false
set_option maxRecDepth 100000
set_option linter.unusedVariables false
set_option maxHeartbeats 4000000
def Plc.small (a : Plc) : Prop := 0 ≤ a.x ∧ 0 ≤ a.y ∧ 1 ≤ a.w ∧ 1 ≤ a.h ∧ a.x + a.w ≤ 1000 ∧ a.y + a.h ≤ 1000
def hasB (a : Plc) (x y : Int) : Bool := decide (a.x ≤ x) && decide (x < a.x + a.w) && decide (a.y ≤ y) && decide (y < a.y + a.h)
theorem hasB_eq (a : Plc) (x y : Int) : hasB a x y = decide (a.has x y) := by
  rw [Bool.eq_iff_iff, decide_eq_true_iff]
  unfold hasB Plc.has
  simp only [Bool.and_eq_true, decide_eq_true_eq, and_assoc]
def idxP (p : Plc → Bool) : Nat → List Plc → Int
  | _, [] => -1
  | i, a :: r => if p a = true then i else idxP p (i + 1) r
theorem idxP_iff (p : Plc → Bool) : ∀ (l : List Plc) (i : Nat), 0 ≤ idxP p i l ↔ ∃ a ∈ l, p a = true
  | [], i => by simp [idxP]
  | a :: r, i => by
    rw [idxP]
    split
    · rename_i h
      exact ⟨fun _ => ⟨a, List.mem_cons_self, h⟩, fun _ => by omega⟩
    · rename_i h
      rw [idxP_iff p r (i + 1)]
      constructor
      · rintro ⟨k, hk, h2⟩; exact ⟨k, List.mem_cons_of_mem _ hk, h2⟩
      · rintro ⟨k, hk, h2⟩
        rcases List.mem_cons.1 hk with rfl | hk
        · exact absurd h2 h
        · exact ⟨k, hk, h2⟩
theorem idxP_at (p : Plc → Bool) : ∀ (l : List Plc) (i : Nat), 0 ≤ idxP p i l → ∃ k a, idxP p i l = ((i + k : Nat) : Int) ∧ l[k]? = some a ∧ p a = true
  | [], i, h => by simp [idxP] at h
  | a :: r, i, h => by
    rw [idxP] at h ⊢
    split
    · rename_i hp
      exact ⟨0, a, rfl, rfl, hp⟩
    · rename_i hp
      rw [if_neg hp] at h
      obtain ⟨k, b, h1, h2, h3⟩ := idxP_at p r (i + 1) h
      exact ⟨k + 1, b, by rw [h1]; congr 1; omega, h2, h3⟩
theorem idxP_bd (p : Plc → Bool) : ∀ (l : List Plc) (i : Nat), -1 ≤ idxP p i l ∧ idxP p i l ≤ i + l.length
  | [], i => by simp [idxP]
  | a :: r, i => by
    rw [idxP]
    have := idxP_bd p r (i + 1)
    simp only [List.length_cons]
    split <;> push_cast at * <;> omega
theorem cov_idx (L : List Plc) (x y : Int) : 0 ≤ idxP (fun a => hasB a x y) 0 L ↔ 0 < covN L x y := by
  rw [idxP_iff]
  constructor
  · rintro ⟨a, h1, h2⟩
    rw [hasB_eq] at h2
    exact cov_of h1 (of_decide_eq_true h2)
  · intro h
    obtain ⟨a, h1, h2⟩ := cov_pos h
    exact ⟨a, h1, by rw [hasB_eq]; exact decide_eq_true h2⟩
theorem index_plcs (p : Plc → Bool) (f : FuncId) (caps : List PV) (L : List Plc) (hl : L.length ≤ 1000) (hf : ∀ a ∈ L, Pure Tryd.prog W f (encPlc a :: caps) (.bool (p a))) :
    Pure Tryd.prog W 60 [.sl 5 (plcsV L), .fn f caps] (.int .i64 (idxP p 0 L)) := by
  have hll : (plcsV L).length = L.length := List.length_map _
  refine Pure.of (acalls_of_vc (drawOk W) Tryd.func60 rfl (by decide) (by decide) rfl ?_)
  (refine g0_ ?_; repeat ((first | refine n1_ fun b_ => ?_ | refine n2_ fun b_ => ?_ | refine Nat1.mk fun q_ hq_ => ?_ | refine em_ fun x_ hx_ => ?_ | refine Elem1.mk fun e_ he_ => ?_); refine g0_ ?_))
  refine' loopI (α := Nat) (fun i => [(8, .int .i64 i)]) [(0, _), (1, _), (7, _)] (fun i => []) (fun i => i ≤ L.length ∧ idxP p i (L.drop i) = idxP p 0 L) (fun i => L.length - i) 0 ?_ ?_
  · exact ⟨Nat.zero_le _, rfl⟩
  rintro i ⟨hi, hb⟩
  (refine g0_ ?_; repeat ((first | refine n1_ fun b_ => ?_ | refine n2_ fun b_ => ?_ | refine Nat1.mk fun q_ hq_ => ?_ | refine em_ fun x_ hx_ => ?_ | refine Elem1.mk fun e_ he_ => ?_); refine g0_ ?_))
  refine brec ?_; intro c_ h; (try rw [h]); cases c_ <;> replace h := nm_ h
  · have hil : i = L.length := by omega
    rw [hil, List.drop_length, idxP] at hb
    (refine g0_ ?_; repeat ((first | refine n1_ fun b_ => ?_ | refine n2_ fun b_ => ?_ | refine Nat1.mk fun q_ hq_ => ?_ | refine em_ fun x_ hx_ => ?_ | refine Elem1.mk fun e_ he_ => ?_); refine g0_ ?_))
    exact .of_eq (by rw [← hb])
  · have hil : i < L.length := by omega
    have hn := hf _ (List.getElem_mem hil)
    have hg := List.getElem?_eq_getElem hil
    rw [List.drop_eq_getElem_cons hil, idxP] at hb
    generalize L[i] = n at *
    (refine g0_ ?_; repeat ((first | refine n1_ fun b_ => ?_ | refine n2_ fun b_ => ?_ | refine Nat1.mk fun q_ hq_ => ?_ | refine em_ fun x_ hx_ => ?_ | refine Elem1.mk fun e_ he_ => ?_); refine g0_ ?_))
    rw [forceL_eq]
    refine callV_of ?_
    refine (hn).use ?_; (refine g0_ ?_; repeat ((first | refine n1_ fun b_ => ?_ | refine n2_ fun b_ => ?_ | refine Nat1.mk fun q_ hq_ => ?_ | refine em_ fun x_ hx_ => ?_ | refine Elem1.mk fun e_ he_ => ?_); refine g0_ ?_))
    cases hq : p n with
    | true =>
      rw [if_pos hq] at hb
      (refine g0_ ?_; repeat ((first | refine n1_ fun b_ => ?_ | refine n2_ fun b_ => ?_ | refine Nat1.mk fun q_ hq_ => ?_ | refine em_ fun x_ hx_ => ?_ | refine Elem1.mk fun e_ he_ => ?_); refine g0_ ?_))
      exact .of_eq (by rw [← hb])
    | false =>
      rw [if_neg (by rw [hq]; decide)] at hb
      (refine g0_ ?_; repeat ((first | refine n1_ fun b_ => ?_ | refine n2_ fun b_ => ?_ | refine Nat1.mk fun q_ hq_ => ?_ | refine em_ fun x_ hx_ => ?_ | refine Elem1.mk fun e_ he_ => ?_); refine g0_ ?_))
      refine nx_ (i + 1) ?_ ?_
      · exact ⟨by omega, hb⟩
      · ((try dsimp only); (try simp only [List.length_drop, List.length_take, List.length_append, List.length_cons, List.length_nil, List.length_map] at *); omega)
theorem contains_plcs (p : Plc → Bool) (f : FuncId) (caps : List PV) (L : List Plc) (hl : L.length ≤ 1000) (hf : ∀ a ∈ L, Pure Tryd.prog W f (encPlc a :: caps) (.bool (p a))) :
    Pure Tryd.prog W 91 [.sl 5 (plcsV L), .fn f caps] (.bool (decide (0 ≤ idxP p 0 L))) := by
  have hx := index_plcs W p f caps L hl hf
  have hb := idxP_bd p L 0
  refine Pure.of (acalls_of_vc (drawOk W) Tryd.func91 rfl (by decide) (by decide) rfl ?_)
  (refine g0_ ?_; repeat ((first | refine n1_ fun b_ => ?_ | refine n2_ fun b_ => ?_ | refine Nat1.mk fun q_ hq_ => ?_ | refine em_ fun x_ hx_ => ?_ | refine Elem1.mk fun e_ he_ => ?_); refine g0_ ?_))
  refine (hx).use ?_; (refine g0_ ?_; repeat ((first | refine n1_ fun b_ => ?_ | refine n2_ fun b_ => ?_ | refine Nat1.mk fun q_ hq_ => ?_ | refine em_ fun x_ hx_ => ?_ | refine Elem1.mk fun e_ he_ => ?_); refine g0_ ?_))
  (refine g0_ ?_; repeat ((first | refine n1_ fun b_ => ?_ | refine n2_ fun b_ => ?_ | refine Nat1.mk fun q_ hq_ => ?_ | refine em_ fun x_ hx_ => ?_ | refine Elem1.mk fun e_ he_ => ?_); refine g0_ ?_))
  exact .refl _
theorem has1_ok (a : Plc) (ha : a.small) (x y : Int) : Pure Tryd.prog W 92 [encPlc a, .ip (.int .i64 x) 0, .ip (.int .i64 y) 0] (.bool (hasB a x y)) := by
  unfold Plc.small at ha
  refine Pure.of (acalls_of_vc (drawOk W) Tryd.func92 rfl (by decide) (by decide) rfl ?_)
  refine wh ?_; repeat' (first | (refine brec ?_; intro c_ h_; (try rw [h_]); cases c_ <;> (first | replace h_ := of_decide_eq_true h_ | replace h_ := Decidable.not_not.1 (of_decide_eq_false h_) | replace h_ := of_decide_eq_false h_ | (replace h_ := Bool.eq_false_iff.1 h_; simp only [true_and, and_true, Bool.true_and, Bool.and_true, Bool.not_true, Bool.not_false, Bool.and_eq_true, Bool.not_eq_true, Bool.not_eq_false, Bool.or_eq_true, Bool.not_eq_true', Bool.not_eq_false', decide_eq_true_eq, decide_eq_false_iff_not, Decidable.not_not, ne_eq, beq_iff_eq] at h_) | simp only [true_and, and_true, Bool.true_and, Bool.and_true, Bool.not_true, Bool.not_false, Bool.and_eq_true, Bool.not_eq_true, Bool.not_eq_false, Bool.or_eq_true, Bool.not_eq_true', Bool.not_eq_false', decide_eq_true_eq, decide_eq_false_iff_not, Decidable.not_not, ne_eq, beq_iff_eq] at h_ | skip) <;> refine wh ?_) | ((first | refine CondC.part ?_ | (refine GuardC.part ?_; refine wh ?_; fail_if_success refine brec ?_) | (apply GuardC.sp; (case' h1 => (refine wh ?_; (repeat ((refine need.mk ?_ ?_; focus (first | with_reducible exact fun h => h | with_reducible exact not_of_false | exact fun _ => rfl | (intro h_; simp [h_]; done) | (intro h_; simp_all; done))); refine wh ?_)); exact trivial)); (case' h2 => (intro hg_; (refine wh ?_; repeat ((first | (apply RowAt.mk; (case' hl => (repeat (first | exact .here _ _ _ | apply Look.there | exact Look.fam (by assumption) _)))) | refine Fits.ok (by omega) (by omega) ?_ | (refine need.mk ?_ ?_; focus (first | (first | omega | exact wkMem.skip wkMem.rfl' | rfl | (simp; done) | (simp [cellsB, PV.flat, cellB]; done) | (simp <;> omega) | (simp only [true_and, and_true, Bool.true_and, Bool.and_true, Bool.not_true, Bool.not_false, Bool.and_eq_true, Bool.not_eq_true, Bool.not_eq_false, Bool.or_eq_true, Bool.not_eq_true', Bool.not_eq_false', decide_eq_true_eq, decide_eq_false_iff_not, Decidable.not_not, ne_eq, beq_iff_eq]; omega) | (rw [Bool.eq_false_iff]; simp only [true_and, and_true, Bool.true_and, Bool.and_true, Bool.not_true, Bool.not_false, Bool.and_eq_true, Bool.not_eq_true, Bool.not_eq_false, Bool.or_eq_true, Bool.not_eq_true', Bool.not_eq_false', decide_eq_true_eq, decide_eq_false_iff_not, Decidable.not_not, ne_eq, beq_iff_eq]; omega)) | (simp at hg_; omega) | (intros; simp_all; done) | (intros; simp_all; omega))) | (refine New1.mk fun b_ hb_ => ?_; clear hb_) | (refine New2.mk fun b_ hb_ => ?_; clear hb_) | (refine Nat1.mk fun q_ hq_ => ?_; (first | (obtain rfl := Int.ofNat.inj hq_; clear hq_) | skip)) | refine at_known (by assumption) ?_ | (refine Elem1.mk fun e_ he_ => ?_; (first | (obtain ⟨x_, hx_, rfl⟩ := getMap he_; clear he_) | (obtain rfl := Option.some.inj he_; clear he_) | skip)) | (refine Lst1.mk fun s_ hs_ => ?_; (try simp only [List.take_length, List.drop_zero, ← List.map_take, ← List.map_drop] at hs_); subst hs_)); refine wh ?_)); refine And.intro ?_ rfl; exact Eq.refl _))) | refine GuardC.part ?_ | (refine needO.mk ?_ ?_; focus (refine wh ?_; (repeat ((refine need.mk ?_ ?_; focus (first | with_reducible exact fun h => h | with_reducible exact not_of_false | exact fun _ => rfl | (intro h_; simp [h_]; done) | (intro h_; simp_all; done))); refine wh ?_)); exact trivial)) | with_reducible refine need.mk (fun h => h) ?_ | with_reducible refine need.mk not_of_false ?_ | (apply RowAt.mk; (case' hl => (repeat (first | exact .here _ _ _ | apply Look.there | exact Look.fam (by assumption) _)))) | refine Fits.ok (by omega) (by omega) ?_ | (refine need.mk ?_ ?_; focus (first | omega | exact wkMem.skip wkMem.rfl' | rfl | (simp; done) | (simp [cellsB, PV.flat, cellB]; done) | (simp <;> omega) | (simp only [true_and, and_true, Bool.true_and, Bool.and_true, Bool.not_true, Bool.not_false, Bool.and_eq_true, Bool.not_eq_true, Bool.not_eq_false, Bool.or_eq_true, Bool.not_eq_true', Bool.not_eq_false', decide_eq_true_eq, decide_eq_false_iff_not, Decidable.not_not, ne_eq, beq_iff_eq]; omega) | (rw [Bool.eq_false_iff]; simp only [true_and, and_true, Bool.true_and, Bool.and_true, Bool.not_true, Bool.not_false, Bool.and_eq_true, Bool.not_eq_true, Bool.not_eq_false, Bool.or_eq_true, Bool.not_eq_true', Bool.not_eq_false', decide_eq_true_eq, decide_eq_false_iff_not, Decidable.not_not, ne_eq, beq_iff_eq]; omega))) | (refine New1.mk fun b_ hb_ => ?_; clear hb_) | (refine New2.mk fun b_ hb_ => ?_; clear hb_) | (refine Nat1.mk fun q_ hq_ => ?_; (first | (obtain rfl := Int.ofNat.inj hq_; clear hq_) | skip)) | refine at_known (by assumption) ?_ | (refine Elem1.mk fun e_ he_ => ?_; (first | (obtain ⟨x_, hx_, rfl⟩ := getMap he_; clear he_) | (obtain rfl := Option.some.inj he_; clear he_) | skip)) | (refine Lst1.mk fun s_ hs_ => ?_; (try simp only [List.take_length, List.drop_zero, ← List.map_take, ← List.map_drop] at hs_); subst hs_)); refine wh ?_) | (((refine Frz.of_eq ?_; (conv => lhs; whnf)); simp [hasB, *]); done))
theorem inPlace_ok (L : List Plc) (hl : L.length ≤ 1000) (hs : ∀ a ∈ L, a.small) (x y : Int) : Pure Tryd.prog W 62 [.sl 5 (plcsV L), .int .i64 x, .int .i64 y] (.bool (decide (0 < covN L x y))) := by
  have hc := contains_plcs W (fun a => hasB a x y) 92 [.ip (.int .i64 x) 0, .ip (.int .i64 y) 0] L hl (fun a h => has1_ok W a (hs a h) x y)
  rw [show decide (0 ≤ idxP (fun a => hasB a x y) 0 L) = decide (0 < covN L x y) from decide_eq_decide.2 (cov_idx L x y)] at hc
  refine Pure.of (acalls_of_vc (drawOk W) Tryd.func62 rfl (by decide) (by decide) rfl ?_)
  (refine g0_ ?_; repeat ((first | refine n1_ fun b_ => ?_ | refine n2_ fun b_ => ?_ | refine Nat1.mk fun q_ hq_ => ?_ | refine em_ fun x_ hx_ => ?_ | refine Elem1.mk fun e_ he_ => ?_); refine g0_ ?_))
  refine hc.borrow rfl rfl (fun j hj => ?_) ?_
  · match j, hj with
    | 0, _ => exact .refl _
    | 1, _ =>
      refine .fn _ _ _ rfl fun j hj => ?_
      match j, hj with
      | 0, _ => exact .bref _ _ _ _ _ _ (.there _ _ _ _ _ (.here _ _ _))
      | 1, _ => exact .bref _ _ _ _ _ _ (.here _ _ _)
  exact .refl _
end Go.Eng.YtjkdkofpabocmaaDoor
end

/- Frames: the ways of a border, what is beside (b_ x_ q_ e_). -/
section
namespace Go.Eng.YtjkdkofpabocmaaDoor
open Go Go.Eng Go.Proofs
variable (W : World)
set_option linter.unusedSimpArgs false
set_option maxRecDepth 100000
set_option linter.unusedVariables false
set_option maxHeartbeats 4000000
def besB (r : Plc) (x y : Int) : Bool := decide (r.x - 1 ≤ x) && decide (x ≤ r.x + r.w) && decide (r.y - 1 ≤ y) && decide (y ≤ r.y + r.h)
theorem besB_eq (r : Plc) (x y : Int) : besB r x y = besideB r x y := by
  rw [Bool.eq_iff_iff]
  unfold besB besideB
  simp only [Bool.and_eq_true, decide_eq_true_eq, and_assoc]
theorem beside_ok (r : Plc) (hr : r.small) (x y : Int) : Pure Tryd.prog W 65 [.agg [.int .i64 r.x, .int .i64 r.y, .int .i64 r.w, .int .i64 r.h], .int .i64 x, .int .i64 y] (.bool (besideB r x y)) := by
  unfold Plc.small at hr
  rw [← besB_eq]
  refine Pure.of (acalls_of_vc (drawOk W) Tryd.func65 rfl (by decide) (by decide) rfl ?_)
  refine wh ?_; repeat' (first | (refine brec ?_; intro c_ h_; (try rw [h_]); cases c_ <;> (first | replace h_ := of_decide_eq_true h_ | replace h_ := Decidable.not_not.1 (of_decide_eq_false h_) | replace h_ := of_decide_eq_false h_ | (replace h_ := Bool.eq_false_iff.1 h_; simp only [true_and, and_true, Bool.true_and, Bool.and_true, Bool.not_true, Bool.not_false, Bool.and_eq_true, Bool.not_eq_true, Bool.not_eq_false, Bool.or_eq_true, Bool.not_eq_true', Bool.not_eq_false', decide_eq_true_eq, decide_eq_false_iff_not, Decidable.not_not, ne_eq, beq_iff_eq] at h_) | simp only [true_and, and_true, Bool.true_and, Bool.and_true, Bool.not_true, Bool.not_false, Bool.and_eq_true, Bool.not_eq_true, Bool.not_eq_false, Bool.or_eq_true, Bool.not_eq_true', Bool.not_eq_false', decide_eq_true_eq, decide_eq_false_iff_not, Decidable.not_not, ne_eq, beq_iff_eq] at h_ | skip) <;> refine wh ?_) | ((first | refine CondC.part ?_ | (refine GuardC.part ?_; refine wh ?_; fail_if_success refine brec ?_) | (apply GuardC.sp; (case' h1 => (refine wh ?_; (repeat ((refine need.mk ?_ ?_; focus (first | with_reducible exact fun h => h | with_reducible exact not_of_false | exact fun _ => rfl | (intro h_; simp [h_]; done) | (intro h_; simp_all; done))); refine wh ?_)); exact trivial)); (case' h2 => (intro hg_; (refine wh ?_; repeat ((first | (apply RowAt.mk; (case' hl => (repeat (first | exact .here _ _ _ | apply Look.there | exact Look.fam (by assumption) _)))) | refine Fits.ok (by omega) (by omega) ?_ | (refine need.mk ?_ ?_; focus (first | (first | omega | exact wkMem.skip wkMem.rfl' | rfl | (simp; done) | (simp [cellsB, PV.flat, cellB]; done) | (simp <;> omega) | (simp only [true_and, and_true, Bool.true_and, Bool.and_true, Bool.not_true, Bool.not_false, Bool.and_eq_true, Bool.not_eq_true, Bool.not_eq_false, Bool.or_eq_true, Bool.not_eq_true', Bool.not_eq_false', decide_eq_true_eq, decide_eq_false_iff_not, Decidable.not_not, ne_eq, beq_iff_eq]; omega) | (rw [Bool.eq_false_iff]; simp only [true_and, and_true, Bool.true_and, Bool.and_true, Bool.not_true, Bool.not_false, Bool.and_eq_true, Bool.not_eq_true, Bool.not_eq_false, Bool.or_eq_true, Bool.not_eq_true', Bool.not_eq_false', decide_eq_true_eq, decide_eq_false_iff_not, Decidable.not_not, ne_eq, beq_iff_eq]; omega)) | (simp at hg_; omega) | (intros; simp_all; done) | (intros; simp_all; omega))) | (refine New1.mk fun b_ hb_ => ?_; clear hb_) | (refine New2.mk fun b_ hb_ => ?_; clear hb_) | (refine Nat1.mk fun q_ hq_ => ?_; (first | (obtain rfl := Int.ofNat.inj hq_; clear hq_) | skip)) | refine at_known (by assumption) ?_ | (refine Elem1.mk fun e_ he_ => ?_; (first | (obtain ⟨x_, hx_, rfl⟩ := getMap he_; clear he_) | (obtain rfl := Option.some.inj he_; clear he_) | skip)) | (refine Lst1.mk fun s_ hs_ => ?_; (try simp only [List.take_length, List.drop_zero, ← List.map_take, ← List.map_drop] at hs_); subst hs_)); refine wh ?_)); refine And.intro ?_ rfl; exact Eq.refl _))) | refine GuardC.part ?_ | (refine needO.mk ?_ ?_; focus (refine wh ?_; (repeat ((refine need.mk ?_ ?_; focus (first | with_reducible exact fun h => h | with_reducible exact not_of_false | exact fun _ => rfl | (intro h_; simp [h_]; done) | (intro h_; simp_all; done))); refine wh ?_)); exact trivial)) | with_reducible refine need.mk (fun h => h) ?_ | with_reducible refine need.mk not_of_false ?_ | (apply RowAt.mk; (case' hl => (repeat (first | exact .here _ _ _ | apply Look.there | exact Look.fam (by assumption) _)))) | refine Fits.ok (by omega) (by omega) ?_ | (refine need.mk ?_ ?_; focus (first | omega | exact wkMem.skip wkMem.rfl' | rfl | (simp; done) | (simp [cellsB, PV.flat, cellB]; done) | (simp <;> omega) | (simp only [true_and, and_true, Bool.true_and, Bool.and_true, Bool.not_true, Bool.not_false, Bool.and_eq_true, Bool.not_eq_true, Bool.not_eq_false, Bool.or_eq_true, Bool.not_eq_true', Bool.not_eq_false', decide_eq_true_eq, decide_eq_false_iff_not, Decidable.not_not, ne_eq, beq_iff_eq]; omega) | (rw [Bool.eq_false_iff]; simp only [true_and, and_true, Bool.true_and, Bool.and_true, Bool.not_true, Bool.not_false, Bool.and_eq_true, Bool.not_eq_true, Bool.not_eq_false, Bool.or_eq_true, Bool.not_eq_true', Bool.not_eq_false', decide_eq_true_eq, decide_eq_false_iff_not, Decidable.not_not, ne_eq, beq_iff_eq]; omega))) | (refine New1.mk fun b_ hb_ => ?_; clear hb_) | (refine New2.mk fun b_ hb_ => ?_; clear hb_) | (refine Nat1.mk fun q_ hq_ => ?_; (first | (obtain rfl := Int.ofNat.inj hq_; clear hq_) | skip)) | refine at_known (by assumption) ?_ | (refine Elem1.mk fun e_ he_ => ?_; (first | (obtain ⟨x_, hx_, rfl⟩ := getMap he_; clear he_) | (obtain rfl := Option.some.inj he_; clear he_) | skip)) | (refine Lst1.mk fun s_ hs_ => ?_; (try simp only [List.take_length, List.drop_zero, ← List.map_take, ← List.map_drop] at hs_); subst hs_)); refine wh ?_) | (((refine Frz.of_eq ?_; (conv => lhs; whnf)); simp [besB, *]); done))
theorem frame1_ok (a : Plc) (act : Int) : Pure Tryd.prog W 61 [encPlc a, .ip (.int .i64 act) 0] (.bool (decide (a.p = act))) := by
  refine Pure.of (acalls_of_vc (drawOk W) Tryd.func61 rfl (by decide) (by decide) rfl ?_)
  (refine g0_ ?_; repeat ((first | refine n1_ fun b_ => ?_ | refine n2_ fun b_ => ?_ | refine Nat1.mk fun q_ hq_ => ?_ | refine em_ fun x_ hx_ => ?_ | refine Elem1.mk fun e_ he_ => ?_); refine g0_ ?_))
  exact .refl _
def wayTo (L : List Plc) (w h x y : Int) : Nat → Int
  | 0 => 0
  | 1 => bitB (openB L w h x (y - 1)) 1
  | 2 => bitB (openB L w h x (y - 1)) 1 + bitB (openB L w h x (y + 1)) 2
  | 3 => bitB (openB L w h x (y - 1)) 1 + bitB (openB L w h x (y + 1)) 2 + bitB (openB L w h (x - 1) y) 4
  | _ => wayN L w h x y
theorem openB_f {L : List Plc} {w h x y : Int} (hc : ¬ (0 ≤ x ∧ x < w ∧ 0 ≤ y ∧ y < h) ∨ 0 < covN L x y) : openB L w h x y = false := decide_eq_false (by omega)
theorem openB_t {L : List Plc} {w h x y : Int} (h1 : 0 ≤ x ∧ x < w ∧ 0 ≤ y ∧ y < h) (hc : ¬ 0 < covN L x y) : openB L w h x y = true := decide_eq_true (by omega)
theorem way_f {L : List Plc} {w h x y n : Int} : ∀ i : Nat, i < 4 → n = wayTo L w h x y i → ([openB L w h x (y - 1), openB L w h x (y + 1), openB L w h (x - 1) y, openB L w h (x + 1) y].getD i true = false) → n = wayTo L w h x y (i + 1)
  | 0, _, hn, h => by
    simp only [List.getD_cons_zero] at h
    rw [hn]; simp [wayTo, bitB, h]
  | 1, _, hn, h => by
    simp only [List.getD_cons_zero, List.getD_cons_succ] at h
    rw [hn]; simp [wayTo, bitB, h]
  | 2, _, hn, h => by
    simp only [List.getD_cons_zero, List.getD_cons_succ] at h
    rw [hn]; simp [wayTo, bitB, h]
  | 3, _, hn, h => by
    simp only [List.getD_cons_zero, List.getD_cons_succ] at h
    rw [hn]; simp [wayTo, wayN, bitB, h]
theorem way_t {L : List Plc} {w h x y n : Int} : ∀ i : Nat, i < 4 → n = wayTo L w h x y i → ([openB L w h x (y - 1), openB L w h x (y + 1), openB L w h (x - 1) y, openB L w h (x + 1) y].getD i true = true) → bitop .or .i64 n (2 ^ i) = wayTo L w h x y (i + 1)
  | 0, _, hn, ho => by
    simp only [List.getD_cons_zero] at ho
    rw [hn]; simp only [wayTo, ho]; decide
  | 1, _, hn, ho => by
    simp only [List.getD_cons_zero, List.getD_cons_succ] at ho
    rw [hn]; simp only [wayTo, ho]
    cases openB L w h x (y - 1) <;> decide
  | 2, _, hn, ho => by
    simp only [List.getD_cons_zero, List.getD_cons_succ] at ho
    rw [hn]; simp only [wayTo, ho]
    cases openB L w h x (y - 1) <;> cases openB L w h x (y + 1) <;> decide
  | 3, _, hn, ho => by
    simp only [List.getD_cons_zero, List.getD_cons_succ] at ho
    rw [hn]; simp only [wayTo, wayN, ho]
    cases openB L w h x (y - 1) <;> cases openB L w h x (y + 1) <;> cases openB L w h (x - 1) y <;> decide
theorem ways_ok (L : List Plc) (hl : L.length ≤ 1000) (hs : ∀ a ∈ L, a.small) (w h x y : Int) (hx : 0 ≤ x ∧ x < 1000) (hy : 0 ≤ y ∧ y < 1000) : Pure Tryd.prog W 64 [.sl 5 (plcsV L), .int .i64 w, .int .i64 h, .int .i64 x, .int .i64 y] (.int .i64 (wayN L w h x y)) := by
  have c0 := inPlace_ok W L hl hs (x + 0) (y + -1)
  rw [show covN L (x + 0) (y + -1) = covN L x (y - 1) by congr 1 <;> omega] at c0
  have c1 := inPlace_ok W L hl hs (x + 0) (y + 1)
  rw [show covN L (x + 0) (y + 1) = covN L x (y + 1) by congr 1 <;> omega] at c1
  have c2 := inPlace_ok W L hl hs (x + -1) (y + 0)
  rw [show covN L (x + -1) (y + 0) = covN L (x - 1) y by congr 1 <;> omega] at c2
  have c3 := inPlace_ok W L hl hs (x + 1) (y + 0)
  rw [show covN L (x + 1) (y + 0) = covN L (x + 1) y by congr 1 <;> omega] at c3
  refine Pure.of (acalls_of_vc (drawOk W) Tryd.func64 rfl (by decide) (by decide) rfl ?_)
  (refine g0_ ?_; repeat ((first | refine n1_ fun b_ => ?_ | refine n2_ fun b_ => ?_ | refine Nat1.mk fun q_ hq_ => ?_ | refine em_ fun x_ hx_ => ?_ | refine Elem1.mk fun e_ he_ => ?_); refine g0_ ?_))
  refine' loopI (α := Nat × Int) (fun (i, n) => [(21, .int .i64 i), (11, .int .i64 n)]) [(0, _), (1, _), (2, _), (3, _), (4, _), (20, _)] (fun (i, n) => []) (fun (i, n) => i ≤ 4 ∧ n = wayTo L w h x y i) (fun (i, n) => 4 - i) (0, 0) ?_ ?_
  · exact ⟨by decide, rfl⟩
  rintro ⟨i, n⟩ ⟨hi, hn⟩
  match i, hi with
  | 4, _ =>
    (refine g0_ ?_; repeat ((first | refine n1_ fun b_ => ?_ | refine n2_ fun b_ => ?_ | refine Nat1.mk fun q_ hq_ => ?_ | refine em_ fun x_ hx_ => ?_ | refine Elem1.mk fun e_ he_ => ?_); refine g0_ ?_))
    exact .of_eq (by rw [hn]; rfl)
  | 0, _ =>
    have c_ := c0
    by_cases hR : 0 ≤ x ∧ x < w ∧ 0 ≤ (y - 1) ∧ (y - 1) < h
    · by_cases hc : 0 < covN L x (y - 1)
      · have ho : openB L w h x (y - 1) = false := openB_f (.inr hc)
        have hfn := way_f 0 (by decide) hn ho
        rw [decide_eq_true hc] at c_
        (refine g0_ ?_; repeat ((first | refine n1_ fun b_ => ?_ | refine n2_ fun b_ => ?_ | refine Nat1.mk fun q_ hq_ => ?_ | refine em_ fun x_ hx_ => ?_ | refine Elem1.mk fun e_ he_ => ?_); refine g0_ ?_))
        refine head_ ?_; (refine g0_ ?_; repeat ((first | refine n1_ fun b_ => ?_ | refine n2_ fun b_ => ?_ | refine Nat1.mk fun q_ hq_ => ?_ | refine em_ fun x_ hx_ => ?_ | refine Elem1.mk fun e_ he_ => ?_); refine g0_ ?_))
        (refine g1_ ?_; repeat ((first | refine n1_ fun b_ => ?_ | refine n2_ fun b_ => ?_ | refine Nat1.mk fun q_ hq_ => ?_ | refine em_ fun x_ hx_ => ?_ | refine Elem1.mk fun e_ he_ => ?_); refine g1_ ?_))
        refine (c_).use ?_; (refine g0_ ?_; repeat ((first | refine n1_ fun b_ => ?_ | refine n2_ fun b_ => ?_ | refine Nat1.mk fun q_ hq_ => ?_ | refine em_ fun x_ hx_ => ?_ | refine Elem1.mk fun e_ he_ => ?_); refine g0_ ?_))
        refine nx_ (0 + 1, n) ?_ ?_
        · exact ⟨by decide, hfn⟩
        · ((try dsimp only); (try simp only [List.length_drop, List.length_take, List.length_append, List.length_cons, List.length_nil, List.length_map] at *); omega)
      · have ho : openB L w h x (y - 1) = true := openB_t (by omega) hc
        rw [decide_eq_false hc] at c_
        (refine g0_ ?_; repeat ((first | refine n1_ fun b_ => ?_ | refine n2_ fun b_ => ?_ | refine Nat1.mk fun q_ hq_ => ?_ | refine em_ fun x_ hx_ => ?_ | refine Elem1.mk fun e_ he_ => ?_); refine g0_ ?_))
        refine head_ ?_; (refine g0_ ?_; repeat ((first | refine n1_ fun b_ => ?_ | refine n2_ fun b_ => ?_ | refine Nat1.mk fun q_ hq_ => ?_ | refine em_ fun x_ hx_ => ?_ | refine Elem1.mk fun e_ he_ => ?_); refine g0_ ?_))
        (refine g1_ ?_; repeat ((first | refine n1_ fun b_ => ?_ | refine n2_ fun b_ => ?_ | refine Nat1.mk fun q_ hq_ => ?_ | refine em_ fun x_ hx_ => ?_ | refine Elem1.mk fun e_ he_ => ?_); refine g1_ ?_))
        refine (c_).use ?_; (refine g0_ ?_; repeat ((first | refine n1_ fun b_ => ?_ | refine n2_ fun b_ => ?_ | refine Nat1.mk fun q_ hq_ => ?_ | refine em_ fun x_ hx_ => ?_ | refine Elem1.mk fun e_ he_ => ?_); refine g0_ ?_))
        refine nx_ (0 + 1, bitop .or .i64 n (2 ^ 0)) ?_ ?_
        · exact ⟨by decide, way_t 0 (by decide) hn ho⟩
        · ((try dsimp only); (try simp only [List.length_drop, List.length_take, List.length_append, List.length_cons, List.length_nil, List.length_map] at *); omega)
    · have ho : openB L w h x (y - 1) = false := openB_f (.inl hR)
      have hfn := way_f 0 (by decide) hn ho
      (refine g0_ ?_; repeat ((first | refine n1_ fun b_ => ?_ | refine n2_ fun b_ => ?_ | refine Nat1.mk fun q_ hq_ => ?_ | refine em_ fun x_ hx_ => ?_ | refine Elem1.mk fun e_ he_ => ?_); refine g0_ ?_))
      refine head_ ?_; (refine g0_ ?_; repeat ((first | refine n1_ fun b_ => ?_ | refine n2_ fun b_ => ?_ | refine Nat1.mk fun q_ hq_ => ?_ | refine em_ fun x_ hx_ => ?_ | refine Elem1.mk fun e_ he_ => ?_); refine g0_ ?_))
      (refine g1_ ?_; repeat ((first | refine n1_ fun b_ => ?_ | refine n2_ fun b_ => ?_ | refine Nat1.mk fun q_ hq_ => ?_ | refine em_ fun x_ hx_ => ?_ | refine Elem1.mk fun e_ he_ => ?_); refine g1_ ?_))
      refine nx_ (0 + 1, n) ?_ ?_
      · exact ⟨by decide, hfn⟩
      · ((try dsimp only); (try simp only [List.length_drop, List.length_take, List.length_append, List.length_cons, List.length_nil, List.length_map] at *); omega)
  | 1, _ =>
    have c_ := c1
    by_cases hR : 0 ≤ x ∧ x < w ∧ 0 ≤ (y + 1) ∧ (y + 1) < h
    · by_cases hc : 0 < covN L x (y + 1)
      · have ho : openB L w h x (y + 1) = false := openB_f (.inr hc)
        have hfn := way_f 1 (by decide) hn ho
        rw [decide_eq_true hc] at c_
        (refine g0_ ?_; repeat ((first | refine n1_ fun b_ => ?_ | refine n2_ fun b_ => ?_ | refine Nat1.mk fun q_ hq_ => ?_ | refine em_ fun x_ hx_ => ?_ | refine Elem1.mk fun e_ he_ => ?_); refine g0_ ?_))
        refine head_ ?_; (refine g0_ ?_; repeat ((first | refine n1_ fun b_ => ?_ | refine n2_ fun b_ => ?_ | refine Nat1.mk fun q_ hq_ => ?_ | refine em_ fun x_ hx_ => ?_ | refine Elem1.mk fun e_ he_ => ?_); refine g0_ ?_))
        (refine g1_ ?_; repeat ((first | refine n1_ fun b_ => ?_ | refine n2_ fun b_ => ?_ | refine Nat1.mk fun q_ hq_ => ?_ | refine em_ fun x_ hx_ => ?_ | refine Elem1.mk fun e_ he_ => ?_); refine g1_ ?_))
        refine (c_).use ?_; (refine g0_ ?_; repeat ((first | refine n1_ fun b_ => ?_ | refine n2_ fun b_ => ?_ | refine Nat1.mk fun q_ hq_ => ?_ | refine em_ fun x_ hx_ => ?_ | refine Elem1.mk fun e_ he_ => ?_); refine g0_ ?_))
        refine nx_ (1 + 1, n) ?_ ?_
        · exact ⟨by decide, hfn⟩
        · ((try dsimp only); (try simp only [List.length_drop, List.length_take, List.length_append, List.length_cons, List.length_nil, List.length_map] at *); omega)
      · have ho : openB L w h x (y + 1) = true := openB_t (by omega) hc
        rw [decide_eq_false hc] at c_
        (refine g0_ ?_; repeat ((first | refine n1_ fun b_ => ?_ | refine n2_ fun b_ => ?_ | refine Nat1.mk fun q_ hq_ => ?_ | refine em_ fun x_ hx_ => ?_ | refine Elem1.mk fun e_ he_ => ?_); refine g0_ ?_))
        refine head_ ?_; (refine g0_ ?_; repeat ((first | refine n1_ fun b_ => ?_ | refine n2_ fun b_ => ?_ | refine Nat1.mk fun q_ hq_ => ?_ | refine em_ fun x_ hx_ => ?_ | refine Elem1.mk fun e_ he_ => ?_); refine g0_ ?_))
        (refine g1_ ?_; repeat ((first | refine n1_ fun b_ => ?_ | refine n2_ fun b_ => ?_ | refine Nat1.mk fun q_ hq_ => ?_ | refine em_ fun x_ hx_ => ?_ | refine Elem1.mk fun e_ he_ => ?_); refine g1_ ?_))
        refine (c_).use ?_; (refine g0_ ?_; repeat ((first | refine n1_ fun b_ => ?_ | refine n2_ fun b_ => ?_ | refine Nat1.mk fun q_ hq_ => ?_ | refine em_ fun x_ hx_ => ?_ | refine Elem1.mk fun e_ he_ => ?_); refine g0_ ?_))
        refine nx_ (1 + 1, bitop .or .i64 n (2 ^ 1)) ?_ ?_
        · exact ⟨by decide, way_t 1 (by decide) hn ho⟩
        · ((try dsimp only); (try simp only [List.length_drop, List.length_take, List.length_append, List.length_cons, List.length_nil, List.length_map] at *); omega)
    · have ho : openB L w h x (y + 1) = false := openB_f (.inl hR)
      have hfn := way_f 1 (by decide) hn ho
      (refine g0_ ?_; repeat ((first | refine n1_ fun b_ => ?_ | refine n2_ fun b_ => ?_ | refine Nat1.mk fun q_ hq_ => ?_ | refine em_ fun x_ hx_ => ?_ | refine Elem1.mk fun e_ he_ => ?_); refine g0_ ?_))
      refine head_ ?_; (refine g0_ ?_; repeat ((first | refine n1_ fun b_ => ?_ | refine n2_ fun b_ => ?_ | refine Nat1.mk fun q_ hq_ => ?_ | refine em_ fun x_ hx_ => ?_ | refine Elem1.mk fun e_ he_ => ?_); refine g0_ ?_))
      (refine g1_ ?_; repeat ((first | refine n1_ fun b_ => ?_ | refine n2_ fun b_ => ?_ | refine Nat1.mk fun q_ hq_ => ?_ | refine em_ fun x_ hx_ => ?_ | refine Elem1.mk fun e_ he_ => ?_); refine g1_ ?_))
      refine nx_ (1 + 1, n) ?_ ?_
      · exact ⟨by decide, hfn⟩
      · ((try dsimp only); (try simp only [List.length_drop, List.length_take, List.length_append, List.length_cons, List.length_nil, List.length_map] at *); omega)
  | 2, _ =>
    have c_ := c2
    by_cases hR : 0 ≤ (x - 1) ∧ (x - 1) < w ∧ 0 ≤ y ∧ y < h
    · by_cases hc : 0 < covN L (x - 1) y
      · have ho : openB L w h (x - 1) y = false := openB_f (.inr hc)
        have hfn := way_f 2 (by decide) hn ho
        rw [decide_eq_true hc] at c_
        (refine g0_ ?_; repeat ((first | refine n1_ fun b_ => ?_ | refine n2_ fun b_ => ?_ | refine Nat1.mk fun q_ hq_ => ?_ | refine em_ fun x_ hx_ => ?_ | refine Elem1.mk fun e_ he_ => ?_); refine g0_ ?_))
        refine head_ ?_; (refine g0_ ?_; repeat ((first | refine n1_ fun b_ => ?_ | refine n2_ fun b_ => ?_ | refine Nat1.mk fun q_ hq_ => ?_ | refine em_ fun x_ hx_ => ?_ | refine Elem1.mk fun e_ he_ => ?_); refine g0_ ?_))
        (refine g1_ ?_; repeat ((first | refine n1_ fun b_ => ?_ | refine n2_ fun b_ => ?_ | refine Nat1.mk fun q_ hq_ => ?_ | refine em_ fun x_ hx_ => ?_ | refine Elem1.mk fun e_ he_ => ?_); refine g1_ ?_))
        refine (c_).use ?_; (refine g0_ ?_; repeat ((first | refine n1_ fun b_ => ?_ | refine n2_ fun b_ => ?_ | refine Nat1.mk fun q_ hq_ => ?_ | refine em_ fun x_ hx_ => ?_ | refine Elem1.mk fun e_ he_ => ?_); refine g0_ ?_))
        refine nx_ (2 + 1, n) ?_ ?_
        · exact ⟨by decide, hfn⟩
        · ((try dsimp only); (try simp only [List.length_drop, List.length_take, List.length_append, List.length_cons, List.length_nil, List.length_map] at *); omega)
      · have ho : openB L w h (x - 1) y = true := openB_t (by omega) hc
        rw [decide_eq_false hc] at c_
        (refine g0_ ?_; repeat ((first | refine n1_ fun b_ => ?_ | refine n2_ fun b_ => ?_ | refine Nat1.mk fun q_ hq_ => ?_ | refine em_ fun x_ hx_ => ?_ | refine Elem1.mk fun e_ he_ => ?_); refine g0_ ?_))
        refine head_ ?_; (refine g0_ ?_; repeat ((first | refine n1_ fun b_ => ?_ | refine n2_ fun b_ => ?_ | refine Nat1.mk fun q_ hq_ => ?_ | refine em_ fun x_ hx_ => ?_ | refine Elem1.mk fun e_ he_ => ?_); refine g0_ ?_))
        (refine g1_ ?_; repeat ((first | refine n1_ fun b_ => ?_ | refine n2_ fun b_ => ?_ | refine Nat1.mk fun q_ hq_ => ?_ | refine em_ fun x_ hx_ => ?_ | refine Elem1.mk fun e_ he_ => ?_); refine g1_ ?_))
        refine (c_).use ?_; (refine g0_ ?_; repeat ((first | refine n1_ fun b_ => ?_ | refine n2_ fun b_ => ?_ | refine Nat1.mk fun q_ hq_ => ?_ | refine em_ fun x_ hx_ => ?_ | refine Elem1.mk fun e_ he_ => ?_); refine g0_ ?_))
        refine nx_ (2 + 1, bitop .or .i64 n (2 ^ 2)) ?_ ?_
        · exact ⟨by decide, way_t 2 (by decide) hn ho⟩
        · ((try dsimp only); (try simp only [List.length_drop, List.length_take, List.length_append, List.length_cons, List.length_nil, List.length_map] at *); omega)
    · have ho : openB L w h (x - 1) y = false := openB_f (.inl hR)
      have hfn := way_f 2 (by decide) hn ho
      (refine g0_ ?_; repeat ((first | refine n1_ fun b_ => ?_ | refine n2_ fun b_ => ?_ | refine Nat1.mk fun q_ hq_ => ?_ | refine em_ fun x_ hx_ => ?_ | refine Elem1.mk fun e_ he_ => ?_); refine g0_ ?_))
      refine head_ ?_; (refine g0_ ?_; repeat ((first | refine n1_ fun b_ => ?_ | refine n2_ fun b_ => ?_ | refine Nat1.mk fun q_ hq_ => ?_ | refine em_ fun x_ hx_ => ?_ | refine Elem1.mk fun e_ he_ => ?_); refine g0_ ?_))
      (refine g1_ ?_; repeat ((first | refine n1_ fun b_ => ?_ | refine n2_ fun b_ => ?_ | refine Nat1.mk fun q_ hq_ => ?_ | refine em_ fun x_ hx_ => ?_ | refine Elem1.mk fun e_ he_ => ?_); refine g1_ ?_))
      refine nx_ (2 + 1, n) ?_ ?_
      · exact ⟨by decide, hfn⟩
      · ((try dsimp only); (try simp only [List.length_drop, List.length_take, List.length_append, List.length_cons, List.length_nil, List.length_map] at *); omega)
  | 3, _ =>
    have c_ := c3
    by_cases hR : 0 ≤ (x + 1) ∧ (x + 1) < w ∧ 0 ≤ y ∧ y < h
    · by_cases hc : 0 < covN L (x + 1) y
      · have ho : openB L w h (x + 1) y = false := openB_f (.inr hc)
        have hfn := way_f 3 (by decide) hn ho
        rw [decide_eq_true hc] at c_
        (refine g0_ ?_; repeat ((first | refine n1_ fun b_ => ?_ | refine n2_ fun b_ => ?_ | refine Nat1.mk fun q_ hq_ => ?_ | refine em_ fun x_ hx_ => ?_ | refine Elem1.mk fun e_ he_ => ?_); refine g0_ ?_))
        refine head_ ?_; (refine g0_ ?_; repeat ((first | refine n1_ fun b_ => ?_ | refine n2_ fun b_ => ?_ | refine Nat1.mk fun q_ hq_ => ?_ | refine em_ fun x_ hx_ => ?_ | refine Elem1.mk fun e_ he_ => ?_); refine g0_ ?_))
        (refine g1_ ?_; repeat ((first | refine n1_ fun b_ => ?_ | refine n2_ fun b_ => ?_ | refine Nat1.mk fun q_ hq_ => ?_ | refine em_ fun x_ hx_ => ?_ | refine Elem1.mk fun e_ he_ => ?_); refine g1_ ?_))
        refine (c_).use ?_; (refine g0_ ?_; repeat ((first | refine n1_ fun b_ => ?_ | refine n2_ fun b_ => ?_ | refine Nat1.mk fun q_ hq_ => ?_ | refine em_ fun x_ hx_ => ?_ | refine Elem1.mk fun e_ he_ => ?_); refine g0_ ?_))
        refine nx_ (3 + 1, n) ?_ ?_
        · exact ⟨by decide, hfn⟩
        · ((try dsimp only); (try simp only [List.length_drop, List.length_take, List.length_append, List.length_cons, List.length_nil, List.length_map] at *); omega)
      · have ho : openB L w h (x + 1) y = true := openB_t (by omega) hc
        rw [decide_eq_false hc] at c_
        (refine g0_ ?_; repeat ((first | refine n1_ fun b_ => ?_ | refine n2_ fun b_ => ?_ | refine Nat1.mk fun q_ hq_ => ?_ | refine em_ fun x_ hx_ => ?_ | refine Elem1.mk fun e_ he_ => ?_); refine g0_ ?_))
        refine head_ ?_; (refine g0_ ?_; repeat ((first | refine n1_ fun b_ => ?_ | refine n2_ fun b_ => ?_ | refine Nat1.mk fun q_ hq_ => ?_ | refine em_ fun x_ hx_ => ?_ | refine Elem1.mk fun e_ he_ => ?_); refine g0_ ?_))
        (refine g1_ ?_; repeat ((first | refine n1_ fun b_ => ?_ | refine n2_ fun b_ => ?_ | refine Nat1.mk fun q_ hq_ => ?_ | refine em_ fun x_ hx_ => ?_ | refine Elem1.mk fun e_ he_ => ?_); refine g1_ ?_))
        refine (c_).use ?_; (refine g0_ ?_; repeat ((first | refine n1_ fun b_ => ?_ | refine n2_ fun b_ => ?_ | refine Nat1.mk fun q_ hq_ => ?_ | refine em_ fun x_ hx_ => ?_ | refine Elem1.mk fun e_ he_ => ?_); refine g0_ ?_))
        refine nx_ (3 + 1, bitop .or .i64 n (2 ^ 3)) ?_ ?_
        · exact ⟨by decide, way_t 3 (by decide) hn ho⟩
        · ((try dsimp only); (try simp only [List.length_drop, List.length_take, List.length_append, List.length_cons, List.length_nil, List.length_map] at *); omega)
    · have ho : openB L w h (x + 1) y = false := openB_f (.inl hR)
      have hfn := way_f 3 (by decide) hn ho
      (refine g0_ ?_; repeat ((first | refine n1_ fun b_ => ?_ | refine n2_ fun b_ => ?_ | refine Nat1.mk fun q_ hq_ => ?_ | refine em_ fun x_ hx_ => ?_ | refine Elem1.mk fun e_ he_ => ?_); refine g0_ ?_))
      refine head_ ?_; (refine g0_ ?_; repeat ((first | refine n1_ fun b_ => ?_ | refine n2_ fun b_ => ?_ | refine Nat1.mk fun q_ hq_ => ?_ | refine em_ fun x_ hx_ => ?_ | refine Elem1.mk fun e_ he_ => ?_); refine g0_ ?_))
      (refine g1_ ?_; repeat ((first | refine n1_ fun b_ => ?_ | refine n2_ fun b_ => ?_ | refine Nat1.mk fun q_ hq_ => ?_ | refine em_ fun x_ hx_ => ?_ | refine Elem1.mk fun e_ he_ => ?_); refine g1_ ?_))
      refine nx_ (3 + 1, n) ?_ ?_
      · exact ⟨by decide, hfn⟩
      · ((try dsimp only); (try simp only [List.length_drop, List.length_take, List.length_append, List.length_cons, List.length_nil, List.length_map] at *); omega)
end Go.Eng.YtjkdkofpabocmaaDoor
end

/- Frames: compose.Frame (b_ x_ q_ e_). -/
section
namespace Go.Eng.YtjkdkofpabocmaaDoor
open Go Go.Eng Go.Proofs
variable (W : World)
set_option linter.unusedSimpArgs false
set_option maxRecDepth 100000
set_option linter.unusedVariables false
set_option maxHeartbeats 4000000
theorem newOwn_ok (w h : Nat) (hw : 1 ≤ w) (hw2 : w ≤ 120) (hh : 1 ≤ h) (hh2 : h ≤ 60) : ACalls Tryd.prog W 44 [.int .i64 w, .int .i64 h] []
    (Gives (fun b : Nat => .tup [.agg [.int .i64 w, .int .i64 h, .rsl b 4 0 (w * h)], .int .i64 0]) (fun b => [⟨b, .row 4 ((List.replicate (w * h) blankC).map encCell) 0⟩]) (fun _ => True)) := by
  have hsm : w * h ≤ 120 * 60 := Nat.mul_le_mul (by omega) (by omega)
  have hm1 : 0 ≤ (w : Int) * h := Int.mul_nonneg (by omega) (by omega)
  have hm2 : (w : Int) * h ≤ 7200 := by exact_mod_cast hsm
  refine acalls_of_vc (drawOk W) Tryd.func44 rfl (by decide) (by decide) rfl ?_
  (refine g0_ ?_; repeat ((first | refine n1_ fun b_ => ?_ | refine n2_ fun b_ => ?_ | refine Nat1.mk fun q_ hq_ => ?_ | refine em_ fun x_ hx_ => ?_ | refine Elem1.mk fun e_ he_ => ?_); refine g0_ ?_))
  (refine g1_ ?_; repeat ((first | refine n1_ fun b_ => ?_ | refine n2_ fun b_ => ?_ | refine Nat1.mk fun q_ hq_ => ?_ | refine em_ fun x_ hx_ => ?_ | refine Elem1.mk fun e_ he_ => ?_); refine g1_ ?_))
  rw [rep_zero]
  rename_i b1 b2
  obtain ⟨b3, rfl⟩ : ∃ b3, b3 = b_ := ⟨_, rfl⟩
  refine' loopI (α := Nat × (List Cell)) (fun (i, cs) => [(33, .int .i64 i)]) [(4, _), (6, _), (32, _)] (fun (i, cs) => [⟨b3, .row 3 [.agg [.int .i64 w, .int .i64 h, .rsl b2 4 0 (w * h)]] 0⟩, ⟨b2, .row 4 (cs.map encCell) 0⟩, ⟨b1, .row 3 [.agg [.int .i64 0, .int .i64 0, .nils]] 0⟩]) (fun (i, cs) => i ≤ w * h ∧ cs = List.replicate i blankC ++ List.replicate (w * h - i) zeroC) (fun (i, cs) => w * h - i) (0, List.replicate (w * h) zeroC) ?_ ?_
  · exact ⟨Nat.zero_le _, by simp⟩
  rintro ⟨i, cs⟩ ⟨hi, hcs⟩
  have hcl : cs.length = w * h := by rw [hcs]; simp; omega
  (refine g0_ ?_; repeat ((first | refine n1_ fun b_ => ?_ | refine n2_ fun b_ => ?_ | refine Nat1.mk fun q_ hq_ => ?_ | refine em_ fun x_ hx_ => ?_ | refine Elem1.mk fun e_ he_ => ?_); refine g0_ ?_))
  refine brec ?_; intro c_ h2; (try rw [h2]); cases c_ <;> replace h2 := nm_ h2
  · have : i = w * h := by omega
    subst this
    rw [Nat.sub_self, List.replicate_zero, List.append_nil] at hcs
    (refine g0_ ?_; repeat ((first | refine n1_ fun b_ => ?_ | refine n2_ fun b_ => ?_ | refine Nat1.mk fun q_ hq_ => ?_ | refine em_ fun x_ hx_ => ?_ | refine Elem1.mk fun e_ he_ => ?_); refine g0_ ?_))
    exact ⟨b2, trivial, rfl, by rw [← hcs]; exact wkMem.cons (.there _ _ _ _ _ (.there _ _ _ _ _ (.here _ _ _))) (wkMem.nil _)⟩
  · have hst := rep_set (w * h) i (by omega)
    rw [← hcs] at hst
    (refine g0_ ?_; repeat ((first | refine n1_ fun b_ => ?_ | refine n2_ fun b_ => ?_ | refine Nat1.mk fun q_ hq_ => ?_ | refine em_ fun x_ hx_ => ?_ | refine Elem1.mk fun e_ he_ => ?_); refine g0_ ?_))
    refine head_ ?_; (refine g0_ ?_; repeat ((first | refine n1_ fun b_ => ?_ | refine n2_ fun b_ => ?_ | refine Nat1.mk fun q_ hq_ => ?_ | refine em_ fun x_ hx_ => ?_ | refine Elem1.mk fun e_ he_ => ?_); refine g0_ ?_))
    refine ⟨_, (blank_ok1 W).quiet, ?_⟩; (refine g0_ ?_; repeat ((first | refine n1_ fun b_ => ?_ | refine n2_ fun b_ => ?_ | refine Nat1.mk fun q_ hq_ => ?_ | refine em_ fun x_ hx_ => ?_ | refine Elem1.mk fun e_ he_ => ?_); refine g0_ ?_))
    dsimp only
    rw [set_encS]
    refine nx_ (i + 1, cs.set i blankC) ?_ ?_
    · exact ⟨by omega, hst⟩
    · ((try dsimp only); (try simp only [List.length_drop, List.length_take, List.length_append, List.length_cons, List.length_nil, List.length_map] at *); omega)
/-- A frame's cells ahead of a place. -/
def frameTo (L : List Plc) (w h : Int) (r : Plc) (look lit : Style) (y' x' : Int) (x y : Int) : Cell := if y < y' ∨ y = y' ∧ x < x' then frameC L w h r look lit x y else blankC
theorem frameTo_zero (L : List Plc) (w h : Int) (r : Plc) (look lit : Style) (x y : Int) (hx : 0 ≤ x) (hy : 0 ≤ y) : blankC = frameTo L w h r look lit 0 0 x y := by
  unfold frameTo
  rw [if_neg (by omega)]
theorem frameTo_row (L : List Plc) (w h : Int) (r : Plc) (look lit : Style) (y' x y : Int) (hx : 0 ≤ x) (hx2 : x < w) : frameTo L w h r look lit y' w x y = frameTo L w h r look lit (y' + 1) 0 x y := by
  unfold frameTo
  by_cases e : y < y' ∨ y = y'
  · rw [if_pos (by omega), if_pos (by omega)]
  · rw [if_neg (by omega), if_neg (by omega)]
theorem frameTo_all (L : List Plc) (w h : Int) (r : Plc) (look lit : Style) (x y : Int) (hy : y < h) : frameTo L w h r look lit h 0 x y = frameC L w h r look lit x y := by
  unfold frameTo
  rw [if_pos (by omega)]
theorem frameTo_skip (L : List Plc) (w h : Int) (r : Plc) (look lit : Style) (y' x' : Int) (hc : 0 < covN L x' y') (x y : Int) : frameTo L w h r look lit y' x' x y = frameTo L w h r look lit y' (x' + 1) x y := by
  unfold frameTo
  by_cases e : x = x' ∧ y = y'
  · obtain ⟨rfl, rfl⟩ := e
    rw [if_neg (by omega), if_pos (by omega), frameC, if_neg (by omega)]
  · by_cases e2 : y < y' ∨ y = y' ∧ x < x'
    · rw [if_pos e2, if_pos (by omega)]
    · rw [if_neg e2, if_neg (by omega)]
theorem frameTo_set (L : List Plc) (w h : Int) (r : Plc) (look lit : Style) (y' x' : Int) (x y : Int) : (if x = x' ∧ y = y' then frameC L w h r look lit x' y' else frameTo L w h r look lit y' x' x y) = frameTo L w h r look lit y' (x' + 1) x y := by
  unfold frameTo
  by_cases e : x = x' ∧ y = y'
  · obtain ⟨rfl, rfl⟩ := e
    rw [if_pos ⟨rfl, rfl⟩, if_pos (by omega)]
  · rw [if_neg e]
    by_cases e2 : y < y' ∨ y = y' ∧ x < x'
    · rw [if_pos e2, if_pos (by omega)]
    · rw [if_neg e2, if_neg (by omega)]
/-- What Frame gives. -/
def frameE (t : Spl) (w h act : Int) (look lit : Style) : Grid × Int :=
  if (laysR t w h).2 ≠ 0 then (.none, (laysR t w h).2)
  else if (checkStyle look && checkStyle lit) = false then (.none, 4)
  else if idxP (fun a => decide (a.p = act)) 0 (laysR t w h).1 < 0 then (.none, 6)
  else (frameG (laysR t w h).1 w h ((laysR t w h).1.getD (idxP (fun a => decide (a.p = act)) 0 (laysR t w h).1).toNat ⟨0, 0, 0, 0, 0⟩) look lit, 0)
theorem laysR_zero {t : Spl} {w h : Int} (h0 : (laysR t w h).2 = 0) : Fills (laysR t w h).1 0 0 w h ∧ 1 ≤ w ∧ w ≤ 120 ∧ 1 ≤ h ∧ h ≤ 60 ∧ (laysR t w h).1.length ≤ 12 := by
  have hr := @vis_right t
  unfold laysR at h0 ⊢
  by_cases h1 : (visS t 0 (0, [])).1 = 0
  · obtain ⟨hr1, -, hr3, -⟩ := hr h1
    have hlB := least_B t 0 hr1
    have hlen := layT_len t 0 hr1 0 0 w h
    have hfl := layT_fills t 0 hr1 hr3 0 0 w h
    rw [if_neg (by simpa using h1)] at h0 ⊢
    by_cases h2 : w < (leastT t).1 ∨ h < (leastT t).2 ∨ 120 < w ∨ 60 < h
    · rw [if_pos h2] at h0; exact absurd h0 (by decide)
    · rw [if_neg h2]
      exact ⟨hfl (by omega) (by omega), by omega, by omega, by omega, by omega, by rw [hlen]; exact hr3⟩
  · rw [if_pos h1] at h0
    exact absurd h0 h1
theorem fills_small {L : List Plc} {w h : Int} (hf : Fills L 0 0 w h) (hw : w ≤ 120) (hh : h ≤ 60) : ∀ a ∈ L, a.small := fun a ha => by
  have := hf.within a ha
  unfold Plc.small
  omega
theorem set_encC (l : List Cell) (i : Nat) (c : Cell) (v : PV) (hv : v = encCell c) : (l.map encCell).set (0 + i) v = (l.set i c).map encCell := by
  rw [hv, Nat.zero_add, List.map_set]
theorem borders_at (n : Int) (h : 0 ≤ n ∧ n ≤ 15) : ∃ b, borders[n.toNat]? = some b ∧ borders.getD n.toNat 0 = b := by
  have hl : n.toNat < borders.length := by show n.toNat < 16; omega
  exact ⟨_, List.getElem?_eq_getElem hl, by rw [List.getD_eq_getElem?_getD, List.getElem?_eq_getElem hl]; rfl⟩
theorem borders_ok : Pure Tryd.prog W 63 [] (.agg (borders.map (PV.int .i32))) := by
  refine Pure.of (acalls_of_vc (drawOk W) Tryd.func63 rfl (by decide) (by decide) rfl ?_)
  (refine g0_ ?_; repeat ((first | refine n1_ fun b_ => ?_ | refine n2_ fun b_ => ?_ | refine Nat1.mk fun q_ hq_ => ?_ | refine em_ fun x_ hx_ => ?_ | refine Elem1.mk fun e_ he_ => ?_); refine g0_ ?_))
  exact .refl _
theorem cells_i32F : Tryd.prog.cellsOf 21 = 1 := by kernel_rfl
theorem agg_i32F : isAggB Tryd.prog 21 = false := by kernel_rfl
theorem border_v {n : Nat} {b : Int} (h : borders[n]? = some b) : partV (isAggB Tryd.prog 21) (Tryd.prog.cellsOf 21) [PV.int IntKind.i32 32, PV.int IntKind.i32 9474, PV.int IntKind.i32 9474, PV.int IntKind.i32 9474, PV.int IntKind.i32 9472, PV.int IntKind.i32 9496, PV.int IntKind.i32 9488, PV.int IntKind.i32 9508, PV.int IntKind.i32 9472, PV.int IntKind.i32 9492, PV.int IntKind.i32 9484, PV.int IntKind.i32 9500, PV.int IntKind.i32 9472, PV.int IntKind.i32 9524, PV.int IntKind.i32 9516, PV.int IntKind.i32 9532] (n * Tryd.prog.cellsOf 21) = PV.int .i32 b := by
  rw [agg_i32F, cells_i32F, Nat.mul_one]
  show (borders.map (PV.int .i32)).getD n .dead = _
  rw [List.getD_eq_getElem?_getD, List.getElem?_map, h]
  rfl
theorem frame_ok (t : Spl) (ht : t.ok) (w h act : Int) (look lit : Style) : Pure Tryd.prog W 28 [encSpl t, .int .i64 w, .int .i64 h, .int .i64 act, encStyle look, encStyle lit] (.tup [encGrid (frameE t w h act look lit).1, .int .i64 (frameE t w h act look lit).2]) := by
  have hly := laysP_ok W t ht w h
  have hz := @laysR_zero t w h
  have hc1 := styleCheck_ok W look
  have hc2 := styleCheck_ok W lit
  unfold frameE
  generalize laysR t w h = lr at *
  obtain ⟨L, e⟩ := lr
  obtain ⟨w', p, s, ks⟩ := t
  rw [encSpl_mk] at *
  dsimp only at *
  by_cases h0 : e = 0
  · subst h0
    obtain ⟨hf, hw1, hw2, hh1, hh2, hl⟩ := hz rfl
    have hsm := fills_small hf hw2 hh2
    have hix := index_plcs W (fun a => decide (a.p = act)) 61 [.ip (.int .i64 act) 0] L (by omega) (fun a _ => frame1_ok W a act)
    have hib := idxP_bd (fun a => decide (a.p = act)) L 0
    have hia := idxP_at (fun a => decide (a.p = act)) L 0
    generalize idxP (fun a => decide (a.p = act)) 0 L = ix at *
    rw [if_neg (by decide)]
    by_cases h1 : (checkStyle look && checkStyle lit) = false
    · rw [if_pos h1]
      cases hq1 : checkStyle look with
      | false =>
        rw [hq1] at hc1
        refine Pure.of (acalls_of_vc (drawOk W) Tryd.func28 rfl (by decide) (by decide) rfl ?_)
        (refine g0_ ?_; repeat ((first | refine n1_ fun b_ => ?_ | refine n2_ fun b_ => ?_ | refine Nat1.mk fun q_ hq_ => ?_ | refine em_ fun x_ hx_ => ?_ | refine Elem1.mk fun e_ he_ => ?_); refine g0_ ?_))
        refine (hly).use ?_; (refine g0_ ?_; repeat ((first | refine n1_ fun b_ => ?_ | refine n2_ fun b_ => ?_ | refine Nat1.mk fun q_ hq_ => ?_ | refine em_ fun x_ hx_ => ?_ | refine Elem1.mk fun e_ he_ => ?_); refine g0_ ?_))
        (refine g1_ ?_; repeat ((first | refine n1_ fun b_ => ?_ | refine n2_ fun b_ => ?_ | refine Nat1.mk fun q_ hq_ => ?_ | refine em_ fun x_ hx_ => ?_ | refine Elem1.mk fun e_ he_ => ?_); refine g1_ ?_))
        refine (hc1).use ?_; (refine g0_ ?_; repeat ((first | refine n1_ fun b_ => ?_ | refine n2_ fun b_ => ?_ | refine Nat1.mk fun q_ hq_ => ?_ | refine em_ fun x_ hx_ => ?_ | refine Elem1.mk fun e_ he_ => ?_); refine g0_ ?_))
        (refine g1_ ?_; repeat ((first | refine n1_ fun b_ => ?_ | refine n2_ fun b_ => ?_ | refine Nat1.mk fun q_ hq_ => ?_ | refine em_ fun x_ hx_ => ?_ | refine Elem1.mk fun e_ he_ => ?_); refine g1_ ?_))
        exact frz_tup2 frz_none (.refl _)
      | true =>
        rw [hq1] at hc1 h1
        rw [Bool.true_and] at h1
        rw [h1] at hc2
        refine Pure.of (acalls_of_vc (drawOk W) Tryd.func28 rfl (by decide) (by decide) rfl ?_)
        (refine g0_ ?_; repeat ((first | refine n1_ fun b_ => ?_ | refine n2_ fun b_ => ?_ | refine Nat1.mk fun q_ hq_ => ?_ | refine em_ fun x_ hx_ => ?_ | refine Elem1.mk fun e_ he_ => ?_); refine g0_ ?_))
        refine (hly).use ?_; (refine g0_ ?_; repeat ((first | refine n1_ fun b_ => ?_ | refine n2_ fun b_ => ?_ | refine Nat1.mk fun q_ hq_ => ?_ | refine em_ fun x_ hx_ => ?_ | refine Elem1.mk fun e_ he_ => ?_); refine g0_ ?_))
        (refine g1_ ?_; repeat ((first | refine n1_ fun b_ => ?_ | refine n2_ fun b_ => ?_ | refine Nat1.mk fun q_ hq_ => ?_ | refine em_ fun x_ hx_ => ?_ | refine Elem1.mk fun e_ he_ => ?_); refine g1_ ?_))
        refine (hc1).use ?_; (refine g0_ ?_; repeat ((first | refine n1_ fun b_ => ?_ | refine n2_ fun b_ => ?_ | refine Nat1.mk fun q_ hq_ => ?_ | refine em_ fun x_ hx_ => ?_ | refine Elem1.mk fun e_ he_ => ?_); refine g0_ ?_))
        (refine g1_ ?_; repeat ((first | refine n1_ fun b_ => ?_ | refine n2_ fun b_ => ?_ | refine Nat1.mk fun q_ hq_ => ?_ | refine em_ fun x_ hx_ => ?_ | refine Elem1.mk fun e_ he_ => ?_); refine g1_ ?_))
        refine (hc2).use ?_; (refine g0_ ?_; repeat ((first | refine n1_ fun b_ => ?_ | refine n2_ fun b_ => ?_ | refine Nat1.mk fun q_ hq_ => ?_ | refine em_ fun x_ hx_ => ?_ | refine Elem1.mk fun e_ he_ => ?_); refine g0_ ?_))
        (refine g1_ ?_; repeat ((first | refine n1_ fun b_ => ?_ | refine n2_ fun b_ => ?_ | refine Nat1.mk fun q_ hq_ => ?_ | refine em_ fun x_ hx_ => ?_ | refine Elem1.mk fun e_ he_ => ?_); refine g1_ ?_))
        exact frz_tup2 frz_none (.refl _)
    · rw [if_neg h1]
      simp only [Bool.and_eq_false_iff, not_or, Bool.not_eq_false] at h1
      rw [h1.1] at hc1
      rw [h1.2] at hc2
      by_cases h2 : ix < 0
      · rw [if_pos h2]
        refine Pure.of (acalls_of_vc (drawOk W) Tryd.func28 rfl (by decide) (by decide) rfl ?_)
        (refine g0_ ?_; repeat ((first | refine n1_ fun b_ => ?_ | refine n2_ fun b_ => ?_ | refine Nat1.mk fun q_ hq_ => ?_ | refine em_ fun x_ hx_ => ?_ | refine Elem1.mk fun e_ he_ => ?_); refine g0_ ?_))
        refine (hly).use ?_; (refine g0_ ?_; repeat ((first | refine n1_ fun b_ => ?_ | refine n2_ fun b_ => ?_ | refine Nat1.mk fun q_ hq_ => ?_ | refine em_ fun x_ hx_ => ?_ | refine Elem1.mk fun e_ he_ => ?_); refine g0_ ?_))
        (refine g1_ ?_; repeat ((first | refine n1_ fun b_ => ?_ | refine n2_ fun b_ => ?_ | refine Nat1.mk fun q_ hq_ => ?_ | refine em_ fun x_ hx_ => ?_ | refine Elem1.mk fun e_ he_ => ?_); refine g1_ ?_))
        refine (hc1).use ?_; (refine g0_ ?_; repeat ((first | refine n1_ fun b_ => ?_ | refine n2_ fun b_ => ?_ | refine Nat1.mk fun q_ hq_ => ?_ | refine em_ fun x_ hx_ => ?_ | refine Elem1.mk fun e_ he_ => ?_); refine g0_ ?_))
        (refine g1_ ?_; repeat ((first | refine n1_ fun b_ => ?_ | refine n2_ fun b_ => ?_ | refine Nat1.mk fun q_ hq_ => ?_ | refine em_ fun x_ hx_ => ?_ | refine Elem1.mk fun e_ he_ => ?_); refine g1_ ?_))
        refine (hc2).use ?_; (refine g0_ ?_; repeat ((first | refine n1_ fun b_ => ?_ | refine n2_ fun b_ => ?_ | refine Nat1.mk fun q_ hq_ => ?_ | refine em_ fun x_ hx_ => ?_ | refine Elem1.mk fun e_ he_ => ?_); refine g0_ ?_))
        (refine g1_ ?_; repeat ((first | refine n1_ fun b_ => ?_ | refine n2_ fun b_ => ?_ | refine Nat1.mk fun q_ hq_ => ?_ | refine em_ fun x_ hx_ => ?_ | refine Elem1.mk fun e_ he_ => ?_); refine g1_ ?_))
        refine hix.borrow rfl rfl (fun j hj => ?_) ?_
        · match j, hj with
          | 0, _ => exact .refl _
          | 1, _ =>
            refine .fn _ _ _ rfl fun j hj => ?_
            obtain rfl : j = 0 := by simpa using hj
            exact .bref _ _ _ _ _ _ (by repeat (first | exact .here _ _ _ | apply Look.there))
        (refine g1_ ?_; repeat ((first | refine n1_ fun b_ => ?_ | refine n2_ fun b_ => ?_ | refine Nat1.mk fun q_ hq_ => ?_ | refine em_ fun x_ hx_ => ?_ | refine Elem1.mk fun e_ he_ => ?_); refine g1_ ?_))
        exact frz_tup2 frz_none (.refl _)
      · rw [if_neg h2]
        obtain ⟨k, a, hk, hka, -⟩ := hia (by omega)
        rw [Nat.zero_add] at hk
        subst hk
        have hkt : L.getD (((k : Nat) : Int)).toNat ⟨0, 0, 0, 0, 0⟩ = a := by rw [Int.toNat_natCast, List.getD_eq_getElem?_getD, hka]; rfl
        rw [hkt]
        obtain ⟨wn, rfl⟩ := Int.eq_ofNat_of_zero_le (show 0 ≤ w by omega)
        obtain ⟨hn, rfl⟩ := Int.eq_ofNat_of_zero_le (show 0 ≤ h by omega)
        have hsz : wn * hn ≤ 120 * 60 := Nat.mul_le_mul (by omega) (by omega)
        have hkl := lt_of_at hka
        have hllp : (plcsV L).length = L.length := List.length_map _
        have hbo := borders_ok W
        have hpl := inPlace_ok W L (by omega) hsm
        have hwy := ways_ok W L (by omega) hsm wn hn
        have hbs := beside_ok W a (hsm a (List.mem_of_getElem? hka))
        refine Pure.of (acalls_of_vc (drawOk W) Tryd.func28 rfl (by decide) (by decide) rfl ?_)
        (refine g0_ ?_; repeat ((first | refine n1_ fun b_ => ?_ | refine n2_ fun b_ => ?_ | refine Nat1.mk fun q_ hq_ => ?_ | refine em_ fun x_ hx_ => ?_ | refine Elem1.mk fun e_ he_ => ?_); refine g0_ ?_))
        refine (hly).use ?_; (refine g0_ ?_; repeat ((first | refine n1_ fun b_ => ?_ | refine n2_ fun b_ => ?_ | refine Nat1.mk fun q_ hq_ => ?_ | refine em_ fun x_ hx_ => ?_ | refine Elem1.mk fun e_ he_ => ?_); refine g0_ ?_))
        (refine g1_ ?_; repeat ((first | refine n1_ fun b_ => ?_ | refine n2_ fun b_ => ?_ | refine Nat1.mk fun q_ hq_ => ?_ | refine em_ fun x_ hx_ => ?_ | refine Elem1.mk fun e_ he_ => ?_); refine g1_ ?_))
        refine (hc1).use ?_; (refine g0_ ?_; repeat ((first | refine n1_ fun b_ => ?_ | refine n2_ fun b_ => ?_ | refine Nat1.mk fun q_ hq_ => ?_ | refine em_ fun x_ hx_ => ?_ | refine Elem1.mk fun e_ he_ => ?_); refine g0_ ?_))
        (refine g1_ ?_; repeat ((first | refine n1_ fun b_ => ?_ | refine n2_ fun b_ => ?_ | refine Nat1.mk fun q_ hq_ => ?_ | refine em_ fun x_ hx_ => ?_ | refine Elem1.mk fun e_ he_ => ?_); refine g1_ ?_))
        refine (hc2).use ?_; (refine g0_ ?_; repeat ((first | refine n1_ fun b_ => ?_ | refine n2_ fun b_ => ?_ | refine Nat1.mk fun q_ hq_ => ?_ | refine em_ fun x_ hx_ => ?_ | refine Elem1.mk fun e_ he_ => ?_); refine g0_ ?_))
        (refine g1_ ?_; repeat ((first | refine n1_ fun b_ => ?_ | refine n2_ fun b_ => ?_ | refine Nat1.mk fun q_ hq_ => ?_ | refine em_ fun x_ hx_ => ?_ | refine Elem1.mk fun e_ he_ => ?_); refine g1_ ?_))
        refine hix.borrow rfl rfl (fun j hj => ?_) ?_
        · match j, hj with
          | 0, _ => exact .refl _
          | 1, _ =>
            refine .fn _ _ _ rfl fun j hj => ?_
            obtain rfl : j = 0 := by simpa using hj
            exact .bref _ _ _ _ _ _ (by repeat (first | exact .here _ _ _ | apply Look.there))
        (refine g1_ ?_; repeat ((first | refine n1_ fun b_ => ?_ | refine n2_ fun b_ => ?_ | refine Nat1.mk fun q_ hq_ => ?_ | refine em_ fun x_ hx_ => ?_ | refine Elem1.mk fun e_ he_ => ?_); refine g1_ ?_))
        refine ACalls.giveE (newOwn_ok W wn hn (by omega) (by omega) (by omega) (by omega)) ?_
        rintro br -
        (refine g0_ ?_; repeat ((first | refine n1_ fun b_ => ?_ | refine n2_ fun b_ => ?_ | refine Nat1.mk fun q_ hq_ => ?_ | refine em_ fun x_ hx_ => ?_ | refine Elem1.mk fun e_ he_ => ?_); refine g0_ ?_))
        rename_i bs ba bl bt bz
        obtain ⟨bg, rfl⟩ : ∃ g, g = b_ := ⟨_, rfl⟩
        refine' loopI (α := Nat × (List Cell)) (fun (y, cs) => [(55, .int .i64 y)]) [(1, _), (2, _), (10, _), (11, _), (12, _), (14, _), (16, _), (17, _), (54, _)] (fun (y, cs) => ⟨bg, .row 3 [.agg [.int .i64 wn, .int .i64 hn, .rsl br 4 0 (wn * hn)]] 0⟩ :: ⟨br, .row 4 (cs.map encCell) 0⟩ :: ⟨bl, .row 3 [encStyle look] 0⟩ :: ⟨bt, .row 3 [encStyle lit] 0⟩ :: [⟨bz, .row 3 [.agg [.int .i64 0, .int .i64 0, .nils]] 0⟩]) (fun (y, cs) => y ≤ hn ∧ Tab wn hn cs (frameTo L wn hn a look lit y 0)) (fun (y, cs) => hn - y) (0, List.replicate (wn * hn) blankC) ?_ ?_
        · exact ⟨Nat.zero_le _, tab_congr (tab_rep (by omega) (by omega) _ (by exact_mod_cast rfl) blankC) fun x y h1 _ h3 _ => frameTo_zero _ _ _ _ _ _ x y h1 h3⟩
        rintro ⟨y, cs⟩ ⟨hy, hT⟩
        have hTl := hT.1
        (refine g0_ ?_; repeat ((first | refine n1_ fun b_ => ?_ | refine n2_ fun b_ => ?_ | refine Nat1.mk fun q_ hq_ => ?_ | refine em_ fun x_ hx_ => ?_ | refine Elem1.mk fun e_ he_ => ?_); refine g0_ ?_))
        refine brec ?_; intro c_ hyt; (try rw [hyt]); cases c_ <;> replace hyt := nm_ hyt
        · have : y = hn := by omega
          subst this
          have hG := tab_is (tab_congr hT fun x y _ _ _ h4 => frameTo_all L wn _ a look lit x y h4) (by omega)
          (refine g0_ ?_; repeat ((first | refine n1_ fun b_ => ?_ | refine n2_ fun b_ => ?_ | refine Nat1.mk fun q_ hq_ => ?_ | refine em_ fun x_ hx_ => ?_ | refine Elem1.mk fun e_ he_ => ?_); refine g0_ ?_))
          rw [frameG, ← hG]
          exact frz_tup2 (frz_grid (.there _ _ _ _ _ (.there _ _ _ _ _ (.here _ _ _))) (by exact_mod_cast hTl.symm)) (.refl _)
        · (refine g0_ ?_; repeat ((first | refine n1_ fun b_ => ?_ | refine n2_ fun b_ => ?_ | refine Nat1.mk fun q_ hq_ => ?_ | refine em_ fun x_ hx_ => ?_ | refine Elem1.mk fun e_ he_ => ?_); refine g0_ ?_))
          refine' loopI (α := Nat × (List Cell)) (fun (x, cs) => [(59, .int .i64 x)]) [(1, _), (2, _), (10, _), (11, _), (12, _), (14, _), (16, _), (17, _), (19, _), (54, _), (55, _), (58, _)] (fun (x, cs) => ⟨bg, .row 3 [.agg [.int .i64 wn, .int .i64 hn, .rsl br 4 0 (wn * hn)]] 0⟩ :: ⟨br, .row 4 (cs.map encCell) 0⟩ :: ⟨bl, .row 3 [encStyle look] 0⟩ :: ⟨bt, .row 3 [encStyle lit] 0⟩ :: [⟨bz, .row 3 [.agg [.int .i64 0, .int .i64 0, .nils]] 0⟩]) (fun (x, cs) => x ≤ wn ∧ Tab wn hn cs (frameTo L wn hn a look lit y x)) (fun (x, cs) => wn - x) (0, cs) ?_ ?_
          · exact ⟨Nat.zero_le _, hT⟩
          rintro ⟨x, cs⟩ ⟨hx, hT⟩
          have hTl := hT.1
          (refine g0_ ?_; repeat ((first | refine n1_ fun b_ => ?_ | refine n2_ fun b_ => ?_ | refine Nat1.mk fun q_ hq_ => ?_ | refine em_ fun x_ hx_ => ?_ | refine Elem1.mk fun e_ he_ => ?_); refine g0_ ?_))
          refine brec ?_; intro c_ hxt; (try rw [hxt]); cases c_ <;> replace hxt := nm_ hxt
          · have : x = wn := by omega
            subst this
            have hnx := tab_congr hT fun x y h1 h2 _ _ => frameTo_row L _ hn a look lit _ x y h1 h2
            (refine g0_ ?_; repeat ((first | refine n1_ fun b_ => ?_ | refine n2_ fun b_ => ?_ | refine Nat1.mk fun q_ hq_ => ?_ | refine em_ fun x_ hx_ => ?_ | refine Elem1.mk fun e_ he_ => ?_); refine g0_ ?_))
            refine nx_ (y + 1, cs) ?_ ?_
            · exact ⟨by omega, hnx⟩
            · ((try dsimp only); (try simp only [List.length_drop, List.length_take, List.length_append, List.length_cons, List.length_nil, List.length_map] at *); omega)
          · have hp1 := hpl x y
            by_cases hcv : 0 < covN L x y
            · rw [decide_eq_true hcv] at hp1
              have hnx := tab_congr hT fun u v _ _ _ _ => frameTo_skip L wn hn a look lit y x hcv u v
              (refine g0_ ?_; repeat ((first | refine n1_ fun b_ => ?_ | refine n2_ fun b_ => ?_ | refine Nat1.mk fun q_ hq_ => ?_ | refine em_ fun x_ hx_ => ?_ | refine Elem1.mk fun e_ he_ => ?_); refine g0_ ?_))
              refine (hp1).use ?_; (refine g0_ ?_; repeat ((first | refine n1_ fun b_ => ?_ | refine n2_ fun b_ => ?_ | refine Nat1.mk fun q_ hq_ => ?_ | refine em_ fun x_ hx_ => ?_ | refine Elem1.mk fun e_ he_ => ?_); refine g0_ ?_))
              refine nx_ (x + 1, cs) ?_ ?_
              · exact ⟨by omega, hnx⟩
              · ((try dsimp only); (try simp only [List.length_drop, List.length_take, List.length_append, List.length_cons, List.length_nil, List.length_map] at *); omega)
            · rw [decide_eq_false hcv] at hp1
              have hw1 := hwy x y (by omega) (by omega)
              have hb1 := hbs x y
              have hwb := wayN_bd L wn hn x y
              obtain ⟨bo, hbo1, hbo2⟩ := borders_at _ hwb
              have hbd := tab_bd (w := wn) (h := hn) (x := x) (y := y) (by omega) (by omega) (by omega) (by omega)
              have hsz2 : (wn : Int) * hn ≤ 7200 := by exact_mod_cast hsz
              (refine g0_ ?_; repeat ((first | refine n1_ fun b_ => ?_ | refine n2_ fun b_ => ?_ | refine Nat1.mk fun q_ hq_ => ?_ | refine em_ fun x_ hx_ => ?_ | refine Elem1.mk fun e_ he_ => ?_); refine g0_ ?_))
              refine (hp1).use ?_; (refine g0_ ?_; repeat ((first | refine n1_ fun b_ => ?_ | refine n2_ fun b_ => ?_ | refine Nat1.mk fun q_ hq_ => ?_ | refine em_ fun x_ hx_ => ?_ | refine Elem1.mk fun e_ he_ => ?_); refine g0_ ?_))
              refine Draws.late ⟨10, by decide +kernel, ?_⟩; (refine g0_ ?_; repeat ((first | refine n1_ fun b_ => ?_ | refine n2_ fun b_ => ?_ | refine Nat1.mk fun q_ hq_ => ?_ | refine em_ fun x_ hx_ => ?_ | refine Elem1.mk fun e_ he_ => ?_); refine g0_ ?_))
              refine ⟨_, (hbo).quiet, ?_⟩; (refine g0_ ?_; repeat ((first | refine n1_ fun b_ => ?_ | refine n2_ fun b_ => ?_ | refine Nat1.mk fun q_ hq_ => ?_ | refine em_ fun x_ hx_ => ?_ | refine Elem1.mk fun e_ he_ => ?_); refine g0_ ?_))
              refine ⟨_, (hw1).quiet, ?_⟩; (refine g0_ ?_; repeat ((first | refine n1_ fun b_ => ?_ | refine n2_ fun b_ => ?_ | refine Nat1.mk fun q_ hq_ => ?_ | refine em_ fun x_ hx_ => ?_ | refine Elem1.mk fun e_ he_ => ?_); refine g0_ ?_))
              rw [border_v hbo1]
              (refine g0_ ?_; repeat ((first | refine n1_ fun b_ => ?_ | refine n2_ fun b_ => ?_ | refine Nat1.mk fun q_ hq_ => ?_ | refine em_ fun x_ hx_ => ?_ | refine Elem1.mk fun e_ he_ => ?_); refine g0_ ?_))
              refine (hb1).use ?_; (refine g0_ ?_; repeat ((first | refine n1_ fun b_ => ?_ | refine n2_ fun b_ => ?_ | refine Nat1.mk fun q_ hq_ => ?_ | refine em_ fun x_ hx_ => ?_ | refine Elem1.mk fun e_ he_ => ?_); refine g0_ ?_))
              cases hbe : besideB a x y with
              | true =>
                have hfc : frameC L wn hn a look lit x y = ⟨bo, lit⟩ := by rw [frameC, if_pos (by omega), hbo2, hbe]; rfl
                (refine g0_ ?_; repeat ((first | refine n1_ fun b_ => ?_ | refine n2_ fun b_ => ?_ | refine Nat1.mk fun q_ hq_ => ?_ | refine em_ fun x_ hx_ => ?_ | refine Elem1.mk fun e_ he_ => ?_); refine g0_ ?_))
                have hst := tab_set hT (x := x) (y := y) (by omega) (by omega) (by omega) (by omega) (y * wn + x) (by push_cast; rfl) (frameC L wn hn a look lit x y)
                have hnx := tab_congr hst fun u v _ _ _ _ => frameTo_set L wn hn a look lit y x u v
                rw [hfc] at hnx
                rw [set_encS _ _ bo lit]
                refine nx_ (x + 1, cs.set (y * wn + x) ⟨bo, lit⟩) ?_ ?_
                · exact ⟨by omega, hnx⟩
                · ((try dsimp only); (try simp only [List.length_drop, List.length_take, List.length_append, List.length_cons, List.length_nil, List.length_map] at *); omega)
              | false =>
                have hfc : frameC L wn hn a look lit x y = ⟨bo, look⟩ := by rw [frameC, if_pos (by omega), hbo2, hbe]; rfl
                (refine g0_ ?_; repeat ((first | refine n1_ fun b_ => ?_ | refine n2_ fun b_ => ?_ | refine Nat1.mk fun q_ hq_ => ?_ | refine em_ fun x_ hx_ => ?_ | refine Elem1.mk fun e_ he_ => ?_); refine g0_ ?_))
                have hst := tab_set hT (x := x) (y := y) (by omega) (by omega) (by omega) (by omega) (y * wn + x) (by push_cast; rfl) (frameC L wn hn a look lit x y)
                have hnx := tab_congr hst fun u v _ _ _ _ => frameTo_set L wn hn a look lit y x u v
                rw [hfc] at hnx
                rw [set_encS _ _ bo look]
                refine nx_ (x + 1, cs.set (y * wn + x) ⟨bo, look⟩) ?_ ?_
                · exact ⟨by omega, hnx⟩
                · ((try dsimp only); (try simp only [List.length_drop, List.length_take, List.length_append, List.length_cons, List.length_nil, List.length_map] at *); omega)
  · rw [if_pos h0]
    refine Pure.of (acalls_of_vc (drawOk W) Tryd.func28 rfl (by decide) (by decide) rfl ?_)
    (refine g0_ ?_; repeat ((first | refine n1_ fun b_ => ?_ | refine n2_ fun b_ => ?_ | refine Nat1.mk fun q_ hq_ => ?_ | refine em_ fun x_ hx_ => ?_ | refine Elem1.mk fun e_ he_ => ?_); refine g0_ ?_))
    refine (hly).use ?_; (refine g0_ ?_; repeat ((first | refine n1_ fun b_ => ?_ | refine n2_ fun b_ => ?_ | refine Nat1.mk fun q_ hq_ => ?_ | refine em_ fun x_ hx_ => ?_ | refine Elem1.mk fun e_ he_ => ?_); refine g0_ ?_))
    (refine g1_ ?_; repeat ((first | refine n1_ fun b_ => ?_ | refine n2_ fun b_ => ?_ | refine Nat1.mk fun q_ hq_ => ?_ | refine em_ fun x_ hx_ => ?_ | refine Elem1.mk fun e_ he_ => ?_); refine g1_ ?_))
    exact frz_tup2 frz_none (.refl _)
end Go.Eng.YtjkdkofpabocmaaDoor
end
