/- Texts put together: Spl31, Spl32, Spl33. -/
import Derived.Test.YtkbfojigbbokcaaMSG
import Derived.Test.YtkbfojigbbokcaaMSA
import Derived.Test.YtkbfojigbbokcaaME3
/- Splits: what is laid out fills all (plain). -/
section
namespace Go.Eng.Ytkbfojigbbokcaa
open Go Go.Eng Go.Proofs
set_option linter.unusedSimpArgs false
set_option maxRecDepth 100000
set_option linter.unusedVariables false
def Plc.has (a : Plc) (i j : Int) : Prop := a.x ≤ i ∧ i < a.x + a.w ∧ a.y ≤ j ∧ j < a.y + a.h
instance (a : Plc) (i j : Int) : Decidable (a.has i j) := by unfold Plc.has; infer_instance
/-- How many places have a cell. -/
def covN (l : List Plc) (i j : Int) : Nat := l.countP fun a => decide (a.has i j)
structure Fills (l : List Plc) (x y wd hg : Int) : Prop where
  within : ∀ c ∈ l, 1 ≤ c.w ∧ 1 ≤ c.h ∧ x ≤ c.x ∧ y ≤ c.y ∧ c.x + c.w ≤ x + wd ∧ c.y + c.h ≤ y + hg
  one : ∀ i j, covN l i j ≤ 1
  blk : ∀ i j, x ≤ i + 1 → i < x + wd → y ≤ j + 1 → j < y + hg → ∃ c ∈ l, c.has i j ∨ c.has (i + 1) j ∨ c.has i (j + 1) ∨ c.has (i + 1) (j + 1)
theorem cov_pos {l : List Plc} {i j : Int} (h : 0 < covN l i j) : ∃ c ∈ l, c.has i j := by
  obtain ⟨c, h1, h2⟩ := List.countP_pos_iff.1 h
  exact ⟨c, h1, of_decide_eq_true h2⟩
theorem cov_of {l : List Plc} {i j : Int} {c : Plc} (h1 : c ∈ l) (h2 : c.has i j) : 0 < covN l i j := List.countP_pos_iff.2 ⟨c, h1, decide_eq_true h2⟩
theorem cov_app (l r : List Plc) (i j : Int) : covN (l ++ r) i j = covN l i j + covN r i j := List.countP_append
theorem fills_one {p x y wd hg : Int} (hw : 1 ≤ wd) (hh : 1 ≤ hg) : Fills [⟨p, x, y, wd, hg⟩] x y wd hg := by
  refine ⟨?_, ?_, ?_⟩
  · intro c hc
    obtain rfl := List.mem_singleton.1 hc
    dsimp only
    omega
  · intro i j
    exact List.countP_le_length
  · intro i j h1 h2 h3 h4
    refine ⟨_, List.mem_singleton.2 rfl, ?_⟩
    unfold Plc.has
    dsimp only
    omega
theorem fills_row {l r : List Plc} {x y n m hg : Int} (hl : Fills l x y n hg) (hn : 0 ≤ n) (hm : -1 ≤ m) (hr : Fills r (x + (n + 1)) y m hg) : Fills (l ++ r) x y (n + 1 + m) hg := by
  refine ⟨?_, ?_, ?_⟩
  · intro c hc
    rcases List.mem_append.1 hc with hc | hc
    · have := hl.within c hc; omega
    · have := hr.within c hc; omega
  · intro i j
    rw [cov_app]
    have h1 := hl.one i j
    have h2 := hr.one i j
    by_cases h3 : covN l i j = 0
    · omega
    · by_cases h4 : covN r i j = 0
      · omega
      · obtain ⟨c, hc, hc2⟩ := cov_pos (Nat.pos_of_ne_zero h3)
        obtain ⟨d, hd, hd2⟩ := cov_pos (Nat.pos_of_ne_zero h4)
        have e1 := hl.within c hc
        have e2 := hr.within d hd
        unfold Plc.has at hc2 hd2
        omega
  · intro i j h1 h2 h3 h4
    by_cases h5 : i < x + n
    · obtain ⟨c, hc, h⟩ := hl.blk i j h1 h5 h3 h4
      exact ⟨c, List.mem_append_left _ hc, h⟩
    · obtain ⟨c, hc, h⟩ := hr.blk i j (by omega) (by omega) h3 h4
      exact ⟨c, List.mem_append_right _ hc, h⟩
theorem fills_col {l r : List Plc} {x y n m wd : Int} (hl : Fills l x y wd n) (hn : 0 ≤ n) (hm : -1 ≤ m) (hr : Fills r x (y + (n + 1)) wd m) : Fills (l ++ r) x y wd (n + 1 + m) := by
  refine ⟨?_, ?_, ?_⟩
  · intro c hc
    rcases List.mem_append.1 hc with hc | hc
    · have := hl.within c hc; omega
    · have := hr.within c hc; omega
  · intro i j
    rw [cov_app]
    have h1 := hl.one i j
    have h2 := hr.one i j
    by_cases h3 : covN l i j = 0
    · omega
    · by_cases h4 : covN r i j = 0
      · omega
      · obtain ⟨c, hc, hc2⟩ := cov_pos (Nat.pos_of_ne_zero h3)
        obtain ⟨d, hd, hd2⟩ := cov_pos (Nat.pos_of_ne_zero h4)
        have e1 := hl.within c hc
        have e2 := hr.within d hd
        unfold Plc.has at hc2 hd2
        omega
  · intro i j h1 h2 h3 h4
    by_cases h5 : j < y + n
    · obtain ⟨c, hc, h⟩ := hl.blk i j h1 h2 h3 h5
      exact ⟨c, List.mem_append_left _ hc, h⟩
    · obtain ⟨c, hc, h⟩ := hr.blk i j h1 h2 (by omega) (by omega)
      exact ⟨c, List.mem_append_right _ hc, h⟩
theorem fills_nilR (x y hg : Int) : Fills [] x y (-1) hg := ⟨fun _ h => (by cases h), fun _ _ => Nat.zero_le _, fun i j h1 h2 => by omega⟩
theorem fills_nilC (x y wd : Int) : Fills [] x y wd (-1) := ⟨fun _ h => (by cases h), fun _ _ => Nat.zero_le _, fun i j _ _ h3 h4 => by omega⟩
theorem layT_fills (t : Spl) : ∀ way, t.right way → (panesT t).length ≤ 12 → ∀ x y wd hg : Int, (leastT t).1 ≤ wd → (leastT t).2 ≤ hg → Fills (layT t x y wd hg) x y wd hg := by
  induction t using spl_induct with
  | h w p s ks ih =>
    intro way hr hn x y wd hg hlw hlh
    have hr0 := hr
    rw [right_mk] at hr
    have hlb := least_B (.mk w p s ks) way hr0
    rw [panesT_mk] at hn
    rw [layT_mk]
    rcases hr.2 with ⟨h0, hk, h1, h2⟩ | ⟨hw, -, hk2, -, hkr⟩
    · rw [if_pos h0]
      exact fills_one (by omega) (by omega)
    · have hw0 : ¬ w = 0 := by omega
      rw [if_neg hw0] at hn ⊢
      have hkp := kids_panes hkr
      have hne : ks ≠ [] := by rintro rfl; simp at hk2
      obtain ⟨hs1, hs2⟩ := least_sum (p := p) (s := s) hw hne
      generalize hall : (if w = 2 then hg else wd) = all at *
      have hal : alongT w (leastT (.mk w p s ks)) ≤ all := by unfold alongT; rw [← hall]; split <;> assumption
      have hrest : 0 ≤ restS w ks all := by unfold restS; omega
      obtain ⟨he1, he2⟩ := shares_enough hrest hne fun k hk => (size_bd (hkr k hk)).1
      generalize sharesT w ks all = ns at *
      rcases hw with rfl | rfl
      · rw [if_neg (by decide)] at hall
        subst hall
        have key : ∀ (l : List Spl) (ns : List Int) (x : Int), (∀ k ∈ l, k ∈ ks) → enough 1 l ns → Fills (layTs 1 wd hg l ns x y) x y (sumL ns + l.length - 1) hg := by
          intro l
          induction l with
          | nil =>
            intro ns x _ he
            rw [enough] at he
            subst he
            rw [layTs]
            simp only [sumL, List.foldr_nil, List.length_nil]
            exact fills_nilR x y hg
          | cons k l ihl =>
            intro ns x hm he
            obtain ⟨n, r, rfl, hnb, he2⟩ := he
            have hmk := hm k (by simp)
            have hes := enough_sum he2 fun k' hk' => (need_bd (hkr k' (hm k' (List.mem_cons_of_mem _ hk'))) (Nat.le_trans (kid_panes (hm k' (List.mem_cons_of_mem _ hk'))) hn)).1
            have hn1 := Int.le_trans (need_bd (w := 1) (hkr k hmk) (Nat.le_trans (kid_panes hmk) hn)).1 hnb
            have i1 := ih k hmk 1 (hkr k hmk) (Nat.le_trans (kid_panes hmk) hn) x y n hg hnb (Int.le_trans (hs2 k hmk) hlh)
            have i2 := ihl r (x + (n + 1)) (fun z hz => hm z (List.mem_cons_of_mem _ hz)) he2
            rw [layTs, if_pos rfl, List.headD_cons, List.tail_cons]
            have i3 := fills_row i1 (by omega) (by omega) i2
            rw [show sumL (n :: r) + ((k :: l).length : Int) - 1 = n + 1 + (sumL r + (l.length : Int) - 1) by simp only [sumL, List.foldr_cons, List.length_cons]; push_cast; omega]
            exact i3
        have := key ks ns x (fun _ h => h) he1
        rwa [show sumL ns + (ks.length : Int) - 1 = wd by omega] at this
      · rw [if_pos rfl] at hall
        subst hall
        have key : ∀ (l : List Spl) (ns : List Int) (y : Int), (∀ k ∈ l, k ∈ ks) → enough 2 l ns → Fills (layTs 2 wd hg l ns x y) x y wd (sumL ns + l.length - 1) := by
          intro l
          induction l with
          | nil =>
            intro ns x _ he
            rw [enough] at he
            subst he
            rw [layTs]
            simp only [sumL, List.foldr_nil, List.length_nil]
            exact fills_nilC _ _ _
          | cons k l ihl =>
            intro ns y hm he
            obtain ⟨n, r, rfl, hnb, he2⟩ := he
            have hmk := hm k (by simp)
            have hes := enough_sum he2 fun k' hk' => (need_bd (hkr k' (hm k' (List.mem_cons_of_mem _ hk'))) (Nat.le_trans (kid_panes (hm k' (List.mem_cons_of_mem _ hk'))) hn)).1
            have hn1 := Int.le_trans (need_bd (w := 2) (hkr k hmk) (Nat.le_trans (kid_panes hmk) hn)).1 hnb
            have i1 := ih k hmk 2 (hkr k hmk) (Nat.le_trans (kid_panes hmk) hn) x y wd n (Int.le_trans (hs2 k hmk) hlw) hnb
            have i2 := ihl r (y + (n + 1)) (fun z hz => hm z (List.mem_cons_of_mem _ hz)) he2
            rw [layTs, if_neg (by decide), List.headD_cons, List.tail_cons]
            have i3 := fills_col i1 (by omega) (by omega) i2
            rw [show sumL (n :: r) + ((k :: l).length : Int) - 1 = n + 1 + (sumL r + (l.length : Int) - 1) by simp only [sumL, List.foldr_cons, List.length_cons]; push_cast; omega]
            exact i3
        have := key ks ns y (fun _ h => h) he1
        rwa [show sumL ns + (ks.length : Int) - 1 = hg by omega] at this
/-- The panes of what is laid out. -/
theorem layT_panes (t : Spl) : ∀ way, t.right way → ∀ x y wd hg, (layT t x y wd hg).map Plc.p = panesT t := by
  induction t using spl_induct with
  | h w p s ks ih =>
    intro way hr x y wd hg
    rw [right_mk] at hr
    rw [layT_mk, panesT_mk]
    by_cases h0 : w = 0
    · rw [if_pos h0, if_pos h0]; rfl
    · rw [if_neg h0, if_neg h0]
      have hkr : ∀ k ∈ ks, k.right w := by
        rcases hr.2 with ⟨h1, -⟩ | ⟨-, -, -, -, h⟩
        · exact absurd h1 h0
        · exact h
      have key : ∀ (l : List Spl), (∀ k ∈ l, k ∈ ks) → ∀ ns x y, (layTs w wd hg l ns x y).map Plc.p = l.flatMap panesT := by
        intro l
        induction l with
        | nil => intro _ ns x y; rfl
        | cons k l ihl =>
          intro hm ns x y
          have h1 := fun x y wd hg => ih k (hm k (by simp)) w (hkr k (hm k (by simp))) x y wd hg
          have h2 := fun ns x y => ihl (fun z hz => hm z (List.mem_cons_of_mem _ hz)) ns x y
          rw [layTs, List.flatMap_cons]
          split <;> rw [List.map_append, h1, h2]
      exact key ks (fun _ h => h) _ _ _
end Go.Eng.Ytkbfojigbbokcaa
end

/- The law SplitFills: counts, the cell that is free (b_ x_ q_ e_). -/
section
namespace Go.Eng.Ytkbfojigbbokcaa
open Go Go.Eng Go.Proofs
variable (W : World)
set_option linter.unusedSimpArgs false
set_option maxRecDepth 100000
set_option linter.unusedVariables false
set_option maxHeartbeats 4000000
/-- How many there are of each cell. -/
def Cnt (w h : Int) (l : List Int) (f : Int → Int → Int) : Prop :=
  (l.length : Int) = w * h ∧ ∀ x y, 0 ≤ x → x < w → 0 ≤ y → y < h → l[(y * w + x).toNat]? = some (f x y)
theorem lin_bd {w h x y : Int} (hx : 0 ≤ x) (hx2 : x < w) (hy : 0 ≤ y) (hy2 : y < h) : 0 ≤ y * w ∧ y * w + x < w * h ∧ y * w + w ≤ w * h := by
  have h1 : 0 ≤ y * w := Int.mul_nonneg hy (by omega)
  have h2 : y * w ≤ (h - 1) * w := Int.mul_le_mul_of_nonneg_right (by omega) (by omega)
  rw [Int.sub_mul, Int.one_mul, Int.mul_comm h w] at h2
  omega
theorem lin_eq {w x y a b : Int} (hx : 0 ≤ x) (hx2 : x < w) (ha : 0 ≤ a) (ha2 : a < w) (h : y * w + x = b * w + a) : x = a ∧ y = b := by
  have h1 : (x + y * w) / w = x / w + y := Int.add_mul_ediv_right _ _ (by omega)
  have h2 : (a + b * w) / w = a / w + b := Int.add_mul_ediv_right _ _ (by omega)
  rw [Int.ediv_eq_zero_of_lt hx hx2] at h1
  rw [Int.ediv_eq_zero_of_lt ha ha2] at h2
  rw [Int.add_comm x, h, Int.add_comm (b * w)] at h1
  have hyb : y = b := by omega
  subst hyb
  exact ⟨by omega, rfl⟩
theorem cnt_zero {w h : Int} (hw : 0 ≤ w) (hh : 0 ≤ h) (q : Nat) (hq : w * h = q) : Cnt w h (List.replicate q 0) fun _ _ => 0 := by
  refine ⟨by rw [List.length_replicate, hq], fun x y h1 h2 h3 h4 => ?_⟩
  have := lin_bd h1 h2 h3 h4
  rw [List.getElem?_replicate, if_pos (by omega)]
theorem cnt_set {w h : Int} {l : List Int} {f : Int → Int → Int} (hc : Cnt w h l f) {x y : Int} (hx : 0 ≤ x) (hx2 : x < w) (hy : 0 ≤ y) (hy2 : y < h) (q : Nat) (hq : y * w + x = q) (v : Int) : Cnt w h (l.set q v) fun a b => if a = x ∧ b = y then v else f a b := by
  refine ⟨by rw [List.length_set]; exact hc.1, fun a b h1 h2 h3 h4 => ?_⟩
  have g1 := lin_bd hx hx2 hy hy2
  have g2 := lin_bd h1 h2 h3 h4
  have g3 := hc.2 a b h1 h2 h3 h4
  have g4 := hc.1
  rw [List.getElem?_set]
  by_cases hh : a = x ∧ b = y
  · obtain ⟨rfl, rfl⟩ := hh
    rw [if_pos (by omega), if_pos (by omega)]; simp
  · rw [if_neg, g3]
    · simp [hh]
    intro e
    apply hh
    exact lin_eq h1 h2 hx hx2 (by omega)
theorem cnt_congr {w h : Int} {l : List Int} {f g : Int → Int → Int} (hc : Cnt w h l f) (e : ∀ x y, 0 ≤ x → x < w → 0 ≤ y → y < h → f x y = g x y) : Cnt w h l g :=
  ⟨hc.1, fun x y h1 h2 h3 h4 => by rw [hc.2 x y h1 h2 h3 h4, e x y h1 h2 h3 h4]⟩
theorem cnt_all {w h : Int} {l : List Int} {f : Int → Int → Int} (hc : Cnt w h l f) (hw : 0 < w) {p : Int → Prop} (hp : ∀ x y, 0 ≤ x → x < w → 0 ≤ y → y < h → p (f x y)) : ∀ n ∈ l, p n := by
  intro n hn
  obtain ⟨k, hk, rfl⟩ := List.getElem_of_mem hn
  have h1 : 0 ≤ (k : Int) % w := Int.emod_nonneg _ (by omega)
  have h2 : (k : Int) % w < w := Int.emod_lt_of_pos _ hw
  have h3 : 0 ≤ (k : Int) / w := Int.ediv_nonneg (by omega) (by omega)
  have h4 : (k : Int) / w < h := by
    refine Int.ediv_lt_of_lt_mul hw ?_
    have := hc.1
    rw [Int.mul_comm] at this
    omega
  have h5 : (k : Int) / w * w + (k : Int) % w = k := by
    have := Int.mul_ediv_add_emod (k : Int) w
    rw [Int.mul_comm] at this
    exact this
  have h6 := hc.2 _ _ h1 h2 h3 h4
  rw [h5, Int.toNat_natCast, List.getElem?_eq_getElem hk, Option.some.injEq] at h6
  rw [h6]
  exact hp _ _ h1 h2 h3 h4
def intsV (l : List Int) : List PV := l.map (PV.int .i64)
def freeM (bn bw bl : Nat) (w : Int) (l : List Int) : Mem := [⟨bn, .row 1 [.rsl bl 1 0 l.length] 0⟩, ⟨bw, .row 1 [.int .i64 w] 0⟩, ⟨bl, .row 1 (l.map (PV.int .i64)) 0⟩]
theorem free_ok (bn bw bl : Nat) (w h : Int) (hw : w ≤ 120) (hh : h ≤ 60) (l : List Int) {f : Int → Int → Int} (hc : Cnt w h l f) {x y : Int} (hx : 0 ≤ x) (hx2 : x < w) (hy : 0 ≤ y) (hy2 : y < h) :
    ACalls Try.prog W 37 [.int .i64 x, .int .i64 y, .bref bn 0, .bref bw 0] (freeM bn bw bl w l) (Gives (fun _ : Unit => .bool (decide (f x y = 0))) (fun _ => freeM bn bw bl w l) (fun _ => True)) := by
  have h1 := lin_bd hx hx2 hy hy2
  have h2 := hc.2 x y hx hx2 hy hy2
  have h3 := hc.1
  have h4 : w * h ≤ 120 * 60 := Int.mul_le_mul hw hh (by omega) (by omega)
  unfold freeM
  refine acalls_of_vc (drawOk W) Try.func37 rfl (by decide) (by decide) rfl ?_
  (refine g0_ ?_; repeat ((first | refine n1_ fun b_ => ?_ | refine n2_ fun b_ => ?_ | refine Nat1.mk fun q_ hq_ => ?_ | refine em_ fun x_ hx_ => ?_ | refine Elem1.mk fun e_ he_ => ?_); refine g0_ ?_))
  rw [hq_, Int.toNat_natCast, ← Nat.zero_add q_, hx_, Option.some.injEq] at h2
  exact ⟨(), trivial, by rw [h2], wkMem.rfl'⟩
theorem many_ok (n : Int) : Pure Try.prog W 36 [.int .i64 n] (.bool (decide (n > 1))) := by
  refine Pure.of (acalls_of_vc (drawOk W) Try.func36 rfl (by decide) (by decide) rfl ?_)
  (refine g0_ ?_; repeat ((first | refine n1_ fun b_ => ?_ | refine n2_ fun b_ => ?_ | refine Nat1.mk fun q_ hq_ => ?_ | refine em_ fun x_ hx_ => ?_ | refine Elem1.mk fun e_ he_ => ?_); refine g0_ ?_))
  exact .refl _
theorem index_many (l : List Int) (hl : l.length ≤ 1000000) (hr : ∀ n ∈ l, n ≤ 1) : Pure Try.prog W 51 [.sl 1 (l.map (PV.int .i64)), .fn 36 []] (.int .i64 (-1)) := by
  refine Pure.of (acalls_of_vc (drawOk W) Try.func51 rfl (by decide) (by decide) rfl ?_)
  (refine g0_ ?_; repeat ((first | refine n1_ fun b_ => ?_ | refine n2_ fun b_ => ?_ | refine Nat1.mk fun q_ hq_ => ?_ | refine em_ fun x_ hx_ => ?_ | refine Elem1.mk fun e_ he_ => ?_); refine g0_ ?_))
  refine' loopI (α := Nat) (fun i => [(8, .int .i64 i)]) [(0, _), (1, _), (7, _)] (fun i => []) (fun i => i ≤ l.length) (fun i => l.length - i) 0 ?_ ?_
  · exact Nat.zero_le _
  rintro i hi
  (refine g0_ ?_; repeat ((first | refine n1_ fun b_ => ?_ | refine n2_ fun b_ => ?_ | refine Nat1.mk fun q_ hq_ => ?_ | refine em_ fun x_ hx_ => ?_ | refine Elem1.mk fun e_ he_ => ?_); refine g0_ ?_))
  refine brec ?_; intro c_ h; (try rw [h]); cases c_ <;> replace h := nm_ h
  · (refine g0_ ?_; repeat ((first | refine n1_ fun b_ => ?_ | refine n2_ fun b_ => ?_ | refine Nat1.mk fun q_ hq_ => ?_ | refine em_ fun x_ hx_ => ?_ | refine Elem1.mk fun e_ he_ => ?_); refine g0_ ?_))
    exact .refl _
  · have hil : i < l.length := by
      rw [List.length_map] at h; omega
    have hn := hr _ (List.getElem_mem hil)
    have hg := List.getElem?_eq_getElem hil
    generalize l[i] = n at *
    have hm := many_ok W n
    rw [decide_eq_false (by omega)] at hm
    (refine g0_ ?_; repeat ((first | refine n1_ fun b_ => ?_ | refine n2_ fun b_ => ?_ | refine Nat1.mk fun q_ hq_ => ?_ | refine em_ fun x_ hx_ => ?_ | refine Elem1.mk fun e_ he_ => ?_); refine g0_ ?_))
    refine (hm).use ?_; (refine g0_ ?_; repeat ((first | refine n1_ fun b_ => ?_ | refine n2_ fun b_ => ?_ | refine Nat1.mk fun q_ hq_ => ?_ | refine em_ fun x_ hx_ => ?_ | refine Elem1.mk fun e_ he_ => ?_); refine g0_ ?_))
    refine nx_ (i + 1) ?_ ?_
    · omega
    · ((try dsimp only); (try simp only [List.length_drop, List.length_take, List.length_append, List.length_cons, List.length_nil, List.length_map] at *); omega)
theorem contains_many (l : List Int) (hl : l.length ≤ 1000000) (hr : ∀ n ∈ l, n ≤ 1) : Pure Try.prog W 35 [.sl 1 (l.map (PV.int .i64)), .fn 36 []] (.bool false) := by
  have hx := index_many W l hl hr
  refine Pure.of (acalls_of_vc (drawOk W) Try.func35 rfl (by decide) (by decide) rfl ?_)
  (refine g0_ ?_; repeat ((first | refine n1_ fun b_ => ?_ | refine n2_ fun b_ => ?_ | refine Nat1.mk fun q_ hq_ => ?_ | refine em_ fun x_ hx_ => ?_ | refine Elem1.mk fun e_ he_ => ?_); refine g0_ ?_))
  refine (hx).use ?_; (refine g0_ ?_; repeat ((first | refine n1_ fun b_ => ?_ | refine n2_ fun b_ => ?_ | refine Nat1.mk fun q_ hq_ => ?_ | refine em_ fun x_ hx_ => ?_ | refine Elem1.mk fun e_ he_ => ?_); refine g0_ ?_))
  exact .refl _
end Go.Eng.Ytkbfojigbbokcaa
end

/- The law SplitFills (b_ x_ q_ e_). -/
section
namespace Go.Eng.Ytkbfojigbbokcaa
open Go Go.Eng Go.Proofs
variable (W : World)
set_option linter.unusedSimpArgs false
set_option maxRecDepth 100000
set_option linter.unusedVariables false
set_option maxHeartbeats 4000000
theorem zero_intF : zeroV Try.prog 3 = .int .i64 0 := by kernel_rfl
/-- What the places ahead have of a cell, and of the next one its part ahead of a cell. -/
def ahead (L : List Plc) (a : Plc) (y' x' : Int) : Int → Int → Int := fun x y => (covN L x y : Int) + if a.has x y ∧ (y < y' ∨ y = y' ∧ x < x') then 1 else 0
theorem ahead_first (L : List Plc) (a : Plc) (x y : Int) : (covN L x y : Int) = ahead L a a.y a.x x y := by
  unfold ahead Plc.has
  rw [if_neg (by omega)]; omega
theorem ahead_row (L : List Plc) (a : Plc) (y' x y : Int) : ahead L a y' (a.x + a.w) x y = ahead L a (y' + 1) a.x x y := by
  unfold ahead Plc.has
  congr 1
  (repeat' split) <;> omega
theorem ahead_last {L : List Plc} {i : Nat} {a : Plc} (h : L[i]? = some a) (x y : Int) : ahead (L.take i) a (a.y + a.h) a.x x y = (covN (L.take (i + 1)) x y : Int) := by
  rw [take_snoc_of h, cov_app]
  unfold ahead
  have : covN [a] x y = if a.has x y then 1 else 0 := by
    unfold covN
    rw [List.countP_singleton]
    simp only [decide_eq_true_eq]
  rw [this]
  by_cases e : a.has x y
  · have e2 := e
    unfold Plc.has at e2
    rw [if_pos e, if_pos ⟨e, by omega⟩]; omega
  · rw [if_neg e, if_neg fun h => e h.1]; omega
theorem ahead_step (L : List Plc) (a : Plc) (y' x' : Int) (h : a.has x' y') (x y : Int) : (if x = x' ∧ y = y' then ahead L a y' x' x' y' + 1 else ahead L a y' x' x y) = ahead L a y' (x' + 1) x y := by
  unfold ahead Plc.has at *
  by_cases e : x = x' ∧ y = y'
  · obtain ⟨rfl, rfl⟩ := e
    rw [if_pos ⟨rfl, rfl⟩, if_neg (by omega), if_pos (by omega)]; omega
  · rw [if_neg e]
    (repeat' split) <;> omega
theorem splitFills_ok (_ : Free W) (t : Spl) (ht : t.ok) (w : Int) (_ : i64ok w) (h : Int) (_ : i64ok h) : Pure Try.prog W 7 [encSpl t, .int .i64 w, .int .i64 h] (.bool true) := by
  have hpt := parted_ok W
  have hly := laysP_ok W t ht w h
  have hr := @vis_right t
  unfold laysR at hly
  generalize visS t 0 (0, []) = st at *
  by_cases h0 : st.1 = 0
  · obtain ⟨hr1, -, hr3, -⟩ := hr h0
    have hpn := panes_ok W t 0 hr1 hr3
    have hfl := layT_fills t 0 hr1 hr3 0 0 w h
    have hlp := layT_panes t 0 hr1 0 0 w h
    have hlen := layT_len t 0 hr1 0 0 w h
    have heqi := equal_ints W (panesT t) (panesT t)
    have hlB := least_B t 0 hr1
    rw [decide_eq_true rfl] at heqi
    have heqi := heqi (by omega)
    rw [if_neg (by simpa using h0)] at hly
    generalize leastT t = ab at *
    generalize layT t 0 0 w h = L at *
    generalize panesT t = l at *
    obtain ⟨w', p, s, ks⟩ := t
    rw [encSpl_mk] at *
    by_cases h1 : w < ab.1 ∨ h < ab.2 ∨ 120 < w ∨ 60 < h
    · rw [if_pos h1] at hly
      refine Pure.of (acalls_of_vc (drawOk W) Try.func7 rfl (by decide) (by decide) rfl ?_)
      (refine g0_ ?_; repeat ((first | refine n1_ fun b_ => ?_ | refine n2_ fun b_ => ?_ | refine Nat1.mk fun q_ hq_ => ?_ | refine em_ fun x_ hx_ => ?_ | refine Elem1.mk fun e_ he_ => ?_); refine g0_ ?_))
      refine (hly).use ?_; (refine g0_ ?_; repeat ((first | refine n1_ fun b_ => ?_ | refine n2_ fun b_ => ?_ | refine Nat1.mk fun q_ hq_ => ?_ | refine em_ fun x_ hx_ => ?_ | refine Elem1.mk fun e_ he_ => ?_); refine g0_ ?_))
      (refine g1_ ?_; repeat ((first | refine n1_ fun b_ => ?_ | refine n2_ fun b_ => ?_ | refine Nat1.mk fun q_ hq_ => ?_ | refine em_ fun x_ hx_ => ?_ | refine Elem1.mk fun e_ he_ => ?_); refine g1_ ?_))
      refine (hpt).use ?_; (refine g0_ ?_; repeat ((first | refine n1_ fun b_ => ?_ | refine n2_ fun b_ => ?_ | refine Nat1.mk fun q_ hq_ => ?_ | refine em_ fun x_ hx_ => ?_ | refine Elem1.mk fun e_ he_ => ?_); refine g0_ ?_))
      (refine g1_ ?_; repeat ((first | refine n1_ fun b_ => ?_ | refine n2_ fun b_ => ?_ | refine Nat1.mk fun q_ hq_ => ?_ | refine em_ fun x_ hx_ => ?_ | refine Elem1.mk fun e_ he_ => ?_); refine g1_ ?_))
      refine (hpt).use ?_; (refine g0_ ?_; repeat ((first | refine n1_ fun b_ => ?_ | refine n2_ fun b_ => ?_ | refine Nat1.mk fun q_ hq_ => ?_ | refine em_ fun x_ hx_ => ?_ | refine Elem1.mk fun e_ he_ => ?_); refine g0_ ?_))
      exact .refl _
    · rw [if_neg h1] at hly
      dsimp only at hly
      have hfl := hfl (by omega) (by omega)
      have hwp : w * h ≤ 120 * 60 := Int.mul_le_mul (by omega) (by omega) (by omega) (by omega)
      have hwn : 0 ≤ w * h := Int.mul_nonneg (by omega) (by omega)
      refine Pure.of (acalls_of_vc (drawOk W) Try.func7 rfl (by decide) (by decide) rfl ?_)
      (refine g0_ ?_; repeat ((first | refine n1_ fun b_ => ?_ | refine n2_ fun b_ => ?_ | refine Nat1.mk fun q_ hq_ => ?_ | refine em_ fun x_ hx_ => ?_ | refine Elem1.mk fun e_ he_ => ?_); refine g0_ ?_))
      refine (hly).use ?_; (refine g0_ ?_; repeat ((first | refine n1_ fun b_ => ?_ | refine n2_ fun b_ => ?_ | refine Nat1.mk fun q_ hq_ => ?_ | refine em_ fun x_ hx_ => ?_ | refine Elem1.mk fun e_ he_ => ?_); refine g0_ ?_))
      (refine g1_ ?_; repeat ((first | refine n1_ fun b_ => ?_ | refine n2_ fun b_ => ?_ | refine Nat1.mk fun q_ hq_ => ?_ | refine em_ fun x_ hx_ => ?_ | refine Elem1.mk fun e_ he_ => ?_); refine g1_ ?_))
      refine (hpt).use ?_; (refine g0_ ?_; repeat ((first | refine n1_ fun b_ => ?_ | refine n2_ fun b_ => ?_ | refine Nat1.mk fun q_ hq_ => ?_ | refine em_ fun x_ hx_ => ?_ | refine Elem1.mk fun e_ he_ => ?_); refine g0_ ?_))
      (refine g1_ ?_; repeat ((first | refine n1_ fun b_ => ?_ | refine n2_ fun b_ => ?_ | refine Nat1.mk fun q_ hq_ => ?_ | refine em_ fun x_ hx_ => ?_ | refine Elem1.mk fun e_ he_ => ?_); refine g1_ ?_))
      rename_i bT bW bL
      revert b_
      intro bn
      rw [zero_intF, ← List.map_replicate]
      revert hq_
      revert q_
      intro Q hQ
      have hz := cnt_zero (w := w) (h := h) (by omega) (by omega) Q hQ
      refine' loopI (α := Nat × (List Int)) (fun (i, N) => [(40, .int .i64 i)]) [(2, _), (3, _), (4, _), (7, _), (9, _), (38, _), (39, _)] (fun (i, N) => ⟨bn, .row 1 [.rsl bL 1 0 Q] 0⟩ :: ⟨bL, .row 1 (N.map (PV.int .i64)) 0⟩ :: ⟨bW, .row 1 [.int .i64 w] 0⟩ :: [⟨bT, .row 4 [.agg [.int .i64 w', .int .i64 p, .int .i64 s, .sl 4 (ks.map encSpl)]] 0⟩]) (fun (i, N) => i ≤ L.length ∧ Cnt w h N (fun x y => (covN (L.take i) x y : Int))) (fun (i, N) => L.length - i) (0, List.replicate Q 0) ?_ ?_
      · exact ⟨Nat.zero_le _, hz⟩
      rintro ⟨i, N⟩ ⟨hi, hN⟩
      have hNl := hN.1
      have hll : (plcsV L).length = L.length := List.length_map _
      (refine g0_ ?_; repeat ((first | refine n1_ fun b_ => ?_ | refine n2_ fun b_ => ?_ | refine Nat1.mk fun q_ hq_ => ?_ | refine em_ fun x_ hx_ => ?_ | refine Elem1.mk fun e_ he_ => ?_); refine g0_ ?_))
      refine brec ?_; intro c_ hlt; (try rw [hlt]); cases c_ <;> replace hlt := nm_ hlt
      · have : i = L.length := by omega
        subst this
        rw [List.take_length] at hN
        have hN1 := cnt_all hN (by omega) (p := fun n => n ≤ 1) (fun x y _ _ _ _ => by have := hfl.one x y; omega)
        (refine g0_ ?_; repeat ((first | refine n1_ fun b_ => ?_ | refine n2_ fun b_ => ?_ | refine Nat1.mk fun q_ hq_ => ?_ | refine em_ fun x_ hx_ => ?_ | refine Elem1.mk fun e_ he_ => ?_); refine g0_ ?_))
        refine (contains_many W N (by omega) hN1).borrow rfl rfl (fun j hj => ?_) ?_
        · match j, hj with
          | 0, _ => exact frz_row (.there _ _ _ _ _ (.here _ _ _)) _ (by rw [List.length_map]; omega)
          | 1, _ => exact .refl _
        (refine g0_ ?_; repeat ((first | refine n1_ fun b_ => ?_ | refine n2_ fun b_ => ?_ | refine Nat1.mk fun q_ hq_ => ?_ | refine em_ fun x_ hx_ => ?_ | refine Elem1.mk fun e_ he_ => ?_); refine g0_ ?_))
        have hq1 : Q = N.length := by omega
        subst hq1
        refine' loopI (α := Int) (fun y => [(15, .int .i64 y)]) [(2, _), (3, _), (4, _), (7, _), (14, _)] (fun y => freeM bn bW bL w N ++ [⟨bT, .row 4 [.agg [.int .i64 w', .int .i64 p, .int .i64 s, .sl 4 (ks.map encSpl)]] 0⟩]) (fun y => 0 ≤ y ∧ y ≤ h - 1) (fun y => (h - y).toNat) 0 ?_ ?_
        · omega
        rintro y ⟨hy1, hy2⟩
        (refine g0_ ?_; repeat ((first | refine n1_ fun b_ => ?_ | refine n2_ fun b_ => ?_ | refine Nat1.mk fun q_ hq_ => ?_ | refine em_ fun x_ hx_ => ?_ | refine Elem1.mk fun e_ he_ => ?_); refine g0_ ?_))
        refine brec ?_; intro c_ hyt; (try rw [hyt]); cases c_ <;> replace hyt := nm_ hyt
        · (refine g0_ ?_; repeat ((first | refine n1_ fun b_ => ?_ | refine n2_ fun b_ => ?_ | refine Nat1.mk fun q_ hq_ => ?_ | refine em_ fun x_ hx_ => ?_ | refine Elem1.mk fun e_ he_ => ?_); refine g0_ ?_))
          refine' loopI (α := Nat × Nat × (List Int)) (fun (i, b', o) => [(170, .int .i64 i), (17, accV b' 1 (panesV o))]) [(3, _), (168, _), (169, _)] (fun (i, b', o) => accM b' 1 (panesV o) ++ [⟨bT, .row 4 [.agg [.int .i64 w', .int .i64 p, .int .i64 s, .sl 4 (ks.map encSpl)]] 0⟩]) (fun (i, b', o) => i ≤ L.length ∧ o = (L.take i).map Plc.p) (fun (i, b', o) => L.length - i) (0, 0, []) ?_ ?_
          · exact ⟨Nat.zero_le _, rfl⟩
          rintro ⟨i, b', o⟩ ⟨hi, ho⟩
          rcases o with _ | ⟨o0, o⟩
          · (refine g0_ ?_; repeat ((first | refine n1_ fun b_ => ?_ | refine n2_ fun b_ => ?_ | refine Nat1.mk fun q_ hq_ => ?_ | refine em_ fun x_ hx_ => ?_ | refine Elem1.mk fun e_ he_ => ?_); refine g0_ ?_))
            refine brec ?_; intro c_ hlt; (try rw [hlt]); cases c_ <;> replace hlt := nm_ hlt
            · have : i = L.length := by omega
              subst this
              rw [List.take_length, hlp] at ho
              rw [← ho] at hpn heqi
              (refine g0_ ?_; repeat ((first | refine n1_ fun b_ => ?_ | refine n2_ fun b_ => ?_ | refine Nat1.mk fun q_ hq_ => ?_ | refine em_ fun x_ hx_ => ?_ | refine Elem1.mk fun e_ he_ => ?_); refine g0_ ?_))
              refine (hpn).use ?_; (refine g0_ ?_; repeat ((first | refine n1_ fun b_ => ?_ | refine n2_ fun b_ => ?_ | refine Nat1.mk fun q_ hq_ => ?_ | refine em_ fun x_ hx_ => ?_ | refine Elem1.mk fun e_ he_ => ?_); refine g0_ ?_))
              refine heqi.borrow rfl rfl (fun j hj => ?_) ?_
              · match j, hj with
                | 0, _ => exact .nils 1
                | 1, _ => exact .refl _
              exact .refl _
            · have hil : i < L.length := by omega
              have hxg := List.getElem?_eq_getElem hil
              generalize L[i] = a at *
              have hol := congrArg List.length ho
              rw [List.length_map, List.length_take] at hol
              simp only [List.length_cons, List.length_nil] at hol
              have hL12 : L.length ≤ 12 := by omega
              have hnx : [] ++ [a.p] = (L.take (i + 1)).map Plc.p := by rw [take_snoc_of hxg, List.map_append, ← ho]; rfl
              (refine g0_ ?_; repeat ((first | refine n1_ fun b_ => ?_ | refine n2_ fun b_ => ?_ | refine Nat1.mk fun q_ hq_ => ?_ | refine em_ fun x_ hx_ => ?_ | refine Elem1.mk fun e_ he_ => ?_); refine g0_ ?_))
              refine .inl ?_
              (refine g0_ ?_; repeat ((first | refine n1_ fun b_ => ?_ | refine n2_ fun b_ => ?_ | refine Nat1.mk fun q_ hq_ => ?_ | refine em_ fun x_ hx_ => ?_ | refine Elem1.mk fun e_ he_ => ?_); refine g0_ ?_))
              try rw [show (List.map (PV.int .i64) o).length + 1 + 1 = (List.map (PV.int .i64) (o ++ [a.p])).length + 1 from by simp]
              try rw [show (PV.int .i64 o0 :: List.map (PV.int .i64) o) ++ [PV.int .i64 a.p] = panesV (o0 :: o ++ [a.p]) from by simp [panesV]]
              refine nx_ (i + 1, b_, [] ++ [a.p]) ?_ ?_
              · exact ⟨hil, hnx⟩
              · ((try dsimp only); (try simp only [List.length_drop, List.length_take, List.length_append, List.length_cons, List.length_nil, List.length_map] at *); omega)
          · (refine g0_ ?_; repeat ((first | refine n1_ fun b_ => ?_ | refine n2_ fun b_ => ?_ | refine Nat1.mk fun q_ hq_ => ?_ | refine em_ fun x_ hx_ => ?_ | refine Elem1.mk fun e_ he_ => ?_); refine g0_ ?_))
            refine brec ?_; intro c_ hlt; (try rw [hlt]); cases c_ <;> replace hlt := nm_ hlt
            · have : i = L.length := by omega
              subst this
              rw [List.take_length, hlp] at ho
              rw [← ho] at hpn heqi
              (refine g0_ ?_; repeat ((first | refine n1_ fun b_ => ?_ | refine n2_ fun b_ => ?_ | refine Nat1.mk fun q_ hq_ => ?_ | refine em_ fun x_ hx_ => ?_ | refine Elem1.mk fun e_ he_ => ?_); refine g0_ ?_))
              refine (hpn).use ?_; (refine g0_ ?_; repeat ((first | refine n1_ fun b_ => ?_ | refine n2_ fun b_ => ?_ | refine Nat1.mk fun q_ hq_ => ?_ | refine em_ fun x_ hx_ => ?_ | refine Elem1.mk fun e_ he_ => ?_); refine g0_ ?_))
              refine heqi.borrow rfl rfl (fun j hj => ?_) ?_
              · match j, hj with
                | 0, _ => exact frz_row (l := panesV (o0 :: o)) (.here _ _ _) _ rfl
                | 1, _ => exact .refl _
              exact .refl _
            · have hil : i < L.length := by omega
              have hxg := List.getElem?_eq_getElem hil
              generalize L[i] = a at *
              have hol := congrArg List.length ho
              rw [List.length_map, List.length_take] at hol
              simp only [List.length_cons, List.length_nil] at hol
              have hL12 : L.length ≤ 12 := by omega
              have hnx : (o0 :: o) ++ [a.p] = (L.take (i + 1)).map Plc.p := by rw [take_snoc_of hxg, List.map_append, ← ho]; rfl
              (refine g0_ ?_; repeat ((first | refine n1_ fun b_ => ?_ | refine n2_ fun b_ => ?_ | refine Nat1.mk fun q_ hq_ => ?_ | refine em_ fun x_ hx_ => ?_ | refine Elem1.mk fun e_ he_ => ?_); refine g0_ ?_))
              refine .inl ?_
              (refine g0_ ?_; repeat ((first | refine n1_ fun b_ => ?_ | refine n2_ fun b_ => ?_ | refine Nat1.mk fun q_ hq_ => ?_ | refine em_ fun x_ hx_ => ?_ | refine Elem1.mk fun e_ he_ => ?_); refine g0_ ?_))
              try rw [show (List.map (PV.int .i64) o).length + 1 + 1 = (List.map (PV.int .i64) (o ++ [a.p])).length + 1 from by simp]
              try rw [show (PV.int .i64 o0 :: List.map (PV.int .i64) o) ++ [PV.int .i64 a.p] = panesV (o0 :: o ++ [a.p]) from by simp [panesV]]
              refine nx_ (i + 1, b_, (o0 :: o) ++ [a.p]) ?_ ?_
              · exact ⟨hil, hnx⟩
              · ((try dsimp only); (try simp only [List.length_drop, List.length_take, List.length_append, List.length_cons, List.length_nil, List.length_map] at *); omega)
        · (refine g0_ ?_; repeat ((first | refine n1_ fun b_ => ?_ | refine n2_ fun b_ => ?_ | refine Nat1.mk fun q_ hq_ => ?_ | refine em_ fun x_ hx_ => ?_ | refine Elem1.mk fun e_ he_ => ?_); refine g0_ ?_))
          refine' loopI (α := Int) (fun x => [(16, .int .i64 x)]) [(2, _), (3, _), (4, _), (7, _), (14, _), (15, _)] (fun x => freeM bn bW bL w N ++ [⟨bT, .row 4 [.agg [.int .i64 w', .int .i64 p, .int .i64 s, .sl 4 (ks.map encSpl)]] 0⟩]) (fun x => 0 ≤ x ∧ x ≤ w - 1) (fun x => (w - x).toNat) 0 ?_ ?_
          · omega
          rintro x ⟨hx1, hx2⟩
          (refine g0_ ?_; repeat ((first | refine n1_ fun b_ => ?_ | refine n2_ fun b_ => ?_ | refine Nat1.mk fun q_ hq_ => ?_ | refine em_ fun x_ hx_ => ?_ | refine Elem1.mk fun e_ he_ => ?_); refine g0_ ?_))
          refine brec ?_; intro c_ hxt; (try rw [hxt]); cases c_ <;> replace hxt := nm_ hxt
          · (refine g0_ ?_; repeat ((first | refine n1_ fun b_ => ?_ | refine n2_ fun b_ => ?_ | refine Nat1.mk fun q_ hq_ => ?_ | refine em_ fun x_ hx_ => ?_ | refine Elem1.mk fun e_ he_ => ?_); refine g0_ ?_))
            refine nx_ (y + 1) ?_ ?_
            · omega
            · ((try dsimp only); (try simp only [List.length_drop, List.length_take, List.length_append, List.length_cons, List.length_nil, List.length_map] at *); omega)
          · have f1 := free_ok W bn bW bL w h (by omega) (by omega) N hN (x := x) (y := y) (by omega) (by omega) (by omega) (by omega)
            have f2 := free_ok W bn bW bL w h (by omega) (by omega) N hN (x := x + 1) (y := y) (by omega) (by omega) (by omega) (by omega)
            have f3 := free_ok W bn bW bL w h (by omega) (by omega) N hN (x := x) (y := y + 1) (by omega) (by omega) (by omega) (by omega)
            have f4 := free_ok W bn bW bL w h (by omega) (by omega) N hN (x := x + 1) (y := y + 1) (by omega) (by omega) (by omega) (by omega)
            (refine g0_ ?_; repeat ((first | refine n1_ fun b_ => ?_ | refine n2_ fun b_ => ?_ | refine Nat1.mk fun q_ hq_ => ?_ | refine em_ fun x_ hx_ => ?_ | refine Elem1.mk fun e_ he_ => ?_); refine g0_ ?_))
            by_cases e1 : (covN L x y : Int) = 0
            · rw [decide_eq_true e1] at f1
              refine ACalls.lend f1 (List.Perm.refl _) fun _ _ => ?_
              (refine g0_ ?_; repeat ((first | refine n1_ fun b_ => ?_ | refine n2_ fun b_ => ?_ | refine Nat1.mk fun q_ hq_ => ?_ | refine em_ fun x_ hx_ => ?_ | refine Elem1.mk fun e_ he_ => ?_); refine g0_ ?_))
              by_cases e2 : (covN L (x + 1) y : Int) = 0
              · rw [decide_eq_true e2] at f2
                refine ACalls.lend f2 (List.Perm.refl _) fun _ _ => ?_
                (refine g0_ ?_; repeat ((first | refine n1_ fun b_ => ?_ | refine n2_ fun b_ => ?_ | refine Nat1.mk fun q_ hq_ => ?_ | refine em_ fun x_ hx_ => ?_ | refine Elem1.mk fun e_ he_ => ?_); refine g0_ ?_))
                by_cases e3 : (covN L x (y + 1) : Int) = 0
                · rw [decide_eq_true e3] at f3
                  refine ACalls.lend f3 (List.Perm.refl _) fun _ _ => ?_
                  (refine g0_ ?_; repeat ((first | refine n1_ fun b_ => ?_ | refine n2_ fun b_ => ?_ | refine Nat1.mk fun q_ hq_ => ?_ | refine em_ fun x_ hx_ => ?_ | refine Elem1.mk fun e_ he_ => ?_); refine g0_ ?_))
                  by_cases e4 : (covN L (x + 1) (y + 1) : Int) = 0
                  · obtain ⟨c, hc, g⟩ := hfl.blk x y (by omega) (by omega) (by omega) (by omega)
                    rcases g with g | g | g | g
                    · have := cov_of hc g; omega
                    · have := cov_of hc g; omega
                    · have := cov_of hc g; omega
                    · have := cov_of hc g; omega
                  · rw [decide_eq_false e4] at f4
                    refine ACalls.lend f4 (List.Perm.refl _) fun _ _ => ?_
                    (refine g0_ ?_; repeat ((first | refine n1_ fun b_ => ?_ | refine n2_ fun b_ => ?_ | refine Nat1.mk fun q_ hq_ => ?_ | refine em_ fun x_ hx_ => ?_ | refine Elem1.mk fun e_ he_ => ?_); refine g0_ ?_))
                    refine nx_ (x + 1) ?_ ?_
                    · omega
                    · ((try dsimp only); (try simp only [List.length_drop, List.length_take, List.length_append, List.length_cons, List.length_nil, List.length_map] at *); omega)
                · rw [decide_eq_false e3] at f3
                  refine ACalls.lend f3 (List.Perm.refl _) fun _ _ => ?_
                  (refine g0_ ?_; repeat ((first | refine n1_ fun b_ => ?_ | refine n2_ fun b_ => ?_ | refine Nat1.mk fun q_ hq_ => ?_ | refine em_ fun x_ hx_ => ?_ | refine Elem1.mk fun e_ he_ => ?_); refine g0_ ?_))
                  refine nx_ (x + 1) ?_ ?_
                  · omega
                  · ((try dsimp only); (try simp only [List.length_drop, List.length_take, List.length_append, List.length_cons, List.length_nil, List.length_map] at *); omega)
              · rw [decide_eq_false e2] at f2
                refine ACalls.lend f2 (List.Perm.refl _) fun _ _ => ?_
                (refine g0_ ?_; repeat ((first | refine n1_ fun b_ => ?_ | refine n2_ fun b_ => ?_ | refine Nat1.mk fun q_ hq_ => ?_ | refine em_ fun x_ hx_ => ?_ | refine Elem1.mk fun e_ he_ => ?_); refine g0_ ?_))
                refine nx_ (x + 1) ?_ ?_
                · omega
                · ((try dsimp only); (try simp only [List.length_drop, List.length_take, List.length_append, List.length_cons, List.length_nil, List.length_map] at *); omega)
            · rw [decide_eq_false e1] at f1
              refine ACalls.lend f1 (List.Perm.refl _) fun _ _ => ?_
              (refine g0_ ?_; repeat ((first | refine n1_ fun b_ => ?_ | refine n2_ fun b_ => ?_ | refine Nat1.mk fun q_ hq_ => ?_ | refine em_ fun x_ hx_ => ?_ | refine Elem1.mk fun e_ he_ => ?_); refine g0_ ?_))
              refine nx_ (x + 1) ?_ ?_
              · omega
              · ((try dsimp only); (try simp only [List.length_drop, List.length_take, List.length_append, List.length_cons, List.length_nil, List.length_map] at *); omega)
      · have hil : i < L.length := by omega
        have hxg := List.getElem?_eq_getElem hil
        have hxm := hfl.within _ (List.getElem_mem hil)
        generalize L[i] = a at *
        (refine g0_ ?_; repeat ((first | refine n1_ fun b_ => ?_ | refine n2_ fun b_ => ?_ | refine Nat1.mk fun q_ hq_ => ?_ | refine em_ fun x_ hx_ => ?_ | refine Elem1.mk fun e_ he_ => ?_); refine g0_ ?_))
        (refine g1_ ?_; repeat ((first | refine n1_ fun b_ => ?_ | refine n2_ fun b_ => ?_ | refine Nat1.mk fun q_ hq_ => ?_ | refine em_ fun x_ hx_ => ?_ | refine Elem1.mk fun e_ he_ => ?_); refine g1_ ?_))
        revert b_
        intro bp
        refine' loopI (α := Int × (List Int)) (fun (y', N') => [(12, .int .i64 y')]) [(2, _), (3, _), (4, _), (7, _), (9, _), (11, _), (38, _), (39, _), (40, _)] (fun (y', N') => ⟨bp, .row 5 [encPlc a] 0⟩ :: ⟨bn, .row 1 [.rsl bL 1 0 Q] 0⟩ :: ⟨bL, .row 1 (N'.map (PV.int .i64)) 0⟩ :: ⟨bW, .row 1 [.int .i64 w] 0⟩ :: [⟨bT, .row 4 [.agg [.int .i64 w', .int .i64 p, .int .i64 s, .sl 4 (ks.map encSpl)]] 0⟩]) (fun (y', N') => a.y ≤ y' ∧ y' ≤ a.y + a.h ∧ Cnt w h N' (ahead (L.take i) a y' a.x)) (fun (y', N') => (a.y + a.h - y').toNat) (a.y, N) ?_ ?_
        · exact ⟨Int.le_refl _, by omega, cnt_congr hN fun x y _ _ _ _ => ahead_first _ _ _ _⟩
        rintro ⟨y', N'⟩ ⟨hy1, hy2, hN'⟩
        have hl' := hN'.1
        (refine g0_ ?_; repeat ((first | refine n1_ fun b_ => ?_ | refine n2_ fun b_ => ?_ | refine Nat1.mk fun q_ hq_ => ?_ | refine em_ fun x_ hx_ => ?_ | refine Elem1.mk fun e_ he_ => ?_); refine g0_ ?_))
        refine brec ?_; intro c_ hyt; (try rw [hyt]); cases c_ <;> replace hyt := nm_ hyt
        · have : y' = a.y + a.h := by omega
          subst this
          have hnx := cnt_congr hN' fun x y _ _ _ _ => ahead_last hxg x y
          (refine g0_ ?_; repeat ((first | refine n1_ fun b_ => ?_ | refine n2_ fun b_ => ?_ | refine Nat1.mk fun q_ hq_ => ?_ | refine em_ fun x_ hx_ => ?_ | refine Elem1.mk fun e_ he_ => ?_); refine g0_ ?_))
          refine nx_ (i + 1, N') ?_ ?_
          · exact ⟨hil, hnx⟩
          · ((try dsimp only); (try simp only [List.length_drop, List.length_take, List.length_append, List.length_cons, List.length_nil, List.length_map] at *); omega)
        · (refine g0_ ?_; repeat ((first | refine n1_ fun b_ => ?_ | refine n2_ fun b_ => ?_ | refine Nat1.mk fun q_ hq_ => ?_ | refine em_ fun x_ hx_ => ?_ | refine Elem1.mk fun e_ he_ => ?_); refine g0_ ?_))
          refine' loopI (α := Int × (List Int)) (fun (x', N') => [(13, .int .i64 x')]) [(2, _), (3, _), (4, _), (7, _), (9, _), (11, _), (12, _), (38, _), (39, _), (40, _)] (fun (x', N') => ⟨bp, .row 5 [encPlc a] 0⟩ :: ⟨bn, .row 1 [.rsl bL 1 0 Q] 0⟩ :: ⟨bL, .row 1 (N'.map (PV.int .i64)) 0⟩ :: ⟨bW, .row 1 [.int .i64 w] 0⟩ :: [⟨bT, .row 4 [.agg [.int .i64 w', .int .i64 p, .int .i64 s, .sl 4 (ks.map encSpl)]] 0⟩]) (fun (x', N') => a.x ≤ x' ∧ x' ≤ a.x + a.w ∧ Cnt w h N' (ahead (L.take i) a y' x')) (fun (x', N') => (a.x + a.w - x').toNat) (a.x, N') ?_ ?_
          · exact ⟨Int.le_refl _, by omega, hN'⟩
          rintro ⟨x', M'⟩ ⟨hx1, hx2, hM'⟩
          have hl2 := hM'.1
          (refine g0_ ?_; repeat ((first | refine n1_ fun b_ => ?_ | refine n2_ fun b_ => ?_ | refine Nat1.mk fun q_ hq_ => ?_ | refine em_ fun x_ hx_ => ?_ | refine Elem1.mk fun e_ he_ => ?_); refine g0_ ?_))
          refine brec ?_; intro c_ hxt; (try rw [hxt]); cases c_ <;> replace hxt := nm_ hxt
          · have : x' = a.x + a.w := by omega
            subst this
            have hnx := cnt_congr hM' fun x y _ _ _ _ => ahead_row _ _ _ x y
            (refine g0_ ?_; repeat ((first | refine n1_ fun b_ => ?_ | refine n2_ fun b_ => ?_ | refine Nat1.mk fun q_ hq_ => ?_ | refine em_ fun x_ hx_ => ?_ | refine Elem1.mk fun e_ he_ => ?_); refine g0_ ?_))
            refine nx_ (y' + 1, M') ?_ ?_
            · exact ⟨by omega, by omega, hnx⟩
            · ((try dsimp only); (try simp only [List.length_drop, List.length_take, List.length_append, List.length_cons, List.length_nil, List.length_map] at *); omega)
          · have hbd := lin_bd (w := w) (h := h) (x := x') (y := y') (by omega) (by omega) (by omega) (by omega)
            have hat := hM'.2 x' y' (by omega) (by omega) (by omega) (by omega)
            have hcv : covN (L.take i) x' y' ≤ L.length := Nat.le_trans List.countP_le_length (by rw [List.length_take]; omega)
            have hap : ahead (L.take i) a y' x' x' y' = covN (L.take i) x' y' := by unfold ahead; rw [if_neg (by omega)]; omega
            (refine g0_ ?_; repeat ((first | refine n1_ fun b_ => ?_ | refine n2_ fun b_ => ?_ | refine Nat1.mk fun q_ hq_ => ?_ | refine em_ fun x_ hx_ => ?_ | refine Elem1.mk fun e_ he_ => ?_); refine g0_ ?_))
            rw [hq_, Int.toNat_natCast, ← Nat.zero_add q_, hx_, Option.some.injEq] at hat
            refine Fits.ok (by omega) (by omega) ?_
            generalize x_ = v0 at *
            generalize q_ = k0 at *
            have hst := cnt_set hM' (x := x') (y := y') (by omega) (by omega) (by omega) (by omega) k0 hq_ (v0 + 1)
            rw [hat] at hst
            have hnx := cnt_congr hst fun x y _ _ _ _ => ahead_step (L.take i) a y' x' (by unfold Plc.has; omega) x y
            (refine g0_ ?_; repeat ((first | refine n1_ fun b_ => ?_ | refine n2_ fun b_ => ?_ | refine Nat1.mk fun q_ hq_ => ?_ | refine em_ fun x_ hx_ => ?_ | refine Elem1.mk fun e_ he_ => ?_); refine g0_ ?_))
            obtain rfl : q_ = k0 := by omega
            rw [Nat.zero_add q_, show PV.int IntKind.i64 (v0 + 1) = PV.int .i64 (ahead (L.take i) a y' x' x' y' + 1) from by rw [hat], ← List.map_set]
            refine nx_ (x' + 1, M'.set q_ (ahead (L.take i) a y' x' x' y' + 1)) ?_ ?_
            · exact ⟨by omega, by omega, hnx⟩
            · ((try dsimp only); (try simp only [List.length_drop, List.length_take, List.length_append, List.length_cons, List.length_nil, List.length_map] at *); omega)
  · rw [if_pos h0] at hly
    obtain ⟨w', p, s, ks⟩ := t
    rw [encSpl_mk] at *
    refine Pure.of (acalls_of_vc (drawOk W) Try.func7 rfl (by decide) (by decide) rfl ?_)
    (refine g0_ ?_; repeat ((first | refine n1_ fun b_ => ?_ | refine n2_ fun b_ => ?_ | refine Nat1.mk fun q_ hq_ => ?_ | refine em_ fun x_ hx_ => ?_ | refine Elem1.mk fun e_ he_ => ?_); refine g0_ ?_))
    refine (hly).use ?_; (refine g0_ ?_; repeat ((first | refine n1_ fun b_ => ?_ | refine n2_ fun b_ => ?_ | refine Nat1.mk fun q_ hq_ => ?_ | refine em_ fun x_ hx_ => ?_ | refine Elem1.mk fun e_ he_ => ?_); refine g0_ ?_))
    (refine g1_ ?_; repeat ((first | refine n1_ fun b_ => ?_ | refine n2_ fun b_ => ?_ | refine Nat1.mk fun q_ hq_ => ?_ | refine em_ fun x_ hx_ => ?_ | refine Elem1.mk fun e_ he_ => ?_); refine g1_ ?_))
    refine (hpt).use ?_; (refine g0_ ?_; repeat ((first | refine n1_ fun b_ => ?_ | refine n2_ fun b_ => ?_ | refine Nat1.mk fun q_ hq_ => ?_ | refine em_ fun x_ hx_ => ?_ | refine Elem1.mk fun e_ he_ => ?_); refine g0_ ?_))
    (refine g1_ ?_; repeat ((first | refine n1_ fun b_ => ?_ | refine n2_ fun b_ => ?_ | refine Nat1.mk fun q_ hq_ => ?_ | refine em_ fun x_ hx_ => ?_ | refine Elem1.mk fun e_ he_ => ?_); refine g1_ ?_))
    refine (hpt).use ?_; (refine g0_ ?_; repeat ((first | refine n1_ fun b_ => ?_ | refine n2_ fun b_ => ?_ | refine Nat1.mk fun q_ hq_ => ?_ | refine em_ fun x_ hx_ => ?_ | refine Elem1.mk fun e_ he_ => ?_); refine g0_ ?_))
    exact .refl _
end Go.Eng.Ytkbfojigbbokcaa
end
