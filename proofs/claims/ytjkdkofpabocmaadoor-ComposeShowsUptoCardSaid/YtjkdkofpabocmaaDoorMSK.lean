/- Texts put together: Spl31. -/
import Derived.Test.YtjkdkofpabocmaaDoorMSG
/- Splits: what is laid out fills all (plain). -/
section
namespace Go.Eng.YtjkdkofpabocmaaDoor
open Go Go.Eng Go.Proofs
set_option linter.unusedSimpArgs false
set_option maxRecDepth 100000
set_option linter.unusedVariables false
def Plc.has (a : Plc) (i j : Int) : Prop := a.x ≤ i ∧ i < a.x + a.w ∧ a.y ≤ j ∧ j < a.y + a.h
instance (a : Plc) (i j : Int) : Decidable (a.has i j) := by unfold Plc.has; infer_instance
/-- How many places have a cell. -/
def covN (l : List Plc) (i j : Int) : Nat := l.countP fun a => decide (a.has i j)
structure Fills (l : List Plc) (x y wd hg : Int) : Prop where
  within : ∀ c ∈ l, 1 ≤ c.w ∧ 1 ≤ c.h ∧ x ≤ c.x ∧ y ≤ c.y ∧ c.x + c.w ≤ x + wd ∧ c.y + c.h ≤ y + hg
  one : ∀ i j, covN l i j ≤ 1
  blk : ∀ i j, x ≤ i + 1 → i < x + wd → y ≤ j + 1 → j < y + hg → ∃ c ∈ l, c.has i j ∨ c.has (i + 1) j ∨ c.has i (j + 1) ∨ c.has (i + 1) (j + 1)
theorem cov_pos {l : List Plc} {i j : Int} (h : 0 < covN l i j) : ∃ c ∈ l, c.has i j := by
  obtain ⟨c, h1, h2⟩ := List.countP_pos_iff.1 h
  exact ⟨c, h1, of_decide_eq_true h2⟩
theorem cov_of {l : List Plc} {i j : Int} {c : Plc} (h1 : c ∈ l) (h2 : c.has i j) : 0 < covN l i j := List.countP_pos_iff.2 ⟨c, h1, decide_eq_true h2⟩
theorem cov_app (l r : List Plc) (i j : Int) : covN (l ++ r) i j = covN l i j + covN r i j := List.countP_append
theorem fills_one {p x y wd hg : Int} (hw : 1 ≤ wd) (hh : 1 ≤ hg) : Fills [⟨p, x, y, wd, hg⟩] x y wd hg := by
  refine ⟨?_, ?_, ?_⟩
  · intro c hc
    obtain rfl := List.mem_singleton.1 hc
    dsimp only
    omega
  · intro i j
    exact List.countP_le_length
  · intro i j h1 h2 h3 h4
    refine ⟨_, List.mem_singleton.2 rfl, ?_⟩
    unfold Plc.has
    dsimp only
    omega
theorem fills_row {l r : List Plc} {x y n m hg : Int} (hl : Fills l x y n hg) (hn : 0 ≤ n) (hm : -1 ≤ m) (hr : Fills r (x + (n + 1)) y m hg) : Fills (l ++ r) x y (n + 1 + m) hg := by
  refine ⟨?_, ?_, ?_⟩
  · intro c hc
    rcases List.mem_append.1 hc with hc | hc
    · have := hl.within c hc; omega
    · have := hr.within c hc; omega
  · intro i j
    rw [cov_app]
    have h1 := hl.one i j
    have h2 := hr.one i j
    by_cases h3 : covN l i j = 0
    · omega
    · by_cases h4 : covN r i j = 0
      · omega
      · obtain ⟨c, hc, hc2⟩ := cov_pos (Nat.pos_of_ne_zero h3)
        obtain ⟨d, hd, hd2⟩ := cov_pos (Nat.pos_of_ne_zero h4)
        have e1 := hl.within c hc
        have e2 := hr.within d hd
        unfold Plc.has at hc2 hd2
        omega
  · intro i j h1 h2 h3 h4
    by_cases h5 : i < x + n
    · obtain ⟨c, hc, h⟩ := hl.blk i j h1 h5 h3 h4
      exact ⟨c, List.mem_append_left _ hc, h⟩
    · obtain ⟨c, hc, h⟩ := hr.blk i j (by omega) (by omega) h3 h4
      exact ⟨c, List.mem_append_right _ hc, h⟩
theorem fills_col {l r : List Plc} {x y n m wd : Int} (hl : Fills l x y wd n) (hn : 0 ≤ n) (hm : -1 ≤ m) (hr : Fills r x (y + (n + 1)) wd m) : Fills (l ++ r) x y wd (n + 1 + m) := by
  refine ⟨?_, ?_, ?_⟩
  · intro c hc
    rcases List.mem_append.1 hc with hc | hc
    · have := hl.within c hc; omega
    · have := hr.within c hc; omega
  · intro i j
    rw [cov_app]
    have h1 := hl.one i j
    have h2 := hr.one i j
    by_cases h3 : covN l i j = 0
    · omega
    · by_cases h4 : covN r i j = 0
      · omega
      · obtain ⟨c, hc, hc2⟩ := cov_pos (Nat.pos_of_ne_zero h3)
        obtain ⟨d, hd, hd2⟩ := cov_pos (Nat.pos_of_ne_zero h4)
        have e1 := hl.within c hc
        have e2 := hr.within d hd
        unfold Plc.has at hc2 hd2
        omega
  · intro i j h1 h2 h3 h4
    by_cases h5 : j < y + n
    · obtain ⟨c, hc, h⟩ := hl.blk i j h1 h2 h3 h5
      exact ⟨c, List.mem_append_left _ hc, h⟩
    · obtain ⟨c, hc, h⟩ := hr.blk i j h1 h2 (by omega) (by omega)
      exact ⟨c, List.mem_append_right _ hc, h⟩
theorem fills_nilR (x y hg : Int) : Fills [] x y (-1) hg := ⟨fun _ h => (by cases h), fun _ _ => Nat.zero_le _, fun i j h1 h2 => by omega⟩
theorem fills_nilC (x y wd : Int) : Fills [] x y wd (-1) := ⟨fun _ h => (by cases h), fun _ _ => Nat.zero_le _, fun i j _ _ h3 h4 => by omega⟩
theorem layT_fills (t : Spl) : ∀ way, t.right way → (panesT t).length ≤ 12 → ∀ x y wd hg : Int, (leastT t).1 ≤ wd → (leastT t).2 ≤ hg → Fills (layT t x y wd hg) x y wd hg := by
  induction t using spl_induct with
  | h w p s ks ih =>
    intro way hr hn x y wd hg hlw hlh
    have hr0 := hr
    rw [right_mk] at hr
    have hlb := least_B (.mk w p s ks) way hr0
    rw [panesT_mk] at hn
    rw [layT_mk]
    rcases hr.2 with ⟨h0, hk, h1, h2⟩ | ⟨hw, -, hk2, -, hkr⟩
    · rw [if_pos h0]
      exact fills_one (by omega) (by omega)
    · have hw0 : ¬ w = 0 := by omega
      rw [if_neg hw0] at hn ⊢
      have hkp := kids_panes hkr
      have hne : ks ≠ [] := by rintro rfl; simp at hk2
      obtain ⟨hs1, hs2⟩ := least_sum (p := p) (s := s) hw hne
      generalize hall : (if w = 2 then hg else wd) = all at *
      have hal : alongT w (leastT (.mk w p s ks)) ≤ all := by unfold alongT; rw [← hall]; split <;> assumption
      have hrest : 0 ≤ restS w ks all := by unfold restS; omega
      obtain ⟨he1, he2⟩ := shares_enough hrest hne fun k hk => (size_bd (hkr k hk)).1
      generalize sharesT w ks all = ns at *
      rcases hw with rfl | rfl
      · rw [if_neg (by decide)] at hall
        subst hall
        have key : ∀ (l : List Spl) (ns : List Int) (x : Int), (∀ k ∈ l, k ∈ ks) → enough 1 l ns → Fills (layTs 1 wd hg l ns x y) x y (sumL ns + l.length - 1) hg := by
          intro l
          induction l with
          | nil =>
            intro ns x _ he
            rw [enough] at he
            subst he
            rw [layTs]
            simp only [sumL, List.foldr_nil, List.length_nil]
            exact fills_nilR x y hg
          | cons k l ihl =>
            intro ns x hm he
            obtain ⟨n, r, rfl, hnb, he2⟩ := he
            have hmk := hm k (by simp)
            have hes := enough_sum he2 fun k' hk' => (need_bd (hkr k' (hm k' (List.mem_cons_of_mem _ hk'))) (Nat.le_trans (kid_panes (hm k' (List.mem_cons_of_mem _ hk'))) hn)).1
            have hn1 := Int.le_trans (need_bd (w := 1) (hkr k hmk) (Nat.le_trans (kid_panes hmk) hn)).1 hnb
            have i1 := ih k hmk 1 (hkr k hmk) (Nat.le_trans (kid_panes hmk) hn) x y n hg hnb (Int.le_trans (hs2 k hmk) hlh)
            have i2 := ihl r (x + (n + 1)) (fun z hz => hm z (List.mem_cons_of_mem _ hz)) he2
            rw [layTs, if_pos rfl, List.headD_cons, List.tail_cons]
            have i3 := fills_row i1 (by omega) (by omega) i2
            rw [show sumL (n :: r) + ((k :: l).length : Int) - 1 = n + 1 + (sumL r + (l.length : Int) - 1) by simp only [sumL, List.foldr_cons, List.length_cons]; push_cast; omega]
            exact i3
        have := key ks ns x (fun _ h => h) he1
        rwa [show sumL ns + (ks.length : Int) - 1 = wd by omega] at this
      · rw [if_pos rfl] at hall
        subst hall
        have key : ∀ (l : List Spl) (ns : List Int) (y : Int), (∀ k ∈ l, k ∈ ks) → enough 2 l ns → Fills (layTs 2 wd hg l ns x y) x y wd (sumL ns + l.length - 1) := by
          intro l
          induction l with
          | nil =>
            intro ns x _ he
            rw [enough] at he
            subst he
            rw [layTs]
            simp only [sumL, List.foldr_nil, List.length_nil]
            exact fills_nilC _ _ _
          | cons k l ihl =>
            intro ns y hm he
            obtain ⟨n, r, rfl, hnb, he2⟩ := he
            have hmk := hm k (by simp)
            have hes := enough_sum he2 fun k' hk' => (need_bd (hkr k' (hm k' (List.mem_cons_of_mem _ hk'))) (Nat.le_trans (kid_panes (hm k' (List.mem_cons_of_mem _ hk'))) hn)).1
            have hn1 := Int.le_trans (need_bd (w := 2) (hkr k hmk) (Nat.le_trans (kid_panes hmk) hn)).1 hnb
            have i1 := ih k hmk 2 (hkr k hmk) (Nat.le_trans (kid_panes hmk) hn) x y wd n (Int.le_trans (hs2 k hmk) hlw) hnb
            have i2 := ihl r (y + (n + 1)) (fun z hz => hm z (List.mem_cons_of_mem _ hz)) he2
            rw [layTs, if_neg (by decide), List.headD_cons, List.tail_cons]
            have i3 := fills_col i1 (by omega) (by omega) i2
            rw [show sumL (n :: r) + ((k :: l).length : Int) - 1 = n + 1 + (sumL r + (l.length : Int) - 1) by simp only [sumL, List.foldr_cons, List.length_cons]; push_cast; omega]
            exact i3
        have := key ks ns y (fun _ h => h) he1
        rwa [show sumL ns + (ks.length : Int) - 1 = hg by omega] at this
/-- The panes of what is laid out. -/
theorem layT_panes (t : Spl) : ∀ way, t.right way → ∀ x y wd hg, (layT t x y wd hg).map Plc.p = panesT t := by
  induction t using spl_induct with
  | h w p s ks ih =>
    intro way hr x y wd hg
    rw [right_mk] at hr
    rw [layT_mk, panesT_mk]
    by_cases h0 : w = 0
    · rw [if_pos h0, if_pos h0]; rfl
    · rw [if_neg h0, if_neg h0]
      have hkr : ∀ k ∈ ks, k.right w := by
        rcases hr.2 with ⟨h1, -⟩ | ⟨-, -, -, -, h⟩
        · exact absurd h1 h0
        · exact h
      have key : ∀ (l : List Spl), (∀ k ∈ l, k ∈ ks) → ∀ ns x y, (layTs w wd hg l ns x y).map Plc.p = l.flatMap panesT := by
        intro l
        induction l with
        | nil => intro _ ns x y; rfl
        | cons k l ihl =>
          intro hm ns x y
          have h1 := fun x y wd hg => ih k (hm k (by simp)) w (hkr k (hm k (by simp))) x y wd hg
          have h2 := fun ns x y => ihl (fun z hz => hm z (List.mem_cons_of_mem _ hz)) ns x y
          rw [layTs, List.flatMap_cons]
          split <;> rw [List.map_append, h1, h2]
      exact key ks (fun _ h => h) _ _ _
end Go.Eng.YtjkdkofpabocmaaDoor
end
