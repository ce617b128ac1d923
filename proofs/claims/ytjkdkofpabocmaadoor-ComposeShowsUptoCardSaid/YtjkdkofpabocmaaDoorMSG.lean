/- Texts put together: Spl20. -/
import Derived.Test.YtjkdkofpabocmaaDoorMSA
import Derived.Test.YtjkdkofpabocmaaDoorMSD
import Derived.Test.YtjkdkofpabocmaaDoorMSB
import Derived.Test.YtjkdkofpabocmaaDoorMSF
import Derived.Test.YtjkdkofpabocmaaDoorME3
/- The law SplitLay (b_ x_ q_ e_). -/
section
namespace Go.Eng.YtjkdkofpabocmaaDoor
open Go Go.Eng Go.Proofs
variable (W : World)
set_option linter.unusedSimpArgs false
set_option maxRecDepth 100000
set_option linter.unusedVariables false
set_option maxHeartbeats 4000000
theorem layT_ok (t : Spl) : ∀ way, t.right way → (panesT t).length ≤ 12 → ∀ x y wd hg : Int, (leastT t).1 ≤ wd → (leastT t).2 ≤ hg → 0 ≤ x → 0 ≤ y → x + wd ≤ 300 → y + hg ≤ 300 → ∀ c ∈ layT t x y wd hg, c.ok := by
  induction t using spl_induct with
  | h w p s ks ih =>
    intro way hr hn x y wd hg hlw hlh hx hy hxw hyh
    have hr0 := hr
    rw [right_mk] at hr
    have hlb := least_B (.mk w p s ks) way hr0
    rw [panesT_mk] at hn
    rw [layT_mk]
    rcases hr.2 with ⟨h0, hk, h1, h2⟩ | ⟨hw, -, hk2, -, hkr⟩
    · rw [if_pos h0]
      intro c hc
      obtain rfl := List.mem_singleton.1 hc
      unfold Plc.ok i64ok
      dsimp only
      omega
    · have hw0 : ¬ w = 0 := by omega
      rw [if_neg hw0] at hn ⊢
      have hkp := kids_panes hkr
      have hne : ks ≠ [] := by rintro rfl; simp at hk2
      obtain ⟨hs1, hs2⟩ := least_sum (p := p) (s := s) hw hne
      generalize hall : (if w = 2 then hg else wd) = all at *
      have hal : alongT w (leastT (.mk w p s ks)) ≤ all := by unfold alongT; rw [← hall]; split <;> assumption
      have hrest : 0 ≤ restS w ks all := by unfold restS; omega
      obtain ⟨he1, he2⟩ := shares_enough hrest hne fun k hk => (size_bd (hkr k hk)).1
      generalize sharesT w ks all = ns at *
      rcases hw with rfl | rfl
      · rw [if_neg (by decide)] at hall
        subst hall
        have key : ∀ (l : List Spl) (ns : List Int) (x : Int), (∀ k ∈ l, k ∈ ks) → enough 1 l ns → 0 ≤ x → x + sumL ns + l.length ≤ 301 → ∀ c ∈ layTs 1 wd hg l ns x y, c.ok := by
          intro l
          induction l with
          | nil => intro ns x _ _ _ _ c hc; rw [layTs] at hc; cases hc
          | cons k l ihl =>
            intro ns x hm he hx0 hs c hc
            obtain ⟨n, r, rfl, hnb, he2⟩ := he
            have hmk := hm k (by simp)
            have hes := enough_sum he2 fun k' hk' => (need_bd (hkr k' (hm k' (List.mem_cons_of_mem _ hk'))) (Nat.le_trans (kid_panes (hm k' (List.mem_cons_of_mem _ hk'))) hn)).1
            have hn1 := Int.le_trans (need_bd (w := 1) (hkr k hmk) (Nat.le_trans (kid_panes hmk) hn)).1 hnb
            simp only [sumL, List.foldr_cons, List.length_cons] at hs hes
            push_cast at hs
            rw [layTs, if_pos rfl, List.headD_cons, List.tail_cons] at hc
            rcases List.mem_append.1 hc with hc | hc
            · exact ih k hmk 1 (hkr k hmk) (Nat.le_trans (kid_panes hmk) hn) x y n hg hnb (Int.le_trans (hs2 k hmk) hlh) hx0 hy (by omega) hyh c hc
            · exact ihl r _ (fun z hz => hm z (List.mem_cons_of_mem _ hz)) he2 (by omega) (by simp only [sumL]; omega) c hc
        exact key ks ns x (fun _ h => h) he1 hx (by omega)
      · rw [if_pos rfl] at hall
        subst hall
        have key : ∀ (l : List Spl) (ns : List Int) (y : Int), (∀ k ∈ l, k ∈ ks) → enough 2 l ns → 0 ≤ y → y + sumL ns + l.length ≤ 301 → ∀ c ∈ layTs 2 wd hg l ns x y, c.ok := by
          intro l
          induction l with
          | nil => intro ns x _ _ _ _ c hc; rw [layTs] at hc; cases hc
          | cons k l ihl =>
            intro ns y hm he hy0 hs c hc
            obtain ⟨n, r, rfl, hnb, he2⟩ := he
            have hmk := hm k (by simp)
            have hes := enough_sum he2 fun k' hk' => (need_bd (hkr k' (hm k' (List.mem_cons_of_mem _ hk'))) (Nat.le_trans (kid_panes (hm k' (List.mem_cons_of_mem _ hk'))) hn)).1
            have hn1 := Int.le_trans (need_bd (w := 2) (hkr k hmk) (Nat.le_trans (kid_panes hmk) hn)).1 hnb
            simp only [sumL, List.foldr_cons, List.length_cons] at hs hes
            push_cast at hs
            rw [layTs, if_neg (by decide), List.headD_cons, List.tail_cons] at hc
            rcases List.mem_append.1 hc with hc | hc
            · exact ih k hmk 2 (hkr k hmk) (Nat.le_trans (kid_panes hmk) hn) x y wd n (Int.le_trans (hs2 k hmk) hlw) hnb hx hy0 hxw (by omega) c hc
            · exact ihl r _ (fun z hz => hm z (List.mem_cons_of_mem _ hz)) he2 (by omega) (by simp only [sumL]; omega) c hc
        exact key ks ns y (fun _ h => h) he1 hy (by omega)
theorem chk_eqL (t : Spl) : (visS t 0 (0, [])).1 = (chkT t 0 []).1 := (checks_agree t 0 [] (by decide)).1
theorem chk_panesL {t : Spl} (h : (chkT t 0 []).1 = 0) : (chkT t 0 []).2 = panesT t := by
  have := (chk_right t 0 [] h).2.1
  rwa [List.nil_append] at this
end Go.Eng.YtjkdkofpabocmaaDoor
end
