/- Texts put together: Scr11, Scr12. -/
import Derived.Test.YtphoefglfbifdaaDoorMW2
import Derived.Test.YtphoefglfbifdaaDoorMW1
import Derived.Test.YtphoefglfbifdaaDoorMG2
/- Screens: are they alike? -/
section
namespace Go.Eng.YtphoefglfbifdaaDoor
open Go Go.Eng Go.Proofs
variable (W : World)
set_option linter.unusedSimpArgs false
set_option maxRecDepth 100000
set_option linter.unusedVariables false
set_option maxHeartbeats 8000000
theorem equal_bools (a b : List Bool) (ha : (a.length : Int) ≤ 9223372036854775807) :
    Pure Tryd.prog W 60 [.sl 1 (a.map PV.bool), .sl 1 (b.map PV.bool)] (.bool (decide (a = b))) := by
  refine Pure.of (acalls_of_vc (drawOk W) Tryd.func60 rfl (by decide) (by decide) rfl ?_)
  (refine g0_ ?_; repeat ((first | refine n1_ fun b_ => ?_ | refine n2_ fun b_ => ?_ | refine em_ fun x_ hx_ => ?_); refine g0_ ?_))
  refine brec ?_; intro c_ hc; (try rw [hc]); cases c_ <;> replace hc := nm_ hc
  · have hlen : a.length = b.length := by simp at hc; omega
    (refine g0_ ?_; repeat ((first | refine n1_ fun b_ => ?_ | refine n2_ fun b_ => ?_ | refine em_ fun x_ hx_ => ?_); refine g0_ ?_))
    refine' loopI (α := Nat) (fun i => [(13, .int .i64 i)]) [(0, _), (1, _), (12, _)] (fun i => []) (fun i => i ≤ a.length ∧ a.take i = b.take i) (fun i => a.length - i) 0 ?_ ?_
    · exact ⟨Nat.zero_le _, by simp⟩
    rintro i ⟨hi, hw⟩
    (refine g0_ ?_; repeat ((first | refine n1_ fun b_ => ?_ | refine n2_ fun b_ => ?_ | refine em_ fun x_ hx_ => ?_); refine g0_ ?_))
    refine brec ?_; intro c_ h1; (try rw [h1]); cases c_ <;> replace h1 := nm_ h1
    · (refine g0_ ?_; repeat ((first | refine n1_ fun b_ => ?_ | refine n2_ fun b_ => ?_ | refine em_ fun x_ hx_ => ?_); refine g0_ ?_))
      have : i = a.length := by simp at h1; omega
      subst this
      rw [List.take_length, hlen, List.take_length] at hw
      rw [hw]
      simp
      exact .refl _
    · have hlt : i < a.length := by simp at h1; omega
      (refine g0_ ?_; repeat ((first | refine n1_ fun b_ => ?_ | refine n2_ fun b_ => ?_ | refine em_ fun x_ hx_ => ?_); refine g0_ ?_))
      refine head_ ?_; (refine g0_ ?_; repeat ((first | refine n1_ fun b_ => ?_ | refine n2_ fun b_ => ?_ | refine em_ fun x_ hx_ => ?_); refine g0_ ?_))
      rename_i x hx
      refine brec ?_; intro c_ h2; (try rw [h2]); cases c_ <;> replace h2 := nm_ h2
      · (refine g0_ ?_; repeat ((first | refine n1_ fun b_ => ?_ | refine n2_ fun b_ => ?_ | refine em_ fun x_ hx_ => ?_); refine g0_ ?_))
        refine nx_ (i + 1) ?_ ?_
        · exact ⟨hlt, by rw [take_snoc_of hx, take_snoc_of hx_, hw]; simp_all⟩
        · omega
      · (refine g0_ ?_; repeat ((first | refine n1_ fun b_ => ?_ | refine n2_ fun b_ => ?_ | refine em_ fun x_ hx_ => ?_); refine g0_ ?_))
        have : a ≠ b := by rintro rfl; simp_all
        simp [this]
        exact .refl _
  · have hne : a ≠ b := by
      rintro rfl
      exact hc rfl
    (refine g0_ ?_; repeat ((first | refine n1_ fun b_ => ?_ | refine n2_ fun b_ => ?_ | refine em_ fun x_ hx_ => ?_); refine g0_ ?_))
    simp [hne]
    exact .refl _
theorem equal_rows (a b : List (List Cell)) (ha : (a.length : Int) ≤ 9223372036854775807) (hoa : ∀ r ∈ a, r.length * 32 ≤ 140737488355328 ∧ ∀ c ∈ r, c.ok) (hob : ∀ r ∈ b, r.length * 32 ≤ 140737488355328 ∧ ∀ c ∈ r, c.ok) :
    Pure Tryd.prog W 92 [.sl 1 (a.map encRow), .sl 1 (b.map encRow), .fn 91 []] (.bool (decide (a = b))) := by
  refine Pure.of (acalls_of_vc (drawOk W) Tryd.func92 rfl (by decide) (by decide) rfl ?_)
  (refine g0_ ?_; repeat ((first | refine n1_ fun b_ => ?_ | refine n2_ fun b_ => ?_ | refine em_ fun x_ hx_ => ?_); refine g0_ ?_))
  refine brec ?_; intro c_ hc; (try rw [hc]); cases c_ <;> replace hc := nm_ hc
  · have hlen : a.length = b.length := by simp at hc; omega
    (refine g0_ ?_; repeat ((first | refine n1_ fun b_ => ?_ | refine n2_ fun b_ => ?_ | refine em_ fun x_ hx_ => ?_); refine g0_ ?_))
    refine' loopI (α := Nat) (fun i => [(17, .int .i64 i)]) [(1, _), (2, _), (15, _), (16, _)] (fun i => []) (fun i => i ≤ a.length ∧ a.take i = b.take i) (fun i => a.length - i) 0 ?_ ?_
    · exact ⟨Nat.zero_le _, by simp⟩
    rintro i ⟨hi, hw⟩
    (refine g0_ ?_; repeat ((first | refine n1_ fun b_ => ?_ | refine n2_ fun b_ => ?_ | refine em_ fun x_ hx_ => ?_); refine g0_ ?_))
    refine brec ?_; intro c_ h1; (try rw [h1]); cases c_ <;> replace h1 := nm_ h1
    · (refine g0_ ?_; repeat ((first | refine n1_ fun b_ => ?_ | refine n2_ fun b_ => ?_ | refine em_ fun x_ hx_ => ?_); refine g0_ ?_))
      have : i = a.length := by simp at h1; omega
      subst this
      rw [List.take_length, hlen, List.take_length] at hw
      rw [hw]
      simp
      exact .refl _
    · have hlt : i < a.length := by simp at h1; omega
      (refine g0_ ?_; repeat ((first | refine n1_ fun b_ => ?_ | refine n2_ fun b_ => ?_ | refine em_ fun x_ hx_ => ?_); refine g0_ ?_))
      rename_i x hx
      have hxa := hoa _ (List.mem_of_getElem? hx)
      have hxb := hob _ (List.mem_of_getElem? hx_)
      refine (equal_cells W x x_ (by omega) hxa.2 hxb.2).use ?_; (refine g0_ ?_; repeat ((first | refine n1_ fun b_ => ?_ | refine n2_ fun b_ => ?_ | refine em_ fun x_ hx_ => ?_); refine g0_ ?_))
      refine brec ?_; intro c_ h2; (try rw [h2]); cases c_ <;> replace h2 := nm_ h2
      · (refine g0_ ?_; repeat ((first | refine n1_ fun b_ => ?_ | refine n2_ fun b_ => ?_ | refine em_ fun x_ hx_ => ?_); refine g0_ ?_))
        refine nx_ (i + 1) ?_ ?_
        · exact ⟨hlt, by rw [take_snoc_of hx, take_snoc_of hx_, hw]; simp_all⟩
        · omega
      · (refine g0_ ?_; repeat ((first | refine n1_ fun b_ => ?_ | refine n2_ fun b_ => ?_ | refine em_ fun x_ hx_ => ?_); refine g0_ ?_))
        have : a ≠ b := by rintro rfl; simp_all
        simp [this]
        exact .refl _
  · have hne : a ≠ b := by
      rintro rfl
      exact hc rfl
    (refine g0_ ?_; repeat ((first | refine n1_ fun b_ => ?_ | refine n2_ fun b_ => ?_ | refine em_ fun x_ hx_ => ?_); refine g0_ ?_))
    simp [hne]
    exact .refl _
theorem sameRows_ok (a b : List (List Cell)) (ha : (a.length : Int) ≤ 9223372036854775807) (hoa : ∀ r ∈ a, r.length * 32 ≤ 140737488355328 ∧ ∀ c ∈ r, c.ok) (hob : ∀ r ∈ b, r.length * 32 ≤ 140737488355328 ∧ ∀ c ∈ r, c.ok) :
    Pure Tryd.prog W 61 [.sl 1 (a.map encRow), .sl 1 (b.map encRow)] (.bool (decide (a = b))) := by
  refine Pure.of (acalls_of_vc (drawOk W) Tryd.func61 rfl (by decide) (by decide) rfl ?_)
  (refine g0_ ?_; repeat ((first | refine n1_ fun b_ => ?_ | refine n2_ fun b_ => ?_ | refine em_ fun x_ hx_ => ?_); refine g0_ ?_))
  refine (equal_rows W a b ha hoa hob).use ?_; (refine g0_ ?_; repeat ((first | refine n1_ fun b_ => ?_ | refine n2_ fun b_ => ?_ | refine em_ fun x_ hx_ => ?_); refine g0_ ?_))
  exact .refl _
def litsKept (x y : Int) (s : Style) (m : Int) : List Lit := .int .i64 x :: .int .i64 y :: (litsStyle s ++ [.int .i64 m])
theorem cells_kept : Tryd.prog.cellsOf 29 = 6 := by kernel_rfl
theorem lits_kept (x y : Int) (s : Style) (m : Int) (hx : i64ok x) (hy : i64ok y) (hs : s.ok) (hm : i64ok m) : Tryd.prog.keyLits 4 29 [.int .i64 x, .int .i64 y, .int .i64 s.fore, .int .i64 s.back, .int .i64 s.bits, .int .i64 m] = some (litsKept x y s m) := by
  have h1 := wf_of_ok hx
  have h2 := wf_of_ok hy
  have h3 := wf_of_ok hm
  have hk : ∀ n : Int, (Lit.int .i64 n).wf = true → Tryd.prog.keyLits 3 3 [.int .i64 n] = some [.int .i64 n] := fun n hn => by simp [Program.keyLits, Tryd.underlying3, hn]
  have hst := lits_style s hs
  conv => lhs; unfold Program.keyLits
  rw [Tryd.underlying29]
  dsimp only
  rw [if_pos ⟨by rw [cells_kept]; rfl, by simp⟩]
  simp only [List.mapM_cons, List.mapM_nil]
  rw [cells_int, cells_style]
  simp only [List.drop_zero, List.drop_succ_cons, List.take_succ_cons, List.take_zero, hk _ h1, hk _ h2, hk _ h3, hst]
  rfl
def encKept (x y : Int) (s : Style) (m : Int) : PV := .agg [.int .i64 x, .int .i64 y, .int .i64 s.fore, .int .i64 s.back, .int .i64 s.bits, .int .i64 m]
theorem eq_kept (x y : Int) (s : Style) (m : Int) (hx : i64ok x) (hy : i64ok y) (hs : s.ok) (hm : i64ok m) (x' y' : Int) (s' : Style) (m' : Int) (hx' : i64ok x') (hy' : i64ok y') (hs' : s'.ok) (hm' : i64ok m') (xo yo : Operand) :
    EqLaw Tryd.prog .eql 29 xo yo (encKept x y s m) (encKept x' y' s' m') (decide (x = x' ∧ y = y' ∧ s = s' ∧ m = m')) :=
  eqLaw_agg 4 (by kernel_rfl) (by decide) (by kernel_rfl) Tryd.underlying29 rfl rfl (by rw [cells_kept]; rfl) (by rw [cells_kept]; rfl) (lits_kept x y s m hx hy hs hm) (lits_kept x' y' s' m' hx' hy' hs' hm') (by
    obtain ⟨a1, a2, a3⟩ := s
    obtain ⟨b1, b2, b3⟩ := s'
    simp [litsStyle, litsKept, and_assoc])
def sameP (a b : Scr) : Prop := a.g = b.g ∧ a.x = b.x ∧ a.y = b.y ∧ a.late = b.late ∧ a.look = b.look ∧ a.top = b.top ∧ a.bottom = b.bottom ∧ a.modes = b.modes ∧ a.tabs = b.tabs ∧ (a.kx = b.kx ∧ a.ky = b.ky ∧ a.ks = b.ks ∧ a.km = b.km) ∧ a.last = b.last ∧ a.title = b.title ∧ a.gone = b.gone
instance (a b : Scr) : Decidable (sameP a b) := by unfold sameP; exact inferInstance
theorem sameScreen_ok (a b : Scr) (ha : a.ok) (hb : b.ok) : Pure Tryd.prog W 28 [encScr a, encScr b] (.bool (decide (sameP a b))) := by
  have hg := sameGrid_ok W a.g b.g ha.g hb.g
  have hs := eq_style a.look b.look ha.look hb.look
  have ht := equal_bools W a.tabs b.tabs (by have := ha.tabs; omega)
  have hk := eq_kept a.kx a.ky a.ks a.km ha.kx ha.ky ha.ks ha.km b.kx b.ky b.ks b.km hb.kx hb.ky hb.ks hb.km
  have hr := sameRows_ok W a.gone b.gone (by have := ha.gone.1; omega) ha.gone.2 hb.gone.2
  clear ha hb
  generalize hR : decide (sameP a b) = R
  refine Pure.of (acalls_of_vc (drawOk W) Tryd.func28 rfl (by decide) (by decide) rfl ?_)
  (refine g0_ ?_; repeat ((first | refine n1_ fun b_ => ?_ | refine n2_ fun b_ => ?_ | refine em_ fun x_ hx_ => ?_); refine g0_ ?_))
  refine (hg).use ?_; (refine g0_ ?_; repeat ((first | refine n1_ fun b_ => ?_ | refine n2_ fun b_ => ?_ | refine em_ fun x_ hx_ => ?_); refine g0_ ?_))
  refine brec ?_; intro c_ h1; (try rw [h1]); cases c_ <;> replace h1 := nm_ h1
  · (refine g0_ ?_; repeat ((first | refine n1_ fun b_ => ?_ | refine n2_ fun b_ => ?_ | refine em_ fun x_ hx_ => ?_); refine g0_ ?_))
    have hn : ¬ sameP a b := by
      clear hg hs ht hk hr hR
      unfold sameP
      grind
    rw [show R = false by rw [← hR]; exact decide_eq_false hn]
    exact .refl _
  · (refine g0_ ?_; repeat ((first | refine n1_ fun b_ => ?_ | refine n2_ fun b_ => ?_ | refine em_ fun x_ hx_ => ?_); refine g0_ ?_))
    refine ⟨_, hs _ _, ?_⟩
    (refine g0_ ?_; repeat ((first | refine n1_ fun b_ => ?_ | refine n2_ fun b_ => ?_ | refine em_ fun x_ hx_ => ?_); refine g0_ ?_))
    refine brec ?_; intro c_ h2; (try rw [h2]); cases c_ <;> replace h2 := nm_ h2
    · (refine g0_ ?_; repeat ((first | refine n1_ fun b_ => ?_ | refine n2_ fun b_ => ?_ | refine em_ fun x_ hx_ => ?_); refine g0_ ?_))
      have hn : ¬ sameP a b := by
        clear hg hs ht hk hr hR
        unfold sameP
        grind
      rw [show R = false by rw [← hR]; exact decide_eq_false hn]
      exact .refl _
    · (refine g0_ ?_; repeat ((first | refine n1_ fun b_ => ?_ | refine n2_ fun b_ => ?_ | refine em_ fun x_ hx_ => ?_); refine g0_ ?_))
      refine (ht).use ?_; (refine g0_ ?_; repeat ((first | refine n1_ fun b_ => ?_ | refine n2_ fun b_ => ?_ | refine em_ fun x_ hx_ => ?_); refine g0_ ?_))
      refine brec ?_; intro c_ h3; (try rw [h3]); cases c_ <;> replace h3 := nm_ h3
      · (refine g0_ ?_; repeat ((first | refine n1_ fun b_ => ?_ | refine n2_ fun b_ => ?_ | refine em_ fun x_ hx_ => ?_); refine g0_ ?_))
        have hn : ¬ sameP a b := by
          clear hg hs ht hk hr hR
          unfold sameP
          grind
        rw [show R = false by rw [← hR]; exact decide_eq_false hn]
        exact .refl _
      · (refine g0_ ?_; repeat ((first | refine n1_ fun b_ => ?_ | refine n2_ fun b_ => ?_ | refine em_ fun x_ hx_ => ?_); refine g0_ ?_))
        refine ⟨_, hk _ _, ?_⟩
        (refine g0_ ?_; repeat ((first | refine n1_ fun b_ => ?_ | refine n2_ fun b_ => ?_ | refine em_ fun x_ hx_ => ?_); refine g0_ ?_))
        refine brec ?_; intro c_ h4; (try rw [h4]); cases c_ <;> replace h4 := nm_ h4
        · (refine g0_ ?_; repeat ((first | refine n1_ fun b_ => ?_ | refine n2_ fun b_ => ?_ | refine em_ fun x_ hx_ => ?_); refine g0_ ?_))
          have hn : ¬ sameP a b := by
            clear hg hs ht hk hr hR
            unfold sameP
            grind
          rw [show R = false by rw [← hR]; exact decide_eq_false hn]
          exact .refl _
        · (refine g0_ ?_; repeat ((first | refine n1_ fun b_ => ?_ | refine n2_ fun b_ => ?_ | refine em_ fun x_ hx_ => ?_); refine g0_ ?_))
          refine (hr).use ?_; (refine g0_ ?_; repeat ((first | refine n1_ fun b_ => ?_ | refine n2_ fun b_ => ?_ | refine em_ fun x_ hx_ => ?_); refine g0_ ?_))
          rw [← hR]
          refine Frz.of_eq (congrArg PV.bool ?_)
          rw [decide_eq_decide]
          clear hg hs ht hk hr hR
          unfold sameP
          grind
theorem noneS_ok : Scr.none.ok := by
  have h0 : i64ok 0 := by unfold i64ok; omega
  exact ⟨⟨h0, h0, (fun c hc => by cases hc), by decide⟩, h0, h0, ⟨h0, h0, h0⟩, h0, h0, h0, by decide, h0, h0, ⟨h0, h0, h0⟩, h0, by show i32ok 0; unfold i32ok; omega, by decide, by decide, fun r hr => by cases hr⟩
theorem noScreen_ok (s : Scr) (hs : s.ok) : Pure Tryd.prog W 9 [encScr s] (.bool (decide (sameP s Scr.none))) := by
  have h := sameScreen_ok W s Scr.none hs noneS_ok
  refine Pure.of (acalls_of_vc (drawOk W) Tryd.func9 rfl (by decide) (by decide) rfl ?_)
  (refine g0_ ?_; repeat ((first | refine n1_ fun b_ => ?_ | refine n2_ fun b_ => ?_ | refine em_ fun x_ hx_ => ?_); refine g0_ ?_))
  refine Pure.borrow h rfl rfl (fun i hi => ?_) ?_
  · match i, hi with
    | 0, _ => exact .refl _
    | 1, _ => exact frz_scr (s := Scr.none) (.nils _) (.nils _) (.nils _)
  · (refine g0_ ?_; repeat ((first | refine n1_ fun b_ => ?_ | refine n2_ fun b_ => ?_ | refine em_ fun x_ hx_ => ?_); refine g0_ ?_))
    exact .refl _
theorem newScreen_ok (w h : Nat) (hw : 1 ≤ w) (hw2 : w ≤ 120) (hh : 1 ≤ h) (hh2 : h ≤ 60) : Pure Tryd.prog W 82 [.int .i64 w, .int .i64 h] (encScr (newS w h)) := by
  have hg := newGrid_ok W w h hw hw2 hh hh2
  rw [show encGrid (newG w h) = .agg [.int .i64 w, .int .i64 h, .sl 4 ((newG w h).cs.map encCell)] from rfl] at hg
  have htl := tabs_len w w
  refine Pure.of (acalls_of_vc (drawOk W) Tryd.func82 rfl (by decide) (by decide) rfl ?_)
  (refine g0_ ?_; repeat ((first | refine n1_ fun b_ => ?_ | refine n2_ fun b_ => ?_ | refine em_ fun x_ hx_ => ?_); refine g0_ ?_))
  refine (hg).use ?_; (refine g0_ ?_; repeat ((first | refine n1_ fun b_ => ?_ | refine n2_ fun b_ => ?_ | refine em_ fun x_ hx_ => ?_); refine g0_ ?_))
  rename_i b4
  refine' loopI (α := Nat × Nat × (List Bool)) (fun (i, bt, T) => [(15, .int .i64 i)]) [(4, _), (5, _), (14, _)] (fun (i, bt, T) => [⟨b_, .row 22 [.agg [.int .i64 w, .int .i64 h, .sl 4 ((newG w h).cs.map encCell), .int .i64 0, .int .i64 0, .bool false, .int .i64 0, .int .i64 0, .int .i64 0, .int .i64 0, .int .i64 ((h : Int) - 1), .int .i64 4, accV bt 1 (T.map PV.bool), .int .i64 0, .int .i64 0, .int .i64 0, .int .i64 0, .int .i64 0, .int .i64 4, .int .i32 0, .str [], .nils]] 0⟩] ++ (accM bt 1 (T.map PV.bool) ++ [⟨b4, .row 22 [.agg (scrA .nils .nils .nils Scr.none)] 0⟩])) (fun (i, bt, T) => i ≤ w ∧ T = (tabsN w w).take i) (fun (i, bt, T) => w - i) (0, 0, []) ?_ ?_
  · exact ⟨Nat.zero_le _, rfl⟩
  rintro ⟨i, bt, T⟩ ⟨hi, hT⟩
  rcases T with _ | ⟨t, T⟩
  · (refine g0_ ?_; repeat ((first | refine n1_ fun b_ => ?_ | refine n2_ fun b_ => ?_ | refine em_ fun x_ hx_ => ?_); refine g0_ ?_))
    refine brec ?_; intro c_ h1; (try rw [h1]); cases c_ <;> replace h1 := nm_ h1
    · first
        | (exfalso; have := congrArg List.length hT; rw [List.length_take, htl] at this; simp at this; omega)
        | (skip
           (refine g0_ ?_; repeat ((first | refine n1_ fun b_ => ?_ | refine n2_ fun b_ => ?_ | refine em_ fun x_ hx_ => ?_); refine g0_ ?_))
           rw [List.take_of_length_le (by omega)] at hT
           rw [show encScr (newS w h) = .agg (scrA (.sl 4 ((newG w h).cs.map encCell)) (.sl 1 ((tabsN w w).map PV.bool)) (.sl 1 []) (newS w h)) from rfl, ← hT]
           have hl1 := congrArg List.length hT
           exact frz_scr (s := newS w h) (.refl _) (frz_row (by repeat (first | exact .here _ _ _ | apply Look.there)) _ (by simp)) (.nils _)
           )
    · (refine g0_ ?_; repeat ((first | refine n1_ fun b_ => ?_ | refine n2_ fun b_ => ?_ | refine em_ fun x_ hx_ => ?_); refine g0_ ?_))
      refine .inl ?_
      have hl1 := congrArg List.length hT
      rw [List.length_take, htl] at hl1
      simp only [List.length_cons, List.length_nil] at hl1
      generalize hv : (decide ((0 : Int) < i) && decide ((i : Int).tmod 8 = 0)) = v
      have hat : (tabsN w w)[i]? = some v := by
        have h8 := tmod_nat i 8
        rw [show ((8 : Nat) : Int) = 8 from rfl] at h8
        rw [tabsN, List.getElem?_map, List.getElem?_range (by omega), Option.map_some, ← hv, h8]
        congr 1
        rw [Bool.eq_iff_iff]
        simp only [Bool.and_eq_true, decide_eq_true_eq]
        omega
      (refine g0_ ?_; repeat ((first | refine n1_ fun b_ => ?_ | refine n2_ fun b_ => ?_ | refine em_ fun x_ hx_ => ?_); refine g0_ ?_))
      refine nx_ (i + 1, _, [v]) ?_ ?_
      · exact ⟨by omega, by rw [take_snoc_of hat, ← hT]; rfl⟩
      · show w - (i + 1) < w - i
        omega
  · (refine g0_ ?_; repeat ((first | refine n1_ fun b_ => ?_ | refine n2_ fun b_ => ?_ | refine em_ fun x_ hx_ => ?_); refine g0_ ?_))
    refine brec ?_; intro c_ h1; (try rw [h1]); cases c_ <;> replace h1 := nm_ h1
    · first
        | (exfalso; have := congrArg List.length hT; rw [List.length_take, htl] at this; simp at this; omega)
        | (skip
           (refine g0_ ?_; repeat ((first | refine n1_ fun b_ => ?_ | refine n2_ fun b_ => ?_ | refine em_ fun x_ hx_ => ?_); refine g0_ ?_))
           rw [List.take_of_length_le (by omega)] at hT
           rw [show encScr (newS w h) = .agg (scrA (.sl 4 ((newG w h).cs.map encCell)) (.sl 1 ((tabsN w w).map PV.bool)) (.sl 1 []) (newS w h)) from rfl, ← hT]
           have hl1 := congrArg List.length hT
           exact frz_scr (s := newS w h) (.refl _) (frz_row (by repeat (first | exact .here _ _ _ | apply Look.there)) _ (by simp)) (.nils _)
           )
    · (refine g0_ ?_; repeat ((first | refine n1_ fun b_ => ?_ | refine n2_ fun b_ => ?_ | refine em_ fun x_ hx_ => ?_); refine g0_ ?_))
      refine .inl ?_
      have hl1 := congrArg List.length hT
      rw [List.length_take, htl] at hl1
      simp only [List.length_cons, List.length_nil] at hl1
      generalize hv : (decide ((0 : Int) < i) && decide ((i : Int).tmod 8 = 0)) = v
      have hat : (tabsN w w)[i]? = some v := by
        have h8 := tmod_nat i 8
        rw [show ((8 : Nat) : Int) = 8 from rfl] at h8
        rw [tabsN, List.getElem?_map, List.getElem?_range (by omega), Option.map_some, ← hv, h8]
        congr 1
        rw [Bool.eq_iff_iff]
        simp only [Bool.and_eq_true, decide_eq_true_eq]
        omega
      (refine g0_ ?_; repeat ((first | refine n1_ fun b_ => ?_ | refine n2_ fun b_ => ?_ | refine em_ fun x_ hx_ => ?_); refine g0_ ?_))
      rw [show (PV.bool t :: T.map PV.bool) ++ [PV.bool v] = (t :: (T ++ [v])).map PV.bool by simp, show (T.map PV.bool).length + 1 + ([PV.bool v] : List PV).length = ((T ++ [v]).map PV.bool).length + 1 by simp]
      refine nx_ (i + 1, _, t :: (T ++ [v])) ?_ ?_
      · exact ⟨by omega, by rw [take_snoc_of hat, ← hT]; rfl⟩
      · show w - (i + 1) < w - i
        omega
end Go.Eng.YtphoefglfbifdaaDoor
end

/- The law PutCheck. -/
section
namespace Go.Eng.YtphoefglfbifdaaDoor
open Go Go.Eng Go.Proofs
variable (W : World)
set_option linter.unusedSimpArgs false
set_option maxRecDepth 100000
set_option linter.unusedVariables false
set_option maxHeartbeats 8000000
end Go.Eng.YtphoefglfbifdaaDoor
end
