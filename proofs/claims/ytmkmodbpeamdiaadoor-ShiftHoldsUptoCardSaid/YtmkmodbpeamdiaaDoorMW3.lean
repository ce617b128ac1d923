/- Texts put together: Scr11, Scr12. -/
import Derived.Test.YtmkmodbpeamdiaaDoorMW2
import Derived.Test.YtmkmodbpeamdiaaDoorMW1
import Derived.Test.YtmkmodbpeamdiaaDoorMG2
/- Screens: are they alike? -/
section
namespace Go.Eng.YtmkmodbpeamdiaaDoor
open Go Go.Eng Go.Proofs
variable (W : World)
set_option linter.unusedSimpArgs false
set_option maxRecDepth 100000
set_option linter.unusedVariables false
set_option maxHeartbeats 8000000
theorem equal_bools (a b : List Bool) (ha : (a.length : Int) ≤ 9223372036854775807) :
    Pure Tryd.prog W 60 [.sl 1 (a.map PV.bool), .sl 1 (b.map PV.bool)] (.bool (decide (a = b))) := by
  refine Pure.of (acalls_of_vc (drawOk W) Tryd.func60 rfl (by decide) (by decide) rfl ?_)
  (refine g0_ ?_; repeat ((first | refine n1_ fun b_ => ?_ | refine n2_ fun b_ => ?_ | refine n3_ fun b_ pre_ => ?_ | refine Nat1.mk fun q_ hq_ => ?_ | refine em_ fun x_ hx_ => ?_ | refine Elem1.mk fun e_ he_ => ?_); refine g0_ ?_))
  refine brec ?_; intro c_ hc; (try rw [hc]); cases c_ <;> replace hc := nm_ hc
  · have hlen : a.length = b.length := by simp at hc; omega
    (refine g0_ ?_; repeat ((first | refine n1_ fun b_ => ?_ | refine n2_ fun b_ => ?_ | refine n3_ fun b_ pre_ => ?_ | refine Nat1.mk fun q_ hq_ => ?_ | refine em_ fun x_ hx_ => ?_ | refine Elem1.mk fun e_ he_ => ?_); refine g0_ ?_))
    refine' loopI (α := Nat) (fun i => [(13, .int .i64 i)]) [(0, _), (1, _), (12, _)] (fun i => []) (fun i => i ≤ a.length ∧ a.take i = b.take i) (fun i => a.length - i) 0 ?_ ?_
    · exact ⟨Nat.zero_le _, by simp⟩
    rintro i ⟨hi, hw⟩
    (refine g0_ ?_; repeat ((first | refine n1_ fun b_ => ?_ | refine n2_ fun b_ => ?_ | refine n3_ fun b_ pre_ => ?_ | refine Nat1.mk fun q_ hq_ => ?_ | refine em_ fun x_ hx_ => ?_ | refine Elem1.mk fun e_ he_ => ?_); refine g0_ ?_))
    refine brec ?_; intro c_ h1; (try rw [h1]); cases c_ <;> replace h1 := nm_ h1
    · (refine g0_ ?_; repeat ((first | refine n1_ fun b_ => ?_ | refine n2_ fun b_ => ?_ | refine n3_ fun b_ pre_ => ?_ | refine Nat1.mk fun q_ hq_ => ?_ | refine em_ fun x_ hx_ => ?_ | refine Elem1.mk fun e_ he_ => ?_); refine g0_ ?_))
      have : i = a.length := by simp at h1; omega
      subst this
      rw [List.take_length, hlen, List.take_length] at hw
      rw [hw]
      simp
      exact .refl _
    · have hlt : i < a.length := by simp at h1; omega
      (refine g0_ ?_; repeat ((first | refine n1_ fun b_ => ?_ | refine n2_ fun b_ => ?_ | refine n3_ fun b_ pre_ => ?_ | refine Nat1.mk fun q_ hq_ => ?_ | refine em_ fun x_ hx_ => ?_ | refine Elem1.mk fun e_ he_ => ?_); refine g0_ ?_))
      refine head_ ?_; (refine g0_ ?_; repeat ((first | refine n1_ fun b_ => ?_ | refine n2_ fun b_ => ?_ | refine n3_ fun b_ pre_ => ?_ | refine Nat1.mk fun q_ hq_ => ?_ | refine em_ fun x_ hx_ => ?_ | refine Elem1.mk fun e_ he_ => ?_); refine g0_ ?_))
      rename_i x hx
      refine brec ?_; intro c_ h2; (try rw [h2]); cases c_ <;> replace h2 := nm_ h2
      · (refine g0_ ?_; repeat ((first | refine n1_ fun b_ => ?_ | refine n2_ fun b_ => ?_ | refine n3_ fun b_ pre_ => ?_ | refine Nat1.mk fun q_ hq_ => ?_ | refine em_ fun x_ hx_ => ?_ | refine Elem1.mk fun e_ he_ => ?_); refine g0_ ?_))
        refine nx_ (i + 1) ?_ ?_
        · exact ⟨hlt, by rw [take_snoc_of hx, take_snoc_of hx_, hw]; simp_all⟩
        · omega
      · (refine g0_ ?_; repeat ((first | refine n1_ fun b_ => ?_ | refine n2_ fun b_ => ?_ | refine n3_ fun b_ pre_ => ?_ | refine Nat1.mk fun q_ hq_ => ?_ | refine em_ fun x_ hx_ => ?_ | refine Elem1.mk fun e_ he_ => ?_); refine g0_ ?_))
        have : a ≠ b := by rintro rfl; simp_all
        simp [this]
        exact .refl _
  · have hne : a ≠ b := by
      rintro rfl
      exact hc rfl
    (refine g0_ ?_; repeat ((first | refine n1_ fun b_ => ?_ | refine n2_ fun b_ => ?_ | refine n3_ fun b_ pre_ => ?_ | refine Nat1.mk fun q_ hq_ => ?_ | refine em_ fun x_ hx_ => ?_ | refine Elem1.mk fun e_ he_ => ?_); refine g0_ ?_))
    simp [hne]
    exact .refl _
theorem equal_rows (a b : List (List Cell)) (ha : (a.length : Int) ≤ 9223372036854775807) (hoa : ∀ r ∈ a, r.length * 32 ≤ 140737488355328 ∧ ∀ c ∈ r, c.ok) (hob : ∀ r ∈ b, r.length * 32 ≤ 140737488355328 ∧ ∀ c ∈ r, c.ok) :
    Pure Tryd.prog W 48 [.sl 1 (a.map encRow), .sl 1 (b.map encRow), .fn 15 []] (.bool (decide (a = b))) := by
  refine Pure.of (acalls_of_vc (drawOk W) Tryd.func48 rfl (by decide) (by decide) rfl ?_)
  (refine g0_ ?_; repeat ((first | refine n1_ fun b_ => ?_ | refine n2_ fun b_ => ?_ | refine n3_ fun b_ pre_ => ?_ | refine Nat1.mk fun q_ hq_ => ?_ | refine em_ fun x_ hx_ => ?_ | refine Elem1.mk fun e_ he_ => ?_); refine g0_ ?_))
  refine brec ?_; intro c_ hc; (try rw [hc]); cases c_ <;> replace hc := nm_ hc
  · have hlen : a.length = b.length := by simp at hc; omega
    (refine g0_ ?_; repeat ((first | refine n1_ fun b_ => ?_ | refine n2_ fun b_ => ?_ | refine n3_ fun b_ pre_ => ?_ | refine Nat1.mk fun q_ hq_ => ?_ | refine em_ fun x_ hx_ => ?_ | refine Elem1.mk fun e_ he_ => ?_); refine g0_ ?_))
    refine' loopI (α := Nat) (fun i => [(17, .int .i64 i)]) [(1, _), (2, _), (15, _), (16, _)] (fun i => []) (fun i => i ≤ a.length ∧ a.take i = b.take i) (fun i => a.length - i) 0 ?_ ?_
    · exact ⟨Nat.zero_le _, by simp⟩
    rintro i ⟨hi, hw⟩
    (refine g0_ ?_; repeat ((first | refine n1_ fun b_ => ?_ | refine n2_ fun b_ => ?_ | refine n3_ fun b_ pre_ => ?_ | refine Nat1.mk fun q_ hq_ => ?_ | refine em_ fun x_ hx_ => ?_ | refine Elem1.mk fun e_ he_ => ?_); refine g0_ ?_))
    refine brec ?_; intro c_ h1; (try rw [h1]); cases c_ <;> replace h1 := nm_ h1
    · (refine g0_ ?_; repeat ((first | refine n1_ fun b_ => ?_ | refine n2_ fun b_ => ?_ | refine n3_ fun b_ pre_ => ?_ | refine Nat1.mk fun q_ hq_ => ?_ | refine em_ fun x_ hx_ => ?_ | refine Elem1.mk fun e_ he_ => ?_); refine g0_ ?_))
      have : i = a.length := by simp at h1; omega
      subst this
      rw [List.take_length, hlen, List.take_length] at hw
      rw [hw]
      simp
      exact .refl _
    · have hlt : i < a.length := by simp at h1; omega
      (refine g0_ ?_; repeat ((first | refine n1_ fun b_ => ?_ | refine n2_ fun b_ => ?_ | refine n3_ fun b_ pre_ => ?_ | refine Nat1.mk fun q_ hq_ => ?_ | refine em_ fun x_ hx_ => ?_ | refine Elem1.mk fun e_ he_ => ?_); refine g0_ ?_))
      rename_i x hx
      have hxa := hoa _ (List.mem_of_getElem? hx)
      have hxb := hob _ (List.mem_of_getElem? hx_)
      refine (equal_cells W x x_ (by omega) hxa.2 hxb.2).use ?_; (refine g0_ ?_; repeat ((first | refine n1_ fun b_ => ?_ | refine n2_ fun b_ => ?_ | refine n3_ fun b_ pre_ => ?_ | refine Nat1.mk fun q_ hq_ => ?_ | refine em_ fun x_ hx_ => ?_ | refine Elem1.mk fun e_ he_ => ?_); refine g0_ ?_))
      refine brec ?_; intro c_ h2; (try rw [h2]); cases c_ <;> replace h2 := nm_ h2
      · (refine g0_ ?_; repeat ((first | refine n1_ fun b_ => ?_ | refine n2_ fun b_ => ?_ | refine n3_ fun b_ pre_ => ?_ | refine Nat1.mk fun q_ hq_ => ?_ | refine em_ fun x_ hx_ => ?_ | refine Elem1.mk fun e_ he_ => ?_); refine g0_ ?_))
        refine nx_ (i + 1) ?_ ?_
        · exact ⟨hlt, by rw [take_snoc_of hx, take_snoc_of hx_, hw]; simp_all⟩
        · omega
      · (refine g0_ ?_; repeat ((first | refine n1_ fun b_ => ?_ | refine n2_ fun b_ => ?_ | refine n3_ fun b_ pre_ => ?_ | refine Nat1.mk fun q_ hq_ => ?_ | refine em_ fun x_ hx_ => ?_ | refine Elem1.mk fun e_ he_ => ?_); refine g0_ ?_))
        have : a ≠ b := by rintro rfl; simp_all
        simp [this]
        exact .refl _
  · have hne : a ≠ b := by
      rintro rfl
      exact hc rfl
    (refine g0_ ?_; repeat ((first | refine n1_ fun b_ => ?_ | refine n2_ fun b_ => ?_ | refine n3_ fun b_ pre_ => ?_ | refine Nat1.mk fun q_ hq_ => ?_ | refine em_ fun x_ hx_ => ?_ | refine Elem1.mk fun e_ he_ => ?_); refine g0_ ?_))
    simp [hne]
    exact .refl _
theorem sameRows_ok (a b : List (List Cell)) (ha : (a.length : Int) ≤ 9223372036854775807) (hoa : ∀ r ∈ a, r.length * 32 ≤ 140737488355328 ∧ ∀ c ∈ r, c.ok) (hob : ∀ r ∈ b, r.length * 32 ≤ 140737488355328 ∧ ∀ c ∈ r, c.ok) :
    Pure Tryd.prog W 17 [.sl 1 (a.map encRow), .sl 1 (b.map encRow)] (.bool (decide (a = b))) := by
  refine Pure.of (acalls_of_vc (drawOk W) Tryd.func17 rfl (by decide) (by decide) rfl ?_)
  (refine g0_ ?_; repeat ((first | refine n1_ fun b_ => ?_ | refine n2_ fun b_ => ?_ | refine n3_ fun b_ pre_ => ?_ | refine Nat1.mk fun q_ hq_ => ?_ | refine em_ fun x_ hx_ => ?_ | refine Elem1.mk fun e_ he_ => ?_); refine g0_ ?_))
  refine (equal_rows W a b ha hoa hob).use ?_; (refine g0_ ?_; repeat ((first | refine n1_ fun b_ => ?_ | refine n2_ fun b_ => ?_ | refine n3_ fun b_ pre_ => ?_ | refine Nat1.mk fun q_ hq_ => ?_ | refine em_ fun x_ hx_ => ?_ | refine Elem1.mk fun e_ he_ => ?_); refine g0_ ?_))
  exact .refl _
def litsKept (x y : Int) (s : Style) (m : Int) : List Lit := .int .i64 x :: .int .i64 y :: (litsStyle s ++ [.int .i64 m])
theorem cells_kept : Tryd.prog.cellsOf 29 = 6 := by kernel_rfl
theorem lits_kept (x y : Int) (s : Style) (m : Int) (hx : i64ok x) (hy : i64ok y) (hs : s.ok) (hm : i64ok m) : Tryd.prog.keyLits 4 29 [.int .i64 x, .int .i64 y, .int .i64 s.fore, .int .i64 s.back, .int .i64 s.bits, .int .i64 m] = some (litsKept x y s m) := by
  have h1 := wf_of_ok hx
  have h2 := wf_of_ok hy
  have h3 := wf_of_ok hm
  have hk : ∀ n : Int, (Lit.int .i64 n).wf = true → Tryd.prog.keyLits 3 3 [.int .i64 n] = some [.int .i64 n] := fun n hn => by simp [Program.keyLits, Tryd.underlying3, hn]
  have hst := lits_style s hs
  conv => lhs; unfold Program.keyLits
  rw [Tryd.underlying29]
  dsimp only
  rw [if_pos ⟨by rw [cells_kept]; rfl, by simp⟩]
  simp only [List.mapM_cons, List.mapM_nil]
  rw [cells_int, cells_style]
  simp only [List.drop_zero, List.drop_succ_cons, List.take_succ_cons, List.take_zero, hk _ h1, hk _ h2, hk _ h3, hst]
  rfl
def encKept (x y : Int) (s : Style) (m : Int) : PV := .agg [.int .i64 x, .int .i64 y, .int .i64 s.fore, .int .i64 s.back, .int .i64 s.bits, .int .i64 m]
theorem eq_kept (x y : Int) (s : Style) (m : Int) (hx : i64ok x) (hy : i64ok y) (hs : s.ok) (hm : i64ok m) (x' y' : Int) (s' : Style) (m' : Int) (hx' : i64ok x') (hy' : i64ok y') (hs' : s'.ok) (hm' : i64ok m') (xo yo : Operand) :
    EqLaw Tryd.prog .eql 29 xo yo (encKept x y s m) (encKept x' y' s' m') (decide (x = x' ∧ y = y' ∧ s = s' ∧ m = m')) :=
  eqLaw_agg 4 (by kernel_rfl) (by decide) (by kernel_rfl) Tryd.underlying29 rfl rfl (by rw [cells_kept]; rfl) (by rw [cells_kept]; rfl) (lits_kept x y s m hx hy hs hm) (lits_kept x' y' s' m' hx' hy' hs' hm') (by
    obtain ⟨a1, a2, a3⟩ := s
    obtain ⟨b1, b2, b3⟩ := s'
    simp [litsStyle, litsKept, and_assoc])
def sameP (a b : Scr) : Prop := a.g = b.g ∧ a.x = b.x ∧ a.y = b.y ∧ a.late = b.late ∧ a.look = b.look ∧ a.top = b.top ∧ a.bottom = b.bottom ∧ a.modes = b.modes ∧ a.tabs = b.tabs ∧ (a.kx = b.kx ∧ a.ky = b.ky ∧ a.ks = b.ks ∧ a.km = b.km) ∧ a.last = b.last ∧ a.title = b.title ∧ a.gone = b.gone
instance (a b : Scr) : Decidable (sameP a b) := by unfold sameP; exact inferInstance
theorem sameScreen_ok (a b : Scr) (ha : a.ok) (hb : b.ok) : Pure Tryd.prog W 26 [encScr a, encScr b] (.bool (decide (sameP a b))) := by
  have hg := sameGrid_ok W a.g b.g ha.g hb.g
  have hs := eq_style a.look b.look ha.look hb.look
  have ht := equal_bools W a.tabs b.tabs (by have := ha.tabs; omega)
  have hk := eq_kept a.kx a.ky a.ks a.km ha.kx ha.ky ha.ks ha.km b.kx b.ky b.ks b.km hb.kx hb.ky hb.ks hb.km
  have hr := sameRows_ok W a.gone b.gone (by have := ha.gone.1; omega) ha.gone.2 hb.gone.2
  clear ha hb
  generalize hR : decide (sameP a b) = R
  refine Pure.of (acalls_of_vc (drawOk W) Tryd.func26 rfl (by decide) (by decide) rfl ?_)
  (refine g0_ ?_; repeat ((first | refine n1_ fun b_ => ?_ | refine n2_ fun b_ => ?_ | refine n3_ fun b_ pre_ => ?_ | refine Nat1.mk fun q_ hq_ => ?_ | refine em_ fun x_ hx_ => ?_ | refine Elem1.mk fun e_ he_ => ?_); refine g0_ ?_))
  refine (hg).use ?_; (refine g0_ ?_; repeat ((first | refine n1_ fun b_ => ?_ | refine n2_ fun b_ => ?_ | refine n3_ fun b_ pre_ => ?_ | refine Nat1.mk fun q_ hq_ => ?_ | refine em_ fun x_ hx_ => ?_ | refine Elem1.mk fun e_ he_ => ?_); refine g0_ ?_))
  refine brec ?_; intro c_ h1; (try rw [h1]); cases c_ <;> replace h1 := nm_ h1
  · (refine g0_ ?_; repeat ((first | refine n1_ fun b_ => ?_ | refine n2_ fun b_ => ?_ | refine n3_ fun b_ pre_ => ?_ | refine Nat1.mk fun q_ hq_ => ?_ | refine em_ fun x_ hx_ => ?_ | refine Elem1.mk fun e_ he_ => ?_); refine g0_ ?_))
    have hn : ¬ sameP a b := by
      clear hg hs ht hk hr hR
      unfold sameP
      grind
    rw [show R = false by rw [← hR]; exact decide_eq_false hn]
    exact .refl _
  · (refine g0_ ?_; repeat ((first | refine n1_ fun b_ => ?_ | refine n2_ fun b_ => ?_ | refine n3_ fun b_ pre_ => ?_ | refine Nat1.mk fun q_ hq_ => ?_ | refine em_ fun x_ hx_ => ?_ | refine Elem1.mk fun e_ he_ => ?_); refine g0_ ?_))
    refine ⟨_, hs _ _, ?_⟩
    (refine g0_ ?_; repeat ((first | refine n1_ fun b_ => ?_ | refine n2_ fun b_ => ?_ | refine n3_ fun b_ pre_ => ?_ | refine Nat1.mk fun q_ hq_ => ?_ | refine em_ fun x_ hx_ => ?_ | refine Elem1.mk fun e_ he_ => ?_); refine g0_ ?_))
    refine brec ?_; intro c_ h2; (try rw [h2]); cases c_ <;> replace h2 := nm_ h2
    · (refine g0_ ?_; repeat ((first | refine n1_ fun b_ => ?_ | refine n2_ fun b_ => ?_ | refine n3_ fun b_ pre_ => ?_ | refine Nat1.mk fun q_ hq_ => ?_ | refine em_ fun x_ hx_ => ?_ | refine Elem1.mk fun e_ he_ => ?_); refine g0_ ?_))
      have hn : ¬ sameP a b := by
        clear hg hs ht hk hr hR
        unfold sameP
        grind
      rw [show R = false by rw [← hR]; exact decide_eq_false hn]
      exact .refl _
    · (refine g0_ ?_; repeat ((first | refine n1_ fun b_ => ?_ | refine n2_ fun b_ => ?_ | refine n3_ fun b_ pre_ => ?_ | refine Nat1.mk fun q_ hq_ => ?_ | refine em_ fun x_ hx_ => ?_ | refine Elem1.mk fun e_ he_ => ?_); refine g0_ ?_))
      refine (ht).use ?_; (refine g0_ ?_; repeat ((first | refine n1_ fun b_ => ?_ | refine n2_ fun b_ => ?_ | refine n3_ fun b_ pre_ => ?_ | refine Nat1.mk fun q_ hq_ => ?_ | refine em_ fun x_ hx_ => ?_ | refine Elem1.mk fun e_ he_ => ?_); refine g0_ ?_))
      refine brec ?_; intro c_ h3; (try rw [h3]); cases c_ <;> replace h3 := nm_ h3
      · (refine g0_ ?_; repeat ((first | refine n1_ fun b_ => ?_ | refine n2_ fun b_ => ?_ | refine n3_ fun b_ pre_ => ?_ | refine Nat1.mk fun q_ hq_ => ?_ | refine em_ fun x_ hx_ => ?_ | refine Elem1.mk fun e_ he_ => ?_); refine g0_ ?_))
        have hn : ¬ sameP a b := by
          clear hg hs ht hk hr hR
          unfold sameP
          grind
        rw [show R = false by rw [← hR]; exact decide_eq_false hn]
        exact .refl _
      · (refine g0_ ?_; repeat ((first | refine n1_ fun b_ => ?_ | refine n2_ fun b_ => ?_ | refine n3_ fun b_ pre_ => ?_ | refine Nat1.mk fun q_ hq_ => ?_ | refine em_ fun x_ hx_ => ?_ | refine Elem1.mk fun e_ he_ => ?_); refine g0_ ?_))
        refine ⟨_, hk _ _, ?_⟩
        (refine g0_ ?_; repeat ((first | refine n1_ fun b_ => ?_ | refine n2_ fun b_ => ?_ | refine n3_ fun b_ pre_ => ?_ | refine Nat1.mk fun q_ hq_ => ?_ | refine em_ fun x_ hx_ => ?_ | refine Elem1.mk fun e_ he_ => ?_); refine g0_ ?_))
        refine brec ?_; intro c_ h4; (try rw [h4]); cases c_ <;> replace h4 := nm_ h4
        · (refine g0_ ?_; repeat ((first | refine n1_ fun b_ => ?_ | refine n2_ fun b_ => ?_ | refine n3_ fun b_ pre_ => ?_ | refine Nat1.mk fun q_ hq_ => ?_ | refine em_ fun x_ hx_ => ?_ | refine Elem1.mk fun e_ he_ => ?_); refine g0_ ?_))
          have hn : ¬ sameP a b := by
            clear hg hs ht hk hr hR
            unfold sameP
            grind
          rw [show R = false by rw [← hR]; exact decide_eq_false hn]
          exact .refl _
        · (refine g0_ ?_; repeat ((first | refine n1_ fun b_ => ?_ | refine n2_ fun b_ => ?_ | refine n3_ fun b_ pre_ => ?_ | refine Nat1.mk fun q_ hq_ => ?_ | refine em_ fun x_ hx_ => ?_ | refine Elem1.mk fun e_ he_ => ?_); refine g0_ ?_))
          refine (hr).use ?_; (refine g0_ ?_; repeat ((first | refine n1_ fun b_ => ?_ | refine n2_ fun b_ => ?_ | refine n3_ fun b_ pre_ => ?_ | refine Nat1.mk fun q_ hq_ => ?_ | refine em_ fun x_ hx_ => ?_ | refine Elem1.mk fun e_ he_ => ?_); refine g0_ ?_))
          rw [← hR]
          refine Frz.of_eq (congrArg PV.bool ?_)
          rw [decide_eq_decide]
          clear hg hs ht hk hr hR
          unfold sameP
          grind
theorem noneS_ok : Scr.none.ok := by
  have h0 : i64ok 0 := by unfold i64ok; omega
  exact ⟨⟨h0, h0, (fun c hc => by cases hc), by decide⟩, h0, h0, ⟨h0, h0, h0⟩, h0, h0, h0, by decide, h0, h0, ⟨h0, h0, h0⟩, h0, by show i32ok 0; unfold i32ok; omega, by decide, by decide, fun r hr => by cases hr⟩
end Go.Eng.YtmkmodbpeamdiaaDoor
end

/- The law PutCheck. -/
section
namespace Go.Eng.YtmkmodbpeamdiaaDoor
open Go Go.Eng Go.Proofs
variable (W : World)
set_option linter.unusedSimpArgs false
set_option maxRecDepth 100000
set_option linter.unusedVariables false
set_option maxHeartbeats 8000000
end Go.Eng.YtmkmodbpeamdiaaDoor
end
