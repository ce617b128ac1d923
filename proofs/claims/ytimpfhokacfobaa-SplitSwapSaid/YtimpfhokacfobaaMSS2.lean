/- Texts put together: Spl36, Spl37. -/
import Derived.Test.YtimpfhokacfobaaMSS1
import Derived.Test.YtimpfhokacfobaaMSH
import Derived.Test.YtimpfhokacfobaaMSC
import Derived.Test.YtimpfhokacfobaaMSA
/- Splits: split.Grow, the document's MapSplit (b_ x_ q_ e_). -/
section
namespace Go.Eng.Ytimpfhokacfobaa
open Go Go.Eng Go.Proofs Go.Maps
variable (W : World)
set_option linter.unusedSimpArgs false
set_option maxRecDepth 100000
set_option linter.unusedVariables false
set_option maxHeartbeats 4000000
/-- A size grown. -/
def growN (s d : Int) : Int := min (max (IntKind.i64.wrap (s + min (max d (-9999)) 9999)) 1) 9999
def growD (d : Int) : Spl → Int → List Spl := fun t _ => [.mk t.way t.pane (growN t.size d) t.kids]
theorem growD_len (d : Int) (t : Spl) (way : Int) : (growD d t way).length ≤ 2 := Nat.le_succ 1
mutual
def mapT (g : Spl → Spl) : Spl → Spl
  | .mk w p s ks => if w = 0 then g (.mk w p s ks) else .mk w p s (mapTs g ks)
def mapTs (g : Spl → Spl) : List Spl → List Spl
  | [] => []
  | t :: ts => mapT g t :: mapTs g ts
end
theorem mapTs_eq (g : Spl → Spl) : ∀ ks : List Spl, mapTs g ks = ks.map (mapT g)
  | [] => rfl
  | t :: ts => by rw [mapTs, mapTs_eq g ts]; rfl
theorem mapT_mk (g : Spl → Spl) (w p s : Int) (ks : List Spl) : mapT g (.mk w p s ks) = if w = 0 then g (.mk w p s ks) else .mk w p s (ks.map (mapT g)) := by rw [mapT, mapTs_eq]
/-- On right trees panes renamed are leaves mapped. -/
theorem ren_map {f : Int → Int} {g : Spl → Spl} {S : List Int} (hg : ∀ p s, p ∈ S → g (.mk 0 p s []) = .mk 0 (f p) s []) (t : Spl) : ∀ way, t.right way → (∀ p ∈ panesT t, p ∈ S) → mapT g t = renT f t := by
  induction t using spl_induct with
  | h w p s ks ih =>
    intro way hr hS
    rw [right_mk] at hr
    rw [panesT_mk] at hS
    rw [mapT_mk, renT_mk]
    rcases hr.2 with ⟨h0, rfl, -⟩ | ⟨hw, -, hk2, -, hkr⟩
    · subst h0
      rw [if_pos rfl, if_pos rfl]
      exact hg p s (hS p (by simp))
    · rw [if_neg (by omega)] at hS
      rw [if_neg (by omega), if_neg (by omega)]
      congr 1
      exact List.map_congr_left fun k hk => ih k hk w (hkr k hk) fun p hp => hS p (List.mem_flatMap.2 ⟨k, hk, hp⟩)
/-- .. one pane changed is leaves mapped. -/
theorem with_map {d : Spl → Int → List Spl} {g : Spl → Spl} {pane : Int} (hd : ∀ s way, 1 ≤ s ∧ s ≤ 9999 → d (.mk 0 pane s []) way = [g (.mk 0 pane s [])]) (hg : ∀ p s, p ≠ pane → g (.mk 0 p s []) = .mk 0 p s []) (t : Spl) : ∀ way, t.right way → withT d pane t way = [mapT g t] := by
  induction t using spl_induct with
  | h w p s ks ih =>
    intro way hr
    rw [right_mk] at hr
    rw [mapT_mk, withT_mk]
    rcases hr.2 with ⟨h0, rfl, -⟩ | ⟨hw, -, hk2, -, hkr⟩
    · subst h0
      rw [if_pos rfl, if_pos rfl]
      by_cases hp : p = pane
      · subst hp
        rw [if_pos rfl]
        exact hd s way hr.1
      · rw [if_neg hp, hg p s hp]
    · rw [if_neg (by omega), if_neg (by omega)]
      have : ∀ l : List Spl, (∀ k ∈ l, k ∈ ks) → (l.flatMap fun k => withT d pane k w) = l.map (mapT g) := by
        intro l
        induction l with
        | nil => intro _; rfl
        | cons k l ihl =>
          intro hm
          rw [List.flatMap_cons, ih k (hm k (by simp)) w (hkr k (hm k (by simp))), ihl fun x hx => hm x (List.mem_cons_of_mem _ hx)]
          rfl
      rw [this ks fun _ h => h]
theorem ifminS (a b : Int) : (if b < a then b else a) = min a b := by rw [Int.min_def]; split <;> split <;> omega
theorem ifmaxS (a b : Int) : (if a < b then b else a) = max a b := by rw [Int.max_def]; split <;> split <;> omega
theorem grow1_ok (d pane : Int) (s way : Int) : Pure Try.prog W 23 ([encSpl (.mk 0 pane s []), .int .i64 way] ++ [.ip (.int .i64 d) 0]) (.sl 4 (splsV (growD d (.mk 0 pane s []) way))) := by
  rw [encSpl_mk]
  rw [show splsV (growD d (.mk 0 pane s []) way) = [.agg [.int .i64 0, .int .i64 pane, .int .i64 (growN s d), .sl 4 []]] by rw [growD, splsV, List.map_cons, encSpl_mk]; rfl]
  unfold growN
  refine Pure.of (acalls_of_vc (drawOk W) Try.func23 rfl (by decide) (by decide) rfl ?_)
  (refine g0_ ?_; repeat ((first | refine n1_ fun b_ => ?_ | refine n2_ fun b_ => ?_ | refine Nat1.mk fun q_ hq_ => ?_ | refine em_ fun x_ hx_ => ?_ | refine Elem1.mk fun e_ he_ => ?_); refine g0_ ?_))
  simp only [ifminS, ifmaxS]
  refine Fits.wrap ?_
  (refine g0_ ?_; repeat ((first | refine n1_ fun b_ => ?_ | refine n2_ fun b_ => ?_ | refine Nat1.mk fun q_ hq_ => ?_ | refine em_ fun x_ hx_ => ?_ | refine Elem1.mk fun e_ he_ => ?_); refine g0_ ?_))
  simp only [ifminS, ifmaxS]
  refine .inl ?_
  (refine g0_ ?_; repeat ((first | refine n1_ fun b_ => ?_ | refine n2_ fun b_ => ?_ | refine Nat1.mk fun q_ hq_ => ?_ | refine em_ fun x_ hx_ => ?_ | refine Elem1.mk fun e_ he_ => ?_); refine g0_ ?_))
  exact .refl _
theorem frz_aggT {σ : Mem} {w p s : Int} {v : PV} {L : List PV} (h : Frz σ v (.sl 4 L)) : Frz σ (.agg [.int .i64 w, .int .i64 p, .int .i64 s, v]) (.agg [.int .i64 w, .int .i64 p, .int .i64 s, .sl 4 L]) := by
  refine .agg _ _ rfl fun j hj => ?_
  match j, hj with
  | 0, _ => exact .refl _
  | 1, _ => exact .refl _
  | 2, _ => exact .refl _
  | 3, _ => exact h
theorem mapSplit_ok (g : Spl → Spl) (F : FuncId) (caps : List PV) (M : Mem) (S : List Int)
    (hg : ∀ p s : Int, p ∈ S → 1 ≤ s ∧ s ≤ 9999 → ACalls Try.prog W F ([encSpl (.mk 0 p s [])] ++ caps) M (Gives (fun _ : Unit => encSpl (g (.mk 0 p s []))) (fun _ => M) (fun _ => True))) (t : Spl) :
    ∀ way, t.right way → (panesT t).length ≤ 12 → (∀ p ∈ panesT t, p ∈ S) → ACalls Try.prog W 12 [encSpl t, .fn F caps] M (fun v σ' => ∃ ρ', σ'.Perm (M ++ ρ') ∧ Frz ρ' v (encSpl (mapT g t))) := by
  induction t using spl_induct with
  | h w p s ks ih =>
    intro way hr hn hS
    have hkl : (ks.map encSpl).length = ks.length := List.length_map _
    rw [right_mk] at hr
    rw [panesT_mk] at hn hS
    rw [mapT_mk]
    rcases hr.2 with ⟨h0, hk, -⟩ | ⟨hw, -, hk2, -, hkr⟩
    · subst h0 hk
      rw [if_pos rfl] at hS ⊢
      have hgp := hg p s (hS p (by simp)) hr.1
      rw [encSpl_mk] at hgp ⊢
      refine acalls_of_vc (DL_ok (by decide)) Try.func12 rfl (by decide) (by decide) rfl ?_
      (refine g0_ ?_; repeat ((first | refine n1_ fun b_ => ?_ | refine n2_ fun b_ => ?_ | refine Nat1.mk fun q_ hq_ => ?_ | refine em_ fun x_ hx_ => ?_ | refine Elem1.mk fun e_ he_ => ?_); refine g0_ ?_))
      (refine g1_ ?_; repeat ((first | refine n1_ fun b_ => ?_ | refine n2_ fun b_ => ?_ | refine Nat1.mk fun q_ hq_ => ?_ | refine em_ fun x_ hx_ => ?_ | refine Elem1.mk fun e_ he_ => ?_); refine g1_ ?_))
      rw [forceL_eq]
      refine callV_of ?_
      refine ACalls.lendL hgp (r := [_, _]) (.refl _) ?_
      rintro _ -
      generalize g (.mk 0 p s []) = G at *
      obtain ⟨w3, p3, s3, ks3⟩ := G
      rw [encSpl_mk]
      (refine g0_ ?_; repeat ((first | refine n1_ fun b_ => ?_ | refine n2_ fun b_ => ?_ | refine Nat1.mk fun q_ hq_ => ?_ | refine em_ fun x_ hx_ => ?_ | refine Elem1.mk fun e_ he_ => ?_); refine g0_ ?_))
      exact ⟨[_, _], List.perm_append_comm (l₁ := [_, _]) (l₂ := M), .refl _⟩
    · have hw0 : ¬ w = 0 := by omega
      rw [if_neg hw0] at hn hS ⊢
      have hkp := kids_panes hkr
      rw [encSpl_mk, encSpl_mk]
      refine acalls_of_vc (DL_ok (by decide)) Try.func12 rfl (by decide) (by decide) rfl ?_
      (refine g0_ ?_; repeat ((first | refine n1_ fun b_ => ?_ | refine n2_ fun b_ => ?_ | refine Nat1.mk fun q_ hq_ => ?_ | refine em_ fun x_ hx_ => ?_ | refine Elem1.mk fun e_ he_ => ?_); refine g0_ ?_))
      (refine g1_ ?_; repeat ((first | refine n1_ fun b_ => ?_ | refine n2_ fun b_ => ?_ | refine Nat1.mk fun q_ hq_ => ?_ | refine em_ fun x_ hx_ => ?_ | refine Elem1.mk fun e_ he_ => ?_); refine g1_ ?_))
      rename_i b2 b4
      obtain ⟨b5, rfl⟩ : ∃ z, z = b_ := ⟨_, rfl⟩
      refine' loopI (α := Nat × Nat × (List Spl)) (fun (i, b', l) => [(19, .int .i64 i)]) [(1, _), (4, _), (5, _), (17, _), (18, _)] (fun (i, b', l) => ⟨b5, .row 4 [.agg [.int .i64 w, .int .i64 p, .int .i64 s, accV b' 4 (splsV l)]] 0⟩ :: ⟨b4, .row 4 [.agg [.int .i64 0, .int .i64 0, .int .i64 0, .nils]] 0⟩ :: ⟨b2, .row 4 [.agg [.int .i64 w, .int .i64 p, .int .i64 s, .sl 4 (ks.map encSpl)]] 0⟩ :: (accM b' 4 (splsV l) ++ M)) (fun (i, b', l) => i ≤ ks.length ∧ l = (ks.take i).map (mapT g)) (fun (i, b', l) => ks.length - i) (0, 0, []) ?_ ?_
      · exact ⟨Nat.zero_le _, rfl⟩
      rintro ⟨i, b', l⟩ ⟨hi, hl⟩
      rcases l with _ | ⟨l0, l⟩
      · by_cases hie : i = ks.length
        · subst hie
          rw [List.take_length] at hl
          first | (exfalso; have h9 := congrArg List.length hl; simp only [List.length_nil, List.length_map] at h9; omega) | ((refine g1_ ?_; repeat ((first | refine n1_ fun b_ => ?_ | refine n2_ fun b_ => ?_ | refine Nat1.mk fun q_ hq_ => ?_ | refine em_ fun x_ hx_ => ?_ | refine Elem1.mk fun e_ he_ => ?_); refine g1_ ?_)); rw [← hl]; refine ⟨[_, _, _], List.perm_append_comm (l₁ := [_, _, _]) (l₂ := M), ?_⟩; exact frz_aggT (.nils 4))
        · have hil : i < ks.length := by omega
          have hee := congrArg List.length hl
          simp only [List.length_map, List.length_cons, List.length_nil, List.length_take] at hee
          (refine g1_ ?_; repeat ((first | refine n1_ fun b_ => ?_ | refine n2_ fun b_ => ?_ | refine Nat1.mk fun q_ hq_ => ?_ | refine em_ fun x_ hx_ => ?_ | refine Elem1.mk fun e_ he_ => ?_); refine g1_ ?_))
          have hm := List.mem_of_getElem? hx_
          have hcl := ih x_ hm w (hkr x_ hm) (Nat.le_trans (kid_panes hm) hn) (fun p hp => hS p (List.mem_flatMap.2 ⟨x_, hm, hp⟩))
          have hnx : (ks.take (i + 1)).map (mapT g) = [] ++ [mapT g x_] := by rw [take_snoc_of hx_, List.map_append, ← hl]; rfl
          generalize mapT g x_ = Y at *
          obtain ⟨w2, p2, s2, ks2⟩ := x_
          obtain ⟨w3, p3, s3, ks3⟩ := Y
          have e2 := encSpl_mk w2 p2 s2 ks2
          have e3 := encSpl_mk w3 p3 s3 ks3
          rw [e2, e3] at hcl
          rw [e2]
          (refine g0_ ?_; repeat ((first | refine n1_ fun b_ => ?_ | refine n2_ fun b_ => ?_ | refine Nat1.mk fun q_ hq_ => ?_ | refine em_ fun x_ hx_ => ?_ | refine Elem1.mk fun e_ he_ => ?_); refine g0_ ?_))
          refine Draws10.chain ⟨9, [.new, .new, .new, .new, .turn, .skip, .skip, .skip, .skip], [(4, [.again, .again, .keep, .keep, .keep, .new, .turn, .skip, .skip]), (6, [.keep, .keep, .keep, .keep, .keep, .keep, .keep, .new, .turn]), (8, [.keep, .keep, .keep, .keep, .keep, .keep, .keep, .keep, .keep])], by decide +kernel, ?_⟩; (refine g0_ ?_; repeat ((first | refine n1_ fun b_ => ?_ | refine n2_ fun b_ => ?_ | refine Nat1.mk fun q_ hq_ => ?_ | refine em_ fun x_ hx_ => ?_ | refine Elem1.mk fun e_ he_ => ?_); refine g0_ ?_))
          refine ACalls.lendK hcl (List.perm_append_comm (l₁ := [_, _, _, _]) (l₂ := M)) ?_
          (refine g0_ ?_; repeat ((first | refine n1_ fun b_ => ?_ | refine n2_ fun b_ => ?_ | refine Nat1.mk fun q_ hq_ => ?_ | refine em_ fun x_ hx_ => ?_ | refine Elem1.mk fun e_ he_ => ?_); refine g0_ ?_))
          rw [← e3]
          try rw [show ∀ v : PV, (List.map encSpl l).length + 1 + [v].length = (List.map encSpl (l0 :: l ++ [Spl.mk w3 p3 s3 ks3])).length from fun v => by simp]
          try rw [show (encSpl l0 :: List.map encSpl l) ++ [encSpl (.mk w3 p3 s3 ks3)] = splsV (l0 :: l ++ [Spl.mk w3 p3 s3 ks3]) from by simp [splsV]]
          refine nx_ (i + 1, b_, [] ++ [Spl.mk w3 p3 s3 ks3]) ?_ ?_
          · exact ⟨hil, hnx.symm⟩
          · ((try dsimp only); (try simp only [List.length_drop, List.length_take, List.length_append, List.length_cons, List.length_nil, List.length_map] at *); omega)
      · by_cases hie : i = ks.length
        · subst hie
          rw [List.take_length] at hl
          first | (exfalso; have h9 := congrArg List.length hl; simp only [List.length_nil, List.length_map] at h9; omega) | ((refine g1_ ?_; repeat ((first | refine n1_ fun b_ => ?_ | refine n2_ fun b_ => ?_ | refine Nat1.mk fun q_ hq_ => ?_ | refine em_ fun x_ hx_ => ?_ | refine Elem1.mk fun e_ he_ => ?_); refine g1_ ?_)); rw [← hl]; refine ⟨[_, _, _, _], List.perm_append_comm (l₁ := [_, _, _, _]) (l₂ := M), ?_⟩; exact frz_aggT (frz_row (l := splsV (l0 :: l)) (.there _ _ _ _ _ (.there _ _ _ _ _ (.there _ _ _ _ _ (.here _ _ _)))) _ rfl))
        · have hil : i < ks.length := by omega
          have hee := congrArg List.length hl
          simp only [List.length_map, List.length_cons, List.length_nil, List.length_take] at hee
          (refine g1_ ?_; repeat ((first | refine n1_ fun b_ => ?_ | refine n2_ fun b_ => ?_ | refine Nat1.mk fun q_ hq_ => ?_ | refine em_ fun x_ hx_ => ?_ | refine Elem1.mk fun e_ he_ => ?_); refine g1_ ?_))
          have hm := List.mem_of_getElem? hx_
          have hcl := ih x_ hm w (hkr x_ hm) (Nat.le_trans (kid_panes hm) hn) (fun p hp => hS p (List.mem_flatMap.2 ⟨x_, hm, hp⟩))
          have hnx : (ks.take (i + 1)).map (mapT g) = (l0 :: l) ++ [mapT g x_] := by rw [take_snoc_of hx_, List.map_append, ← hl]; rfl
          generalize mapT g x_ = Y at *
          obtain ⟨w2, p2, s2, ks2⟩ := x_
          obtain ⟨w3, p3, s3, ks3⟩ := Y
          have e2 := encSpl_mk w2 p2 s2 ks2
          have e3 := encSpl_mk w3 p3 s3 ks3
          rw [e2, e3] at hcl
          rw [e2]
          (refine g0_ ?_; repeat ((first | refine n1_ fun b_ => ?_ | refine n2_ fun b_ => ?_ | refine Nat1.mk fun q_ hq_ => ?_ | refine em_ fun x_ hx_ => ?_ | refine Elem1.mk fun e_ he_ => ?_); refine g0_ ?_))
          refine Draws10.chain ⟨9, [.new, .new, .new, .new, .turn, .skip, .skip, .skip, .skip], [(4, [.again, .again, .keep, .keep, .keep, .new, .turn, .skip, .skip]), (6, [.keep, .keep, .keep, .keep, .keep, .keep, .keep, .new, .turn]), (8, [.keep, .keep, .keep, .keep, .keep, .keep, .keep, .keep, .keep])], by decide +kernel, ?_⟩; (refine g0_ ?_; repeat ((first | refine n1_ fun b_ => ?_ | refine n2_ fun b_ => ?_ | refine Nat1.mk fun q_ hq_ => ?_ | refine em_ fun x_ hx_ => ?_ | refine Elem1.mk fun e_ he_ => ?_); refine g0_ ?_))
          refine ACalls.lendK hcl (List.perm_append_comm (l₁ := [_, _, _, _, _]) (l₂ := M)) ?_
          (refine g0_ ?_; repeat ((first | refine n1_ fun b_ => ?_ | refine n2_ fun b_ => ?_ | refine Nat1.mk fun q_ hq_ => ?_ | refine em_ fun x_ hx_ => ?_ | refine Elem1.mk fun e_ he_ => ?_); refine g0_ ?_))
          rw [← e3]
          try rw [show ∀ v : PV, (List.map encSpl l).length + 1 + [v].length = (List.map encSpl (l0 :: l ++ [Spl.mk w3 p3 s3 ks3])).length from fun v => by simp]
          try rw [show (encSpl l0 :: List.map encSpl l) ++ [encSpl (.mk w3 p3 s3 ks3)] = splsV (l0 :: l ++ [Spl.mk w3 p3 s3 ks3]) from by simp [splsV]]
          refine nx_ (i + 1, b_, (l0 :: l) ++ [Spl.mk w3 p3 s3 ks3]) ?_ ?_
          · exact ⟨hil, hnx.symm⟩
          · ((try dsimp only); (try simp only [List.length_drop, List.length_take, List.length_append, List.length_cons, List.length_nil, List.length_map] at *); omega)
end Go.Eng.Ytimpfhokacfobaa
end

/- The law SplitSwap (b_ x_ q_ e_). -/
section
namespace Go.Eng.Ytimpfhokacfobaa
open Go Go.Eng Go.Proofs Go.Maps
variable (W : World)
set_option linter.unusedSimpArgs false
set_option maxRecDepth 100000
set_option linter.unusedVariables false
set_option maxHeartbeats 4000000
def gro (a d : Int) (t : Spl) : Spl := if t.pane = a then .mk t.way t.pane (growN t.size d) t.kids else t
def growR (t : Spl) (a d : Int) : Spl × Int :=
  if (visS t 0 (0, [])).1 ≠ 0 then (zeroT, (visS t 0 (0, [])).1) else if a ∈ panesT t then (mapT (gro a d) t, 0) else (zeroT, 6)
theorem gro_with (a d : Int) {t : Spl} {way : Int} (hr : t.right way) : withT (growD d) a t way = [mapT (gro a d) t] :=
  with_map (fun s way hs => by simp [growD, gro, Spl.pane]) (fun p s h => by simp [gro, Spl.pane, h]) t way hr
theorem growP_ok (t : Spl) (ht : t.ok) (a d : Int) : Pure Try.prog W 7 [encSpl t, .int .i64 a, .int .i64 d] (.tup [encSpl (growR t a d).1, .int .i64 (growR t a d).2]) := by
  have hc := checkS_ok W t ht
  have hcp := copyT_ok W t ht
  have hr := @vis_right t
  have hpn := fun h => panes_ok W t 0 (hr h).1 (hr h).2.2.1
  have hwt := fun h => with_ok W (growD d) a 23 [.ip (.int .i64 d) 0] (growD_len d) (fun s way => grow1_ok W d a s way) t 0 (hr h).1 (hr h).2.2.1
  unfold growR
  generalize visS t 0 (0, []) = st at *
  by_cases h0 : st.1 = 0
  · rw [if_neg (by simpa using h0)]
    have hpn := hpn h0
    have hwt := hwt h0
    rw [gro_with a d (hr h0).1] at hwt
    have hl12 := (hr h0).2.2.1
    have hct := containsI_ok W (panesT t) a (by omega)
    by_cases h1 : a ∈ panesT t
    · rw [if_pos h1]
      rw [decide_eq_true h1] at hct
      generalize mapT (gro a d) t = C at *
      obtain ⟨w, p, s, ks⟩ := t
      obtain ⟨w3, p3, s3, ks3⟩ := C
      rw [show splsV [Spl.mk w3 p3 s3 ks3] = [encSpl (.mk w3 p3 s3 ks3)] from rfl] at hwt
      rw [encSpl_mk] at hc hpn hcp hwt ⊢
      rw [encSpl_mk] at hwt ⊢
      generalize panesT (.mk w p s ks) = l at *
      have hln := panesV_len l
      refine Pure.of (acalls_of_vc (drawOk W) Try.func7 rfl (by decide) (by decide) rfl ?_)
      (refine g0_ ?_; repeat ((first | refine n1_ fun b_ => ?_ | refine n2_ fun b_ => ?_ | refine Nat1.mk fun q_ hq_ => ?_ | refine em_ fun x_ hx_ => ?_ | refine Elem1.mk fun e_ he_ => ?_); refine g0_ ?_))
      refine (hc).use ?_; (refine g0_ ?_; repeat ((first | refine n1_ fun b_ => ?_ | refine n2_ fun b_ => ?_ | refine Nat1.mk fun q_ hq_ => ?_ | refine em_ fun x_ hx_ => ?_ | refine Elem1.mk fun e_ he_ => ?_); refine g0_ ?_))
      (refine g1_ ?_; repeat ((first | refine n1_ fun b_ => ?_ | refine n2_ fun b_ => ?_ | refine Nat1.mk fun q_ hq_ => ?_ | refine em_ fun x_ hx_ => ?_ | refine Elem1.mk fun e_ he_ => ?_); refine g1_ ?_))
      refine (hpn).use ?_; (refine g0_ ?_; repeat ((first | refine n1_ fun b_ => ?_ | refine n2_ fun b_ => ?_ | refine Nat1.mk fun q_ hq_ => ?_ | refine em_ fun x_ hx_ => ?_ | refine Elem1.mk fun e_ he_ => ?_); refine g0_ ?_))
      refine (hct).use ?_; (refine g0_ ?_; repeat ((first | refine n1_ fun b_ => ?_ | refine n2_ fun b_ => ?_ | refine Nat1.mk fun q_ hq_ => ?_ | refine em_ fun x_ hx_ => ?_ | refine Elem1.mk fun e_ he_ => ?_); refine g0_ ?_))
      (refine g1_ ?_; repeat ((first | refine n1_ fun b_ => ?_ | refine n2_ fun b_ => ?_ | refine Nat1.mk fun q_ hq_ => ?_ | refine em_ fun x_ hx_ => ?_ | refine Elem1.mk fun e_ he_ => ?_); refine g1_ ?_))
      refine (hcp).use ?_; (refine g0_ ?_; repeat ((first | refine n1_ fun b_ => ?_ | refine n2_ fun b_ => ?_ | refine Nat1.mk fun q_ hq_ => ?_ | refine em_ fun x_ hx_ => ?_ | refine Elem1.mk fun e_ he_ => ?_); refine g0_ ?_))
      refine hwt.giveUp (τ := [_, _]) (ρ := [_]) rfl (List.Perm.cons _ (.swap _ _ _)) (fun j hj => ?_) ?_
      · match j, hj with
        | 0, _ => exact .refl _
        | 1, _ => exact .refl _
        | 3, _ => exact .refl _
        | 2, _ =>
          refine .fn _ _ _ rfl fun j hj => ?_
          match j, hj with
          | 0, _ => exact .bref _ _ _ _ _ _ (.here _ _ _)
      (refine g0_ ?_; repeat ((first | refine n1_ fun b_ => ?_ | refine n2_ fun b_ => ?_ | refine Nat1.mk fun q_ hq_ => ?_ | refine em_ fun x_ hx_ => ?_ | refine Elem1.mk fun e_ he_ => ?_); refine g0_ ?_))
      exact .refl _
    · rw [if_neg h1]
      rw [decide_eq_false h1] at hct
      obtain ⟨w, p, s, ks⟩ := t
      rw [encSpl_mk] at hc hpn hcp hwt ⊢
      generalize panesT (.mk w p s ks) = l at *
      refine Pure.of (acalls_of_vc (drawOk W) Try.func7 rfl (by decide) (by decide) rfl ?_)
      (refine g0_ ?_; repeat ((first | refine n1_ fun b_ => ?_ | refine n2_ fun b_ => ?_ | refine Nat1.mk fun q_ hq_ => ?_ | refine em_ fun x_ hx_ => ?_ | refine Elem1.mk fun e_ he_ => ?_); refine g0_ ?_))
      refine (hc).use ?_; (refine g0_ ?_; repeat ((first | refine n1_ fun b_ => ?_ | refine n2_ fun b_ => ?_ | refine Nat1.mk fun q_ hq_ => ?_ | refine em_ fun x_ hx_ => ?_ | refine Elem1.mk fun e_ he_ => ?_); refine g0_ ?_))
      (refine g1_ ?_; repeat ((first | refine n1_ fun b_ => ?_ | refine n2_ fun b_ => ?_ | refine Nat1.mk fun q_ hq_ => ?_ | refine em_ fun x_ hx_ => ?_ | refine Elem1.mk fun e_ he_ => ?_); refine g1_ ?_))
      refine (hpn).use ?_; (refine g0_ ?_; repeat ((first | refine n1_ fun b_ => ?_ | refine n2_ fun b_ => ?_ | refine Nat1.mk fun q_ hq_ => ?_ | refine em_ fun x_ hx_ => ?_ | refine Elem1.mk fun e_ he_ => ?_); refine g0_ ?_))
      refine (hct).use ?_; (refine g0_ ?_; repeat ((first | refine n1_ fun b_ => ?_ | refine n2_ fun b_ => ?_ | refine Nat1.mk fun q_ hq_ => ?_ | refine em_ fun x_ hx_ => ?_ | refine Elem1.mk fun e_ he_ => ?_); refine g0_ ?_))
      (refine g1_ ?_; repeat ((first | refine n1_ fun b_ => ?_ | refine n2_ fun b_ => ?_ | refine Nat1.mk fun q_ hq_ => ?_ | refine em_ fun x_ hx_ => ?_ | refine Elem1.mk fun e_ he_ => ?_); refine g1_ ?_))
      exact frz_t2 (frz_zeroT _)
  · rw [if_pos h0]
    obtain ⟨w, p, s, ks⟩ := t
    rw [encSpl_mk] at hc ⊢
    refine Pure.of (acalls_of_vc (drawOk W) Try.func7 rfl (by decide) (by decide) rfl ?_)
    (refine g0_ ?_; repeat ((first | refine n1_ fun b_ => ?_ | refine n2_ fun b_ => ?_ | refine Nat1.mk fun q_ hq_ => ?_ | refine em_ fun x_ hx_ => ?_ | refine Elem1.mk fun e_ he_ => ?_); refine g0_ ?_))
    refine (hc).use ?_; (refine g0_ ?_; repeat ((first | refine n1_ fun b_ => ?_ | refine n2_ fun b_ => ?_ | refine Nat1.mk fun q_ hq_ => ?_ | refine em_ fun x_ hx_ => ?_ | refine Elem1.mk fun e_ he_ => ?_); refine g0_ ?_))
    (refine g1_ ?_; repeat ((first | refine n1_ fun b_ => ?_ | refine n2_ fun b_ => ?_ | refine Nat1.mk fun q_ hq_ => ?_ | refine em_ fun x_ hx_ => ?_ | refine Elem1.mk fun e_ he_ => ?_); refine g1_ ?_))
    exact frz_t2 (frz_zeroT _)
/-! ### The law's closures -/
theorem turn1_ok (l : List Int) (hl : l.length ≤ 12) (hn : l.Nodup) (bl : Nat) (p s : Int) (hp : p ∈ l) :
    ACalls Try.prog W 13 ([encSpl (.mk 0 p s [])] ++ [.bref bl 0]) [⟨bl, .row 1 [.sl 1 (panesV l)] 0⟩] (Gives (fun _ : Unit => encSpl (.mk 0 (rotF l p) s [])) (fun _ => [⟨bl, .row 1 [.sl 1 (panesV l)] 0⟩]) (fun _ => True)) := by
  have hix := indexI_ok W l p (by omega)
  have hln := panesV_len l
  rw [idxI, if_pos hp] at hix
  have hil := List.idxOf_lt_length_of_mem hp
  have hpi : l[l.idxOf p]? = some p := by rw [List.getElem?_eq_getElem hil, List.getElem_idxOf]
  generalize l.idxOf p = i at *
  have hml := Nat.mod_lt (i + l.length - 1) (show 0 < l.length by omega)
  have hmj : ((i + l.length - 1) % l.length + 1) % l.length = i := by
    rcases Nat.eq_zero_or_pos i with h | h
    · subst h
      rw [show 0 + l.length - 1 = l.length - 1 by omega, Nat.mod_eq_of_lt (show l.length - 1 < l.length by omega), Nat.sub_add_cancel (show 1 ≤ l.length by omega), Nat.mod_self]
    · rw [show i + l.length - 1 = (i - 1) + l.length by omega, Nat.add_mod_right, Nat.mod_eq_of_lt (show i - 1 < l.length by omega), Nat.sub_add_cancel h, Nat.mod_eq_of_lt hil]
  obtain ⟨m, hm⟩ : ∃ m, m = (i + l.length - 1) % l.length := ⟨_, rfl⟩
  rw [← hm] at hml hmj
  have hmt : ((i : Int) + ((panesV l).length : Int) - 1).tmod ((panesV l).length : Int) = (m : Int) := by
    rw [hln, hm, show (i : Int) + (l.length : Int) - 1 = ((i + l.length - 1 : Nat) : Int) by omega]
    rfl
  obtain ⟨x, hx⟩ : ∃ x, l[m]? = some x := ⟨_, List.getElem?_eq_getElem hml⟩
  have hrf : rotF l p = x := rotF_at hn (i := m) (by rw [rotL_at hml, hmj, hpi]) hx
  rw [hrf, encSpl_mk, encSpl_mk]
  refine acalls_of_vc (DL_ok (by decide)) Try.func13 rfl (by decide) (by decide) rfl ?_
  (refine g0_ ?_; repeat ((first | refine n1_ fun b_ => ?_ | refine n2_ fun b_ => ?_ | refine Nat1.mk fun q_ hq_ => ?_ | refine em_ fun x_ hx_ => ?_ | refine Elem1.mk fun e_ he_ => ?_); refine g0_ ?_))
  refine (hix).use ?_; (refine g0_ ?_; repeat ((first | refine n1_ fun b_ => ?_ | refine n2_ fun b_ => ?_ | refine Nat1.mk fun q_ hq_ => ?_ | refine em_ fun x_ hx_ => ?_ | refine Elem1.mk fun e_ he_ => ?_); refine g0_ ?_))
  refine Draws10.chain ⟨13, [.new, .new, .new, .new, .new, .new, .new, .new, .new, .new, .new, .new, .turn], [(12, [.keep, .keep, .keep, .keep, .keep, .keep, .keep, .keep, .keep, .keep, .keep, .keep, .keep])], by decide +kernel, ?_⟩; (refine g0_ ?_; repeat ((first | refine n1_ fun b_ => ?_ | refine n2_ fun b_ => ?_ | refine Nat1.mk fun q_ hq_ => ?_ | refine em_ fun x_ hx_ => ?_ | refine Elem1.mk fun e_ he_ => ?_); refine g0_ ?_))
  obtain rfl : q_ = m := by omega
  rw [hx] at hx_
  obtain rfl := Option.some.inj hx_
  (refine g0_ ?_; repeat ((first | refine n1_ fun b_ => ?_ | refine n2_ fun b_ => ?_ | refine Nat1.mk fun q_ hq_ => ?_ | refine em_ fun x_ hx_ => ?_ | refine Elem1.mk fun e_ he_ => ?_); refine g0_ ?_))
  exact ⟨(), trivial, rfl, by (first | exact ⟨_, .refl _⟩ | exact wkMem.rfl' | exact ⟨_, .swap _ _ _⟩ | (repeat (first | exact wkMem.nil _ | exact wkMem.rfl' | exact wk_snoc _ _ _ | exact wk_fam (by assumption) _ _ _ | exact wk_famN (by assumption) _ _ _ | (apply wkMem.cons; (case' hl => (repeat (first | exact .here _ _ _ | apply Look.there)))) | apply wkMem.skip)))⟩
theorem turn2_ok (ba bb : Nat) (a b p s : Int) :
    ACalls Try.prog W 16 ([encSpl (.mk 0 p s [])] ++ [.bref ba 0, .bref bb 0]) [⟨ba, .row 1 [.int .i64 a] 0⟩, ⟨bb, .row 1 [.int .i64 b] 0⟩] (Gives (fun _ : Unit => encSpl (.mk 0 (swapF a b p) s [])) (fun _ => [⟨ba, .row 1 [.int .i64 a] 0⟩, ⟨bb, .row 1 [.int .i64 b] 0⟩]) (fun _ => True)) := by
  rw [encSpl_mk, encSpl_mk]
  by_cases h1 : p = a
  · subst h1
    rw [show swapF p b p = b by unfold swapF; split <;> simp_all]
    refine acalls_of_vc (drawOk W) Try.func16 rfl (by decide) (by decide) rfl ?_
    (refine g0_ ?_; repeat ((first | refine n1_ fun b_ => ?_ | refine n2_ fun b_ => ?_ | refine Nat1.mk fun q_ hq_ => ?_ | refine em_ fun x_ hx_ => ?_ | refine Elem1.mk fun e_ he_ => ?_); refine g0_ ?_))
    (refine g1_ ?_; repeat ((first | refine n1_ fun b_ => ?_ | refine n2_ fun b_ => ?_ | refine Nat1.mk fun q_ hq_ => ?_ | refine em_ fun x_ hx_ => ?_ | refine Elem1.mk fun e_ he_ => ?_); refine g1_ ?_))
    exact ⟨(), trivial, rfl, by (first | exact ⟨_, .refl _⟩ | exact wkMem.rfl' | exact ⟨_, .swap _ _ _⟩ | (repeat (first | exact wkMem.nil _ | exact wkMem.rfl' | exact wk_snoc _ _ _ | exact wk_fam (by assumption) _ _ _ | exact wk_famN (by assumption) _ _ _ | (apply wkMem.cons; (case' hl => (repeat (first | exact .here _ _ _ | apply Look.there)))) | apply wkMem.skip)))⟩
  · by_cases h2 : p = b
    · subst h2
      rw [show swapF a p p = a by unfold swapF; rw [if_pos rfl]]
      refine acalls_of_vc (drawOk W) Try.func16 rfl (by decide) (by decide) rfl ?_
      (refine g0_ ?_; repeat ((first | refine n1_ fun b_ => ?_ | refine n2_ fun b_ => ?_ | refine Nat1.mk fun q_ hq_ => ?_ | refine em_ fun x_ hx_ => ?_ | refine Elem1.mk fun e_ he_ => ?_); refine g0_ ?_))
      (refine g1_ ?_; repeat ((first | refine n1_ fun b_ => ?_ | refine n2_ fun b_ => ?_ | refine Nat1.mk fun q_ hq_ => ?_ | refine em_ fun x_ hx_ => ?_ | refine Elem1.mk fun e_ he_ => ?_); refine g1_ ?_))
      exact ⟨(), trivial, rfl, by (first | exact ⟨_, .refl _⟩ | exact wkMem.rfl' | exact ⟨_, .swap _ _ _⟩ | (repeat (first | exact wkMem.nil _ | exact wkMem.rfl' | exact wk_snoc _ _ _ | exact wk_fam (by assumption) _ _ _ | exact wk_famN (by assumption) _ _ _ | (apply wkMem.cons; (case' hl => (repeat (first | exact .here _ _ _ | apply Look.there)))) | apply wkMem.skip)))⟩
    · rw [show swapF a b p = p by unfold swapF; rw [if_neg h2, if_neg h1]]
      refine acalls_of_vc (drawOk W) Try.func16 rfl (by decide) (by decide) rfl ?_
      (refine g0_ ?_; repeat ((first | refine n1_ fun b_ => ?_ | refine n2_ fun b_ => ?_ | refine Nat1.mk fun q_ hq_ => ?_ | refine em_ fun x_ hx_ => ?_ | refine Elem1.mk fun e_ he_ => ?_); refine g0_ ?_))
      (refine g1_ ?_; repeat ((first | refine n1_ fun b_ => ?_ | refine n2_ fun b_ => ?_ | refine Nat1.mk fun q_ hq_ => ?_ | refine em_ fun x_ hx_ => ?_ | refine Elem1.mk fun e_ he_ => ?_); refine g1_ ?_))
      exact ⟨(), trivial, rfl, by (first | exact ⟨_, .refl _⟩ | exact wkMem.rfl' | exact ⟨_, .swap _ _ _⟩ | (repeat (first | exact wkMem.nil _ | exact wkMem.rfl' | exact wk_snoc _ _ _ | exact wk_fam (by assumption) _ _ _ | exact wk_famN (by assumption) _ _ _ | (apply wkMem.cons; (case' hl => (repeat (first | exact .here _ _ _ | apply Look.there)))) | apply wkMem.skip)))⟩
theorem grow_same {s d : Int} (hs : 1 ≤ s ∧ s ≤ 9999) : growN s d = max 1 (min (s + max (-9999) (min d 9999)) 9999) := by
  unfold growN
  rw [IntKind.wrap_i64]
  omega
theorem turn3_ok (ba bd : Nat) (a d p s : Int) (hs : 1 ≤ s ∧ s ≤ 9999) :
    ACalls Try.prog W 17 ([encSpl (.mk 0 p s [])] ++ [.bref ba 0, .bref bd 0]) [⟨ba, .row 1 [.int .i64 a] 0⟩, ⟨bd, .row 1 [.int .i64 d] 0⟩] (Gives (fun _ : Unit => encSpl (gro a d (.mk 0 p s []))) (fun _ => [⟨ba, .row 1 [.int .i64 a] 0⟩, ⟨bd, .row 1 [.int .i64 d] 0⟩]) (fun _ => True)) := by
  have hgs := grow_same (d := d) hs
  by_cases h1 : p = a
  · subst h1
    rw [show gro p d (.mk 0 p s []) = .mk 0 p (growN s d) [] by simp [gro, Spl.pane, Spl.way, Spl.size, Spl.kids], hgs, encSpl_mk, encSpl_mk]
    clear hgs
    refine acalls_of_vc (drawOk W) Try.func17 rfl (by decide) (by decide) rfl ?_
    (refine g0_ ?_; repeat ((first | refine n1_ fun b_ => ?_ | refine n2_ fun b_ => ?_ | refine Nat1.mk fun q_ hq_ => ?_ | refine em_ fun x_ hx_ => ?_ | refine Elem1.mk fun e_ he_ => ?_); refine g0_ ?_))
    (refine g1_ ?_; repeat ((first | refine n1_ fun b_ => ?_ | refine n2_ fun b_ => ?_ | refine Nat1.mk fun q_ hq_ => ?_ | refine em_ fun x_ hx_ => ?_ | refine Elem1.mk fun e_ he_ => ?_); refine g1_ ?_))
    simp only [ifminS, ifmaxS]
    exact ⟨(), trivial, trivial, by (first | exact ⟨_, .refl _⟩ | exact wkMem.rfl' | exact ⟨_, .swap _ _ _⟩ | (repeat (first | exact wkMem.nil _ | exact wkMem.rfl' | exact wk_snoc _ _ _ | exact wk_fam (by assumption) _ _ _ | exact wk_famN (by assumption) _ _ _ | (apply wkMem.cons; (case' hl => (repeat (first | exact .here _ _ _ | apply Look.there)))) | apply wkMem.skip)))⟩
  · rw [show gro a d (.mk 0 p s []) = .mk 0 p s [] by simp [gro, Spl.pane, h1], encSpl_mk]
    clear hgs
    refine acalls_of_vc (drawOk W) Try.func17 rfl (by decide) (by decide) rfl ?_
    (refine g0_ ?_; repeat ((first | refine n1_ fun b_ => ?_ | refine n2_ fun b_ => ?_ | refine Nat1.mk fun q_ hq_ => ?_ | refine em_ fun x_ hx_ => ?_ | refine Elem1.mk fun e_ he_ => ?_); refine g0_ ?_))
    (refine g1_ ?_; repeat ((first | refine n1_ fun b_ => ?_ | refine n2_ fun b_ => ?_ | refine Nat1.mk fun q_ hq_ => ?_ | refine em_ fun x_ hx_ => ?_ | refine Elem1.mk fun e_ he_ => ?_); refine g1_ ?_))
    exact ⟨(), trivial, rfl, by (first | exact ⟨_, .refl _⟩ | exact wkMem.rfl' | exact ⟨_, .swap _ _ _⟩ | (repeat (first | exact wkMem.nil _ | exact wkMem.rfl' | exact wk_snoc _ _ _ | exact wk_fam (by assumption) _ _ _ | exact wk_famN (by assumption) _ _ _ | (apply wkMem.cons; (case' hl => (repeat (first | exact .here _ _ _ | apply Look.there)))) | apply wkMem.skip)))⟩
theorem lendK1 {f : FuncId} {args : List PV} {σ ρ : Mem} {b : Nat} {c : Cont} {r : PV} {k : PV → Mem → Prop} (h : ACalls Try.prog W f args [⟨b, c⟩] fun v σ' => ∃ ρ', σ'.Perm ([⟨b, c⟩] ++ ρ') ∧ Frz ρ' v r) (hl : Look σ b c ρ) (hk : k r (ρ ++ [⟨b, c⟩])) : ACalls Try.prog W f args σ k :=
  ACalls.lendK h hl.perm hk
theorem lendK2 {f : FuncId} {args : List PV} {σ ρ ρ' : Mem} {b b' : Nat} {c c' : Cont} {r : PV} {k : PV → Mem → Prop} (h : ACalls Try.prog W f args [⟨b, c⟩, ⟨b', c'⟩] fun v σ' => ∃ ρ', σ'.Perm ([⟨b, c⟩, ⟨b', c'⟩] ++ ρ') ∧ Frz ρ' v r) (hl : Look σ b c ρ) (hl' : Look ρ b' c' ρ') (hk : k r (ρ' ++ [⟨b, c⟩, ⟨b', c'⟩])) : ACalls Try.prog W f args σ k :=
  ACalls.lendK h (hl.perm.trans (hl'.perm.cons _)) hk
theorem map_okS {g : Spl → Spl} (hg : ∀ k : Spl, k.ok → (g k).ok) (t : Spl) : t.ok → (mapT g t).ok := by
  induction t using spl_induct with
  | h w p s ks ih =>
    intro ht
    rw [mapT_mk]
    split
    · exact hg _ ht
    · obtain ⟨o1, o2, o3, o4, hks⟩ := spl_ok.1 ht
      refine spl_ok.2 ⟨o1, o2, o3, by rw [List.length_map]; exact o4, fun k hk => ?_⟩
      obtain ⟨x, hx, rfl⟩ := List.mem_map.1 hk
      exact ih x hx (hks x hx)
theorem ren_okS {f : Int → Int} (hf : ∀ p, i64ok p → i64ok (f p)) (t : Spl) : t.ok → (renT f t).ok := by
  induction t using spl_induct with
  | h w p s ks ih =>
    intro ht
    obtain ⟨o1, o2, o3, o4, hks⟩ := spl_ok.1 ht
    rw [renT_mk]
    split
    · exact spl_ok.2 ⟨o1, hf p o2, o3, o4, hks⟩
    · refine spl_ok.2 ⟨o1, o2, o3, by rw [List.length_map]; exact o4, fun k hk => ?_⟩
      obtain ⟨x, hx, rfl⟩ := List.mem_map.1 hk
      exact ih x hx (hks x hx)
theorem growN_bd (s d : Int) : 1 ≤ growN s d ∧ growN s d ≤ 9999 := by unfold growN; omega
theorem gro_ok (a d : Int) (k : Spl) (hk : k.ok) : (gro a d k).ok := by
  obtain ⟨w, p, s, ks⟩ := k
  have hb := growN_bd s d
  obtain ⟨o1, o2, o3, o4, hks⟩ := spl_ok.1 hk
  unfold gro
  split
  · exact spl_ok.2 ⟨o1, o2, by show i64ok (growN s d); unfold i64ok; omega, o4, hks⟩
  · exact hk
theorem splitSwap_ok (_ : Free W) (t : Spl) (ht : t.ok) (a : Int) (ha : i64ok a) (b : Int) (hb : i64ok b) (d : Int) (hd : i64ok d) : Pure Try.prog W 3 [encSpl t, .int .i64 a, .int .i64 b, .int .i64 d] (.bool true) := by
  have hown := ownSplit_ok W t ht
  have hck := checkR_ok W t ht
  have hpt := parted_ok W
  have hsw := swapP_ok W t ht a b
  have hro := rotP_ok W t ht
  have hgr := growP_ok W t ht a d
  have hsm := sameT_ok W t ht t
  rw [sameT_rfl] at hsm
  have hno := noSplit_ok W zeroT zeroT_ok
  rw [sameT_rfl, zeroV_eq] at hno
  have hr := @vis_right t
  have heq := chk_eq t
  have hcp := @chk_panes t
  unfold swapR at hsw
  unfold rotR at hro
  unfold growR at hgr
  rw [heq] at hsw hro hgr hr
  generalize chkT t 0 [] = cp at *
  obtain ⟨c, qs⟩ := cp
  dsimp only at *
  by_cases h0 : c = 0
  · subst h0
    obtain rfl := hcp rfl
    rw [if_neg (by simp)] at hsw hro hgr
    obtain ⟨hrt, -, hl12, hnd⟩ := hr rfl
    have hca := containsI_ok W (panesT t) a (by omega)
    have hcb := containsI_ok W (panesT t) b (by omega)
    have hm1 := fun bl => mapSplit_ok W (fun k => .mk 0 (rotF (panesT t) k.pane) k.size []) 13 [.bref bl 0] [⟨bl, .row 1 [.sl 1 (panesV (panesT t))] 0⟩] (panesT t) (fun p s hp hs => turn1_ok W (panesT t) hl12 hnd bl p s hp) t 0 hrt hl12 (fun p hp => hp)
    rw [ren_map (f := rotF (panesT t)) (S := panesT t) (fun p s hp => rfl) t 0 hrt (fun p hp => hp)] at hm1
    have hok1 : (renT (rotF (panesT t)) t).ok := ren_okS (fun p hp => by
      unfold rotF
      rw [List.getD_eq_getElem?_getD]
      cases hg : (panesT t)[(rotL (panesT t)).idxOf p]? with
      | none => unfold i64ok; decide
      | some x =>
        have := right_bounds t 0 hrt x (List.mem_of_getElem? hg)
        show i64ok x
        unfold i64ok
        omega) t ht
    have hs1 := sameT_ok W _ hok1 (renT (rotF (panesT t)) t)
    rw [sameT_rfl] at hs1
    generalize renT (rotF (panesT t)) t = D1 at *
    obtain ⟨w1, p1, s1, ks1⟩ := D1
    by_cases h1 : a ∈ panesT t
    · rw [if_pos h1] at hgr
      rw [decide_eq_true h1] at hca
      have hm3 := fun ba bd => mapSplit_ok W (gro a d) 17 [.bref ba 0, .bref bd 0] [⟨ba, .row 1 [.int .i64 a] 0⟩, ⟨bd, .row 1 [.int .i64 d] 0⟩] (panesT t) (fun p s hp hs => turn3_ok W ba bd a d p s hs) t 0 hrt hl12 (fun p hp => hp)
      have hok3 := map_okS (gro_ok a d) t ht
      have hs3 := sameT_ok W _ hok3 (mapT (gro a d) t)
      rw [sameT_rfl] at hs3
      generalize mapT (gro a d) t = D3 at *
      obtain ⟨w3, p3, s3, ks3⟩ := D3
      by_cases h2 : b ∈ panesT t
      · rw [if_pos ⟨h1, h2⟩] at hsw
        rw [decide_eq_true h2] at hcb
        have hm2 := fun ba bb => mapSplit_ok W (fun k => .mk 0 (swapF a b k.pane) k.size []) 16 [.bref ba 0, .bref bb 0] [⟨ba, .row 1 [.int .i64 a] 0⟩, ⟨bb, .row 1 [.int .i64 b] 0⟩] (panesT t) (fun p s hp hs => turn2_ok W ba bb a b p s) t 0 hrt hl12 (fun p hp => hp)
        rw [ren_map (f := swapF a b) (S := panesT t) (fun p s hp => rfl) t 0 hrt (fun p hp => hp)] at hm2
        have hok2 : (renT (swapF a b) t).ok := ren_okS (fun p hp => by unfold swapF; split; exact ha; split; exact hb; exact hp) t ht
        have hs2 := sameT_ok W _ hok2 (renT (swapF a b) t)
        rw [sameT_rfl] at hs2
        generalize renT (swapF a b) t = D2 at *
        obtain ⟨w2, p2, s2, ks2⟩ := D2
        clear h1 h2
        generalize panesT t = l at *
        have hln := panesV_len l
        obtain ⟨w', p, s, ks⟩ := t
        simp only [encSpl_mk] at *
        refine Pure.of (acalls_of_vc (DL_ok (by decide)) Try.func3 rfl (by decide) (by decide) rfl ?_)
        (refine g0_ ?_; repeat ((first | refine n1_ fun b_ => ?_ | refine n2_ fun b_ => ?_ | refine Nat1.mk fun q_ hq_ => ?_ | refine em_ fun x_ hx_ => ?_ | refine Elem1.mk fun e_ he_ => ?_); refine g0_ ?_))
        refine (hown).use ?_; (refine g0_ ?_; repeat ((first | refine n1_ fun b_ => ?_ | refine n2_ fun b_ => ?_ | refine Nat1.mk fun q_ hq_ => ?_ | refine em_ fun x_ hx_ => ?_ | refine Elem1.mk fun e_ he_ => ?_); refine g0_ ?_))
        (refine g0_ ?_; repeat ((first | refine n1_ fun b_ => ?_ | refine n2_ fun b_ => ?_ | refine Nat1.mk fun q_ hq_ => ?_ | refine em_ fun x_ hx_ => ?_ | refine Elem1.mk fun e_ he_ => ?_); refine g0_ ?_))
        refine (hsw).use ?_; (refine g0_ ?_; repeat ((first | refine n1_ fun b_ => ?_ | refine n2_ fun b_ => ?_ | refine Nat1.mk fun q_ hq_ => ?_ | refine em_ fun x_ hx_ => ?_ | refine Elem1.mk fun e_ he_ => ?_); refine g0_ ?_))
        (refine g0_ ?_; repeat ((first | refine n1_ fun b_ => ?_ | refine n2_ fun b_ => ?_ | refine Nat1.mk fun q_ hq_ => ?_ | refine em_ fun x_ hx_ => ?_ | refine Elem1.mk fun e_ he_ => ?_); refine g0_ ?_))
        refine (hro).use ?_; (refine g0_ ?_; repeat ((first | refine n1_ fun b_ => ?_ | refine n2_ fun b_ => ?_ | refine Nat1.mk fun q_ hq_ => ?_ | refine em_ fun x_ hx_ => ?_ | refine Elem1.mk fun e_ he_ => ?_); refine g0_ ?_))
        (refine g0_ ?_; repeat ((first | refine n1_ fun b_ => ?_ | refine n2_ fun b_ => ?_ | refine Nat1.mk fun q_ hq_ => ?_ | refine em_ fun x_ hx_ => ?_ | refine Elem1.mk fun e_ he_ => ?_); refine g0_ ?_))
        refine (hgr).use ?_; (refine g0_ ?_; repeat ((first | refine n1_ fun b_ => ?_ | refine n2_ fun b_ => ?_ | refine Nat1.mk fun q_ hq_ => ?_ | refine em_ fun x_ hx_ => ?_ | refine Elem1.mk fun e_ he_ => ?_); refine g0_ ?_))
        (refine g0_ ?_; repeat ((first | refine n1_ fun b_ => ?_ | refine n2_ fun b_ => ?_ | refine Nat1.mk fun q_ hq_ => ?_ | refine em_ fun x_ hx_ => ?_ | refine Elem1.mk fun e_ he_ => ?_); refine g0_ ?_))
        refine (hck).use ?_; (refine g0_ ?_; repeat ((first | refine n1_ fun b_ => ?_ | refine n2_ fun b_ => ?_ | refine Nat1.mk fun q_ hq_ => ?_ | refine em_ fun x_ hx_ => ?_ | refine Elem1.mk fun e_ he_ => ?_); refine g0_ ?_))
        (refine g1_ ?_; repeat ((first | refine n1_ fun b_ => ?_ | refine n2_ fun b_ => ?_ | refine Nat1.mk fun q_ hq_ => ?_ | refine em_ fun x_ hx_ => ?_ | refine Elem1.mk fun e_ he_ => ?_); refine g1_ ?_))
        refine (hpt).use ?_; (refine g0_ ?_; repeat ((first | refine n1_ fun b_ => ?_ | refine n2_ fun b_ => ?_ | refine Nat1.mk fun q_ hq_ => ?_ | refine em_ fun x_ hx_ => ?_ | refine Elem1.mk fun e_ he_ => ?_); refine g0_ ?_))
        (refine g1_ ?_; repeat ((first | refine n1_ fun b_ => ?_ | refine n2_ fun b_ => ?_ | refine Nat1.mk fun q_ hq_ => ?_ | refine em_ fun x_ hx_ => ?_ | refine Elem1.mk fun e_ he_ => ?_); refine g1_ ?_))
        refine (hsm).use ?_; (refine g0_ ?_; repeat ((first | refine n1_ fun b_ => ?_ | refine n2_ fun b_ => ?_ | refine Nat1.mk fun q_ hq_ => ?_ | refine em_ fun x_ hx_ => ?_ | refine Elem1.mk fun e_ he_ => ?_); refine g0_ ?_))
        (refine g1_ ?_; repeat ((first | refine n1_ fun b_ => ?_ | refine n2_ fun b_ => ?_ | refine Nat1.mk fun q_ hq_ => ?_ | refine em_ fun x_ hx_ => ?_ | refine Elem1.mk fun e_ he_ => ?_); refine g1_ ?_))
        refine lendK1 W (hm1 _) (by repeat (first | exact .here _ _ _ | apply Look.there)) ?_
        (refine g1_ ?_; repeat ((first | refine n1_ fun b_ => ?_ | refine n2_ fun b_ => ?_ | refine Nat1.mk fun q_ hq_ => ?_ | refine em_ fun x_ hx_ => ?_ | refine Elem1.mk fun e_ he_ => ?_); refine g1_ ?_))
        refine (hs1).use ?_; (refine g0_ ?_; repeat ((first | refine n1_ fun b_ => ?_ | refine n2_ fun b_ => ?_ | refine Nat1.mk fun q_ hq_ => ?_ | refine em_ fun x_ hx_ => ?_ | refine Elem1.mk fun e_ he_ => ?_); refine g0_ ?_))
        (refine g1_ ?_; repeat ((first | refine n1_ fun b_ => ?_ | refine n2_ fun b_ => ?_ | refine Nat1.mk fun q_ hq_ => ?_ | refine em_ fun x_ hx_ => ?_ | refine Elem1.mk fun e_ he_ => ?_); refine g1_ ?_))
        refine headL_ (head_ ?_); (refine g0_ ?_; repeat ((first | refine n1_ fun b_ => ?_ | refine n2_ fun b_ => ?_ | refine Nat1.mk fun q_ hq_ => ?_ | refine em_ fun x_ hx_ => ?_ | refine Elem1.mk fun e_ he_ => ?_); refine g0_ ?_))
        refine ⟨_, (hca).quiet, ?_⟩; (refine g0_ ?_; repeat ((first | refine n1_ fun b_ => ?_ | refine n2_ fun b_ => ?_ | refine Nat1.mk fun q_ hq_ => ?_ | refine em_ fun x_ hx_ => ?_ | refine Elem1.mk fun e_ he_ => ?_); refine g0_ ?_))
        refine ⟨_, (hcb).quiet, ?_⟩; (refine g0_ ?_; repeat ((first | refine n1_ fun b_ => ?_ | refine n2_ fun b_ => ?_ | refine Nat1.mk fun q_ hq_ => ?_ | refine em_ fun x_ hx_ => ?_ | refine Elem1.mk fun e_ he_ => ?_); refine g0_ ?_))
        (refine g1_ ?_; repeat ((first | refine n1_ fun b_ => ?_ | refine n2_ fun b_ => ?_ | refine Nat1.mk fun q_ hq_ => ?_ | refine em_ fun x_ hx_ => ?_ | refine Elem1.mk fun e_ he_ => ?_); refine g1_ ?_))
        refine lendK2 W (hm2 _ _) (by repeat (first | exact .here _ _ _ | apply Look.there)) (by repeat (first | exact .here _ _ _ | apply Look.there)) ?_
        (refine g1_ ?_; repeat ((first | refine n1_ fun b_ => ?_ | refine n2_ fun b_ => ?_ | refine Nat1.mk fun q_ hq_ => ?_ | refine em_ fun x_ hx_ => ?_ | refine Elem1.mk fun e_ he_ => ?_); refine g1_ ?_))
        refine (hs2).use ?_; (refine g0_ ?_; repeat ((first | refine n1_ fun b_ => ?_ | refine n2_ fun b_ => ?_ | refine Nat1.mk fun q_ hq_ => ?_ | refine em_ fun x_ hx_ => ?_ | refine Elem1.mk fun e_ he_ => ?_); refine g0_ ?_))
        (refine g1_ ?_; repeat ((first | refine n1_ fun b_ => ?_ | refine n2_ fun b_ => ?_ | refine Nat1.mk fun q_ hq_ => ?_ | refine em_ fun x_ hx_ => ?_ | refine Elem1.mk fun e_ he_ => ?_); refine g1_ ?_))
        refine Draws10.chain ⟨7, [.new, .new, .new, .new, .new, .new, .turn], [(6, [.keep, .keep, .keep, .again, .keep, .keep, .keep])], by decide +kernel, ?_⟩; (refine g0_ ?_; repeat ((first | refine n1_ fun b_ => ?_ | refine n2_ fun b_ => ?_ | refine Nat1.mk fun q_ hq_ => ?_ | refine em_ fun x_ hx_ => ?_ | refine Elem1.mk fun e_ he_ => ?_); refine g0_ ?_))
        refine lendK2 W (hm3 _ _) (by repeat (first | exact .here _ _ _ | apply Look.there)) (by repeat (first | exact .here _ _ _ | apply Look.there)) ?_
        (refine g1_ ?_; repeat ((first | refine n1_ fun b_ => ?_ | refine n2_ fun b_ => ?_ | refine Nat1.mk fun q_ hq_ => ?_ | refine em_ fun x_ hx_ => ?_ | refine Elem1.mk fun e_ he_ => ?_); refine g1_ ?_))
        refine (hs3).use ?_; (refine g0_ ?_; repeat ((first | refine n1_ fun b_ => ?_ | refine n2_ fun b_ => ?_ | refine Nat1.mk fun q_ hq_ => ?_ | refine em_ fun x_ hx_ => ?_ | refine Elem1.mk fun e_ he_ => ?_); refine g0_ ?_))
        (refine g1_ ?_; repeat ((first | refine n1_ fun b_ => ?_ | refine n2_ fun b_ => ?_ | refine Nat1.mk fun q_ hq_ => ?_ | refine em_ fun x_ hx_ => ?_ | refine Elem1.mk fun e_ he_ => ?_); refine g1_ ?_))
        exact .refl _
      · rw [if_neg (fun h => h2 h.2), zeroV_eq] at hsw
        rw [decide_eq_false h2] at hcb
        clear h1 h2
        generalize panesT t = l at *
        have hln := panesV_len l
        obtain ⟨w', p, s, ks⟩ := t
        simp only [encSpl_mk] at *
        refine Pure.of (acalls_of_vc (DL_ok (by decide)) Try.func3 rfl (by decide) (by decide) rfl ?_)
        (refine g0_ ?_; repeat ((first | refine n1_ fun b_ => ?_ | refine n2_ fun b_ => ?_ | refine Nat1.mk fun q_ hq_ => ?_ | refine em_ fun x_ hx_ => ?_ | refine Elem1.mk fun e_ he_ => ?_); refine g0_ ?_))
        refine (hown).use ?_; (refine g0_ ?_; repeat ((first | refine n1_ fun b_ => ?_ | refine n2_ fun b_ => ?_ | refine Nat1.mk fun q_ hq_ => ?_ | refine em_ fun x_ hx_ => ?_ | refine Elem1.mk fun e_ he_ => ?_); refine g0_ ?_))
        (refine g0_ ?_; repeat ((first | refine n1_ fun b_ => ?_ | refine n2_ fun b_ => ?_ | refine Nat1.mk fun q_ hq_ => ?_ | refine em_ fun x_ hx_ => ?_ | refine Elem1.mk fun e_ he_ => ?_); refine g0_ ?_))
        refine (hsw).use ?_; (refine g0_ ?_; repeat ((first | refine n1_ fun b_ => ?_ | refine n2_ fun b_ => ?_ | refine Nat1.mk fun q_ hq_ => ?_ | refine em_ fun x_ hx_ => ?_ | refine Elem1.mk fun e_ he_ => ?_); refine g0_ ?_))
        (refine g0_ ?_; repeat ((first | refine n1_ fun b_ => ?_ | refine n2_ fun b_ => ?_ | refine Nat1.mk fun q_ hq_ => ?_ | refine em_ fun x_ hx_ => ?_ | refine Elem1.mk fun e_ he_ => ?_); refine g0_ ?_))
        refine (hro).use ?_; (refine g0_ ?_; repeat ((first | refine n1_ fun b_ => ?_ | refine n2_ fun b_ => ?_ | refine Nat1.mk fun q_ hq_ => ?_ | refine em_ fun x_ hx_ => ?_ | refine Elem1.mk fun e_ he_ => ?_); refine g0_ ?_))
        (refine g0_ ?_; repeat ((first | refine n1_ fun b_ => ?_ | refine n2_ fun b_ => ?_ | refine Nat1.mk fun q_ hq_ => ?_ | refine em_ fun x_ hx_ => ?_ | refine Elem1.mk fun e_ he_ => ?_); refine g0_ ?_))
        refine (hgr).use ?_; (refine g0_ ?_; repeat ((first | refine n1_ fun b_ => ?_ | refine n2_ fun b_ => ?_ | refine Nat1.mk fun q_ hq_ => ?_ | refine em_ fun x_ hx_ => ?_ | refine Elem1.mk fun e_ he_ => ?_); refine g0_ ?_))
        (refine g0_ ?_; repeat ((first | refine n1_ fun b_ => ?_ | refine n2_ fun b_ => ?_ | refine Nat1.mk fun q_ hq_ => ?_ | refine em_ fun x_ hx_ => ?_ | refine Elem1.mk fun e_ he_ => ?_); refine g0_ ?_))
        refine (hck).use ?_; (refine g0_ ?_; repeat ((first | refine n1_ fun b_ => ?_ | refine n2_ fun b_ => ?_ | refine Nat1.mk fun q_ hq_ => ?_ | refine em_ fun x_ hx_ => ?_ | refine Elem1.mk fun e_ he_ => ?_); refine g0_ ?_))
        (refine g1_ ?_; repeat ((first | refine n1_ fun b_ => ?_ | refine n2_ fun b_ => ?_ | refine Nat1.mk fun q_ hq_ => ?_ | refine em_ fun x_ hx_ => ?_ | refine Elem1.mk fun e_ he_ => ?_); refine g1_ ?_))
        refine (hpt).use ?_; (refine g0_ ?_; repeat ((first | refine n1_ fun b_ => ?_ | refine n2_ fun b_ => ?_ | refine Nat1.mk fun q_ hq_ => ?_ | refine em_ fun x_ hx_ => ?_ | refine Elem1.mk fun e_ he_ => ?_); refine g0_ ?_))
        (refine g1_ ?_; repeat ((first | refine n1_ fun b_ => ?_ | refine n2_ fun b_ => ?_ | refine Nat1.mk fun q_ hq_ => ?_ | refine em_ fun x_ hx_ => ?_ | refine Elem1.mk fun e_ he_ => ?_); refine g1_ ?_))
        refine (hsm).use ?_; (refine g0_ ?_; repeat ((first | refine n1_ fun b_ => ?_ | refine n2_ fun b_ => ?_ | refine Nat1.mk fun q_ hq_ => ?_ | refine em_ fun x_ hx_ => ?_ | refine Elem1.mk fun e_ he_ => ?_); refine g0_ ?_))
        (refine g1_ ?_; repeat ((first | refine n1_ fun b_ => ?_ | refine n2_ fun b_ => ?_ | refine Nat1.mk fun q_ hq_ => ?_ | refine em_ fun x_ hx_ => ?_ | refine Elem1.mk fun e_ he_ => ?_); refine g1_ ?_))
        refine lendK1 W (hm1 _) (by repeat (first | exact .here _ _ _ | apply Look.there)) ?_
        (refine g1_ ?_; repeat ((first | refine n1_ fun b_ => ?_ | refine n2_ fun b_ => ?_ | refine Nat1.mk fun q_ hq_ => ?_ | refine em_ fun x_ hx_ => ?_ | refine Elem1.mk fun e_ he_ => ?_); refine g1_ ?_))
        refine (hs1).use ?_; (refine g0_ ?_; repeat ((first | refine n1_ fun b_ => ?_ | refine n2_ fun b_ => ?_ | refine Nat1.mk fun q_ hq_ => ?_ | refine em_ fun x_ hx_ => ?_ | refine Elem1.mk fun e_ he_ => ?_); refine g0_ ?_))
        (refine g1_ ?_; repeat ((first | refine n1_ fun b_ => ?_ | refine n2_ fun b_ => ?_ | refine Nat1.mk fun q_ hq_ => ?_ | refine em_ fun x_ hx_ => ?_ | refine Elem1.mk fun e_ he_ => ?_); refine g1_ ?_))
        refine headL_ (head_ ?_); (refine g0_ ?_; repeat ((first | refine n1_ fun b_ => ?_ | refine n2_ fun b_ => ?_ | refine Nat1.mk fun q_ hq_ => ?_ | refine em_ fun x_ hx_ => ?_ | refine Elem1.mk fun e_ he_ => ?_); refine g0_ ?_))
        refine ⟨_, (hca).quiet, ?_⟩; (refine g0_ ?_; repeat ((first | refine n1_ fun b_ => ?_ | refine n2_ fun b_ => ?_ | refine Nat1.mk fun q_ hq_ => ?_ | refine em_ fun x_ hx_ => ?_ | refine Elem1.mk fun e_ he_ => ?_); refine g0_ ?_))
        refine ⟨_, (hcb).quiet, ?_⟩; (refine g0_ ?_; repeat ((first | refine n1_ fun b_ => ?_ | refine n2_ fun b_ => ?_ | refine Nat1.mk fun q_ hq_ => ?_ | refine em_ fun x_ hx_ => ?_ | refine Elem1.mk fun e_ he_ => ?_); refine g0_ ?_))
        (refine g1_ ?_; repeat ((first | refine n1_ fun b_ => ?_ | refine n2_ fun b_ => ?_ | refine Nat1.mk fun q_ hq_ => ?_ | refine em_ fun x_ hx_ => ?_ | refine Elem1.mk fun e_ he_ => ?_); refine g1_ ?_))
        refine (hno).use ?_; (refine g0_ ?_; repeat ((first | refine n1_ fun b_ => ?_ | refine n2_ fun b_ => ?_ | refine Nat1.mk fun q_ hq_ => ?_ | refine em_ fun x_ hx_ => ?_ | refine Elem1.mk fun e_ he_ => ?_); refine g0_ ?_))
        (refine g1_ ?_; repeat ((first | refine n1_ fun b_ => ?_ | refine n2_ fun b_ => ?_ | refine Nat1.mk fun q_ hq_ => ?_ | refine em_ fun x_ hx_ => ?_ | refine Elem1.mk fun e_ he_ => ?_); refine g1_ ?_))
        refine Draws10.chain ⟨7, [.new, .new, .new, .new, .new, .new, .turn], [(6, [.keep, .keep, .keep, .again, .keep, .keep, .keep])], by decide +kernel, ?_⟩; (refine g0_ ?_; repeat ((first | refine n1_ fun b_ => ?_ | refine n2_ fun b_ => ?_ | refine Nat1.mk fun q_ hq_ => ?_ | refine em_ fun x_ hx_ => ?_ | refine Elem1.mk fun e_ he_ => ?_); refine g0_ ?_))
        refine lendK2 W (hm3 _ _) (by repeat (first | exact .here _ _ _ | apply Look.there)) (by repeat (first | exact .here _ _ _ | apply Look.there)) ?_
        (refine g1_ ?_; repeat ((first | refine n1_ fun b_ => ?_ | refine n2_ fun b_ => ?_ | refine Nat1.mk fun q_ hq_ => ?_ | refine em_ fun x_ hx_ => ?_ | refine Elem1.mk fun e_ he_ => ?_); refine g1_ ?_))
        refine (hs3).use ?_; (refine g0_ ?_; repeat ((first | refine n1_ fun b_ => ?_ | refine n2_ fun b_ => ?_ | refine Nat1.mk fun q_ hq_ => ?_ | refine em_ fun x_ hx_ => ?_ | refine Elem1.mk fun e_ he_ => ?_); refine g0_ ?_))
        (refine g1_ ?_; repeat ((first | refine n1_ fun b_ => ?_ | refine n2_ fun b_ => ?_ | refine Nat1.mk fun q_ hq_ => ?_ | refine em_ fun x_ hx_ => ?_ | refine Elem1.mk fun e_ he_ => ?_); refine g1_ ?_))
        exact .refl _
    · rw [if_neg h1, zeroV_eq] at hgr
      rw [if_neg (fun h => h1 h.1), zeroV_eq] at hsw
      rw [decide_eq_false h1] at hca
      cases hdb : decide (b ∈ panesT t)
      all_goals
        rw [hdb] at hcb
        clear hdb h1
        generalize panesT t = l at *
        have hln := panesV_len l
        obtain ⟨w', p, s, ks⟩ := t
        simp only [encSpl_mk] at *
        refine Pure.of (acalls_of_vc (DL_ok (by decide)) Try.func3 rfl (by decide) (by decide) rfl ?_)
        (refine g0_ ?_; repeat ((first | refine n1_ fun b_ => ?_ | refine n2_ fun b_ => ?_ | refine Nat1.mk fun q_ hq_ => ?_ | refine em_ fun x_ hx_ => ?_ | refine Elem1.mk fun e_ he_ => ?_); refine g0_ ?_))
        refine (hown).use ?_; (refine g0_ ?_; repeat ((first | refine n1_ fun b_ => ?_ | refine n2_ fun b_ => ?_ | refine Nat1.mk fun q_ hq_ => ?_ | refine em_ fun x_ hx_ => ?_ | refine Elem1.mk fun e_ he_ => ?_); refine g0_ ?_))
        (refine g0_ ?_; repeat ((first | refine n1_ fun b_ => ?_ | refine n2_ fun b_ => ?_ | refine Nat1.mk fun q_ hq_ => ?_ | refine em_ fun x_ hx_ => ?_ | refine Elem1.mk fun e_ he_ => ?_); refine g0_ ?_))
        refine (hsw).use ?_; (refine g0_ ?_; repeat ((first | refine n1_ fun b_ => ?_ | refine n2_ fun b_ => ?_ | refine Nat1.mk fun q_ hq_ => ?_ | refine em_ fun x_ hx_ => ?_ | refine Elem1.mk fun e_ he_ => ?_); refine g0_ ?_))
        (refine g0_ ?_; repeat ((first | refine n1_ fun b_ => ?_ | refine n2_ fun b_ => ?_ | refine Nat1.mk fun q_ hq_ => ?_ | refine em_ fun x_ hx_ => ?_ | refine Elem1.mk fun e_ he_ => ?_); refine g0_ ?_))
        refine (hro).use ?_; (refine g0_ ?_; repeat ((first | refine n1_ fun b_ => ?_ | refine n2_ fun b_ => ?_ | refine Nat1.mk fun q_ hq_ => ?_ | refine em_ fun x_ hx_ => ?_ | refine Elem1.mk fun e_ he_ => ?_); refine g0_ ?_))
        (refine g0_ ?_; repeat ((first | refine n1_ fun b_ => ?_ | refine n2_ fun b_ => ?_ | refine Nat1.mk fun q_ hq_ => ?_ | refine em_ fun x_ hx_ => ?_ | refine Elem1.mk fun e_ he_ => ?_); refine g0_ ?_))
        refine (hgr).use ?_; (refine g0_ ?_; repeat ((first | refine n1_ fun b_ => ?_ | refine n2_ fun b_ => ?_ | refine Nat1.mk fun q_ hq_ => ?_ | refine em_ fun x_ hx_ => ?_ | refine Elem1.mk fun e_ he_ => ?_); refine g0_ ?_))
        (refine g0_ ?_; repeat ((first | refine n1_ fun b_ => ?_ | refine n2_ fun b_ => ?_ | refine Nat1.mk fun q_ hq_ => ?_ | refine em_ fun x_ hx_ => ?_ | refine Elem1.mk fun e_ he_ => ?_); refine g0_ ?_))
        refine (hck).use ?_; (refine g0_ ?_; repeat ((first | refine n1_ fun b_ => ?_ | refine n2_ fun b_ => ?_ | refine Nat1.mk fun q_ hq_ => ?_ | refine em_ fun x_ hx_ => ?_ | refine Elem1.mk fun e_ he_ => ?_); refine g0_ ?_))
        (refine g1_ ?_; repeat ((first | refine n1_ fun b_ => ?_ | refine n2_ fun b_ => ?_ | refine Nat1.mk fun q_ hq_ => ?_ | refine em_ fun x_ hx_ => ?_ | refine Elem1.mk fun e_ he_ => ?_); refine g1_ ?_))
        refine (hpt).use ?_; (refine g0_ ?_; repeat ((first | refine n1_ fun b_ => ?_ | refine n2_ fun b_ => ?_ | refine Nat1.mk fun q_ hq_ => ?_ | refine em_ fun x_ hx_ => ?_ | refine Elem1.mk fun e_ he_ => ?_); refine g0_ ?_))
        (refine g1_ ?_; repeat ((first | refine n1_ fun b_ => ?_ | refine n2_ fun b_ => ?_ | refine Nat1.mk fun q_ hq_ => ?_ | refine em_ fun x_ hx_ => ?_ | refine Elem1.mk fun e_ he_ => ?_); refine g1_ ?_))
        refine (hsm).use ?_; (refine g0_ ?_; repeat ((first | refine n1_ fun b_ => ?_ | refine n2_ fun b_ => ?_ | refine Nat1.mk fun q_ hq_ => ?_ | refine em_ fun x_ hx_ => ?_ | refine Elem1.mk fun e_ he_ => ?_); refine g0_ ?_))
        (refine g1_ ?_; repeat ((first | refine n1_ fun b_ => ?_ | refine n2_ fun b_ => ?_ | refine Nat1.mk fun q_ hq_ => ?_ | refine em_ fun x_ hx_ => ?_ | refine Elem1.mk fun e_ he_ => ?_); refine g1_ ?_))
        refine lendK1 W (hm1 _) (by repeat (first | exact .here _ _ _ | apply Look.there)) ?_
        (refine g1_ ?_; repeat ((first | refine n1_ fun b_ => ?_ | refine n2_ fun b_ => ?_ | refine Nat1.mk fun q_ hq_ => ?_ | refine em_ fun x_ hx_ => ?_ | refine Elem1.mk fun e_ he_ => ?_); refine g1_ ?_))
        refine (hs1).use ?_; (refine g0_ ?_; repeat ((first | refine n1_ fun b_ => ?_ | refine n2_ fun b_ => ?_ | refine Nat1.mk fun q_ hq_ => ?_ | refine em_ fun x_ hx_ => ?_ | refine Elem1.mk fun e_ he_ => ?_); refine g0_ ?_))
        (refine g1_ ?_; repeat ((first | refine n1_ fun b_ => ?_ | refine n2_ fun b_ => ?_ | refine Nat1.mk fun q_ hq_ => ?_ | refine em_ fun x_ hx_ => ?_ | refine Elem1.mk fun e_ he_ => ?_); refine g1_ ?_))
        refine headL_ (head_ ?_); (refine g0_ ?_; repeat ((first | refine n1_ fun b_ => ?_ | refine n2_ fun b_ => ?_ | refine Nat1.mk fun q_ hq_ => ?_ | refine em_ fun x_ hx_ => ?_ | refine Elem1.mk fun e_ he_ => ?_); refine g0_ ?_))
        refine ⟨_, (hca).quiet, ?_⟩; (refine g0_ ?_; repeat ((first | refine n1_ fun b_ => ?_ | refine n2_ fun b_ => ?_ | refine Nat1.mk fun q_ hq_ => ?_ | refine em_ fun x_ hx_ => ?_ | refine Elem1.mk fun e_ he_ => ?_); refine g0_ ?_))
        refine ⟨_, (hcb).quiet, ?_⟩; (refine g0_ ?_; repeat ((first | refine n1_ fun b_ => ?_ | refine n2_ fun b_ => ?_ | refine Nat1.mk fun q_ hq_ => ?_ | refine em_ fun x_ hx_ => ?_ | refine Elem1.mk fun e_ he_ => ?_); refine g0_ ?_))
        (refine g1_ ?_; repeat ((first | refine n1_ fun b_ => ?_ | refine n2_ fun b_ => ?_ | refine Nat1.mk fun q_ hq_ => ?_ | refine em_ fun x_ hx_ => ?_ | refine Elem1.mk fun e_ he_ => ?_); refine g1_ ?_))
        refine (hno).use ?_; (refine g0_ ?_; repeat ((first | refine n1_ fun b_ => ?_ | refine n2_ fun b_ => ?_ | refine Nat1.mk fun q_ hq_ => ?_ | refine em_ fun x_ hx_ => ?_ | refine Elem1.mk fun e_ he_ => ?_); refine g0_ ?_))
        (refine g1_ ?_; repeat ((first | refine n1_ fun b_ => ?_ | refine n2_ fun b_ => ?_ | refine Nat1.mk fun q_ hq_ => ?_ | refine em_ fun x_ hx_ => ?_ | refine Elem1.mk fun e_ he_ => ?_); refine g1_ ?_))
        refine (hno).use ?_; (refine g0_ ?_; repeat ((first | refine n1_ fun b_ => ?_ | refine n2_ fun b_ => ?_ | refine Nat1.mk fun q_ hq_ => ?_ | refine em_ fun x_ hx_ => ?_ | refine Elem1.mk fun e_ he_ => ?_); refine g0_ ?_))
        (refine g1_ ?_; repeat ((first | refine n1_ fun b_ => ?_ | refine n2_ fun b_ => ?_ | refine Nat1.mk fun q_ hq_ => ?_ | refine em_ fun x_ hx_ => ?_ | refine Elem1.mk fun e_ he_ => ?_); refine g1_ ?_))
        exact .refl _
  · rw [if_pos h0, zeroV_eq] at hsw hro hgr
    clear hcp
    obtain ⟨w', p, s, ks⟩ := t
    simp only [encSpl_mk] at *
    refine Pure.of (acalls_of_vc (DL_ok (by decide)) Try.func3 rfl (by decide) (by decide) rfl ?_)
    (refine g0_ ?_; repeat ((first | refine n1_ fun b_ => ?_ | refine n2_ fun b_ => ?_ | refine Nat1.mk fun q_ hq_ => ?_ | refine em_ fun x_ hx_ => ?_ | refine Elem1.mk fun e_ he_ => ?_); refine g0_ ?_))
    refine (hown).use ?_; (refine g0_ ?_; repeat ((first | refine n1_ fun b_ => ?_ | refine n2_ fun b_ => ?_ | refine Nat1.mk fun q_ hq_ => ?_ | refine em_ fun x_ hx_ => ?_ | refine Elem1.mk fun e_ he_ => ?_); refine g0_ ?_))
    (refine g0_ ?_; repeat ((first | refine n1_ fun b_ => ?_ | refine n2_ fun b_ => ?_ | refine Nat1.mk fun q_ hq_ => ?_ | refine em_ fun x_ hx_ => ?_ | refine Elem1.mk fun e_ he_ => ?_); refine g0_ ?_))
    refine (hsw).use ?_; (refine g0_ ?_; repeat ((first | refine n1_ fun b_ => ?_ | refine n2_ fun b_ => ?_ | refine Nat1.mk fun q_ hq_ => ?_ | refine em_ fun x_ hx_ => ?_ | refine Elem1.mk fun e_ he_ => ?_); refine g0_ ?_))
    (refine g0_ ?_; repeat ((first | refine n1_ fun b_ => ?_ | refine n2_ fun b_ => ?_ | refine Nat1.mk fun q_ hq_ => ?_ | refine em_ fun x_ hx_ => ?_ | refine Elem1.mk fun e_ he_ => ?_); refine g0_ ?_))
    refine (hro).use ?_; (refine g0_ ?_; repeat ((first | refine n1_ fun b_ => ?_ | refine n2_ fun b_ => ?_ | refine Nat1.mk fun q_ hq_ => ?_ | refine em_ fun x_ hx_ => ?_ | refine Elem1.mk fun e_ he_ => ?_); refine g0_ ?_))
    (refine g0_ ?_; repeat ((first | refine n1_ fun b_ => ?_ | refine n2_ fun b_ => ?_ | refine Nat1.mk fun q_ hq_ => ?_ | refine em_ fun x_ hx_ => ?_ | refine Elem1.mk fun e_ he_ => ?_); refine g0_ ?_))
    refine (hgr).use ?_; (refine g0_ ?_; repeat ((first | refine n1_ fun b_ => ?_ | refine n2_ fun b_ => ?_ | refine Nat1.mk fun q_ hq_ => ?_ | refine em_ fun x_ hx_ => ?_ | refine Elem1.mk fun e_ he_ => ?_); refine g0_ ?_))
    (refine g0_ ?_; repeat ((first | refine n1_ fun b_ => ?_ | refine n2_ fun b_ => ?_ | refine Nat1.mk fun q_ hq_ => ?_ | refine em_ fun x_ hx_ => ?_ | refine Elem1.mk fun e_ he_ => ?_); refine g0_ ?_))
    refine (hck).use ?_; (refine g0_ ?_; repeat ((first | refine n1_ fun b_ => ?_ | refine n2_ fun b_ => ?_ | refine Nat1.mk fun q_ hq_ => ?_ | refine em_ fun x_ hx_ => ?_ | refine Elem1.mk fun e_ he_ => ?_); refine g0_ ?_))
    (refine g1_ ?_; repeat ((first | refine n1_ fun b_ => ?_ | refine n2_ fun b_ => ?_ | refine Nat1.mk fun q_ hq_ => ?_ | refine em_ fun x_ hx_ => ?_ | refine Elem1.mk fun e_ he_ => ?_); refine g1_ ?_))
    refine (hpt).use ?_; (refine g0_ ?_; repeat ((first | refine n1_ fun b_ => ?_ | refine n2_ fun b_ => ?_ | refine Nat1.mk fun q_ hq_ => ?_ | refine em_ fun x_ hx_ => ?_ | refine Elem1.mk fun e_ he_ => ?_); refine g0_ ?_))
    (refine g1_ ?_; repeat ((first | refine n1_ fun b_ => ?_ | refine n2_ fun b_ => ?_ | refine Nat1.mk fun q_ hq_ => ?_ | refine em_ fun x_ hx_ => ?_ | refine Elem1.mk fun e_ he_ => ?_); refine g1_ ?_))
    refine (hsm).use ?_; (refine g0_ ?_; repeat ((first | refine n1_ fun b_ => ?_ | refine n2_ fun b_ => ?_ | refine Nat1.mk fun q_ hq_ => ?_ | refine em_ fun x_ hx_ => ?_ | refine Elem1.mk fun e_ he_ => ?_); refine g0_ ?_))
    (refine g1_ ?_; repeat ((first | refine n1_ fun b_ => ?_ | refine n2_ fun b_ => ?_ | refine Nat1.mk fun q_ hq_ => ?_ | refine em_ fun x_ hx_ => ?_ | refine Elem1.mk fun e_ he_ => ?_); refine g1_ ?_))
    refine (hpt).use ?_; (refine g0_ ?_; repeat ((first | refine n1_ fun b_ => ?_ | refine n2_ fun b_ => ?_ | refine Nat1.mk fun q_ hq_ => ?_ | refine em_ fun x_ hx_ => ?_ | refine Elem1.mk fun e_ he_ => ?_); refine g0_ ?_))
    (refine g1_ ?_; repeat ((first | refine n1_ fun b_ => ?_ | refine n2_ fun b_ => ?_ | refine Nat1.mk fun q_ hq_ => ?_ | refine em_ fun x_ hx_ => ?_ | refine Elem1.mk fun e_ he_ => ?_); refine g1_ ?_))
    refine (hsm).use ?_; (refine g0_ ?_; repeat ((first | refine n1_ fun b_ => ?_ | refine n2_ fun b_ => ?_ | refine Nat1.mk fun q_ hq_ => ?_ | refine em_ fun x_ hx_ => ?_ | refine Elem1.mk fun e_ he_ => ?_); refine g0_ ?_))
    (refine g1_ ?_; repeat ((first | refine n1_ fun b_ => ?_ | refine n2_ fun b_ => ?_ | refine Nat1.mk fun q_ hq_ => ?_ | refine em_ fun x_ hx_ => ?_ | refine Elem1.mk fun e_ he_ => ?_); refine g1_ ?_))
    refine (hno).use ?_; (refine g0_ ?_; repeat ((first | refine n1_ fun b_ => ?_ | refine n2_ fun b_ => ?_ | refine Nat1.mk fun q_ hq_ => ?_ | refine em_ fun x_ hx_ => ?_ | refine Elem1.mk fun e_ he_ => ?_); refine g0_ ?_))
    (refine g1_ ?_; repeat ((first | refine n1_ fun b_ => ?_ | refine n2_ fun b_ => ?_ | refine Nat1.mk fun q_ hq_ => ?_ | refine em_ fun x_ hx_ => ?_ | refine Elem1.mk fun e_ he_ => ?_); refine g1_ ?_))
    refine (hno).use ?_; (refine g0_ ?_; repeat ((first | refine n1_ fun b_ => ?_ | refine n2_ fun b_ => ?_ | refine Nat1.mk fun q_ hq_ => ?_ | refine em_ fun x_ hx_ => ?_ | refine Elem1.mk fun e_ he_ => ?_); refine g0_ ?_))
    (refine g1_ ?_; repeat ((first | refine n1_ fun b_ => ?_ | refine n2_ fun b_ => ?_ | refine Nat1.mk fun q_ hq_ => ?_ | refine em_ fun x_ hx_ => ?_ | refine Elem1.mk fun e_ he_ => ?_); refine g1_ ?_))
    refine (hno).use ?_; (refine g0_ ?_; repeat ((first | refine n1_ fun b_ => ?_ | refine n2_ fun b_ => ?_ | refine Nat1.mk fun q_ hq_ => ?_ | refine em_ fun x_ hx_ => ?_ | refine Elem1.mk fun e_ he_ => ?_); refine g0_ ?_))
    exact .refl _
end Go.Eng.Ytimpfhokacfobaa
end
