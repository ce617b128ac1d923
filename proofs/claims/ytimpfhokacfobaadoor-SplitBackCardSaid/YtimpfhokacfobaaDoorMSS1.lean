/- Texts put together: Spl34, Spl35. -/
import Derived.Test.YtimpfhokacfobaaDoorMSH
import Derived.Test.YtimpfhokacfobaaDoorME9
import Derived.Test.YtimpfhokacfobaaDoorME3
import Derived.Test.YtimpfhokacfobaaDoorMSE
import Derived.Test.YtimpfhokacfobaaDoorME11
/- Splits: trees of the call's own: split.Copy, split.rename (b_ x_ q_ e_). -/
section
namespace Go.Eng
open Go
variable {P : Program} {W : World}
/-- A call that is lent some blocks: what stands there behind it. -/
theorem ACalls.lendX {f : FuncId} {args : List PV} {σ τ ρ : Mem} {k0 k : PV → Mem → Prop} (h : ACalls P W f args τ k0) (hp : σ.Perm (τ ++ ρ)) (hk : ∀ v σ1, k0 v σ1 → ∃ σ2, wkMem (σ1 ++ ρ) σ2 ∧ k v σ2) : ACalls P W f args σ k := by
  refine ACalls.weak (((h.frame ρ).perm hp).mono ?_)
  rintro v σ' ⟨σ1, h1, rfl⟩
  obtain ⟨σ2, h2, h3⟩ := hk v σ1 h1
  exact ⟨σ2, h3, h2⟩
end Go.Eng
namespace Go.Eng.YtimpfhokacfobaaDoor
open Go Go.Eng Go.Proofs
variable (W : World)
set_option linter.unusedSimpArgs false
set_option maxRecDepth 100000
set_option linter.unusedVariables false
set_option maxHeartbeats 4000000
/-- A tree of the call's own: each row of kids with its block. -/
inductive Own where
  | mk (way pane size : Int) (b : Nat) (kids : List Own)
mutual
def ownV : Own → PV
  | .mk w p s b ks => .agg [.int .i64 w, .int .i64 p, .int .i64 s, accV b 4 (ownVs ks)]
def ownVs : List Own → List PV
  | [] => []
  | t :: ts => ownV t :: ownVs ts
end
mutual
def ownM : Own → Mem
  | .mk _ _ _ b ks => accM b 4 (ownVs ks) ++ ownMs ks
def ownMs : List Own → Mem
  | [] => []
  | t :: ts => ownM t ++ ownMs ts
end
mutual
def ownT : Own → Spl
  | .mk w p s _ ks => .mk w p s (ownTs ks)
def ownTs : List Own → List Spl
  | [] => []
  | t :: ts => ownT t :: ownTs ts
end
theorem ownVs_eq : ∀ ks : List Own, ownVs ks = ks.map ownV
  | [] => rfl
  | t :: ts => by rw [ownVs, ownVs_eq ts]; rfl
theorem ownMs_eq : ∀ ks : List Own, ownMs ks = ks.flatMap ownM
  | [] => rfl
  | t :: ts => by rw [ownMs, ownMs_eq ts]; rfl
theorem ownTs_eq : ∀ ks : List Own, ownTs ks = ks.map ownT
  | [] => rfl
  | t :: ts => by rw [ownTs, ownTs_eq ts]; rfl
theorem ownV_mk (w p s : Int) (b : Nat) (ks : List Own) : ownV (.mk w p s b ks) = .agg [.int .i64 w, .int .i64 p, .int .i64 s, accV b 4 (ks.map ownV)] := by rw [ownV, ownVs_eq]
theorem ownM_mk (w p s : Int) (b : Nat) (ks : List Own) : ownM (.mk w p s b ks) = accM b 4 (ks.map ownV) ++ ks.flatMap ownM := by rw [ownM, ownVs_eq, ownMs_eq]
theorem ownT_mk (w p s : Int) (b : Nat) (ks : List Own) : ownT (.mk w p s b ks) = .mk w p s (ks.map ownT) := by rw [ownT, ownTs_eq]
theorem owns_snoc (l : List Own) (x : Own) : l.flatMap ownM ++ ownM x = (l ++ [x]).flatMap ownM := by
  rw [List.flatMap_append, List.flatMap_cons, List.flatMap_nil, List.append_nil]
theorem wk_cp (T R G Z : Blk) (F N : Mem) : wkMem (T :: R :: G :: Z :: (F ++ N)) (Z :: T :: R :: (F ++ N)) := by
  refine ⟨[G], ?_⟩
  have h1 : ([T, R, G] ++ [Z] ++ (F ++ N)).Perm ([Z] ++ [T, R, G] ++ (F ++ N)) := List.perm_append_comm.append_right _
  refine h1.trans ?_
  refine List.Perm.cons Z (List.Perm.cons T (List.Perm.cons R ?_))
  exact List.perm_append_comm (l₁ := [G]) (l₂ := F ++ N)
theorem copyOwn_ok (t : Spl) : t.ok → ACalls Tryd.prog W 29 [encSpl t] [] (Gives ownV ownM (fun x => ownT x = t)) := by
  induction t using spl_induct with
  | h w p s ks ih =>
    intro ht
    obtain ⟨o1, o2, o3, o4, hks⟩ := spl_ok.1 ht
    have hkl : (ks.map encSpl).length = ks.length := List.length_map _
    rw [encSpl_mk]
    refine acalls_of_vc (DL_ok (by decide)) Tryd.func29 rfl (by decide) (by decide) rfl ?_
    (refine g0_ ?_; repeat ((first | refine n1_ fun b_ => ?_ | refine n2_ fun b_ => ?_ | refine Nat1.mk fun q_ hq_ => ?_ | refine em_ fun x_ hx_ => ?_ | refine Elem1.mk fun e_ he_ => ?_); refine g0_ ?_))
    rename_i bT
    revert b_
    intro bR
    refine' loopI (α := Nat × Nat × (List Own)) (fun (i, b', l) => [(11, .int .i64 i)]) [(1, _), (2, _), (9, _), (10, _)] (fun (i, b', l) => ⟨bR, .row 4 [.agg [.int .i64 0, .int .i64 0, .int .i64 0, .nils]] 0⟩ :: ⟨bT, .row 4 [.agg [.int .i64 w, .int .i64 p, .int .i64 s, accV b' 4 (l.map ownV)]] 0⟩ :: (accM b' 4 (l.map ownV) ++ l.flatMap ownM)) (fun (i, b', l) => i ≤ ks.length ∧ l.map ownT = ks.take i) (fun (i, b', l) => ks.length - i) (0, 0, []) ?_ ?_
    · exact ⟨Nat.zero_le _, rfl⟩
    rintro ⟨i, b', l⟩ ⟨hi, hl⟩
    rcases l with _ | ⟨l0, l⟩
    · (refine g0_ ?_; repeat ((first | refine n1_ fun b_ => ?_ | refine n2_ fun b_ => ?_ | refine Nat1.mk fun q_ hq_ => ?_ | refine em_ fun x_ hx_ => ?_ | refine Elem1.mk fun e_ he_ => ?_); refine g0_ ?_))
      refine brec ?_; intro c_ hlt; (try rw [hlt]); cases c_ <;> replace hlt := nm_ hlt
      · have : i = ks.length := by omega
        subst this
        rw [List.take_length] at hl
        (refine g0_ ?_; repeat ((first | refine n1_ fun b_ => ?_ | refine n2_ fun b_ => ?_ | refine Nat1.mk fun q_ hq_ => ?_ | refine em_ fun x_ hx_ => ?_ | refine Elem1.mk fun e_ he_ => ?_); refine g0_ ?_))
        exact ⟨.mk w p s b' (([] : List Own)), by show ownT _ = _; rw [ownT_mk, hl], by first | (rw [ownV_mk]; done) | (rw [ownV_mk]; rfl), by rw [ownM_mk]; exact wkMem.skip (wkMem.skip wkMem.rfl')⟩
      · have hil : i < ks.length := by omega
        have hee := congrArg List.length hl
        simp only [List.length_map, List.length_cons, List.length_nil, List.length_take] at hee
        (refine g0_ ?_; repeat ((first | refine n1_ fun b_ => ?_ | refine n2_ fun b_ => ?_ | refine Nat1.mk fun q_ hq_ => ?_ | refine em_ fun x_ hx_ => ?_ | refine Elem1.mk fun e_ he_ => ?_); refine g0_ ?_))
        have hcl := ih x_ (List.mem_of_getElem? hx_) (hks _ (List.mem_of_getElem? hx_))
        have hnx : ks.take (i + 1) = (([] : List Own)).map ownT ++ [x_] := by rw [take_snoc_of hx_, ← hl]
        obtain ⟨w2, p2, s2, ks2⟩ := x_
        have e2 := encSpl_mk w2 p2 s2 ks2
        rw [e2] at hcl ⊢
        (refine g0_ ?_; repeat ((first | refine n1_ fun b_ => ?_ | refine n2_ fun b_ => ?_ | refine Nat1.mk fun q_ hq_ => ?_ | refine em_ fun x_ hx_ => ?_ | refine Elem1.mk fun e_ he_ => ?_); refine g0_ ?_))
        refine Draws10.chain ⟨8, [.new, .new, .new, .turn, .skip, .skip, .skip, .skip], [(3, [.again, .again, .keep, .keep, .new, .turn, .skip, .skip]), (5, [.keep, .keep, .keep, .keep, .keep, .keep, .new, .turn]), (7, [.keep, .keep, .keep, .keep, .keep, .keep, .keep, .keep])], by decide +kernel, ?_⟩; (refine g0_ ?_; repeat ((first | refine n1_ fun b_ => ?_ | refine n2_ fun b_ => ?_ | refine Nat1.mk fun q_ hq_ => ?_ | refine em_ fun x_ hx_ => ?_ | refine Elem1.mk fun e_ he_ => ?_); refine g0_ ?_))
        refine ACalls.giveE hcl ?_
        rintro ⟨w3, p3, s3, b3, ks3⟩ hx3
        rcases ks3 with _ | ⟨k3, ks3⟩
        · have e3 := ownV_mk w3 p3 s3 b3 []
          simp only [List.map_cons, List.map_nil, accV] at e3
          rw [e3]
          (refine g0_ ?_; repeat ((first | refine n1_ fun b_ => ?_ | refine n2_ fun b_ => ?_ | refine Nat1.mk fun q_ hq_ => ?_ | refine em_ fun x_ hx_ => ?_ | refine Elem1.mk fun e_ he_ => ?_); refine g0_ ?_))
          rw [← e3]
          try rw [show ∀ v : PV, (List.map ownV l).length + 1 + [v].length = (List.map ownV (l0 :: l ++ [Own.mk w3 p3 s3 b3 []])).length from fun v => by simp]
          try rw [show (ownV l0 :: List.map ownV l) ++ [ownV (Own.mk w3 p3 s3 b3 [])] = List.map ownV (l0 :: l ++ [Own.mk w3 p3 s3 b3 []]) from by simp]
          refine ⟨(i + 1, b_, ([] : List Own) ++ [Own.mk w3 p3 s3 b3 []]), ⟨hil, ?_⟩, ?_, ?_, ?_⟩
          · rw [hnx, List.map_append]
            show _ ++ [ownT _] = _
            rw [hx3]
          · ((try dsimp only); (try simp only [List.length_drop, List.length_take, List.length_append, List.length_cons, List.length_nil, List.length_map] at *); omega)
          · (repeat (refine wkEnv.cons (by first | rfl | ((conv => lhs; whnf); first | rfl | (congr 1; (try push_cast); omega) | (congr 1; simp; done) | (congr 1; simp; omega) | (simp; done) | (simp [*]; done))) ?_))
            exact wkEnv.nil
          · refine (show wkMem _ (⟨bR, .row 4 [.agg [.int .i64 0, .int .i64 0, .int .i64 0, .nils]] 0⟩ :: ⟨bT, .row 4 [.agg [.int .i64 w, .int .i64 p, .int .i64 s, accV b_ 4 ((([] : List Own) ++ [Own.mk w3 p3 s3 b3 []]).map ownV)]] 0⟩ :: (accM b_ 4 ((([] : List Own) ++ [Own.mk w3 p3 s3 b3 []]).map ownV) ++ (([] : List Own) ++ [Own.mk w3 p3 s3 b3 []]).flatMap ownM)) from ?_)
            rw [← owns_snoc]
            exact wk_cp _ _ _ _ _ _
        · have e3 := ownV_mk w3 p3 s3 b3 (k3 :: ks3)
          simp only [List.map_cons, List.map_nil, accV] at e3
          rw [e3]
          (refine g0_ ?_; repeat ((first | refine n1_ fun b_ => ?_ | refine n2_ fun b_ => ?_ | refine Nat1.mk fun q_ hq_ => ?_ | refine em_ fun x_ hx_ => ?_ | refine Elem1.mk fun e_ he_ => ?_); refine g0_ ?_))
          rw [← e3]
          try rw [show ∀ v : PV, (List.map ownV l).length + 1 + [v].length = (List.map ownV (l0 :: l ++ [Own.mk w3 p3 s3 b3 (k3 :: ks3)])).length from fun v => by simp]
          try rw [show (ownV l0 :: List.map ownV l) ++ [ownV (Own.mk w3 p3 s3 b3 (k3 :: ks3))] = List.map ownV (l0 :: l ++ [Own.mk w3 p3 s3 b3 (k3 :: ks3)]) from by simp]
          refine ⟨(i + 1, b_, ([] : List Own) ++ [Own.mk w3 p3 s3 b3 (k3 :: ks3)]), ⟨hil, ?_⟩, ?_, ?_, ?_⟩
          · rw [hnx, List.map_append]
            show _ ++ [ownT _] = _
            rw [hx3]
          · ((try dsimp only); (try simp only [List.length_drop, List.length_take, List.length_append, List.length_cons, List.length_nil, List.length_map] at *); omega)
          · (repeat (refine wkEnv.cons (by first | rfl | ((conv => lhs; whnf); first | rfl | (congr 1; (try push_cast); omega) | (congr 1; simp; done) | (congr 1; simp; omega) | (simp; done) | (simp [*]; done))) ?_))
            exact wkEnv.nil
          · refine (show wkMem _ (⟨bR, .row 4 [.agg [.int .i64 0, .int .i64 0, .int .i64 0, .nils]] 0⟩ :: ⟨bT, .row 4 [.agg [.int .i64 w, .int .i64 p, .int .i64 s, accV b_ 4 ((([] : List Own) ++ [Own.mk w3 p3 s3 b3 (k3 :: ks3)]).map ownV)]] 0⟩ :: (accM b_ 4 ((([] : List Own) ++ [Own.mk w3 p3 s3 b3 (k3 :: ks3)]).map ownV) ++ (([] : List Own) ++ [Own.mk w3 p3 s3 b3 (k3 :: ks3)]).flatMap ownM)) from ?_)
            rw [← owns_snoc]
            exact wk_cp _ _ _ _ _ _
    · (refine g0_ ?_; repeat ((first | refine n1_ fun b_ => ?_ | refine n2_ fun b_ => ?_ | refine Nat1.mk fun q_ hq_ => ?_ | refine em_ fun x_ hx_ => ?_ | refine Elem1.mk fun e_ he_ => ?_); refine g0_ ?_))
      refine brec ?_; intro c_ hlt; (try rw [hlt]); cases c_ <;> replace hlt := nm_ hlt
      · have : i = ks.length := by omega
        subst this
        rw [List.take_length] at hl
        (refine g0_ ?_; repeat ((first | refine n1_ fun b_ => ?_ | refine n2_ fun b_ => ?_ | refine Nat1.mk fun q_ hq_ => ?_ | refine em_ fun x_ hx_ => ?_ | refine Elem1.mk fun e_ he_ => ?_); refine g0_ ?_))
        exact ⟨.mk w p s b' (l0 :: l), by show ownT _ = _; rw [ownT_mk, hl], by first | (rw [ownV_mk]; done) | (rw [ownV_mk]; rfl), by rw [ownM_mk]; exact wkMem.skip (wkMem.skip wkMem.rfl')⟩
      · have hil : i < ks.length := by omega
        have hee := congrArg List.length hl
        simp only [List.length_map, List.length_cons, List.length_nil, List.length_take] at hee
        (refine g0_ ?_; repeat ((first | refine n1_ fun b_ => ?_ | refine n2_ fun b_ => ?_ | refine Nat1.mk fun q_ hq_ => ?_ | refine em_ fun x_ hx_ => ?_ | refine Elem1.mk fun e_ he_ => ?_); refine g0_ ?_))
        have hcl := ih x_ (List.mem_of_getElem? hx_) (hks _ (List.mem_of_getElem? hx_))
        have hnx : ks.take (i + 1) = (l0 :: l).map ownT ++ [x_] := by rw [take_snoc_of hx_, ← hl]
        obtain ⟨w2, p2, s2, ks2⟩ := x_
        have e2 := encSpl_mk w2 p2 s2 ks2
        rw [e2] at hcl ⊢
        (refine g0_ ?_; repeat ((first | refine n1_ fun b_ => ?_ | refine n2_ fun b_ => ?_ | refine Nat1.mk fun q_ hq_ => ?_ | refine em_ fun x_ hx_ => ?_ | refine Elem1.mk fun e_ he_ => ?_); refine g0_ ?_))
        refine Draws10.chain ⟨8, [.new, .new, .new, .turn, .skip, .skip, .skip, .skip], [(3, [.again, .again, .keep, .keep, .new, .turn, .skip, .skip]), (5, [.keep, .keep, .keep, .keep, .keep, .keep, .new, .turn]), (7, [.keep, .keep, .keep, .keep, .keep, .keep, .keep, .keep])], by decide +kernel, ?_⟩; (refine g0_ ?_; repeat ((first | refine n1_ fun b_ => ?_ | refine n2_ fun b_ => ?_ | refine Nat1.mk fun q_ hq_ => ?_ | refine em_ fun x_ hx_ => ?_ | refine Elem1.mk fun e_ he_ => ?_); refine g0_ ?_))
        refine ACalls.giveE hcl ?_
        rintro ⟨w3, p3, s3, b3, ks3⟩ hx3
        rcases ks3 with _ | ⟨k3, ks3⟩
        · have e3 := ownV_mk w3 p3 s3 b3 []
          simp only [List.map_cons, List.map_nil, accV] at e3
          rw [e3]
          (refine g0_ ?_; repeat ((first | refine n1_ fun b_ => ?_ | refine n2_ fun b_ => ?_ | refine Nat1.mk fun q_ hq_ => ?_ | refine em_ fun x_ hx_ => ?_ | refine Elem1.mk fun e_ he_ => ?_); refine g0_ ?_))
          rw [← e3]
          try rw [show ∀ v : PV, (List.map ownV l).length + 1 + [v].length = (List.map ownV (l0 :: l ++ [Own.mk w3 p3 s3 b3 []])).length from fun v => by simp]
          try rw [show (ownV l0 :: List.map ownV l) ++ [ownV (Own.mk w3 p3 s3 b3 [])] = List.map ownV (l0 :: l ++ [Own.mk w3 p3 s3 b3 []]) from by simp]
          refine ⟨(i + 1, b_, l0 :: l ++ [Own.mk w3 p3 s3 b3 []]), ⟨hil, ?_⟩, ?_, ?_, ?_⟩
          · rw [hnx, List.map_append]
            show _ ++ [ownT _] = _
            rw [hx3]
          · ((try dsimp only); (try simp only [List.length_drop, List.length_take, List.length_append, List.length_cons, List.length_nil, List.length_map] at *); omega)
          · (repeat (refine wkEnv.cons (by first | rfl | ((conv => lhs; whnf); first | rfl | (congr 1; (try push_cast); omega) | (congr 1; simp; done) | (congr 1; simp; omega) | (simp; done) | (simp [*]; done))) ?_))
            exact wkEnv.nil
          · refine (show wkMem _ (⟨bR, .row 4 [.agg [.int .i64 0, .int .i64 0, .int .i64 0, .nils]] 0⟩ :: ⟨bT, .row 4 [.agg [.int .i64 w, .int .i64 p, .int .i64 s, accV b_ 4 ((l0 :: l ++ [Own.mk w3 p3 s3 b3 []]).map ownV)]] 0⟩ :: (accM b_ 4 ((l0 :: l ++ [Own.mk w3 p3 s3 b3 []]).map ownV) ++ (l0 :: l ++ [Own.mk w3 p3 s3 b3 []]).flatMap ownM)) from ?_)
            rw [← owns_snoc]
            exact wk_cp _ _ _ _ _ _
        · have e3 := ownV_mk w3 p3 s3 b3 (k3 :: ks3)
          simp only [List.map_cons, List.map_nil, accV] at e3
          rw [e3]
          (refine g0_ ?_; repeat ((first | refine n1_ fun b_ => ?_ | refine n2_ fun b_ => ?_ | refine Nat1.mk fun q_ hq_ => ?_ | refine em_ fun x_ hx_ => ?_ | refine Elem1.mk fun e_ he_ => ?_); refine g0_ ?_))
          rw [← e3]
          try rw [show ∀ v : PV, (List.map ownV l).length + 1 + [v].length = (List.map ownV (l0 :: l ++ [Own.mk w3 p3 s3 b3 (k3 :: ks3)])).length from fun v => by simp]
          try rw [show (ownV l0 :: List.map ownV l) ++ [ownV (Own.mk w3 p3 s3 b3 (k3 :: ks3))] = List.map ownV (l0 :: l ++ [Own.mk w3 p3 s3 b3 (k3 :: ks3)]) from by simp]
          refine ⟨(i + 1, b_, l0 :: l ++ [Own.mk w3 p3 s3 b3 (k3 :: ks3)]), ⟨hil, ?_⟩, ?_, ?_, ?_⟩
          · rw [hnx, List.map_append]
            show _ ++ [ownT _] = _
            rw [hx3]
          · ((try dsimp only); (try simp only [List.length_drop, List.length_take, List.length_append, List.length_cons, List.length_nil, List.length_map] at *); omega)
          · (repeat (refine wkEnv.cons (by first | rfl | ((conv => lhs; whnf); first | rfl | (congr 1; (try push_cast); omega) | (congr 1; simp; done) | (congr 1; simp; omega) | (simp; done) | (simp [*]; done))) ?_))
            exact wkEnv.nil
          · refine (show wkMem _ (⟨bR, .row 4 [.agg [.int .i64 0, .int .i64 0, .int .i64 0, .nils]] 0⟩ :: ⟨bT, .row 4 [.agg [.int .i64 w, .int .i64 p, .int .i64 s, accV b_ 4 ((l0 :: l ++ [Own.mk w3 p3 s3 b3 (k3 :: ks3)]).map ownV)]] 0⟩ :: (accM b_ 4 ((l0 :: l ++ [Own.mk w3 p3 s3 b3 (k3 :: ks3)]).map ownV) ++ (l0 :: l ++ [Own.mk w3 p3 s3 b3 (k3 :: ks3)]).flatMap ownM)) from ?_)
            rw [← owns_snoc]
            exact wk_cp _ _ _ _ _ _
theorem own_lt {w p s : Int} {b : Nat} {ks : List Own} {k : Own} (h : k ∈ ks) : SizeOf.sizeOf k < SizeOf.sizeOf (Own.mk w p s b ks) := by
  have := List.sizeOf_lt_of_mem h
  simp only [Own.mk.sizeOf_spec]; omega
theorem own_induct {motive : Own → Prop} (h : ∀ w p s b ks, (∀ k ∈ ks, motive k) → motive (.mk w p s b ks)) (t : Own) : motive t := by
  have : ∀ n t, SizeOf.sizeOf t < n → motive t := by
    intro n
    induction n with
    | zero => intro t ht; omega
    | succ n ih =>
      rintro ⟨w, p, s, b, ks⟩ ht
      exact h w p s b ks fun k hk => ih k (by have := own_lt (w := w) (p := p) (s := s) (b := b) hk; omega)
  exact this _ t (Nat.lt_succ_self _)
theorem accV_ne {b sz : Nat} {l : List PV} (h : l ≠ []) : accV b sz l = .rsl b sz 0 l.length := by
  cases l with
  | nil => exact absurd rfl h
  | cons x l => rfl
theorem accM_ne {b sz : Nat} {l : List PV} (h : l ≠ []) : accM b sz l = [⟨b, .row sz l 0⟩] := by
  cases l with
  | nil => exact absurd rfl h
  | cons x l => rfl
/-- Whatever stands in the tree reads as the tree. -/
theorem frz_own (t : Own) : ∀ σ : Mem, (∀ k ∈ ownM t, k ∈ σ) → Frz σ (ownV t) (encSpl (ownT t)) := by
  induction t using own_induct with
  | h w p s b ks ih =>
    intro σ hσ
    rw [ownV_mk, ownT_mk, encSpl_mk]
    rw [ownM_mk] at hσ
    refine .agg _ _ rfl fun j hj => ?_
    match j, hj with
    | 0, _ => exact .refl _
    | 1, _ => exact .refl _
    | 2, _ => exact .refl _
    | 3, _ =>
      by_cases h0 : ks = []
      · subst h0; exact .nils 4
      · have hne : ks.map ownV ≠ [] := by simpa using h0
        rw [accM_ne hne] at hσ
        show Frz σ (accV b 4 (ks.map ownV)) (.sl 4 ((ks.map ownT).map encSpl))
        rw [accV_ne hne]
        obtain ⟨r, hl⟩ := Look.of_mem (b := b) (c := .row 4 (ks.map ownV) 0) (hσ _ (List.mem_append_left _ (List.mem_singleton.2 rfl)))
        refine .rsl b 4 0 _ _ _ 0 r hl (by simp) (by simp) fun j hj => ?_
        have hjl : j < ks.length := by simpa using hj
        have hk := ih ks[j] (List.getElem_mem hjl) σ (fun k hk => hσ k (List.mem_append_right _ (List.mem_flatMap.2 ⟨_, List.getElem_mem hjl, hk⟩)))
        rw [Nat.zero_add]
        simpa [List.getD_eq_getElem?_getD, hjl] using hk
mutual
def renO (f : Int → Int) : Own → Own
  | .mk w p s b ks => if w = 0 then .mk w (f p) s b ks else .mk w p s b (renOs f ks)
def renOs (f : Int → Int) : List Own → List Own
  | [] => []
  | t :: ts => renO f t :: renOs f ts
end
mutual
def renT (f : Int → Int) : Spl → Spl
  | .mk w p s ks => if w = 0 then .mk w (f p) s ks else .mk w p s (renTs f ks)
def renTs (f : Int → Int) : List Spl → List Spl
  | [] => []
  | t :: ts => renT f t :: renTs f ts
end
theorem renOs_eq (f : Int → Int) : ∀ ks : List Own, renOs f ks = ks.map (renO f)
  | [] => rfl
  | t :: ts => by rw [renOs, renOs_eq f ts]; rfl
theorem renTs_eq (f : Int → Int) : ∀ ks : List Spl, renTs f ks = ks.map (renT f)
  | [] => rfl
  | t :: ts => by rw [renTs, renTs_eq f ts]; rfl
theorem renO_mk (f : Int → Int) (w p s : Int) (b : Nat) (ks : List Own) : renO f (.mk w p s b ks) = if w = 0 then .mk w (f p) s b ks else .mk w p s b (ks.map (renO f)) := by rw [renO, renOs_eq]
theorem renT_mk (f : Int → Int) (w p s : Int) (ks : List Spl) : renT f (.mk w p s ks) = if w = 0 then .mk w (f p) s ks else .mk w p s (ks.map (renT f)) := by rw [renT, renTs_eq]
theorem ren_own (f : Int → Int) (t : Own) : ownT (renO f t) = renT f (ownT t) := by
  induction t using own_induct with
  | h w p s b ks ih =>
    rw [renO_mk, ownT_mk, renT_mk]
    split
    · rw [ownT_mk]
    · rw [ownT_mk, List.map_map, List.map_map]
      congr 1
      exact List.map_congr_left ih
/-- Where one is on the way through the kids. -/
def curO (f : Int → Int) (ks : List Own) (i : Nat) : List Own := (ks.take i).map (renO f) ++ ks.drop i
theorem curO_end (f : Int → Int) (ks : List Own) : curO f ks ks.length = ks.map (renO f) := by simp [curO]
theorem curO_at (f : Int → Int) {ks : List Own} {i : Nat} {x : Own} (h : ks[i]? = some x) : ∃ A B, A.length = i ∧ curO f ks i = A ++ x :: B ∧ curO f ks (i + 1) = A ++ renO f x :: B := by
  have hi : i < ks.length := lt_of_at h
  refine ⟨(ks.take i).map (renO f), ks.drop (i + 1), by simp; omega, ?_, ?_⟩
  · rw [curO, List.drop_eq_getElem_cons hi, (List.getElem?_eq_some_iff.1 h).2]
  · rw [curO, take_snoc_of h, List.map_append, List.append_assoc]
    rfl
theorem perm_own {α : Type} (a X c m : List α) : (a ++ (X ++ c) ++ m).Perm ((X ++ m) ++ (a ++ c)) := by
  have h1 : (a ++ (X ++ c) ++ m).Perm ((X ++ c) ++ a ++ m) := List.perm_append_comm.append_right m
  have h2 : (c ++ a ++ m).Perm (m ++ (a ++ c)) := List.perm_append_comm.trans (List.perm_append_comm.append_left m)
  have e : X ++ c ++ a ++ m = X ++ (c ++ a ++ m) := by simp
  rw [e] at h1
  refine (h1.trans (h2.append_left X)).trans (List.Perm.of_eq ?_)
  simp
theorem wk_own {σ1 N k4 ac M' : Mem} (h : wkMem σ1 N) (hp : (N ++ ac).Perm M') : wkMem (σ1 ++ (k4 ++ ac)) (k4 ++ M') := by
  obtain ⟨q, hq⟩ := h
  refine ⟨q, ?_⟩
  have h1 : (σ1 ++ (k4 ++ ac)).Perm ((N ++ q) ++ (k4 ++ ac)) := hq.append_right _
  have h2 : ((N ++ q) ++ (k4 ++ ac)).Perm (k4 ++ ((N ++ ac) ++ q)) := by
    have a1 : ((N ++ q) ++ (k4 ++ ac)).Perm ((k4 ++ ac) ++ (N ++ q)) := List.perm_append_comm
    refine a1.trans ?_
    rw [List.append_assoc]
    refine List.Perm.append_left k4 ?_
    rw [← List.append_assoc]
    exact List.perm_append_comm.append_right q
  have h3 : (k4 ++ ((N ++ ac) ++ q)).Perm (k4 ++ M' ++ q) := by
    refine (List.Perm.append_left k4 (hp.append_right q)).trans (List.Perm.of_eq ?_)
    rw [List.append_assoc]
  exact (h1.trans h2).trans h3
theorem perm_lend {k4 CM N ac : Mem} (h : CM.Perm (N ++ ac)) : (k4 ++ CM).Perm (N ++ (k4 ++ ac)) := by
  refine (List.Perm.append_left k4 h).trans ?_
  rw [← List.append_assoc, ← List.append_assoc]
  exact List.perm_append_comm.append_right ac
abbrev mpM (bm : Nat) (es : List (PV × PV)) : Mem := [⟨bm, .mpc es⟩]
theorem rename_ok (bm : Nat) (es : List (PV × PV)) (f : Int → Int) (S : List Int) (hlk : ∀ p ∈ S, ∀ {σ r : Mem}, Look σ bm (.mpc es) r → LookLaw Tryd.prog 76 (.mp bm) (.int .i64 p) false σ (.int .i64 (f p))) (t : Own) :
    ∀ way, (ownT t).right way → (panesT (ownT t)).length ≤ 12 → (∀ p ∈ panesT (ownT t), p ∈ S) →
    ACalls Tryd.prog W 28 [ownV t, .mp bm] (ownM t ++ mpM bm es) (Gives (fun _ : Unit => ownV (renO f t)) (fun _ => ownM (renO f t) ++ mpM bm es) (fun _ => True)) := by
  induction t using own_induct with
  | h w p s b ks ih =>
    intro way hr hn hS
    rw [ownT_mk] at hr hn hS
    rw [right_mk] at hr
    rw [panesT_mk] at hn hS
    rcases hr.2 with ⟨h0, hk, -⟩ | ⟨hw, -, hk2, -, hkr⟩
    · obtain rfl : ks = [] := by simpa using hk
      subst h0
      rw [if_pos rfl] at hS
      have hlp := @hlk p (hS p (by simp))
      rw [renO_mk, if_pos rfl, ownV_mk, ownV_mk, ownM_mk, ownM_mk]
      simp only [List.map_nil, List.flatMap_nil, List.append_nil, List.nil_append, accV, accM, mpM]
      refine acalls_of_vc (DL_ok (by decide)) Tryd.func28 rfl (by decide) (by decide) rfl ?_
      (refine g0_ ?_; repeat ((first | refine n1_ fun b_ => ?_ | refine n2_ fun b_ => ?_ | refine Nat1.mk fun q_ hq_ => ?_ | refine em_ fun x_ hx_ => ?_ | refine Elem1.mk fun e_ he_ => ?_); refine g0_ ?_))
      (refine g1_ ?_; repeat ((first | refine n1_ fun b_ => ?_ | refine n2_ fun b_ => ?_ | refine Nat1.mk fun q_ hq_ => ?_ | refine em_ fun x_ hx_ => ?_ | refine Elem1.mk fun e_ he_ => ?_); refine g1_ ?_))
      refine ⟨_, hlp (by repeat (first | exact .here _ _ _ | apply Look.there)), ?_⟩
      (refine g0_ ?_; repeat ((first | refine n1_ fun b_ => ?_ | refine n2_ fun b_ => ?_ | refine Nat1.mk fun q_ hq_ => ?_ | refine em_ fun x_ hx_ => ?_ | refine Elem1.mk fun e_ he_ => ?_); refine g0_ ?_))
      exact ⟨(), trivial, rfl, by (first | exact ⟨_, .refl _⟩ | exact wkMem.rfl' | exact ⟨_, .swap _ _ _⟩ | (repeat (first | exact wkMem.nil _ | exact wkMem.rfl' | exact wk_snoc _ _ _ | exact wk_fam (by assumption) _ _ _ | exact wk_famN (by assumption) _ _ _ | (apply wkMem.cons; (case' hl => (repeat (first | exact .here _ _ _ | apply Look.there)))) | apply wkMem.skip)))⟩
    · have hw0 : ¬ w = 0 := by omega
      rw [if_neg hw0] at hn hS
      have hkp := kids_panes hkr
      rw [List.length_map] at hk2 hkp
      have hne : ks.map ownV ≠ [] := by intro e; simp at e; subst e; simp at hk2
      have hne2 : (ks.map (renO f)).map ownV ≠ [] := by intro e; simp at e; subst e; simp at hk2
      rw [renO_mk, if_neg hw0, ownV_mk, ownV_mk, ownM_mk, ownM_mk, accV_ne hne, accM_ne hne, accV_ne hne2, accM_ne hne2]
      simp only [List.length_map, List.cons_append, List.nil_append]
      refine acalls_of_vc (DL_ok (by decide)) Tryd.func28 rfl (by decide) (by decide) rfl ?_
      (refine g0_ ?_; repeat ((first | refine n1_ fun b_ => ?_ | refine n2_ fun b_ => ?_ | refine Nat1.mk fun q_ hq_ => ?_ | refine em_ fun x_ hx_ => ?_ | refine Elem1.mk fun e_ he_ => ?_); refine g0_ ?_))
      (refine g1_ ?_; repeat ((first | refine n1_ fun b_ => ?_ | refine n2_ fun b_ => ?_ | refine Nat1.mk fun q_ hq_ => ?_ | refine em_ fun x_ hx_ => ?_ | refine Elem1.mk fun e_ he_ => ?_); refine g1_ ?_))
      rename_i bT
      revert b_
      intro bR
      refine' loopI (α := Nat) (fun i => [(19, .int .i64 i)]) [(1, _), (2, _), (4, _), (17, _), (18, _)] (fun i => ⟨bR, .row 4 [.agg [.int .i64 0, .int .i64 0, .int .i64 0, .nils]] 0⟩ :: ⟨bT, .row 4 [.agg [.int .i64 w, .int .i64 p, .int .i64 s, .rsl b 4 0 ks.length]] 0⟩ :: ⟨b, .row 4 ((curO f ks i).map ownV) 0⟩ :: ((curO f ks i).flatMap ownM ++ mpM bm es)) (fun i => i ≤ ks.length) (fun i => ks.length - i) 0 ?_ ?_
      · exact Nat.zero_le _
      rintro i hi
      by_cases hie : i = ks.length
      · subst hie
        rw [curO_end]
        (refine g0_ ?_; repeat ((first | refine n1_ fun b_ => ?_ | refine n2_ fun b_ => ?_ | refine Nat1.mk fun q_ hq_ => ?_ | refine em_ fun x_ hx_ => ?_ | refine Elem1.mk fun e_ he_ => ?_); refine g0_ ?_))
        (refine g1_ ?_; repeat ((first | refine n1_ fun b_ => ?_ | refine n2_ fun b_ => ?_ | refine Nat1.mk fun q_ hq_ => ?_ | refine em_ fun x_ hx_ => ?_ | refine Elem1.mk fun e_ he_ => ?_); refine g1_ ?_))
        exact ⟨(), trivial, rfl, by (first | exact ⟨_, .refl _⟩ | exact wkMem.rfl' | exact ⟨_, .swap _ _ _⟩ | (repeat (first | exact wkMem.nil _ | exact wkMem.rfl' | exact wk_snoc _ _ _ | exact wk_fam (by assumption) _ _ _ | exact wk_famN (by assumption) _ _ _ | (apply wkMem.cons; (case' hl => (repeat (first | exact .here _ _ _ | apply Look.there)))) | apply wkMem.skip)))⟩
      · have hil : i < ks.length := by omega
        obtain ⟨x, hx⟩ : ∃ x, ks[i]? = some x := ⟨_, List.getElem?_eq_getElem hil⟩
        obtain ⟨A, B, hA, e1, e2⟩ := curO_at f hx
        have hm := List.mem_of_getElem? hx
        have hmT : ownT x ∈ ks.map ownT := List.mem_map.2 ⟨x, hm, rfl⟩
        have hcl := ih x hm w (hkr _ hmT) (Nat.le_trans (kid_panes hmT) hn) (fun p hp => hS p (List.mem_flatMap.2 ⟨_, hmT, hp⟩))
        have hat : ((curO f ks i).map ownV)[i]? = some (ownV x) := by rw [e1, List.getElem?_map, ← hA]; simp
        have hlen : ((curO f ks i).map ownV).length = ks.length := by rw [List.length_map, curO]; simp; omega
        have hset : ((curO f ks i).map ownV).set i (ownV (renO f x)) = (curO f ks (i + 1)).map ownV := by rw [e1, e2, ← hA]; simp
        have hfl : ((curO f ks i).flatMap ownM ++ mpM bm es).Perm ((ownM x ++ mpM bm es) ++ (A.flatMap ownM ++ B.flatMap ownM)) := by
          rw [e1, List.flatMap_append, List.flatMap_cons]
          exact perm_own _ _ _ _
        have hfl2 : ((ownM (renO f x) ++ mpM bm es) ++ (A.flatMap ownM ++ B.flatMap ownM)).Perm ((curO f ks (i + 1)).flatMap ownM ++ mpM bm es) := by
          rw [e2, List.flatMap_append, List.flatMap_cons]
          exact (perm_own _ _ _ _).symm
        generalize hCV : (curO f ks i).map ownV = CV at *
        generalize hCM : (curO f ks i).flatMap ownM ++ mpM bm es = CM at *
        obtain ⟨w2, p2, s2, b2, ks2⟩ := x
        rw [ownV_mk] at hat hcl
        clear e1 hx hm hmT hCV hCM ih
        generalize renO f (Own.mk w2 p2 s2 b2 ks2) = X at *
        obtain ⟨w3, p3, s3, b3, ks3⟩ := X
        rcases ks2 with _ | ⟨k2, ks2⟩
        · rcases ks3 with _ | ⟨k3, ks3⟩
          · have e3 := ownV_mk w3 p3 s3 b3 []
            simp only [List.map_cons, List.map_nil, accV] at e3 hat hcl
            (refine g0_ ?_; repeat ((first | refine n1_ fun b_ => ?_ | refine n2_ fun b_ => ?_ | refine Nat1.mk fun q_ hq_ => ?_ | refine em_ fun x_ hx_ => ?_ | refine Elem1.mk fun e_ he_ => ?_); refine g0_ ?_))
            (refine g1_ ?_; repeat ((first | refine n1_ fun b_ => ?_ | refine n2_ fun b_ => ?_ | refine Nat1.mk fun q_ hq_ => ?_ | refine em_ fun x_ hx_ => ?_ | refine Elem1.mk fun e_ he_ => ?_); refine g1_ ?_))
            rw [Nat.zero_add, hat] at he_
            obtain rfl := Option.some.inj he_
            (refine g0_ ?_; repeat ((first | refine n1_ fun b_ => ?_ | refine n2_ fun b_ => ?_ | refine Nat1.mk fun q_ hq_ => ?_ | refine em_ fun x_ hx_ => ?_ | refine Elem1.mk fun e_ he_ => ?_); refine g0_ ?_))
            refine Draws10.chain ⟨8, [.new, .new, .new, .new, .new, .turn, .skip, .skip], [(5, [.again, .again, .again, .keep, .keep, .keep, .new, .turn]), (7, [.keep, .keep, .keep, .keep, .keep, .keep, .keep, .keep])], by decide +kernel, ?_⟩; (refine g0_ ?_; repeat ((first | refine n1_ fun b_ => ?_ | refine n2_ fun b_ => ?_ | refine Nat1.mk fun q_ hq_ => ?_ | refine em_ fun x_ hx_ => ?_ | refine Elem1.mk fun e_ he_ => ?_); refine g0_ ?_))
            refine ACalls.lendX hcl (perm_lend (k4 := [_, _, _, _]) hfl) ?_
            rintro v σ1 ⟨_, -, rfl, hwk⟩
            refine ⟨_, wk_own hwk hfl2, ?_⟩
            rw [e3]
            (refine g0_ ?_; repeat ((first | refine n1_ fun b_ => ?_ | refine n2_ fun b_ => ?_ | refine Nat1.mk fun q_ hq_ => ?_ | refine em_ fun x_ hx_ => ?_ | refine Elem1.mk fun e_ he_ => ?_); refine g0_ ?_))
            rw [Nat.zero_add, hat] at he_
            obtain rfl := Option.some.inj he_
            (refine g0_ ?_; repeat ((first | refine n1_ fun b_ => ?_ | refine n2_ fun b_ => ?_ | refine Nat1.mk fun q_ hq_ => ?_ | refine em_ fun x_ hx_ => ?_ | refine Elem1.mk fun e_ he_ => ?_); refine g0_ ?_))
            rw [← e3, Nat.zero_add, hset]
            refine nx_ (i + 1) ?_ ?_
            · exact hil
            · ((try dsimp only); (try simp only [List.length_drop, List.length_take, List.length_append, List.length_cons, List.length_nil, List.length_map] at *); omega)
          · have e3 := ownV_mk w3 p3 s3 b3 (k3 :: ks3)
            simp only [List.map_cons, List.map_nil, accV] at e3 hat hcl
            (refine g0_ ?_; repeat ((first | refine n1_ fun b_ => ?_ | refine n2_ fun b_ => ?_ | refine Nat1.mk fun q_ hq_ => ?_ | refine em_ fun x_ hx_ => ?_ | refine Elem1.mk fun e_ he_ => ?_); refine g0_ ?_))
            (refine g1_ ?_; repeat ((first | refine n1_ fun b_ => ?_ | refine n2_ fun b_ => ?_ | refine Nat1.mk fun q_ hq_ => ?_ | refine em_ fun x_ hx_ => ?_ | refine Elem1.mk fun e_ he_ => ?_); refine g1_ ?_))
            rw [Nat.zero_add, hat] at he_
            obtain rfl := Option.some.inj he_
            (refine g0_ ?_; repeat ((first | refine n1_ fun b_ => ?_ | refine n2_ fun b_ => ?_ | refine Nat1.mk fun q_ hq_ => ?_ | refine em_ fun x_ hx_ => ?_ | refine Elem1.mk fun e_ he_ => ?_); refine g0_ ?_))
            refine Draws10.chain ⟨8, [.new, .new, .new, .new, .new, .turn, .skip, .skip], [(5, [.again, .again, .again, .keep, .keep, .keep, .new, .turn]), (7, [.keep, .keep, .keep, .keep, .keep, .keep, .keep, .keep])], by decide +kernel, ?_⟩; (refine g0_ ?_; repeat ((first | refine n1_ fun b_ => ?_ | refine n2_ fun b_ => ?_ | refine Nat1.mk fun q_ hq_ => ?_ | refine em_ fun x_ hx_ => ?_ | refine Elem1.mk fun e_ he_ => ?_); refine g0_ ?_))
            refine ACalls.lendX hcl (perm_lend (k4 := [_, _, _, _]) hfl) ?_
            rintro v σ1 ⟨_, -, rfl, hwk⟩
            refine ⟨_, wk_own hwk hfl2, ?_⟩
            rw [e3]
            (refine g0_ ?_; repeat ((first | refine n1_ fun b_ => ?_ | refine n2_ fun b_ => ?_ | refine Nat1.mk fun q_ hq_ => ?_ | refine em_ fun x_ hx_ => ?_ | refine Elem1.mk fun e_ he_ => ?_); refine g0_ ?_))
            rw [Nat.zero_add, hat] at he_
            obtain rfl := Option.some.inj he_
            (refine g0_ ?_; repeat ((first | refine n1_ fun b_ => ?_ | refine n2_ fun b_ => ?_ | refine Nat1.mk fun q_ hq_ => ?_ | refine em_ fun x_ hx_ => ?_ | refine Elem1.mk fun e_ he_ => ?_); refine g0_ ?_))
            rw [← e3, Nat.zero_add, hset]
            refine nx_ (i + 1) ?_ ?_
            · exact hil
            · ((try dsimp only); (try simp only [List.length_drop, List.length_take, List.length_append, List.length_cons, List.length_nil, List.length_map] at *); omega)
        · rcases ks3 with _ | ⟨k3, ks3⟩
          · have e3 := ownV_mk w3 p3 s3 b3 []
            simp only [List.map_cons, List.map_nil, accV] at e3 hat hcl
            (refine g0_ ?_; repeat ((first | refine n1_ fun b_ => ?_ | refine n2_ fun b_ => ?_ | refine Nat1.mk fun q_ hq_ => ?_ | refine em_ fun x_ hx_ => ?_ | refine Elem1.mk fun e_ he_ => ?_); refine g0_ ?_))
            (refine g1_ ?_; repeat ((first | refine n1_ fun b_ => ?_ | refine n2_ fun b_ => ?_ | refine Nat1.mk fun q_ hq_ => ?_ | refine em_ fun x_ hx_ => ?_ | refine Elem1.mk fun e_ he_ => ?_); refine g1_ ?_))
            rw [Nat.zero_add, hat] at he_
            obtain rfl := Option.some.inj he_
            (refine g0_ ?_; repeat ((first | refine n1_ fun b_ => ?_ | refine n2_ fun b_ => ?_ | refine Nat1.mk fun q_ hq_ => ?_ | refine em_ fun x_ hx_ => ?_ | refine Elem1.mk fun e_ he_ => ?_); refine g0_ ?_))
            refine Draws10.chain ⟨8, [.new, .new, .new, .new, .new, .turn, .skip, .skip], [(5, [.again, .again, .again, .keep, .keep, .keep, .new, .turn]), (7, [.keep, .keep, .keep, .keep, .keep, .keep, .keep, .keep])], by decide +kernel, ?_⟩; (refine g0_ ?_; repeat ((first | refine n1_ fun b_ => ?_ | refine n2_ fun b_ => ?_ | refine Nat1.mk fun q_ hq_ => ?_ | refine em_ fun x_ hx_ => ?_ | refine Elem1.mk fun e_ he_ => ?_); refine g0_ ?_))
            refine ACalls.lendX hcl (perm_lend (k4 := [_, _, _, _]) hfl) ?_
            rintro v σ1 ⟨_, -, rfl, hwk⟩
            refine ⟨_, wk_own hwk hfl2, ?_⟩
            rw [e3]
            (refine g0_ ?_; repeat ((first | refine n1_ fun b_ => ?_ | refine n2_ fun b_ => ?_ | refine Nat1.mk fun q_ hq_ => ?_ | refine em_ fun x_ hx_ => ?_ | refine Elem1.mk fun e_ he_ => ?_); refine g0_ ?_))
            rw [Nat.zero_add, hat] at he_
            obtain rfl := Option.some.inj he_
            (refine g0_ ?_; repeat ((first | refine n1_ fun b_ => ?_ | refine n2_ fun b_ => ?_ | refine Nat1.mk fun q_ hq_ => ?_ | refine em_ fun x_ hx_ => ?_ | refine Elem1.mk fun e_ he_ => ?_); refine g0_ ?_))
            rw [← e3, Nat.zero_add, hset]
            refine nx_ (i + 1) ?_ ?_
            · exact hil
            · ((try dsimp only); (try simp only [List.length_drop, List.length_take, List.length_append, List.length_cons, List.length_nil, List.length_map] at *); omega)
          · have e3 := ownV_mk w3 p3 s3 b3 (k3 :: ks3)
            simp only [List.map_cons, List.map_nil, accV] at e3 hat hcl
            (refine g0_ ?_; repeat ((first | refine n1_ fun b_ => ?_ | refine n2_ fun b_ => ?_ | refine Nat1.mk fun q_ hq_ => ?_ | refine em_ fun x_ hx_ => ?_ | refine Elem1.mk fun e_ he_ => ?_); refine g0_ ?_))
            (refine g1_ ?_; repeat ((first | refine n1_ fun b_ => ?_ | refine n2_ fun b_ => ?_ | refine Nat1.mk fun q_ hq_ => ?_ | refine em_ fun x_ hx_ => ?_ | refine Elem1.mk fun e_ he_ => ?_); refine g1_ ?_))
            rw [Nat.zero_add, hat] at he_
            obtain rfl := Option.some.inj he_
            (refine g0_ ?_; repeat ((first | refine n1_ fun b_ => ?_ | refine n2_ fun b_ => ?_ | refine Nat1.mk fun q_ hq_ => ?_ | refine em_ fun x_ hx_ => ?_ | refine Elem1.mk fun e_ he_ => ?_); refine g0_ ?_))
            refine Draws10.chain ⟨8, [.new, .new, .new, .new, .new, .turn, .skip, .skip], [(5, [.again, .again, .again, .keep, .keep, .keep, .new, .turn]), (7, [.keep, .keep, .keep, .keep, .keep, .keep, .keep, .keep])], by decide +kernel, ?_⟩; (refine g0_ ?_; repeat ((first | refine n1_ fun b_ => ?_ | refine n2_ fun b_ => ?_ | refine Nat1.mk fun q_ hq_ => ?_ | refine em_ fun x_ hx_ => ?_ | refine Elem1.mk fun e_ he_ => ?_); refine g0_ ?_))
            refine ACalls.lendX hcl (perm_lend (k4 := [_, _, _, _]) hfl) ?_
            rintro v σ1 ⟨_, -, rfl, hwk⟩
            refine ⟨_, wk_own hwk hfl2, ?_⟩
            rw [e3]
            (refine g0_ ?_; repeat ((first | refine n1_ fun b_ => ?_ | refine n2_ fun b_ => ?_ | refine Nat1.mk fun q_ hq_ => ?_ | refine em_ fun x_ hx_ => ?_ | refine Elem1.mk fun e_ he_ => ?_); refine g0_ ?_))
            rw [Nat.zero_add, hat] at he_
            obtain rfl := Option.some.inj he_
            (refine g0_ ?_; repeat ((first | refine n1_ fun b_ => ?_ | refine n2_ fun b_ => ?_ | refine Nat1.mk fun q_ hq_ => ?_ | refine em_ fun x_ hx_ => ?_ | refine Elem1.mk fun e_ he_ => ?_); refine g0_ ?_))
            rw [← e3, Nat.zero_add, hset]
            refine nx_ (i + 1) ?_ ?_
            · exact hil
            · ((try dsimp only); (try simp only [List.length_drop, List.length_take, List.length_append, List.length_cons, List.length_nil, List.length_map] at *); omega)
end Go.Eng.YtimpfhokacfobaaDoor
end

/- Splits: panes renamed by a map: split.Swap, split.Rotate (b_ x_ q_ e_). -/
section
namespace Go.Eng
open Go
/-- On to the next place where something is to be shown; what is put into a map is left to a law. -/
theorem gm_ {p q : Prop} (hq : q) (h : Hide q → p := by (intro hq_; refine wh ?_; (repeat ((first | refine CondC.part ?_ | (refine GuardC.part ?_; refine wh ?_; fail_if_success refine brec ?_) | (apply GuardC.sp; (case' h1 => (refine wh ?_; (repeat ((refine need.mk ?_ ?_; focus (first | with_reducible exact fun h => h | with_reducible exact not_of_false | exact fun _ => rfl | (intro h_; simp [h_]; done) | (intro h_; simp_all; done))); refine wh ?_)); exact trivial)); (case' h2 => (intro hg_; (refine wh ?_; repeat ((first | (apply RowAt.mk; (case' hl => (repeat (first | exact .here _ _ _ | apply Look.there | exact Look.fam (by assumption) _)))) | refine Fits.ok (by omega) (by omega) ?_ | (refine need.mk ?_ ?_; focus (first | (first | omega | exact wkMem.skip wkMem.rfl' | rfl | (simp; done) | (simp [cellsB, PV.flat, cellB]; done) | (simp <;> omega) | (simp only [true_and, and_true, Bool.true_and, Bool.and_true, Bool.not_true, Bool.not_false, Bool.and_eq_true, Bool.not_eq_true, Bool.not_eq_false, Bool.or_eq_true, Bool.not_eq_true', Bool.not_eq_false', decide_eq_true_eq, decide_eq_false_iff_not, Decidable.not_not, ne_eq, beq_iff_eq]; omega) | (rw [Bool.eq_false_iff]; simp only [true_and, and_true, Bool.true_and, Bool.and_true, Bool.not_true, Bool.not_false, Bool.and_eq_true, Bool.not_eq_true, Bool.not_eq_false, Bool.or_eq_true, Bool.not_eq_true', Bool.not_eq_false', decide_eq_true_eq, decide_eq_false_iff_not, Decidable.not_not, ne_eq, beq_iff_eq]; omega)) | (simp at hg_; omega) | (intros; simp_all; done) | (intros; simp_all; omega))) | (refine New1.mk fun b_ hb_ => ?_; clear hb_) | (refine New2.mk fun b_ hb_ => ?_; clear hb_) | (refine Nat1.mk fun q_ hq_ => ?_; (first | (obtain rfl := Int.ofNat.inj hq_; clear hq_) | skip)) | refine at_known (by assumption) ?_ | (refine Elem1.mk fun e_ he_ => ?_; (first | (obtain ⟨x_, hx_, rfl⟩ := getMap he_; clear he_) | (obtain rfl := Option.some.inj he_; clear he_) | skip)) | (refine Lst1.mk fun s_ hs_ => ?_; (try simp only [List.take_length, List.drop_zero, ← List.map_take, ← List.map_drop] at hs_); subst hs_)); refine wh ?_)); refine And.intro ?_ rfl; exact Eq.refl _))) | refine GuardC.part ?_ | (refine needO.mk ?_ ?_; focus (refine wh ?_; (repeat ((refine need.mk ?_ ?_; focus (first | with_reducible exact fun h => h | with_reducible exact not_of_false | exact fun _ => rfl | (intro h_; simp [h_]; done) | (intro h_; simp_all; done))); refine wh ?_)); exact trivial)) | with_reducible refine need.mk (fun h => h) ?_ | with_reducible refine need.mk not_of_false ?_ | (apply RowAt.mk; (case' hl => (repeat (first | exact .here _ _ _ | apply Look.there | exact Look.fam (by assumption) _)))) | refine Fits.ok (by omega) (by omega) ?_ | (refine need.mk ?_ ?_; focus (first | omega | exact wkMem.skip wkMem.rfl' | rfl | (simp; done) | (simp [cellsB, PV.flat, cellB]; done) | (simp <;> omega) | (simp only [true_and, and_true, Bool.true_and, Bool.and_true, Bool.not_true, Bool.not_false, Bool.and_eq_true, Bool.not_eq_true, Bool.not_eq_false, Bool.or_eq_true, Bool.not_eq_true', Bool.not_eq_false', decide_eq_true_eq, decide_eq_false_iff_not, Decidable.not_not, ne_eq, beq_iff_eq]; omega) | (rw [Bool.eq_false_iff]; simp only [true_and, and_true, Bool.true_and, Bool.and_true, Bool.not_true, Bool.not_false, Bool.and_eq_true, Bool.not_eq_true, Bool.not_eq_false, Bool.or_eq_true, Bool.not_eq_true', Bool.not_eq_false', decide_eq_true_eq, decide_eq_false_iff_not, Decidable.not_not, ne_eq, beq_iff_eq]; omega))) | refine at_known (by assumption) ?_ | refine Nat1.o ?_ | refine Lst1.m ?_ | refine ek_ ?_); refine wh ?_)); exact Hide.out hq_)) : p := h ⟨hq⟩
theorem gdm_ {p q : Prop} (hq : q) (h : Hide q → p := by (intro hq_; refine wh ?_; (repeat ((first | refine CondC.part ?_ | (refine GuardC.part ?_; refine wh ?_; fail_if_success refine brec ?_) | (apply GuardC.sp; (case' h1 => (refine wh ?_; (repeat ((refine need.mk ?_ ?_; focus (first | with_reducible exact fun h => h | with_reducible exact not_of_false | exact fun _ => rfl | (intro h_; simp [h_]; done) | (intro h_; simp_all; done))); refine wh ?_)); exact trivial)); (case' h2 => (intro hg_; (refine wh ?_; repeat ((first | (apply RowAt.mk; (case' hl => (repeat (first | exact .here _ _ _ | apply Look.there | exact Look.fam (by assumption) _)))) | refine Fits.ok (by omega) (by omega) ?_ | (refine need.mk ?_ ?_; focus (first | (first | omega | exact wkMem.skip wkMem.rfl' | rfl | (simp; done) | (simp [cellsB, PV.flat, cellB]; done) | (simp <;> omega) | (simp only [true_and, and_true, Bool.true_and, Bool.and_true, Bool.not_true, Bool.not_false, Bool.and_eq_true, Bool.not_eq_true, Bool.not_eq_false, Bool.or_eq_true, Bool.not_eq_true', Bool.not_eq_false', decide_eq_true_eq, decide_eq_false_iff_not, Decidable.not_not, ne_eq, beq_iff_eq]; omega) | (rw [Bool.eq_false_iff]; simp only [true_and, and_true, Bool.true_and, Bool.and_true, Bool.not_true, Bool.not_false, Bool.and_eq_true, Bool.not_eq_true, Bool.not_eq_false, Bool.or_eq_true, Bool.not_eq_true', Bool.not_eq_false', decide_eq_true_eq, decide_eq_false_iff_not, Decidable.not_not, ne_eq, beq_iff_eq]; omega)) | (simp at hg_; omega) | (intros; simp_all; done) | (intros; simp_all; omega))) | (refine New1.mk fun b_ hb_ => ?_; clear hb_) | (refine New2.mk fun b_ hb_ => ?_; clear hb_) | (refine Nat1.mk fun q_ hq_ => ?_; (first | (obtain rfl := Int.ofNat.inj hq_; clear hq_) | skip)) | refine at_known (by assumption) ?_ | (refine Elem1.mk fun e_ he_ => ?_; (first | (obtain ⟨x_, hx_, rfl⟩ := getMap he_; clear he_) | (obtain rfl := Option.some.inj he_; clear he_) | skip)) | (refine Lst1.mk fun s_ hs_ => ?_; (try simp only [List.take_length, List.drop_zero, ← List.map_take, ← List.map_drop] at hs_); subst hs_)); refine wh ?_)); refine And.intro ?_ rfl; exact Eq.refl _))) | refine GuardC.part ?_ | (refine needO.mk ?_ ?_; focus (refine wh ?_; (repeat ((refine need.mk ?_ ?_; focus (first | with_reducible exact fun h => h | with_reducible exact not_of_false | exact fun _ => rfl | (intro h_; simp [h_]; done) | (intro h_; simp_all; done))); refine wh ?_)); exact trivial)) | with_reducible refine need.mk (fun h => h) ?_ | with_reducible refine need.mk not_of_false ?_ | (apply RowAt.mk; (case' hl => (repeat (first | exact .here _ _ _ | apply Look.there | exact Look.fam (by assumption) _)))) | refine Fits.ok (by omega) (by omega) ?_ | (refine need.mk ?_ ?_; focus (first | omega | exact wkMem.skip wkMem.rfl' | rfl | (simp; done) | (simp [cellsB, PV.flat, cellB]; done) | (simp <;> omega) | (simp only [true_and, and_true, Bool.true_and, Bool.and_true, Bool.not_true, Bool.not_false, Bool.and_eq_true, Bool.not_eq_true, Bool.not_eq_false, Bool.or_eq_true, Bool.not_eq_true', Bool.not_eq_false', decide_eq_true_eq, decide_eq_false_iff_not, Decidable.not_not, ne_eq, beq_iff_eq]; omega) | (rw [Bool.eq_false_iff]; simp only [true_and, and_true, Bool.true_and, Bool.and_true, Bool.not_true, Bool.not_false, Bool.and_eq_true, Bool.not_eq_true, Bool.not_eq_false, Bool.or_eq_true, Bool.not_eq_true', Bool.not_eq_false', decide_eq_true_eq, decide_eq_false_iff_not, Decidable.not_not, ne_eq, beq_iff_eq]; omega))) | refine at_known (by assumption) ?_ | refine Nat1.o ?_ | refine Lst1.m ?_ | refine ek_ ?_ | ((first | (refine brec_t2 ?_ ?_; focus (first | (simp only [true_and, and_true, Bool.true_and, Bool.and_true, Bool.not_true, Bool.not_false, Bool.and_eq_true, Bool.not_eq_true, Bool.not_eq_false, Bool.or_eq_true, Bool.not_eq_true', Bool.not_eq_false', decide_eq_true_eq, decide_eq_false_iff_not, Decidable.not_not, ne_eq, beq_iff_eq]; omega) | (simp_all; done))) | (refine brec_f2 ?_ ?_; focus (first | (rw [Bool.eq_false_iff]; simp only [true_and, and_true, Bool.true_and, Bool.and_true, Bool.not_true, Bool.not_false, Bool.and_eq_true, Bool.not_eq_true, Bool.not_eq_false, Bool.or_eq_true, Bool.not_eq_true', Bool.not_eq_false', decide_eq_true_eq, decide_eq_false_iff_not, Decidable.not_not, ne_eq, beq_iff_eq]; omega) | (simp_all; done)))); intro hd_; (try rw [hd_]); clear hd_)); refine wh ?_)); exact Hide.out hq_)) : p := h ⟨hq⟩
end Go.Eng
namespace Go.Eng.YtimpfhokacfobaaDoor
open Go Go.Eng Go.Proofs Go.Maps
variable (W : World)
set_option linter.unusedSimpArgs false
set_option maxRecDepth 100000
set_option linter.unusedVariables false
set_option maxHeartbeats 4000000
def mapE (f : Int → Int) (l : List Int) : List (PV × PV) := l.map fun p => (.int .i64 p, .int .i64 (f p))
theorem keyed_int : Keyed Tryd.prog 3 := int_keyed (q := .i64) (by kernel_rfl)
theorem keyIs_int (p : Int) (h : i64ok p) : KeyIs Tryd.prog 3 (.int .i64 p) (.int .i64 p) := by
  refine ⟨fun K w x hx => by cases hx; rfl, .int .i64 p, ?_⟩
  have hu : Tryd.prog.underlying 3 = some (.int .i64) := by kernel_rfl
  have hw : (Lit.int .i64 p).wf = true := by
    simp [Lit.wf, IntKind.min, IntKind.max, IntKind.signed, IntKind.bits]; exact h
  simp [keyOf, mapKey, hu, hw]
theorem keys_mapE (f : Int → Int) : ∀ (l : List Int), (∀ p ∈ l, i64ok p) → KeysAre Tryd.prog 3 (mapE f l) (l.map (Value.int .i64)) := by
  intro l h
  refine ⟨by simp [mapE], fun j hj => ?_⟩
  have hjl : j < l.length := by simpa [mapE] using hj
  have := keyIs_int l[j] (h _ (List.getElem_mem hjl))
  simpa [mapE, List.getD_eq_getElem?_getD, hjl] using this
theorem ins_mapE {f : Int → Int} {l : List Int} {a v : Int} (h : ∀ p ∈ l, i64ok p) (ha : i64ok a) (hn : a ∉ l) (hv : f a = v) : InsLaw Tryd.prog 76 (mapE f l) (.int .i64 a) (.int .i64 v) (mapE f (l ++ [a])) := by
  have := insLaw_key keyed_int (show Tryd.prog.underlying 76 = some (.map 3 3) by kernel_rfl) (keys_mapE f l h) (keyIs_int a ha) (v := .int .i64 v) (by simpa using hn)
  rw [show mapE f (l ++ [a]) = mapE f l ++ [(.int .i64 a, .int .i64 v)] by simp [mapE, hv]]
  exact this
theorem set_mapE {f : Int → Int} {a v : Int} : ∀ {l : List Int} {j : Nat}, l.Nodup → l[j]? = some a → (mapE f l).set j (.int .i64 a, .int .i64 v) = mapE (fun p => if p = a then v else f p) l
  | [], j, _, h => by simp at h
  | b :: l, 0, hn, h => by
    simp only [List.getElem?_cons_zero, Option.some.injEq] at h
    subst h
    simp only [mapE, List.map_cons, List.set_cons_zero, if_true]
    congr 1
    refine List.map_congr_left fun p hp => ?_
    rw [if_neg (fun e : p = b => (List.nodup_cons.1 hn).1 (e ▸ hp))]
  | b :: l, j + 1, hn, h => by
    simp only [List.getElem?_cons_succ] at h
    have ih := set_mapE (f := f) (v := v) (List.nodup_cons.1 hn).2 h
    simp only [mapE, List.map_cons, List.set_cons_succ] at ih ⊢
    rw [ih, if_neg (fun e : b = a => (List.nodup_cons.1 hn).1 (e ▸ List.mem_of_getElem? h))]
theorem again_mapE {f : Int → Int} {l : List Int} {a v : Int} (h : ∀ p ∈ l, i64ok p) (hn : l.Nodup) (ha : a ∈ l) : InsLaw Tryd.prog 76 (mapE f l) (.int .i64 a) (.int .i64 v) (mapE (fun p => if p = a then v else f p) l) := by
  obtain ⟨j, hj⟩ := List.mem_iff_getElem?.1 ha
  have := insLaw_again keyed_int (show Tryd.prog.underlying 76 = some (.map 3 3) by kernel_rfl) (keys_mapE f l h) (keyIs_int a (h a ha)) (v := .int .i64 v) (j := j) (by rw [List.getElem?_map, hj]; rfl) (fun m hm => by
    rw [List.getElem?_map] at hm
    obtain ⟨x, hx, e⟩ := Option.map_eq_some_iff.1 hm
    have e2 : x = a := by injection e
    subst e2
    obtain ⟨h1, h1'⟩ := List.getElem?_eq_some_iff.1 hx
    obtain ⟨h2, h2'⟩ := List.getElem?_eq_some_iff.1 hj
    exact (List.getElem_inj hn).1 (h1'.trans h2'.symm))
  rwa [set_mapE hn hj] at this
theorem getI_mapE (f : Int → Int) (n : Int) : ∀ l : List Int, getI (mapE f l) n = if n ∈ l then some (.int .i64 (f n)) else none
  | [] => by simp [mapE, getI]
  | p :: l => by
    have ih := getI_mapE f n l
    rw [mapE] at ih ⊢
    rw [List.map_cons, getI]
    by_cases h : n = p
    · subst h; simp
    · rw [if_neg h, ih]
      simp [h]
theorem intKeys_mapE (f : Int → Int) : ∀ l : List Int, intKeys .i64 (mapE f l) = true
  | [] => rfl
  | p :: l => by
    have ih := intKeys_mapE f l
    rw [mapE] at ih ⊢
    rw [List.map_cons, intKeys, ih]
    rfl
theorem look_mapE {bm : Nat} {f : Int → Int} {l : List Int} {σ r : Mem} (hl : Look σ bm (.mpc (mapE f l)) r) (n v : Int) (hv : v = if n ∈ l then f n else 0) : LookLaw Tryd.prog 76 (.mp bm) (.int .i64 n) false σ (.int .i64 v) :=
  look_int hl (show Tryd.prog.underlying 76 = some (.map 3 3) by kernel_rfl) (show Tryd.prog.underlying 3 = some (.int .i64) by kernel_rfl) (i0 := (Tryd.prog.info? 3).getD default) (z := .int .i64 0) (by kernel_rfl) (by kernel_rfl) (intKeys_mapE f l) (by
    rw [getI_mapE, hv]
    split <;> rfl)
theorem not_take {l : List Int} {i : Nat} {q : Int} (hn : l.Nodup) (hq : l[i]? = some q) : q ∉ l.take i := fun h => by
  obtain ⟨j, hj⟩ := List.mem_iff_getElem?.1 h
  rw [List.getElem?_take] at hj
  split at hj
  · rename_i hji
    obtain ⟨h1, h1'⟩ := List.getElem?_eq_some_iff.1 hj
    obtain ⟨h2, h2'⟩ := List.getElem?_eq_some_iff.1 hq
    have := (List.getElem_inj hn).1 (h1'.trans h2'.symm)
    omega
  · cases hj
def rotL (l : List Int) : List Int := l.drop 1 ++ l.take 1
theorem rotL_perm (l : List Int) : (rotL l).Perm l := List.perm_append_comm.trans (List.Perm.of_eq (List.take_append_drop 1 l))
theorem rotL_len (l : List Int) : (rotL l).length = l.length := (rotL_perm l).length_eq
theorem rotL_nodup {l : List Int} (h : l.Nodup) : (rotL l).Nodup := (rotL_perm l).nodup_iff.2 h
theorem rotL_mem {l : List Int} {p : Int} : p ∈ rotL l ↔ p ∈ l := (rotL_perm l).mem_iff
theorem rotL_at {l : List Int} {i : Nat} (hi : i < l.length) : (rotL l)[i]? = l[(i + 1) % l.length]? := by
  rw [rotL, List.getElem?_append, List.length_drop]
  split
  · rw [List.getElem?_drop, Nat.mod_eq_of_lt (by omega), Nat.add_comm]
  · have e : i + 1 = l.length := by omega
    rw [e, Nat.mod_self, List.getElem?_take, if_pos (by omega)]
    congr 1
    omega
/-- Who goes to a pane's place. -/
def rotF (l : List Int) (p : Int) : Int := l.getD ((rotL l).idxOf p) 0
theorem rotF_at {l : List Int} (hn : l.Nodup) {i : Nat} {q x : Int} (hq : (rotL l)[i]? = some q) (hx : l[i]? = some x) : rotF l q = x := by
  obtain ⟨h1, rfl⟩ := List.getElem?_eq_some_iff.1 hq
  rw [rotF, List.Nodup.idxOf_getElem (rotL_nodup hn), List.getD_eq_getElem?_getD, hx]
  rfl
def rotR (t : Spl) : Spl × Int := if (visS t 0 (0, [])).1 ≠ 0 then (zeroT, (visS t 0 (0, [])).1) else (renT (rotF (panesT t)) t, 0)
def swapF (a b p : Int) : Int := if p = b then a else if p = a then b else p
def swapR (t : Spl) (a b : Int) : Spl × Int :=
  if (visS t 0 (0, [])).1 ≠ 0 then (zeroT, (visS t 0 (0, [])).1) else if a ∈ panesT t ∧ b ∈ panesT t then (renT (swapF a b) t, 0) else (zeroT, 6)
theorem right_bounds (t : Spl) : ∀ way, t.right way → ∀ p ∈ panesT t, 1 ≤ p ∧ p ≤ 9999 := by
  induction t using spl_induct with
  | h w p s ks ih =>
    intro way hr q hq
    rw [right_mk] at hr
    rw [panesT_mk] at hq
    rcases hr.2 with ⟨h0, hk, h1, h2⟩ | ⟨hw, -, hk2, -, hkr⟩
    · rw [if_pos h0, List.mem_singleton] at hq
      omega
    · rw [if_neg (by omega)] at hq
      obtain ⟨k, hk, hq⟩ := List.mem_flatMap.1 hq
      exact ih k hk w (hkr k hk) q hq
theorem perm_map (A B C : Blk) (N : Mem) : (A :: B :: C :: N).Perm ((N ++ [A]) ++ [B, C]) := by
  have h := List.perm_append_comm (l₁ := [A, B, C]) (l₂ := N)
  refine h.trans (List.Perm.of_eq ?_)
  simp
theorem wk_map {σ1 N : Mem} {A B C : Blk} (h : wkMem σ1 (N ++ [A])) : wkMem (σ1 ++ [B, C]) (A :: B :: C :: N) := by
  obtain ⟨q, hq⟩ := h
  refine ⟨q, ?_⟩
  have h1 : (σ1 ++ [B, C]).Perm ((N ++ [A] ++ q) ++ [B, C]) := hq.append_right _
  have h2 : ((N ++ [A] ++ q) ++ [B, C]).Perm ((N ++ [A]) ++ [B, C] ++ q) := by
    rw [List.append_assoc (N ++ [A]) q, List.append_assoc (N ++ [A])]
    exact List.Perm.append_left _ List.perm_append_comm
  exact (h1.trans h2).trans ((perm_map A B C N).symm.append_right q)
theorem swapP_ok (t : Spl) (ht : t.ok) (a b : Int) : Pure Tryd.prog W 12 [encSpl t, .int .i64 a, .int .i64 b] (.tup [encSpl (swapR t a b).1, .int .i64 (swapR t a b).2]) := by
  have hc := checkS_ok W t ht
  have hcp := copyOwn_ok W t ht
  have hr := @vis_right t
  have hpn := fun h => panes_ok W t 0 (hr h).1 (hr h).2.2.1
  have hbd := fun h => right_bounds t 0 (hr h).1
  unfold swapR
  generalize visS t 0 (0, []) = st at *
  by_cases h0 : st.1 = 0
  · rw [if_neg (by simpa using h0)]
    have hpn := hpn h0
    have hbd := hbd h0
    obtain ⟨hrt, -, hl12, hnd⟩ := hr h0
    have hok : ∀ p ∈ panesT t, i64ok p := fun p hp => by have := hbd p hp; unfold i64ok; omega
    generalize hl : panesT t = l at *
    have hln := panesV_len l
    generalize hR : (if a ∈ l ∧ b ∈ l then (renT (swapF a b) t, (0 : Int)) else (zeroT, 6)) = R
    obtain ⟨w, p, s, ks⟩ := t
    rw [encSpl_mk] at hc hpn hcp ⊢
    refine Pure.of (acalls_of_vc (drawOk W) Tryd.func12 rfl (by decide) (by decide) rfl ?_)
    (refine g0_ ?_; repeat ((first | refine n1_ fun b_ => ?_ | refine n2_ fun b_ => ?_ | refine Nat1.mk fun q_ hq_ => ?_ | refine em_ fun x_ hx_ => ?_ | refine Elem1.mk fun e_ he_ => ?_); refine g0_ ?_))
    refine (hc).use ?_; (refine g0_ ?_; repeat ((first | refine n1_ fun b_ => ?_ | refine n2_ fun b_ => ?_ | refine Nat1.mk fun q_ hq_ => ?_ | refine em_ fun x_ hx_ => ?_ | refine Elem1.mk fun e_ he_ => ?_); refine g0_ ?_))
    (refine g1_ ?_; repeat ((first | refine n1_ fun b_ => ?_ | refine n2_ fun b_ => ?_ | refine Nat1.mk fun q_ hq_ => ?_ | refine em_ fun x_ hx_ => ?_ | refine Elem1.mk fun e_ he_ => ?_); refine g1_ ?_))
    refine (hpn).use ?_
    (refine gm_ ?_; repeat ((first | refine n1_ fun b_ => ?_ | refine n2_ fun b_ => ?_ | refine Nat1.mk fun q_ hq_ => ?_ | refine em_ fun x_ hx_ => ?_ | refine Elem1.mk fun e_ he_ => ?_); refine gm_ ?_))
    rename_i bT bR
    obtain ⟨bm, rfl⟩ : ∃ z, z = b_ := ⟨_, rfl⟩
    refine' loopI (α := Nat) (fun i => [(22, .int .i64 i)]) [(1, _), (2, _), (3, _), (6, _), (9, _), (20, _), (21, _)] (fun i => [⟨bm, .mpc (mapE (fun p => p) (l.take i))⟩, ⟨bR, .row 4 [.agg [.int .i64 0, .int .i64 0, .int .i64 0, .nils]] 0⟩, ⟨bT, .row 4 [.agg [.int .i64 w, .int .i64 p, .int .i64 s, .sl 4 (ks.map encSpl)]] 0⟩]) (fun i => i ≤ l.length) (fun i => l.length - i) 0 ?_ ?_
    · exact Nat.zero_le _
    rintro i hi
    by_cases hie : i = l.length
    · subst hie
      rw [List.take_length]
      (refine gdm_ ?_; repeat ((first | refine n1_ fun b_ => ?_ | refine n2_ fun b_ => ?_ | refine Nat1.mk fun q_ hq_ => ?_ | refine em_ fun x_ hx_ => ?_ | refine Elem1.mk fun e_ he_ => ?_); refine gdm_ ?_))
      by_cases ha : a ∈ l
      · have ha1 := hbd a ha
        refine ⟨_, look_mapE (by repeat (first | exact .here _ _ _ | apply Look.there)) a a (if_pos ha).symm, ?_⟩
        (refine gdm_ ?_; repeat ((first | refine n1_ fun b_ => ?_ | refine n2_ fun b_ => ?_ | refine Nat1.mk fun q_ hq_ => ?_ | refine em_ fun x_ hx_ => ?_ | refine Elem1.mk fun e_ he_ => ?_); refine gdm_ ?_))
        by_cases hb : b ∈ l
        · have hb1 := hbd b hb
          refine ⟨_, look_mapE (by repeat (first | exact .here _ _ _ | apply Look.there)) b b (if_pos hb).symm, ?_⟩
          (refine gdm_ ?_; repeat ((first | refine n1_ fun b_ => ?_ | refine n2_ fun b_ => ?_ | refine Nat1.mk fun q_ hq_ => ?_ | refine em_ fun x_ hx_ => ?_ | refine Elem1.mk fun e_ he_ => ?_); refine gdm_ ?_))
          refine .law _ _ _ (by repeat (first | exact .here _ _ _ | apply Look.there)) (again_mapE hok hnd ha) ?_
          (refine gm_ ?_; repeat ((first | refine n1_ fun b_ => ?_ | refine n2_ fun b_ => ?_ | refine Nat1.mk fun q_ hq_ => ?_ | refine em_ fun x_ hx_ => ?_ | refine Elem1.mk fun e_ he_ => ?_); refine gm_ ?_))
          refine .law _ _ _ (by repeat (first | exact .here _ _ _ | apply Look.there)) (again_mapE hok hnd hb) ?_
          (refine gm_ ?_; repeat ((first | refine n1_ fun b_ => ?_ | refine n2_ fun b_ => ?_ | refine Nat1.mk fun q_ hq_ => ?_ | refine em_ fun x_ hx_ => ?_ | refine Elem1.mk fun e_ he_ => ?_); refine gm_ ?_))
          rw [if_pos ⟨ha, hb⟩] at hR
          subst hR
          refine ACalls.giveE hcp ?_
          rintro x hx
          have hrn := rename_ok W bm (mapE (swapF a b) l) (swapF a b) l (fun p hp {σ r} hl' => look_mapE hl' p ((swapF a b) p) (if_pos hp).symm) x 0 (by rw [hx]; exact hrt) (by rw [hx, hl]; omega) (by rw [hx, hl]; exact fun p hp => hp)
          have hxr : ownT (renO (swapF a b) x) = renT (swapF a b) (Spl.mk w p s ks) := by rw [ren_own, hx]
          generalize renO (swapF a b) x = X at *
          obtain ⟨w2, p2, s2, b2, ks2⟩ := x
          obtain ⟨w3, p3, s3, b3, ks3⟩ := X
          rcases ks2 with _ | ⟨k2, ks2⟩
          · rcases ks3 with _ | ⟨k3, ks3⟩
            · have e2 := ownV_mk w2 p2 s2 b2 []
              have e3 := ownV_mk w3 p3 s3 b3 []
              simp only [List.map_cons, List.map_nil, accV] at e2 e3
              rw [e2] at hrn ⊢
              (refine gm_ ?_; repeat ((first | refine n1_ fun b_ => ?_ | refine n2_ fun b_ => ?_ | refine Nat1.mk fun q_ hq_ => ?_ | refine em_ fun x_ hx_ => ?_ | refine Elem1.mk fun e_ he_ => ?_); refine gm_ ?_))
              refine ACalls.lendX hrn (perm_map _ _ _ _) ?_
              rintro v σ1 ⟨_, -, rfl, hwk⟩
              refine ⟨_, wk_map hwk, ?_⟩
              rw [e3]
              (refine gm_ ?_; repeat ((first | refine n1_ fun b_ => ?_ | refine n2_ fun b_ => ?_ | refine Nat1.mk fun q_ hq_ => ?_ | refine em_ fun x_ hx_ => ?_ | refine Elem1.mk fun e_ he_ => ?_); refine gm_ ?_))
              rw [← e3, ← hxr]
              exact frz_t2 (frz_own _ _ fun k hk => by simp [hk])
            · have e2 := ownV_mk w2 p2 s2 b2 []
              have e3 := ownV_mk w3 p3 s3 b3 (k3 :: ks3)
              simp only [List.map_cons, List.map_nil, accV] at e2 e3
              rw [e2] at hrn ⊢
              (refine gm_ ?_; repeat ((first | refine n1_ fun b_ => ?_ | refine n2_ fun b_ => ?_ | refine Nat1.mk fun q_ hq_ => ?_ | refine em_ fun x_ hx_ => ?_ | refine Elem1.mk fun e_ he_ => ?_); refine gm_ ?_))
              refine ACalls.lendX hrn (perm_map _ _ _ _) ?_
              rintro v σ1 ⟨_, -, rfl, hwk⟩
              refine ⟨_, wk_map hwk, ?_⟩
              rw [e3]
              (refine gm_ ?_; repeat ((first | refine n1_ fun b_ => ?_ | refine n2_ fun b_ => ?_ | refine Nat1.mk fun q_ hq_ => ?_ | refine em_ fun x_ hx_ => ?_ | refine Elem1.mk fun e_ he_ => ?_); refine gm_ ?_))
              rw [← e3, ← hxr]
              exact frz_t2 (frz_own _ _ fun k hk => by simp [hk])
          · rcases ks3 with _ | ⟨k3, ks3⟩
            · have e2 := ownV_mk w2 p2 s2 b2 (k2 :: ks2)
              have e3 := ownV_mk w3 p3 s3 b3 []
              simp only [List.map_cons, List.map_nil, accV] at e2 e3
              rw [e2] at hrn ⊢
              (refine gm_ ?_; repeat ((first | refine n1_ fun b_ => ?_ | refine n2_ fun b_ => ?_ | refine Nat1.mk fun q_ hq_ => ?_ | refine em_ fun x_ hx_ => ?_ | refine Elem1.mk fun e_ he_ => ?_); refine gm_ ?_))
              refine ACalls.lendX hrn (perm_map _ _ _ _) ?_
              rintro v σ1 ⟨_, -, rfl, hwk⟩
              refine ⟨_, wk_map hwk, ?_⟩
              rw [e3]
              (refine gm_ ?_; repeat ((first | refine n1_ fun b_ => ?_ | refine n2_ fun b_ => ?_ | refine Nat1.mk fun q_ hq_ => ?_ | refine em_ fun x_ hx_ => ?_ | refine Elem1.mk fun e_ he_ => ?_); refine gm_ ?_))
              rw [← e3, ← hxr]
              exact frz_t2 (frz_own _ _ fun k hk => by simp [hk])
            · have e2 := ownV_mk w2 p2 s2 b2 (k2 :: ks2)
              have e3 := ownV_mk w3 p3 s3 b3 (k3 :: ks3)
              simp only [List.map_cons, List.map_nil, accV] at e2 e3
              rw [e2] at hrn ⊢
              (refine gm_ ?_; repeat ((first | refine n1_ fun b_ => ?_ | refine n2_ fun b_ => ?_ | refine Nat1.mk fun q_ hq_ => ?_ | refine em_ fun x_ hx_ => ?_ | refine Elem1.mk fun e_ he_ => ?_); refine gm_ ?_))
              refine ACalls.lendX hrn (perm_map _ _ _ _) ?_
              rintro v σ1 ⟨_, -, rfl, hwk⟩
              refine ⟨_, wk_map hwk, ?_⟩
              rw [e3]
              (refine gm_ ?_; repeat ((first | refine n1_ fun b_ => ?_ | refine n2_ fun b_ => ?_ | refine Nat1.mk fun q_ hq_ => ?_ | refine em_ fun x_ hx_ => ?_ | refine Elem1.mk fun e_ he_ => ?_); refine gm_ ?_))
              rw [← e3, ← hxr]
              exact frz_t2 (frz_own _ _ fun k hk => by simp [hk])
        · refine ⟨_, look_mapE (by repeat (first | exact .here _ _ _ | apply Look.there)) b 0 (if_neg hb).symm, ?_⟩
          (refine gdm_ ?_; repeat ((first | refine n1_ fun b_ => ?_ | refine n2_ fun b_ => ?_ | refine Nat1.mk fun q_ hq_ => ?_ | refine em_ fun x_ hx_ => ?_ | refine Elem1.mk fun e_ he_ => ?_); refine gdm_ ?_))
          rw [if_neg (fun h => hb h.2)] at hR
          subst hR
          exact frz_t2 (frz_zeroT _)
      · refine ⟨_, look_mapE (by repeat (first | exact .here _ _ _ | apply Look.there)) a 0 (if_neg ha).symm, ?_⟩
        (refine gdm_ ?_; repeat ((first | refine n1_ fun b_ => ?_ | refine n2_ fun b_ => ?_ | refine Nat1.mk fun q_ hq_ => ?_ | refine em_ fun x_ hx_ => ?_ | refine Elem1.mk fun e_ he_ => ?_); refine gdm_ ?_))
        rw [if_neg (fun h => ha h.1)] at hR
        subst hR
        exact frz_t2 (frz_zeroT _)
    · have hil : i < l.length := by omega
      obtain ⟨q, hq⟩ : ∃ q, l[i]? = some q := ⟨_, List.getElem?_eq_getElem hil⟩
      have hqm := List.mem_of_getElem? hq
      have hqn : q ∉ l.take i := not_take hnd hq
      have hins := ins_mapE (f := fun p => p) (l := l.take i) (a := q) (v := q) (fun p hp => hok p (List.mem_of_mem_take hp)) (hok q hqm) hqn rfl
      rw [← take_snoc_of hq] at hins
      (refine gdm_ ?_; repeat ((first | refine n1_ fun b_ => ?_ | refine n2_ fun b_ => ?_ | refine Nat1.mk fun q_ hq_ => ?_ | refine em_ fun x_ hx_ => ?_ | refine Elem1.mk fun e_ he_ => ?_); refine gdm_ ?_))
      refine .law _ _ _ (by repeat (first | exact .here _ _ _ | apply Look.there)) hins ?_
      (refine gm_ ?_; repeat ((first | refine n1_ fun b_ => ?_ | refine n2_ fun b_ => ?_ | refine Nat1.mk fun q_ hq_ => ?_ | refine em_ fun x_ hx_ => ?_ | refine Elem1.mk fun e_ he_ => ?_); refine gm_ ?_))
      refine nx_ (i + 1) ?_ ?_
      · exact hil
      · ((try dsimp only); (try simp only [List.length_drop, List.length_take, List.length_append, List.length_cons, List.length_nil, List.length_map] at *); omega)
  · rw [if_pos h0]
    obtain ⟨w, p, s, ks⟩ := t
    rw [encSpl_mk] at hc ⊢
    refine Pure.of (acalls_of_vc (drawOk W) Tryd.func12 rfl (by decide) (by decide) rfl ?_)
    (refine g0_ ?_; repeat ((first | refine n1_ fun b_ => ?_ | refine n2_ fun b_ => ?_ | refine Nat1.mk fun q_ hq_ => ?_ | refine em_ fun x_ hx_ => ?_ | refine Elem1.mk fun e_ he_ => ?_); refine g0_ ?_))
    refine (hc).use ?_; (refine g0_ ?_; repeat ((first | refine n1_ fun b_ => ?_ | refine n2_ fun b_ => ?_ | refine Nat1.mk fun q_ hq_ => ?_ | refine em_ fun x_ hx_ => ?_ | refine Elem1.mk fun e_ he_ => ?_); refine g0_ ?_))
    (refine g1_ ?_; repeat ((first | refine n1_ fun b_ => ?_ | refine n2_ fun b_ => ?_ | refine Nat1.mk fun q_ hq_ => ?_ | refine em_ fun x_ hx_ => ?_ | refine Elem1.mk fun e_ he_ => ?_); refine g1_ ?_))
    exact frz_t2 (frz_zeroT _)
theorem rotP_ok (t : Spl) (ht : t.ok) : Pure Tryd.prog W 11 [encSpl t] (.tup [encSpl (rotR t).1, .int .i64 (rotR t).2]) := by
  have hc := checkS_ok W t ht
  have hcp := copyOwn_ok W t ht
  have hr := @vis_right t
  have hpn := fun h => panes_ok W t 0 (hr h).1 (hr h).2.2.1
  have hbd := fun h => right_bounds t 0 (hr h).1
  have hpos := fun h => right_panes t 0 (hr h).1
  unfold rotR
  generalize visS t 0 (0, []) = st at *
  by_cases h0 : st.1 = 0
  · rw [if_neg (by simpa using h0)]
    have hpn := hpn h0
    have hbd := hbd h0
    have hpos := hpos h0
    obtain ⟨hrt, -, hl12, hnd⟩ := hr h0
    have hok : ∀ p ∈ rotL (panesT t), i64ok p := fun p hp => by have := hbd p (rotL_mem.1 hp); unfold i64ok; omega
    generalize hl : panesT t = l at *
    have hln := panesV_len l
    have hrl := rotL_len l
    have hrn := rotL_nodup hnd
    obtain ⟨w, p, s, ks⟩ := t
    rw [encSpl_mk] at hc hpn hcp
    rw [encSpl_mk w p s ks]
    refine Pure.of (acalls_of_vc (drawOk W) Tryd.func11 rfl (by decide) (by decide) rfl ?_)
    (refine g0_ ?_; repeat ((first | refine n1_ fun b_ => ?_ | refine n2_ fun b_ => ?_ | refine Nat1.mk fun q_ hq_ => ?_ | refine em_ fun x_ hx_ => ?_ | refine Elem1.mk fun e_ he_ => ?_); refine g0_ ?_))
    refine (hc).use ?_; (refine g0_ ?_; repeat ((first | refine n1_ fun b_ => ?_ | refine n2_ fun b_ => ?_ | refine Nat1.mk fun q_ hq_ => ?_ | refine em_ fun x_ hx_ => ?_ | refine Elem1.mk fun e_ he_ => ?_); refine g0_ ?_))
    (refine g1_ ?_; repeat ((first | refine n1_ fun b_ => ?_ | refine n2_ fun b_ => ?_ | refine Nat1.mk fun q_ hq_ => ?_ | refine em_ fun x_ hx_ => ?_ | refine Elem1.mk fun e_ he_ => ?_); refine g1_ ?_))
    refine (hpn).use ?_
    (refine gm_ ?_; repeat ((first | refine n1_ fun b_ => ?_ | refine n2_ fun b_ => ?_ | refine Nat1.mk fun q_ hq_ => ?_ | refine em_ fun x_ hx_ => ?_ | refine Elem1.mk fun e_ he_ => ?_); refine gm_ ?_))
    rename_i bT bR
    obtain ⟨bm, rfl⟩ : ∃ z, z = b_ := ⟨_, rfl⟩
    refine' loopI (α := Nat) (fun i => [(20, .int .i64 i)]) [(1, _), (2, _), (5, _), (6, _), (18, _), (19, _)] (fun i => [⟨bm, .mpc (mapE (rotF l) ((rotL l).take i))⟩, ⟨bR, .row 4 [.agg [.int .i64 0, .int .i64 0, .int .i64 0, .nils]] 0⟩, ⟨bT, .row 4 [.agg [.int .i64 w, .int .i64 p, .int .i64 s, .sl 4 (ks.map encSpl)]] 0⟩]) (fun i => i ≤ l.length) (fun i => l.length - i) 0 ?_ ?_
    · exact Nat.zero_le _
    rintro i hi
    by_cases hie : i = l.length
    · subst hie
      rw [← hrl, List.take_length, hrl]
      (refine gdm_ ?_; repeat ((first | refine n1_ fun b_ => ?_ | refine n2_ fun b_ => ?_ | refine Nat1.mk fun q_ hq_ => ?_ | refine em_ fun x_ hx_ => ?_ | refine Elem1.mk fun e_ he_ => ?_); refine gdm_ ?_))
      refine ACalls.giveE hcp ?_
      clear hrn hok
      rintro x hx
      have hrn := rename_ok W bm (mapE (rotF l) (rotL l)) (rotF l) (rotL l) (fun p hp {σ r} hl' => look_mapE hl' p ((rotF l) p) (if_pos hp).symm) x 0 (by rw [hx]; exact hrt) (by rw [hx, hl]; omega) (by rw [hx, hl]; exact fun p hp => (rotL_mem.2 hp))
      have hxr : ownT (renO (rotF l) x) = renT (rotF l) (Spl.mk w p s ks) := by rw [ren_own, hx]
      generalize renO (rotF l) x = X at *
      obtain ⟨w2, p2, s2, b2, ks2⟩ := x
      obtain ⟨w3, p3, s3, b3, ks3⟩ := X
      rcases ks2 with _ | ⟨k2, ks2⟩
      · rcases ks3 with _ | ⟨k3, ks3⟩
        · have e2 := ownV_mk w2 p2 s2 b2 []
          have e3 := ownV_mk w3 p3 s3 b3 []
          simp only [List.map_cons, List.map_nil, accV] at e2 e3
          rw [e2] at hrn ⊢
          (refine gm_ ?_; repeat ((first | refine n1_ fun b_ => ?_ | refine n2_ fun b_ => ?_ | refine Nat1.mk fun q_ hq_ => ?_ | refine em_ fun x_ hx_ => ?_ | refine Elem1.mk fun e_ he_ => ?_); refine gm_ ?_))
          refine ACalls.lendX hrn (perm_map _ _ _ _) ?_
          rintro v σ1 ⟨_, -, rfl, hwk⟩
          refine ⟨_, wk_map hwk, ?_⟩
          rw [e3]
          (refine gm_ ?_; repeat ((first | refine n1_ fun b_ => ?_ | refine n2_ fun b_ => ?_ | refine Nat1.mk fun q_ hq_ => ?_ | refine em_ fun x_ hx_ => ?_ | refine Elem1.mk fun e_ he_ => ?_); refine gm_ ?_))
          rw [← e3, ← hxr]
          exact frz_t2 (frz_own _ _ fun k hk => by simp [hk])
        · have e2 := ownV_mk w2 p2 s2 b2 []
          have e3 := ownV_mk w3 p3 s3 b3 (k3 :: ks3)
          simp only [List.map_cons, List.map_nil, accV] at e2 e3
          rw [e2] at hrn ⊢
          (refine gm_ ?_; repeat ((first | refine n1_ fun b_ => ?_ | refine n2_ fun b_ => ?_ | refine Nat1.mk fun q_ hq_ => ?_ | refine em_ fun x_ hx_ => ?_ | refine Elem1.mk fun e_ he_ => ?_); refine gm_ ?_))
          refine ACalls.lendX hrn (perm_map _ _ _ _) ?_
          rintro v σ1 ⟨_, -, rfl, hwk⟩
          refine ⟨_, wk_map hwk, ?_⟩
          rw [e3]
          (refine gm_ ?_; repeat ((first | refine n1_ fun b_ => ?_ | refine n2_ fun b_ => ?_ | refine Nat1.mk fun q_ hq_ => ?_ | refine em_ fun x_ hx_ => ?_ | refine Elem1.mk fun e_ he_ => ?_); refine gm_ ?_))
          rw [← e3, ← hxr]
          exact frz_t2 (frz_own _ _ fun k hk => by simp [hk])
      · rcases ks3 with _ | ⟨k3, ks3⟩
        · have e2 := ownV_mk w2 p2 s2 b2 (k2 :: ks2)
          have e3 := ownV_mk w3 p3 s3 b3 []
          simp only [List.map_cons, List.map_nil, accV] at e2 e3
          rw [e2] at hrn ⊢
          (refine gm_ ?_; repeat ((first | refine n1_ fun b_ => ?_ | refine n2_ fun b_ => ?_ | refine Nat1.mk fun q_ hq_ => ?_ | refine em_ fun x_ hx_ => ?_ | refine Elem1.mk fun e_ he_ => ?_); refine gm_ ?_))
          refine ACalls.lendX hrn (perm_map _ _ _ _) ?_
          rintro v σ1 ⟨_, -, rfl, hwk⟩
          refine ⟨_, wk_map hwk, ?_⟩
          rw [e3]
          (refine gm_ ?_; repeat ((first | refine n1_ fun b_ => ?_ | refine n2_ fun b_ => ?_ | refine Nat1.mk fun q_ hq_ => ?_ | refine em_ fun x_ hx_ => ?_ | refine Elem1.mk fun e_ he_ => ?_); refine gm_ ?_))
          rw [← e3, ← hxr]
          exact frz_t2 (frz_own _ _ fun k hk => by simp [hk])
        · have e2 := ownV_mk w2 p2 s2 b2 (k2 :: ks2)
          have e3 := ownV_mk w3 p3 s3 b3 (k3 :: ks3)
          simp only [List.map_cons, List.map_nil, accV] at e2 e3
          rw [e2] at hrn ⊢
          (refine gm_ ?_; repeat ((first | refine n1_ fun b_ => ?_ | refine n2_ fun b_ => ?_ | refine Nat1.mk fun q_ hq_ => ?_ | refine em_ fun x_ hx_ => ?_ | refine Elem1.mk fun e_ he_ => ?_); refine gm_ ?_))
          refine ACalls.lendX hrn (perm_map _ _ _ _) ?_
          rintro v σ1 ⟨_, -, rfl, hwk⟩
          refine ⟨_, wk_map hwk, ?_⟩
          rw [e3]
          (refine gm_ ?_; repeat ((first | refine n1_ fun b_ => ?_ | refine n2_ fun b_ => ?_ | refine Nat1.mk fun q_ hq_ => ?_ | refine em_ fun x_ hx_ => ?_ | refine Elem1.mk fun e_ he_ => ?_); refine gm_ ?_))
          rw [← e3, ← hxr]
          exact frz_t2 (frz_own _ _ fun k hk => by simp [hk])
    · have hil : i < l.length := by omega
      obtain ⟨x, hx⟩ : ∃ x, l[i]? = some x := ⟨_, List.getElem?_eq_getElem hil⟩
      obtain ⟨q, hq⟩ : ∃ q, (rotL l)[i]? = some q := ⟨_, List.getElem?_eq_getElem (by omega)⟩
      have hq2 := hq
      rw [rotL_at hil] at hq2
      have hqn : q ∉ (rotL l).take i := not_take hrn hq
      have hins := ins_mapE (f := rotF l) (l := (rotL l).take i) (a := q) (v := x) (fun p hp => hok p (List.mem_of_mem_take hp)) (hok q (List.mem_of_getElem? hq)) hqn (rotF_at hnd hq hx)
      rw [← take_snoc_of hq] at hins
      have hml := Nat.mod_lt (i + 1) (show 0 < l.length by omega)
      have hm : ((i : Int) + 1).tmod ((panesV l).length : Int) = (((i + 1) % l.length : Nat) : Int) := by rw [hln]; rfl
      obtain ⟨m, hmd⟩ : ∃ m, m = (i + 1) % l.length := ⟨_, rfl⟩
      rw [← hmd] at hm hml
      (refine gdm_ ?_; repeat ((first | refine n1_ fun b_ => ?_ | refine n2_ fun b_ => ?_ | refine Nat1.mk fun q_ hq_ => ?_ | refine em_ fun x_ hx_ => ?_ | refine Elem1.mk fun e_ he_ => ?_); refine gdm_ ?_))
      rw [hln, hq2] at hx_
      obtain rfl := Option.some.inj hx_
      refine .law _ _ _ (by repeat (first | exact .here _ _ _ | apply Look.there)) hins ?_
      (refine gm_ ?_; repeat ((first | refine n1_ fun b_ => ?_ | refine n2_ fun b_ => ?_ | refine Nat1.mk fun q_ hq_ => ?_ | refine em_ fun x_ hx_ => ?_ | refine Elem1.mk fun e_ he_ => ?_); refine gm_ ?_))
      refine nx_ (i + 1) ?_ ?_
      · exact hil
      · ((try dsimp only); (try simp only [List.length_drop, List.length_take, List.length_append, List.length_cons, List.length_nil, List.length_map] at *); omega)
  · rw [if_pos h0]
    obtain ⟨w, p, s, ks⟩ := t
    rw [encSpl_mk] at hc ⊢
    refine Pure.of (acalls_of_vc (drawOk W) Tryd.func11 rfl (by decide) (by decide) rfl ?_)
    (refine g0_ ?_; repeat ((first | refine n1_ fun b_ => ?_ | refine n2_ fun b_ => ?_ | refine Nat1.mk fun q_ hq_ => ?_ | refine em_ fun x_ hx_ => ?_ | refine Elem1.mk fun e_ he_ => ?_); refine g0_ ?_))
    refine (hc).use ?_; (refine g0_ ?_; repeat ((first | refine n1_ fun b_ => ?_ | refine n2_ fun b_ => ?_ | refine Nat1.mk fun q_ hq_ => ?_ | refine em_ fun x_ hx_ => ?_ | refine Elem1.mk fun e_ he_ => ?_); refine g0_ ?_))
    (refine g1_ ?_; repeat ((first | refine n1_ fun b_ => ?_ | refine n2_ fun b_ => ?_ | refine Nat1.mk fun q_ hq_ => ?_ | refine em_ fun x_ hx_ => ?_ | refine Elem1.mk fun e_ he_ => ?_); refine g1_ ?_))
    exact frz_t2 (frz_zeroT _)
end Go.Eng.YtimpfhokacfobaaDoor
end
