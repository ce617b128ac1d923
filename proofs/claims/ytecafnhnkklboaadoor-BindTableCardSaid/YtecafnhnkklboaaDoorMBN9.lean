/- Texts put together: BndK. -/
import Derived.Test.YtecafnhnkklboaaDoorMBN8
import Derived.Test.YtecafnhnkklboaaDoorMKY11
import Derived.Test.YtecafnhnkklboaaDoorME6
/- The law BindTable (b_ x_ q_ e_). -/
section
namespace Go.Eng.YtecafnhnkklboaaDoor
open Go Go.Eng Go.Proofs Go.Maps
variable (W : World)
set_option linter.unusedSimpArgs false
set_option maxRecDepth 100000
set_option linter.unusedVariables false
set_option maxHeartbeats 8000000
def tellT (L : List Bnd) : List UInt8 := L.flatMap fun b => nameK b.k ++ [58] ++ b.cmd ++ [44]
def tellF : List UInt8 := [37, 58, 99, 117, 116, 32, 114, 111, 119, 44, 118, 58, 99, 117, 116, 32, 99, 111, 108, 117, 109, 110, 44, 120, 58, 99, 108, 111, 115, 101, 44, 111, 58, 110, 101, 120, 116, 44, 122, 58, 122, 111, 111, 109, 44, 99, 58, 119, 105, 110, 100, 111, 119, 32, 110, 101, 119, 44, 110, 58, 115, 104, 111, 119, 32, 43, 44, 112, 58, 115, 104, 111, 119, 32, 45, 44, 93, 58, 112, 97, 115, 116, 101, 44]
theorem tell_first : tellT firstT.binds = tellF ∧ nameK firstT.pre = [67, 45, 98] := by decide +kernel
theorem first_keys : ∀ b ∈ firstT.binds, isKey b.k ∧ b.cmd.length ≤ 100 := by
  have key : (firstT.binds.all fun b => decide (isKey b.k ∧ b.cmd.length ≤ 100)) = true := by decide +kernel
  intro b hb
  exact of_decide_eq_true (List.all_eq_true.1 key b hb)
theorem tell_snoc {L : List Bnd} {i : Nat} {b : Bnd} (h : L[i]? = some b) : tellT (L.take (i + 1)) = tellT (L.take i) ++ (nameK b.k ++ [58] ++ b.cmd ++ [44]) := by
  rw [take_snoc_of h, tellT, List.flatMap_append]
  simp [tellT]
theorem first_pre : isKey firstT.pre := by decide +kernel
theorem ACalls.of_empty {f : FuncId} {sz : Nat} {k : PV → Mem → Prop} (h : ∀ a cap, ACalls Tryd.prog W f [.lit (.slice a 0 cap)] [] k) : ACalls Tryd.prog W f [.sl sz []] [] k := by
  refine ⟨(h none 0).body, fun K w vs hl hr hm hp => ?_⟩
  obtain ⟨v, rfl⟩ := List.length_eq_one_iff.1 hl.symm
  have h0 := hr 0 (by simp)
  simp only [List.getD_cons_zero] at h0
  obtain ⟨a, cap, rfl⟩ : ∃ a cap, v = .slice a 0 cap := by
    cases h0 with
    | sl0 _ a cap => exact ⟨a, cap, rfl⟩
    | sl _ _ b o cap => exact ⟨_, cap, rfl⟩
  exact (h a cap).run K w _ rfl (fun i hi => by
    obtain rfl : i = 0 := by simpa using hi
    exact .lit _) hm hp
/-- A copy of none: nil, or a row without elements. -/
theorem clone_none : ACalls Tryd.prog W 19 [.sl 5 []] [] (Gives (fun o : Option Nat => match o with | none => .nils | some b => .rsl b 5 0 0) (fun o => match o with | none => [] | some b => [⟨b, .row 5 [] 0⟩]) (fun _ => True)) := by
  refine ACalls.of_empty W fun a c => ?_
  refine acalls_of_vc (drawOk W) Tryd.func19 rfl (by decide) (by decide) rfl ?_
  (refine g0_ ?_; repeat ((first | refine n1_ fun b_ => ?_ | refine n2_ fun b_ => ?_ | refine Nat1.mk fun q_ hq_ => ?_ | refine em_ fun x_ hx_ => ?_ | refine Elem1.mk fun e_ he_ => ?_); refine g0_ ?_))
  refine ⟨_, eql_nil Tryd.underlying24 (.inl ⟨_, _, rfl, rfl⟩), ?_⟩
  (refine g0_ ?_; repeat ((first | refine n1_ fun b_ => ?_ | refine n2_ fun b_ => ?_ | refine Nat1.mk fun q_ hq_ => ?_ | refine em_ fun x_ hx_ => ?_ | refine Elem1.mk fun e_ he_ => ?_); refine g0_ ?_))
  refine brec ?_; intro c_ h; (try rw [h]); cases c_ <;> replace h := nm_ h
  · (refine g0_ ?_; repeat ((first | refine n1_ fun b_ => ?_ | refine n2_ fun b_ => ?_ | refine Nat1.mk fun q_ hq_ => ?_ | refine em_ fun x_ hx_ => ?_ | refine Elem1.mk fun e_ he_ => ?_); refine g0_ ?_))
    refine .inr ?_
    (refine g0_ ?_; repeat ((first | refine n1_ fun b_ => ?_ | refine n2_ fun b_ => ?_ | refine Nat1.mk fun q_ hq_ => ?_ | refine em_ fun x_ hx_ => ?_ | refine Elem1.mk fun e_ he_ => ?_); refine g0_ ?_))
    exact ⟨some b_, trivial, rfl, by (first | exact ⟨_, .refl _⟩ | exact wkMem.rfl' | exact ⟨_, .swap _ _ _⟩ | (repeat (first | exact wkMem.nil _ | exact wkMem.rfl' | exact wk_snoc _ _ _ | exact wk_fam (by assumption) _ _ _ | exact wk_famN (by assumption) _ _ _ | (apply wkMem.cons; (case' hl => (repeat (first | exact .here _ _ _ | apply Look.there)))) | apply wkMem.skip)))⟩
  · (refine g0_ ?_; repeat ((first | refine n1_ fun b_ => ?_ | refine n2_ fun b_ => ?_ | refine Nat1.mk fun q_ hq_ => ?_ | refine em_ fun x_ hx_ => ?_ | refine Elem1.mk fun e_ he_ => ?_); refine g0_ ?_))
    exact ⟨none, trivial, rfl, by (first | exact ⟨_, .refl _⟩ | exact wkMem.rfl' | exact ⟨_, .swap _ _ _⟩ | (repeat (first | exact wkMem.nil _ | exact wkMem.rfl' | exact wk_snoc _ _ _ | exact wk_fam (by assumption) _ _ _ | exact wk_famN (by assumption) _ _ _ | (apply wkMem.cons; (case' hl => (repeat (first | exact .here _ _ _ | apply Look.there)))) | apply wkMem.skip)))⟩
theorem frz_zeroB {σ : Mem} : Frz σ (.agg [.int .i64 0, .int .i32 0, .int .i64 0, .int .i64 0, .nils]) (.agg [.int .i64 0, .int .i32 0, .int .i64 0, .int .i64 0, .sl 5 []]) := by
  refine .agg _ _ rfl fun j hj => ?_
  match j, hj with
  | 0, _ => exact .refl _
  | 1, _ => exact .refl _
  | 2, _ => exact .refl _
  | 3, _ => exact .refl _
  | 4, _ => exact .nils _
theorem frz_tabW {σ : Mem} {pre : Key} {v : PV} {L : List PV} (h : Frz σ v (.sl 5 L)) : Frz σ (.agg [.int .i64 pre.kind, .int .i32 pre.r, .int .i64 pre.n, .int .i64 pre.held, v]) (.agg [.int .i64 pre.kind, .int .i32 pre.r, .int .i64 pre.n, .int .i64 pre.held, .sl 5 L]) := by
  refine .agg _ _ rfl fun j hj => ?_
  match j, hj with
  | 0, _ => exact .refl _
  | 1, _ => exact .refl _
  | 2, _ => exact .refl _
  | 3, _ => exact .refl _
  | 4, _ => exact h
theorem frz_pre {σ r : Mem} {b sz n fz : Nat} {es es' : List PV} (hl : Look σ b (.row sz es fz) r) (hn : es'.length = n) (he : ∃ q, es = es' ++ q) : Frz σ (.rsl b sz 0 n) (.sl sz es') := by
  obtain ⟨q, rfl⟩ := he
  refine .rsl b sz 0 n _ es' fz r hl (by rw [List.length_append]; omega) hn fun j hj => ?_
  rw [Nat.zero_add, List.getD_eq_getElem?_getD, List.getD_eq_getElem?_getD, List.getElem?_append_left (by omega)]
  exact .refl _
theorem cloneG_bnds (l : List Bnd) (h0 : l ≠ []) (hl : l.length * 48 ≤ 140737488355328) : ACalls Tryd.prog W 19 [.sl 5 (l.map encBnd)] [] (GivesRow 5 (l.map encBnd)) := by
  cases l with
  | nil => exact absurd rfl h0
  | cons x l => exact clone_bnds1 W x l (by simpa using hl)
theorem bindTable_ok (hK : Keyz W ∧ SpaceT W) (hM : MaxJ W) (t : BTab) (hto : t.ok) (h48 : t.binds.length * 48 ≤ 140737488351232) (k : Key) (hk : k.ok) (cmd : List UInt8) (hcl : cmd.length ≤ 140737488355328) :
    Pure Tryd.prog W 6 [encTab t, encKey k, .str cmd] (.bool true) := by
  obtain ⟨⟨hT, hN, hE⟩, hS⟩ := hK
  have hbd := bound_ok W hT hN hE
  have hkc := True.intro
  have hsz := bsame_ok W noTab noTab ⟨by unfold Key.ok i64ok i32ok noTab keyZ; decide, (fun b hb => by cases hb), by decide⟩ ⟨by unfold Key.ok i64ok i32ok noTab keyZ; decide, (fun b hb => by cases hb), by decide⟩
  rw [decide_eq_true rfl] at hsz
  have hbi := bbind_ok W t hto k hk cmd hcl
  have hck := bcheckR_ok W hN hM t hto
  have hcp := bcheck_ok W t hto
  have hsm := bsame_ok W t t hto hto
  rw [decide_eq_true rfl] at hsm
  have hfi := bfirst_ok W hT hN hE
  have hik : Pure Tryd.prog W 17 [.agg [.int .i64 k.kind, .int .i32 k.r, .int .i64 k.n, .int .i64 k.held]] (.bool (decide (isKey k))) := isKeyR_ok W hN k hk
  have hwd := bwordsOf_ok W hM cmd hcl
  have hcn := clone_bnds W t.binds (by omega)
  have hbm : (t.binds.map encBnd).length = t.binds.length := List.length_map _
  have hidx := index_bnds W t.binds k (fun b hb => hto.2.1 b hb) hk (by omega)
  obtain ⟨hpo, hL, -⟩ := hto
  generalize hX : bindE t k cmd = X at *
  obtain ⟨x, e⟩ := X
  generalize hEE : checkT t = E at *
  obtain ⟨pre, L⟩ := t
  obtain ⟨xp, xl⟩ := x
  unfold encTab at hbi hck hcp hsm
  unfold encTab encKey
  dsimp only at *
  unfold encTab at hfi
  refine Pure.of (acalls_of_vc (DL_ok (by decide)) Tryd.func6 rfl (by decide) (by decide) rfl ?_)
  (refine g0_ ?_; repeat ((first | refine n1_ fun b_ => ?_ | refine n2_ fun b_ => ?_ | refine Nat1.mk fun q_ hq_ => ?_ | refine em_ fun x_ hx_ => ?_ | refine Elem1.mk fun e_ he_ => ?_); refine g0_ ?_))
  refine Draws10.chain ⟨8, [.new, .new, .new, .new, .new, .new, .turn, .skip], [(6, [.again, .again, .again, .again, .again, .again, .keep, .turn]), (7, [.keep, .keep, .keep, .keep, .keep, .keep, .keep, .keep])], by decide +kernel, ?_⟩; (refine g0_ ?_; repeat ((first | refine n1_ fun b_ => ?_ | refine n2_ fun b_ => ?_ | refine Nat1.mk fun q_ hq_ => ?_ | refine em_ fun x_ hx_ => ?_ | refine Elem1.mk fun e_ he_ => ?_); refine g0_ ?_))
  refine ⟨_, (hcn).quiet, ?_⟩; (refine g0_ ?_; repeat ((first | refine n1_ fun b_ => ?_ | refine n2_ fun b_ => ?_ | refine Nat1.mk fun q_ hq_ => ?_ | refine em_ fun x_ hx_ => ?_ | refine Elem1.mk fun e_ he_ => ?_); refine g0_ ?_))
  refine ⟨_, (hcn).quiet, ?_⟩; (refine g0_ ?_; repeat ((first | refine n1_ fun b_ => ?_ | refine n2_ fun b_ => ?_ | refine Nat1.mk fun q_ hq_ => ?_ | refine em_ fun x_ hx_ => ?_ | refine Elem1.mk fun e_ he_ => ?_); refine g0_ ?_))
  refine (hbi).use ?_; (refine g0_ ?_; repeat ((first | refine n1_ fun b_ => ?_ | refine n2_ fun b_ => ?_ | refine Nat1.mk fun q_ hq_ => ?_ | refine em_ fun x_ hx_ => ?_ | refine Elem1.mk fun e_ he_ => ?_); refine g0_ ?_))
  refine (hck).use ?_; (refine g0_ ?_; repeat ((first | refine n1_ fun b_ => ?_ | refine n2_ fun b_ => ?_ | refine Nat1.mk fun q_ hq_ => ?_ | refine em_ fun x_ hx_ => ?_ | refine Elem1.mk fun e_ he_ => ?_); refine g0_ ?_))
  refine (hbd).use ?_; (refine g0_ ?_; repeat ((first | refine n1_ fun b_ => ?_ | refine n2_ fun b_ => ?_ | refine Nat1.mk fun q_ hq_ => ?_ | refine em_ fun x_ hx_ => ?_ | refine Elem1.mk fun e_ he_ => ?_); refine g0_ ?_))
  (refine g1_ ?_; repeat ((first | refine n1_ fun b_ => ?_ | refine n2_ fun b_ => ?_ | refine Nat1.mk fun q_ hq_ => ?_ | refine em_ fun x_ hx_ => ?_ | refine Elem1.mk fun e_ he_ => ?_); refine g1_ ?_))
  refine (hcp).use ?_; (refine g0_ ?_; repeat ((first | refine n1_ fun b_ => ?_ | refine n2_ fun b_ => ?_ | refine Nat1.mk fun q_ hq_ => ?_ | refine em_ fun x_ hx_ => ?_ | refine Elem1.mk fun e_ he_ => ?_); refine g0_ ?_))
  (refine g1_ ?_; repeat ((first | refine n1_ fun b_ => ?_ | refine n2_ fun b_ => ?_ | refine Nat1.mk fun q_ hq_ => ?_ | refine em_ fun x_ hx_ => ?_ | refine Elem1.mk fun e_ he_ => ?_); refine g1_ ?_))
  refine (hsm).use ?_; (refine g0_ ?_; repeat ((first | refine n1_ fun b_ => ?_ | refine n2_ fun b_ => ?_ | refine Nat1.mk fun q_ hq_ => ?_ | refine em_ fun x_ hx_ => ?_ | refine Elem1.mk fun e_ he_ => ?_); refine g0_ ?_))
  (refine g1_ ?_; repeat ((first | refine n1_ fun b_ => ?_ | refine n2_ fun b_ => ?_ | refine Nat1.mk fun q_ hq_ => ?_ | refine em_ fun x_ hx_ => ?_ | refine Elem1.mk fun e_ he_ => ?_); refine g1_ ?_))
  refine (hfi).use ?_; (refine g0_ ?_; repeat ((first | refine n1_ fun b_ => ?_ | refine n2_ fun b_ => ?_ | refine Nat1.mk fun q_ hq_ => ?_ | refine em_ fun x_ hx_ => ?_ | refine Elem1.mk fun e_ he_ => ?_); refine g0_ ?_))
  (refine g1_ ?_; repeat ((first | refine n1_ fun b_ => ?_ | refine n2_ fun b_ => ?_ | refine Nat1.mk fun q_ hq_ => ?_ | refine em_ fun x_ hx_ => ?_ | refine Elem1.mk fun e_ he_ => ?_); refine g1_ ?_))
  rename_i b3 b4 b7
  obtain ⟨b8, rfl⟩ : ∃ b1, b1 = b_ := ⟨_, rfl⟩
  refine' loopI (α := Nat × (List UInt8)) (fun (i, s) => [(50, .int .i64 i), (11, .str s)]) [(2, _), (3, _), (4, _), (8, _), (9, _), (10, _), (48, _), (49, _)] (fun (i, s) => [⟨b8, .row 5 [.agg [.int .i64 xp.kind, .int .i32 xp.r, .int .i64 xp.n, .int .i64 xp.held, .sl 5 (xl.map encBnd)]] 0⟩, ⟨b4, .row 4 [.agg [.int .i64 k.kind, .int .i32 k.r, .int .i64 k.n, .int .i64 k.held]] 0⟩, ⟨b3, .row 5 [.agg [.int .i64 pre.kind, .int .i32 pre.r, .int .i64 pre.n, .int .i64 pre.held, .sl 5 (L.map encBnd)]] 0⟩]) (fun (i, s) => i ≤ 9 ∧ s = tellT (firstT.binds.take i) ∧ s.length ≤ 200 * i) (fun (i, s) => 9 - i) (0, []) ?_ ?_
  · exact ⟨Nat.zero_le _, rfl, Nat.zero_le _⟩
  have hf9 : (firstT.binds.map encBnd).length = 9 := rfl
  rintro ⟨i, s⟩ ⟨hi, hs, hsl⟩
  by_cases h9 : i = 9
  · subst h9
    rw [show firstT.binds.take 9 = firstT.binds from rfl, tell_first.1] at hs
    subst hs
    clear hsl
    have hkp : Pure Tryd.prog W 24 [.agg [.int .i64 firstT.pre.kind, .int .i32 firstT.pre.r, .int .i64 firstT.pre.n, .int .i64 firstT.pre.held]] (.str (nameK firstT.pre)) := keyName_ok W hN hS firstT.pre first_pre
    rw [tell_first.2] at hkp
    (refine g0_ ?_; repeat ((first | refine n1_ fun b_ => ?_ | refine n2_ fun b_ => ?_ | refine Nat1.mk fun q_ hq_ => ?_ | refine em_ fun x_ hx_ => ?_ | refine Elem1.mk fun e_ he_ => ?_); refine g0_ ?_))
    (refine g1_ ?_; repeat ((first | refine n1_ fun b_ => ?_ | refine n2_ fun b_ => ?_ | refine Nat1.mk fun q_ hq_ => ?_ | refine em_ fun x_ hx_ => ?_ | refine Elem1.mk fun e_ he_ => ?_); refine g1_ ?_))
    refine (hfi).use ?_; (refine g0_ ?_; repeat ((first | refine n1_ fun b_ => ?_ | refine n2_ fun b_ => ?_ | refine Nat1.mk fun q_ hq_ => ?_ | refine em_ fun x_ hx_ => ?_ | refine Elem1.mk fun e_ he_ => ?_); refine g0_ ?_))
    (refine g1_ ?_; repeat ((first | refine n1_ fun b_ => ?_ | refine n2_ fun b_ => ?_ | refine Nat1.mk fun q_ hq_ => ?_ | refine em_ fun x_ hx_ => ?_ | refine Elem1.mk fun e_ he_ => ?_); refine g1_ ?_))
    refine (hkp).use ?_; (refine g0_ ?_; repeat ((first | refine n1_ fun b_ => ?_ | refine n2_ fun b_ => ?_ | refine Nat1.mk fun q_ hq_ => ?_ | refine em_ fun x_ hx_ => ?_ | refine Elem1.mk fun e_ he_ => ?_); refine g0_ ?_))
    (refine g1_ ?_; repeat ((first | refine n1_ fun b_ => ?_ | refine n2_ fun b_ => ?_ | refine Nat1.mk fun q_ hq_ => ?_ | refine em_ fun x_ hx_ => ?_ | refine Elem1.mk fun e_ he_ => ?_); refine g1_ ?_))
    clear hkp hkc
    by_cases hE0 : E = 0
    · subst hE0
      have hX0 : bindE ⟨pre, L⟩ k cmd = if ¬ isKey k then (noTab, 5) else if (wordsB cmd).2 ≠ 0 then (noTab, (wordsB cmd).2)
          else if cmd = [] ∨ hasK L k = true then (⟨pre, bindL k cmd L⟩, 0)
          else if (bindL k cmd L).length = 20 then (noTab, 10) else (⟨pre, bindL k cmd L ++ [⟨k, cmd⟩]⟩, 0) := by
        unfold bindE
        rw [if_neg (by rw [hEE]; decide)]
      rw [hX] at hX0
      by_cases h1 : isKey k
      · rw [decide_eq_true h1] at hik
        rw [if_neg (by simpa using h1)] at hX0
        generalize hWB : wordsB cmd = WB at *
        obtain ⟨wl, we⟩ := WB
        dsimp only at hwd hX0
        by_cases h2 : we = 0
        · subst h2
          rw [if_neg (by simp)] at hX0
          clear hX hWB
          have hc2 : L.length ≤ 20 ∧ checkB [] L = 0 := by
            unfold checkT at hEE
            dsimp only at hEE
            split at hEE
            · cases hEE
            · split at hEE
              · cases hEE
              · exact ⟨by omega, hEE⟩
          have hnd := (checkB_nodup L [] hc2.2).2
          have hc20 := hc2.1
          clear hEE hc2
          rcases idx_cases k L 0 hnd with ⟨i1, i2, i3⟩ | ⟨A, b, B, hAB, hbk, i3, i4, i5, i6⟩
          · rw [i1] at hidx
            rw [i2, bindL_none k cmd L i3] at hX0
            clear i1 i2 i3 hnd
            by_cases hc : cmd = []
            · rw [if_pos (.inl hc)] at hX0
              cases hX0
              (refine g0_ ?_; repeat ((first | refine n1_ fun b_ => ?_ | refine n2_ fun b_ => ?_ | refine Nat1.mk fun q_ hq_ => ?_ | refine em_ fun x_ hx_ => ?_ | refine Elem1.mk fun e_ he_ => ?_); refine g0_ ?_))
              (refine g1_ ?_; repeat ((first | refine n1_ fun b_ => ?_ | refine n2_ fun b_ => ?_ | refine Nat1.mk fun q_ hq_ => ?_ | refine em_ fun x_ hx_ => ?_ | refine Elem1.mk fun e_ he_ => ?_); refine g1_ ?_))
              refine (hik).use ?_; (refine g0_ ?_; repeat ((first | refine n1_ fun b_ => ?_ | refine n2_ fun b_ => ?_ | refine Nat1.mk fun q_ hq_ => ?_ | refine em_ fun x_ hx_ => ?_ | refine Elem1.mk fun e_ he_ => ?_); refine g0_ ?_))
              (refine g1_ ?_; repeat ((first | refine n1_ fun b_ => ?_ | refine n2_ fun b_ => ?_ | refine Nat1.mk fun q_ hq_ => ?_ | refine em_ fun x_ hx_ => ?_ | refine Elem1.mk fun e_ he_ => ?_); refine g1_ ?_))
              refine (hwd).use ?_; (refine g0_ ?_; repeat ((first | refine n1_ fun b_ => ?_ | refine n2_ fun b_ => ?_ | refine Nat1.mk fun q_ hq_ => ?_ | refine em_ fun x_ hx_ => ?_ | refine Elem1.mk fun e_ he_ => ?_); refine g0_ ?_))
              (refine g1_ ?_; repeat ((first | refine n1_ fun b_ => ?_ | refine n2_ fun b_ => ?_ | refine Nat1.mk fun q_ hq_ => ?_ | refine em_ fun x_ hx_ => ?_ | refine Elem1.mk fun e_ he_ => ?_); refine g1_ ?_))
              refine ACalls.lend1 (hidx b4) (by repeat (first | exact .here _ _ _ | apply Look.there)) ?_
              rintro _ -
              (refine g1_ ?_; repeat ((first | refine n1_ fun b_ => ?_ | refine n2_ fun b_ => ?_ | refine Nat1.mk fun q_ hq_ => ?_ | refine em_ fun x_ hx_ => ?_ | refine Elem1.mk fun e_ he_ => ?_); refine g1_ ?_))
              refine (hcn).use ?_; (refine g0_ ?_; repeat ((first | refine n1_ fun b_ => ?_ | refine n2_ fun b_ => ?_ | refine Nat1.mk fun q_ hq_ => ?_ | refine em_ fun x_ hx_ => ?_ | refine Elem1.mk fun e_ he_ => ?_); refine g0_ ?_))
              (refine g1_ ?_; repeat ((first | refine n1_ fun b_ => ?_ | refine n2_ fun b_ => ?_ | refine Nat1.mk fun q_ hq_ => ?_ | refine em_ fun x_ hx_ => ?_ | refine Elem1.mk fun e_ he_ => ?_); refine g1_ ?_))
              refine (hsm).use ?_; (refine g0_ ?_; repeat ((first | refine n1_ fun b_ => ?_ | refine n2_ fun b_ => ?_ | refine Nat1.mk fun q_ hq_ => ?_ | refine em_ fun x_ hx_ => ?_ | refine Elem1.mk fun e_ he_ => ?_); refine g0_ ?_))
              (refine g1_ ?_; repeat ((first | refine n1_ fun b_ => ?_ | refine n2_ fun b_ => ?_ | refine Nat1.mk fun q_ hq_ => ?_ | refine em_ fun x_ hx_ => ?_ | refine Elem1.mk fun e_ he_ => ?_); refine g1_ ?_))
              exact .refl _
            · rw [if_neg (by simp [hc])] at hX0
              by_cases h20 : L.length = 20
              · rw [if_pos h20] at hX0
                cases hX0
                (refine g0_ ?_; repeat ((first | refine n1_ fun b_ => ?_ | refine n2_ fun b_ => ?_ | refine Nat1.mk fun q_ hq_ => ?_ | refine em_ fun x_ hx_ => ?_ | refine Elem1.mk fun e_ he_ => ?_); refine g0_ ?_))
                (refine g1_ ?_; repeat ((first | refine n1_ fun b_ => ?_ | refine n2_ fun b_ => ?_ | refine Nat1.mk fun q_ hq_ => ?_ | refine em_ fun x_ hx_ => ?_ | refine Elem1.mk fun e_ he_ => ?_); refine g1_ ?_))
                refine (hik).use ?_; (refine g0_ ?_; repeat ((first | refine n1_ fun b_ => ?_ | refine n2_ fun b_ => ?_ | refine Nat1.mk fun q_ hq_ => ?_ | refine em_ fun x_ hx_ => ?_ | refine Elem1.mk fun e_ he_ => ?_); refine g0_ ?_))
                (refine g1_ ?_; repeat ((first | refine n1_ fun b_ => ?_ | refine n2_ fun b_ => ?_ | refine Nat1.mk fun q_ hq_ => ?_ | refine em_ fun x_ hx_ => ?_ | refine Elem1.mk fun e_ he_ => ?_); refine g1_ ?_))
                refine (hwd).use ?_; (refine g0_ ?_; repeat ((first | refine n1_ fun b_ => ?_ | refine n2_ fun b_ => ?_ | refine Nat1.mk fun q_ hq_ => ?_ | refine em_ fun x_ hx_ => ?_ | refine Elem1.mk fun e_ he_ => ?_); refine g0_ ?_))
                (refine g1_ ?_; repeat ((first | refine n1_ fun b_ => ?_ | refine n2_ fun b_ => ?_ | refine Nat1.mk fun q_ hq_ => ?_ | refine em_ fun x_ hx_ => ?_ | refine Elem1.mk fun e_ he_ => ?_); refine g1_ ?_))
                refine ACalls.lend1 (hidx b4) (by repeat (first | exact .here _ _ _ | apply Look.there)) ?_
                rintro _ -
                (refine g1_ ?_; repeat ((first | refine n1_ fun b_ => ?_ | refine n2_ fun b_ => ?_ | refine Nat1.mk fun q_ hq_ => ?_ | refine em_ fun x_ hx_ => ?_ | refine Elem1.mk fun e_ he_ => ?_); refine g1_ ?_))
                refine hsz.borrow rfl rfl (fun j hj => ?_) ?_
                · match j, hj with
                  | 0, _ => exact .refl _
                  | 1, _ => exact frz_zeroB
                (refine g1_ ?_; repeat ((first | refine n1_ fun b_ => ?_ | refine n2_ fun b_ => ?_ | refine Nat1.mk fun q_ hq_ => ?_ | refine em_ fun x_ hx_ => ?_ | refine Elem1.mk fun e_ he_ => ?_); refine g1_ ?_))
                exact frz_bool (by simp)
              · rw [if_neg h20] at hX0
                cases hX0
                have hxo : BTab.ok ⟨pre, L ++ [(⟨k, cmd⟩ : Bnd)]⟩ := ⟨hpo, fun c hc => by
                  rcases List.mem_append.1 hc with hc | hc
                  · exact hL c hc
                  · rw [List.mem_singleton.1 hc]; exact ⟨hk, hcl⟩, by dsimp only; rw [List.length_append, List.length_singleton]; omega⟩
                have hsx := bsame_ok W ⟨pre, L ++ [(⟨k, cmd⟩ : Bnd)]⟩ ⟨pre, L ++ [(⟨k, cmd⟩ : Bnd)]⟩ hxo hxo
                rw [decide_eq_true rfl] at hsx
                unfold encTab at hsx
                dsimp only at hsx
                have hap : (L ++ [(⟨k, cmd⟩ : Bnd)]).map encBnd = L.map encBnd ++ [.agg [.int .i64 k.kind, .int .i32 k.r, .int .i64 k.n, .int .i64 k.held, .str cmd]] := by rw [List.map_append]; rfl
                have hba := bnds_all L
                rw [hap] at hsx
                have hcq : L ≠ [] → ACalls Tryd.prog W 19 [.sl 5 (L.map encBnd)] [] (GivesRow 5 (L.map encBnd)) := fun h => cloneG_bnds W L h (by omega)
                have hnl : L.map encBnd = [] → L = [] := by simp
                generalize L.map encBnd = PL at *
                rcases PL with _ | ⟨p0, PL⟩
                · obtain rfl := hnl rfl
                  have hcn0 := clone_none W
                  clear hcq hnl hba hap
                  (refine g0_ ?_; repeat ((first | refine n1_ fun b_ => ?_ | refine n2_ fun b_ => ?_ | refine Nat1.mk fun q_ hq_ => ?_ | refine em_ fun x_ hx_ => ?_ | refine Elem1.mk fun e_ he_ => ?_); refine g0_ ?_))
                  (refine g1_ ?_; repeat ((first | refine n1_ fun b_ => ?_ | refine n2_ fun b_ => ?_ | refine Nat1.mk fun q_ hq_ => ?_ | refine em_ fun x_ hx_ => ?_ | refine Elem1.mk fun e_ he_ => ?_); refine g1_ ?_))
                  refine (hik).use ?_; (refine g0_ ?_; repeat ((first | refine n1_ fun b_ => ?_ | refine n2_ fun b_ => ?_ | refine Nat1.mk fun q_ hq_ => ?_ | refine em_ fun x_ hx_ => ?_ | refine Elem1.mk fun e_ he_ => ?_); refine g0_ ?_))
                  (refine g1_ ?_; repeat ((first | refine n1_ fun b_ => ?_ | refine n2_ fun b_ => ?_ | refine Nat1.mk fun q_ hq_ => ?_ | refine em_ fun x_ hx_ => ?_ | refine Elem1.mk fun e_ he_ => ?_); refine g1_ ?_))
                  refine (hwd).use ?_; (refine g0_ ?_; repeat ((first | refine n1_ fun b_ => ?_ | refine n2_ fun b_ => ?_ | refine Nat1.mk fun q_ hq_ => ?_ | refine em_ fun x_ hx_ => ?_ | refine Elem1.mk fun e_ he_ => ?_); refine g0_ ?_))
                  (refine g1_ ?_; repeat ((first | refine n1_ fun b_ => ?_ | refine n2_ fun b_ => ?_ | refine Nat1.mk fun q_ hq_ => ?_ | refine em_ fun x_ hx_ => ?_ | refine Elem1.mk fun e_ he_ => ?_); refine g1_ ?_))
                  refine ACalls.lend1 (hidx b4) (by repeat (first | exact .here _ _ _ | apply Look.there)) ?_
                  rintro _ -
                  (refine g1_ ?_; repeat ((first | refine n1_ fun b_ => ?_ | refine n2_ fun b_ => ?_ | refine Nat1.mk fun q_ hq_ => ?_ | refine em_ fun x_ hx_ => ?_ | refine Elem1.mk fun e_ he_ => ?_); refine g1_ ?_))
                  refine ACalls.giveE hcn0 ?_
                  rintro o -
                  cases o
                  · dsimp only
                    (refine g0_ ?_; repeat ((first | refine n1_ fun b_ => ?_ | refine n2_ fun b_ => ?_ | refine Nat1.mk fun q_ hq_ => ?_ | refine em_ fun x_ hx_ => ?_ | refine Elem1.mk fun e_ he_ => ?_); refine g0_ ?_))
                    (refine g1_ ?_; repeat ((first | refine n1_ fun b_ => ?_ | refine n2_ fun b_ => ?_ | refine Nat1.mk fun q_ hq_ => ?_ | refine em_ fun x_ hx_ => ?_ | refine Elem1.mk fun e_ he_ => ?_); refine g1_ ?_))
                    refine .inl ?_
                    (refine g1_ ?_; repeat ((first | refine n1_ fun b_ => ?_ | refine n2_ fun b_ => ?_ | refine Nat1.mk fun q_ hq_ => ?_ | refine em_ fun x_ hx_ => ?_ | refine Elem1.mk fun e_ he_ => ?_); refine g1_ ?_))
                    refine hsx.borrow rfl rfl (fun j hj => ?_) ?_
                    · match j, hj with
                      | 0, _ => exact .refl _
                      | 1, _ => exact frz_tabW (frz_row (.here _ _ _) _ (by simp))
                    (refine g1_ ?_; repeat ((first | refine n1_ fun b_ => ?_ | refine n2_ fun b_ => ?_ | refine Nat1.mk fun q_ hq_ => ?_ | refine em_ fun x_ hx_ => ?_ | refine Elem1.mk fun e_ he_ => ?_); refine g1_ ?_))
                    exact frz_bool (by simp)
                  · dsimp only
                    (refine g0_ ?_; repeat ((first | refine n1_ fun b_ => ?_ | refine n2_ fun b_ => ?_ | refine Nat1.mk fun q_ hq_ => ?_ | refine em_ fun x_ hx_ => ?_ | refine Elem1.mk fun e_ he_ => ?_); refine g0_ ?_))
                    (refine g1_ ?_; repeat ((first | refine n1_ fun b_ => ?_ | refine n2_ fun b_ => ?_ | refine Nat1.mk fun q_ hq_ => ?_ | refine em_ fun x_ hx_ => ?_ | refine Elem1.mk fun e_ he_ => ?_); refine g1_ ?_))
                    refine .inl ?_
                    (refine g1_ ?_; repeat ((first | refine n1_ fun b_ => ?_ | refine n2_ fun b_ => ?_ | refine Nat1.mk fun q_ hq_ => ?_ | refine em_ fun x_ hx_ => ?_ | refine Elem1.mk fun e_ he_ => ?_); refine g1_ ?_))
                    refine hsx.borrow rfl rfl (fun j hj => ?_) ?_
                    · match j, hj with
                      | 0, _ => exact .refl _
                      | 1, _ => exact frz_tabW (frz_row (.here _ _ _) _ (by simp))
                    (refine g1_ ?_; repeat ((first | refine n1_ fun b_ => ?_ | refine n2_ fun b_ => ?_ | refine Nat1.mk fun q_ hq_ => ?_ | refine em_ fun x_ hx_ => ?_ | refine Elem1.mk fun e_ he_ => ?_); refine g1_ ?_))
                    exact frz_bool (by simp)
                · have hcn1 := hcq (by rintro rfl; simp at hbm)
                  simp only [List.length_cons] at hbm
                  simp only [List.all_cons, Bool.and_eq_true] at hba
                  have hbm2 : PL.length + 1 ≤ 20 := by omega
                  have hbm3 : ¬ PL.length + 1 = 20 := by omega
                  clear hcq hnl hc20 h20 hL
                  (refine g0_ ?_; repeat ((first | refine n1_ fun b_ => ?_ | refine n2_ fun b_ => ?_ | refine Nat1.mk fun q_ hq_ => ?_ | refine em_ fun x_ hx_ => ?_ | refine Elem1.mk fun e_ he_ => ?_); refine g0_ ?_))
                  (refine g1_ ?_; repeat ((first | refine n1_ fun b_ => ?_ | refine n2_ fun b_ => ?_ | refine Nat1.mk fun q_ hq_ => ?_ | refine em_ fun x_ hx_ => ?_ | refine Elem1.mk fun e_ he_ => ?_); refine g1_ ?_))
                  refine (hik).use ?_; (refine g0_ ?_; repeat ((first | refine n1_ fun b_ => ?_ | refine n2_ fun b_ => ?_ | refine Nat1.mk fun q_ hq_ => ?_ | refine em_ fun x_ hx_ => ?_ | refine Elem1.mk fun e_ he_ => ?_); refine g0_ ?_))
                  (refine g1_ ?_; repeat ((first | refine n1_ fun b_ => ?_ | refine n2_ fun b_ => ?_ | refine Nat1.mk fun q_ hq_ => ?_ | refine em_ fun x_ hx_ => ?_ | refine Elem1.mk fun e_ he_ => ?_); refine g1_ ?_))
                  refine (hwd).use ?_; (refine g0_ ?_; repeat ((first | refine n1_ fun b_ => ?_ | refine n2_ fun b_ => ?_ | refine Nat1.mk fun q_ hq_ => ?_ | refine em_ fun x_ hx_ => ?_ | refine Elem1.mk fun e_ he_ => ?_); refine g0_ ?_))
                  (refine g1_ ?_; repeat ((first | refine n1_ fun b_ => ?_ | refine n2_ fun b_ => ?_ | refine Nat1.mk fun q_ hq_ => ?_ | refine em_ fun x_ hx_ => ?_ | refine Elem1.mk fun e_ he_ => ?_); refine g1_ ?_))
                  refine ACalls.lend1 (hidx b4) (by repeat (first | exact .here _ _ _ | apply Look.there)) ?_
                  rintro _ -
                  (refine g1_ ?_; repeat ((first | refine n1_ fun b_ => ?_ | refine n2_ fun b_ => ?_ | refine Nat1.mk fun q_ hq_ => ?_ | refine em_ fun x_ hx_ => ?_ | refine Elem1.mk fun e_ he_ => ?_); refine g1_ ?_))
                  rw [decide_eq_false (show ¬ (((p0 :: PL).length : Nat) : Int) = 20 by rw [List.length_cons]; omega), Bool.and_false]
                  (refine g1_ ?_; repeat ((first | refine n1_ fun b_ => ?_ | refine n2_ fun b_ => ?_ | refine Nat1.mk fun q_ hq_ => ?_ | refine em_ fun x_ hx_ => ?_ | refine Elem1.mk fun e_ he_ => ?_); refine g1_ ?_))
                  refine ACalls.giveE hcn1 ?_
                  rintro bw -
                  clear hcn hcn1 hsm hidx hwd hik hck hbi hcp hfi hbd hsz hbm hf9
                  (refine g0_ ?_; repeat ((first | refine n1_ fun b_ => ?_ | refine n2_ fun b_ => ?_ | refine Nat1.mk fun q_ hq_ => ?_ | refine em_ fun x_ hx_ => ?_ | refine Elem1.mk fun e_ he_ => ?_); refine g0_ ?_))
                  (refine g1_ ?_; repeat ((first | refine n1_ fun b_ => ?_ | refine n2_ fun b_ => ?_ | refine Nat1.mk fun q_ hq_ => ?_ | refine em_ fun x_ hx_ => ?_ | refine Elem1.mk fun e_ he_ => ?_); refine g1_ ?_))
                  refine .inl ?_
                  (refine g1_ ?_; repeat ((first | refine n1_ fun b_ => ?_ | refine n2_ fun b_ => ?_ | refine Nat1.mk fun q_ hq_ => ?_ | refine em_ fun x_ hx_ => ?_ | refine Elem1.mk fun e_ he_ => ?_); refine g1_ ?_))
                  rw [hap]
                  refine hsx.borrow rfl rfl (fun j hj => ?_) ?_
                  · match j, hj with
                    | 0, _ => exact .refl _
                    | 1, _ => exact frz_tabW (frz_row (.here _ _ _) _ (by simp))
                  (refine g1_ ?_; repeat ((first | refine n1_ fun b_ => ?_ | refine n2_ fun b_ => ?_ | refine Nat1.mk fun q_ hq_ => ?_ | refine em_ fun x_ hx_ => ?_ | refine Elem1.mk fun e_ he_ => ?_); refine g1_ ?_))
                  exact frz_bool (by simp)
          · have hL0 : L ≠ [] := by rw [hAB]; simp
            have hcn1 := cloneG_bnds W L hL0 (by omega)
            rw [i3, Nat.zero_add] at hidx
            have hbl : bindL k cmd L = A ++ ((if cmd ≠ [] then [(⟨k, cmd⟩ : Bnd)] else []) ++ B) := by
              rw [hAB, bindL_app, bindL_none k cmd A i5, bindL, if_neg (by simpa using hbk), bindL_none k cmd B i6]
            rw [if_pos (.inr i4), hbl] at hX0
            have hAl : A.length < L.length := by rw [hAB]; simp
            have hlm2 : (List.map encBnd L).length = L.length := List.length_map _
            have hAe : (List.map encBnd L).take A.length = List.map encBnd A := by rw [hAB, List.map_append, List.take_left' (List.length_map _)]
            have hBe : (List.map encBnd L).drop (A.length + 1) = List.map encBnd B := by rw [← List.map_drop, hAB, List.drop_append]; simp
            by_cases hc : cmd = []
            · rw [if_neg (by simpa using hc), List.nil_append] at hX0
              cases hX0
              have hxo : BTab.ok ⟨pre, A ++ B⟩ := ⟨hpo, fun c hc => hL c (by
                rw [hAB]
                rcases List.mem_append.1 hc with hc | hc
                · exact List.mem_append_left _ hc
                · exact List.mem_append_right _ (List.mem_cons_of_mem _ hc)), by
                have : L.length = A.length + (B.length + 1) := by rw [hAB]; simp
                dsimp only
                rw [List.length_append]
                omega⟩
              have hsx := bsame_ok W ⟨pre, A ++ B⟩ ⟨pre, A ++ B⟩ hxo hxo
              rw [decide_eq_true rfl] at hsx
              unfold encTab at hsx
              dsimp only at hsx
              have hdl := fun bw => delS_ok W bw A.length (A.length + 1) rfl (List.map encBnd L) (bnds_all L) (by omega)
              rw [hAe, hBe, hlm2] at hdl
              have hne : (List.map encBnd (A ++ B)).length = L.length - 1 := by rw [List.length_map, hAB]; simp
              have hne2 : List.map encBnd A ++ List.map encBnd B ++ [zBnd] = List.map encBnd (A ++ B) ++ [zBnd] := by rw [List.map_append]
              rw [hne2] at hdl
              clear hAB hbl hAe hBe i3 i4 i5 i6 hnd hbk hL0
              (refine g0_ ?_; repeat ((first | refine n1_ fun b_ => ?_ | refine n2_ fun b_ => ?_ | refine Nat1.mk fun q_ hq_ => ?_ | refine em_ fun x_ hx_ => ?_ | refine Elem1.mk fun e_ he_ => ?_); refine g0_ ?_))
              (refine g1_ ?_; repeat ((first | refine n1_ fun b_ => ?_ | refine n2_ fun b_ => ?_ | refine Nat1.mk fun q_ hq_ => ?_ | refine em_ fun x_ hx_ => ?_ | refine Elem1.mk fun e_ he_ => ?_); refine g1_ ?_))
              refine (hik).use ?_; (refine g0_ ?_; repeat ((first | refine n1_ fun b_ => ?_ | refine n2_ fun b_ => ?_ | refine Nat1.mk fun q_ hq_ => ?_ | refine em_ fun x_ hx_ => ?_ | refine Elem1.mk fun e_ he_ => ?_); refine g0_ ?_))
              (refine g1_ ?_; repeat ((first | refine n1_ fun b_ => ?_ | refine n2_ fun b_ => ?_ | refine Nat1.mk fun q_ hq_ => ?_ | refine em_ fun x_ hx_ => ?_ | refine Elem1.mk fun e_ he_ => ?_); refine g1_ ?_))
              refine (hwd).use ?_; (refine g0_ ?_; repeat ((first | refine n1_ fun b_ => ?_ | refine n2_ fun b_ => ?_ | refine Nat1.mk fun q_ hq_ => ?_ | refine em_ fun x_ hx_ => ?_ | refine Elem1.mk fun e_ he_ => ?_); refine g0_ ?_))
              (refine g1_ ?_; repeat ((first | refine n1_ fun b_ => ?_ | refine n2_ fun b_ => ?_ | refine Nat1.mk fun q_ hq_ => ?_ | refine em_ fun x_ hx_ => ?_ | refine Elem1.mk fun e_ he_ => ?_); refine g1_ ?_))
              refine ACalls.lend1 (hidx b4) (by repeat (first | exact .here _ _ _ | apply Look.there)) ?_
              rintro _ -
              (refine g1_ ?_; repeat ((first | refine n1_ fun b_ => ?_ | refine n2_ fun b_ => ?_ | refine Nat1.mk fun q_ hq_ => ?_ | refine em_ fun x_ hx_ => ?_ | refine Elem1.mk fun e_ he_ => ?_); refine g1_ ?_))
              refine ACalls.giveE hcn1 ?_
              rintro bw -
              (try clear hcn)
              (try clear hsm)
              (try clear hidx)
              (try clear hwd)
              (try clear hik)
              (try clear hck)
              (try clear hbi)
              (try clear hcp)
              (try clear hfi)
              (try clear hbd)
              (try clear hsz)
              (try clear hL)
              (try clear hbm)
              (try clear hf9)
              (try clear hkc)
              (refine g0_ ?_; repeat ((first | refine n1_ fun b_ => ?_ | refine n2_ fun b_ => ?_ | refine Nat1.mk fun q_ hq_ => ?_ | refine em_ fun x_ hx_ => ?_ | refine Elem1.mk fun e_ he_ => ?_); refine g0_ ?_))
              (refine g1_ ?_; repeat ((first | refine n1_ fun b_ => ?_ | refine n2_ fun b_ => ?_ | refine Nat1.mk fun q_ hq_ => ?_ | refine em_ fun x_ hx_ => ?_ | refine Elem1.mk fun e_ he_ => ?_); refine g1_ ?_))
              rw [hlm2]
              refine ACalls.lend (hdl bw) (r := _ :: _ :: _ :: []) (List.perm_append_comm (l₁ := [_, _, _]) (l₂ := [_])) ?_
              rintro _ -
              (refine g1_ ?_; repeat ((first | refine n1_ fun b_ => ?_ | refine n2_ fun b_ => ?_ | refine Nat1.mk fun q_ hq_ => ?_ | refine em_ fun x_ hx_ => ?_ | refine Elem1.mk fun e_ he_ => ?_); refine g1_ ?_))
              refine hsx.borrow rfl rfl (fun j hj => ?_) ?_
              · match j, hj with
                | 0, _ => exact .refl _
                | 1, _ => exact frz_tabW (frz_pre (by repeat (first | exact .here _ _ _ | apply Look.there)) hne ⟨[zBnd], rfl⟩)
              (refine g1_ ?_; repeat ((first | refine n1_ fun b_ => ?_ | refine n2_ fun b_ => ?_ | refine Nat1.mk fun q_ hq_ => ?_ | refine em_ fun x_ hx_ => ?_ | refine Elem1.mk fun e_ he_ => ?_); refine g1_ ?_))
              exact frz_bool (by simp)
            · rw [if_pos (by simpa using hc)] at hX0
              cases hX0
              have hxo : BTab.ok ⟨pre, A ++ ([(⟨k, cmd⟩ : Bnd)] ++ B)⟩ := ⟨hpo, fun c hc => by
                rcases List.mem_append.1 hc with hc | hc
                · exact hL c (by rw [hAB]; exact List.mem_append_left _ hc)
                · rcases List.mem_append.1 hc with hc | hc
                  · rw [List.mem_singleton.1 hc]; exact ⟨hk, hcl⟩
                  · exact hL c (by rw [hAB]; exact List.mem_append_right _ (List.mem_cons_of_mem _ hc)), by
                have : L.length = A.length + (B.length + 1) := by rw [hAB]; simp
                dsimp only
                rw [List.length_append, List.length_append, List.length_singleton]
                omega⟩
              have hsx := bsame_ok W ⟨pre, A ++ ([(⟨k, cmd⟩ : Bnd)] ++ B)⟩ ⟨pre, A ++ ([(⟨k, cmd⟩ : Bnd)] ++ B)⟩ hxo hxo
              rw [decide_eq_true rfl] at hsx
              unfold encTab at hsx
              dsimp only at hsx
              obtain ⟨bk, bc⟩ := b
              dsimp only at hbk
              subst hbk
              have hPi : (L.map encBnd)[A.length]? = some (.agg [.int .i64 bk.kind, .int .i32 bk.r, .int .i64 bk.n, .int .i64 bk.held, .str bc]) := by
                rw [hAB, List.map_append, List.getElem?_append_right (by simp), List.length_map, Nat.sub_self]; rfl
              have hPs : (L.map encBnd).set A.length (.agg [.int .i64 bk.kind, .int .i32 bk.r, .int .i64 bk.n, .int .i64 bk.held, .str cmd]) = (A ++ ([(⟨bk, cmd⟩ : Bnd)] ++ B)).map encBnd := by
                rw [hAB, List.map_append, List.set_append_right _ _ (by simp), List.length_map, Nat.sub_self]; simp [encBnd]
              have hwl : ((A ++ ([(⟨bk, cmd⟩ : Bnd)] ++ B)).map encBnd).length = L.length := by rw [List.length_map, hAB]; simp
              clear hAB hbl hAe hBe i3 i4 i5 i6 hnd hL0 hL
              generalize (A ++ ([(⟨bk, cmd⟩ : Bnd)] ++ B)).map encBnd = QL at *
              generalize L.map encBnd = PL at *
              (refine g0_ ?_; repeat ((first | refine n1_ fun b_ => ?_ | refine n2_ fun b_ => ?_ | refine Nat1.mk fun q_ hq_ => ?_ | refine em_ fun x_ hx_ => ?_ | refine Elem1.mk fun e_ he_ => ?_); refine g0_ ?_))
              (refine g1_ ?_; repeat ((first | refine n1_ fun b_ => ?_ | refine n2_ fun b_ => ?_ | refine Nat1.mk fun q_ hq_ => ?_ | refine em_ fun x_ hx_ => ?_ | refine Elem1.mk fun e_ he_ => ?_); refine g1_ ?_))
              refine (hik).use ?_; (refine g0_ ?_; repeat ((first | refine n1_ fun b_ => ?_ | refine n2_ fun b_ => ?_ | refine Nat1.mk fun q_ hq_ => ?_ | refine em_ fun x_ hx_ => ?_ | refine Elem1.mk fun e_ he_ => ?_); refine g0_ ?_))
              (refine g1_ ?_; repeat ((first | refine n1_ fun b_ => ?_ | refine n2_ fun b_ => ?_ | refine Nat1.mk fun q_ hq_ => ?_ | refine em_ fun x_ hx_ => ?_ | refine Elem1.mk fun e_ he_ => ?_); refine g1_ ?_))
              refine (hwd).use ?_; (refine g0_ ?_; repeat ((first | refine n1_ fun b_ => ?_ | refine n2_ fun b_ => ?_ | refine Nat1.mk fun q_ hq_ => ?_ | refine em_ fun x_ hx_ => ?_ | refine Elem1.mk fun e_ he_ => ?_); refine g0_ ?_))
              (refine g1_ ?_; repeat ((first | refine n1_ fun b_ => ?_ | refine n2_ fun b_ => ?_ | refine Nat1.mk fun q_ hq_ => ?_ | refine em_ fun x_ hx_ => ?_ | refine Elem1.mk fun e_ he_ => ?_); refine g1_ ?_))
              refine ACalls.lend1 (hidx b4) (by repeat (first | exact .here _ _ _ | apply Look.there)) ?_
              rintro _ -
              (refine g1_ ?_; repeat ((first | refine n1_ fun b_ => ?_ | refine n2_ fun b_ => ?_ | refine Nat1.mk fun q_ hq_ => ?_ | refine em_ fun x_ hx_ => ?_ | refine Elem1.mk fun e_ he_ => ?_); refine g1_ ?_))
              refine ACalls.giveE hcn1 ?_
              rintro bw -
              clear hcn hcn1 hsm hidx hwd hik hck hbi hcp hfi hbd hsz hf9
              (refine g0_ ?_; repeat ((first | refine n1_ fun b_ => ?_ | refine n2_ fun b_ => ?_ | refine Nat1.mk fun q_ hq_ => ?_ | refine em_ fun x_ hx_ => ?_ | refine Elem1.mk fun e_ he_ => ?_); refine g0_ ?_))
              (refine g1_ ?_; repeat ((first | refine n1_ fun b_ => ?_ | refine n2_ fun b_ => ?_ | refine Nat1.mk fun q_ hq_ => ?_ | refine em_ fun x_ hx_ => ?_ | refine Elem1.mk fun e_ he_ => ?_); refine g1_ ?_))
              rw [Nat.zero_add, hPi] at he_
              obtain rfl := Option.some.inj he_
              (refine g0_ ?_; repeat ((first | refine n1_ fun b_ => ?_ | refine n2_ fun b_ => ?_ | refine Nat1.mk fun q_ hq_ => ?_ | refine em_ fun x_ hx_ => ?_ | refine Elem1.mk fun e_ he_ => ?_); refine g0_ ?_))
              rw [Nat.zero_add, hPs]
              (refine g1_ ?_; repeat ((first | refine n1_ fun b_ => ?_ | refine n2_ fun b_ => ?_ | refine Nat1.mk fun q_ hq_ => ?_ | refine em_ fun x_ hx_ => ?_ | refine Elem1.mk fun e_ he_ => ?_); refine g1_ ?_))
              refine hsx.borrow rfl rfl (fun j hj => ?_) ?_
              · match j, hj with
                | 0, _ => exact .refl _
                | 1, _ => exact frz_tabW (frz_pre (by repeat (first | exact .here _ _ _ | apply Look.there)) (by omega) ⟨[], (List.append_nil _).symm⟩)
              (refine g1_ ?_; repeat ((first | refine n1_ fun b_ => ?_ | refine n2_ fun b_ => ?_ | refine Nat1.mk fun q_ hq_ => ?_ | refine em_ fun x_ hx_ => ?_ | refine Elem1.mk fun e_ he_ => ?_); refine g1_ ?_))
              exact frz_bool (by simp)
        · rw [if_pos h2] at hX0
          cases hX0
          clear hX hEE hWB
          (refine g0_ ?_; repeat ((first | refine n1_ fun b_ => ?_ | refine n2_ fun b_ => ?_ | refine Nat1.mk fun q_ hq_ => ?_ | refine em_ fun x_ hx_ => ?_ | refine Elem1.mk fun e_ he_ => ?_); refine g0_ ?_))
          (refine g1_ ?_; repeat ((first | refine n1_ fun b_ => ?_ | refine n2_ fun b_ => ?_ | refine Nat1.mk fun q_ hq_ => ?_ | refine em_ fun x_ hx_ => ?_ | refine Elem1.mk fun e_ he_ => ?_); refine g1_ ?_))
          refine (hik).use ?_; (refine g0_ ?_; repeat ((first | refine n1_ fun b_ => ?_ | refine n2_ fun b_ => ?_ | refine Nat1.mk fun q_ hq_ => ?_ | refine em_ fun x_ hx_ => ?_ | refine Elem1.mk fun e_ he_ => ?_); refine g0_ ?_))
          (refine g1_ ?_; repeat ((first | refine n1_ fun b_ => ?_ | refine n2_ fun b_ => ?_ | refine Nat1.mk fun q_ hq_ => ?_ | refine em_ fun x_ hx_ => ?_ | refine Elem1.mk fun e_ he_ => ?_); refine g1_ ?_))
          refine (hwd).use ?_; (refine g0_ ?_; repeat ((first | refine n1_ fun b_ => ?_ | refine n2_ fun b_ => ?_ | refine Nat1.mk fun q_ hq_ => ?_ | refine em_ fun x_ hx_ => ?_ | refine Elem1.mk fun e_ he_ => ?_); refine g0_ ?_))
          (refine g1_ ?_; repeat ((first | refine n1_ fun b_ => ?_ | refine n2_ fun b_ => ?_ | refine Nat1.mk fun q_ hq_ => ?_ | refine em_ fun x_ hx_ => ?_ | refine Elem1.mk fun e_ he_ => ?_); refine g1_ ?_))
          refine ACalls.lend1 (hidx b4) (by repeat (first | exact .here _ _ _ | apply Look.there)) ?_
          rintro _ -
          (refine g1_ ?_; repeat ((first | refine n1_ fun b_ => ?_ | refine n2_ fun b_ => ?_ | refine Nat1.mk fun q_ hq_ => ?_ | refine em_ fun x_ hx_ => ?_ | refine Elem1.mk fun e_ he_ => ?_); refine g1_ ?_))
          refine hsz.borrow rfl rfl (fun j hj => ?_) ?_
          · match j, hj with
            | 0, _ => exact .refl _
            | 1, _ => exact frz_zeroB
          (refine g1_ ?_; repeat ((first | refine n1_ fun b_ => ?_ | refine n2_ fun b_ => ?_ | refine Nat1.mk fun q_ hq_ => ?_ | refine em_ fun x_ hx_ => ?_ | refine Elem1.mk fun e_ he_ => ?_); refine g1_ ?_))
          exact frz_bool (by simp)
      · rw [decide_eq_false h1] at hik
        rw [if_pos h1] at hX0
        cases hX0
        clear hX hEE
        (refine g0_ ?_; repeat ((first | refine n1_ fun b_ => ?_ | refine n2_ fun b_ => ?_ | refine Nat1.mk fun q_ hq_ => ?_ | refine em_ fun x_ hx_ => ?_ | refine Elem1.mk fun e_ he_ => ?_); refine g0_ ?_))
        (refine g1_ ?_; repeat ((first | refine n1_ fun b_ => ?_ | refine n2_ fun b_ => ?_ | refine Nat1.mk fun q_ hq_ => ?_ | refine em_ fun x_ hx_ => ?_ | refine Elem1.mk fun e_ he_ => ?_); refine g1_ ?_))
        refine (hik).use ?_; (refine g0_ ?_; repeat ((first | refine n1_ fun b_ => ?_ | refine n2_ fun b_ => ?_ | refine Nat1.mk fun q_ hq_ => ?_ | refine em_ fun x_ hx_ => ?_ | refine Elem1.mk fun e_ he_ => ?_); refine g0_ ?_))
        (refine g1_ ?_; repeat ((first | refine n1_ fun b_ => ?_ | refine n2_ fun b_ => ?_ | refine Nat1.mk fun q_ hq_ => ?_ | refine em_ fun x_ hx_ => ?_ | refine Elem1.mk fun e_ he_ => ?_); refine g1_ ?_))
        refine (hwd).use ?_; (refine g0_ ?_; repeat ((first | refine n1_ fun b_ => ?_ | refine n2_ fun b_ => ?_ | refine Nat1.mk fun q_ hq_ => ?_ | refine em_ fun x_ hx_ => ?_ | refine Elem1.mk fun e_ he_ => ?_); refine g0_ ?_))
        (refine g1_ ?_; repeat ((first | refine n1_ fun b_ => ?_ | refine n2_ fun b_ => ?_ | refine Nat1.mk fun q_ hq_ => ?_ | refine em_ fun x_ hx_ => ?_ | refine Elem1.mk fun e_ he_ => ?_); refine g1_ ?_))
        refine ACalls.lend1 (hidx b4) (by repeat (first | exact .here _ _ _ | apply Look.there)) ?_
        rintro _ -
        (refine g1_ ?_; repeat ((first | refine n1_ fun b_ => ?_ | refine n2_ fun b_ => ?_ | refine Nat1.mk fun q_ hq_ => ?_ | refine em_ fun x_ hx_ => ?_ | refine Elem1.mk fun e_ he_ => ?_); refine g1_ ?_))
        refine hsz.borrow rfl rfl (fun j hj => ?_) ?_
        · match j, hj with
          | 0, _ => exact .refl _
          | 1, _ => exact frz_zeroB
        (refine g1_ ?_; repeat ((first | refine n1_ fun b_ => ?_ | refine n2_ fun b_ => ?_ | refine Nat1.mk fun q_ hq_ => ?_ | refine em_ fun x_ hx_ => ?_ | refine Elem1.mk fun e_ he_ => ?_); refine g1_ ?_))
        exact frz_bool (by simp)
    · have hX2 : (noTab, E) = ((⟨xp, xl⟩ : BTab), e) := by
        rw [← hX]
        unfold bindE
        rw [hEE, if_pos hE0]
      cases hX2
      (refine g0_ ?_; repeat ((first | refine n1_ fun b_ => ?_ | refine n2_ fun b_ => ?_ | refine Nat1.mk fun q_ hq_ => ?_ | refine em_ fun x_ hx_ => ?_ | refine Elem1.mk fun e_ he_ => ?_); refine g0_ ?_))
      (refine g1_ ?_; repeat ((first | refine n1_ fun b_ => ?_ | refine n2_ fun b_ => ?_ | refine Nat1.mk fun q_ hq_ => ?_ | refine em_ fun x_ hx_ => ?_ | refine Elem1.mk fun e_ he_ => ?_); refine g1_ ?_))
      refine (hwd).use ?_; (refine g0_ ?_; repeat ((first | refine n1_ fun b_ => ?_ | refine n2_ fun b_ => ?_ | refine Nat1.mk fun q_ hq_ => ?_ | refine em_ fun x_ hx_ => ?_ | refine Elem1.mk fun e_ he_ => ?_); refine g0_ ?_))
      (refine g1_ ?_; repeat ((first | refine n1_ fun b_ => ?_ | refine n2_ fun b_ => ?_ | refine Nat1.mk fun q_ hq_ => ?_ | refine em_ fun x_ hx_ => ?_ | refine Elem1.mk fun e_ he_ => ?_); refine g1_ ?_))
      refine ACalls.lend1 (hidx b4) (by repeat (first | exact .here _ _ _ | apply Look.there)) ?_
      rintro _ -
      (refine g1_ ?_; repeat ((first | refine n1_ fun b_ => ?_ | refine n2_ fun b_ => ?_ | refine Nat1.mk fun q_ hq_ => ?_ | refine em_ fun x_ hx_ => ?_ | refine Elem1.mk fun e_ he_ => ?_); refine g1_ ?_))
      refine hsz.borrow rfl rfl (fun j hj => ?_) ?_
      · match j, hj with
        | 0, _ => exact .refl _
        | 1, _ => exact frz_zeroB
      (refine g1_ ?_; repeat ((first | refine n1_ fun b_ => ?_ | refine n2_ fun b_ => ?_ | refine Nat1.mk fun q_ hq_ => ?_ | refine em_ fun x_ hx_ => ?_ | refine Elem1.mk fun e_ he_ => ?_); refine g1_ ?_))
      exact frz_bool (by simp)
  · obtain ⟨b, hb⟩ : ∃ b, firstT.binds[i]? = some b := ⟨firstT.binds[i]'(by show i < 9; omega), List.getElem?_eq_getElem _⟩
    have hfk := first_keys b (List.mem_of_getElem? hb)
    have hkn : Pure Tryd.prog W 24 [.agg [.int .i64 b.k.kind, .int .i32 b.k.r, .int .i64 b.k.n, .int .i64 b.k.held]] (.str (nameK b.k)) := keyName_ok W hN hS b.k hfk.1
    have hnl := name_len b.k hfk.1
    have hs' := tell_snoc hb
    rw [← hs] at hs'
    clear hs
    generalize nameK b.k = nm at *
    (refine g0_ ?_; repeat ((first | refine n1_ fun b_ => ?_ | refine n2_ fun b_ => ?_ | refine Nat1.mk fun q_ hq_ => ?_ | refine em_ fun x_ hx_ => ?_ | refine Elem1.mk fun e_ he_ => ?_); refine g0_ ?_))
    (refine g1_ ?_; repeat ((first | refine n1_ fun b_ => ?_ | refine n2_ fun b_ => ?_ | refine Nat1.mk fun q_ hq_ => ?_ | refine em_ fun x_ hx_ => ?_ | refine Elem1.mk fun e_ he_ => ?_); refine g1_ ?_))
    refine headL_ (head_ ?_); (refine g0_ ?_; repeat ((first | refine n1_ fun b_ => ?_ | refine n2_ fun b_ => ?_ | refine Nat1.mk fun q_ hq_ => ?_ | refine em_ fun x_ hx_ => ?_ | refine Elem1.mk fun e_ he_ => ?_); refine g0_ ?_))
    refine ⟨_, (hkn).quiet, ?_⟩; (refine g0_ ?_; repeat ((first | refine n1_ fun b_ => ?_ | refine n2_ fun b_ => ?_ | refine Nat1.mk fun q_ hq_ => ?_ | refine em_ fun x_ hx_ => ?_ | refine Elem1.mk fun e_ he_ => ?_); refine g0_ ?_))
    (refine g1_ ?_; repeat ((first | refine n1_ fun b_ => ?_ | refine n2_ fun b_ => ?_ | refine Nat1.mk fun q_ hq_ => ?_ | refine em_ fun x_ hx_ => ?_ | refine Elem1.mk fun e_ he_ => ?_); refine g1_ ?_))
    refine nx_ (i + 1, s ++ (nm ++ [58] ++ b.cmd ++ [44])) ?_ ?_
    · exact ⟨by omega, hs'.symm, by simp only [List.length_append, List.length_cons, List.length_nil]; omega⟩
    · ((try dsimp only); (try simp only [List.length_drop, List.length_take, List.length_append, List.length_cons, List.length_nil, List.length_map] at *); omega)
end Go.Eng.YtecafnhnkklboaaDoor
end
