/- Texts put together: RecR4, RecE, RecB. -/
import Derived.Test.YtlffjmnnoceakaaDoorMRC
import Derived.Test.YtlffjmnnoceakaaDoorMR1
/- Recordings read: Parse (b_ x_ q_ e_). -/
section
namespace Go.Eng.YtlffjmnnoceakaaDoor
open Go Go.Eng Go.Proofs Go.RowKit
variable (W : World)
set_option linter.unusedSimpArgs false
set_option maxRecDepth 100000
set_option linter.unusedVariables false
set_option maxHeartbeats 4000000
def parseV (r : List Hap × Nat × Int) : PV := .tup [.sl 5 (r.1.map encHap), .int .i64 r.2.1, .int .i64 r.2.2]
theorem badAt_none' {L : List (List UInt8)} {i : Nat} (hg : ∀ t ∈ L.take i, (lineP t).2 = true) (hi : i + 1 = L.length) : badAt L.dropLast = none := by
  rw [dropLast_take _ _ hi, badAt, List.findIdx?_eq_none_iff]
  intro t ht
  rw [hg t ht]; rfl
theorem badAt_some' {L : List (List UInt8)} {i : Nat} {x : List UInt8} (hg : ∀ t ∈ L.take i, (lineP t).2 = true) (hi : i + 1 < L.length) (hx : L[i]? = some x) (hb : (lineP x).2 = false) : badAt L.dropLast = some i := by
  rw [badAt, List.findIdx?_eq_some_iff_getElem]
  have hlt : i < L.dropLast.length := by rw [List.length_dropLast]; omega
  refine ⟨hlt, ?_, ?_⟩
  · rw [List.getElem_dropLast]
    have : L[i] = x := by rw [List.getElem?_eq_getElem (by omega)] at hx; exact Option.some.inj hx
    rw [this, hb]; rfl
  · intro j hj
    rw [List.getElem_dropLast]
    have := hg L[j] (List.mem_of_getElem? (i := j) (by rw [List.getElem?_take, if_pos hj]; exact List.getElem?_eq_getElem (by omega)))
    rw [this]; simp
theorem parseR_ok (hN : Nums W) (hM : MaxJ W) (hE : ErrJ W) (s : List UInt8) (hs : s.length ≤ 4194304) (hls : ∀ p ∈ splt 10 s, p.length ≤ 1048576) : Pure Tryd.prog W 7 [.str s] (parseV (parseP s)) := by
  have hsp := split_ok W hM s 10 hs
  have hne := splt_ne 10 s
  generalize hP : parseP s = r
  unfold parseP at hP
  by_cases h0 : s = []
  · rw [if_pos h0] at hP
    subst hP h0
    refine Pure.of (acalls_of_vc (drawOk W) Tryd.func7 rfl (by decide) (by decide) rfl ?_)
    (refine g0_ ?_; repeat ((first | refine n1_ fun b_ => ?_ | refine n2_ fun b_ => ?_ | refine Nat1.mk fun q_ hq_ => ?_ | refine em_ fun x_ hx_ => ?_ | refine Elem1.mk fun e_ he_ => ?_); refine g0_ ?_))
    exact .tup _ _ rfl fun j hj => by
      match j, hj with
      | 0, _ => exact .nils _
      | 1, _ => exact .refl _
      | 2, _ => exact .refl _
  · rw [if_neg h0] at hP
    have h0' : ¬ s.length = 0 := fun h => h0 (List.length_eq_zero_iff.1 h)
    generalize hL : splt 10 s = L at *
    have hLm : (L.map PV.str).length = L.length := List.length_map _
    have hLp : 0 < L.length := List.length_pos_iff.2 hne
    by_cases h1 : 201 < L.length
    · rw [if_pos h1] at hP
      subst hP
      refine Pure.of (acalls_of_vc (drawOk W) Tryd.func7 rfl (by decide) (by decide) rfl ?_)
      (refine g0_ ?_; repeat ((first | refine n1_ fun b_ => ?_ | refine n2_ fun b_ => ?_ | refine Nat1.mk fun q_ hq_ => ?_ | refine em_ fun x_ hx_ => ?_ | refine Elem1.mk fun e_ he_ => ?_); refine g0_ ?_))
      (refine g1_ ?_; repeat ((first | refine n1_ fun b_ => ?_ | refine n2_ fun b_ => ?_ | refine Nat1.mk fun q_ hq_ => ?_ | refine em_ fun x_ hx_ => ?_ | refine Elem1.mk fun e_ he_ => ?_); refine g1_ ?_))
      refine (hsp).use ?_; (refine g0_ ?_; repeat ((first | refine n1_ fun b_ => ?_ | refine n2_ fun b_ => ?_ | refine Nat1.mk fun q_ hq_ => ?_ | refine em_ fun x_ hx_ => ?_ | refine Elem1.mk fun e_ he_ => ?_); refine g0_ ?_))
      (refine g1_ ?_; repeat ((first | refine n1_ fun b_ => ?_ | refine n2_ fun b_ => ?_ | refine Nat1.mk fun q_ hq_ => ?_ | refine em_ fun x_ hx_ => ?_ | refine Elem1.mk fun e_ he_ => ?_); refine g1_ ?_))
      exact .tup _ _ rfl fun j hj => by
        match j, hj with
        | 0, _ => exact .nils _
        | 1, _ => exact .refl _
        | 2, _ => exact .refl _
    · rw [if_neg h1] at hP
      refine Pure.of (acalls_of_vc (drawOk W) Tryd.func7 rfl (by decide) (by decide) rfl ?_)
      (refine g0_ ?_; repeat ((first | refine n1_ fun b_ => ?_ | refine n2_ fun b_ => ?_ | refine Nat1.mk fun q_ hq_ => ?_ | refine em_ fun x_ hx_ => ?_ | refine Elem1.mk fun e_ he_ => ?_); refine g0_ ?_))
      (refine g1_ ?_; repeat ((first | refine n1_ fun b_ => ?_ | refine n2_ fun b_ => ?_ | refine Nat1.mk fun q_ hq_ => ?_ | refine em_ fun x_ hx_ => ?_ | refine Elem1.mk fun e_ he_ => ?_); refine g1_ ?_))
      refine (hsp).use ?_; (refine g0_ ?_; repeat ((first | refine n1_ fun b_ => ?_ | refine n2_ fun b_ => ?_ | refine Nat1.mk fun q_ hq_ => ?_ | refine em_ fun x_ hx_ => ?_ | refine Elem1.mk fun e_ he_ => ?_); refine g0_ ?_))
      (refine g1_ ?_; repeat ((first | refine n1_ fun b_ => ?_ | refine n2_ fun b_ => ?_ | refine Nat1.mk fun q_ hq_ => ?_ | refine em_ fun x_ hx_ => ?_ | refine Elem1.mk fun e_ he_ => ?_); refine g1_ ?_))
      have hq2 : q_ = L.length - 1 := by rw [List.length_map] at hq_; omega
      subst hq2
      refine' loopI (α := Nat × Nat × (List PV)) (fun (i, b, o) => [(2, accV b 5 o), (23, .int .i64 i)]) [(5, _), (21, _), (22, _)] (fun (i, b, o) => accM b 5 o) (fun (i, b, o) => i < L.length ∧ o = (L.take i).map (fun t => encHap (lineP t).1) ∧ (∀ t ∈ L.take i, (lineP t).2 = true)) (fun (i, b, o) => L.length - i) (0, 0, []) ?_ ?_
      · exact ⟨hLp, rfl, by simp⟩
      rintro ⟨i, b, o⟩ ⟨hi, ho, hg⟩
      rcases o with _ | ⟨p, o⟩
      · have hol := congrArg List.length ho
        simp only [List.length_cons, List.length_nil, List.length_map, List.length_take] at hol
        (refine g0_ ?_; repeat ((first | refine n1_ fun b_ => ?_ | refine n2_ fun b_ => ?_ | refine Nat1.mk fun q_ hq_ => ?_ | refine em_ fun x_ hx_ => ?_ | refine Elem1.mk fun e_ he_ => ?_); refine g0_ ?_))
        refine brec ?_; intro c_ hlt; (try rw [hlt]); cases c_ <;> replace hlt := nm_ hlt
        · rw [List.length_map, List.length_take] at hlt
          have hil : i + 1 = L.length := by omega
          have hbn := badAt_none' hg hil
          rw [hbn] at hP
          simp only at hP
          (refine g0_ ?_; repeat ((first | refine n1_ fun b_ => ?_ | refine n2_ fun b_ => ?_ | refine Nat1.mk fun q_ hq_ => ?_ | refine em_ fun x_ hx_ => ?_ | refine Elem1.mk fun e_ he_ => ?_); refine g0_ ?_))
          have hq3 : q_ = L.length - 1 := by rw [List.length_map] at hq_; omega
          subst hq3
          have hgl : L.getLast? = some x_ := by rw [List.getLast?_eq_getElem?]; exact hx_
          rw [hgl] at hP
          by_cases hx0 : x_ = []
          · subst hx0
            rw [if_pos rfl] at hP
            subst hP
            (refine g0_ ?_; repeat ((first | refine n1_ fun b_ => ?_ | refine n2_ fun b_ => ?_ | refine Nat1.mk fun q_ hq_ => ?_ | refine em_ fun x_ hx_ => ?_ | refine Elem1.mk fun e_ he_ => ?_); refine g0_ ?_))
            exact .tup _ _ rfl fun j hj => by
              match j, hj with
              | 0, _ =>
                show Frz _ (accV b 5 []) (.sl 5 _)
                rw [dropLast_take _ _ hil, List.map_map]
                exact ho ▸ frz_of_acc (b := b) (l := []) fun h => (h rfl).elim
              | 1, _ => exact .refl _
              | 2, _ => exact .refl _
          · rw [if_neg (by simpa using hx0)] at hP
            subst hP
            (refine g1_ ?_; repeat ((first | refine n1_ fun b_ => ?_ | refine n2_ fun b_ => ?_ | refine Nat1.mk fun q_ hq_ => ?_ | refine em_ fun x_ hx_ => ?_ | refine Elem1.mk fun e_ he_ => ?_); refine g1_ ?_))
            exact .tup _ _ rfl fun j hj => by
              match j, hj with
              | 0, _ => exact .nils _
              | 1, _ =>
                show Frz _ (.int .i64 (((L.map PV.str).length : Nat) - 1 : Int)) (.int .i64 ((L.length - 1 : Nat) : Int))
                rw [hLm, show ((L.length : Nat) : Int) - 1 = ((L.length - 1 : Nat) : Int) by omega]
                exact .refl _
              | 2, _ => exact .refl _
        · rw [List.length_map, List.length_take] at hlt
          have hil : i + 1 < L.length := by omega
          obtain ⟨x, hx⟩ : ∃ x, L[i]? = some x := ⟨L[i], List.getElem?_eq_getElem hi⟩
          have hxl := hls x (List.mem_of_getElem? hx)
          have hli := lineR_ok W hN hM hE x (by omega)
          (refine g0_ ?_; repeat ((first | refine n1_ fun b_ => ?_ | refine n2_ fun b_ => ?_ | refine Nat1.mk fun q_ hq_ => ?_ | refine em_ fun x_ hx_ => ?_ | refine Elem1.mk fun e_ he_ => ?_); refine g0_ ?_))
          rw [List.getElem?_take, if_pos (by omega), hx] at hx_
          obtain rfl := Option.some.inj hx_
          refine (hli).use ?_; (refine g0_ ?_; repeat ((first | refine n1_ fun b_ => ?_ | refine n2_ fun b_ => ?_ | refine Nat1.mk fun q_ hq_ => ?_ | refine em_ fun x_ hx_ => ?_ | refine Elem1.mk fun e_ he_ => ?_); refine g0_ ?_))
          cases hb : (lineP x).2 with
          | false =>
            rw [badAt_some' hg hil hx hb] at hP
            subst hP
            (refine g1_ ?_; repeat ((first | refine n1_ fun b_ => ?_ | refine n2_ fun b_ => ?_ | refine Nat1.mk fun q_ hq_ => ?_ | refine em_ fun x_ hx_ => ?_ | refine Elem1.mk fun e_ he_ => ?_); refine g1_ ?_))
            exact .tup _ _ rfl fun j hj => by
              match j, hj with
              | 0, _ => exact .nils _
              | 1, _ => exact .refl _
              | 2, _ => exact .refl _
          | true =>
            (refine g0_ ?_; repeat ((first | refine n1_ fun b_ => ?_ | refine n2_ fun b_ => ?_ | refine Nat1.mk fun q_ hq_ => ?_ | refine em_ fun x_ hx_ => ?_ | refine Elem1.mk fun e_ he_ => ?_); refine g0_ ?_))
            refine .inl ?_
            (refine g0_ ?_; repeat ((first | refine n1_ fun b_ => ?_ | refine n2_ fun b_ => ?_ | refine Nat1.mk fun q_ hq_ => ?_ | refine em_ fun x_ hx_ => ?_ | refine Elem1.mk fun e_ he_ => ?_); refine g0_ ?_))
            refine nx_ (i + 1, b_, [] ++ [encHap (lineP x).1]) ?_ ?_
            · exact ⟨by omega, by rw [List.take_add_one, hx, List.map_append, ← ho]; rfl, by
                intro t ht
                rw [List.take_add_one, hx] at ht
                rcases List.mem_append.1 ht with ht | ht
                · exact hg t ht
                · simp at ht
                  rw [ht]; exact hb⟩
            · ((try dsimp only); (try simp only [List.length_drop, List.length_take, List.length_append, List.length_cons, List.length_nil, List.length_map] at *); omega)
      · have hol := congrArg List.length ho
        simp only [List.length_cons, List.length_nil, List.length_map, List.length_take] at hol
        (refine g0_ ?_; repeat ((first | refine n1_ fun b_ => ?_ | refine n2_ fun b_ => ?_ | refine Nat1.mk fun q_ hq_ => ?_ | refine em_ fun x_ hx_ => ?_ | refine Elem1.mk fun e_ he_ => ?_); refine g0_ ?_))
        refine brec ?_; intro c_ hlt; (try rw [hlt]); cases c_ <;> replace hlt := nm_ hlt
        · rw [List.length_map, List.length_take] at hlt
          have hil : i + 1 = L.length := by omega
          have hbn := badAt_none' hg hil
          rw [hbn] at hP
          simp only at hP
          (refine g0_ ?_; repeat ((first | refine n1_ fun b_ => ?_ | refine n2_ fun b_ => ?_ | refine Nat1.mk fun q_ hq_ => ?_ | refine em_ fun x_ hx_ => ?_ | refine Elem1.mk fun e_ he_ => ?_); refine g0_ ?_))
          have hq3 : q_ = L.length - 1 := by rw [List.length_map] at hq_; omega
          subst hq3
          have hgl : L.getLast? = some x_ := by rw [List.getLast?_eq_getElem?]; exact hx_
          rw [hgl] at hP
          by_cases hx0 : x_ = []
          · subst hx0
            rw [if_pos rfl] at hP
            subst hP
            (refine g0_ ?_; repeat ((first | refine n1_ fun b_ => ?_ | refine n2_ fun b_ => ?_ | refine Nat1.mk fun q_ hq_ => ?_ | refine em_ fun x_ hx_ => ?_ | refine Elem1.mk fun e_ he_ => ?_); refine g0_ ?_))
            exact .tup _ _ rfl fun j hj => by
              match j, hj with
              | 0, _ =>
                show Frz _ (accV b 5 (p :: o)) (.sl 5 _)
                rw [dropLast_take _ _ hil, List.map_map]
                exact ho ▸ frz_of_acc (b := b) (l := (p :: o)) fun h => ⟨_, .here _ _ _⟩
              | 1, _ => exact .refl _
              | 2, _ => exact .refl _
          · rw [if_neg (by simpa using hx0)] at hP
            subst hP
            (refine g1_ ?_; repeat ((first | refine n1_ fun b_ => ?_ | refine n2_ fun b_ => ?_ | refine Nat1.mk fun q_ hq_ => ?_ | refine em_ fun x_ hx_ => ?_ | refine Elem1.mk fun e_ he_ => ?_); refine g1_ ?_))
            exact .tup _ _ rfl fun j hj => by
              match j, hj with
              | 0, _ => exact .nils _
              | 1, _ =>
                show Frz _ (.int .i64 (((L.map PV.str).length : Nat) - 1 : Int)) (.int .i64 ((L.length - 1 : Nat) : Int))
                rw [hLm, show ((L.length : Nat) : Int) - 1 = ((L.length - 1 : Nat) : Int) by omega]
                exact .refl _
              | 2, _ => exact .refl _
        · rw [List.length_map, List.length_take] at hlt
          have hil : i + 1 < L.length := by omega
          obtain ⟨x, hx⟩ : ∃ x, L[i]? = some x := ⟨L[i], List.getElem?_eq_getElem hi⟩
          have hxl := hls x (List.mem_of_getElem? hx)
          have hli := lineR_ok W hN hM hE x (by omega)
          (refine g0_ ?_; repeat ((first | refine n1_ fun b_ => ?_ | refine n2_ fun b_ => ?_ | refine Nat1.mk fun q_ hq_ => ?_ | refine em_ fun x_ hx_ => ?_ | refine Elem1.mk fun e_ he_ => ?_); refine g0_ ?_))
          rw [List.getElem?_take, if_pos (by omega), hx] at hx_
          obtain rfl := Option.some.inj hx_
          refine (hli).use ?_; (refine g0_ ?_; repeat ((first | refine n1_ fun b_ => ?_ | refine n2_ fun b_ => ?_ | refine Nat1.mk fun q_ hq_ => ?_ | refine em_ fun x_ hx_ => ?_ | refine Elem1.mk fun e_ he_ => ?_); refine g0_ ?_))
          cases hb : (lineP x).2 with
          | false =>
            rw [badAt_some' hg hil hx hb] at hP
            subst hP
            (refine g1_ ?_; repeat ((first | refine n1_ fun b_ => ?_ | refine n2_ fun b_ => ?_ | refine Nat1.mk fun q_ hq_ => ?_ | refine em_ fun x_ hx_ => ?_ | refine Elem1.mk fun e_ he_ => ?_); refine g1_ ?_))
            exact .tup _ _ rfl fun j hj => by
              match j, hj with
              | 0, _ => exact .nils _
              | 1, _ => exact .refl _
              | 2, _ => exact .refl _
          | true =>
            (refine g0_ ?_; repeat ((first | refine n1_ fun b_ => ?_ | refine n2_ fun b_ => ?_ | refine Nat1.mk fun q_ hq_ => ?_ | refine em_ fun x_ hx_ => ?_ | refine Elem1.mk fun e_ he_ => ?_); refine g0_ ?_))
            refine .inl ?_
            (refine g0_ ?_; repeat ((first | refine n1_ fun b_ => ?_ | refine n2_ fun b_ => ?_ | refine Nat1.mk fun q_ hq_ => ?_ | refine em_ fun x_ hx_ => ?_ | refine Elem1.mk fun e_ he_ => ?_); refine g0_ ?_))
            refine nx_ (i + 1, b_, (p :: o) ++ [encHap (lineP x).1]) ?_ ?_
            · exact ⟨by omega, by rw [List.take_add_one, hx, List.map_append, ← ho]; rfl, by
                intro t ht
                rw [List.take_add_one, hx] at ht
                rcases List.mem_append.1 ht with ht | ht
                · exact hg t ht
                · simp at ht
                  rw [ht]; exact hb⟩
            · ((try dsimp only); (try simp only [List.length_drop, List.length_take, List.length_append, List.length_cons, List.length_nil, List.length_map] at *); omega)
end Go.Eng.YtlffjmnnoceakaaDoor
end

/- Happenings, compared (b_ x_ q_ e_). -/
section
namespace Go.Eng.YtlffjmnnoceakaaDoor
open Go Go.Eng Go.Proofs
variable (W : World)
set_option linter.unusedSimpArgs false
set_option maxRecDepth 100000
set_option linter.unusedVariables false
set_option maxHeartbeats 4000000
theorem wf_hap {n : Int} (h : i64ok n) : (Lit.int .i64 n).wf = true := by
  simp [Lit.wf, IntKind.min, IntKind.max, IntKind.signed, IntKind.bits]; exact h
theorem cells_hap : Tryd.prog.cellsOf 31 = 5 := by kernel_rfl
theorem cells_hapI : Tryd.prog.cellsOf 3 = 1 := by kernel_rfl
theorem cells_hapS : Tryd.prog.cellsOf 9 = 1 := by kernel_rfl
def litsHap (x : Hap) : List Lit := [.int .i64 x.kind, .int .i64 x.who, .string x.bytes, .int .i64 x.w, .int .i64 x.h]
theorem lits_hap (x : Hap) (h : x.ok) (hb : x.bytes.length ≤ 140737488355328) : Tryd.prog.keyLits 3 31 [.int .i64 x.kind, .int .i64 x.who, .string ⟨x.bytes.toArray⟩, .int .i64 x.w, .int .i64 x.h] = some (litsHap x) := by
  have h1 := wf_hap h.1
  have h2 := wf_hap h.2.1
  have h3 := wf_hap h.2.2.1
  have h4 := wf_hap h.2.2.2
  have hk : ∀ n : Int, (Lit.int .i64 n).wf = true → Tryd.prog.keyLits 2 3 [.int .i64 n] = some [.int .i64 n] := fun n hn => by simp [Program.keyLits, Tryd.underlying3, hn]
  have hs : Tryd.prog.keyLits 2 9 [.string ⟨x.bytes.toArray⟩] = some [.string x.bytes] := by
    have : (⟨x.bytes.toArray⟩ : ByteArray).size ≤ maxLen := by simp [ByteArray.size, maxLen]; omega
    simp [Program.keyLits, Tryd.underlying9, this]
  conv => lhs; unfold Program.keyLits
  rw [Tryd.underlying31]
  dsimp only
  rw [if_pos ⟨by rw [cells_hap]; rfl, by simp⟩]
  simp only [List.mapM_cons, List.mapM_nil]
  rw [cells_hapI, cells_hapS]
  simp only [List.drop_zero, List.drop_succ_cons, List.take_succ_cons, List.take_zero, hk _ h1, hk _ h2, hk _ h3, hk _ h4, hs]
  rfl
theorem neq_hap (a b : Hap) (ha : a.ok) (hb : b.ok) (ha' : a.bytes.length ≤ 140737488355328) (hb' : b.bytes.length ≤ 140737488355328) (xo yo : Operand) : EqLaw Tryd.prog .neq 31 xo yo (encHap a) (encHap b) (!decide (a = b)) :=
  neqLaw_agg 3 (by kernel_rfl) (by decide) (by kernel_rfl) Tryd.underlying31 rfl rfl (by rw [cells_hap]; rfl) (by rw [cells_hap]; rfl) (lits_hap a ha ha') (lits_hap b hb hb') (by
    obtain ⟨a0, a1, a2, a3, a4⟩ := a
    obtain ⟨b0, b1, b2, b3, b4⟩ := b
    simp [litsHap])
theorem equal_haps (a b : List Hap) (ha : (a.length : Int) ≤ 9223372036854775807) (hoa : ∀ c ∈ a, c.ok ∧ c.bytes.length ≤ 140737488355328) (hob : ∀ c ∈ b, c.ok ∧ c.bytes.length ≤ 140737488355328) :
    Pure Tryd.prog W 8 [.sl 5 (a.map encHap), .sl 5 (b.map encHap)] (.bool (decide (a = b))) := by
  refine Pure.of (acalls_of_vc (drawOk W) Tryd.func8 rfl (by decide) (by decide) rfl ?_)
  (refine g0_ ?_; repeat ((first | refine n1_ fun b_ => ?_ | refine n2_ fun b_ => ?_ | refine Nat1.mk fun q_ hq_ => ?_ | refine em_ fun x_ hx_ => ?_ | refine Elem1.mk fun e_ he_ => ?_); refine g0_ ?_))
  refine brec ?_; intro c_ hc; (try rw [hc]); cases c_ <;> replace hc := nm_ hc
  · have hlen : a.length = b.length := by simp at hc; omega
    (refine g0_ ?_; repeat ((first | refine n1_ fun b_ => ?_ | refine n2_ fun b_ => ?_ | refine Nat1.mk fun q_ hq_ => ?_ | refine em_ fun x_ hx_ => ?_ | refine Elem1.mk fun e_ he_ => ?_); refine g0_ ?_))
    refine' loopI (α := Nat) (fun i => [(13, .int .i64 i)]) [(0, _), (1, _), (12, _)] (fun i => []) (fun i => i ≤ a.length ∧ a.take i = b.take i) (fun i => a.length - i) 0 ?_ ?_
    · exact ⟨Nat.zero_le _, by simp⟩
    rintro i ⟨hi, hw⟩
    (refine g0_ ?_; repeat ((first | refine n1_ fun b_ => ?_ | refine n2_ fun b_ => ?_ | refine Nat1.mk fun q_ hq_ => ?_ | refine em_ fun x_ hx_ => ?_ | refine Elem1.mk fun e_ he_ => ?_); refine g0_ ?_))
    refine brec ?_; intro c_ h1; (try rw [h1]); cases c_ <;> replace h1 := nm_ h1
    · (refine g0_ ?_; repeat ((first | refine n1_ fun b_ => ?_ | refine n2_ fun b_ => ?_ | refine Nat1.mk fun q_ hq_ => ?_ | refine em_ fun x_ hx_ => ?_ | refine Elem1.mk fun e_ he_ => ?_); refine g0_ ?_))
      have : i = a.length := by simp at h1; omega
      subst this
      rw [List.take_length, hlen, List.take_length] at hw
      rw [hw]
      simp
      exact .refl _
    · have hlt : i < a.length := by simp at h1; omega
      (refine g0_ ?_; repeat ((first | refine n1_ fun b_ => ?_ | refine n2_ fun b_ => ?_ | refine Nat1.mk fun q_ hq_ => ?_ | refine em_ fun x_ hx_ => ?_ | refine Elem1.mk fun e_ he_ => ?_); refine g0_ ?_))
      refine head_ ?_; (refine g0_ ?_; repeat ((first | refine n1_ fun b_ => ?_ | refine n2_ fun b_ => ?_ | refine Nat1.mk fun q_ hq_ => ?_ | refine em_ fun x_ hx_ => ?_ | refine Elem1.mk fun e_ he_ => ?_); refine g0_ ?_))
      rename_i x hx
      have m1 := hoa _ (List.mem_of_getElem? hx)
      have m2 := hob _ (List.mem_of_getElem? hx_)
      refine ⟨_, neq_hap x x_ m1.1 m2.1 m1.2 m2.2 _ _, ?_⟩
      (refine g0_ ?_; repeat ((first | refine n1_ fun b_ => ?_ | refine n2_ fun b_ => ?_ | refine Nat1.mk fun q_ hq_ => ?_ | refine em_ fun x_ hx_ => ?_ | refine Elem1.mk fun e_ he_ => ?_); refine g0_ ?_))
      refine brec ?_; intro c_ h2; (try rw [h2]); cases c_ <;> replace h2 := nm_ h2
      · (refine g0_ ?_; repeat ((first | refine n1_ fun b_ => ?_ | refine n2_ fun b_ => ?_ | refine Nat1.mk fun q_ hq_ => ?_ | refine em_ fun x_ hx_ => ?_ | refine Elem1.mk fun e_ he_ => ?_); refine g0_ ?_))
        refine nx_ (i + 1) ?_ ?_
        · exact ⟨hlt, by rw [take_snoc_of hx, take_snoc_of hx_, hw]; simp_all⟩
        · omega
      · (refine g0_ ?_; repeat ((first | refine n1_ fun b_ => ?_ | refine n2_ fun b_ => ?_ | refine Nat1.mk fun q_ hq_ => ?_ | refine em_ fun x_ hx_ => ?_ | refine Elem1.mk fun e_ he_ => ?_); refine g0_ ?_))
        have : a ≠ b := by rintro rfl; simp_all
        simp [this]
        exact .refl _
  · have hne : a ≠ b := by
      rintro rfl
      exact hc rfl
    (refine g0_ ?_; repeat ((first | refine n1_ fun b_ => ?_ | refine n2_ fun b_ => ?_ | refine Nat1.mk fun q_ hq_ => ?_ | refine em_ fun x_ hx_ => ?_ | refine Elem1.mk fun e_ he_ => ?_); refine g0_ ?_))
    simp [hne]
    exact .refl _
end Go.Eng.YtlffjmnnoceakaaDoor
end

/- The law RecordBack (b_ x_ q_ e_). -/
section
namespace Go.Eng.YtlffjmnnoceakaaDoor
open Go Go.Eng Go.Proofs
variable (W : World)
set_option linter.unusedSimpArgs false
set_option maxRecDepth 100000
set_option linter.unusedVariables false
set_option maxHeartbeats 4000000
theorem printL_lines (l : List Hap) (hl : ∀ x ∈ l, x.ok) (h : l.all checkH = true) : ∀ p ∈ splt 10 (printL l), p.length ≤ 1048576 := by
  intro p hp
  have : splt 10 (printL l) = l.map lineH ++ [[]] := by
    have := splt_lines (l.map lineH) (by
      intro p hp
      obtain ⟨x, -, rfl⟩ := List.mem_map.1 hp
      exact line_plain x)
    rw [← this, List.flatMap_map]; rfl
  rw [this] at hp
  rcases List.mem_append.1 hp with hp | hp
  · obtain ⟨x, hx, rfl⟩ := List.mem_map.1 hp
    have := lineH_len (hl x hx) (List.all_eq_true.1 h x hx)
    omega
  · simp at hp; subst hp; simp
theorem recordBack_ok1 (hN : Nums W) (hM : MaxJ W) (hE : ErrJ W) (l : List Hap) (hl : ∀ x ∈ l, x.ok) (hb : ∀ x ∈ l, x.bytes.length ≤ 140737488355328) (hs : l.length ≤ 4000000000000) : Pure Tryd.prog W 3 [.sl 5 (l.map encHap)] (.bool true) := by
  have hnt := noted_ok W hN
  have hpr := print_ok W hN l hl hb hs
  have hlm : (l.map encHap).length = l.length := List.length_map _
  by_cases h0 : 200 < l.length
  · have hE' : printE l = ([], 2) := by rw [printE, if_pos h0]
    rw [hE'] at hpr
    refine Pure.of (acalls_of_vc (drawOk W) Tryd.func3 rfl (by decide) (by decide) rfl ?_)
    (refine g0_ ?_; repeat ((first | refine n1_ fun b_ => ?_ | refine n2_ fun b_ => ?_ | refine Nat1.mk fun q_ hq_ => ?_ | refine em_ fun x_ hx_ => ?_ | refine Elem1.mk fun e_ he_ => ?_); refine g0_ ?_))
    refine (hpr).use ?_; (refine g0_ ?_; repeat ((first | refine n1_ fun b_ => ?_ | refine n2_ fun b_ => ?_ | refine Nat1.mk fun q_ hq_ => ?_ | refine em_ fun x_ hx_ => ?_ | refine Elem1.mk fun e_ he_ => ?_); refine g0_ ?_))
    (refine g1_ ?_; repeat ((first | refine n1_ fun b_ => ?_ | refine n2_ fun b_ => ?_ | refine Nat1.mk fun q_ hq_ => ?_ | refine em_ fun x_ hx_ => ?_ | refine Elem1.mk fun e_ he_ => ?_); refine g1_ ?_))
    refine (hnt).use ?_; (refine g0_ ?_; repeat ((first | refine n1_ fun b_ => ?_ | refine n2_ fun b_ => ?_ | refine Nat1.mk fun q_ hq_ => ?_ | refine em_ fun x_ hx_ => ?_ | refine Elem1.mk fun e_ he_ => ?_); refine g0_ ?_))
    (refine g1_ ?_; repeat ((first | refine n1_ fun b_ => ?_ | refine n2_ fun b_ => ?_ | refine Nat1.mk fun q_ hq_ => ?_ | refine em_ fun x_ hx_ => ?_ | refine Elem1.mk fun e_ he_ => ?_); refine g1_ ?_))
    refine (hnt).use ?_; (refine g0_ ?_; repeat ((first | refine n1_ fun b_ => ?_ | refine n2_ fun b_ => ?_ | refine Nat1.mk fun q_ hq_ => ?_ | refine em_ fun x_ hx_ => ?_ | refine Elem1.mk fun e_ he_ => ?_); refine g0_ ?_))
    (refine Frz.of_eq ?_; (conv => lhs; whnf))
    (try rfl)
  · by_cases h1 : l.all checkH = true
    · have hE' : printE l = (printL l, 0) := by rw [printE, if_neg h0, if_pos h1]
      rw [hE'] at hpr
      have hln := printL_len l hl h1
      have hpa := parseR_ok W hN hM hE (printL l) (by omega) (printL_lines l hl h1)
      rw [show parseP (printL l) = (l, 0, 0) from parse_print l hl h1 (by omega)] at hpa
      have heq := equal_haps W l l (by omega) (fun x hx => ⟨hl x hx, hb x hx⟩) (fun x hx => ⟨hl x hx, hb x hx⟩)
      rw [decide_eq_true rfl] at heq
      simp only [parseV] at hpa
      refine Pure.of (acalls_of_vc (drawOk W) Tryd.func3 rfl (by decide) (by decide) rfl ?_)
      (refine g0_ ?_; repeat ((first | refine n1_ fun b_ => ?_ | refine n2_ fun b_ => ?_ | refine Nat1.mk fun q_ hq_ => ?_ | refine em_ fun x_ hx_ => ?_ | refine Elem1.mk fun e_ he_ => ?_); refine g0_ ?_))
      refine (hpr).use ?_; (refine g0_ ?_; repeat ((first | refine n1_ fun b_ => ?_ | refine n2_ fun b_ => ?_ | refine Nat1.mk fun q_ hq_ => ?_ | refine em_ fun x_ hx_ => ?_ | refine Elem1.mk fun e_ he_ => ?_); refine g0_ ?_))
      (refine g1_ ?_; repeat ((first | refine n1_ fun b_ => ?_ | refine n2_ fun b_ => ?_ | refine Nat1.mk fun q_ hq_ => ?_ | refine em_ fun x_ hx_ => ?_ | refine Elem1.mk fun e_ he_ => ?_); refine g1_ ?_))
      refine (hnt).use ?_; (refine g0_ ?_; repeat ((first | refine n1_ fun b_ => ?_ | refine n2_ fun b_ => ?_ | refine Nat1.mk fun q_ hq_ => ?_ | refine em_ fun x_ hx_ => ?_ | refine Elem1.mk fun e_ he_ => ?_); refine g0_ ?_))
      (refine g1_ ?_; repeat ((first | refine n1_ fun b_ => ?_ | refine n2_ fun b_ => ?_ | refine Nat1.mk fun q_ hq_ => ?_ | refine em_ fun x_ hx_ => ?_ | refine Elem1.mk fun e_ he_ => ?_); refine g1_ ?_))
      refine (hpa).use ?_; (refine g0_ ?_; repeat ((first | refine n1_ fun b_ => ?_ | refine n2_ fun b_ => ?_ | refine Nat1.mk fun q_ hq_ => ?_ | refine em_ fun x_ hx_ => ?_ | refine Elem1.mk fun e_ he_ => ?_); refine g0_ ?_))
      (refine g1_ ?_; repeat ((first | refine n1_ fun b_ => ?_ | refine n2_ fun b_ => ?_ | refine Nat1.mk fun q_ hq_ => ?_ | refine em_ fun x_ hx_ => ?_ | refine Elem1.mk fun e_ he_ => ?_); refine g1_ ?_))
      refine (heq).use ?_; (refine g0_ ?_; repeat ((first | refine n1_ fun b_ => ?_ | refine n2_ fun b_ => ?_ | refine Nat1.mk fun q_ hq_ => ?_ | refine em_ fun x_ hx_ => ?_ | refine Elem1.mk fun e_ he_ => ?_); refine g0_ ?_))
      (refine Frz.of_eq ?_; (conv => lhs; whnf))
      (try rfl)
    · have hE' : printE l = ([], 5) := by rw [printE, if_neg h0, if_neg h1]
      rw [hE'] at hpr
      refine Pure.of (acalls_of_vc (drawOk W) Tryd.func3 rfl (by decide) (by decide) rfl ?_)
      (refine g0_ ?_; repeat ((first | refine n1_ fun b_ => ?_ | refine n2_ fun b_ => ?_ | refine Nat1.mk fun q_ hq_ => ?_ | refine em_ fun x_ hx_ => ?_ | refine Elem1.mk fun e_ he_ => ?_); refine g0_ ?_))
      refine (hpr).use ?_; (refine g0_ ?_; repeat ((first | refine n1_ fun b_ => ?_ | refine n2_ fun b_ => ?_ | refine Nat1.mk fun q_ hq_ => ?_ | refine em_ fun x_ hx_ => ?_ | refine Elem1.mk fun e_ he_ => ?_); refine g0_ ?_))
      (refine g1_ ?_; repeat ((first | refine n1_ fun b_ => ?_ | refine n2_ fun b_ => ?_ | refine Nat1.mk fun q_ hq_ => ?_ | refine em_ fun x_ hx_ => ?_ | refine Elem1.mk fun e_ he_ => ?_); refine g1_ ?_))
      refine (hnt).use ?_; (refine g0_ ?_; repeat ((first | refine n1_ fun b_ => ?_ | refine n2_ fun b_ => ?_ | refine Nat1.mk fun q_ hq_ => ?_ | refine em_ fun x_ hx_ => ?_ | refine Elem1.mk fun e_ he_ => ?_); refine g0_ ?_))
      (refine g1_ ?_; repeat ((first | refine n1_ fun b_ => ?_ | refine n2_ fun b_ => ?_ | refine Nat1.mk fun q_ hq_ => ?_ | refine em_ fun x_ hx_ => ?_ | refine Elem1.mk fun e_ he_ => ?_); refine g1_ ?_))
      refine (hnt).use ?_; (refine g0_ ?_; repeat ((first | refine n1_ fun b_ => ?_ | refine n2_ fun b_ => ?_ | refine Nat1.mk fun q_ hq_ => ?_ | refine em_ fun x_ hx_ => ?_ | refine Elem1.mk fun e_ he_ => ?_); refine g0_ ?_))
      (refine Frz.of_eq ?_; (conv => lhs; whnf))
      (try rfl)
theorem recordBack_ok (hR : Nums W ∧ ErrJ W) (hM : MaxJ W) (l : List Hap) (hl : ∀ x ∈ l, x.ok) (hf : l.length * 48 ≤ 140737488351232 ∧ ∀ c ∈ l, c.bytes.length ≤ 140737488351232) : Pure Tryd.prog W 3 [.sl 5 (l.map encHap)] (.bool true) :=
  recordBack_ok1 W hR.1 hM hR.2 l hl (fun x hx => by have := hf.2 x hx; omega) (by omega)
end Go.Eng.YtlffjmnnoceakaaDoor
end
