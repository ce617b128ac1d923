/- Texts put together: RecL, RecR, RecR2. -/
import Derived.Test.YtlffjmnnoceakaaDoorMRA
import Derived.Test.YtlffjmnnoceakaaDoorMH1
import Derived.WideLaws
/- What recordings ask of the library: strings.Split, Cut, Count at one byte, strconv.Atoi, strconv.ParseUint. -/
section
namespace Go.Eng.YtlffjmnnoceakaaDoor
open Go Go.Eng Go.Proofs Go.RowKit
variable (W : World)
set_option linter.unusedSimpArgs false
set_option maxRecDepth 100000
set_option linter.unusedVariables false
set_option maxHeartbeats 4000000
theorem cell_keep {W w : World} {b : Nat} {v : Value} (hm : W.cell? ⟨b, 0, none⟩ = some v) (hw : ∀ b, b < W.heap.size → w.heap[b]? = W.heap[b]?) : w.cell? ⟨b, 0, none⟩ = some v := by
  have hlt : b < W.heap.size := by
    simp only [World.cell?] at hm
    cases hb : W.heap[b]? with
    | none => simp [hb] at hm
    | some o => exact (Array.getElem?_eq_some_iff.1 hb).1
  have := hw _ hlt
  simpa only [World.cell?, this] using hm
abbrev MaxJ (W : World) : Prop := ∃ m, W.cell? ⟨0, 0, none⟩ = some (.int .i64 m)
abbrev ErrJ (W : World) : Prop := (∃ t p, W.cell? ⟨1, 0, none⟩ = some (.iface t p)) ∧ ∃ t p, W.cell? ⟨2, 0, none⟩ = some (.iface t p)
theorem split_ok (hM : MaxJ W) (s : List UInt8) (c : UInt8) (hs : s.length ≤ 4194304) : Pure Tryd.prog W 17 [.str s, .str [c]] (.sl 1 ((splt c s).map PV.str)) := by
  obtain ⟨m, hm⟩ := hM
  refine Pure.of_strs (splt c s) Tryd.func17 rfl (by decide) rfl (t := 9) fun w _ hw => ?_
  refine (Tryd.strings_Split ⟨s.toArray⟩ ⟨#[c]⟩ m w (by simp [ByteArray.size]; omega) (cell_keep hm hw) (by simp [ByteArray.size])).mono ?_
  rintro e w' ⟨he, hw'⟩
  have hd := Lib.splitB_data ⟨#[c]⟩ 0 (Lib.countB ⟨s.toArray⟩ ⟨#[c]⟩) ⟨s.toArray⟩
  have hs' : (Lib.splitB ⟨#[c]⟩ 0 (Lib.countB ⟨s.toArray⟩ ⟨#[c]⟩) ⟨s.toArray⟩).map (·.data.toList) = splt c s := by
    rw [hd, ← split_splt]; rfl
  have hl : (splt c s).length = Lib.countB ⟨s.toArray⟩ ⟨#[c]⟩ + 1 := count_splt c s
  refine ⟨by rw [he, hl], ?_⟩
  rw [hw', ← hs', List.map_map]
  rfl
theorem count_ok (hM : MaxJ W) (s : List UInt8) (c : UInt8) (hs : s.length ≤ 4194304) : Pure Tryd.prog W 9 [.str s, .str [c]] (.int .i64 ((splt c s).length - 1 : Nat)) := by
  obtain ⟨m, hm⟩ := hM
  have hl : (splt c s).length = Lib.countB ⟨s.toArray⟩ ⟨#[c]⟩ + 1 := count_splt c s
  rw [hl, Nat.add_sub_cancel]
  exact Pure.of_below Tryd.func9 rfl (by decide) rfl rfl fun w _ hw => (Tryd.strings_Count_any ⟨s.toArray⟩ ⟨#[c]⟩ m w (by simp [ByteArray.size]; omega) (cell_keep hm hw) (by simp [ByteArray.size])).mono fun _ _ h => ⟨h.1, h.2 ▸ RowKit.Below.refl _ _⟩
theorem cutS_ok (hM : MaxJ W) (s : List UInt8) (c : UInt8) (hs : s.length ≤ 4194304) : Pure Tryd.prog W 10 [.str s, .str [c]] (.tup [.str (Lib.cut s [c]).1, .str (Lib.cut s [c]).2.1, .bool (Lib.cut s [c]).2.2]) := by
  obtain ⟨m, hm⟩ := hM
  exact Pure.of_below Tryd.func10 rfl (by decide) rfl rfl fun w _ hw => (Tryd.strings_Cut ⟨s.toArray⟩ ⟨#[c]⟩ m w (by simp [ByteArray.size]; omega) (cell_keep hm hw)).mono fun _ _ h => ⟨h.1, by
    obtain ⟨n, rfl⟩ := h.2
    exact ⟨rfl, rfl, rfl, Nat.le_refl _, fun _ _ => rfl⟩⟩
/-- The error beside a number: nil, or one of which nothing is told. -/
def errP (b : Bool) : PV := if b then .lit .nilIface else .ifc 78 .dead
def isOk {α : Type} : Lib.NumEnd α → Bool
  | .ok _ => true
  | _ => false
theorem atoi_ok (hE : ErrJ W) (s : List UInt8) (hs : s.length ≤ 4194304) : Pure Tryd.prog W 23 [.str s] (.tup [.int .i64 (cntV s), errP (isOk (Lib.atoiAll s))]) := by
  obtain ⟨⟨t1, p1, h1⟩, t2, p2, h2⟩ := hE
  have hsz : (⟨s.toArray⟩ : ByteArray).size = s.length := by simp [ByteArray.size]
  refine Pure.of_any Tryd.func23 rfl (by decide) rfl fun w _ hw => ?_
  unfold cntV
  cases h : Lib.atoiAll s with
  | ok n =>
    refine (Tryd.strconv_Atoi_ok ⟨s.toArray⟩ (by omega) n h w).mono ?_
    rintro e w' ⟨he, hb⟩
    refine ⟨_, he, fun K => .tup [_, _] [.int .i64 n, .nilIface] rfl fun i hi => ?_, ?_⟩
    · match i, hi with
      | 0, _ => exact .int _ _
      | 1, _ => exact .lit _
    · rcases hb with rfl | ⟨t, rfl⟩
      · exact .refl _ _
      · exact Lib.bytesWorld_below _ _ _
  | «syntax» =>
    refine (Tryd.strconv_Atoi_syntax ⟨s.toArray⟩ (by omega) h _ w (cell_keep h1 hw) (.inr ⟨_, _, rfl⟩)).mono ?_
    rintro e w' ⟨N, he, -, -, hb⟩
    refine ⟨_, he, fun K => .tup [_, _] [.int .i64 0, _] rfl fun i hi => ?_, hb⟩
    match i, hi with
    | 0, _ => exact .int _ _
    | 1, _ => exact .ifc _ _ _ (.dead _)
  | range =>
    refine (Tryd.strconv_Atoi_range ⟨s.toArray⟩ (by omega) h _ w (cell_keep h2 hw) (.inr ⟨_, _, rfl⟩)).mono ?_
    rintro e w' ⟨N, he, -, -, hb⟩
    refine ⟨_, he, fun K => .tup [_, _] [.int .i64 (Lib.atoiSat s), _] rfl fun i hi => ?_, hb⟩
    match i, hi with
    | 0, _ => exact .int _ _
    | 1, _ => exact .ifc _ _ _ (.dead _)
theorem toErr_ok (hE : ErrJ W) (f s : List UInt8) (b c : Int) (hs : s.length ≤ 4194304) : Pure Tryd.prog W 35 [.str f, .str s, .int .i64 b, .int .i64 c, .ifc 75 (.int .i64 2)] (.ifc 78 .dead) := by
  obtain ⟨⟨t1, p1, h1⟩, -⟩ := hE
  have hsz : (⟨s.toArray⟩ : ByteArray).size = s.length := by simp [ByteArray.size]
  refine ⟨⟨_, Tryd.func35, by decide, rfl⟩, fun K w vs hl hv hm hp => ?_⟩
  obtain ⟨v0, v1, v2, v3, v4, rfl⟩ : ∃ v0 v1 v2 v3 v4, vs = [v0, v1, v2, v3, v4] := by
    match vs, hl with
    | [v0, v1, v2, v3, v4], _ => exact ⟨v0, v1, v2, v3, v4, rfl⟩
  have g0 := hv 0 (by simp)
  have g1 := hv 1 (by simp)
  have g2 := hv 2 (by simp)
  have g3 := hv 3 (by simp)
  have g4 := hv 4 (by simp)
  simp only [List.getD_cons_zero, List.getD_cons_succ] at g0 g1 g2 g3 g4
  cases g0; cases g1; cases g2; cases g3
  cases g4 with
  | ifc _ _ v h4 =>
    cases h4
    refine (Tryd.strconv_toError_syntax ⟨f.toArray⟩ ⟨s.toArray⟩ b c _ w (by omega) (cell_keep h1 hp.base) (.inr ⟨_, _, rfl⟩)).mono ?_
    rintro e w' ⟨N, he, -, -, hb⟩
    exact ⟨_, .ifc 78 .dead, [], K, he, rfl, .ifc _ _ _ (.dead _), ⟨fun b o h => Nat.lt_of_lt_of_le (hm.kin b o h) hb.size, by simp, fun k hk => by cases hk⟩, Ext.of_below hb hm.kin⟩
/-- An error held against nil. -/
theorem neq_nil0 {t : TypeId} {xo : Operand} {c : Value} (ht : Tryd.prog.underlying t = some (.interface (Tryd.prog.methodsAt t))) : EqLaw Tryd.prog .neq t xo (.const c) (.lit .nilIface) (.lit .nilIface) false := by
  refine ⟨fun K w u v h1 h2 => ?_⟩
  cases h1; cases h2
  have e0 : (eqGuard .neq t xo (.const c) .nilIface .nilIface).run Tryd.prog w = .ok () w := by simp [eqGuard]
  rw [Sem.run_bind, e0, Result.andThen_ok, run_neq_nil_nil w t ht]
theorem neq_held {t d : TypeId} {p : PV} {xo yo : Operand} (ht : Tryd.prog.underlying t = some (.interface (Tryd.prog.methodsAt t))) : EqLaw Tryd.prog .neq t xo yo (.ifc d p) (.lit .nilIface) true := by
  refine ⟨fun K w u v h1 h2 => ?_⟩
  cases h1; cases h2
  have e0 : ∀ x, (eqGuard .neq t xo yo (.iface d x) .nilIface).run Tryd.prog w = .ok () w := fun x => by simp [eqGuard]
  rw [Sem.run_bind, e0, Result.andThen_ok, run_neq_held_nil w t d _ ht]
theorem eql_nil0 {t : TypeId} {xo : Operand} {c : Value} (ht : Tryd.prog.underlying t = some (.interface (Tryd.prog.methodsAt t))) : EqLaw Tryd.prog .eql t xo (.const c) (.lit .nilIface) (.lit .nilIface) true := by
  refine ⟨fun K w u v h1 h2 => ?_⟩
  cases h1; cases h2
  have e0 : (eqGuard .eql t xo (.const c) .nilIface .nilIface).run Tryd.prog w = .ok () w := by simp [eqGuard]
  rw [Sem.run_bind, e0, Result.andThen_ok, run_eql_nil_nil w t ht]
theorem eql_held {t d : TypeId} {p : PV} {xo yo : Operand} (ht : Tryd.prog.underlying t = some (.interface (Tryd.prog.methodsAt t))) : EqLaw Tryd.prog .eql t xo yo (.ifc d p) (.lit .nilIface) false := by
  refine ⟨fun K w u v h1 h2 => ?_⟩
  cases h1; cases h2
  have e0 : ∀ x, (eqGuard .eql t xo yo (.iface d x) .nilIface).run Tryd.prog w = .ok () w := fun x => by simp [eqGuard]
  rw [Sem.run_bind, e0, Result.andThen_ok, run_eql_held_nil w t d _ ht]
theorem parseUint_ok (hE : ErrJ W) (a b : UInt8) : Pure Tryd.prog W 24 [.str [a, b], .int .i64 16, .int .i64 8] (.tup [.int .u64 ((hex2 a b).getD 0 : Nat), errP (hex2 a b).isSome]) := by
  have hp := parse2_ok W a b
  cases h : hex2 a b with
  | none =>
    rw [h] at hp
    refine Pure.of (acalls_of_vc (drawOk W) Tryd.func24 rfl (by decide) (by decide) rfl ?_)
    refine g0_ ?_
    refine (hp).use ?_; refine g0_ ?_
    refine ⟨_, neq_held (by kernel_rfl), ?_⟩
    refine g0_ ?_
    refine (toErr_ok W hE _ [a, b] 16 8 (by simp)).use ?_; refine g0_ ?_
    refine g0_ ?_
    exact .refl _
  | some n =>
    rw [h] at hp
    refine Pure.of (acalls_of_vc (drawOk W) Tryd.func24 rfl (by decide) (by decide) rfl ?_)
    refine g0_ ?_
    refine (hp).use ?_; refine g0_ ?_
    refine ⟨_, neq_nil0 (by kernel_rfl), ?_⟩
    refine g0_ ?_
    exact .refl _
end Go.Eng.YtlffjmnnoceakaaDoor
end

/- Recordings read: count. -/
section
namespace Go.Eng.YtlffjmnnoceakaaDoor
open Go Go.Eng Go.Proofs Go.RowKit
variable (W : World)
set_option linter.unusedSimpArgs false
set_option maxRecDepth 100000
set_option linter.unusedVariables false
set_option maxHeartbeats 4000000
theorem splt_len (c : UInt8) : ∀ (s p : List UInt8), p ∈ splt c s → p.length ≤ s.length
  | [], p, h => by simp [splt] at h; simp [h]
  | x :: r, p, h => by
    rw [splt] at h
    obtain ⟨a, l, e⟩ : ∃ a l, splt c r = a :: l := List.exists_cons_of_ne_nil (splt_ne c r)
    have ih := splt_len c r
    rw [e] at ih
    split at h
    · rw [e] at h
      rcases List.mem_cons.1 h with rfl | h
      · simp
      · have := ih p h; simp only [List.length_cons]; omega
    · rw [e] at h
      simp only [List.headD_cons, List.tail_cons] at h
      rcases List.mem_cons.1 h with rfl | h
      · have := ih a (by simp); simp only [List.length_cons]; omega
      · have := ih p (List.mem_cons_of_mem _ h); simp only [List.length_cons]; omega
theorem countR_ok (hN : Nums W) (hE : ErrJ W) (s : List UInt8) (hs : s.length ≤ 4194304) : Pure Tryd.prog W 31 [.str s] (.tup [.int .i64 (cntV s), .bool (cntOk s)]) := by
  have ha := atoi_ok W hE s hs
  have hv := cntV_i64 s
  unfold cntOk
  cases h : Lib.atoiAll s with
  | ok n =>
    have hc : cntV s = n := by unfold cntV; rw [h]
    rw [h, show errP (isOk (Lib.NumEnd.ok n)) = .lit .nilIface from rfl] at ha
    rw [hc] at ha hv ⊢
    refine Pure.of (acalls_of_vc (drawOk W) Tryd.func31 rfl (by decide) (by decide) rfl ?_)
    refine g0_ ?_
    refine (ha).use ?_; refine g0_ ?_
    refine ⟨_, eql_nil0 (by kernel_rfl), ?_⟩
    by_cases h0 : 0 ≤ n
    · refine g1_ ?_
      refine (itoa_ok W hN n hv).use ?_; refine g0_ ?_
      (refine Frz.of_eq ?_; (conv => lhs; whnf))
      (simp [h0])
    · refine g1_ ?_
      (refine Frz.of_eq ?_; (conv => lhs; whnf))
      (simp [h0])
  | «syntax» =>
    rw [h, show errP (isOk (Lib.NumEnd.syntax : Lib.NumEnd Int)) = .ifc 78 .dead from rfl] at ha
    refine Pure.of (acalls_of_vc (drawOk W) Tryd.func31 rfl (by decide) (by decide) rfl ?_)
    refine g0_ ?_
    refine (ha).use ?_; refine g0_ ?_
    refine ⟨_, eql_held (by kernel_rfl), ?_⟩
    refine g1_ ?_
    (refine Frz.of_eq ?_; (conv => lhs; whnf))
  | range =>
    rw [h, show errP (isOk (Lib.NumEnd.range : Lib.NumEnd Int)) = .ifc 78 .dead from rfl] at ha
    refine Pure.of (acalls_of_vc (drawOk W) Tryd.func31 rfl (by decide) (by decide) rfl ?_)
    refine g0_ ?_
    refine (ha).use ?_; refine g0_ ?_
    refine ⟨_, eql_held (by kernel_rfl), ?_⟩
    refine g1_ ?_
    (refine Frz.of_eq ?_; (conv => lhs; whnf))
end Go.Eng.YtlffjmnnoceakaaDoor
end

/- Recordings read: unquote. -/
section
namespace Go.Eng.YtlffjmnnoceakaaDoor
open Go Go.Eng Go.Proofs Go.RowKit
variable (W : World)
set_option linter.unusedSimpArgs false
set_option maxRecDepth 100000
set_option linter.unusedVariables false
set_option maxHeartbeats 4000000
theorem drop_cons1 {s : List UInt8} {i : Nat} (h : i < s.length) : s.drop i = s[i] :: s.drop (i + 1) := List.drop_eq_getElem_cons h
theorem unq_end {s a : List UInt8} (h : unq s = (unq (s.drop s.length)).map (a ++ ·)) : unqV s = (a, decide (quoteL a = s)) := by
  rw [List.drop_length] at h
  simp [unq] at h
  rw [unqV, h]
theorem unq_bad {s a t : List UInt8} (h : unq s = (unq t).map (a ++ ·)) (ht : unq t = none) : unqV s = ([], false) := by
  rw [ht] at h
  rw [unqV, h]; rfl
theorem unq_go {s a t r b : List UInt8} (h : unq s = (unq t).map (a ++ ·)) (ht : unq t = (unq r).map (b ++ ·)) : unq s = (unq r).map (a ++ b ++ ·) := by
  rw [h, ht, Option.map_map]
  congr 1
  funext x; simp
/-- Bytes that one adds to: nil, or a row of the call's own. -/
def bufP (c : Nat) : List PV → PV
  | [] => .nils
  | _ :: l => .bsl 5 c (l.length + 1)
theorem frz_bufP (c : Nat) (o : List PV) : Frz (accM c 1 o) (bufP c o) (.sl 1 o) := by
  cases o with
  | nil => exact .nils 1
  | cons x l => exact .byt _ _ _ _ (.rsl c 1 0 (l.length + 1) (x :: l) (x :: l) 0 [] (.here _ _ _) (by simp) (by simp) (fun j hj => by rw [Nat.zero_add]; exact .refl _))
theorem backs (l : List UInt8) : (l.map fun c => (c.toNat : Int)).map (fun n => UInt8.ofNat n.toNat) = l := by
  rw [List.map_map]
  conv => rhs; rw [← List.map_id l]
  apply List.map_congr_left
  intro c hc
  simp
theorem unquote_ok (hE : ErrJ W) (s : List UInt8) (hs : s.length ≤ 1048576) : Pure Tryd.prog W 32 [.str s] (.tup [.str (unqV s).1, .bool (unqV s).2]) := by
  refine Pure.of (acalls_of_vc (DG_ok (by decide)) Tryd.func32 rfl (by decide) (by decide) rfl ?_)
  (refine g0_ ?_; repeat ((first | refine n1_ fun b_ => ?_ | refine n2_ fun b_ => ?_ | refine Elem1.mk fun e_ he_ => ?_); refine g0_ ?_))
  refine' loopI (α := Nat × Nat × (List PV) × (List UInt8)) (fun (i, b, o, a) => [(5, .int .i64 i), (4, bufP b o)]) [(0, _)] (fun (i, b, o, a) => accM b 1 o) (fun (i, b, o, a) => i ≤ s.length ∧ a.length ≤ i ∧ o = a.map byteP ∧ unq s = (unq (s.drop i)).map (a ++ ·)) (fun (i, b, o, a) => s.length - i) (0, 0, [], []) ?_ ?_
  · exact ⟨Nat.zero_le _, Nat.le_refl _, rfl, by rw [List.drop_zero]; simp⟩
  rintro ⟨i, b, o, a⟩ ⟨hi, hal, ho, hu⟩
  rcases o with _ | ⟨p, o⟩
  · have hA := congrArg List.length ho
    simp only [List.length_cons, List.length_nil, List.length_map] at hA
    (refine g0_ ?_; repeat ((first | refine n1_ fun b_ => ?_ | refine n2_ fun b_ => ?_ | refine Elem1.mk fun e_ he_ => ?_); refine g0_ ?_))
    refine brec ?_; intro c_ h1; (try rw [h1]); cases c_ <;> replace h1 := nm_ h1
    · have hi2 : i = s.length := by omega
      rw [hi2] at hu
      have hV := unq_end hu
      rw [hV]
      (refine g0_ ?_; repeat ((first | refine n1_ fun b_ => ?_ | refine n2_ fun b_ => ?_ | refine Elem1.mk fun e_ he_ => ?_); refine g0_ ?_))
      refine freeze_ 4 (.sl 1 []) [] (accM b 1 []) (.refl _) (frz_bufP b []) ?_
      refine head_ ?_
      (refine g0_ ?_; repeat ((first | refine n1_ fun b_ => ?_ | refine n2_ fun b_ => ?_ | refine Elem1.mk fun e_ he_ => ?_); refine g0_ ?_))
      refine ⟨a.map fun c => (c.toNat : Int), by rw [ho, List.map_map]; rfl, ?_⟩
      rw [backs]
      (refine g0_ ?_; repeat ((first | refine n1_ fun b_ => ?_ | refine n2_ fun b_ => ?_ | refine Elem1.mk fun e_ he_ => ?_); refine g0_ ?_))
      refine ⟨a.map fun c => (c.toNat : Int), by rw [ho, List.map_map]; rfl, ?_⟩
      rw [backs]
      (refine g0_ ?_; repeat ((first | refine n1_ fun b_ => ?_ | refine n2_ fun b_ => ?_ | refine Elem1.mk fun e_ he_ => ?_); refine g0_ ?_))
      refine ⟨_, (quote_ok W a (by omega)).quiet, ?_⟩; (refine g0_ ?_; repeat ((first | refine n1_ fun b_ => ?_ | refine n2_ fun b_ => ?_ | refine Elem1.mk fun e_ he_ => ?_); refine g0_ ?_))
      (refine g0_ ?_; repeat ((first | refine n1_ fun b_ => ?_ | refine n2_ fun b_ => ?_ | refine Elem1.mk fun e_ he_ => ?_); refine g0_ ?_))
      exact .of_eq (by rfl)
    · have hil : i < s.length := by omega
      obtain ⟨x, hx⟩ : ∃ x, s[i]? = some x := ⟨s[i], List.getElem?_eq_getElem hil⟩
      have hxl := x.toNat_lt
      have hd : ∀ t, s.drop (i + 1) = t → s.drop i = x :: t := by
        rintro t rfl
        rw [drop_cons1 hil]
        have := (List.getElem?_eq_some_iff.1 hx).2
        rw [this]
      (refine g0_ ?_; repeat ((first | refine n1_ fun b_ => ?_ | refine n2_ fun b_ => ?_ | refine Elem1.mk fun e_ he_ => ?_); refine g0_ ?_))
      rw [hx] at he_
      obtain rfl := Option.some.inj he_
      by_cases h37 : x.toNat = 37
      · (refine g1_ ?_; repeat ((first | refine n1_ fun b_ => ?_ | refine n2_ fun b_ => ?_ | refine Elem1.mk fun e_ he_ => ?_); refine g1_ ?_))
        by_cases h2 : s.length ≤ i + 2
        · have hV : unqV s = ([], false) := unq_bad hu (by
            rw [hd _ rfl]
            have hl : (s.drop (i + 1)).length ≤ 1 := by rw [List.length_drop]; omega
            match hq : s.drop (i + 1), hl with
            | [], _ => simp [unq, h37]
            | [y], _ => simp [unq, h37])
          (refine g1_ ?_; repeat ((first | refine n1_ fun b_ => ?_ | refine n2_ fun b_ => ?_ | refine Elem1.mk fun e_ he_ => ?_); refine g1_ ?_))
          exact .of_eq (by rw [hV])
        · obtain ⟨y, z, t, hyz⟩ : ∃ y z t, s.drop (i + 1) = y :: z :: t := by
            have hl : 2 ≤ (s.drop (i + 1)).length := by rw [List.length_drop]; omega
            match hq : s.drop (i + 1), hl with
            | y :: z :: t, _ => exact ⟨y, z, t, rfl⟩
          have hcut : List.drop (i + 1) (List.take (i + 3) s) = [y, z] := by
            rw [show i + 3 = (i + 1) + 2 by omega, List.drop_take, Nat.add_sub_cancel_left, hyz]; rfl
          have hdr : s.drop (i + 3) = t := by
            have := congrArg (List.drop 2) hyz
            rw [List.drop_drop] at this
            simpa using this
          have hp := parseUint_ok W hE y z
          have hu3 : unq (s.drop i) = (hex2 y z).bind fun n => (unq t).map (UInt8.ofNat n :: ·) := by rw [hd _ hyz, unq, if_pos h37]
          (refine g1_ ?_; repeat ((first | refine n1_ fun b_ => ?_ | refine n2_ fun b_ => ?_ | refine Elem1.mk fun e_ he_ => ?_); refine g1_ ?_))
          rw [hcut]
          cases hx2 : hex2 y z with
          | none =>
            rw [hx2] at hp hu3
            have hV : unqV s = ([], false) := unq_bad hu hu3
            refine (hp).use ?_; (refine g0_ ?_; repeat ((first | refine n1_ fun b_ => ?_ | refine n2_ fun b_ => ?_ | refine Elem1.mk fun e_ he_ => ?_); refine g0_ ?_))
            refine ⟨_, neq_held (by kernel_rfl), ?_⟩
            (refine g0_ ?_; repeat ((first | refine n1_ fun b_ => ?_ | refine n2_ fun b_ => ?_ | refine Elem1.mk fun e_ he_ => ?_); refine g0_ ?_))
            exact .of_eq (by rw [hV])
          | some n =>
            rw [hx2] at hp hu3
            have hn := hex2_lt hx2
            obtain ⟨q, rfl⟩ : ∃ q : UInt8, n = q.toNat := ⟨UInt8.ofNat n, by simp; omega⟩
            simp only [Option.getD_some, Option.bind_some, UInt8.ofNat_toNat] at hp hu3
            refine (hp).use ?_; (refine g0_ ?_; repeat ((first | refine n1_ fun b_ => ?_ | refine n2_ fun b_ => ?_ | refine Elem1.mk fun e_ he_ => ?_); refine g0_ ?_))
            refine ⟨_, neq_nil0 (by kernel_rfl), ?_⟩
            (refine g0_ ?_; repeat ((first | refine n1_ fun b_ => ?_ | refine n2_ fun b_ => ?_ | refine Elem1.mk fun e_ he_ => ?_); refine g0_ ?_))
            (refine g0_ ?_; repeat ((first | refine n1_ fun b_ => ?_ | refine n2_ fun b_ => ?_ | refine Elem1.mk fun e_ he_ => ?_); refine g0_ ?_))
            refine .inl ?_
            (refine g0_ ?_; repeat ((first | refine n1_ fun b_ => ?_ | refine n2_ fun b_ => ?_ | refine Elem1.mk fun e_ he_ => ?_); refine g0_ ?_))
            refine nx_ (i + 3, b_, [] ++ [byteP q], a ++ [q]) ?_ ?_
            · exact ⟨by omega, by rw [List.length_append]; simp; omega, by rw [List.map_append, ← ho]; rfl, unq_go hu (by rw [hdr]; exact hu3)⟩
            · ((try dsimp only); (try simp only [List.length_drop, List.length_take, List.length_append, List.length_cons, List.length_nil, List.length_map] at *); omega)
      · (refine g1_ ?_; repeat ((first | refine n1_ fun b_ => ?_ | refine n2_ fun b_ => ?_ | refine Elem1.mk fun e_ he_ => ?_); refine g1_ ?_))
        refine .inl ?_
        (refine g0_ ?_; repeat ((first | refine n1_ fun b_ => ?_ | refine n2_ fun b_ => ?_ | refine Elem1.mk fun e_ he_ => ?_); refine g0_ ?_))
        refine nx_ (i + 1, b_, [] ++ [byteP x], a ++ [x]) ?_ ?_
        · exact ⟨by omega, by rw [List.length_append]; simp; omega, by rw [List.map_append, ← ho]; rfl, unq_go hu (by rw [hd _ rfl, unq_cons h37]; rfl)⟩
        · ((try dsimp only); (try simp only [List.length_drop, List.length_take, List.length_append, List.length_cons, List.length_nil, List.length_map] at *); omega)
  · have hA := congrArg List.length ho
    simp only [List.length_cons, List.length_nil, List.length_map] at hA
    (refine g0_ ?_; repeat ((first | refine n1_ fun b_ => ?_ | refine n2_ fun b_ => ?_ | refine Elem1.mk fun e_ he_ => ?_); refine g0_ ?_))
    refine brec ?_; intro c_ h1; (try rw [h1]); cases c_ <;> replace h1 := nm_ h1
    · have hi2 : i = s.length := by omega
      rw [hi2] at hu
      have hV := unq_end hu
      rw [hV]
      (refine g0_ ?_; repeat ((first | refine n1_ fun b_ => ?_ | refine n2_ fun b_ => ?_ | refine Elem1.mk fun e_ he_ => ?_); refine g0_ ?_))
      refine freeze_ 4 (.sl 1 (p :: o)) [] (accM b 1 (p :: o)) (.refl _) (frz_bufP b (p :: o)) ?_
      refine head_ ?_
      (refine g0_ ?_; repeat ((first | refine n1_ fun b_ => ?_ | refine n2_ fun b_ => ?_ | refine Elem1.mk fun e_ he_ => ?_); refine g0_ ?_))
      refine ⟨a.map fun c => (c.toNat : Int), by rw [ho, List.map_map]; rfl, ?_⟩
      rw [backs]
      (refine g0_ ?_; repeat ((first | refine n1_ fun b_ => ?_ | refine n2_ fun b_ => ?_ | refine Elem1.mk fun e_ he_ => ?_); refine g0_ ?_))
      refine ⟨a.map fun c => (c.toNat : Int), by rw [ho, List.map_map]; rfl, ?_⟩
      rw [backs]
      (refine g0_ ?_; repeat ((first | refine n1_ fun b_ => ?_ | refine n2_ fun b_ => ?_ | refine Elem1.mk fun e_ he_ => ?_); refine g0_ ?_))
      refine ⟨_, (quote_ok W a (by omega)).quiet, ?_⟩; (refine g0_ ?_; repeat ((first | refine n1_ fun b_ => ?_ | refine n2_ fun b_ => ?_ | refine Elem1.mk fun e_ he_ => ?_); refine g0_ ?_))
      (refine g0_ ?_; repeat ((first | refine n1_ fun b_ => ?_ | refine n2_ fun b_ => ?_ | refine Elem1.mk fun e_ he_ => ?_); refine g0_ ?_))
      exact .of_eq (by rfl)
    · have hil : i < s.length := by omega
      obtain ⟨x, hx⟩ : ∃ x, s[i]? = some x := ⟨s[i], List.getElem?_eq_getElem hil⟩
      have hxl := x.toNat_lt
      have hd : ∀ t, s.drop (i + 1) = t → s.drop i = x :: t := by
        rintro t rfl
        rw [drop_cons1 hil]
        have := (List.getElem?_eq_some_iff.1 hx).2
        rw [this]
      (refine g0_ ?_; repeat ((first | refine n1_ fun b_ => ?_ | refine n2_ fun b_ => ?_ | refine Elem1.mk fun e_ he_ => ?_); refine g0_ ?_))
      rw [hx] at he_
      obtain rfl := Option.some.inj he_
      by_cases h37 : x.toNat = 37
      · (refine g1_ ?_; repeat ((first | refine n1_ fun b_ => ?_ | refine n2_ fun b_ => ?_ | refine Elem1.mk fun e_ he_ => ?_); refine g1_ ?_))
        by_cases h2 : s.length ≤ i + 2
        · have hV : unqV s = ([], false) := unq_bad hu (by
            rw [hd _ rfl]
            have hl : (s.drop (i + 1)).length ≤ 1 := by rw [List.length_drop]; omega
            match hq : s.drop (i + 1), hl with
            | [], _ => simp [unq, h37]
            | [y], _ => simp [unq, h37])
          (refine g1_ ?_; repeat ((first | refine n1_ fun b_ => ?_ | refine n2_ fun b_ => ?_ | refine Elem1.mk fun e_ he_ => ?_); refine g1_ ?_))
          exact .of_eq (by rw [hV])
        · obtain ⟨y, z, t, hyz⟩ : ∃ y z t, s.drop (i + 1) = y :: z :: t := by
            have hl : 2 ≤ (s.drop (i + 1)).length := by rw [List.length_drop]; omega
            match hq : s.drop (i + 1), hl with
            | y :: z :: t, _ => exact ⟨y, z, t, rfl⟩
          have hcut : List.drop (i + 1) (List.take (i + 3) s) = [y, z] := by
            rw [show i + 3 = (i + 1) + 2 by omega, List.drop_take, Nat.add_sub_cancel_left, hyz]; rfl
          have hdr : s.drop (i + 3) = t := by
            have := congrArg (List.drop 2) hyz
            rw [List.drop_drop] at this
            simpa using this
          have hp := parseUint_ok W hE y z
          have hu3 : unq (s.drop i) = (hex2 y z).bind fun n => (unq t).map (UInt8.ofNat n :: ·) := by rw [hd _ hyz, unq, if_pos h37]
          (refine g1_ ?_; repeat ((first | refine n1_ fun b_ => ?_ | refine n2_ fun b_ => ?_ | refine Elem1.mk fun e_ he_ => ?_); refine g1_ ?_))
          rw [hcut]
          cases hx2 : hex2 y z with
          | none =>
            rw [hx2] at hp hu3
            have hV : unqV s = ([], false) := unq_bad hu hu3
            refine (hp).use ?_; (refine g0_ ?_; repeat ((first | refine n1_ fun b_ => ?_ | refine n2_ fun b_ => ?_ | refine Elem1.mk fun e_ he_ => ?_); refine g0_ ?_))
            refine ⟨_, neq_held (by kernel_rfl), ?_⟩
            (refine g0_ ?_; repeat ((first | refine n1_ fun b_ => ?_ | refine n2_ fun b_ => ?_ | refine Elem1.mk fun e_ he_ => ?_); refine g0_ ?_))
            exact .of_eq (by rw [hV])
          | some n =>
            rw [hx2] at hp hu3
            have hn := hex2_lt hx2
            obtain ⟨q, rfl⟩ : ∃ q : UInt8, n = q.toNat := ⟨UInt8.ofNat n, by simp; omega⟩
            simp only [Option.getD_some, Option.bind_some, UInt8.ofNat_toNat] at hp hu3
            refine (hp).use ?_; (refine g0_ ?_; repeat ((first | refine n1_ fun b_ => ?_ | refine n2_ fun b_ => ?_ | refine Elem1.mk fun e_ he_ => ?_); refine g0_ ?_))
            refine ⟨_, neq_nil0 (by kernel_rfl), ?_⟩
            (refine g0_ ?_; repeat ((first | refine n1_ fun b_ => ?_ | refine n2_ fun b_ => ?_ | refine Elem1.mk fun e_ he_ => ?_); refine g0_ ?_))
            (refine g0_ ?_; repeat ((first | refine n1_ fun b_ => ?_ | refine n2_ fun b_ => ?_ | refine Elem1.mk fun e_ he_ => ?_); refine g0_ ?_))
            refine .inl ?_
            (refine g0_ ?_; repeat ((first | refine n1_ fun b_ => ?_ | refine n2_ fun b_ => ?_ | refine Elem1.mk fun e_ he_ => ?_); refine g0_ ?_))
            refine nx_ (i + 3, b_, (p :: o) ++ [byteP q], a ++ [q]) ?_ ?_
            · exact ⟨by omega, by rw [List.length_append]; simp; omega, by rw [List.map_append, ← ho]; rfl, unq_go hu (by rw [hdr]; exact hu3)⟩
            · ((try dsimp only); (try simp only [List.length_drop, List.length_take, List.length_append, List.length_cons, List.length_nil, List.length_map] at *); omega)
      · (refine g1_ ?_; repeat ((first | refine n1_ fun b_ => ?_ | refine n2_ fun b_ => ?_ | refine Elem1.mk fun e_ he_ => ?_); refine g1_ ?_))
        refine .inl ?_
        (refine g0_ ?_; repeat ((first | refine n1_ fun b_ => ?_ | refine n2_ fun b_ => ?_ | refine Elem1.mk fun e_ he_ => ?_); refine g0_ ?_))
        refine nx_ (i + 1, b_, (p :: o) ++ [byteP x], a ++ [x]) ?_ ?_
        · exact ⟨by omega, by rw [List.length_append]; simp; omega, by rw [List.map_append, ← ho]; rfl, unq_go hu (by rw [hd _ rfl, unq_cons h37]; rfl)⟩
        · ((try dsimp only); (try simp only [List.length_drop, List.length_take, List.length_append, List.length_cons, List.length_nil, List.length_map] at *); omega)
end Go.Eng.YtlffjmnnoceakaaDoor
end
