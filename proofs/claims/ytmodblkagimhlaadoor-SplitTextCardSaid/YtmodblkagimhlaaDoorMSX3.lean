/- Texts put together: Spl53, Spl54. -/
import Derived.Test.YtmodblkagimhlaaDoorMSX2
import Derived.Test.YtmodblkagimhlaaDoorMSB2
/- Splits: a text that can't be read: what is deferred says where (b_ x_ q_ e_). -/
section
namespace Go.Eng
open Go Go.Eng
variable {P : Program} {W : World}
def ifaceZ : TypeDesc → Bool
  | .interface _ => true
  | _ => false
theorem opLaw_as {x : Operand} {s u : TypeId} {env : Env} {σ : Mem} {k : PV → Mem → Prop} {t : TypeId} {p : PV} {d : TypeDesc} (hx : ev env x = .ifc t p) (hu : P.underlying u = some d) (hni : ifaceZ d = false) (hc : cellsB (zeroV P u) = true)
    (hk : k (bif Nat.beq t u then .tup [p, .bool true] else .tup [zeroV P u, .bool false]) σ) : OpLaw P W (.typeAssert x s u true) env σ k := by
  refine ⟨fun o' K w a next Q ho hm hp he hn => ?_⟩
  have h1 := he x (by simp [Op.operands])
  rw [hx] at h1
  cases h2 : a.eval x <;> rw [h2] at h1 <;> cases h1
  rename_i v hv
  obtain ⟨dst, op, type, pos, after, guard⟩ := o'
  dsimp only at ho
  subst ho
  obtain ⟨i, z, hi, hz, hzv⟩ := zeroV_rel hc
  have hrun : ∃ pv r, (Instr.typeAssert (a.eval x) s u true).run P w = .ok r w ∧ VRel K w pv r ∧ k pv σ := by
    refine ⟨_, if t = u then .tuple #[v, .bool true] else .tuple #[z, .bool false], ?_, ?_, hk⟩
    · rw [h2]
      unfold Instr.typeAssert
      rw [Sem.run_bind, run_underlying hu, Result.andThen_ok]
      cases d <;> first | cases hni | skip
      all_goals
        by_cases htu : t = u
        · simp [htu]
        · simp [htu, run_zeroValue hi hz]
    · by_cases htu : t = u
      · subst htu
        simp only [Nat.beq_refl, cond_true, if_true]
        have := VRel.tup (K := K) (w := w) [p, .bool true] [v, .bool true] rfl (fun i hi => by
          match i, hi with
          | 0, _ => exact hv
          | 1, _ => exact .bool _)
        simpa using this
      · have hb : Nat.beq t u = false := by
          cases h : Nat.beq t u with
          | true => exact absurd (Nat.eq_of_beq_eq_true h) htu
          | false => rfl
        rw [hb, if_neg htu, cond_false, hzv]
        have := VRel.tup (K := K) (w := w) [ofV z, .bool false] [z, .bool false] rfl (fun i hi => by
          match i, hi with
          | 0, _ => exact ofV_rel z
          | 1, _ => exact .bool _)
        simpa using this
  exact wp_of_does (s := Instr.typeAssert (a.eval x) s u true) rfl (Does.of_pure hm hrun) hn
end Go.Eng
namespace Go.Eng.YtmodblkagimhlaaDoor
open Go Go.Eng Go.Proofs Go.RowKit
variable (W : World)
set_option linter.unusedSimpArgs false
set_option maxRecDepth 100000
set_option linter.unusedVariables false
set_option maxHeartbeats 4000000
theorem neq_heldS {t d : TypeId} {p : PV} {xo yo : Operand} (ht : Tryd.prog.underlying t = some (.interface (Tryd.prog.methodsAt t))) : EqLaw Tryd.prog .neq t xo yo (.ifc d p) (.lit .nilIface) true := by
  refine ⟨fun K w u v h1 h2 => ?_⟩
  cases h1; cases h2
  have e0 : ∀ x, (eqGuard .neq t xo yo (.iface d x) .nilIface).run Tryd.prog w = .ok () w := fun x => by simp [eqGuard]
  rw [Sem.run_bind, e0, Result.andThen_ok, run_neq_held_nil w t d _ ht]
/-- What is deferred: where reading stopped, and that it did. -/
theorem rescueP (bA bB bC : Nat) (t0 : PV) (a0 c0 : Int) (e : Nat) (ρ : Mem) :
    Rescue Tryd.prog W 50 [.bref bA 0, .bref bB 0, .bref bC 0] ([⟨bC, .row 1 [.int .i64 c0] 0⟩, ⟨bB, .row 1 [.int .i64 a0] 0⟩, ⟨bA, .row 4 [.agg [.int .i64 0, .int .i64 0, .int .i64 0, .nils]] 0⟩] ++ ρ) (stopV e)
      (fun σ' => ∃ ρ', σ' = ([⟨bC, .row 1 [.int .i64 1] 0⟩, ⟨bB, .row 1 [.int .i64 e] 0⟩, ⟨bA, .row 4 [.agg [.int .i64 0, .int .i64 0, .int .i64 0, .nils]] 0⟩] ++ ρ')) := by
  refine rescue_of (DL_ok (by decide)) Tryd.func50 rfl rfl rfl (by decide) (by decide) (by decide) ?_
  unfold stopV
  skip
  (refine g0_ ?_; repeat ((first | refine n1_ fun b_ => ?_ | refine n2_ fun b_ => ?_ | refine Nat1.mk fun q_ hq_ => ?_ | refine em_ fun x_ hx_ => ?_ | refine Elem1.mk fun e_ he_ => ?_); refine g0_ ?_))
  refine ⟨_, neq_heldS (by kernel_rfl), ?_⟩
  (refine g0_ ?_; repeat ((first | refine n1_ fun b_ => ?_ | refine n2_ fun b_ => ?_ | refine Nat1.mk fun q_ hq_ => ?_ | refine em_ fun x_ hx_ => ?_ | refine Elem1.mk fun e_ he_ => ?_); refine g0_ ?_))
  (refine g1_ ?_; repeat ((first | refine n1_ fun b_ => ?_ | refine n2_ fun b_ => ?_ | refine Nat1.mk fun q_ hq_ => ?_ | refine em_ fun x_ hx_ => ?_ | refine Elem1.mk fun e_ he_ => ?_); refine g1_ ?_))
  refine opLaw_as rfl Tryd.underlying93 rfl (by decide +kernel) ?_
  (refine g0_ ?_; repeat ((first | refine n1_ fun b_ => ?_ | refine n2_ fun b_ => ?_ | refine Nat1.mk fun q_ hq_ => ?_ | refine em_ fun x_ hx_ => ?_ | refine Elem1.mk fun e_ he_ => ?_); refine g0_ ?_))
  (refine g1_ ?_; repeat ((first | refine n1_ fun b_ => ?_ | refine n2_ fun b_ => ?_ | refine Nat1.mk fun q_ hq_ => ?_ | refine em_ fun x_ hx_ => ?_ | refine Elem1.mk fun e_ he_ => ?_); refine g1_ ?_))
  refine Draws10.chain ⟨6, [.new, .new, .new, .turn, .skip, .skip], [(3, [.keep, .again, .again, .keep, .turn, .skip]), (4, [.keep, .keep, .keep, .keep, .keep, .turn]), (5, [.keep, .keep, .keep, .keep, .keep, .keep])], by decide +kernel, ?_⟩; (refine g0_ ?_; repeat ((first | refine n1_ fun b_ => ?_ | refine n2_ fun b_ => ?_ | refine Nat1.mk fun q_ hq_ => ?_ | refine em_ fun x_ hx_ => ?_ | refine Elem1.mk fun e_ he_ => ?_); refine g0_ ?_))
  exact ⟨_ :: ρ, rfl⟩
end Go.Eng.YtmodblkagimhlaaDoor
end

/- Splits: Parse of a text that can't be read (b_ x_ q_ e_). -/
section
namespace Go.Eng
open Go
theorem Rescue.perm {P : Program} {W : World} {f : FuncId} {caps : List PV} {σ τ : Mem} {pv : PV} {k : Mem → Prop} (h : Rescue P W f caps τ pv k) (hp : σ.Perm τ) : Rescue P W f caps σ pv k := by
  intro K w vs v hl hr hm hpre hv
  refine (h K w vs v hl hr (hm.perm hp) (hpre.perm hp) hv).mono ?_
  rintro e u' w' ⟨h1, h2, σ', K', h3, h4, h5⟩
  exact ⟨h1, h2, σ', K', h3, h4, h5.perm hp.symm (.refl _)⟩
end Go.Eng
namespace Go.Eng.YtmodblkagimhlaaDoor
open Go Go.Eng Go.Proofs Go.RowKit
variable (W : World)
set_option linter.unusedSimpArgs false
set_option maxRecDepth 100000
set_option linter.unusedVariables false
set_option maxHeartbeats 4000000
theorem parseX_bad (s : List UInt8) (hs : s.length ≤ 4000) (x : Nat) (h : readS s 12 0 = .error x) : Pure Tryd.prog W 11 [.str s] (.tup [.agg [.int .i64 0, .int .i64 0, .int .i64 0, .sl 4 []], .int .i64 x, .int .i64 1]) := by
  have hrd := fun b => readX W b s hs 12 0 (Nat.le_refl _) (Nat.zero_le _)
  rw [h] at hrd
  have hg : ∀ b, XCalls Tryd.prog W 51 [.bref b 0, .int .i64 1] [rdM b s 0] (fun _ _ => False) (fun v _ => v = stopV x) := hrd
  clear hrd h
  have hlS := hs
  simp only [rdM] at hg
  refine Pure.of (acalls_of_endX Tryd.func11 rfl (by decide) rfl ?_)
  refine WpEX.seq (DD_ok (by decide)) (.inl rfl) (by decide) ?_
  (refine g0_ ?_; repeat ((first | refine n1_ fun b_ => ?_ | refine n2_ fun b_ => ?_ | refine Nat1.mk fun q_ hq_ => ?_ | refine em_ fun x_ hx_ => ?_ | refine Elem1.mk fun e_ he_ => ?_); refine g0_ ?_))
  rename_i bA bB
  refine WpEX.seq (DD_ok (by decide)) (.inl rfl) (by decide) ?_
  (refine g0_ ?_; repeat ((first | refine n1_ fun b_ => ?_ | refine n2_ fun b_ => ?_ | refine Nat1.mk fun q_ hq_ => ?_ | refine em_ fun x_ hx_ => ?_ | refine Elem1.mk fun e_ he_ => ?_); refine g0_ ?_))
  (refine g1_ ?_; repeat ((first | refine n1_ fun b_ => ?_ | refine n2_ fun b_ => ?_ | refine Nat1.mk fun q_ hq_ => ?_ | refine em_ fun x_ hx_ => ?_ | refine Elem1.mk fun e_ he_ => ?_); refine g1_ ?_))
  refine ⟨fun K a w' hs => ?_⟩
  have e2 : VRel K w' (.bref bA 0) (a.tmps.getD 2 undef) := hs.env 2
  have e3 : VRel K w' (.bref bB 0) (a.tmps.getD 3 undef) := hs.env 3
  have e4 : VRel K w' (.bref b_ 0) (a.tmps.getD 4 undef) := hs.env 4
  have hsz : a.tmps.size = 37 := hs.sz
  generalize hv2 : a.tmps.getD 2 undef = v2 at e2
  generalize hv3 : a.tmps.getD 3 undef = v3 at e3
  generalize hv4 : a.tmps.getD 4 undef = v4 at e4
  cases e2
  cases e3
  cases e4
  refine wp_seq (wp_defer2 (by rw [hsz]; decide) ?_)
  have hd : Idle Tryd.prog { target := .fn (.func 50) #[.pointer (some ⟨bA, 0, none⟩), .pointer (some ⟨bB, 0, none⟩), .pointer (some ⟨b_, 0, none⟩)], args := #[] } :=
    ⟨_, _, _, _, rfl, fun w => by simp [go_sem], fun w => idle0 ⟨bA, 0, none⟩ ⟨bB, 0, none⟩ ⟨b_, 0, none⟩ w⟩
  have hs' := (hs.put (dst := some 11) (pv := .dead) (v := .func (.func 50) #[] (#[Operand.tmp 2, Operand.tmp 3, Operand.tmp 4].map a.eval)) rfl (.dead _) hs.mem (Ext.refl _ _ _)).defer { target := .fn (.func 50) (#[Operand.tmp 2, Operand.tmp 3, Operand.tmp 4].map a.eval), args := #[] }
  have e5 : #[Operand.tmp 2, Operand.tmp 3, Operand.tmp 4].map a.eval = #[.pointer (some ⟨bA, 0, none⟩), .pointer (some ⟨bB, 0, none⟩), .pointer (some ⟨b_, 0, none⟩)] := by
    simp [Act.eval, hv2, hv3, hv4]
  rw [e5] at hs' ⊢
  refine WpEX.run (WpEX.of_x (g := 50) (capv := [.pointer (some ⟨bA, 0, none⟩), .pointer (some ⟨bB, 0, none⟩), .pointer (some ⟨b_, 0, none⟩)]) (caps := [.bref bA 0, .bref bB 0, .bref b_ 0]) hd rfl (fun K w i hi => by
    match i, hi with
    | 0, _ => exact .bref _ _
    | 1, _ => exact .bref _ _
    | 2, _ => exact .bref _ _) (fun w => by simp [go_sem]) ?_) K _ w' hs'
  skip
  refine WpX.seq (WpX.of_vc (DD_ok (by decide)) (by decide) ?_)
  (refine g0_ ?_; repeat ((first | refine n1_ fun b_ => ?_ | refine n2_ fun b_ => ?_ | refine Nat1.mk fun q_ hq_ => ?_ | refine em_ fun x_ hx_ => ?_ | refine Elem1.mk fun e_ he_ => ?_); refine g0_ ?_))
  refine WpX.seq (WpX.panicAt 1 _ rfl rfl (by decide) ?_)
  (refine g0_ ?_; repeat ((first | refine n1_ fun b_ => ?_ | refine n2_ fun b_ => ?_ | refine Nat1.mk fun q_ hq_ => ?_ | refine em_ fun x_ hx_ => ?_ | refine Elem1.mk fun e_ he_ => ?_); refine g0_ ?_))
  refine ((hg _).dies (ρ := [_, _, _]) (fun _ _ h => h) (.refl _)).mono (fun _ _ h => h) ?_
  rintro v σ' ⟨rfl, σ1, rfl⟩
  refine ⟨_, (rescueP W _ _ _ .dead 0 0 x σ1).perm List.perm_append_comm, ?_⟩
  rintro σ2 ⟨ρ', rfl⟩
  (refine g0_ ?_; repeat ((first | refine n1_ fun b_ => ?_ | refine n2_ fun b_ => ?_ | refine Nat1.mk fun q_ hq_ => ?_ | refine em_ fun x_ hx_ => ?_ | refine Elem1.mk fun e_ he_ => ?_); refine g0_ ?_))
  refine .tup _ _ rfl fun j hj => ?_
  match j, hj with
  | 0, _ =>
    refine .agg _ _ rfl fun j hj => ?_
    match j, hj with
    | 0, _ => exact .refl _
    | 1, _ => exact .refl _
    | 2, _ => exact .refl _
    | 3, _ => exact .nils 4
  | 1, _ => exact .refl _
  | 2, _ => exact .refl _
end Go.Eng.YtmodblkagimhlaaDoor
end
