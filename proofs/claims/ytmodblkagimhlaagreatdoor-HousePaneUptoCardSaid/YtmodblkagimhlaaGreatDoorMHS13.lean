/- Texts put together: Hs6, Hs8, Hs7. -/
import Derived.Test.YtmodblkagimhlaaGreatDoorMHS5
import Derived.Test.YtmodblkagimhlaaGreatDoorMHS6
import Derived.Test.YtmodblkagimhlaaGreatDoorMSH
/- Houses: a session in memory; the package's Window (b_ x_ q_ e_). -/
section
namespace Go.Eng.YtmodblkagimhlaaGreatDoor
open Go Go.Eng Go.Proofs
variable (W : World)
set_option linter.unusedSimpArgs false
set_option maxRecDepth 100000
set_option linter.unusedVariables false
set_option maxHeartbeats 8000000
theorem permAt {α : Type} : ∀ {l : List α} {i : Nat} {p : α}, l[i]? = some p → l.Perm (p :: l.eraseIdx i)
  | [], i, p, h => by simp at h
  | q :: l, 0, p, h => by
    obtain rfl := Option.some.inj h
    exact .refl _
  | q :: l, i + 1, p, h => (List.Perm.cons q (permAt (by simpa using h))).trans (.swap _ _ _)
theorem famAt {L : List (Nat × Ses)} {i : Nat} {x : Nat × Ses} (h : L[i]? = some x) : (famM 8 encWin (L.map winsP)).Perm (⟨x.1, .row 8 (x.2.wins.map encWin) 0⟩ :: famM 8 encWin ((L.map winsP).eraseIdx i)) := by
  have := (permAt (winsP_at h)).map (fun p : Nat × List Win => (⟨p.1, .row 8 (p.2.map encWin) 0⟩ : Blk))
  exact this
/-- A house of the call's own, a session of it in sight. -/
theorem own_permS {x : OH} (hw : ∀ p ∈ x.L, p.2.wins ≠ []) (b : Nat) (T : Mem) {i : Nat} {p : Nat × Ses} (h : x.L[i]? = some p) : (⟨b, .row 3 [x.V] 0⟩ :: (x.M ++ T)).Perm (⟨b, .row 3 [.agg [.rsl x.bs 4 0 x.L.length, vwV x.o x.views, .int .i64 x.next]] 0⟩ :: ⟨x.bs, .row 4 (x.L.map sesR) 0⟩ ::
    ⟨p.1, .row 8 (p.2.wins.map encWin) 0⟩ :: (T ++ (vwM x.o x.views ++ famM 8 encWin ((x.L.map winsP).eraseIdx i)))) := by
  have hne : x.L ≠ [] := by intro e; rw [e] at h; simp at h
  refine (own_perm hne hw b T).trans (List.Perm.cons _ (List.Perm.cons _ ?_))
  rw [List.append_nil]
  refine ((famAt h).append_left _).trans ?_
  rw [← List.append_assoc]
  exact List.perm_middle
/-- A session is another now. -/
theorem done_ses {b bs nb i : Nat} {L : List (Nat × Ses)} {x : Nat × Ses} {x' : Ses} {next : Int} {o : Option Nat} {vs : List Vw} {σ ρ : Mem} {Y : Hs} (hx : L[i]? = some x) (hσ : σ.Perm (⟨b, .row 3 [.agg [.rsl bs 4 0 L.length, vwV o vs, .int .i64 next]] 0⟩ :: ρ))
    (hY : Y = ⟨(L.map Prod.snd).set i x', vs, next⟩) (hw : wkMem ρ (⟨bs, .row 4 ((L.set i (nb, x')).map sesR) 0⟩ :: ⟨nb, .row 8 (x'.wins.map encWin) 0⟩ :: (vwM o vs ++ famM 8 encWin ((L.map winsP).eraseIdx i)))) (ho : o = none → vs = []) : HsDone b Y σ := by
  subst hY
  refine ⟨_, _, _, hσ, .inr (.inl ⟨_, _, _, _, rfl⟩), ?_, ?_, frz_vw ho fun c hc => Look.of_wk hw (List.mem_cons_of_mem _ (List.mem_cons_of_mem _ (List.mem_append_left _ (by rw [hc]; exact List.mem_singleton.2 rfl))))⟩
  · cases o with
    | none => exact .inl rfl
    | some c => exact .inr (.inl ⟨_, _, _, _, rfl⟩)
  have h3 := frz_R (σ := ρ) (bs := bs) (n := L.length) (L := L.set i (nb, x')) ?_ (by simp)
  · rw [List.map_set] at h3
    exact h3
  · obtain ⟨q1, hq1⟩ := hw
    obtain ⟨q2, hq2⟩ := wk_fam (sz := 8) (f := encWin) (winsP_at hx) nb x'.wins []
    refine ⟨q2 ++ (vwM o vs ++ q1), hq1.trans (List.Perm.cons _ ?_)⟩
    rw [List.map_set]
    have e : (⟨nb, .row 8 (x'.wins.map encWin) 0⟩ :: (vwM o vs ++ famM 8 encWin ((L.map winsP).eraseIdx i))).Perm ((⟨nb, .row 8 (x'.wins.map encWin) 0⟩ :: (famM 8 encWin ((L.map winsP).eraseIdx i) ++ [])) ++ vwM o vs) := by
      rw [List.append_nil]
      exact List.Perm.cons _ List.perm_append_comm
    refine (e.append_right q1).trans ?_
    rw [List.append_assoc]
    refine (hq2.append_right _).trans ?_
    rw [List.append_assoc]
    exact .refl _
theorem done_ses2 {b bs nb i : Nat} {L : List (Nat × Ses)} {x : Nat × Ses} {x' : Ses} {next : Int} {o : Option Nat} {vs : List Vw} {σ T : Mem} {Y : Hs} {R' W' : List PV} (hx : L[i]? = some x) (eR : R' = (L.set i (nb, x')).map sesR) (eW : W' = x'.wins.map encWin)
    (hY : Y = ⟨(L.map Prod.snd).set i x', vs, next⟩) (ho : o = none → vs = [])
    (hσ : σ.Perm (⟨b, .row 3 [.agg [.rsl bs 4 0 L.length, vwV o vs, .int .i64 next]] 0⟩ :: ⟨bs, .row 4 R' 0⟩ :: ⟨nb, .row 8 W' 0⟩ :: (T ++ (vwM o vs ++ famM 8 encWin ((L.map winsP).eraseIdx i))))) : HsDone b Y σ := by
  subst eR eW
  refine done_ses (nb := nb) hx hσ hY ⟨T, ?_⟩ ho
  exact List.Perm.cons _ (List.Perm.cons _ List.perm_append_comm)
def winE (h : Hs) (s : Int) (n : List UInt8) : Int :=
  if s < 0 then 6 else match h.ses[s.toNat]? with
  | none => 6
  | some x => if nameB n = false then 1 else if x.wins.length = 6 then 10 else if h.next = 9999 then 10 else 0
def winY (h : Hs) (s : Int) (n : List UInt8) : Hs := match h.ses[s.toNat]? with
  | none => h
  | some x => ⟨h.ses.set s.toNat ⟨x.name, x.wins ++ [winN n h.next], x.wins.length, x.act⟩, h.views, h.next + 1⟩
theorem sesR_mk (p : Nat × Ses) : sesR p = .agg [.str p.2.name, .rsl p.1 8 0 p.2.wins.length, .int .i64 p.2.act, .int .i64 p.2.bef] := rfl
end Go.Eng.YtmodblkagimhlaaGreatDoor
end

/- A pointer to a closure, read out for a call. -/
section
namespace Go.Eng
open Go
variable {P : Program} {W : World}
/-- What stands in memory, read out, however deep. -/
def FrzS (σ : Mem) (p p' : PV) : Prop := ∀ (K : Kn) (w : World), SatM K σ w → ∀ v, VRel K w p v → VRel (allK K σ) w p' v
theorem FrzS.of {σ : Mem} {p p' : PV} (h : Frz σ p p') : FrzS σ p p' := fun _ _ hm v hv => frz_sound hm h v hv
theorem FrzS.fn {σ : Mem} (f : FuncId) {cs cs' : List PV} (hl : cs.length = cs'.length) (h : ∀ j, j < cs.length → FrzS σ (cs.getD j .dead) (cs'.getD j .dead)) : FrzS σ (.fn f cs) (.fn f cs') := by
  intro K w hm v hv
  cases hv
  rename_i vs hl' hr
  exact .fn _ _ _ (hl ▸ hl') (fun i hi => h i (hl ▸ hi) K w hm _ (hr i (hl ▸ hi)))
theorem FrzS.deep {σ r : Mem} {b f fz : Nat} {e e' : PV} (hl : Look σ b (.row 1 [e] fz) r) (h : FrzS σ e e') (h1 : e.flat = [e]) (h2 : e'.flat = [e']) : FrzS σ (.bref b f) (.ip e' f) := by
  intro K w hm v hv
  cases hv
  have hro : RowOk K w b 1 [e] fz := hm.blk _ hl.mem
  obtain ⟨cs, ty, g1, g2, g3⟩ := hro.cells
  simp only [List.length_cons, List.length_nil, Nat.zero_add, Nat.one_mul] at g2
  have := VRel.ip (K := allK K σ) (w := w) e' f b 0 (fun j => cs.getD j undef) (fun j hj => by
    rw [h2] at hj
    simp only [List.length_cons, List.length_nil] at hj
    have hlt : 0 + j < cs.size := by omega
    exact ⟨.inr ⟨1, [e], fz, hl.mem, by simp; omega⟩, by simp [World.cell?, g1, show j < cs.size by omega, Array.getD]⟩) (fun j hj => by
    rw [h2] at hj ⊢
    simp only [List.length_cons, List.length_nil] at hj
    obtain rfl : j = 0 := by omega
    have := g3 0 0 (by simp) (by omega)
    simp only [List.getD_cons_zero, Nat.zero_mul, Nat.zero_add] at this
    rw [h1] at this
    exact h K w hm _ (by simpa using this))
  rwa [Nat.zero_add] at this
theorem FrzS.clo {σ : Mem} {b f fz : Nat} {g : FuncId} {cs cs' : List PV} (hl : ∃ r, Look σ b (.row 1 [.fn g cs] fz) r) (h0 : cs.length = cs'.length) (h : ∀ j, j < cs.length → FrzS σ (cs.getD j .dead) (cs'.getD j .dead)) : FrzS σ (.bref b f) (.ip (.fn g cs') f) :=
  hl.elim fun _ hl => .deep hl (.fn g h0 h) rfl rfl
/-- A call that reads what is owned and returns a number, a bool or a string. -/
theorem Pure.borrowS {f : FuncId} {args args' : List PV} {r : PV} {σ : Mem} {k : PV → Mem → Prop} (h : Pure P W f args' r) (hp : isPlain r = true) (hl : args.length = args'.length)
    (ha : ∀ i, i < args.length → FrzS σ (args.getD i .dead) (args'.getD i .dead)) (hk : k r σ) : ACalls P W f args σ k := by
  refine ⟨h.calls.body, fun K w vs hlen hr hm hpre => ?_⟩
  have hrel : ∀ i, i < args'.length → VRel (allK K σ) w (args'.getD i .dead) (vs.getD i undef) := fun i hi => ha i (by omega) K w hm _ (hr i (by omega))
  refine (h.calls.run _ w vs (hl ▸ hlen) hrel (allK_sat hm) ⟨hpre.size, hpre.base, fun k hk => by cases hk⟩).mono ?_
  rintro e w' ⟨v, pv, σ', K', h2, rfl, h4, h5, h6⟩
  have hplain : VRel K w' pv v := by
    cases h4 <;> first | exact .bool _ | exact .int _ _ | exact .str _ | cases hp
  have hkn : ∀ b o, K b o → K b o ∧ w'.cell? ⟨b, o, none⟩ = w.cell? ⟨b, o, none⟩ := fun b o hb => ⟨hb, (h6.kn b o (.inl hb)).2⟩
  refine ⟨v, pv, σ, K, h2, hk, hplain, ⟨fun b o hb => Nat.lt_of_lt_of_le (hm.kin b o hb) h6.size, hm.nodup, fun k hk => ?_⟩, ?_⟩
  · exact (hm.blk k hk).move (h6.keep k.b (hm.blk k hk).lt (fun k0 h0 => by cases h0)) (fun _ h => h) hkn h6.shape
  · exact ⟨h6.os, h6.tape, h6.output, h6.size, h6.shape, fun b hb _ => h6.keep b hb (fun k0 h0 => by cases h0), hkn, fun k hk => .inl ⟨k, hk, rfl⟩, fun _ _ h => .inl h⟩
end Go.Eng
end

/- Houses: the package's Show; Window and Show as calls (b_ x_ q_ e_). -/
section
namespace Go.Eng.YtmodblkagimhlaaGreatDoor
open Go Go.Eng Go.Proofs
variable (W : World)
set_option linter.unusedSimpArgs false
set_option maxRecDepth 100000
set_option linter.unusedVariables false
set_option maxHeartbeats 8000000
def showE (h : Hs) (s k : Int) : Int :=
  if s < 0 then 6 else match h.ses[s.toNat]? with
  | none => 6
  | some x => if k < 0 then 6 else if (x.wins.length : Int) ≤ k then 6 else 0
def showY (h : Hs) (s k : Int) : Hs := match h.ses[s.toNat]? with
  | none => h
  | some x => if x.act = k then h else ⟨h.ses.set s.toNat ⟨x.name, x.wins, k, x.act⟩, h.views, h.next⟩
end Go.Eng.YtmodblkagimhlaaGreatDoor
end
