/- Texts put together: Prs7, Prs8, Prs10, FullR, Prs11, Prs13, Prs9, Prs12. -/
import Derived.Test.YtkcldifniomfoaaDoorMQ3
import Derived.Test.YtkcldifniomfoaaDoorMQ2
import Derived.Test.YtkcldifniomfoaaDoorMQ1
import Derived.Test.YtkcldifniomfoaaDoorME10
import Derived.Test.YtkcldifniomfoaaDoorME3
import Derived.Test.YtkcldifniomfoaaDoorMG1
/- The reader of escape sequences: a step (b_ x_ q_). -/
section
namespace Go.Eng.YtkcldifniomfoaaDoor
open Go Go.Eng Go.Proofs
variable (W : World)
set_option linter.unusedSimpArgs false
set_option maxRecDepth 100000
set_option linter.unusedVariables false
set_option maxHeartbeats 8000000
/-- What a function makes of a byte, with numbers. -/
abbrev Cmd (f : Nat) (r bo : Nat) (pb : PB) (os : List PV) (s : PSt) (b : UInt8) (t : PSt × List PEv) : Prop :=
  ACalls Tryd.prog W f [.bref r 0, .int .u8 b.toNat] (rdB r (parV pb s.params) (accV bo 7 os) s :: (parM pb s.params ++ accM bo 7 os))
    (Gives (fun _ : CmdR => .tup []) (fun x => cmdM r x os t.1) (fun x => CmdOk pb s t x))
theorem acts_cmd {f r bo : Nat} {pb : PB} {os : List PV} {s : PSt} {b : UInt8} {t : PSt × List PEv} (h : Acts W f r bo (parV pb s.params) os s b t) (hb : pb.no) (hp : s.params = []) (hev : ∀ e ∈ t.2, e.params = []) : Cmd W f r bo pb os s b t := by
  have hpm : parM pb s.params = [] := by cases pb <;> first | rfl | cases hb
  have hpv : ∀ l, parV pb l = parV pb s.params := fun l => by cases pb <;> first | rfl | cases hb
  have hpn : ∀ l, parM pb l = [] := fun l => by cases pb <;> first | rfl | cases hb
  unfold Cmd
  rw [hpm]
  refine ACalls.all_ h ?_
  rintro v σ1 ⟨⟨b', pv⟩, hx, rfl, hm⟩
  refine ⟨_, hm, ?_⟩
  rcases hx with hx | hx
  · have h1 : pv = parV pb s.params := hx.1
    have h2 : t.1.params = [] := hx.2.trans hp
    subst h1
    refine ⟨(b', pb, t.2.map (evV .nils), []), ⟨⟨fun _ => h2, fun _ => hb⟩, .inl ⟨rfl, rfl, hev⟩⟩, rfl, ?_⟩
    show wkMem _ (cmdM _ _ _ _)
    rw [cmdM]
    dsimp only
    rw [hpv t.1.params, hpn]
    exact wkMem.rfl'
  · have h1 : pv = .nils := hx.1
    have h2 : t.1.params = [] := hx.2
    subst h1
    refine ⟨(b', PB.nil, t.2.map (evV .nils), []), ⟨⟨fun _ => h2, fun _ => trivial⟩, .inl ⟨rfl, rfl, hev⟩⟩, rfl, ?_⟩
    exact wkMem.rfl'
theorem esc_ev (s : PSt) (b : UInt8) : ∀ e ∈ (escL s b).2, e.params = [] := by
  intro e he
  unfold escL at he
  split at he
  · exact ctl_ev s b e he
  repeat' split at he
  all_goals first | (cases he; done) | (rw [List.mem_singleton.1 he]; rfl)
theorem mid_ev (s : PSt) (b : UInt8) : ∀ e ∈ (midL s b).2, e.params = [] := by
  intro e he
  unfold midL at he
  split at he
  · exact ctl_ev s b e he
  repeat' split at he
  all_goals first | (cases he; done) | (rw [List.mem_singleton.1 he]; rfl)
theorem sys_ev (s : PSt) (b : UInt8) : ∀ e ∈ (sysL s b).2, e.params = [] := by
  intro e he
  unfold sysL at he
  split at he
  · rw [List.mem_singleton.1 he]; rfl
  split at he
  · exact esc_ev _ b e he
  repeat' split at he
  all_goals first | (cases he; done) | (rw [List.mem_singleton.1 he]; rfl)
theorem skip_ev (s : PSt) (b : UInt8) : ∀ e ∈ (skipL s b).2, e.params = [] := by
  intro e he
  unfold skipL at he
  split at he
  · exact ctl_ev s b e he
  repeat' split at he
  all_goals first | (cases he; done)
theorem ground_ev (s : PSt) (b : UInt8) : ∀ e ∈ (groundL s b).2, e.params = [] := by
  intro e he
  unfold groundL at he
  split at he
  · rcases List.mem_append.1 he with he | he
    · obtain ⟨c, -, rfl⟩ := List.mem_map.1 he
      rfl
    · exact ctl_ev _ b e he
  · exact eat_ev _ _ e he
theorem step_any (k f : Nat) (hk : (k = 0 ∧ f = 38) ∨ (k = 1 ∧ f = 39) ∨ (k = 2 ∧ f = 40) ∨ (k = 3 ∧ f = 41) ∨ (k = 4 ∧ f = 42) ∨ (k = 5 ∧ f = 43))
    (r bo : Nat) (pb : PB) (os : List PV) (s : PSt) (b : UInt8) (t : PSt × List PEv) (hs : s.at_ = k) (h : Cmd W f r bo pb os s b t) : Cmd W 20 r bo pb os s b t := by
  unfold Cmd at *
  generalize hpv : parV pb s.params = pv at *
  generalize hpm : parM pb s.params ++ accM bo 7 os = pm at *
  obtain ⟨a, m, mi, p, tx, l, la⟩ := s
  simp only [rdB_eq] at *
  subst hs
  rcases hk with ⟨rfl, rfl⟩ | ⟨rfl, rfl⟩ | ⟨rfl, rfl⟩ | ⟨rfl, rfl⟩ | ⟨rfl, rfl⟩ | ⟨rfl, rfl⟩
  all_goals
    refine acalls_of_vc (DM_ok (by decide)) Tryd.func20 rfl (by decide) (by decide) rfl ?_
    (refine g0_ ?_; repeat ((first | refine n1_ fun b_ => ?_ | refine n2_ fun b_ => ?_ | refine Nat1.mk fun q_ hq_ => ?_ | refine em_ fun x_ hx_ => ?_); refine g0_ ?_))
    (refine g1_ ?_; repeat ((first | refine n1_ fun b_ => ?_ | refine n2_ fun b_ => ?_ | refine Nat1.mk fun q_ hq_ => ?_ | refine em_ fun x_ hx_ => ?_); refine g1_ ?_))
    refine ACalls.lend h (List.perm_append_singleton _ _).symm ?_
    rintro x hx
    (refine g0_ ?_; repeat ((first | refine n1_ fun b_ => ?_ | refine n2_ fun b_ => ?_ | refine Nat1.mk fun q_ hq_ => ?_ | refine em_ fun x_ hx_ => ?_); refine g0_ ?_))
    exact ⟨x, hx, (by first | rfl | trivial), _, .refl _⟩
theorem step_ok (hT : Tabs W) (hF : FullOk W) (r bo : Nat) (pb : PB) (os : List PV) (s : PSt) (b : UInt8) (hos : os.all cellsB = true) (hn : os.length ≤ 90000) (hpb : pb.no ↔ s.params = []) (hok : s.ok) : Cmd W 20 r bo pb os s b (stepL s b) := by
  rcases hok with ⟨h0, hl, h2, h3, h4, h5, h6⟩ | ⟨h0 | h0, h1, h2, h3, h4, h5, h6⟩ | ⟨h0, h1, h2, h4, h5⟩ | ⟨h0, h1, h2, h3, h4, h5, h6, h7⟩ | ⟨h0, h1, h2, h3, h4, h5, h6⟩
  · have hb := hpb.2 h4
    have e : stepL s b = groundL s b := by rw [stepL, if_pos h0]
    rw [e]
    have hl' : s.left = [] ∨ fullL s.left = false := hl.imp id (·.2)
    have hll : s.left.length ≤ 3 := by
      rcases hl' with h | h
      · rw [h]; decide
      · by_cases hne : s.left = []
        · rw [hne]; decide
        · exact (part_spec hne h).1
    have ha := inGround_ok W hT hF r bo (parV pb s.params) os s b hos hn hl' hll
    exact step_any W 0 _ (.inl ⟨rfl, rfl⟩) r bo pb os s b _ h0 (acts_cmd W ha hb h4 (ground_ev s b))
  · have hb := hpb.2 h4
    have e : stepL s b = escL s b := by rw [stepL, if_neg (by omega), if_pos h0]
    rw [e]
    have ha := inEscape_ok W r bo (parV pb s.params) os s b hos (by omega)
    exact step_any W 1 _ (.inr (.inl ⟨rfl, rfl⟩)) r bo pb os s b _ h0 (acts_cmd W ha hb h4 (esc_ev s b))
  · have hb := hpb.2 h4
    have e : stepL s b = skipL s b := by rw [stepL, if_neg (by omega), if_neg (by omega), if_neg (by omega), if_neg (by omega), if_neg (by omega)]
    rw [e]
    have ha := inSkip_ok W r bo (parV pb s.params) os s b hos (by omega)
    exact step_any W 5 _ (.inr (.inr (.inr (.inr (.inr ⟨rfl, rfl⟩))))) r bo pb os s b _ h0 (acts_cmd W ha hb h4 (skip_ev s b))
  · have hb := hpb.2 h4
    have e : stepL s b = midL s b := by rw [stepL, if_neg (by omega), if_neg (by omega), if_pos h0]
    rw [e]
    have ha := inMiddle_ok W r bo (parV pb s.params) os s b hos (by omega) (by have := h1.1; omega)
    exact step_any W 2 _ (.inr (.inr (.inl ⟨rfl, rfl⟩))) r bo pb os s b _ h0 (acts_cmd W ha hb h4 (mid_ev s b))
  · have e : stepL s b = cmdL s b := by rw [stepL, if_neg (by omega), if_neg (by omega), if_neg (by omega), if_pos h0]
    rw [e]
    exact step_any W 3 _ (.inr (.inr (.inr (.inl ⟨rfl, rfl⟩)))) r bo pb os s b _ h0 (inCommand_ok W r bo pb os s b hos hn hpb h2 h7 (by have := h1.1; omega))
  · have hb := hpb.2 h4
    have e : stepL s b = sysL s b := by rw [stepL, if_neg (by omega), if_neg (by omega), if_neg (by omega), if_neg (by omega), if_pos h0]
    rw [e]
    have ha := inSystem_ok W r bo (parV pb s.params) os s b hos (by omega) (by omega)
    exact step_any W 4 _ (.inr (.inr (.inr (.inr (.inl ⟨rfl, rfl⟩))))) r bo pb os s b _ h0 (acts_cmd W ha hb h4 (sys_ev s b))
end Go.Eng.YtkcldifniomfoaaDoor
end

/- The reader of escape sequences: a step, with all that has been told. -/
section
namespace Go.Eng.YtkcldifniomfoaaDoor
open Go Go.Eng Go.Proofs
variable (W : World)
set_option linter.unusedSimpArgs false
set_option maxRecDepth 100000
set_option linter.unusedVariables false
set_option maxHeartbeats 8000000
theorem frz_mem {σ σ' : Mem} (hs : ∀ k ∈ σ, k ∈ σ') {p q : PV} (h : Frz σ p q) : Frz σ' p q := by
  induction h with
  | refl p => exact .refl p
  | nils sz => exact .nils sz
  | rsl b sz i n es es' fz r hl hi hn _ ih =>
    obtain ⟨r', hr'⟩ := Look.of_mem (hs _ (hl.perm.mem_iff.2 List.mem_cons_self))
    exact .rsl b sz i n es es' fz r' hr' hi hn ih
  | agg cs cs' hl _ ih => exact .agg cs cs' hl ih
  | tup cs cs' hl _ ih => exact .tup cs cs' hl ih
  | bref b f sz e fz r hl =>
    obtain ⟨r', hr'⟩ := Look.of_mem (hs _ (hl.perm.mem_iff.2 List.mem_cons_self))
    exact .bref b f sz e fz r' hr'
theorem frz_ev {σ : Mem} {pv : PV} {e : PEv} (h : Frz σ pv (encInts e.params)) : Frz σ (evV pv e) (encEv e) := .agg _ _ rfl fun j hj => by
  match j, hj with
  | 0, _ => exact .refl _
  | 1, _ => exact .refl _
  | 2, _ => exact .refl _
  | 3, _ => exact .refl _
  | 4, _ => exact .refl _
  | 5, _ => exact h
  | 6, _ => exact .refl _
abbrev intsM (g : PFam) : Mem := famM 1 (PV.int .i64) g
def rdN (r : Nat) (x : RdS) (s : PSt) : Mem := rdB r (parV x.1 s.params) (accV x.2.1 7 x.2.2.1) s :: (parM x.1 s.params ++ (accM x.2.1 7 x.2.2.1 ++ intsM x.2.2.2))
structure RdR (x : RdS) (s : PSt) (es : List PEv) : Prop where
  par : x.1.no ↔ s.params = []
  len : x.2.2.1.length = es.length
  all : x.2.2.1.all cellsB = true
  at_ : ∀ (k : Nat) (v : PV) (e : PEv), x.2.2.1[k]? = some v → es[k]? = some e → Frz (intsM x.2.2.2) v (encEv e)
theorem told_more {g g' : PFam} {os vs : List PV} {es fs : List PEv} (hs : ∀ k ∈ intsM g, k ∈ intsM g') (hl : os.length = es.length)
    (h : ∀ (k : Nat) (v : PV) (e : PEv), os[k]? = some v → es[k]? = some e → Frz (intsM g) v (encEv e))
    (hn : ∀ (k : Nat) (v : PV) (e : PEv), vs[k]? = some v → fs[k]? = some e → Frz (intsM g') v (encEv e)) :
    ∀ (k : Nat) (v : PV) (e : PEv), (os ++ vs)[k]? = some v → (es ++ fs)[k]? = some e → Frz (intsM g') v (encEv e) := by
  intro k v e hv he
  by_cases hk : k < os.length
  · rw [List.getElem?_append_left hk] at hv
    rw [List.getElem?_append_left (by omega)] at he
    exact frz_mem hs (h k v e hv he)
  · rw [List.getElem?_append_right (by omega)] at hv
    rw [List.getElem?_append_right (by omega), ← hl] at he
    exact hn _ v e hv he
def famP (pb : PB) (p : List Int) (g : PFam) : PFam := match pb with | .own b => (b, p) :: g | _ => g
theorem famP_M (pb : PB) (p : List Int) (g : PFam) : intsM (famP pb p g) = parM pb p ++ intsM g := by cases pb <;> rfl
theorem rd_step (hT : Tabs W) (hF : FullOk W) (r : Nat) (x : RdS) (s : PSt) (es : List PEv) (b : UInt8) (hx : RdR x s es) (hn : es.length ≤ 90000) (hok : s.ok) :
    ACalls Tryd.prog W 20 [.bref r 0, .int .u8 b.toNat] (rdN r x s)
      (Gives (fun _ : RdS => .tup []) (fun y => rdN r y (stepL s b).1) (fun y => RdR y (stepL s b).1 (es ++ (stepL s b).2))) := by
  obtain ⟨pb, bo, os, g⟩ := x
  have hlen := hx.len
  have hall := hx.all
  have hpar := hx.par
  have hat := hx.at_
  dsimp only at hlen hall hpar hat
  refine ACalls.lend (step_ok W hT hF r bo pb os s b hall (by omega) hpar hok) (r := intsM g) ?_ ?_
  · rw [rdN, ← List.append_assoc]; exact .refl _
  rintro ⟨b', pb', vs, lo⟩ hq
  generalize stepL s b = t at *
  obtain ⟨hp, ⟨h1, h2, hev⟩ | ⟨e, he, hep, h1, h2, h3⟩⟩ := hq
  · dsimp only at h1 h2 hp
    subst h1
    subst h2
    refine ⟨(pb', b', os ++ t.2.map (evV .nils), g), ⟨hp, by simp [hlen], by rw [List.all_append, hall, ev_cells]; rfl, ?_⟩, (by first | rfl | trivial), [], ?_⟩
    · refine told_more (fun _ h => h) hlen hat ?_
      intro k v e hv he
      rw [List.getElem?_map, he] at hv
      obtain rfl := Option.some.inj hv
      refine frz_ev ?_
      rw [hev e (List.mem_of_getElem? he)]
      exact .nils 1
    · rw [List.append_nil]
      simp only [cmdM, rdN, List.nil_append, List.cons_append, List.append_assoc]
      exact .refl _
  · dsimp only at h1 h2 h3 hp
    subst h1
    subst h2
    subst h3
    have hfam := famP_M pb s.params g
    refine ⟨(PB.nil, b', os ++ [evV (parV pb s.params) e], famP pb s.params g), ⟨hp, by simp [hlen, he], ?_, ?_⟩, (by first | rfl | trivial), [], ?_⟩
    · rw [List.all_append, hall]
      cases pb <;> rfl
    · refine told_more (g := g) (fun k h => ?_) hlen hat ?_
      · rw [hfam]; exact List.mem_append_right _ h
      · rw [he]
        intro k v e' hv he'
        cases k with
        | succ k => simp at hv
        | zero =>
          simp only [List.getElem?_cons_zero, Option.some.injEq] at hv he'
          subst hv
          subst he'
          refine frz_ev ?_
          rw [hep, hfam]
          cases pb with
          | nil => rw [hpar.1 trivial]; exact .nils 1
          | emp => rw [hpar.1 trivial]; exact .refl _
          | own c => exact frz_row (.here _ _ _) _ (by rw [List.length_map])
    · rw [List.append_nil]
      simp only [cmdM, rdN, hfam]
      rw [hp.1 trivial]
      simp only [parM, List.nil_append, List.cons_append, List.append_assoc]
      refine .cons _ ?_
      rw [← List.append_assoc, ← List.append_assoc]
      exact List.Perm.append_right _ List.perm_append_comm
end Go.Eng.YtkcldifniomfoaaDoor
end

/- The reader of escape sequences: parse.Check (b_ x_ q_ e_). -/
section
namespace Go.Eng.YtkcldifniomfoaaDoor
open Go Go.Eng Go.Proofs
variable (W : World)
set_option linter.unusedSimpArgs false
set_option maxRecDepth 100000
set_option linter.unusedVariables false
set_option maxHeartbeats 8000000
theorem big_ok (n : Int) (h1 : -9223372036854775808 ≤ n) (h2 : n ≤ 9223372036854775807) : Pure Tryd.prog W 25 [.int .i64 n] (.bool (decide (n < -1 ∨ 9999 < n))) := by
  refine Pure.of (acalls_of_vc (drawOk W) Tryd.func25 rfl (by decide) (by decide) rfl ?_)
  (refine g0_ ?_; repeat ((first | refine n1_ fun b_ => ?_ | refine n2_ fun b_ => ?_ | refine Nat1.mk fun q_ hq_ => ?_ | refine em_ fun x_ hx_ => ?_ | refine Elem1.mk fun e_ he_ => ?_); refine g0_ ?_))
  by_cases h : n < -1
  · (refine g1_ ?_; repeat ((first | refine n1_ fun b_ => ?_ | refine n2_ fun b_ => ?_ | refine Nat1.mk fun q_ hq_ => ?_ | refine em_ fun x_ hx_ => ?_ | refine Elem1.mk fun e_ he_ => ?_); refine g1_ ?_))
    exact .of_eq (by simp [h])
  · (refine g1_ ?_; repeat ((first | refine n1_ fun b_ => ?_ | refine n2_ fun b_ => ?_ | refine Nat1.mk fun q_ hq_ => ?_ | refine em_ fun x_ hx_ => ?_ | refine Elem1.mk fun e_ he_ => ?_); refine g1_ ?_))
    exact .of_eq (by simp [h])
theorem plain_ok (ok : Bool) (s : PSt) : Pure Tryd.prog W 22 [.bool ok, encSt s] (.bool (ok && decide (s.params = [] ∧ s.mark.toNat = 0 ∧ s.middle = []))) := by
  obtain ⟨a, m, mi, p, t, l, la⟩ := s
  simp only [encSt, stV, encInts]
  cases ok with
  | false =>
    refine Pure.of (acalls_of_vc (drawOk W) Tryd.func22 rfl (by decide) (by decide) rfl ?_)
    (refine g0_ ?_; repeat ((first | refine n1_ fun b_ => ?_ | refine n2_ fun b_ => ?_ | refine Nat1.mk fun q_ hq_ => ?_ | refine em_ fun x_ hx_ => ?_ | refine Elem1.mk fun e_ he_ => ?_); refine g0_ ?_))
    exact .of_eq (by simp)
  | true =>
    rcases p with _ | ⟨n, p⟩
    · by_cases hm : m.toNat = 0
      · rcases mi with _ | ⟨c, mi⟩
        all_goals
          refine Pure.of (acalls_of_vc (drawOk W) Tryd.func22 rfl (by decide) (by decide) rfl ?_)
          (refine g0_ ?_; repeat ((first | refine n1_ fun b_ => ?_ | refine n2_ fun b_ => ?_ | refine Nat1.mk fun q_ hq_ => ?_ | refine em_ fun x_ hx_ => ?_ | refine Elem1.mk fun e_ he_ => ?_); refine g0_ ?_))
          (refine g1_ ?_; repeat ((first | refine n1_ fun b_ => ?_ | refine n2_ fun b_ => ?_ | refine Nat1.mk fun q_ hq_ => ?_ | refine em_ fun x_ hx_ => ?_ | refine Elem1.mk fun e_ he_ => ?_); refine g1_ ?_))
          exact .of_eq (by simp [hm])
      · refine Pure.of (acalls_of_vc (drawOk W) Tryd.func22 rfl (by decide) (by decide) rfl ?_)
        (refine g0_ ?_; repeat ((first | refine n1_ fun b_ => ?_ | refine n2_ fun b_ => ?_ | refine Nat1.mk fun q_ hq_ => ?_ | refine em_ fun x_ hx_ => ?_ | refine Elem1.mk fun e_ he_ => ?_); refine g0_ ?_))
        (refine g1_ ?_; repeat ((first | refine n1_ fun b_ => ?_ | refine n2_ fun b_ => ?_ | refine Nat1.mk fun q_ hq_ => ?_ | refine em_ fun x_ hx_ => ?_ | refine Elem1.mk fun e_ he_ => ?_); refine g1_ ?_))
        exact .of_eq (by simp [hm])
    · refine Pure.of (acalls_of_vc (drawOk W) Tryd.func22 rfl (by decide) (by decide) rfl ?_)
      (refine g0_ ?_; repeat ((first | refine n1_ fun b_ => ?_ | refine n2_ fun b_ => ?_ | refine Nat1.mk fun q_ hq_ => ?_ | refine em_ fun x_ hx_ => ?_ | refine Elem1.mk fun e_ he_ => ?_); refine g0_ ?_))
      (refine g1_ ?_; repeat ((first | refine n1_ fun b_ => ?_ | refine n2_ fun b_ => ?_ | refine Nat1.mk fun q_ hq_ => ?_ | refine em_ fun x_ hx_ => ?_ | refine Elem1.mk fun e_ he_ => ?_); refine g1_ ?_))
      exact .of_eq (by simp)
def bigAt : Nat → List Int → Int
  | _, [] => -1
  | i, n :: r => if n < -1 ∨ 9999 < n then i else bigAt (i + 1) r
theorem index_big (l : List Int) (hl : l.length ≤ 1000000) (hr : ∀ n ∈ l, -9223372036854775808 ≤ n ∧ n ≤ 9223372036854775807) : Pure Tryd.prog W 44 [.sl 1 (l.map (PV.int .i64)), .fn 25 []] (.int .i64 (bigAt 0 l)) := by
  refine Pure.of (acalls_of_vc (drawOk W) Tryd.func44 rfl (by decide) (by decide) rfl ?_)
  (refine g0_ ?_; repeat ((first | refine n1_ fun b_ => ?_ | refine n2_ fun b_ => ?_ | refine Nat1.mk fun q_ hq_ => ?_ | refine em_ fun x_ hx_ => ?_ | refine Elem1.mk fun e_ he_ => ?_); refine g0_ ?_))
  refine' loopI (α := Nat) (fun i => [(8, .int .i64 i)]) [(0, _), (1, _), (7, _)] (fun i => []) (fun i => i ≤ l.length ∧ bigAt i (l.drop i) = bigAt 0 l) (fun i => l.length - i) 0 ?_ ?_
  · exact ⟨Nat.zero_le _, rfl⟩
  rintro i ⟨hi, hb⟩
  (refine g0_ ?_; repeat ((first | refine n1_ fun b_ => ?_ | refine n2_ fun b_ => ?_ | refine Nat1.mk fun q_ hq_ => ?_ | refine em_ fun x_ hx_ => ?_ | refine Elem1.mk fun e_ he_ => ?_); refine g0_ ?_))
  refine brec ?_; intro c_ h; (try rw [h]); cases c_ <;> replace h := nm_ h
  · have hil : i = l.length := by
      rw [List.length_map] at h; omega
    rw [hil, List.drop_length, bigAt] at hb
    (refine g0_ ?_; repeat ((first | refine n1_ fun b_ => ?_ | refine n2_ fun b_ => ?_ | refine Nat1.mk fun q_ hq_ => ?_ | refine em_ fun x_ hx_ => ?_ | refine Elem1.mk fun e_ he_ => ?_); refine g0_ ?_))
    exact .of_eq (by rw [← hb])
  · have hil : i < l.length := by
      rw [List.length_map] at h; omega
    have hn := hr _ (List.getElem_mem hil)
    have hg := List.getElem?_eq_getElem hil
    rw [List.drop_eq_getElem_cons hil, bigAt] at hb
    generalize l[i] = n at *
    (refine g0_ ?_; repeat ((first | refine n1_ fun b_ => ?_ | refine n2_ fun b_ => ?_ | refine Nat1.mk fun q_ hq_ => ?_ | refine em_ fun x_ hx_ => ?_ | refine Elem1.mk fun e_ he_ => ?_); refine g0_ ?_))
    refine (big_ok W n hn.1 hn.2).use ?_; (refine g0_ ?_; repeat ((first | refine n1_ fun b_ => ?_ | refine n2_ fun b_ => ?_ | refine Nat1.mk fun q_ hq_ => ?_ | refine em_ fun x_ hx_ => ?_ | refine Elem1.mk fun e_ he_ => ?_); refine g0_ ?_))
    by_cases hq : n < -1 ∨ 9999 < n
    · rw [if_pos hq] at hb
      rw [decide_eq_true hq]
      (refine g0_ ?_; repeat ((first | refine n1_ fun b_ => ?_ | refine n2_ fun b_ => ?_ | refine Nat1.mk fun q_ hq_ => ?_ | refine em_ fun x_ hx_ => ?_ | refine Elem1.mk fun e_ he_ => ?_); refine g0_ ?_))
      exact .of_eq (by rw [← hb])
    · rw [if_neg hq] at hb
      rw [decide_eq_false hq]
      (refine g0_ ?_; repeat ((first | refine n1_ fun b_ => ?_ | refine n2_ fun b_ => ?_ | refine Nat1.mk fun q_ hq_ => ?_ | refine em_ fun x_ hx_ => ?_ | refine Elem1.mk fun e_ he_ => ?_); refine g0_ ?_))
      refine nx_ (i + 1) ?_ ?_
      · exact ⟨by omega, hb⟩
      · ((try dsimp only); (try simp only [List.length_drop, List.length_take, List.length_append, List.length_cons, List.length_nil, List.length_map] at *); omega)
theorem bigAt_iff : ∀ (l : List Int) (i : Nat), 0 ≤ bigAt i l ↔ ∃ n ∈ l, n < -1 ∨ 9999 < n
  | [], i => by simp [bigAt]
  | n :: r, i => by
    rw [bigAt]
    split
    · rename_i h
      exact ⟨fun _ => ⟨n, List.mem_cons_self, h⟩, fun _ => by omega⟩
    · rename_i h
      rw [bigAt_iff r (i + 1)]
      constructor
      · rintro ⟨k, hk, h2⟩; exact ⟨k, List.mem_cons_of_mem _ hk, h2⟩
      · rintro ⟨k, hk, h2⟩
        rcases List.mem_cons.1 hk with rfl | hk
        · exact absurd h2 h
        · exact ⟨k, hk, h2⟩
theorem contains_big (l : List Int) (hl : l.length ≤ 1000000) (hr : ∀ n ∈ l, -9223372036854775808 ≤ n ∧ n ≤ 9223372036854775807) : Pure Tryd.prog W 24 [.sl 1 (l.map (PV.int .i64)), .fn 25 []] (.bool (decide (0 ≤ bigAt 0 l))) := by
  have hx := index_big W l hl hr
  refine Pure.of (acalls_of_vc (drawOk W) Tryd.func24 rfl (by decide) (by decide) rfl ?_)
  (refine g0_ ?_; repeat ((first | refine n1_ fun b_ => ?_ | refine n2_ fun b_ => ?_ | refine Nat1.mk fun q_ hq_ => ?_ | refine em_ fun x_ hx_ => ?_ | refine Elem1.mk fun e_ he_ => ?_); refine g0_ ?_))
  refine (hx).use ?_; (refine g0_ ?_; repeat ((first | refine n1_ fun b_ => ?_ | refine n2_ fun b_ => ?_ | refine Nat1.mk fun q_ hq_ => ?_ | refine em_ fun x_ hx_ => ?_ | refine Elem1.mk fun e_ he_ => ?_); refine g0_ ?_))
  (refine g0_ ?_; repeat ((first | refine n1_ fun b_ => ?_ | refine n2_ fun b_ => ?_ | refine Nat1.mk fun q_ hq_ => ?_ | refine em_ fun x_ hx_ => ?_ | refine Elem1.mk fun e_ he_ => ?_); refine g0_ ?_))
  exact .refl _
end Go.Eng.YtkcldifniomfoaaDoor
end

/- utf8.FullRuneInString, from its text (b_ x_ q_ e_). -/
section
namespace Go.Eng.YtkcldifniomfoaaDoor
open Go Go.Eng Go.Proofs
variable (W : World)
set_option linter.unusedSimpArgs false
set_option maxRecDepth 100000
set_option linter.unusedVariables false
set_option maxHeartbeats 8000000
theorem loadAt_one {K : Kn} {w : World} {t : TypeId} {b o : Nat} {e : List PV} (ht : tyOk Tryd.prog t = true) (hl : Tryd.prog.cellsOf t ≤ e.length)
    (hc : ∀ j, j < Tryd.prog.cellsOf t → ∃ u, w.cell? ⟨b, o + j, none⟩ = some u ∧ VRel K w (e.getD j .dead) u) :
    ∃ r, (Instr.loadAt t (.pointer (some ⟨b, o, none⟩))).run Tryd.prog w = .ok r w ∧ VRel K w (partV (isAggB Tryd.prog t) (Tryd.prog.cellsOf t) e 0) r := by
  obtain ⟨v, h1, h2⟩ := load_at (P := Tryd.prog) (K := K) (w := w) (t := t) (b := b) (o := o) (f := 0) (e := e) ht (by omega) (fun j hj => by rw [Nat.zero_add]; exact hc j hj)
  exact ⟨_, by simp only [Instr.loadAt, Instr.sureAddr, Sem.run_bind, Sem.run_pure, Result.andThen_ok, h1], h2⟩
theorem add_none (b o n : Nat) : (⟨b, o, none⟩ : Addr).add n = ⟨b, o + n, none⟩ := by unfold Addr.add; split <;> simp_all
theorem glob_first (hT : Tabs W) (c : Nat) (hc : c < 256) : GlobAt Tryd.prog W 5 (.pointer (some ((⟨0, 0, none⟩ : Addr).add (c * Tryd.prog.cellsOf 5)))) (.int .u8 (Lib.firstT c)) := by
  refine ⟨fun K w hb => ?_⟩
  have h1 : Tryd.prog.cellsOf 5 = 1 := by decide +kernel
  have h0 := (tabs_at hT hb).1 c hc
  rw [add_none, h1]
  refine loadAt_one (t := 5) (e := [.int .u8 (Lib.firstT c)]) (by decide +kernel) (by rw [h1]; exact Nat.le_refl _) ?_
  intro j hj
  rw [h1] at hj
  obtain rfl : j = 0 := by omega
  exact ⟨_, by simpa using h0, .int _ _⟩
theorem glob_acc (hT : Tabs W) (i : Nat) (hi : i < 16) : GlobAt Tryd.prog W 77 (.pointer (some ((⟨1, 0, none⟩ : Addr).add (i * Tryd.prog.cellsOf 77)))) (.agg [.int .u8 (Lib.accLo i), .int .u8 (Lib.accHi i)]) := by
  refine ⟨fun K w hb => ?_⟩
  have h1 : Tryd.prog.cellsOf 77 = 2 := by decide +kernel
  have h0 := (tabs_at hT hb).2 i hi
  rw [add_none, h1]
  refine loadAt_one (t := 77) (e := [.int .u8 (Lib.accLo i), .int .u8 (Lib.accHi i)]) (by decide +kernel) (by rw [h1]; exact Nat.le_refl _) ?_
  intro j hj
  rw [h1] at hj
  rw [Nat.zero_add, Nat.mul_comm]
  rcases (show j = 0 ∨ j = 1 by omega) with rfl | rfl
  · exact ⟨_, h0.1, .int _ _⟩
  · exact ⟨_, h0.2, .int _ _⟩
theorem full_ok (hT : Tabs W) (s : List UInt8) : Pure Tryd.prog W 23 [.str s] (.bool (fullL s)) := by
  generalize hR : fullL s = R
  rcases s with _ | ⟨c, s⟩
  · refine Pure.of (acalls_of_vc (drawOk W) Tryd.func23 rfl (by decide) (by decide) rfl ?_)
    (refine g0_ ?_; repeat ((first | refine n1_ fun b_ => ?_ | refine n2_ fun b_ => ?_ | refine Nat1.mk fun q_ hq_ => ?_ | refine em_ fun x_ hx_ => ?_ | refine Elem1.mk fun e_ he_ => ?_); refine g0_ ?_))
    exact .of_eq (by rw [← hR]; rfl)
  · have hc := c.toNat_lt
    rw [fullL, if_neg (by simp), gB_head] at hR
    have hf := glob_first W hT c.toNat (by omega)
    rcases Lib.firstT_cases c.toNat with hX | hX | hX | hX | hX | hX | hX | hX | hX
    all_goals rw [hX] at hf hR
    · refine Pure.of (acalls_of_vc (drawOk W) Tryd.func23 rfl (by decide) (by decide) rfl ?_)
      (refine g0_ ?_; repeat ((first | refine n1_ fun b_ => ?_ | refine n2_ fun b_ => ?_ | refine Nat1.mk fun q_ hq_ => ?_ | refine em_ fun x_ hx_ => ?_ | refine Elem1.mk fun e_ he_ => ?_); refine g0_ ?_))
      refine ⟨_, hf, ?_⟩
      (refine g0_ ?_; repeat ((first | refine n1_ fun b_ => ?_ | refine n2_ fun b_ => ?_ | refine Nat1.mk fun q_ hq_ => ?_ | refine em_ fun x_ hx_ => ?_ | refine Elem1.mk fun e_ he_ => ?_); refine g0_ ?_))
      rw [show bitop .and .u8 ((240 : Nat) : Int) 7 = 0 by decide]
      (refine g0_ ?_; repeat ((first | refine n1_ fun b_ => ?_ | refine n2_ fun b_ => ?_ | refine Nat1.mk fun q_ hq_ => ?_ | refine em_ fun x_ hx_ => ?_ | refine Elem1.mk fun e_ he_ => ?_); refine g0_ ?_))
      exact .of_eq (by rw [← hR, if_pos (by simp)])
    · refine Pure.of (acalls_of_vc (drawOk W) Tryd.func23 rfl (by decide) (by decide) rfl ?_)
      (refine g0_ ?_; repeat ((first | refine n1_ fun b_ => ?_ | refine n2_ fun b_ => ?_ | refine Nat1.mk fun q_ hq_ => ?_ | refine em_ fun x_ hx_ => ?_ | refine Elem1.mk fun e_ he_ => ?_); refine g0_ ?_))
      refine ⟨_, hf, ?_⟩
      (refine g0_ ?_; repeat ((first | refine n1_ fun b_ => ?_ | refine n2_ fun b_ => ?_ | refine Nat1.mk fun q_ hq_ => ?_ | refine em_ fun x_ hx_ => ?_ | refine Elem1.mk fun e_ he_ => ?_); refine g0_ ?_))
      rw [show bitop .and .u8 ((241 : Nat) : Int) 7 = 1 by decide]
      (refine g0_ ?_; repeat ((first | refine n1_ fun b_ => ?_ | refine n2_ fun b_ => ?_ | refine Nat1.mk fun q_ hq_ => ?_ | refine em_ fun x_ hx_ => ?_ | refine Elem1.mk fun e_ he_ => ?_); refine g0_ ?_))
      refine brec ?_; intro c_ h; (try rw [h]); cases c_ <;> replace h := nm_ h
      · simp at h; omega
      · (refine g0_ ?_; repeat ((first | refine n1_ fun b_ => ?_ | refine n2_ fun b_ => ?_ | refine Nat1.mk fun q_ hq_ => ?_ | refine em_ fun x_ hx_ => ?_ | refine Elem1.mk fun e_ he_ => ?_); refine g0_ ?_))
        exact .of_eq (by rw [← hR, if_pos (by simp)])
    · have ha := glob_acc W hT 0 (by omega)
      simp only [Lib.accLo, Lib.accHi, Nat.reduceEqDiff, if_true, if_false] at ha
      refine Pure.of (acalls_of_vc (drawOk W) Tryd.func23 rfl (by decide) (by decide) rfl ?_)
      (refine g0_ ?_; repeat ((first | refine n1_ fun b_ => ?_ | refine n2_ fun b_ => ?_ | refine Nat1.mk fun q_ hq_ => ?_ | refine em_ fun x_ hx_ => ?_ | refine Elem1.mk fun e_ he_ => ?_); refine g0_ ?_))
      refine ⟨_, hf, ?_⟩
      (refine g0_ ?_; repeat ((first | refine n1_ fun b_ => ?_ | refine n2_ fun b_ => ?_ | refine Nat1.mk fun q_ hq_ => ?_ | refine em_ fun x_ hx_ => ?_ | refine Elem1.mk fun e_ he_ => ?_); refine g0_ ?_))
      rw [show bitop .and .u8 ((2 : Nat) : Int) 7 = 2 by decide]
      (refine g0_ ?_; repeat ((first | refine n1_ fun b_ => ?_ | refine n2_ fun b_ => ?_ | refine Nat1.mk fun q_ hq_ => ?_ | refine em_ fun x_ hx_ => ?_ | refine Elem1.mk fun e_ he_ => ?_); refine g0_ ?_))
      refine brec ?_; intro c_ h; (try rw [h]); cases c_ <;> replace h := nm_ h
      rotate_left
      · (refine g0_ ?_; repeat ((first | refine n1_ fun b_ => ?_ | refine n2_ fun b_ => ?_ | refine Nat1.mk fun q_ hq_ => ?_ | refine em_ fun x_ hx_ => ?_ | refine Elem1.mk fun e_ he_ => ?_); refine g0_ ?_))
        exact .of_eq (by rw [← hR, if_pos (by omega)])
      (refine g0_ ?_; repeat ((first | refine n1_ fun b_ => ?_ | refine n2_ fun b_ => ?_ | refine Nat1.mk fun q_ hq_ => ?_ | refine em_ fun x_ hx_ => ?_ | refine Elem1.mk fun e_ he_ => ?_); refine g0_ ?_))
      refine need.mk (by decide) ?_
      refine ⟨_, ha, ?_⟩
      rcases s with _ | ⟨d, s⟩
      · (refine g0_ ?_; repeat ((first | refine n1_ fun b_ => ?_ | refine n2_ fun b_ => ?_ | refine Nat1.mk fun q_ hq_ => ?_ | refine em_ fun x_ hx_ => ?_ | refine Elem1.mk fun e_ he_ => ?_); refine g0_ ?_))
        refine head_ ?_; (refine g0_ ?_; repeat ((first | refine n1_ fun b_ => ?_ | refine n2_ fun b_ => ?_ | refine Nat1.mk fun q_ hq_ => ?_ | refine em_ fun x_ hx_ => ?_ | refine Elem1.mk fun e_ he_ => ?_); refine g0_ ?_))
        (refine g0_ ?_; repeat ((first | refine n1_ fun b_ => ?_ | refine n2_ fun b_ => ?_ | refine Nat1.mk fun q_ hq_ => ?_ | refine em_ fun x_ hx_ => ?_ | refine Elem1.mk fun e_ he_ => ?_); refine g0_ ?_))
        refine .of_eq (congrArg PV.bool ?_)
        rw [← hR, if_neg (by simp at h ⊢ <;> omega)]
        exact (decide_eq_false (by simp [gB_cons, gB_head, Lib.accLo, Lib.accHi] <;> omega)).symm
      exfalso; simp at h <;> omega
    · have ha := glob_acc W hT 1 (by omega)
      simp only [Lib.accLo, Lib.accHi, Nat.reduceEqDiff, if_true, if_false] at ha
      refine Pure.of (acalls_of_vc (drawOk W) Tryd.func23 rfl (by decide) (by decide) rfl ?_)
      (refine g0_ ?_; repeat ((first | refine n1_ fun b_ => ?_ | refine n2_ fun b_ => ?_ | refine Nat1.mk fun q_ hq_ => ?_ | refine em_ fun x_ hx_ => ?_ | refine Elem1.mk fun e_ he_ => ?_); refine g0_ ?_))
      refine ⟨_, hf, ?_⟩
      (refine g0_ ?_; repeat ((first | refine n1_ fun b_ => ?_ | refine n2_ fun b_ => ?_ | refine Nat1.mk fun q_ hq_ => ?_ | refine em_ fun x_ hx_ => ?_ | refine Elem1.mk fun e_ he_ => ?_); refine g0_ ?_))
      rw [show bitop .and .u8 ((19 : Nat) : Int) 7 = 3 by decide]
      (refine g0_ ?_; repeat ((first | refine n1_ fun b_ => ?_ | refine n2_ fun b_ => ?_ | refine Nat1.mk fun q_ hq_ => ?_ | refine em_ fun x_ hx_ => ?_ | refine Elem1.mk fun e_ he_ => ?_); refine g0_ ?_))
      refine brec ?_; intro c_ h; (try rw [h]); cases c_ <;> replace h := nm_ h
      rotate_left
      · (refine g0_ ?_; repeat ((first | refine n1_ fun b_ => ?_ | refine n2_ fun b_ => ?_ | refine Nat1.mk fun q_ hq_ => ?_ | refine em_ fun x_ hx_ => ?_ | refine Elem1.mk fun e_ he_ => ?_); refine g0_ ?_))
        exact .of_eq (by rw [← hR, if_pos (by omega)])
      (refine g0_ ?_; repeat ((first | refine n1_ fun b_ => ?_ | refine n2_ fun b_ => ?_ | refine Nat1.mk fun q_ hq_ => ?_ | refine em_ fun x_ hx_ => ?_ | refine Elem1.mk fun e_ he_ => ?_); refine g0_ ?_))
      refine need.mk (by decide) ?_
      refine ⟨_, ha, ?_⟩
      rcases s with _ | ⟨d, s⟩
      · (refine g0_ ?_; repeat ((first | refine n1_ fun b_ => ?_ | refine n2_ fun b_ => ?_ | refine Nat1.mk fun q_ hq_ => ?_ | refine em_ fun x_ hx_ => ?_ | refine Elem1.mk fun e_ he_ => ?_); refine g0_ ?_))
        refine head_ ?_; (refine g0_ ?_; repeat ((first | refine n1_ fun b_ => ?_ | refine n2_ fun b_ => ?_ | refine Nat1.mk fun q_ hq_ => ?_ | refine em_ fun x_ hx_ => ?_ | refine Elem1.mk fun e_ he_ => ?_); refine g0_ ?_))
        (refine g0_ ?_; repeat ((first | refine n1_ fun b_ => ?_ | refine n2_ fun b_ => ?_ | refine Nat1.mk fun q_ hq_ => ?_ | refine em_ fun x_ hx_ => ?_ | refine Elem1.mk fun e_ he_ => ?_); refine g0_ ?_))
        refine .of_eq (congrArg PV.bool ?_)
        rw [← hR, if_neg (by simp at h ⊢ <;> omega)]
        exact (decide_eq_false (by simp [gB_cons, gB_head, Lib.accLo, Lib.accHi] <;> omega)).symm
      rcases s with _ | ⟨e, s⟩
      · (refine g0_ ?_; repeat ((first | refine n1_ fun b_ => ?_ | refine n2_ fun b_ => ?_ | refine Nat1.mk fun q_ hq_ => ?_ | refine em_ fun x_ hx_ => ?_ | refine Elem1.mk fun e_ he_ => ?_); refine g0_ ?_))
        refine head_ ?_; (refine g0_ ?_; repeat ((first | refine n1_ fun b_ => ?_ | refine n2_ fun b_ => ?_ | refine Nat1.mk fun q_ hq_ => ?_ | refine em_ fun x_ hx_ => ?_ | refine Elem1.mk fun e_ he_ => ?_); refine g0_ ?_))
        (refine g0_ ?_; repeat ((first | refine n1_ fun b_ => ?_ | refine n2_ fun b_ => ?_ | refine Nat1.mk fun q_ hq_ => ?_ | refine em_ fun x_ hx_ => ?_ | refine Elem1.mk fun e_ he_ => ?_); refine g0_ ?_))
        refine brec ?_; intro c_ h1; (try rw [h1]); cases c_ <;> replace h1 := nm_ h1
        · (refine g0_ ?_; repeat ((first | refine n1_ fun b_ => ?_ | refine n2_ fun b_ => ?_ | refine Nat1.mk fun q_ hq_ => ?_ | refine em_ fun x_ hx_ => ?_ | refine Elem1.mk fun e_ he_ => ?_); refine g0_ ?_))
          refine brec ?_; intro c_ h2; (try rw [h2]); cases c_ <;> replace h2 := nm_ h2
          · (refine g0_ ?_; repeat ((first | refine n1_ fun b_ => ?_ | refine n2_ fun b_ => ?_ | refine Nat1.mk fun q_ hq_ => ?_ | refine em_ fun x_ hx_ => ?_ | refine Elem1.mk fun e_ he_ => ?_); refine g0_ ?_))
            refine .of_eq (congrArg PV.bool ?_)
            rw [← hR, if_neg (by simp at h ⊢ <;> omega)]
            exact (decide_eq_false (by simp [gB_cons, gB_head, Lib.accLo, Lib.accHi] <;> omega)).symm
          · (refine g0_ ?_; repeat ((first | refine n1_ fun b_ => ?_ | refine n2_ fun b_ => ?_ | refine Nat1.mk fun q_ hq_ => ?_ | refine em_ fun x_ hx_ => ?_ | refine Elem1.mk fun e_ he_ => ?_); refine g0_ ?_))
            refine .of_eq (congrArg PV.bool ?_)
            rw [← hR, if_neg (by simp at h ⊢ <;> omega)]
            exact (decide_eq_true (by simp [gB_cons, gB_head, Lib.accLo, Lib.accHi] <;> omega)).symm
        · (refine g0_ ?_; repeat ((first | refine n1_ fun b_ => ?_ | refine n2_ fun b_ => ?_ | refine Nat1.mk fun q_ hq_ => ?_ | refine em_ fun x_ hx_ => ?_ | refine Elem1.mk fun e_ he_ => ?_); refine g0_ ?_))
          refine .of_eq (congrArg PV.bool ?_)
          rw [← hR, if_neg (by simp at h ⊢ <;> omega)]
          exact (decide_eq_true (by simp [gB_cons, gB_head, Lib.accLo, Lib.accHi] <;> omega)).symm
      exfalso; simp at h <;> omega
    · have ha := glob_acc W hT 0 (by omega)
      simp only [Lib.accLo, Lib.accHi, Nat.reduceEqDiff, if_true, if_false] at ha
      refine Pure.of (acalls_of_vc (drawOk W) Tryd.func23 rfl (by decide) (by decide) rfl ?_)
      (refine g0_ ?_; repeat ((first | refine n1_ fun b_ => ?_ | refine n2_ fun b_ => ?_ | refine Nat1.mk fun q_ hq_ => ?_ | refine em_ fun x_ hx_ => ?_ | refine Elem1.mk fun e_ he_ => ?_); refine g0_ ?_))
      refine ⟨_, hf, ?_⟩
      (refine g0_ ?_; repeat ((first | refine n1_ fun b_ => ?_ | refine n2_ fun b_ => ?_ | refine Nat1.mk fun q_ hq_ => ?_ | refine em_ fun x_ hx_ => ?_ | refine Elem1.mk fun e_ he_ => ?_); refine g0_ ?_))
      rw [show bitop .and .u8 ((3 : Nat) : Int) 7 = 3 by decide]
      (refine g0_ ?_; repeat ((first | refine n1_ fun b_ => ?_ | refine n2_ fun b_ => ?_ | refine Nat1.mk fun q_ hq_ => ?_ | refine em_ fun x_ hx_ => ?_ | refine Elem1.mk fun e_ he_ => ?_); refine g0_ ?_))
      refine brec ?_; intro c_ h; (try rw [h]); cases c_ <;> replace h := nm_ h
      rotate_left
      · (refine g0_ ?_; repeat ((first | refine n1_ fun b_ => ?_ | refine n2_ fun b_ => ?_ | refine Nat1.mk fun q_ hq_ => ?_ | refine em_ fun x_ hx_ => ?_ | refine Elem1.mk fun e_ he_ => ?_); refine g0_ ?_))
        exact .of_eq (by rw [← hR, if_pos (by omega)])
      (refine g0_ ?_; repeat ((first | refine n1_ fun b_ => ?_ | refine n2_ fun b_ => ?_ | refine Nat1.mk fun q_ hq_ => ?_ | refine em_ fun x_ hx_ => ?_ | refine Elem1.mk fun e_ he_ => ?_); refine g0_ ?_))
      refine need.mk (by decide) ?_
      refine ⟨_, ha, ?_⟩
      rcases s with _ | ⟨d, s⟩
      · (refine g0_ ?_; repeat ((first | refine n1_ fun b_ => ?_ | refine n2_ fun b_ => ?_ | refine Nat1.mk fun q_ hq_ => ?_ | refine em_ fun x_ hx_ => ?_ | refine Elem1.mk fun e_ he_ => ?_); refine g0_ ?_))
        refine head_ ?_; (refine g0_ ?_; repeat ((first | refine n1_ fun b_ => ?_ | refine n2_ fun b_ => ?_ | refine Nat1.mk fun q_ hq_ => ?_ | refine em_ fun x_ hx_ => ?_ | refine Elem1.mk fun e_ he_ => ?_); refine g0_ ?_))
        (refine g0_ ?_; repeat ((first | refine n1_ fun b_ => ?_ | refine n2_ fun b_ => ?_ | refine Nat1.mk fun q_ hq_ => ?_ | refine em_ fun x_ hx_ => ?_ | refine Elem1.mk fun e_ he_ => ?_); refine g0_ ?_))
        refine .of_eq (congrArg PV.bool ?_)
        rw [← hR, if_neg (by simp at h ⊢ <;> omega)]
        exact (decide_eq_false (by simp [gB_cons, gB_head, Lib.accLo, Lib.accHi] <;> omega)).symm
      rcases s with _ | ⟨e, s⟩
      · (refine g0_ ?_; repeat ((first | refine n1_ fun b_ => ?_ | refine n2_ fun b_ => ?_ | refine Nat1.mk fun q_ hq_ => ?_ | refine em_ fun x_ hx_ => ?_ | refine Elem1.mk fun e_ he_ => ?_); refine g0_ ?_))
        refine head_ ?_; (refine g0_ ?_; repeat ((first | refine n1_ fun b_ => ?_ | refine n2_ fun b_ => ?_ | refine Nat1.mk fun q_ hq_ => ?_ | refine em_ fun x_ hx_ => ?_ | refine Elem1.mk fun e_ he_ => ?_); refine g0_ ?_))
        (refine g0_ ?_; repeat ((first | refine n1_ fun b_ => ?_ | refine n2_ fun b_ => ?_ | refine Nat1.mk fun q_ hq_ => ?_ | refine em_ fun x_ hx_ => ?_ | refine Elem1.mk fun e_ he_ => ?_); refine g0_ ?_))
        refine brec ?_; intro c_ h1; (try rw [h1]); cases c_ <;> replace h1 := nm_ h1
        · (refine g0_ ?_; repeat ((first | refine n1_ fun b_ => ?_ | refine n2_ fun b_ => ?_ | refine Nat1.mk fun q_ hq_ => ?_ | refine em_ fun x_ hx_ => ?_ | refine Elem1.mk fun e_ he_ => ?_); refine g0_ ?_))
          refine brec ?_; intro c_ h2; (try rw [h2]); cases c_ <;> replace h2 := nm_ h2
          · (refine g0_ ?_; repeat ((first | refine n1_ fun b_ => ?_ | refine n2_ fun b_ => ?_ | refine Nat1.mk fun q_ hq_ => ?_ | refine em_ fun x_ hx_ => ?_ | refine Elem1.mk fun e_ he_ => ?_); refine g0_ ?_))
            refine .of_eq (congrArg PV.bool ?_)
            rw [← hR, if_neg (by simp at h ⊢ <;> omega)]
            exact (decide_eq_false (by simp [gB_cons, gB_head, Lib.accLo, Lib.accHi] <;> omega)).symm
          · (refine g0_ ?_; repeat ((first | refine n1_ fun b_ => ?_ | refine n2_ fun b_ => ?_ | refine Nat1.mk fun q_ hq_ => ?_ | refine em_ fun x_ hx_ => ?_ | refine Elem1.mk fun e_ he_ => ?_); refine g0_ ?_))
            refine .of_eq (congrArg PV.bool ?_)
            rw [← hR, if_neg (by simp at h ⊢ <;> omega)]
            exact (decide_eq_true (by simp [gB_cons, gB_head, Lib.accLo, Lib.accHi] <;> omega)).symm
        · (refine g0_ ?_; repeat ((first | refine n1_ fun b_ => ?_ | refine n2_ fun b_ => ?_ | refine Nat1.mk fun q_ hq_ => ?_ | refine em_ fun x_ hx_ => ?_ | refine Elem1.mk fun e_ he_ => ?_); refine g0_ ?_))
          refine .of_eq (congrArg PV.bool ?_)
          rw [← hR, if_neg (by simp at h ⊢ <;> omega)]
          exact (decide_eq_true (by simp [gB_cons, gB_head, Lib.accLo, Lib.accHi] <;> omega)).symm
      exfalso; simp at h <;> omega
    · have ha := glob_acc W hT 2 (by omega)
      simp only [Lib.accLo, Lib.accHi, Nat.reduceEqDiff, if_true, if_false] at ha
      refine Pure.of (acalls_of_vc (drawOk W) Tryd.func23 rfl (by decide) (by decide) rfl ?_)
      (refine g0_ ?_; repeat ((first | refine n1_ fun b_ => ?_ | refine n2_ fun b_ => ?_ | refine Nat1.mk fun q_ hq_ => ?_ | refine em_ fun x_ hx_ => ?_ | refine Elem1.mk fun e_ he_ => ?_); refine g0_ ?_))
      refine ⟨_, hf, ?_⟩
      (refine g0_ ?_; repeat ((first | refine n1_ fun b_ => ?_ | refine n2_ fun b_ => ?_ | refine Nat1.mk fun q_ hq_ => ?_ | refine em_ fun x_ hx_ => ?_ | refine Elem1.mk fun e_ he_ => ?_); refine g0_ ?_))
      rw [show bitop .and .u8 ((35 : Nat) : Int) 7 = 3 by decide]
      (refine g0_ ?_; repeat ((first | refine n1_ fun b_ => ?_ | refine n2_ fun b_ => ?_ | refine Nat1.mk fun q_ hq_ => ?_ | refine em_ fun x_ hx_ => ?_ | refine Elem1.mk fun e_ he_ => ?_); refine g0_ ?_))
      refine brec ?_; intro c_ h; (try rw [h]); cases c_ <;> replace h := nm_ h
      rotate_left
      · (refine g0_ ?_; repeat ((first | refine n1_ fun b_ => ?_ | refine n2_ fun b_ => ?_ | refine Nat1.mk fun q_ hq_ => ?_ | refine em_ fun x_ hx_ => ?_ | refine Elem1.mk fun e_ he_ => ?_); refine g0_ ?_))
        exact .of_eq (by rw [← hR, if_pos (by omega)])
      (refine g0_ ?_; repeat ((first | refine n1_ fun b_ => ?_ | refine n2_ fun b_ => ?_ | refine Nat1.mk fun q_ hq_ => ?_ | refine em_ fun x_ hx_ => ?_ | refine Elem1.mk fun e_ he_ => ?_); refine g0_ ?_))
      refine need.mk (by decide) ?_
      refine ⟨_, ha, ?_⟩
      rcases s with _ | ⟨d, s⟩
      · (refine g0_ ?_; repeat ((first | refine n1_ fun b_ => ?_ | refine n2_ fun b_ => ?_ | refine Nat1.mk fun q_ hq_ => ?_ | refine em_ fun x_ hx_ => ?_ | refine Elem1.mk fun e_ he_ => ?_); refine g0_ ?_))
        refine head_ ?_; (refine g0_ ?_; repeat ((first | refine n1_ fun b_ => ?_ | refine n2_ fun b_ => ?_ | refine Nat1.mk fun q_ hq_ => ?_ | refine em_ fun x_ hx_ => ?_ | refine Elem1.mk fun e_ he_ => ?_); refine g0_ ?_))
        (refine g0_ ?_; repeat ((first | refine n1_ fun b_ => ?_ | refine n2_ fun b_ => ?_ | refine Nat1.mk fun q_ hq_ => ?_ | refine em_ fun x_ hx_ => ?_ | refine Elem1.mk fun e_ he_ => ?_); refine g0_ ?_))
        refine .of_eq (congrArg PV.bool ?_)
        rw [← hR, if_neg (by simp at h ⊢ <;> omega)]
        exact (decide_eq_false (by simp [gB_cons, gB_head, Lib.accLo, Lib.accHi] <;> omega)).symm
      rcases s with _ | ⟨e, s⟩
      · (refine g0_ ?_; repeat ((first | refine n1_ fun b_ => ?_ | refine n2_ fun b_ => ?_ | refine Nat1.mk fun q_ hq_ => ?_ | refine em_ fun x_ hx_ => ?_ | refine Elem1.mk fun e_ he_ => ?_); refine g0_ ?_))
        refine head_ ?_; (refine g0_ ?_; repeat ((first | refine n1_ fun b_ => ?_ | refine n2_ fun b_ => ?_ | refine Nat1.mk fun q_ hq_ => ?_ | refine em_ fun x_ hx_ => ?_ | refine Elem1.mk fun e_ he_ => ?_); refine g0_ ?_))
        (refine g0_ ?_; repeat ((first | refine n1_ fun b_ => ?_ | refine n2_ fun b_ => ?_ | refine Nat1.mk fun q_ hq_ => ?_ | refine em_ fun x_ hx_ => ?_ | refine Elem1.mk fun e_ he_ => ?_); refine g0_ ?_))
        refine brec ?_; intro c_ h1; (try rw [h1]); cases c_ <;> replace h1 := nm_ h1
        · (refine g0_ ?_; repeat ((first | refine n1_ fun b_ => ?_ | refine n2_ fun b_ => ?_ | refine Nat1.mk fun q_ hq_ => ?_ | refine em_ fun x_ hx_ => ?_ | refine Elem1.mk fun e_ he_ => ?_); refine g0_ ?_))
          refine brec ?_; intro c_ h2; (try rw [h2]); cases c_ <;> replace h2 := nm_ h2
          · (refine g0_ ?_; repeat ((first | refine n1_ fun b_ => ?_ | refine n2_ fun b_ => ?_ | refine Nat1.mk fun q_ hq_ => ?_ | refine em_ fun x_ hx_ => ?_ | refine Elem1.mk fun e_ he_ => ?_); refine g0_ ?_))
            refine .of_eq (congrArg PV.bool ?_)
            rw [← hR, if_neg (by simp at h ⊢ <;> omega)]
            exact (decide_eq_false (by simp [gB_cons, gB_head, Lib.accLo, Lib.accHi] <;> omega)).symm
          · (refine g0_ ?_; repeat ((first | refine n1_ fun b_ => ?_ | refine n2_ fun b_ => ?_ | refine Nat1.mk fun q_ hq_ => ?_ | refine em_ fun x_ hx_ => ?_ | refine Elem1.mk fun e_ he_ => ?_); refine g0_ ?_))
            refine .of_eq (congrArg PV.bool ?_)
            rw [← hR, if_neg (by simp at h ⊢ <;> omega)]
            exact (decide_eq_true (by simp [gB_cons, gB_head, Lib.accLo, Lib.accHi] <;> omega)).symm
        · (refine g0_ ?_; repeat ((first | refine n1_ fun b_ => ?_ | refine n2_ fun b_ => ?_ | refine Nat1.mk fun q_ hq_ => ?_ | refine em_ fun x_ hx_ => ?_ | refine Elem1.mk fun e_ he_ => ?_); refine g0_ ?_))
          refine .of_eq (congrArg PV.bool ?_)
          rw [← hR, if_neg (by simp at h ⊢ <;> omega)]
          exact (decide_eq_true (by simp [gB_cons, gB_head, Lib.accLo, Lib.accHi] <;> omega)).symm
      exfalso; simp at h <;> omega
    · have ha := glob_acc W hT 3 (by omega)
      simp only [Lib.accLo, Lib.accHi, Nat.reduceEqDiff, if_true, if_false] at ha
      refine Pure.of (acalls_of_vc (drawOk W) Tryd.func23 rfl (by decide) (by decide) rfl ?_)
      (refine g0_ ?_; repeat ((first | refine n1_ fun b_ => ?_ | refine n2_ fun b_ => ?_ | refine Nat1.mk fun q_ hq_ => ?_ | refine em_ fun x_ hx_ => ?_ | refine Elem1.mk fun e_ he_ => ?_); refine g0_ ?_))
      refine ⟨_, hf, ?_⟩
      (refine g0_ ?_; repeat ((first | refine n1_ fun b_ => ?_ | refine n2_ fun b_ => ?_ | refine Nat1.mk fun q_ hq_ => ?_ | refine em_ fun x_ hx_ => ?_ | refine Elem1.mk fun e_ he_ => ?_); refine g0_ ?_))
      rw [show bitop .and .u8 ((52 : Nat) : Int) 7 = 4 by decide]
      (refine g0_ ?_; repeat ((first | refine n1_ fun b_ => ?_ | refine n2_ fun b_ => ?_ | refine Nat1.mk fun q_ hq_ => ?_ | refine em_ fun x_ hx_ => ?_ | refine Elem1.mk fun e_ he_ => ?_); refine g0_ ?_))
      refine brec ?_; intro c_ h; (try rw [h]); cases c_ <;> replace h := nm_ h
      rotate_left
      · (refine g0_ ?_; repeat ((first | refine n1_ fun b_ => ?_ | refine n2_ fun b_ => ?_ | refine Nat1.mk fun q_ hq_ => ?_ | refine em_ fun x_ hx_ => ?_ | refine Elem1.mk fun e_ he_ => ?_); refine g0_ ?_))
        exact .of_eq (by rw [← hR, if_pos (by omega)])
      (refine g0_ ?_; repeat ((first | refine n1_ fun b_ => ?_ | refine n2_ fun b_ => ?_ | refine Nat1.mk fun q_ hq_ => ?_ | refine em_ fun x_ hx_ => ?_ | refine Elem1.mk fun e_ he_ => ?_); refine g0_ ?_))
      refine need.mk (by decide) ?_
      refine ⟨_, ha, ?_⟩
      rcases s with _ | ⟨d, s⟩
      · (refine g0_ ?_; repeat ((first | refine n1_ fun b_ => ?_ | refine n2_ fun b_ => ?_ | refine Nat1.mk fun q_ hq_ => ?_ | refine em_ fun x_ hx_ => ?_ | refine Elem1.mk fun e_ he_ => ?_); refine g0_ ?_))
        refine head_ ?_; (refine g0_ ?_; repeat ((first | refine n1_ fun b_ => ?_ | refine n2_ fun b_ => ?_ | refine Nat1.mk fun q_ hq_ => ?_ | refine em_ fun x_ hx_ => ?_ | refine Elem1.mk fun e_ he_ => ?_); refine g0_ ?_))
        (refine g0_ ?_; repeat ((first | refine n1_ fun b_ => ?_ | refine n2_ fun b_ => ?_ | refine Nat1.mk fun q_ hq_ => ?_ | refine em_ fun x_ hx_ => ?_ | refine Elem1.mk fun e_ he_ => ?_); refine g0_ ?_))
        refine .of_eq (congrArg PV.bool ?_)
        rw [← hR, if_neg (by simp at h ⊢ <;> omega)]
        exact (decide_eq_false (by simp [gB_cons, gB_head, Lib.accLo, Lib.accHi] <;> omega)).symm
      rcases s with _ | ⟨e, s⟩
      · (refine g0_ ?_; repeat ((first | refine n1_ fun b_ => ?_ | refine n2_ fun b_ => ?_ | refine Nat1.mk fun q_ hq_ => ?_ | refine em_ fun x_ hx_ => ?_ | refine Elem1.mk fun e_ he_ => ?_); refine g0_ ?_))
        refine head_ ?_; (refine g0_ ?_; repeat ((first | refine n1_ fun b_ => ?_ | refine n2_ fun b_ => ?_ | refine Nat1.mk fun q_ hq_ => ?_ | refine em_ fun x_ hx_ => ?_ | refine Elem1.mk fun e_ he_ => ?_); refine g0_ ?_))
        (refine g0_ ?_; repeat ((first | refine n1_ fun b_ => ?_ | refine n2_ fun b_ => ?_ | refine Nat1.mk fun q_ hq_ => ?_ | refine em_ fun x_ hx_ => ?_ | refine Elem1.mk fun e_ he_ => ?_); refine g0_ ?_))
        refine brec ?_; intro c_ h1; (try rw [h1]); cases c_ <;> replace h1 := nm_ h1
        · (refine g0_ ?_; repeat ((first | refine n1_ fun b_ => ?_ | refine n2_ fun b_ => ?_ | refine Nat1.mk fun q_ hq_ => ?_ | refine em_ fun x_ hx_ => ?_ | refine Elem1.mk fun e_ he_ => ?_); refine g0_ ?_))
          refine brec ?_; intro c_ h2; (try rw [h2]); cases c_ <;> replace h2 := nm_ h2
          · (refine g0_ ?_; repeat ((first | refine n1_ fun b_ => ?_ | refine n2_ fun b_ => ?_ | refine Nat1.mk fun q_ hq_ => ?_ | refine em_ fun x_ hx_ => ?_ | refine Elem1.mk fun e_ he_ => ?_); refine g0_ ?_))
            refine .of_eq (congrArg PV.bool ?_)
            rw [← hR, if_neg (by simp at h ⊢ <;> omega)]
            exact (decide_eq_false (by simp [gB_cons, gB_head, Lib.accLo, Lib.accHi] <;> omega)).symm
          · (refine g0_ ?_; repeat ((first | refine n1_ fun b_ => ?_ | refine n2_ fun b_ => ?_ | refine Nat1.mk fun q_ hq_ => ?_ | refine em_ fun x_ hx_ => ?_ | refine Elem1.mk fun e_ he_ => ?_); refine g0_ ?_))
            refine .of_eq (congrArg PV.bool ?_)
            rw [← hR, if_neg (by simp at h ⊢ <;> omega)]
            exact (decide_eq_true (by simp [gB_cons, gB_head, Lib.accLo, Lib.accHi] <;> omega)).symm
        · (refine g0_ ?_; repeat ((first | refine n1_ fun b_ => ?_ | refine n2_ fun b_ => ?_ | refine Nat1.mk fun q_ hq_ => ?_ | refine em_ fun x_ hx_ => ?_ | refine Elem1.mk fun e_ he_ => ?_); refine g0_ ?_))
          refine .of_eq (congrArg PV.bool ?_)
          rw [← hR, if_neg (by simp at h ⊢ <;> omega)]
          exact (decide_eq_true (by simp [gB_cons, gB_head, Lib.accLo, Lib.accHi] <;> omega)).symm
      rcases s with _ | ⟨f, s⟩
      · (refine g0_ ?_; repeat ((first | refine n1_ fun b_ => ?_ | refine n2_ fun b_ => ?_ | refine Nat1.mk fun q_ hq_ => ?_ | refine em_ fun x_ hx_ => ?_ | refine Elem1.mk fun e_ he_ => ?_); refine g0_ ?_))
        refine head_ ?_; (refine g0_ ?_; repeat ((first | refine n1_ fun b_ => ?_ | refine n2_ fun b_ => ?_ | refine Nat1.mk fun q_ hq_ => ?_ | refine em_ fun x_ hx_ => ?_ | refine Elem1.mk fun e_ he_ => ?_); refine g0_ ?_))
        (refine g0_ ?_; repeat ((first | refine n1_ fun b_ => ?_ | refine n2_ fun b_ => ?_ | refine Nat1.mk fun q_ hq_ => ?_ | refine em_ fun x_ hx_ => ?_ | refine Elem1.mk fun e_ he_ => ?_); refine g0_ ?_))
        refine brec ?_; intro c_ h1; (try rw [h1]); cases c_ <;> replace h1 := nm_ h1
        · (refine g0_ ?_; repeat ((first | refine n1_ fun b_ => ?_ | refine n2_ fun b_ => ?_ | refine Nat1.mk fun q_ hq_ => ?_ | refine em_ fun x_ hx_ => ?_ | refine Elem1.mk fun e_ he_ => ?_); refine g0_ ?_))
          refine brec ?_; intro c_ h2; (try rw [h2]); cases c_ <;> replace h2 := nm_ h2
          · (refine g0_ ?_; repeat ((first | refine n1_ fun b_ => ?_ | refine n2_ fun b_ => ?_ | refine Nat1.mk fun q_ hq_ => ?_ | refine em_ fun x_ hx_ => ?_ | refine Elem1.mk fun e_ he_ => ?_); refine g0_ ?_))
            refine brec ?_; intro c_ h3; (try rw [h3]); cases c_ <;> replace h3 := nm_ h3
            · (refine g0_ ?_; repeat ((first | refine n1_ fun b_ => ?_ | refine n2_ fun b_ => ?_ | refine Nat1.mk fun q_ hq_ => ?_ | refine em_ fun x_ hx_ => ?_ | refine Elem1.mk fun e_ he_ => ?_); refine g0_ ?_))
              refine .of_eq (congrArg PV.bool ?_)
              rw [← hR, if_neg (by simp at h ⊢ <;> omega)]
              exact (decide_eq_false (by simp [gB_cons, gB_head, Lib.accLo, Lib.accHi] <;> omega)).symm
            · (refine g0_ ?_; repeat ((first | refine n1_ fun b_ => ?_ | refine n2_ fun b_ => ?_ | refine Nat1.mk fun q_ hq_ => ?_ | refine em_ fun x_ hx_ => ?_ | refine Elem1.mk fun e_ he_ => ?_); refine g0_ ?_))
              refine .of_eq (congrArg PV.bool ?_)
              rw [← hR, if_neg (by simp at h ⊢ <;> omega)]
              exact (decide_eq_true (by simp [gB_cons, gB_head, Lib.accLo, Lib.accHi] <;> omega)).symm
          · (refine g0_ ?_; repeat ((first | refine n1_ fun b_ => ?_ | refine n2_ fun b_ => ?_ | refine Nat1.mk fun q_ hq_ => ?_ | refine em_ fun x_ hx_ => ?_ | refine Elem1.mk fun e_ he_ => ?_); refine g0_ ?_))
            refine .of_eq (congrArg PV.bool ?_)
            rw [← hR, if_neg (by simp at h ⊢ <;> omega)]
            exact (decide_eq_true (by simp [gB_cons, gB_head, Lib.accLo, Lib.accHi] <;> omega)).symm
        · (refine g0_ ?_; repeat ((first | refine n1_ fun b_ => ?_ | refine n2_ fun b_ => ?_ | refine Nat1.mk fun q_ hq_ => ?_ | refine em_ fun x_ hx_ => ?_ | refine Elem1.mk fun e_ he_ => ?_); refine g0_ ?_))
          refine .of_eq (congrArg PV.bool ?_)
          rw [← hR, if_neg (by simp at h ⊢ <;> omega)]
          exact (decide_eq_true (by simp [gB_cons, gB_head, Lib.accLo, Lib.accHi] <;> omega)).symm
      exfalso; simp at h <;> omega
    · have ha := glob_acc W hT 0 (by omega)
      simp only [Lib.accLo, Lib.accHi, Nat.reduceEqDiff, if_true, if_false] at ha
      refine Pure.of (acalls_of_vc (drawOk W) Tryd.func23 rfl (by decide) (by decide) rfl ?_)
      (refine g0_ ?_; repeat ((first | refine n1_ fun b_ => ?_ | refine n2_ fun b_ => ?_ | refine Nat1.mk fun q_ hq_ => ?_ | refine em_ fun x_ hx_ => ?_ | refine Elem1.mk fun e_ he_ => ?_); refine g0_ ?_))
      refine ⟨_, hf, ?_⟩
      (refine g0_ ?_; repeat ((first | refine n1_ fun b_ => ?_ | refine n2_ fun b_ => ?_ | refine Nat1.mk fun q_ hq_ => ?_ | refine em_ fun x_ hx_ => ?_ | refine Elem1.mk fun e_ he_ => ?_); refine g0_ ?_))
      rw [show bitop .and .u8 ((4 : Nat) : Int) 7 = 4 by decide]
      (refine g0_ ?_; repeat ((first | refine n1_ fun b_ => ?_ | refine n2_ fun b_ => ?_ | refine Nat1.mk fun q_ hq_ => ?_ | refine em_ fun x_ hx_ => ?_ | refine Elem1.mk fun e_ he_ => ?_); refine g0_ ?_))
      refine brec ?_; intro c_ h; (try rw [h]); cases c_ <;> replace h := nm_ h
      rotate_left
      · (refine g0_ ?_; repeat ((first | refine n1_ fun b_ => ?_ | refine n2_ fun b_ => ?_ | refine Nat1.mk fun q_ hq_ => ?_ | refine em_ fun x_ hx_ => ?_ | refine Elem1.mk fun e_ he_ => ?_); refine g0_ ?_))
        exact .of_eq (by rw [← hR, if_pos (by omega)])
      (refine g0_ ?_; repeat ((first | refine n1_ fun b_ => ?_ | refine n2_ fun b_ => ?_ | refine Nat1.mk fun q_ hq_ => ?_ | refine em_ fun x_ hx_ => ?_ | refine Elem1.mk fun e_ he_ => ?_); refine g0_ ?_))
      refine need.mk (by decide) ?_
      refine ⟨_, ha, ?_⟩
      rcases s with _ | ⟨d, s⟩
      · (refine g0_ ?_; repeat ((first | refine n1_ fun b_ => ?_ | refine n2_ fun b_ => ?_ | refine Nat1.mk fun q_ hq_ => ?_ | refine em_ fun x_ hx_ => ?_ | refine Elem1.mk fun e_ he_ => ?_); refine g0_ ?_))
        refine head_ ?_; (refine g0_ ?_; repeat ((first | refine n1_ fun b_ => ?_ | refine n2_ fun b_ => ?_ | refine Nat1.mk fun q_ hq_ => ?_ | refine em_ fun x_ hx_ => ?_ | refine Elem1.mk fun e_ he_ => ?_); refine g0_ ?_))
        (refine g0_ ?_; repeat ((first | refine n1_ fun b_ => ?_ | refine n2_ fun b_ => ?_ | refine Nat1.mk fun q_ hq_ => ?_ | refine em_ fun x_ hx_ => ?_ | refine Elem1.mk fun e_ he_ => ?_); refine g0_ ?_))
        refine .of_eq (congrArg PV.bool ?_)
        rw [← hR, if_neg (by simp at h ⊢ <;> omega)]
        exact (decide_eq_false (by simp [gB_cons, gB_head, Lib.accLo, Lib.accHi] <;> omega)).symm
      rcases s with _ | ⟨e, s⟩
      · (refine g0_ ?_; repeat ((first | refine n1_ fun b_ => ?_ | refine n2_ fun b_ => ?_ | refine Nat1.mk fun q_ hq_ => ?_ | refine em_ fun x_ hx_ => ?_ | refine Elem1.mk fun e_ he_ => ?_); refine g0_ ?_))
        refine head_ ?_; (refine g0_ ?_; repeat ((first | refine n1_ fun b_ => ?_ | refine n2_ fun b_ => ?_ | refine Nat1.mk fun q_ hq_ => ?_ | refine em_ fun x_ hx_ => ?_ | refine Elem1.mk fun e_ he_ => ?_); refine g0_ ?_))
        (refine g0_ ?_; repeat ((first | refine n1_ fun b_ => ?_ | refine n2_ fun b_ => ?_ | refine Nat1.mk fun q_ hq_ => ?_ | refine em_ fun x_ hx_ => ?_ | refine Elem1.mk fun e_ he_ => ?_); refine g0_ ?_))
        refine brec ?_; intro c_ h1; (try rw [h1]); cases c_ <;> replace h1 := nm_ h1
        · (refine g0_ ?_; repeat ((first | refine n1_ fun b_ => ?_ | refine n2_ fun b_ => ?_ | refine Nat1.mk fun q_ hq_ => ?_ | refine em_ fun x_ hx_ => ?_ | refine Elem1.mk fun e_ he_ => ?_); refine g0_ ?_))
          refine brec ?_; intro c_ h2; (try rw [h2]); cases c_ <;> replace h2 := nm_ h2
          · (refine g0_ ?_; repeat ((first | refine n1_ fun b_ => ?_ | refine n2_ fun b_ => ?_ | refine Nat1.mk fun q_ hq_ => ?_ | refine em_ fun x_ hx_ => ?_ | refine Elem1.mk fun e_ he_ => ?_); refine g0_ ?_))
            refine .of_eq (congrArg PV.bool ?_)
            rw [← hR, if_neg (by simp at h ⊢ <;> omega)]
            exact (decide_eq_false (by simp [gB_cons, gB_head, Lib.accLo, Lib.accHi] <;> omega)).symm
          · (refine g0_ ?_; repeat ((first | refine n1_ fun b_ => ?_ | refine n2_ fun b_ => ?_ | refine Nat1.mk fun q_ hq_ => ?_ | refine em_ fun x_ hx_ => ?_ | refine Elem1.mk fun e_ he_ => ?_); refine g0_ ?_))
            refine .of_eq (congrArg PV.bool ?_)
            rw [← hR, if_neg (by simp at h ⊢ <;> omega)]
            exact (decide_eq_true (by simp [gB_cons, gB_head, Lib.accLo, Lib.accHi] <;> omega)).symm
        · (refine g0_ ?_; repeat ((first | refine n1_ fun b_ => ?_ | refine n2_ fun b_ => ?_ | refine Nat1.mk fun q_ hq_ => ?_ | refine em_ fun x_ hx_ => ?_ | refine Elem1.mk fun e_ he_ => ?_); refine g0_ ?_))
          refine .of_eq (congrArg PV.bool ?_)
          rw [← hR, if_neg (by simp at h ⊢ <;> omega)]
          exact (decide_eq_true (by simp [gB_cons, gB_head, Lib.accLo, Lib.accHi] <;> omega)).symm
      rcases s with _ | ⟨f, s⟩
      · (refine g0_ ?_; repeat ((first | refine n1_ fun b_ => ?_ | refine n2_ fun b_ => ?_ | refine Nat1.mk fun q_ hq_ => ?_ | refine em_ fun x_ hx_ => ?_ | refine Elem1.mk fun e_ he_ => ?_); refine g0_ ?_))
        refine head_ ?_; (refine g0_ ?_; repeat ((first | refine n1_ fun b_ => ?_ | refine n2_ fun b_ => ?_ | refine Nat1.mk fun q_ hq_ => ?_ | refine em_ fun x_ hx_ => ?_ | refine Elem1.mk fun e_ he_ => ?_); refine g0_ ?_))
        (refine g0_ ?_; repeat ((first | refine n1_ fun b_ => ?_ | refine n2_ fun b_ => ?_ | refine Nat1.mk fun q_ hq_ => ?_ | refine em_ fun x_ hx_ => ?_ | refine Elem1.mk fun e_ he_ => ?_); refine g0_ ?_))
        refine brec ?_; intro c_ h1; (try rw [h1]); cases c_ <;> replace h1 := nm_ h1
        · (refine g0_ ?_; repeat ((first | refine n1_ fun b_ => ?_ | refine n2_ fun b_ => ?_ | refine Nat1.mk fun q_ hq_ => ?_ | refine em_ fun x_ hx_ => ?_ | refine Elem1.mk fun e_ he_ => ?_); refine g0_ ?_))
          refine brec ?_; intro c_ h2; (try rw [h2]); cases c_ <;> replace h2 := nm_ h2
          · (refine g0_ ?_; repeat ((first | refine n1_ fun b_ => ?_ | refine n2_ fun b_ => ?_ | refine Nat1.mk fun q_ hq_ => ?_ | refine em_ fun x_ hx_ => ?_ | refine Elem1.mk fun e_ he_ => ?_); refine g0_ ?_))
            refine brec ?_; intro c_ h3; (try rw [h3]); cases c_ <;> replace h3 := nm_ h3
            · (refine g0_ ?_; repeat ((first | refine n1_ fun b_ => ?_ | refine n2_ fun b_ => ?_ | refine Nat1.mk fun q_ hq_ => ?_ | refine em_ fun x_ hx_ => ?_ | refine Elem1.mk fun e_ he_ => ?_); refine g0_ ?_))
              refine .of_eq (congrArg PV.bool ?_)
              rw [← hR, if_neg (by simp at h ⊢ <;> omega)]
              exact (decide_eq_false (by simp [gB_cons, gB_head, Lib.accLo, Lib.accHi] <;> omega)).symm
            · (refine g0_ ?_; repeat ((first | refine n1_ fun b_ => ?_ | refine n2_ fun b_ => ?_ | refine Nat1.mk fun q_ hq_ => ?_ | refine em_ fun x_ hx_ => ?_ | refine Elem1.mk fun e_ he_ => ?_); refine g0_ ?_))
              refine .of_eq (congrArg PV.bool ?_)
              rw [← hR, if_neg (by simp at h ⊢ <;> omega)]
              exact (decide_eq_true (by simp [gB_cons, gB_head, Lib.accLo, Lib.accHi] <;> omega)).symm
          · (refine g0_ ?_; repeat ((first | refine n1_ fun b_ => ?_ | refine n2_ fun b_ => ?_ | refine Nat1.mk fun q_ hq_ => ?_ | refine em_ fun x_ hx_ => ?_ | refine Elem1.mk fun e_ he_ => ?_); refine g0_ ?_))
            refine .of_eq (congrArg PV.bool ?_)
            rw [← hR, if_neg (by simp at h ⊢ <;> omega)]
            exact (decide_eq_true (by simp [gB_cons, gB_head, Lib.accLo, Lib.accHi] <;> omega)).symm
        · (refine g0_ ?_; repeat ((first | refine n1_ fun b_ => ?_ | refine n2_ fun b_ => ?_ | refine Nat1.mk fun q_ hq_ => ?_ | refine em_ fun x_ hx_ => ?_ | refine Elem1.mk fun e_ he_ => ?_); refine g0_ ?_))
          refine .of_eq (congrArg PV.bool ?_)
          rw [← hR, if_neg (by simp at h ⊢ <;> omega)]
          exact (decide_eq_true (by simp [gB_cons, gB_head, Lib.accLo, Lib.accHi] <;> omega)).symm
      exfalso; simp at h <;> omega
    · have ha := glob_acc W hT 4 (by omega)
      simp only [Lib.accLo, Lib.accHi, Nat.reduceEqDiff, if_true, if_false] at ha
      refine Pure.of (acalls_of_vc (drawOk W) Tryd.func23 rfl (by decide) (by decide) rfl ?_)
      (refine g0_ ?_; repeat ((first | refine n1_ fun b_ => ?_ | refine n2_ fun b_ => ?_ | refine Nat1.mk fun q_ hq_ => ?_ | refine em_ fun x_ hx_ => ?_ | refine Elem1.mk fun e_ he_ => ?_); refine g0_ ?_))
      refine ⟨_, hf, ?_⟩
      (refine g0_ ?_; repeat ((first | refine n1_ fun b_ => ?_ | refine n2_ fun b_ => ?_ | refine Nat1.mk fun q_ hq_ => ?_ | refine em_ fun x_ hx_ => ?_ | refine Elem1.mk fun e_ he_ => ?_); refine g0_ ?_))
      rw [show bitop .and .u8 ((68 : Nat) : Int) 7 = 4 by decide]
      (refine g0_ ?_; repeat ((first | refine n1_ fun b_ => ?_ | refine n2_ fun b_ => ?_ | refine Nat1.mk fun q_ hq_ => ?_ | refine em_ fun x_ hx_ => ?_ | refine Elem1.mk fun e_ he_ => ?_); refine g0_ ?_))
      refine brec ?_; intro c_ h; (try rw [h]); cases c_ <;> replace h := nm_ h
      rotate_left
      · (refine g0_ ?_; repeat ((first | refine n1_ fun b_ => ?_ | refine n2_ fun b_ => ?_ | refine Nat1.mk fun q_ hq_ => ?_ | refine em_ fun x_ hx_ => ?_ | refine Elem1.mk fun e_ he_ => ?_); refine g0_ ?_))
        exact .of_eq (by rw [← hR, if_pos (by omega)])
      (refine g0_ ?_; repeat ((first | refine n1_ fun b_ => ?_ | refine n2_ fun b_ => ?_ | refine Nat1.mk fun q_ hq_ => ?_ | refine em_ fun x_ hx_ => ?_ | refine Elem1.mk fun e_ he_ => ?_); refine g0_ ?_))
      refine need.mk (by decide) ?_
      refine ⟨_, ha, ?_⟩
      rcases s with _ | ⟨d, s⟩
      · (refine g0_ ?_; repeat ((first | refine n1_ fun b_ => ?_ | refine n2_ fun b_ => ?_ | refine Nat1.mk fun q_ hq_ => ?_ | refine em_ fun x_ hx_ => ?_ | refine Elem1.mk fun e_ he_ => ?_); refine g0_ ?_))
        refine head_ ?_; (refine g0_ ?_; repeat ((first | refine n1_ fun b_ => ?_ | refine n2_ fun b_ => ?_ | refine Nat1.mk fun q_ hq_ => ?_ | refine em_ fun x_ hx_ => ?_ | refine Elem1.mk fun e_ he_ => ?_); refine g0_ ?_))
        (refine g0_ ?_; repeat ((first | refine n1_ fun b_ => ?_ | refine n2_ fun b_ => ?_ | refine Nat1.mk fun q_ hq_ => ?_ | refine em_ fun x_ hx_ => ?_ | refine Elem1.mk fun e_ he_ => ?_); refine g0_ ?_))
        refine .of_eq (congrArg PV.bool ?_)
        rw [← hR, if_neg (by simp at h ⊢ <;> omega)]
        exact (decide_eq_false (by simp [gB_cons, gB_head, Lib.accLo, Lib.accHi] <;> omega)).symm
      rcases s with _ | ⟨e, s⟩
      · (refine g0_ ?_; repeat ((first | refine n1_ fun b_ => ?_ | refine n2_ fun b_ => ?_ | refine Nat1.mk fun q_ hq_ => ?_ | refine em_ fun x_ hx_ => ?_ | refine Elem1.mk fun e_ he_ => ?_); refine g0_ ?_))
        refine head_ ?_; (refine g0_ ?_; repeat ((first | refine n1_ fun b_ => ?_ | refine n2_ fun b_ => ?_ | refine Nat1.mk fun q_ hq_ => ?_ | refine em_ fun x_ hx_ => ?_ | refine Elem1.mk fun e_ he_ => ?_); refine g0_ ?_))
        (refine g0_ ?_; repeat ((first | refine n1_ fun b_ => ?_ | refine n2_ fun b_ => ?_ | refine Nat1.mk fun q_ hq_ => ?_ | refine em_ fun x_ hx_ => ?_ | refine Elem1.mk fun e_ he_ => ?_); refine g0_ ?_))
        refine brec ?_; intro c_ h1; (try rw [h1]); cases c_ <;> replace h1 := nm_ h1
        · (refine g0_ ?_; repeat ((first | refine n1_ fun b_ => ?_ | refine n2_ fun b_ => ?_ | refine Nat1.mk fun q_ hq_ => ?_ | refine em_ fun x_ hx_ => ?_ | refine Elem1.mk fun e_ he_ => ?_); refine g0_ ?_))
          refine brec ?_; intro c_ h2; (try rw [h2]); cases c_ <;> replace h2 := nm_ h2
          · (refine g0_ ?_; repeat ((first | refine n1_ fun b_ => ?_ | refine n2_ fun b_ => ?_ | refine Nat1.mk fun q_ hq_ => ?_ | refine em_ fun x_ hx_ => ?_ | refine Elem1.mk fun e_ he_ => ?_); refine g0_ ?_))
            refine .of_eq (congrArg PV.bool ?_)
            rw [← hR, if_neg (by simp at h ⊢ <;> omega)]
            exact (decide_eq_false (by simp [gB_cons, gB_head, Lib.accLo, Lib.accHi] <;> omega)).symm
          · (refine g0_ ?_; repeat ((first | refine n1_ fun b_ => ?_ | refine n2_ fun b_ => ?_ | refine Nat1.mk fun q_ hq_ => ?_ | refine em_ fun x_ hx_ => ?_ | refine Elem1.mk fun e_ he_ => ?_); refine g0_ ?_))
            refine .of_eq (congrArg PV.bool ?_)
            rw [← hR, if_neg (by simp at h ⊢ <;> omega)]
            exact (decide_eq_true (by simp [gB_cons, gB_head, Lib.accLo, Lib.accHi] <;> omega)).symm
        · (refine g0_ ?_; repeat ((first | refine n1_ fun b_ => ?_ | refine n2_ fun b_ => ?_ | refine Nat1.mk fun q_ hq_ => ?_ | refine em_ fun x_ hx_ => ?_ | refine Elem1.mk fun e_ he_ => ?_); refine g0_ ?_))
          refine .of_eq (congrArg PV.bool ?_)
          rw [← hR, if_neg (by simp at h ⊢ <;> omega)]
          exact (decide_eq_true (by simp [gB_cons, gB_head, Lib.accLo, Lib.accHi] <;> omega)).symm
      rcases s with _ | ⟨f, s⟩
      · (refine g0_ ?_; repeat ((first | refine n1_ fun b_ => ?_ | refine n2_ fun b_ => ?_ | refine Nat1.mk fun q_ hq_ => ?_ | refine em_ fun x_ hx_ => ?_ | refine Elem1.mk fun e_ he_ => ?_); refine g0_ ?_))
        refine head_ ?_; (refine g0_ ?_; repeat ((first | refine n1_ fun b_ => ?_ | refine n2_ fun b_ => ?_ | refine Nat1.mk fun q_ hq_ => ?_ | refine em_ fun x_ hx_ => ?_ | refine Elem1.mk fun e_ he_ => ?_); refine g0_ ?_))
        (refine g0_ ?_; repeat ((first | refine n1_ fun b_ => ?_ | refine n2_ fun b_ => ?_ | refine Nat1.mk fun q_ hq_ => ?_ | refine em_ fun x_ hx_ => ?_ | refine Elem1.mk fun e_ he_ => ?_); refine g0_ ?_))
        refine brec ?_; intro c_ h1; (try rw [h1]); cases c_ <;> replace h1 := nm_ h1
        · (refine g0_ ?_; repeat ((first | refine n1_ fun b_ => ?_ | refine n2_ fun b_ => ?_ | refine Nat1.mk fun q_ hq_ => ?_ | refine em_ fun x_ hx_ => ?_ | refine Elem1.mk fun e_ he_ => ?_); refine g0_ ?_))
          refine brec ?_; intro c_ h2; (try rw [h2]); cases c_ <;> replace h2 := nm_ h2
          · (refine g0_ ?_; repeat ((first | refine n1_ fun b_ => ?_ | refine n2_ fun b_ => ?_ | refine Nat1.mk fun q_ hq_ => ?_ | refine em_ fun x_ hx_ => ?_ | refine Elem1.mk fun e_ he_ => ?_); refine g0_ ?_))
            refine brec ?_; intro c_ h3; (try rw [h3]); cases c_ <;> replace h3 := nm_ h3
            · (refine g0_ ?_; repeat ((first | refine n1_ fun b_ => ?_ | refine n2_ fun b_ => ?_ | refine Nat1.mk fun q_ hq_ => ?_ | refine em_ fun x_ hx_ => ?_ | refine Elem1.mk fun e_ he_ => ?_); refine g0_ ?_))
              refine .of_eq (congrArg PV.bool ?_)
              rw [← hR, if_neg (by simp at h ⊢ <;> omega)]
              exact (decide_eq_false (by simp [gB_cons, gB_head, Lib.accLo, Lib.accHi] <;> omega)).symm
            · (refine g0_ ?_; repeat ((first | refine n1_ fun b_ => ?_ | refine n2_ fun b_ => ?_ | refine Nat1.mk fun q_ hq_ => ?_ | refine em_ fun x_ hx_ => ?_ | refine Elem1.mk fun e_ he_ => ?_); refine g0_ ?_))
              refine .of_eq (congrArg PV.bool ?_)
              rw [← hR, if_neg (by simp at h ⊢ <;> omega)]
              exact (decide_eq_true (by simp [gB_cons, gB_head, Lib.accLo, Lib.accHi] <;> omega)).symm
          · (refine g0_ ?_; repeat ((first | refine n1_ fun b_ => ?_ | refine n2_ fun b_ => ?_ | refine Nat1.mk fun q_ hq_ => ?_ | refine em_ fun x_ hx_ => ?_ | refine Elem1.mk fun e_ he_ => ?_); refine g0_ ?_))
            refine .of_eq (congrArg PV.bool ?_)
            rw [← hR, if_neg (by simp at h ⊢ <;> omega)]
            exact (decide_eq_true (by simp [gB_cons, gB_head, Lib.accLo, Lib.accHi] <;> omega)).symm
        · (refine g0_ ?_; repeat ((first | refine n1_ fun b_ => ?_ | refine n2_ fun b_ => ?_ | refine Nat1.mk fun q_ hq_ => ?_ | refine em_ fun x_ hx_ => ?_ | refine Elem1.mk fun e_ he_ => ?_); refine g0_ ?_))
          refine .of_eq (congrArg PV.bool ?_)
          rw [← hR, if_neg (by simp at h ⊢ <;> omega)]
          exact (decide_eq_true (by simp [gB_cons, gB_head, Lib.accLo, Lib.accHi] <;> omega)).symm
      exfalso; simp at h <;> omega
end Go.Eng.YtkcldifniomfoaaDoor
end

/- The reader of escape sequences: parse.Check in full (b_ x_ q_ e_). -/
section
namespace Go.Eng.YtkcldifniomfoaaDoor
open Go Go.Eng Go.Proofs
variable (W : World)
set_option linter.unusedSimpArgs false
set_option maxRecDepth 100000
set_option linter.unusedVariables false
set_option maxHeartbeats 8000000
def midP (m : List UInt8) (i : Nat) : Bool := decide (m.length ≤ 2) && (m.take i).all (fun c => decide (32 ≤ c.toNat) && decide (c.toNat < 48))
theorem midP_zero (m : List UInt8) : midP m 0 = decide (m.length ≤ 2) := by simp [midP]
theorem midP_succ {m : List UInt8} {i : Nat} {c : UInt8} (h : m[i]? = some c) : midP m (i + 1) = ((midP m i && decide ((32 : Int) ≤ c.toNat)) && decide ((c.toNat : Int) < 48)) := by
  rw [midP, midP, List.take_add_one, h, List.all_append]
  simp only [Option.toList, List.all_cons, List.all_nil, Bool.and_true, Bool.and_assoc]
  congr 3
  · rw [decide_eq_decide]; omega
  · rw [decide_eq_decide]; omega
theorem midP_all (m : List UInt8) : midP m m.length = decide (midOk m) := by
  rw [midP, List.take_length, Bool.eq_iff_iff, decide_eq_true_iff]
  simp only [midOk, Bool.and_eq_true, decide_eq_true_eq, List.all_eq_true]
def txtP (m : List UInt8) (i : Nat) : Bool := decide (m.length ≤ 64) && (m.take i).all (fun c => decide (32 ≤ c.toNat))
theorem txtP_zero (m : List UInt8) : txtP m 0 = decide (m.length ≤ 64) := by simp [txtP]
theorem txtP_succ {m : List UInt8} {i : Nat} {c : UInt8} (h : m[i]? = some c) : txtP m (i + 1) = (txtP m i && decide ((32 : Int) ≤ c.toNat)) := by
  rw [txtP, txtP, List.take_add_one, h, List.all_append]
  simp only [Option.toList, List.all_cons, List.all_nil, Bool.and_true, Bool.and_assoc]
  congr 2
  rw [decide_eq_decide]; omega
theorem txtP_all (m : List UInt8) : txtP m m.length = decide (m.length ≤ 64 ∧ ∀ c ∈ m, 32 ≤ c.toNat) := by
  rw [txtP, List.take_length, Bool.eq_iff_iff]
  simp only [Bool.and_eq_true, decide_eq_true_eq, List.all_eq_true]
theorem m0_iff (m : UInt8) : m.toNat = 0 ↔ m = 0 := by rw [← UInt8.toNat_inj]; rfl
theorem pcheck_any (hT : Tabs W) (s : PSt) (h1 : s.middle.length ≤ 4611686018427387904) (h2 : s.text.length ≤ 4611686018427387904) (hr : ∀ n ∈ s.params, -9223372036854775808 ≤ n ∧ n ≤ 9223372036854775807) (h3 : s.params.length ≤ 4611686018427387904) :
    Pure Tryd.prog W 12 [encSt s] (.bool (decide s.ok)) := by
  have hpl := fun ok => plain_ok W ok s
  have hcb := contains_big W s.params
  generalize hR : decide s.ok = R
  obtain ⟨a, m, mi, p, t, l, la⟩ := s
  simp only [encSt, stV, encInts] at *
  refine Pure.of (acalls_of_vc (drawOk W) Tryd.func12 rfl (by decide) (by decide) rfl ?_)
  (refine g0_ ?_; repeat ((first | refine n1_ fun b_ => ?_ | refine n2_ fun b_ => ?_ | refine Nat1.mk fun q_ hq_ => ?_ | refine em_ fun x_ hx_ => ?_ | refine Elem1.mk fun e_ he_ => ?_); refine g0_ ?_))
  refine' loopI (α := Nat × Bool) (fun (i, g) => [(17, .int .i64 i), (4, .bool g)]) [(1, _), (3, _), (16, _)] (fun (i, g) => [⟨b_, .row 7 [.agg [.int .i64 a, .int .u8 m.toNat, .str mi, .sl 1 (p.map (PV.int .i64)), .str t, .str l, .bool la]] 0⟩]) (fun (i, g) => i ≤ mi.length ∧ g = midP mi i) (fun (i, g) => mi.length - i) (0, decide ((mi.length : Int) ≤ 2)) ?_ ?_
  · refine ⟨Nat.zero_le _, ?_⟩
    rw [midP_zero, decide_eq_decide]; omega
  rintro ⟨i, g⟩ ⟨hi, hg⟩
  (refine g0_ ?_; repeat ((first | refine n1_ fun b_ => ?_ | refine n2_ fun b_ => ?_ | refine Nat1.mk fun q_ hq_ => ?_ | refine em_ fun x_ hx_ => ?_ | refine Elem1.mk fun e_ he_ => ?_); refine g0_ ?_))
  refine brec ?_; intro c_ h; (try rw [h]); cases c_ <;> replace h := nm_ h
  · have hil : i = mi.length := by omega
    rw [hil, midP_all] at hg
    subst hg
    have hF1 := full_ok W hT l
    by_cases h0 : a = 0
    · subst h0
      have hk : PSt.ok ⟨0, m, mi, p, t, l, la⟩ ↔ (l = [] ∨ (128 ≤ gB l 0 ∧ fullL l = false)) ∧ t = [] ∧ la = false ∧ p = [] ∧ m = 0 ∧ mi = [] := by simp [PSt.ok]
      rcases l with _ | ⟨c, l⟩
      · (refine g0_ ?_; repeat ((first | refine n1_ fun b_ => ?_ | refine n2_ fun b_ => ?_ | refine Nat1.mk fun q_ hq_ => ?_ | refine em_ fun x_ hx_ => ?_ | refine Elem1.mk fun e_ he_ => ?_); refine g0_ ?_))
        refine (hpl _).use ?_; (refine g0_ ?_; repeat ((first | refine n1_ fun b_ => ?_ | refine n2_ fun b_ => ?_ | refine Nat1.mk fun q_ hq_ => ?_ | refine em_ fun x_ hx_ => ?_ | refine Elem1.mk fun e_ he_ => ?_); refine g0_ ?_))
        (refine g0_ ?_; repeat ((first | refine n1_ fun b_ => ?_ | refine n2_ fun b_ => ?_ | refine Nat1.mk fun q_ hq_ => ?_ | refine em_ fun x_ hx_ => ?_ | refine Elem1.mk fun e_ he_ => ?_); refine g0_ ?_))
        refine .of_eq (congrArg PV.bool ?_)
        rw [← hR, Bool.eq_iff_iff, decide_eq_true_iff, hk]
        simp [m0_iff, and_assoc, and_left_comm, and_comm]
        try omega
      · rw [gB_head] at hk
        (refine g0_ ?_; repeat ((first | refine n1_ fun b_ => ?_ | refine n2_ fun b_ => ?_ | refine Nat1.mk fun q_ hq_ => ?_ | refine em_ fun x_ hx_ => ?_ | refine Elem1.mk fun e_ he_ => ?_); refine g0_ ?_))
        refine brec ?_; intro c_ hc; (try rw [hc]); cases c_ <;> replace hc := nm_ hc
        · (refine g0_ ?_; repeat ((first | refine n1_ fun b_ => ?_ | refine n2_ fun b_ => ?_ | refine Nat1.mk fun q_ hq_ => ?_ | refine em_ fun x_ hx_ => ?_ | refine Elem1.mk fun e_ he_ => ?_); refine g0_ ?_))
          refine (hpl _).use ?_; (refine g0_ ?_; repeat ((first | refine n1_ fun b_ => ?_ | refine n2_ fun b_ => ?_ | refine Nat1.mk fun q_ hq_ => ?_ | refine em_ fun x_ hx_ => ?_ | refine Elem1.mk fun e_ he_ => ?_); refine g0_ ?_))
          (refine g0_ ?_; repeat ((first | refine n1_ fun b_ => ?_ | refine n2_ fun b_ => ?_ | refine Nat1.mk fun q_ hq_ => ?_ | refine em_ fun x_ hx_ => ?_ | refine Elem1.mk fun e_ he_ => ?_); refine g0_ ?_))
          refine .of_eq (congrArg PV.bool ?_)
          rw [← hR, Bool.eq_iff_iff, decide_eq_true_iff, hk]
          simp [m0_iff, and_assoc, and_left_comm, and_comm]
          try omega
        · (refine g0_ ?_; repeat ((first | refine n1_ fun b_ => ?_ | refine n2_ fun b_ => ?_ | refine Nat1.mk fun q_ hq_ => ?_ | refine em_ fun x_ hx_ => ?_ | refine Elem1.mk fun e_ he_ => ?_); refine g0_ ?_))
          refine (hF1).use ?_; (refine g0_ ?_; repeat ((first | refine n1_ fun b_ => ?_ | refine n2_ fun b_ => ?_ | refine Nat1.mk fun q_ hq_ => ?_ | refine em_ fun x_ hx_ => ?_ | refine Elem1.mk fun e_ he_ => ?_); refine g0_ ?_))
          (refine g0_ ?_; repeat ((first | refine n1_ fun b_ => ?_ | refine n2_ fun b_ => ?_ | refine Nat1.mk fun q_ hq_ => ?_ | refine em_ fun x_ hx_ => ?_ | refine Elem1.mk fun e_ he_ => ?_); refine g0_ ?_))
          refine (hpl _).use ?_; (refine g0_ ?_; repeat ((first | refine n1_ fun b_ => ?_ | refine n2_ fun b_ => ?_ | refine Nat1.mk fun q_ hq_ => ?_ | refine em_ fun x_ hx_ => ?_ | refine Elem1.mk fun e_ he_ => ?_); refine g0_ ?_))
          (refine g0_ ?_; repeat ((first | refine n1_ fun b_ => ?_ | refine n2_ fun b_ => ?_ | refine Nat1.mk fun q_ hq_ => ?_ | refine em_ fun x_ hx_ => ?_ | refine Elem1.mk fun e_ he_ => ?_); refine g0_ ?_))
          refine .of_eq (congrArg PV.bool ?_)
          rw [← hR, Bool.eq_iff_iff, decide_eq_true_iff, hk]
          simp [m0_iff, and_assoc, and_left_comm, and_comm]
          try omega
    by_cases h1 : a = 1 ∨ a = 5
    · have hk : PSt.ok ⟨a, m, mi, p, t, l, la⟩ ↔ l = [] ∧ t = [] ∧ la = false ∧ p = [] ∧ m = 0 ∧ mi = [] := by rcases h1 with rfl | rfl <;> simp [PSt.ok]
      rcases h1 with rfl | rfl
      all_goals
        (refine g0_ ?_; repeat ((first | refine n1_ fun b_ => ?_ | refine n2_ fun b_ => ?_ | refine Nat1.mk fun q_ hq_ => ?_ | refine em_ fun x_ hx_ => ?_ | refine Elem1.mk fun e_ he_ => ?_); refine g0_ ?_))
        refine (hpl _).use ?_; (refine g0_ ?_; repeat ((first | refine n1_ fun b_ => ?_ | refine n2_ fun b_ => ?_ | refine Nat1.mk fun q_ hq_ => ?_ | refine em_ fun x_ hx_ => ?_ | refine Elem1.mk fun e_ he_ => ?_); refine g0_ ?_))
        (refine g0_ ?_; repeat ((first | refine n1_ fun b_ => ?_ | refine n2_ fun b_ => ?_ | refine Nat1.mk fun q_ hq_ => ?_ | refine em_ fun x_ hx_ => ?_ | refine Elem1.mk fun e_ he_ => ?_); refine g0_ ?_))
        refine .of_eq (congrArg PV.bool ?_)
        rw [← hR, Bool.eq_iff_iff, decide_eq_true_iff, hk]
        simp [m0_iff, and_assoc, and_left_comm, and_comm]
        try omega
    by_cases h2 : a = 2
    · subst h2
      have hk : PSt.ok ⟨2, m, mi, p, t, l, la⟩ ↔ midOk mi ∧ mi ≠ [] ∧ p = [] ∧ m = 0 ∧ l = [] ∧ t = [] ∧ la = false := by simp [PSt.ok]
      (refine g0_ ?_; repeat ((first | refine n1_ fun b_ => ?_ | refine n2_ fun b_ => ?_ | refine Nat1.mk fun q_ hq_ => ?_ | refine em_ fun x_ hx_ => ?_ | refine Elem1.mk fun e_ he_ => ?_); refine g0_ ?_))
      refine .of_eq (congrArg PV.bool ?_)
      rw [← hR, Bool.eq_iff_iff, decide_eq_true_iff, hk]
      simp [m0_iff, and_assoc, and_left_comm, and_comm]
      try omega
    by_cases h3 : a = 3
    · subst h3
      have hk : PSt.ok ⟨3, m, mi, p, t, l, la⟩ ↔ midOk mi ∧ p.length ≤ 16 ∧ (m = 0 ∨ (60 ≤ m.toNat ∧ m.toNat ≤ 63)) ∧ l = [] ∧ t = [] ∧ la = false ∧ ∀ n ∈ p, -1 ≤ n ∧ n ≤ 9999 := by simp [PSt.ok]
      (refine g0_ ?_; repeat ((first | refine n1_ fun b_ => ?_ | refine n2_ fun b_ => ?_ | refine Nat1.mk fun q_ hq_ => ?_ | refine em_ fun x_ hx_ => ?_ | refine Elem1.mk fun e_ he_ => ?_); refine g0_ ?_))
      refine brec ?_; intro c_ h5; (try rw [h5]); cases c_ <;> replace h5 := nm_ h5
      · (refine g0_ ?_; repeat ((first | refine n1_ fun b_ => ?_ | refine n2_ fun b_ => ?_ | refine Nat1.mk fun q_ hq_ => ?_ | refine em_ fun x_ hx_ => ?_ | refine Elem1.mk fun e_ he_ => ?_); refine g0_ ?_))
        refine .of_eq (congrArg PV.bool ?_)
        rw [← hR]
        refine (decide_eq_false fun ho => h5 ?_).symm
        obtain ⟨o1, o2, o3, o4, o5, o6, -⟩ := hk.1 ho
        rw [List.length_map]
        refine ⟨⟨⟨⟨⟨o1, by omega⟩, ?_⟩, o4⟩, o5⟩, o6⟩
        rcases o3 with o3 | o3
        · left; rw [o3]; rfl
        · right; omega
      · rw [List.length_map] at h5
        obtain ⟨⟨⟨⟨⟨o1, o2⟩, o3⟩, o4⟩, o5⟩, o6⟩ := h5
        have hcb1 := hcb (by omega) hr
        (refine g0_ ?_; repeat ((first | refine n1_ fun b_ => ?_ | refine n2_ fun b_ => ?_ | refine Nat1.mk fun q_ hq_ => ?_ | refine em_ fun x_ hx_ => ?_ | refine Elem1.mk fun e_ he_ => ?_); refine g0_ ?_))
        refine (hcb1).use ?_; (refine g0_ ?_; repeat ((first | refine n1_ fun b_ => ?_ | refine n2_ fun b_ => ?_ | refine Nat1.mk fun q_ hq_ => ?_ | refine em_ fun x_ hx_ => ?_ | refine Elem1.mk fun e_ he_ => ?_); refine g0_ ?_))
        (refine g0_ ?_; repeat ((first | refine n1_ fun b_ => ?_ | refine n2_ fun b_ => ?_ | refine Nat1.mk fun q_ hq_ => ?_ | refine em_ fun x_ hx_ => ?_ | refine Elem1.mk fun e_ he_ => ?_); refine g0_ ?_))
        refine .of_eq (congrArg PV.bool ?_)
        rw [← hR]
        by_cases hb : 0 ≤ bigAt 0 p
        · rw [decide_eq_true hb]
          refine (decide_eq_false fun ho => ?_).symm
          obtain ⟨n, hn, h⟩ := (bigAt_iff p 0).1 hb
          have := (hk.1 ho).2.2.2.2.2.2 n hn
          omega
        · rw [decide_eq_false hb]
          refine (decide_eq_true (hk.2 ⟨o1, by omega, ?_, o4, o5, o6, fun n hn => ?_⟩)).symm
          · rcases o3 with o3 | o3
            · left; exact (m0_iff m).1 (by omega)
            · right; omega
          · refine Decidable.byContradiction fun hc => hb ((bigAt_iff p 0).2 ⟨n, hn, ?_⟩)
            omega
    by_cases h4 : a = 4
    · subst h4
      have hk : PSt.ok ⟨4, m, mi, p, t, l, la⟩ ↔ (t.length ≤ 64 ∧ ∀ c ∈ t, 32 ≤ c.toNat) ∧ l = [] ∧ p = [] ∧ m = 0 ∧ mi = [] := by simp [PSt.ok, and_assoc]
      (refine g0_ ?_; repeat ((first | refine n1_ fun b_ => ?_ | refine n2_ fun b_ => ?_ | refine Nat1.mk fun q_ hq_ => ?_ | refine em_ fun x_ hx_ => ?_ | refine Elem1.mk fun e_ he_ => ?_); refine g0_ ?_))
      refine' loopI (α := Nat × Bool) (fun (j, g) => [(177, .int .i64 j), (8, .bool g)]) [(1, _), (3, _), (176, _)] (fun (j, g) => [⟨b_, .row 7 [.agg [.int .i64 4, .int .u8 m.toNat, .str mi, .sl 1 (p.map (PV.int .i64)), .str t, .str l, .bool la]] 0⟩]) (fun (j, g) => j ≤ t.length ∧ g = txtP t j) (fun (j, g) => t.length - j) (0, decide ((t.length : Int) ≤ 64)) ?_ ?_
      · refine ⟨Nat.zero_le _, ?_⟩
        rw [txtP_zero, decide_eq_decide]; omega
      rintro ⟨j, g⟩ ⟨hj, hg⟩
      (refine g0_ ?_; repeat ((first | refine n1_ fun b_ => ?_ | refine n2_ fun b_ => ?_ | refine Nat1.mk fun q_ hq_ => ?_ | refine em_ fun x_ hx_ => ?_ | refine Elem1.mk fun e_ he_ => ?_); refine g0_ ?_))
      refine brec ?_; intro c_ h5; (try rw [h5]); cases c_ <;> replace h5 := nm_ h5
      · have hjl : j = t.length := by omega
        rw [hjl, txtP_all] at hg
        subst hg
        (refine g0_ ?_; repeat ((first | refine n1_ fun b_ => ?_ | refine n2_ fun b_ => ?_ | refine Nat1.mk fun q_ hq_ => ?_ | refine em_ fun x_ hx_ => ?_ | refine Elem1.mk fun e_ he_ => ?_); refine g0_ ?_))
        refine (hpl _).use ?_; (refine g0_ ?_; repeat ((first | refine n1_ fun b_ => ?_ | refine n2_ fun b_ => ?_ | refine Nat1.mk fun q_ hq_ => ?_ | refine em_ fun x_ hx_ => ?_ | refine Elem1.mk fun e_ he_ => ?_); refine g0_ ?_))
        (refine g0_ ?_; repeat ((first | refine n1_ fun b_ => ?_ | refine n2_ fun b_ => ?_ | refine Nat1.mk fun q_ hq_ => ?_ | refine em_ fun x_ hx_ => ?_ | refine Elem1.mk fun e_ he_ => ?_); refine g0_ ?_))
        refine .of_eq (congrArg PV.bool ?_)
        rw [← hR, Bool.eq_iff_iff, decide_eq_true_iff, hk]
        simp [m0_iff, and_assoc, and_left_comm, and_comm]
        try omega
      · have hjl : j < t.length := by omega
        obtain ⟨c, hc⟩ : ∃ c, t[j]? = some c := ⟨t[j], List.getElem?_eq_getElem hjl⟩
        have hs := txtP_succ hc
        rw [← hg] at hs
        cases g with
        | false =>
          (refine g0_ ?_; repeat ((first | refine n1_ fun b_ => ?_ | refine n2_ fun b_ => ?_ | refine Nat1.mk fun q_ hq_ => ?_ | refine em_ fun x_ hx_ => ?_ | refine Elem1.mk fun e_ he_ => ?_); refine g0_ ?_))
          refine nx_ (j + 1, false) ?_ ?_
          · exact ⟨by omega, hs.symm⟩
          · ((try dsimp only); (try simp only [List.length_drop, List.length_take, List.length_append, List.length_cons, List.length_nil, List.length_map] at *); omega)
        | true =>
          (refine g0_ ?_; repeat ((first | refine n1_ fun b_ => ?_ | refine n2_ fun b_ => ?_ | refine Nat1.mk fun q_ hq_ => ?_ | refine em_ fun x_ hx_ => ?_ | refine Elem1.mk fun e_ he_ => ?_); refine g0_ ?_))
          rw [hc] at he_
          obtain rfl := Option.some.inj he_
          refine nx_ (j + 1, decide ((32 : Int) ≤ c.toNat)) ?_ ?_
          · refine ⟨by omega, ?_⟩
            rw [hs]; simp
          · ((try dsimp only); (try simp only [List.length_drop, List.length_take, List.length_append, List.length_cons, List.length_nil, List.length_map] at *); omega)
    · have hk : ¬ PSt.ok ⟨a, m, mi, p, t, l, la⟩ := by simp [PSt.ok]; omega
      (refine g0_ ?_; repeat ((first | refine n1_ fun b_ => ?_ | refine n2_ fun b_ => ?_ | refine Nat1.mk fun q_ hq_ => ?_ | refine em_ fun x_ hx_ => ?_ | refine Elem1.mk fun e_ he_ => ?_); refine g0_ ?_))
      (refine g1_ ?_; repeat ((first | refine n1_ fun b_ => ?_ | refine n2_ fun b_ => ?_ | refine Nat1.mk fun q_ hq_ => ?_ | refine em_ fun x_ hx_ => ?_ | refine Elem1.mk fun e_ he_ => ?_); refine g1_ ?_))
      rw [decide_eq_false hk] at hR
      exact .of_eq (by rw [← hR])
  · have hil : i < mi.length := by omega
    obtain ⟨c, hc⟩ : ∃ c, mi[i]? = some c := ⟨mi[i], List.getElem?_eq_getElem hil⟩
    have hs := midP_succ hc
    rw [← hg] at hs
    cases g with
    | false =>
      (refine g0_ ?_; repeat ((first | refine n1_ fun b_ => ?_ | refine n2_ fun b_ => ?_ | refine Nat1.mk fun q_ hq_ => ?_ | refine em_ fun x_ hx_ => ?_ | refine Elem1.mk fun e_ he_ => ?_); refine g0_ ?_))
      refine nx_ (i + 1, false) ?_ ?_
      · exact ⟨by omega, hs.symm⟩
      · ((try dsimp only); (try simp only [List.length_drop, List.length_take, List.length_append, List.length_cons, List.length_nil, List.length_map] at *); omega)
    | true =>
      (refine g0_ ?_; repeat ((first | refine n1_ fun b_ => ?_ | refine n2_ fun b_ => ?_ | refine Nat1.mk fun q_ hq_ => ?_ | refine em_ fun x_ hx_ => ?_ | refine Elem1.mk fun e_ he_ => ?_); refine g0_ ?_))
      rw [hc] at he_
      obtain rfl := Option.some.inj he_
      refine brec ?_; intro c_ h5; (try rw [h5]); cases c_ <;> replace h5 := nm_ h5
      · (refine g0_ ?_; repeat ((first | refine n1_ fun b_ => ?_ | refine n2_ fun b_ => ?_ | refine Nat1.mk fun q_ hq_ => ?_ | refine em_ fun x_ hx_ => ?_ | refine Elem1.mk fun e_ he_ => ?_); refine g0_ ?_))
        refine nx_ (i + 1, false) ?_ ?_
        · refine ⟨by omega, ?_⟩
          rw [hs]; simp; omega
        · ((try dsimp only); (try simp only [List.length_drop, List.length_take, List.length_append, List.length_cons, List.length_nil, List.length_map] at *); omega)
      · (refine g0_ ?_; repeat ((first | refine n1_ fun b_ => ?_ | refine n2_ fun b_ => ?_ | refine Nat1.mk fun q_ hq_ => ?_ | refine em_ fun x_ hx_ => ?_ | refine Elem1.mk fun e_ he_ => ?_); refine g0_ ?_))
        rw [hc] at he_
        obtain rfl := Option.some.inj he_
        refine nx_ (i + 1, decide ((c.toNat : Int) < 48)) ?_ ?_
        · refine ⟨by omega, ?_⟩
          rw [hs]; simp; omega
        · ((try dsimp only); (try simp only [List.length_drop, List.length_take, List.length_append, List.length_cons, List.length_nil, List.length_map] at *); omega)
/-- A state as it may come: nothing in it is longer than can be. -/
structure PSt.fair (s : PSt) : Prop where
  mid : s.middle.length ≤ 4611686018427387904
  txt : s.text.length ≤ 4611686018427387904
  lft : s.left.length ≤ 4611686018427387904
  par : s.params.length ≤ 4611686018427387904
  num : ∀ n ∈ s.params, -9223372036854775808 ≤ n ∧ n ≤ 9223372036854775807
  at_lo : -9223372036854775808 ≤ s.at_
  at_hi : s.at_ ≤ 9223372036854775807
theorem pcheck_ok (hT : Tabs W) (s : PSt) (h : s.fair) : Pure Tryd.prog W 12 [encSt s] (.bool (decide s.ok)) := pcheck_any W hT s h.mid h.txt h.num h.par
theorem ok_fair {s : PSt} (h : s.ok) : s.fair := by
  rcases h with ⟨h0, hl, h2, h3, h4, h5, h6⟩ | ⟨h0, h1, h2, h3, h4, h5, h6⟩ | ⟨h0, h1, h2, h3, h4, h5, h6, h7⟩ | ⟨h0, h1, h2, h3, h4, h5, h6, h7⟩ | ⟨h0, h1, h2, h3, h4, h5, h6⟩
  · have hll : s.left.length ≤ 4611686018427387904 := by
      rcases hl with h | h
      · rw [h]; decide
      · by_cases hne : s.left = []
        · rw [hne]; decide
        · have := (part_spec hne h.2).1; omega
    exact ⟨by rw [h6]; decide, by rw [h2]; decide, hll, by rw [h4]; decide, (by rw [h4]; intro n hn; cases hn), by omega, by omega⟩
  · exact ⟨by rw [h6]; decide, by rw [h2]; decide, by rw [h1]; decide, by rw [h4]; decide, (by rw [h4]; intro n hn; cases hn), by omega, by omega⟩
  · have := h1.1
    exact ⟨by omega, by rw [h6]; decide, by rw [h5]; decide, by rw [h3]; decide, (by rw [h3]; intro n hn; cases hn), by omega, by omega⟩
  · have := h1.1
    exact ⟨by omega, by rw [h5]; decide, by rw [h4]; decide, by omega, fun n hn => by have := h7 n hn; omega, by omega, by omega⟩
  · exact ⟨by rw [h6]; decide, by omega, by rw [h3]; decide, by rw [h4]; decide, (by rw [h4]; intro n hn; cases hn), by omega, by omega⟩
theorem pcheck_right (hT : Tabs W) (s : PSt) (h : s.ok) : Pure Tryd.prog W 12 [encSt s] (.bool true) := by
  have := pcheck_ok W hT s (ok_fair h)
  rwa [decide_eq_true h] at this
end Go.Eng.YtkcldifniomfoaaDoor
end

/- The reader of escape sequences: when two states, two events, two lists of events are the same (b_ x_ q_ e_). -/
section
namespace Go.Eng.YtkcldifniomfoaaDoor
open Go Go.Eng Go.Proofs
variable (W : World)
set_option linter.unusedSimpArgs false
set_option maxRecDepth 100000
set_option linter.unusedVariables false
set_option maxHeartbeats 8000000
def encEvs (l : List PEv) : PV := .sl 7 (l.map encEv)
theorem ev_eq (a b : PEv) : a = b ↔ a.kind = b.kind ∧ a.r = b.r ∧ a.final = b.final ∧ a.mark = b.mark ∧ a.middle = b.middle ∧ a.text = b.text ∧ a.params = b.params := by
  constructor
  · rintro rfl; simp
  · obtain ⟨a1, a2, a3, a4, a5, a6, a7⟩ := a
    obtain ⟨b1, b2, b3, b4, b5, b6, b7⟩ := b
    rintro ⟨h1, h2, h3, h4, h5, h6, h7⟩
    dsimp only at *
    subst h1 h2 h3 h4 h5 h6 h7
    rfl
theorem st_eq (a b : PSt) : a = b ↔ a.at_ = b.at_ ∧ a.mark = b.mark ∧ a.middle = b.middle ∧ a.params = b.params ∧ a.text = b.text ∧ a.left = b.left ∧ a.late = b.late := by
  constructor
  · rintro rfl; simp
  · obtain ⟨a1, a2, a3, a4, a5, a6, a7⟩ := a
    obtain ⟨b1, b2, b3, b4, b5, b6, b7⟩ := b
    rintro ⟨h1, h2, h3, h4, h5, h6, h7⟩
    dsimp only at *
    subst h1 h2 h3 h4 h5 h6 h7
    rfl
theorem u8_iff (a b : UInt8) : (a.toNat : Int) = b.toNat ↔ a = b := by
  rw [← UInt8.toNat_inj]; omega
theorem sameEvent_ok (x y : PEv) (hl : x.params.length ≤ 4611686018427387904) : Pure Tryd.prog W 11 [encEv x, encEv y] (.bool (decide (x = y))) := by
  have he := equal_ints W x.params y.params (by omega)
  generalize hR : decide (x = y) = R
  have hk := ev_eq x y
  obtain ⟨k, r, f, m, mi, p, t⟩ := x
  obtain ⟨k', r', f', m', mi', p', t'⟩ := y
  simp only [encEv, evV, encInts] at *
  refine Pure.of (acalls_of_vc (drawOk W) Tryd.func11 rfl (by decide) (by decide) rfl ?_)
  (refine g0_ ?_; repeat ((first | refine n1_ fun b_ => ?_ | refine n2_ fun b_ => ?_ | refine Nat1.mk fun q_ hq_ => ?_ | refine em_ fun x_ hx_ => ?_ | refine Elem1.mk fun e_ he_ => ?_); refine g0_ ?_))
  refine head_ ?_; (refine g0_ ?_; repeat ((first | refine n1_ fun b_ => ?_ | refine n2_ fun b_ => ?_ | refine Nat1.mk fun q_ hq_ => ?_ | refine em_ fun x_ hx_ => ?_ | refine Elem1.mk fun e_ he_ => ?_); refine g0_ ?_))
  (refine g0_ ?_; repeat ((first | refine n1_ fun b_ => ?_ | refine n2_ fun b_ => ?_ | refine Nat1.mk fun q_ hq_ => ?_ | refine em_ fun x_ hx_ => ?_ | refine Elem1.mk fun e_ he_ => ?_); refine g0_ ?_))
  refine brec ?_; intro c_ h; (try rw [h]); cases c_ <;> replace h := nm_ h
  · (refine g0_ ?_; repeat ((first | refine n1_ fun b_ => ?_ | refine n2_ fun b_ => ?_ | refine Nat1.mk fun q_ hq_ => ?_ | refine em_ fun x_ hx_ => ?_ | refine Elem1.mk fun e_ he_ => ?_); refine g0_ ?_))
    refine .of_eq (congrArg PV.bool ?_)
    rw [← hR]
    refine (decide_eq_false fun hc => h ?_).symm
    have := hk.1 hc
    simp [this]
  · (refine g0_ ?_; repeat ((first | refine n1_ fun b_ => ?_ | refine n2_ fun b_ => ?_ | refine Nat1.mk fun q_ hq_ => ?_ | refine em_ fun x_ hx_ => ?_ | refine Elem1.mk fun e_ he_ => ?_); refine g0_ ?_))
    refine (he).use ?_; (refine g0_ ?_; repeat ((first | refine n1_ fun b_ => ?_ | refine n2_ fun b_ => ?_ | refine Nat1.mk fun q_ hq_ => ?_ | refine em_ fun x_ hx_ => ?_ | refine Elem1.mk fun e_ he_ => ?_); refine g0_ ?_))
    (refine g0_ ?_; repeat ((first | refine n1_ fun b_ => ?_ | refine n2_ fun b_ => ?_ | refine Nat1.mk fun q_ hq_ => ?_ | refine em_ fun x_ hx_ => ?_ | refine Elem1.mk fun e_ he_ => ?_); refine g0_ ?_))
    refine .of_eq (congrArg PV.bool ?_)
    rw [← hR, decide_eq_decide, hk]
    simp only [u8_iff] at h
    simp [h]
theorem sameState_ok (x y : PSt) (hl : x.params.length ≤ 4611686018427387904) : Pure Tryd.prog W 10 [encSt x, encSt y] (.bool (decide (x = y))) := by
  have he := equal_ints W x.params y.params (by omega)
  generalize hR : decide (x = y) = R
  have hk := st_eq x y
  obtain ⟨k, m, mi, p, t, l, la⟩ := x
  obtain ⟨k', m', mi', p', t', l', la'⟩ := y
  simp only [encSt, stV, encInts] at *
  refine Pure.of (acalls_of_vc (drawOk W) Tryd.func10 rfl (by decide) (by decide) rfl ?_)
  (refine g0_ ?_; repeat ((first | refine n1_ fun b_ => ?_ | refine n2_ fun b_ => ?_ | refine Nat1.mk fun q_ hq_ => ?_ | refine em_ fun x_ hx_ => ?_ | refine Elem1.mk fun e_ he_ => ?_); refine g0_ ?_))
  refine brec ?_; intro c_ h; (try rw [h]); cases c_ <;> replace h := nm_ h
  · (refine g0_ ?_; repeat ((first | refine n1_ fun b_ => ?_ | refine n2_ fun b_ => ?_ | refine Nat1.mk fun q_ hq_ => ?_ | refine em_ fun x_ hx_ => ?_ | refine Elem1.mk fun e_ he_ => ?_); refine g0_ ?_))
    refine .of_eq (congrArg PV.bool ?_)
    rw [← hR]
    refine (decide_eq_false fun hc => h ?_).symm
    have := hk.1 hc
    simp [this]
  · (refine g0_ ?_; repeat ((first | refine n1_ fun b_ => ?_ | refine n2_ fun b_ => ?_ | refine Nat1.mk fun q_ hq_ => ?_ | refine em_ fun x_ hx_ => ?_ | refine Elem1.mk fun e_ he_ => ?_); refine g0_ ?_))
    refine (he).use ?_; (refine g0_ ?_; repeat ((first | refine n1_ fun b_ => ?_ | refine n2_ fun b_ => ?_ | refine Nat1.mk fun q_ hq_ => ?_ | refine em_ fun x_ hx_ => ?_ | refine Elem1.mk fun e_ he_ => ?_); refine g0_ ?_))
    (refine g0_ ?_; repeat ((first | refine n1_ fun b_ => ?_ | refine n2_ fun b_ => ?_ | refine Nat1.mk fun q_ hq_ => ?_ | refine em_ fun x_ hx_ => ?_ | refine Elem1.mk fun e_ he_ => ?_); refine g0_ ?_))
    refine .of_eq (congrArg PV.bool ?_)
    rw [← hR, Bool.eq_iff_iff, decide_eq_true_iff, hk]
    simp only [u8_iff] at h
    simp [h, and_assoc]
theorem equalEvents_ok (a b : List PEv) (ha : a.length ≤ 4611686018427387904) (hp : ∀ e ∈ a, e.params.length ≤ 4611686018427387904) : Pure Tryd.prog W 13 [encEvs a, encEvs b, .fn 11 []] (.bool (decide (a = b))) := by
  simp only [encEvs]
  refine Pure.of (acalls_of_vc (drawOk W) Tryd.func13 rfl (by decide) (by decide) rfl ?_)
  (refine g0_ ?_; repeat ((first | refine n1_ fun b_ => ?_ | refine n2_ fun b_ => ?_ | refine Nat1.mk fun q_ hq_ => ?_ | refine em_ fun x_ hx_ => ?_ | refine Elem1.mk fun e_ he_ => ?_); refine g0_ ?_))
  refine brec ?_; intro c_ hc; (try rw [hc]); cases c_ <;> replace hc := nm_ hc
  · have hlen : a.length = b.length := by simp at hc; omega
    (refine g0_ ?_; repeat ((first | refine n1_ fun b_ => ?_ | refine n2_ fun b_ => ?_ | refine Nat1.mk fun q_ hq_ => ?_ | refine em_ fun x_ hx_ => ?_ | refine Elem1.mk fun e_ he_ => ?_); refine g0_ ?_))
    refine' loopI (α := Nat) (fun i => [(17, .int .i64 i)]) [(1, _), (2, _), (15, _), (16, _)] (fun i => []) (fun i => i ≤ a.length ∧ a.take i = b.take i) (fun i => a.length - i) 0 ?_ ?_
    · exact ⟨Nat.zero_le _, by simp⟩
    rintro i ⟨hi, hw⟩
    (refine g0_ ?_; repeat ((first | refine n1_ fun b_ => ?_ | refine n2_ fun b_ => ?_ | refine Nat1.mk fun q_ hq_ => ?_ | refine em_ fun x_ hx_ => ?_ | refine Elem1.mk fun e_ he_ => ?_); refine g0_ ?_))
    refine brec ?_; intro c_ h1; (try rw [h1]); cases c_ <;> replace h1 := nm_ h1
    · (refine g0_ ?_; repeat ((first | refine n1_ fun b_ => ?_ | refine n2_ fun b_ => ?_ | refine Nat1.mk fun q_ hq_ => ?_ | refine em_ fun x_ hx_ => ?_ | refine Elem1.mk fun e_ he_ => ?_); refine g0_ ?_))
      have : i = a.length := by simp at h1; omega
      subst this
      rw [List.take_length, hlen, List.take_length] at hw
      exact .of_eq (by simp [hw])
    · have hlt : i < a.length := by simp at h1; omega
      (refine g0_ ?_; repeat ((first | refine n1_ fun b_ => ?_ | refine n2_ fun b_ => ?_ | refine Nat1.mk fun q_ hq_ => ?_ | refine em_ fun x_ hx_ => ?_ | refine Elem1.mk fun e_ he_ => ?_); refine g0_ ?_))
      rename_i x hx b1
      refine (sameEvent_ok W x x_ (hp x (List.mem_of_getElem? hx))).use ?_; (refine g0_ ?_; repeat ((first | refine n1_ fun b_ => ?_ | refine n2_ fun b_ => ?_ | refine Nat1.mk fun q_ hq_ => ?_ | refine em_ fun x_ hx_ => ?_ | refine Elem1.mk fun e_ he_ => ?_); refine g0_ ?_))
      (refine g0_ ?_; repeat ((first | refine n1_ fun b_ => ?_ | refine n2_ fun b_ => ?_ | refine Nat1.mk fun q_ hq_ => ?_ | refine em_ fun x_ hx_ => ?_ | refine Elem1.mk fun e_ he_ => ?_); refine g0_ ?_))
      refine brec ?_; intro c_ h2; (try rw [h2]); cases c_ <;> replace h2 := nm_ h2
      · (refine g0_ ?_; repeat ((first | refine n1_ fun b_ => ?_ | refine n2_ fun b_ => ?_ | refine Nat1.mk fun q_ hq_ => ?_ | refine em_ fun x_ hx_ => ?_ | refine Elem1.mk fun e_ he_ => ?_); refine g0_ ?_))
        refine nx_ (i + 1) ?_ ?_
        · exact ⟨hlt, by rw [take_snoc_of hx, take_snoc_of hx_, hw, h2]⟩
        · ((try dsimp only); (try simp only [List.length_drop, List.length_take, List.length_append, List.length_cons, List.length_nil, List.length_map] at *); omega)
      · (refine g0_ ?_; repeat ((first | refine n1_ fun b_ => ?_ | refine n2_ fun b_ => ?_ | refine Nat1.mk fun q_ hq_ => ?_ | refine em_ fun x_ hx_ => ?_ | refine Elem1.mk fun e_ he_ => ?_); refine g0_ ?_))
        have : a ≠ b := by rintro rfl; simp_all
        exact .of_eq (by simp [this])
  · have hne : a ≠ b := by
      rintro rfl
      exact hc rfl
    (refine g0_ ?_; repeat ((first | refine n1_ fun b_ => ?_ | refine n2_ fun b_ => ?_ | refine Nat1.mk fun q_ hq_ => ?_ | refine em_ fun x_ hx_ => ?_ | refine Elem1.mk fun e_ he_ => ?_); refine g0_ ?_))
    exact .of_eq (by simp [hne])
end Go.Eng.YtkcldifniomfoaaDoor
end

/- The reader of escape sequences: Feed (b_ x_ q_ e_ pre_). -/
section
namespace Go.Eng.YtkcldifniomfoaaDoor
open Go Go.Eng Go.Proofs
variable (W : World)
set_option linter.unusedSimpArgs false
set_option maxRecDepth 100000
set_option linter.unusedVariables false
set_option maxHeartbeats 8000000
theorem clone_ints0 (a : Option Addr) (c : Nat) : Pure Tryd.prog W 17 [.lit (.slice a 0 c)] (.sl 1 []) := by
  refine Pure.of (acalls_of_vc (drawOk W) Tryd.func17 rfl (by decide) (by decide) rfl ?_)
  (refine g0_ ?_; repeat ((first | refine n1_ fun b_ => ?_ | refine n2_ fun b_ => ?_ | refine n3_ fun b_ pre_ => ?_ | refine Nat1.mk fun q_ hq_ => ?_ | refine em_ fun x_ hx_ => ?_ | refine Elem1.mk fun e_ he_ => ?_); refine g0_ ?_))
  refine ⟨_, eql_nil Tryd.underlying22 (.inl ⟨_, _, rfl, rfl⟩), ?_⟩
  (refine g0_ ?_; repeat ((first | refine n1_ fun b_ => ?_ | refine n2_ fun b_ => ?_ | refine n3_ fun b_ pre_ => ?_ | refine Nat1.mk fun q_ hq_ => ?_ | refine em_ fun x_ hx_ => ?_ | refine Elem1.mk fun e_ he_ => ?_); refine g0_ ?_))
  refine brec ?_; intro c_ h; (try rw [h]); cases c_ <;> replace h := nm_ h
  · (refine g0_ ?_; repeat ((first | refine n1_ fun b_ => ?_ | refine n2_ fun b_ => ?_ | refine n3_ fun b_ pre_ => ?_ | refine Nat1.mk fun q_ hq_ => ?_ | refine em_ fun x_ hx_ => ?_ | refine Elem1.mk fun e_ he_ => ?_); refine g0_ ?_))
    refine .inr ?_
    (refine g0_ ?_; repeat ((first | refine n1_ fun b_ => ?_ | refine n2_ fun b_ => ?_ | refine n3_ fun b_ pre_ => ?_ | refine Nat1.mk fun q_ hq_ => ?_ | refine em_ fun x_ hx_ => ?_ | refine Elem1.mk fun e_ he_ => ?_); refine g0_ ?_))
    exact frz_row (.here _ _ _) _ rfl
  · (refine g0_ ?_; repeat ((first | refine n1_ fun b_ => ?_ | refine n2_ fun b_ => ?_ | refine n3_ fun b_ pre_ => ?_ | refine Nat1.mk fun q_ hq_ => ?_ | refine em_ fun x_ hx_ => ?_ | refine Elem1.mk fun e_ he_ => ?_); refine g0_ ?_))
    exact .nils _
theorem clone_intsE : Pure Tryd.prog W 17 [.sl 1 []] (.sl 1 []) := Pure.of_empty (clone_ints0 W)
theorem clone_ints1 (x : Int) (l : List Int) (hl : (l.length + 1) * 8 ≤ 140737488355328) : ACalls Tryd.prog W 17 [.sl 1 ((x :: l).map (PV.int .i64))] [] (GivesRow 1 ((x :: l).map (PV.int .i64))) := by
  refine acalls_of_vc (drawOk W) Tryd.func17 rfl (by decide) (by decide) rfl ?_
  have hc : ((x :: l).map (PV.int .i64)).all cellsB = true := by simp [cellsB, PV.flat, cellB]
  rw [List.map_cons] at *
  (refine g0_ ?_; repeat ((first | refine n1_ fun b_ => ?_ | refine n2_ fun b_ => ?_ | refine n3_ fun b_ pre_ => ?_ | refine Nat1.mk fun q_ hq_ => ?_ | refine em_ fun x_ hx_ => ?_ | refine Elem1.mk fun e_ he_ => ?_); refine g0_ ?_))
  refine ⟨_, eql_nil Tryd.underlying22 (.inr (.inl ⟨_, _, _, rfl, rfl⟩)), ?_⟩
  (refine g0_ ?_; repeat ((first | refine n1_ fun b_ => ?_ | refine n2_ fun b_ => ?_ | refine n3_ fun b_ pre_ => ?_ | refine Nat1.mk fun q_ hq_ => ?_ | refine em_ fun x_ hx_ => ?_ | refine Elem1.mk fun e_ he_ => ?_); refine g0_ ?_))
  refine .inr ?_
  (refine g0_ ?_; repeat ((first | refine n1_ fun b_ => ?_ | refine n2_ fun b_ => ?_ | refine n3_ fun b_ pre_ => ?_ | refine Nat1.mk fun q_ hq_ => ?_ | refine em_ fun x_ hx_ => ?_ | refine Elem1.mk fun e_ he_ => ?_); refine g0_ ?_))
  exact GivesRow.mk _ (by simp) wkMem.rfl'
theorem frame2 {α : Type} {V : α → PV} {M : α → Mem} {R : α → Prop} {f : FuncId} {args : List PV} {A : Mem} (k : Blk) (h : ACalls Tryd.prog W f args A (Gives V M R)) :
    ACalls Tryd.prog W f args (k :: A) (Gives V (fun x => k :: M x) R) := by
  refine ACalls.lend h (r := [k]) (List.perm_append_singleton _ _).symm ?_
  rintro x hx
  exact ⟨x, hx, rfl, [], by rw [List.append_nil]; exact List.perm_append_singleton _ _⟩
theorem frz_par {σ : Mem} {pb : PB} {p : List Int} (h : pb.no ↔ p = []) (hσ : ∀ k ∈ parM pb p, k ∈ σ) : Frz σ (parV pb p) (encInts p) := by
  cases pb with
  | nil => rw [h.1 trivial]; exact .nils 1
  | emp => rw [h.1 trivial]; exact .refl _
  | own c =>
    obtain ⟨r, hr⟩ := Look.of_mem (hσ _ List.mem_cons_self)
    exact frz_row hr _ (by rw [List.length_map])
theorem frz_told {σ : Mem} {bo : Nat} {os : List PV} {es : List PEv} (hl : os.length = es.length) (hσ : ∀ k ∈ accM bo 7 os, k ∈ σ) (h : ∀ (k : Nat) (v : PV) (e : PEv), os[k]? = some v → es[k]? = some e → Frz σ v (encEv e)) : Frz σ (accV bo 7 os) (encEvs es) := by
  cases os with
  | nil =>
    have : es = [] := List.length_eq_zero_iff.1 hl.symm
    subst this
    exact .nils 7
  | cons o os =>
    obtain ⟨r, hr⟩ := Look.of_mem (hσ _ List.mem_cons_self)
    refine .rsl bo 7 0 _ (o :: os) (es.map encEv) 0 r hr (by simp) (by simpa using hl.symm) fun j hj => ?_
    have hj1 : j < (o :: os).length := by simpa using hj
    have hj2 : j < es.length := by omega
    rw [Nat.zero_add, List.getD_eq_getElem?_getD, List.getD_eq_getElem?_getD, List.getElem?_map, List.getElem?_eq_getElem hj1, List.getElem?_eq_getElem hj2]
    exact h j _ _ (List.getElem?_eq_getElem hj1) (List.getElem?_eq_getElem hj2)
/-- What Feed gives, as it stands. -/
def feedGV (F : PSt × List PEv) (x : RdS) : PV := .tup [.agg (stV (parV x.1 F.1.params) F.1), accV x.2.1 7 x.2.2.1, .int .i64 0]
def feedGM (F : PSt × List PEv) (x : RdS) : Mem := parM x.1 F.1.params ++ (accM x.2.1 7 x.2.2.1 ++ intsM x.2.2.2)
abbrev FeedG (F : PSt × List PEv) : PV → Mem → Prop := Gives (feedGV F) (feedGM F) (fun x => RdR x F.1 F.2)
theorem feed_g {x : RdS} {s' : PSt} {es : List PEv} (hx : RdR x s' es) (k1 k2 : Blk) :
    FeedG (s', es) (.tup [.agg (stV (parV x.1 s'.params) s'), accV x.2.1 7 x.2.2.1, .int .i64 0]) (k1 :: k2 :: (parM x.1 s'.params ++ (accM x.2.1 7 x.2.2.1 ++ intsM x.2.2.2))) :=
  ⟨x, hx, rfl, [k1, k2], List.perm_append_comm (l₁ := [k1, k2])⟩
theorem feed_frz {x : RdS} {s' : PSt} {es : List PEv} (hx : RdR x s' es) :
    Frz (parM x.1 s'.params ++ (accM x.2.1 7 x.2.2.1 ++ intsM x.2.2.2)) (.tup [.agg (stV (parV x.1 s'.params) s'), accV x.2.1 7 x.2.2.1, .int .i64 0]) (.tup [encSt s', encEvs es, .int .i64 0]) := by
  refine .tup _ _ rfl fun j hj => ?_
  match j, hj with
  | 0, _ =>
    refine .agg _ _ rfl fun j hj => ?_
    match j, hj with
    | 0, _ => exact .refl _
    | 1, _ => exact .refl _
    | 2, _ => exact .refl _
    | 3, _ => exact frz_par hx.par (fun k hk => List.mem_append_left _ hk)
    | 4, _ => exact .refl _
    | 5, _ => exact .refl _
    | 6, _ => exact .refl _
  | 1, _ => exact frz_told hx.len (fun k hk => List.mem_append_right _ (List.mem_append_left _ hk)) (fun k v e hv he => frz_mem (fun k hk => List.mem_append_right _ (List.mem_append_right _ hk)) (hx.at_ k v e hv he))
  | 2, _ => exact .refl _
theorem eat_few : ∀ (n : Nat) (l : List UInt8), (eatL n l).2.length ≤ n
  | 0, l => Nat.le_refl _
  | n + 1, l => by
    rw [eatL]
    split
    · exact Nat.zero_le _
    · rw [List.length_cons]; exact Nat.succ_le_succ (eat_few n _)
theorem ctl_few (s : PSt) (b : UInt8) : (ctlL s b).2.length ≤ 1 := by
  unfold ctlL; repeat' split
  all_goals first | exact Nat.le_refl _ | exact Nat.zero_le _
theorem left_few {s : PSt} (h : s.ok) : s.left.length ≤ 3 := by
  rcases h with ⟨h0, hl, h2⟩ | ⟨h0, h1, h2⟩ | ⟨h0, h1, h2, h3, h4, h5, h6⟩ | ⟨h0, h1, h2, h3, h4, h5⟩ | ⟨h0, h1, h2, h3, h4⟩
  · rcases hl with h | h
    · rw [h]; decide
    · by_cases hne : s.left = []
      · rw [hne]; decide
      · exact (part_spec hne h.2).1
  · rw [h1]; decide
  · rw [h5]; decide
  · rw [h4]; decide
  · rw [h3]; decide
theorem esc_few (s : PSt) (b : UInt8) : (escL s b).2.length ≤ 1 := by
  have := ctl_few s b
  unfold escL; repeat' split
  all_goals first | exact this | (exact Nat.le_refl _) | (exact Nat.zero_le _)
theorem step_few {s : PSt} (h : s.ok) (b : UInt8) : (stepL s b).2.length ≤ 4 := by
  have hl := left_few h
  have hc := ctl_few s b
  have hc0 := ctl_few { s with left := [] } b
  have he0 := esc_few s b
  have he1 := esc_few (stAt 1) b
  unfold stepL
  split
  · unfold groundL
    split
    · rw [List.length_append, List.length_map]; omega
    · exact Nat.le_trans (eat_few _ _) (by omega)
  split
  · omega
  split
  · unfold midL; repeat' split
    all_goals first | omega | (exact Nat.zero_le _) | (exact Nat.succ_le_succ (Nat.zero_le _))
  split
  · unfold cmdL; repeat' split
    all_goals first | omega | (exact Nat.zero_le _) | (exact Nat.succ_le_succ (Nat.zero_le _))
  split
  · unfold sysL; repeat' split
    all_goals first | omega | (exact Nat.zero_le _) | (exact Nat.succ_le_succ (Nat.zero_le _))
  · unfold skipL; repeat' split
    all_goals first | omega | (exact Nat.zero_le _) | (exact Nat.succ_le_succ (Nat.zero_le _))
theorem feed_emp (hT : Tabs W) (s : PSt) (b : List UInt8) (hok : s.ok) (hb : b.length ≤ 4000) (hp : s.params = []) :
    ACalls Tryd.prog W 8 [encSt s, .str b] [] (FeedG (feedL s b)) := by
  have hck1 := pcheck_right W hT s hok
  have hst := fun r x s' es c => rd_step W hT (fun s _ => full_ok W hT s) r x s' es c
  generalize hf : feedL s b = F at *
  obtain ⟨a, m, mi, p, t, l, la⟩ := s
  dsimp only at hp
  subst hp
  simp only [encSt, stV, encInts, List.map_nil] at hck1 ⊢
  refine acalls_of_vc (DM_ok (by decide)) Tryd.func8 rfl (by decide) (by decide) rfl ?_
  (refine g0_ ?_; repeat ((first | refine n1_ fun b_ => ?_ | refine n2_ fun b_ => ?_ | refine n3_ fun b_ pre_ => ?_ | refine Nat1.mk fun q_ hq_ => ?_ | refine em_ fun x_ hx_ => ?_ | refine Elem1.mk fun e_ he_ => ?_); refine g0_ ?_))
  refine (hck1).use ?_; (refine g0_ ?_; repeat ((first | refine n1_ fun b_ => ?_ | refine n2_ fun b_ => ?_ | refine n3_ fun b_ pre_ => ?_ | refine Nat1.mk fun q_ hq_ => ?_ | refine em_ fun x_ hx_ => ?_ | refine Elem1.mk fun e_ he_ => ?_); refine g0_ ?_))
  (refine g1_ ?_; repeat ((first | refine n1_ fun b_ => ?_ | refine n2_ fun b_ => ?_ | refine n3_ fun b_ pre_ => ?_ | refine Nat1.mk fun q_ hq_ => ?_ | refine em_ fun x_ hx_ => ?_ | refine Elem1.mk fun e_ he_ => ?_); refine g1_ ?_))
  refine (clone_intsE W).use ?_; (refine g0_ ?_; repeat ((first | refine n1_ fun b_ => ?_ | refine n2_ fun b_ => ?_ | refine n3_ fun b_ pre_ => ?_ | refine Nat1.mk fun q_ hq_ => ?_ | refine em_ fun x_ hx_ => ?_ | refine Elem1.mk fun e_ he_ => ?_); refine g0_ ?_))
  (refine g1_ ?_; repeat ((first | refine n1_ fun b_ => ?_ | refine n2_ fun b_ => ?_ | refine n3_ fun b_ pre_ => ?_ | refine Nat1.mk fun q_ hq_ => ?_ | refine em_ fun x_ hx_ => ?_ | refine Elem1.mk fun e_ he_ => ?_); refine g1_ ?_))
  rename_i b1 b2
  refine' loopI (α := Nat × RdS × PSt × (List PEv)) (fun (i, x, s', es) => [(29, .int .i64 i)]) [(1, _), (4, _), (7, _), (28, _)] (fun (i, x, s', es) => ⟨b2, .row 7 [.agg [.int .i64 0, .int .u8 0, .str [], .nils, .str [], .str [], .bool false]] 0⟩ :: rdN b_ x s') (fun (i, x, s', es) => RdR x s' es ∧ s'.ok ∧ i ≤ b.length ∧ es.length ≤ 4 * i ∧ F = ((feedL s' (b.drop i)).1, es ++ (feedL s' (b.drop i)).2)) (fun (i, x, s', es) => b.length - i) (0, (PB.emp, 0, [], []), ⟨a, m, mi, [], t, l, la⟩, []) ?_ ?_
  · exact ⟨⟨by simp [PB.no], rfl, rfl, by simp⟩, hok, Nat.zero_le _, Nat.le_refl _, by rw [← hf]; rfl⟩
  rintro ⟨i, x, s', es⟩ ⟨hx, hok', hi, hle, hF2⟩
  (refine g0_ ?_; repeat ((first | refine n1_ fun b_ => ?_ | refine n2_ fun b_ => ?_ | refine n3_ fun b_ pre_ => ?_ | refine Nat1.mk fun q_ hq_ => ?_ | refine em_ fun x_ hx_ => ?_ | refine Elem1.mk fun e_ he_ => ?_); refine g0_ ?_))
  refine brec ?_; intro c_ h; (try rw [h]); cases c_ <;> replace h := nm_ h
  · have hil : i = b.length := by omega
    rw [hil, List.drop_length, feedL, List.append_nil] at hF2
    have hfz := feed_g hx
    subst hF2
    clear hst hx
    obtain ⟨pb, bo, os, g⟩ := x
    obtain ⟨a', m', mi', p', t', l', la'⟩ := s'
    cases pb
    all_goals
      rcases os with _ | ⟨o, os⟩
      all_goals
        simp only [rdN, rdB_eq, parV, parM, accV, accM] at *
        (refine g0_ ?_; repeat ((first | refine n1_ fun b_ => ?_ | refine n2_ fun b_ => ?_ | refine n3_ fun b_ pre_ => ?_ | refine Nat1.mk fun q_ hq_ => ?_ | refine em_ fun x_ hx_ => ?_ | refine Elem1.mk fun e_ he_ => ?_); refine g0_ ?_))
        refine Draws11.tree ⟨9, [.new, .new, .new, .new, .new, .new, .new, .new, .turn], (.one 8 [.keep, .keep, .keep, .keep, .again, .again, .again, .again, .keep] .fin), by decide +kernel, ?_⟩; (refine g0_ ?_; repeat ((first | refine n1_ fun b_ => ?_ | refine n2_ fun b_ => ?_ | refine n3_ fun b_ pre_ => ?_ | refine Nat1.mk fun q_ hq_ => ?_ | refine em_ fun x_ hx_ => ?_ | refine Elem1.mk fun e_ he_ => ?_); refine g0_ ?_))
        exact hfz _ _
  · have hil : i < b.length := by omega
    obtain ⟨c, hc⟩ : ∃ c, b[i]? = some c := ⟨b[i], List.getElem?_eq_getElem hil⟩
    have h4 := step_few hok' c
    have hd : b.drop i = c :: b.drop (i + 1) := by
      rw [List.drop_eq_getElem_cons hil]
      rw [List.getElem?_eq_getElem hil] at hc
      rw [Option.some.inj hc]
    rw [hd] at hF2
    (refine g0_ ?_; repeat ((first | refine n1_ fun b_ => ?_ | refine n2_ fun b_ => ?_ | refine n3_ fun b_ pre_ => ?_ | refine Nat1.mk fun q_ hq_ => ?_ | refine em_ fun x_ hx_ => ?_ | refine Elem1.mk fun e_ he_ => ?_); refine g0_ ?_))
    rw [hc] at he_
    obtain rfl := Option.some.inj he_
    refine ACalls.all_ (frame2 W _ (hst b_ x s' es c hx (by omega) hok')) ?_
    rintro v σ1 ⟨y, hy, rfl, hm⟩
    refine ⟨_, hm, ?_⟩
    (refine g0_ ?_; repeat ((first | refine n1_ fun b_ => ?_ | refine n2_ fun b_ => ?_ | refine n3_ fun b_ pre_ => ?_ | refine Nat1.mk fun q_ hq_ => ?_ | refine em_ fun x_ hx_ => ?_ | refine Elem1.mk fun e_ he_ => ?_); refine g0_ ?_))
    refine nx_ (i + 1, y, (stepL s' c).1, es ++ (stepL s' c).2) ?_ ?_
    · refine ⟨hy, stepL_ok hok' c, by omega, by rw [List.length_append]; omega, ?_⟩
      rw [hF2, feedL, List.append_assoc]
    · ((try dsimp only); (try simp only [List.length_drop, List.length_take, List.length_append, List.length_cons, List.length_nil, List.length_map] at *); omega)
theorem feed_own (hT : Tabs W) (s : PSt) (b : List UInt8) (hok : s.ok) (hb : b.length ≤ 4000) (hp : s.params ≠ []) :
    ACalls Tryd.prog W 8 [encSt s, .str b] [] (FeedG (feedL s b)) := by
  have hck1 := pcheck_right W hT s hok
  have hst := fun r x s' es c => rd_step W hT (fun s _ => full_ok W hT s) r x s' es c
  generalize hf : feedL s b = F at *
  obtain ⟨a, m, mi, p, t, l, la⟩ := s
  dsimp only at hp
  have hpl : p.length ≤ 16 := by
    rcases hok with h | h | h | h | h
    · exact absurd h.2.2.2.2.1 hp
    · exact absurd h.2.2.2.2.1 hp
    · exact absurd h.2.2.2.1 hp
    · exact h.2.2.1
    · exact absurd h.2.2.2.2.1 hp
  rcases p with _ | ⟨n, p⟩
  · exact absurd rfl hp
  simp only [List.length_cons] at hpl
  simp only [encSt, stV, encInts] at hck1 ⊢
  refine acalls_of_vc (DM_ok (by decide)) Tryd.func8 rfl (by decide) (by decide) rfl ?_
  (refine g0_ ?_; repeat ((first | refine n1_ fun b_ => ?_ | refine n2_ fun b_ => ?_ | refine n3_ fun b_ pre_ => ?_ | refine Nat1.mk fun q_ hq_ => ?_ | refine em_ fun x_ hx_ => ?_ | refine Elem1.mk fun e_ he_ => ?_); refine g0_ ?_))
  refine (hck1).use ?_; (refine g0_ ?_; repeat ((first | refine n1_ fun b_ => ?_ | refine n2_ fun b_ => ?_ | refine n3_ fun b_ pre_ => ?_ | refine Nat1.mk fun q_ hq_ => ?_ | refine em_ fun x_ hx_ => ?_ | refine Elem1.mk fun e_ he_ => ?_); refine g0_ ?_))
  (refine g1_ ?_; repeat ((first | refine n1_ fun b_ => ?_ | refine n2_ fun b_ => ?_ | refine n3_ fun b_ pre_ => ?_ | refine Nat1.mk fun q_ hq_ => ?_ | refine em_ fun x_ hx_ => ?_ | refine Elem1.mk fun e_ he_ => ?_); refine g1_ ?_))
  refine ACalls.give (clone_ints1 W n p (by omega)) ?_
  rintro bc -
  rw [List.length_map]
  (refine g0_ ?_; repeat ((first | refine n1_ fun b_ => ?_ | refine n2_ fun b_ => ?_ | refine n3_ fun b_ pre_ => ?_ | refine Nat1.mk fun q_ hq_ => ?_ | refine em_ fun x_ hx_ => ?_ | refine Elem1.mk fun e_ he_ => ?_); refine g0_ ?_))
  (refine g1_ ?_; repeat ((first | refine n1_ fun b_ => ?_ | refine n2_ fun b_ => ?_ | refine n3_ fun b_ pre_ => ?_ | refine Nat1.mk fun q_ hq_ => ?_ | refine em_ fun x_ hx_ => ?_ | refine Elem1.mk fun e_ he_ => ?_); refine g1_ ?_))
  rename_i b1 b2
  refine' loopI (α := Nat × RdS × PSt × (List PEv)) (fun (i, x, s', es) => [(29, .int .i64 i)]) [(1, _), (4, _), (7, _), (28, _)] (fun (i, x, s', es) => ⟨b2, .row 7 [.agg [.int .i64 0, .int .u8 0, .str [], .nils, .str [], .str [], .bool false]] 0⟩ :: rdN b_ x s') (fun (i, x, s', es) => RdR x s' es ∧ s'.ok ∧ i ≤ b.length ∧ es.length ≤ 4 * i ∧ F = ((feedL s' (b.drop i)).1, es ++ (feedL s' (b.drop i)).2)) (fun (i, x, s', es) => b.length - i) (0, (PB.own bc, 0, [], []), ⟨a, m, mi, (n :: p), t, l, la⟩, []) ?_ ?_
  · exact ⟨⟨by simp [PB.no], rfl, rfl, by simp⟩, hok, Nat.zero_le _, Nat.le_refl _, by rw [← hf]; rfl⟩
  rintro ⟨i, x, s', es⟩ ⟨hx, hok', hi, hle, hF2⟩
  (refine g0_ ?_; repeat ((first | refine n1_ fun b_ => ?_ | refine n2_ fun b_ => ?_ | refine n3_ fun b_ pre_ => ?_ | refine Nat1.mk fun q_ hq_ => ?_ | refine em_ fun x_ hx_ => ?_ | refine Elem1.mk fun e_ he_ => ?_); refine g0_ ?_))
  refine brec ?_; intro c_ h; (try rw [h]); cases c_ <;> replace h := nm_ h
  · have hil : i = b.length := by omega
    rw [hil, List.drop_length, feedL, List.append_nil] at hF2
    have hfz := feed_g hx
    subst hF2
    clear hst hx
    obtain ⟨pb, bo, os, g⟩ := x
    obtain ⟨a', m', mi', p', t', l', la'⟩ := s'
    cases pb
    all_goals
      rcases os with _ | ⟨o, os⟩
      all_goals
        simp only [rdN, rdB_eq, parV, parM, accV, accM] at *
        (refine g0_ ?_; repeat ((first | refine n1_ fun b_ => ?_ | refine n2_ fun b_ => ?_ | refine n3_ fun b_ pre_ => ?_ | refine Nat1.mk fun q_ hq_ => ?_ | refine em_ fun x_ hx_ => ?_ | refine Elem1.mk fun e_ he_ => ?_); refine g0_ ?_))
        refine Draws11.tree ⟨9, [.new, .new, .new, .new, .new, .new, .new, .new, .turn], (.one 8 [.keep, .keep, .keep, .keep, .again, .again, .again, .again, .keep] .fin), by decide +kernel, ?_⟩; (refine g0_ ?_; repeat ((first | refine n1_ fun b_ => ?_ | refine n2_ fun b_ => ?_ | refine n3_ fun b_ pre_ => ?_ | refine Nat1.mk fun q_ hq_ => ?_ | refine em_ fun x_ hx_ => ?_ | refine Elem1.mk fun e_ he_ => ?_); refine g0_ ?_))
        exact hfz _ _
  · have hil : i < b.length := by omega
    obtain ⟨c, hc⟩ : ∃ c, b[i]? = some c := ⟨b[i], List.getElem?_eq_getElem hil⟩
    have h4 := step_few hok' c
    have hd : b.drop i = c :: b.drop (i + 1) := by
      rw [List.drop_eq_getElem_cons hil]
      rw [List.getElem?_eq_getElem hil] at hc
      rw [Option.some.inj hc]
    rw [hd] at hF2
    (refine g0_ ?_; repeat ((first | refine n1_ fun b_ => ?_ | refine n2_ fun b_ => ?_ | refine n3_ fun b_ pre_ => ?_ | refine Nat1.mk fun q_ hq_ => ?_ | refine em_ fun x_ hx_ => ?_ | refine Elem1.mk fun e_ he_ => ?_); refine g0_ ?_))
    rw [hc] at he_
    obtain rfl := Option.some.inj he_
    refine ACalls.all_ (frame2 W _ (hst b_ x s' es c hx (by omega) hok')) ?_
    rintro v σ1 ⟨y, hy, rfl, hm⟩
    refine ⟨_, hm, ?_⟩
    (refine g0_ ?_; repeat ((first | refine n1_ fun b_ => ?_ | refine n2_ fun b_ => ?_ | refine n3_ fun b_ pre_ => ?_ | refine Nat1.mk fun q_ hq_ => ?_ | refine em_ fun x_ hx_ => ?_ | refine Elem1.mk fun e_ he_ => ?_); refine g0_ ?_))
    refine nx_ (i + 1, y, (stepL s' c).1, es ++ (stepL s' c).2) ?_ ?_
    · refine ⟨hy, stepL_ok hok' c, by omega, by rw [List.length_append]; omega, ?_⟩
      rw [hF2, feedL, List.append_assoc]
    · ((try dsimp only); (try simp only [List.length_drop, List.length_take, List.length_append, List.length_cons, List.length_nil, List.length_map] at *); omega)
theorem feed_gives (hT : Tabs W) (s : PSt) (b : List UInt8) (hok : s.ok) (hb : b.length ≤ 4000) :
    ACalls Tryd.prog W 8 [encSt s, .str b] [] (FeedG (feedL s b)) := by
  by_cases hp : s.params = []
  · exact feed_emp W hT s b hok hb hp
  · exact feed_own W hT s b hok hb hp
theorem feed_ok (hT : Tabs W) (s : PSt) (b : List UInt8) (hok : s.ok) (hb : b.length ≤ 4000) :
    Pure Tryd.prog W 8 [encSt s, .str b] (.tup [encSt (feedL s b).1, encEvs (feedL s b).2, .int .i64 0]) :=
  ACalls.pure (feed_gives W hT s b hok hb) fun x hx => feed_frz hx
end Go.Eng.YtkcldifniomfoaaDoor
end

/- The reader of escape sequences: Feed at whatever comes (b_ x_ q_ e_ pre_). -/
section
namespace Go.Eng.YtkcldifniomfoaaDoor
open Go Go.Eng Go.Proofs
variable (W : World)
set_option linter.unusedSimpArgs false
set_option maxRecDepth 100000
set_option linter.unusedVariables false
set_option maxHeartbeats 8000000
/-- What Feed answers. -/
def feedR (s : PSt) (b : List UInt8) : (PSt × List PEv) × Int :=
  if s.ok then if 4000 < b.length then ((st0, []), 2) else (feedL s b, 0) else ((st0, []), 5)
def feedV (x : (PSt × List PEv) × Int) : PV := .tup [encSt x.1.1, encEvs x.1.2, .int .i64 x.2]
theorem frz_none (σ : Mem) (n : Int) : Frz σ (.tup [.agg [.int .i64 0, .int .u8 0, .str [], .nils, .str [], .str [], .bool false], .nils, .int .i64 n]) (feedV ((st0, []), n)) := by
  refine .tup _ _ rfl fun j hj => ?_
  match j, hj with
  | 0, _ =>
    refine .agg _ _ rfl fun j hj => ?_
    match j, hj with
    | 0, _ => exact .refl _
    | 1, _ => exact .refl _
    | 2, _ => exact .refl _
    | 3, _ => exact .nils 1
    | 4, _ => exact .refl _
    | 5, _ => exact .refl _
    | 6, _ => exact .refl _
  | 1, _ => exact .nils 7
  | 2, _ => exact .refl _
theorem feed_all (hT : Tabs W) (s : PSt) (b : List UInt8) (hs : s.fair) : Pure Tryd.prog W 8 [encSt s, .str b] (feedV (feedR s b)) := by
  unfold feedR
  by_cases hok : s.ok
  · rw [if_pos hok]
    by_cases hb : 4000 < b.length
    · rw [if_pos hb]
      have hck := pcheck_right W hT s hok
      have hz := fun σ => frz_none σ 2
      obtain ⟨a, m, mi, p, t, l, la⟩ := s
      simp only [encSt, stV, encInts] at hck ⊢
      refine Pure.of (acalls_of_vc (drawOk W) Tryd.func8 rfl (by decide) (by decide) rfl ?_)
      (refine g0_ ?_; repeat ((first | refine n1_ fun b_ => ?_ | refine n2_ fun b_ => ?_ | refine n3_ fun b_ pre_ => ?_ | refine Nat1.mk fun q_ hq_ => ?_ | refine em_ fun x_ hx_ => ?_ | refine Elem1.mk fun e_ he_ => ?_); refine g0_ ?_))
      refine (hck).use ?_; (refine g0_ ?_; repeat ((first | refine n1_ fun b_ => ?_ | refine n2_ fun b_ => ?_ | refine n3_ fun b_ pre_ => ?_ | refine Nat1.mk fun q_ hq_ => ?_ | refine em_ fun x_ hx_ => ?_ | refine Elem1.mk fun e_ he_ => ?_); refine g0_ ?_))
      (refine g0_ ?_; repeat ((first | refine n1_ fun b_ => ?_ | refine n2_ fun b_ => ?_ | refine n3_ fun b_ pre_ => ?_ | refine Nat1.mk fun q_ hq_ => ?_ | refine em_ fun x_ hx_ => ?_ | refine Elem1.mk fun e_ he_ => ?_); refine g0_ ?_))
      (refine g1_ ?_; repeat ((first | refine n1_ fun b_ => ?_ | refine n2_ fun b_ => ?_ | refine n3_ fun b_ pre_ => ?_ | refine Nat1.mk fun q_ hq_ => ?_ | refine em_ fun x_ hx_ => ?_ | refine Elem1.mk fun e_ he_ => ?_); refine g1_ ?_))
      exact hz _
    · rw [if_neg hb]
      exact feed_ok W hT s b hok (by omega)
  · rw [if_neg hok]
    have hck := pcheck_ok W hT s hs
    rw [decide_eq_false hok] at hck
    have hz := fun σ => frz_none σ 5
    obtain ⟨a, m, mi, p, t, l, la⟩ := s
    simp only [encSt, stV, encInts] at hck ⊢
    refine Pure.of (acalls_of_vc (drawOk W) Tryd.func8 rfl (by decide) (by decide) rfl ?_)
    (refine g0_ ?_; repeat ((first | refine n1_ fun b_ => ?_ | refine n2_ fun b_ => ?_ | refine n3_ fun b_ pre_ => ?_ | refine Nat1.mk fun q_ hq_ => ?_ | refine em_ fun x_ hx_ => ?_ | refine Elem1.mk fun e_ he_ => ?_); refine g0_ ?_))
    refine (hck).use ?_; (refine g0_ ?_; repeat ((first | refine n1_ fun b_ => ?_ | refine n2_ fun b_ => ?_ | refine n3_ fun b_ pre_ => ?_ | refine Nat1.mk fun q_ hq_ => ?_ | refine em_ fun x_ hx_ => ?_ | refine Elem1.mk fun e_ he_ => ?_); refine g0_ ?_))
    (refine g0_ ?_; repeat ((first | refine n1_ fun b_ => ?_ | refine n2_ fun b_ => ?_ | refine n3_ fun b_ pre_ => ?_ | refine Nat1.mk fun q_ hq_ => ?_ | refine em_ fun x_ hx_ => ?_ | refine Elem1.mk fun e_ he_ => ?_); refine g0_ ?_))
    exact hz _
theorem feedR_fair (s : PSt) (b : List UInt8) : (feedR s b).1.1.fair := by
  unfold feedR
  split
  · split
    · exact ok_fair st0_ok
    · rename_i h _; exact ok_fair (feedL_ok b h)
  · exact ok_fair st0_ok
end Go.Eng.YtkcldifniomfoaaDoor
end
