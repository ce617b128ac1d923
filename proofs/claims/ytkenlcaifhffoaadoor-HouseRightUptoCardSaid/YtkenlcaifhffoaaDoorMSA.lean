/- Texts put together: Spl1, Spl2, Spl3, Free, Eng32. -/
import Derived.Test.YtkenlcaifhffoaaDoorME3
import Derived.Test.YtkenlcaifhffoaaDoorME10
import Derived.Recover
/- Splits: trees; what a check sees on its way (plain). -/
section
namespace Go.Eng.YtkenlcaifhffoaaDoor
open Go Go.Eng Go.Proofs
set_option linter.unusedSimpArgs false
set_option maxRecDepth 100000
set_option linter.unusedVariables false
inductive Spl where
  | mk (way pane size : Int) (kids : List Spl)
def Spl.way : Spl → Int | .mk w _ _ _ => w
def Spl.pane : Spl → Int | .mk _ p _ _ => p
def Spl.size : Spl → Int | .mk _ _ s _ => s
def Spl.kids : Spl → List Spl | .mk _ _ _ ks => ks
mutual
def encSpl : Spl → PV
  | .mk w p s ks => .agg [.int .i64 w, .int .i64 p, .int .i64 s, .sl 4 (encSpls ks)]
def encSpls : List Spl → List PV
  | [] => []
  | t :: ts => encSpl t :: encSpls ts
end
theorem encSpls_eq : ∀ ks : List Spl, encSpls ks = ks.map encSpl
  | [] => rfl
  | t :: ts => by rw [encSpls, encSpls_eq ts]; rfl
theorem encSpl_mk (w p s : Int) (ks : List Spl) : encSpl (.mk w p s ks) = .agg [.int .i64 w, .int .i64 p, .int .i64 s, .sl 4 (ks.map encSpl)] := by
  rw [encSpl, encSpls_eq]
mutual
def Spl.ok : Spl → Prop
  | .mk w p s ks => i64ok w ∧ i64ok p ∧ i64ok s ∧ ks.length ≤ 2932031007402 ∧ Spls.ok ks
def Spls.ok : List Spl → Prop
  | [] => True
  | t :: ts => t.ok ∧ Spls.ok ts
end
theorem spls_ok : ∀ {ks : List Spl}, Spls.ok ks ↔ ∀ k ∈ ks, k.ok
  | [] => by simp [Spls.ok]
  | t :: ts => by rw [Spls.ok, spls_ok]; simp
theorem spl_ok {w p s : Int} {ks : List Spl} : (Spl.mk w p s ks).ok ↔ i64ok w ∧ i64ok p ∧ i64ok s ∧ ks.length ≤ 2932031007402 ∧ ∀ k ∈ ks, k.ok := by rw [Spl.ok, spls_ok]
theorem kid_lt {w p s : Int} {ks : List Spl} {k : Spl} (h : k ∈ ks) : SizeOf.sizeOf k < SizeOf.sizeOf (Spl.mk w p s ks) := by
  have := List.sizeOf_lt_of_mem h
  simp only [Spl.mk.sizeOf_spec]; omega
theorem spl_induct {motive : Spl → Prop} (h : ∀ w p s ks, (∀ k ∈ ks, motive k) → motive (.mk w p s ks)) (t : Spl) : motive t := by
  have : ∀ n t, SizeOf.sizeOf t < n → motive t := by
    intro n
    induction n with
    | zero => intro t ht; omega
    | succ n ih =>
      rintro ⟨w, p, s, ks⟩ ht
      exact h w p s ks fun k hk => ih k (by have := kid_lt (w := w) (p := p) (s := s) hk; omega)
  exact this _ t (Nat.lt_succ_self _)
def ownS (w p s : Int) (n : Nat) (way : Int) (ps : List Int) : Int × List Int :=
  if s < 1 ∨ 9999 < s then (4, ps)
  else if w = 0 then
    if 0 < n then (5, ps ++ [p])
    else if p < 1 ∨ 9999 < p then (4, ps ++ [p])
    else if p ∈ ps then (7, ps ++ [p])
    else if ps.length = 12 then (2, ps ++ [p])
    else (0, ps ++ [p])
  else if (w ≠ 1 ∧ w ≠ 2) ∨ w = way ∨ n < 2 ∨ p ≠ 0 then (5, ps)
  else (0, ps)
mutual
def visS : Spl → Int → Int × List Int → Int × List Int
  | .mk w p s ks, way, st => if st.1 ≠ 0 then st else vissS ks w (ownS w p s ks.length way st.2)
def vissS : List Spl → Int → Int × List Int → Int × List Int
  | [], _, st => st
  | k :: ks, w, st => vissS ks w (visS k w st)
end
theorem visS_mk (w p s : Int) (ks : List Spl) (way : Int) (st : Int × List Int) : visS (.mk w p s ks) way st = if st.1 ≠ 0 then st else ks.foldl (fun st k => visS k w st) (ownS w p s ks.length way st.2) := by
  have h : ∀ (ks : List Spl) (w : Int) st, vissS ks w st = ks.foldl (fun st k => visS k w st) st := by
    intro ks
    induction ks with
    | nil => intro w st; rfl
    | cons k ks ih => intro w st; rw [vissS, ih]; rfl
  rw [visS, h]
theorem ownS_few (w p s : Int) (n : Nat) (way : Int) {ps : List Int} (h : ps.length ≤ 12) : (ownS w p s n way ps).2.length ≤ 13 ∧ ((ownS w p s n way ps).1 = 0 → (ownS w p s n way ps).2.length ≤ 12) := by
  unfold ownS
  (repeat' split) <;> simp only [List.length_append, List.length_cons, List.length_nil] <;> (constructor <;> first | omega | (intro h'; omega))
def fewS (st : Int × List Int) : Prop := st.2.length ≤ 13 ∧ (st.1 = 0 → st.2.length ≤ 12)
theorem visS_few (t : Spl) : ∀ (way : Int) (st : Int × List Int), fewS st → fewS (visS t way st) := by
  induction t using spl_induct with
  | h w p s ks ih =>
    intro way st hf
    rw [visS_mk]
    split
    · exact hf
    · next h =>
      have : ∀ (l : List Spl), (∀ k ∈ l, k ∈ ks) → ∀ st, fewS st → fewS (l.foldl (fun st k => visS k w st) st) := by
        intro l
        induction l with
        | nil => intro _ st h; exact h
        | cons k l ihl => intro hm st h; exact ihl (fun x hx => hm x (List.mem_cons_of_mem _ hx)) _ (ih k (hm k (by simp)) w st h)
      exact this ks (fun _ h => h) _ (ownS_few w p s _ way (hf.2 (by simpa using h)))
end Go.Eng.YtkenlcaifhffoaaDoor
end

/- Splits: slices.Contains; the check (b_ x_ q_ e_). -/
section
namespace Go.Eng
open Go
theorem ACalls.lendL {P : Program} {W : World} {α : Type} {V : α → PV} {M : α → Mem} {R : α → Prop} {f : FuncId} {args : List PV} {σ τ r : Mem} {k : PV → Mem → Prop} (h : ACalls P W f args τ (Gives V M R)) (hp : σ.Perm (r ++ τ)) (hk : ∀ x, R x → k (V x) (r ++ M x)) : ACalls P W f args σ k :=
  ACalls.weak (ACalls.lend h (hp.trans List.perm_append_comm) fun x hx => ⟨r ++ M x, hk x hx, [], by rw [List.append_nil]; exact List.perm_append_comm⟩)
theorem Pure.quietB {P : Program} {W : World} {f : FuncId} {args args' : List PV} {r : PV} {σ : Mem} (h : Pure P W f args' r) (hp : isPlain r = true) (hl : args.length = args'.length)
    (ha : ∀ i, i < args.length → Frz σ (args.getD i .dead) (args'.getD i .dead)) : Quiet P W f args σ r := ⟨fun _ hk => h.borrow hp hl ha hk⟩
end Go.Eng
namespace Go.Eng.YtkenlcaifhffoaaDoor
open Go Go.Eng Go.Proofs
variable (W : World)
set_option linter.unusedSimpArgs false
set_option maxRecDepth 100000
set_option linter.unusedVariables false
set_option maxHeartbeats 4000000
theorem idxOf_app {x : Int} (r : List Int) : ∀ {l : List Int}, x ∉ l → (l ++ x :: r).idxOf x = l.length
  | [], _ => by simp
  | y :: l, h => by
    rw [List.mem_cons, not_or] at h
    have e : (y == x) = false := by simp; exact fun c => h.1 c.symm
    rw [List.cons_append, List.idxOf_cons, e, idxOf_app r h.2]; rfl
def idxI (l : List Int) (x : Int) : Int := if x ∈ l then (l.idxOf x : Nat) else -1
theorem indexI_ok (l : List Int) (x : Int) (hl : (l.length : Int) ≤ 9223372036854775807) : Pure Tryd.prog W 33 [.sl 1 (l.map (PV.int .i64)), .int .i64 x] (.int .i64 (idxI l x)) := by
  refine Pure.of (acalls_of_vc (drawOk W) Tryd.func33 rfl (by decide) (by decide) rfl ?_)
  refine g0_ ?_
  refine' loopI (α := Nat) (fun i => [(8, .int .i64 i)]) [(0, _), (1, _), (7, _)] (fun i => []) (fun i => i ≤ l.length ∧ x ∉ l.take i) (fun i => l.length - i) 0 ?_ ?_
  · exact ⟨Nat.zero_le _, by simp⟩
  rintro i ⟨hi, hx⟩
  refine g0_ ?_
  refine brec ?_; intro c_ h1; (try rw [h1]); cases c_ <;> replace h1 := nm_ h1
  · have : i = l.length := by simp at h1; omega
    subst this
    rw [List.take_length] at hx
    refine g0_ ?_
    exact .of_eq (by rw [idxI, if_neg hx])
  · have hlt : i < l.length := by simp at h1; omega
    (refine g0_ ?_; repeat (refine em_ fun x_ hx_ => ?_; refine g0_ ?_))
    refine brec ?_; intro c_ h2; (try rw [h2]); cases c_ <;> replace h2 := nm_ h2
    · refine g0_ ?_
      refine nx_ (i + 1) ?_ ?_
      · exact ⟨hlt, by
          rw [take_snoc_of hx_, List.mem_append, not_or]
          refine ⟨hx, ?_⟩
          simp; omega⟩
      · omega
    · refine g0_ ?_
      refine .of_eq ?_
      have hm : x ∈ l := by
        have := List.mem_of_getElem? hx_
        rw [h2]; exact this
      have hio : l.idxOf x = i := by
        have e : l = l.take i ++ l.drop i := (List.take_append_drop i l).symm
        have e2 : l.drop i = x :: l.drop (i + 1) := by
          rw [List.drop_eq_getElem_cons hlt]
          have := (List.getElem?_eq_some_iff.1 hx_).2
          rw [this, h2]
        rw [e, e2, idxOf_app _ hx, List.length_take]
        omega
      rw [idxI, if_pos hm, hio]
theorem containsI_ok (l : List Int) (x : Int) (hl : (l.length : Int) ≤ 9223372036854775807) : Pure Tryd.prog W 45 [.sl 1 (l.map (PV.int .i64)), .int .i64 x] (.bool (decide (x ∈ l))) := by
  refine Pure.of (acalls_of_vc (drawOk W) Tryd.func45 rfl (by decide) (by decide) rfl ?_)
  refine g0_ ?_
  refine (indexI_ok W l x hl).use ?_; refine g0_ ?_
  refine .of_eq (congrArg PV.bool ?_)
  unfold idxI
  split
  · next h => simp [h]
  · next h => simp [h]
def seenB (b : Nat) (pv : PV) (code : Int) : Blk := ⟨b, .row 2 [.agg [pv, .int .i64 code]] 0⟩
def panesV (l : List Int) : List PV := l.map (PV.int .i64)
def seenM (b bo : Nat) (st : Int × List Int) : Mem := seenB b (accV bo 1 (panesV st.2)) st.1 :: accM bo 1 (panesV st.2)
theorem fail_ok (b : Nat) (pv : PV) (code e : Int) : ACalls Tryd.prog W 109 [.bref b 0, .int .i64 e] [seenB b pv code] (Gives (fun _ : Unit => .tup []) (fun _ => [seenB b pv (if code = 0 then e else code)]) (fun _ => True)) := by
  unfold seenB
  refine acalls_of_vc (drawOk W) Tryd.func109 rfl (by decide) (by decide) rfl ?_
  refine g0_ ?_
  refine brec ?_; intro c_ h; (try rw [h]); cases c_ <;> replace h := nm_ h
  · rw [if_neg h]
    refine g0_ ?_
    exact ⟨(), trivial, rfl, wk_⟩
  · rw [if_pos h]
    refine g0_ ?_
    exact ⟨(), trivial, rfl, wk_⟩
end Go.Eng.YtkenlcaifhffoaaDoor
end

/- Splits: visit, Check (b_ x_ q_ e_). -/
section
namespace Go.Eng.YtkenlcaifhffoaaDoor
open Go Go.Eng Go.Proofs
variable (W : World)
set_option linter.unusedSimpArgs false
set_option maxRecDepth 100000
set_option linter.unusedVariables false
set_option maxHeartbeats 4000000
theorem fail0_ok (b : Nat) (pv : PV) (e : Int) : ACalls Tryd.prog W 109 [.bref b 0, .int .i64 e] [⟨b, .row 2 [.agg [pv, .int .i64 0]] 0⟩] (Gives (fun _ : Unit => .tup []) (fun _ => [⟨b, .row 2 [.agg [pv, .int .i64 e]] 0⟩]) (fun _ => True)) := by
  have := fail_ok W b pv 0 e
  rwa [if_pos rfl] at this
theorem visit_ok (t : Spl) : t.ok → ∀ (way : Int) (b bo : Nat) (st : Int × List Int), fewS st →
    ACalls Tryd.prog W 83 [.bref b 0, encSpl t, .int .i64 way] (seenM b bo st) (Gives (fun _ : Nat => .tup []) (fun bo' => seenM b bo' (visS t way st)) (fun _ => True)) := by
  induction t using spl_induct with
  | h w p s ks ih =>
    rintro hok way b bo ⟨c, ps⟩ hfw
    obtain ⟨-, -, -, hks, hko⟩ := spl_ok.1 hok
    have hkl : (ks.map encSpl).length = ks.length := List.length_map _
    rw [encSpl_mk, visS_mk]
    by_cases hc : c = 0
    · subst hc
      simp only [ne_eq, not_true_eq_false, if_false]
      have hfo := ownS_few w p s ks.length way (ps := ps) (hfw.2 rfl)
      have hpl := hfw.2 rfl
      simp only at hpl
      generalize hR : List.foldl (fun st k => visS k w st) (ownS w p s ks.length way ps) ks = R
      rcases ps with _ | ⟨p0, ps⟩
      · by_cases h1 : s < 1 ∨ 9999 < s
        · rw [ownS, if_pos h1] at hR hfo
          refine acalls_of_vc (DM_ok (by decide)) Tryd.func83 rfl (by decide) (by decide) rfl ?_
          (refine g0_ ?_; repeat (refine n1_ fun b_ => ?_; refine g0_ ?_))
          revert b_
          intro bX
          refine g1_ ?_
          refine ACalls.lend1 (fail0_ok W b _ 4) lk_ ?_
          rintro _ -
          refine g0_ ?_
          refine' loopI (α := Nat × Nat × (Int × List Int)) (fun (i, b', st) => [(108, .int .i64 i)]) [(0, _), (4, _), (106, _), (107, _)] (fun (i, b', st) => ⟨bX, .row 4 [.agg [.int .i64 w, .int .i64 p, .int .i64 s, .sl 4 (ks.map encSpl)]] 0⟩ :: ⟨b, .row 2 [.agg [accV b' 1 (panesV st.2), .int .i64 st.1]] 0⟩ :: accM b' 1 (panesV st.2)) (fun (i, b', st) => i ≤ ks.length ∧ fewS st ∧ (ks.drop i).foldl (fun st k => visS k w st) st = R) (fun (i, b', st) => ks.length - i) (0, bo, (4, [])) ?_ ?_
          · exact ⟨Nat.zero_le _, hfo, hR⟩
          rintro ⟨i, b', st⟩ ⟨hi, hf, hR'⟩
          refine g0_ ?_
          refine brec ?_; intro c_ hlt; (try rw [hlt]); cases c_ <;> replace hlt := nm_ hlt
          · have : i = ks.length := by simp at hlt; omega
            subst this
            rw [List.drop_length] at hR'
            subst hR'
            refine g0_ ?_
            exact ⟨b', trivial, rfl, wk_⟩
          · have hil : i < ks.length := by simp at hlt; omega
            (refine g0_ ?_; repeat (refine em_ fun x_ hx_ => ?_; refine g0_ ?_))
            have hm := List.mem_of_getElem? hx_
            have hcall := ih x_ hm (hko _ hm) w b b' st hf
            have hstep : List.foldl (fun st k => visS k w st) (visS x_ w st) (List.drop (i + 1) ks) = R := by
              rw [← hR', List.drop_eq_getElem_cons hil, (List.getElem?_eq_some_iff.1 hx_).2]; rfl
            have hfs := visS_few x_ w st hf
            generalize visS x_ w st = st2 at *
            obtain ⟨w2, p2, s2, ks2⟩ := x_
            rw [encSpl_mk] at hcall ⊢
            (refine g0_ ?_; repeat (refine n1_ fun b_ => ?_; refine g0_ ?_))
            refine ACalls.lendL hcall (r := [_, _]) (.refl _) ?_
            rintro b2 -
            refine g0_ ?_
            refine nx_ (i + 1, b2, st2) ?_ ?_
            · exact ⟨hil, hfs, hstep⟩
            · ((try dsimp only); (try simp only [List.length_drop, List.length_take, List.length_append, List.length_cons, List.length_nil, List.length_map] at *); omega)
        · by_cases hw : w = 0
          · by_cases hk : 0 < ks.length
            · rw [ownS, if_neg h1, if_pos hw, if_pos hk] at hR hfo
              refine acalls_of_vc (DM_ok (by decide)) Tryd.func83 rfl (by decide) (by decide) rfl ?_
              (refine g0_ ?_; repeat (refine n1_ fun b_ => ?_; refine g0_ ?_))
              revert b_
              intro bX
              refine g1_ ?_
              refine ACalls.lend1 (fail0_ok W b _ 5) lk_ ?_
              rintro _ -
              refine g0_ ?_
              refine Draws11.tree ⟨12, [.new, .new, .new, .new, .new, .new, .new, .new, .turn, .skip, .skip, .skip], (.one 8 [.again, .keep, .keep, .keep, .keep, .keep, .keep, .keep, .keep, .new, .new, .turn] (.one 11 [.keep, .keep, .keep, .keep, .keep, .keep, .keep, .keep, .keep, .keep, .keep, .keep] .fin)), by decide +kernel, ?_⟩; (refine g0_ ?_; repeat (refine n1_ fun b_ => ?_; refine g0_ ?_))
              try rw [show (List.map (PV.int .i64) ps).length + 1 + [PV.int .i64 p].length = (List.map (PV.int .i64) (ps ++ [p])).length + 1 from by simp]
              try rw [show (PV.int .i64 p0 :: List.map (PV.int .i64) ps) ++ [PV.int .i64 p] = panesV (p0 :: ps ++ [p]) from by simp [panesV]]
              refine' loopI (α := Nat × Nat × (Int × List Int)) (fun (i, b', st) => [(108, .int .i64 i)]) [(0, _), (4, _), (106, _), (107, _)] (fun (i, b', st) => ⟨bX, .row 4 [.agg [.int .i64 w, .int .i64 p, .int .i64 s, .sl 4 (ks.map encSpl)]] 0⟩ :: ⟨b, .row 2 [.agg [accV b' 1 (panesV st.2), .int .i64 st.1]] 0⟩ :: accM b' 1 (panesV st.2)) (fun (i, b', st) => i ≤ ks.length ∧ fewS st ∧ (ks.drop i).foldl (fun st k => visS k w st) st = R) (fun (i, b', st) => ks.length - i) (0, b_, (5, [] ++ [p])) ?_ ?_
              · exact ⟨Nat.zero_le _, hfo, hR⟩
              rintro ⟨i, b', st⟩ ⟨hi, hf, hR'⟩
              refine g0_ ?_
              refine brec ?_; intro c_ hlt; (try rw [hlt]); cases c_ <;> replace hlt := nm_ hlt
              · have : i = ks.length := by simp at hlt; omega
                subst this
                rw [List.drop_length] at hR'
                subst hR'
                refine g0_ ?_
                exact ⟨b', trivial, rfl, wk_⟩
              · have hil : i < ks.length := by simp at hlt; omega
                (refine g0_ ?_; repeat (refine em_ fun x_ hx_ => ?_; refine g0_ ?_))
                have hm := List.mem_of_getElem? hx_
                have hcall := ih x_ hm (hko _ hm) w b b' st hf
                have hstep : List.foldl (fun st k => visS k w st) (visS x_ w st) (List.drop (i + 1) ks) = R := by
                  rw [← hR', List.drop_eq_getElem_cons hil, (List.getElem?_eq_some_iff.1 hx_).2]; rfl
                have hfs := visS_few x_ w st hf
                generalize visS x_ w st = st2 at *
                obtain ⟨w2, p2, s2, ks2⟩ := x_
                rw [encSpl_mk] at hcall ⊢
                (refine g0_ ?_; repeat (refine n1_ fun b_ => ?_; refine g0_ ?_))
                refine ACalls.lendL hcall (r := [_, _]) (.refl _) ?_
                rintro b2 -
                refine g0_ ?_
                refine nx_ (i + 1, b2, st2) ?_ ?_
                · exact ⟨hil, hfs, hstep⟩
                · ((try dsimp only); (try simp only [List.length_drop, List.length_take, List.length_append, List.length_cons, List.length_nil, List.length_map] at *); omega)
            · by_cases h2 : p < 1 ∨ 9999 < p
              · rw [ownS, if_neg h1, if_pos hw, if_neg hk, if_pos h2] at hR hfo
                refine acalls_of_vc (DM_ok (by decide)) Tryd.func83 rfl (by decide) (by decide) rfl ?_
                (refine g0_ ?_; repeat (refine n1_ fun b_ => ?_; refine g0_ ?_))
                revert b_
                intro bX
                refine g1_ ?_
                refine ACalls.lend1 (fail0_ok W b _ 4) lk_ ?_
                rintro _ -
                refine g0_ ?_
                refine Draws11.tree ⟨12, [.new, .new, .new, .new, .new, .new, .new, .new, .turn, .skip, .skip, .skip], (.one 8 [.again, .keep, .keep, .keep, .keep, .keep, .keep, .keep, .keep, .new, .new, .turn] (.one 11 [.keep, .keep, .keep, .keep, .keep, .keep, .keep, .keep, .keep, .keep, .keep, .keep] .fin)), by decide +kernel, ?_⟩; (refine g0_ ?_; repeat (refine n1_ fun b_ => ?_; refine g0_ ?_))
                try rw [show (List.map (PV.int .i64) ps).length + 1 + [PV.int .i64 p].length = (List.map (PV.int .i64) (ps ++ [p])).length + 1 from by simp]
                try rw [show (PV.int .i64 p0 :: List.map (PV.int .i64) ps) ++ [PV.int .i64 p] = panesV (p0 :: ps ++ [p]) from by simp [panesV]]
                refine' loopI (α := Nat × Nat × (Int × List Int)) (fun (i, b', st) => [(108, .int .i64 i)]) [(0, _), (4, _), (106, _), (107, _)] (fun (i, b', st) => ⟨bX, .row 4 [.agg [.int .i64 w, .int .i64 p, .int .i64 s, .sl 4 (ks.map encSpl)]] 0⟩ :: ⟨b, .row 2 [.agg [accV b' 1 (panesV st.2), .int .i64 st.1]] 0⟩ :: accM b' 1 (panesV st.2)) (fun (i, b', st) => i ≤ ks.length ∧ fewS st ∧ (ks.drop i).foldl (fun st k => visS k w st) st = R) (fun (i, b', st) => ks.length - i) (0, b_, (4, [] ++ [p])) ?_ ?_
                · exact ⟨Nat.zero_le _, hfo, hR⟩
                rintro ⟨i, b', st⟩ ⟨hi, hf, hR'⟩
                refine g0_ ?_
                refine brec ?_; intro c_ hlt; (try rw [hlt]); cases c_ <;> replace hlt := nm_ hlt
                · have : i = ks.length := by simp at hlt; omega
                  subst this
                  rw [List.drop_length] at hR'
                  subst hR'
                  refine g0_ ?_
                  exact ⟨b', trivial, rfl, wk_⟩
                · have hil : i < ks.length := by simp at hlt; omega
                  (refine g0_ ?_; repeat (refine em_ fun x_ hx_ => ?_; refine g0_ ?_))
                  have hm := List.mem_of_getElem? hx_
                  have hcall := ih x_ hm (hko _ hm) w b b' st hf
                  have hstep : List.foldl (fun st k => visS k w st) (visS x_ w st) (List.drop (i + 1) ks) = R := by
                    rw [← hR', List.drop_eq_getElem_cons hil, (List.getElem?_eq_some_iff.1 hx_).2]; rfl
                  have hfs := visS_few x_ w st hf
                  generalize visS x_ w st = st2 at *
                  obtain ⟨w2, p2, s2, ks2⟩ := x_
                  rw [encSpl_mk] at hcall ⊢
                  (refine g0_ ?_; repeat (refine n1_ fun b_ => ?_; refine g0_ ?_))
                  refine ACalls.lendL hcall (r := [_, _]) (.refl _) ?_
                  rintro b2 -
                  refine g0_ ?_
                  refine nx_ (i + 1, b2, st2) ?_ ?_
                  · exact ⟨hil, hfs, hstep⟩
                  · ((try dsimp only); (try simp only [List.length_drop, List.length_take, List.length_append, List.length_cons, List.length_nil, List.length_map] at *); omega)
              · have hct := containsI_ok W [] p (by simp)
                rw [decide_eq_false (by simp)] at hct
                rw [ownS, if_neg h1, if_pos hw, if_neg hk, if_neg h2, if_neg (by simp), if_neg (by simp)] at hR hfo
                refine acalls_of_vc (DM_ok (by decide)) Tryd.func83 rfl (by decide) (by decide) rfl ?_
                (refine g0_ ?_; repeat (refine n1_ fun b_ => ?_; refine g0_ ?_))
                revert b_
                intro bX
                refine g1_ ?_
                refine headT_ (head_ ?_); refine g0_ ?_
                refine ⟨_, hct.quietB rfl rfl (fun j hj => ?_), ?_⟩
                · match j, hj with
                  | 0, _ => exact .nils 1
                  | 1, _ => exact .refl _
                refine g0_ ?_
                refine g1_ ?_
                refine Draws11.tree ⟨12, [.new, .new, .new, .new, .new, .new, .new, .new, .turn, .skip, .skip, .skip], (.one 8 [.again, .keep, .keep, .keep, .keep, .keep, .keep, .keep, .keep, .new, .new, .turn] (.one 11 [.keep, .keep, .keep, .keep, .keep, .keep, .keep, .keep, .keep, .keep, .keep, .keep] .fin)), by decide +kernel, ?_⟩; (refine g0_ ?_; repeat (refine n1_ fun b_ => ?_; refine g0_ ?_))
                try rw [show (List.map (PV.int .i64) ps).length + 1 + [PV.int .i64 p].length = (List.map (PV.int .i64) (ps ++ [p])).length + 1 from by simp]
                try rw [show (PV.int .i64 p0 :: List.map (PV.int .i64) ps) ++ [PV.int .i64 p] = panesV (p0 :: ps ++ [p]) from by simp [panesV]]
                refine' loopI (α := Nat × Nat × (Int × List Int)) (fun (i, b', st) => [(108, .int .i64 i)]) [(0, _), (4, _), (106, _), (107, _)] (fun (i, b', st) => ⟨bX, .row 4 [.agg [.int .i64 w, .int .i64 p, .int .i64 s, .sl 4 (ks.map encSpl)]] 0⟩ :: ⟨b, .row 2 [.agg [accV b' 1 (panesV st.2), .int .i64 st.1]] 0⟩ :: accM b' 1 (panesV st.2)) (fun (i, b', st) => i ≤ ks.length ∧ fewS st ∧ (ks.drop i).foldl (fun st k => visS k w st) st = R) (fun (i, b', st) => ks.length - i) (0, b_, (0, [] ++ [p])) ?_ ?_
                · exact ⟨Nat.zero_le _, hfo, hR⟩
                rintro ⟨i, b', st⟩ ⟨hi, hf, hR'⟩
                refine g0_ ?_
                refine brec ?_; intro c_ hlt; (try rw [hlt]); cases c_ <;> replace hlt := nm_ hlt
                · have : i = ks.length := by simp at hlt; omega
                  subst this
                  rw [List.drop_length] at hR'
                  subst hR'
                  refine g0_ ?_
                  exact ⟨b', trivial, rfl, wk_⟩
                · have hil : i < ks.length := by simp at hlt; omega
                  (refine g0_ ?_; repeat (refine em_ fun x_ hx_ => ?_; refine g0_ ?_))
                  have hm := List.mem_of_getElem? hx_
                  have hcall := ih x_ hm (hko _ hm) w b b' st hf
                  have hstep : List.foldl (fun st k => visS k w st) (visS x_ w st) (List.drop (i + 1) ks) = R := by
                    rw [← hR', List.drop_eq_getElem_cons hil, (List.getElem?_eq_some_iff.1 hx_).2]; rfl
                  have hfs := visS_few x_ w st hf
                  generalize visS x_ w st = st2 at *
                  obtain ⟨w2, p2, s2, ks2⟩ := x_
                  rw [encSpl_mk] at hcall ⊢
                  (refine g0_ ?_; repeat (refine n1_ fun b_ => ?_; refine g0_ ?_))
                  refine ACalls.lendL hcall (r := [_, _]) (.refl _) ?_
                  rintro b2 -
                  refine g0_ ?_
                  refine nx_ (i + 1, b2, st2) ?_ ?_
                  · exact ⟨hil, hfs, hstep⟩
                  · ((try dsimp only); (try simp only [List.length_drop, List.length_take, List.length_append, List.length_cons, List.length_nil, List.length_map] at *); omega)
          · by_cases h5 : (w ≠ 1 ∧ w ≠ 2) ∨ w = way ∨ ks.length < 2 ∨ p ≠ 0
            · rw [ownS, if_neg h1, if_neg hw, if_pos h5] at hR hfo
              refine acalls_of_vc (DM_ok (by decide)) Tryd.func83 rfl (by decide) (by decide) rfl ?_
              (refine g0_ ?_; repeat (refine n1_ fun b_ => ?_; refine g0_ ?_))
              revert b_
              intro bX
              refine g1_ ?_
              refine ACalls.lend1 (fail0_ok W b _ 5) lk_ ?_
              rintro _ -
              refine g0_ ?_
              refine' loopI (α := Nat × Nat × (Int × List Int)) (fun (i, b', st) => [(108, .int .i64 i)]) [(0, _), (4, _), (106, _), (107, _)] (fun (i, b', st) => ⟨bX, .row 4 [.agg [.int .i64 w, .int .i64 p, .int .i64 s, .sl 4 (ks.map encSpl)]] 0⟩ :: ⟨b, .row 2 [.agg [accV b' 1 (panesV st.2), .int .i64 st.1]] 0⟩ :: accM b' 1 (panesV st.2)) (fun (i, b', st) => i ≤ ks.length ∧ fewS st ∧ (ks.drop i).foldl (fun st k => visS k w st) st = R) (fun (i, b', st) => ks.length - i) (0, bo, (5, [])) ?_ ?_
              · exact ⟨Nat.zero_le _, hfo, hR⟩
              rintro ⟨i, b', st⟩ ⟨hi, hf, hR'⟩
              refine g0_ ?_
              refine brec ?_; intro c_ hlt; (try rw [hlt]); cases c_ <;> replace hlt := nm_ hlt
              · have : i = ks.length := by simp at hlt; omega
                subst this
                rw [List.drop_length] at hR'
                subst hR'
                refine g0_ ?_
                exact ⟨b', trivial, rfl, wk_⟩
              · have hil : i < ks.length := by simp at hlt; omega
                (refine g0_ ?_; repeat (refine em_ fun x_ hx_ => ?_; refine g0_ ?_))
                have hm := List.mem_of_getElem? hx_
                have hcall := ih x_ hm (hko _ hm) w b b' st hf
                have hstep : List.foldl (fun st k => visS k w st) (visS x_ w st) (List.drop (i + 1) ks) = R := by
                  rw [← hR', List.drop_eq_getElem_cons hil, (List.getElem?_eq_some_iff.1 hx_).2]; rfl
                have hfs := visS_few x_ w st hf
                generalize visS x_ w st = st2 at *
                obtain ⟨w2, p2, s2, ks2⟩ := x_
                rw [encSpl_mk] at hcall ⊢
                (refine g0_ ?_; repeat (refine n1_ fun b_ => ?_; refine g0_ ?_))
                refine ACalls.lendL hcall (r := [_, _]) (.refl _) ?_
                rintro b2 -
                refine g0_ ?_
                refine nx_ (i + 1, b2, st2) ?_ ?_
                · exact ⟨hil, hfs, hstep⟩
                · ((try dsimp only); (try simp only [List.length_drop, List.length_take, List.length_append, List.length_cons, List.length_nil, List.length_map] at *); omega)
            · rw [ownS, if_neg h1, if_neg hw, if_neg h5] at hR hfo
              refine acalls_of_vc (DM_ok (by decide)) Tryd.func83 rfl (by decide) (by decide) rfl ?_
              (refine g0_ ?_; repeat (refine n1_ fun b_ => ?_; refine g0_ ?_))
              revert b_
              intro bX
              refine g1_ ?_
              refine' loopI (α := Nat × Nat × (Int × List Int)) (fun (i, b', st) => [(108, .int .i64 i)]) [(0, _), (4, _), (106, _), (107, _)] (fun (i, b', st) => ⟨bX, .row 4 [.agg [.int .i64 w, .int .i64 p, .int .i64 s, .sl 4 (ks.map encSpl)]] 0⟩ :: ⟨b, .row 2 [.agg [accV b' 1 (panesV st.2), .int .i64 st.1]] 0⟩ :: accM b' 1 (panesV st.2)) (fun (i, b', st) => i ≤ ks.length ∧ fewS st ∧ (ks.drop i).foldl (fun st k => visS k w st) st = R) (fun (i, b', st) => ks.length - i) (0, bo, (0, [])) ?_ ?_
              · exact ⟨Nat.zero_le _, hfo, hR⟩
              rintro ⟨i, b', st⟩ ⟨hi, hf, hR'⟩
              refine g0_ ?_
              refine brec ?_; intro c_ hlt; (try rw [hlt]); cases c_ <;> replace hlt := nm_ hlt
              · have : i = ks.length := by simp at hlt; omega
                subst this
                rw [List.drop_length] at hR'
                subst hR'
                refine g0_ ?_
                exact ⟨b', trivial, rfl, wk_⟩
              · have hil : i < ks.length := by simp at hlt; omega
                (refine g0_ ?_; repeat (refine em_ fun x_ hx_ => ?_; refine g0_ ?_))
                have hm := List.mem_of_getElem? hx_
                have hcall := ih x_ hm (hko _ hm) w b b' st hf
                have hstep : List.foldl (fun st k => visS k w st) (visS x_ w st) (List.drop (i + 1) ks) = R := by
                  rw [← hR', List.drop_eq_getElem_cons hil, (List.getElem?_eq_some_iff.1 hx_).2]; rfl
                have hfs := visS_few x_ w st hf
                generalize visS x_ w st = st2 at *
                obtain ⟨w2, p2, s2, ks2⟩ := x_
                rw [encSpl_mk] at hcall ⊢
                (refine g0_ ?_; repeat (refine n1_ fun b_ => ?_; refine g0_ ?_))
                refine ACalls.lendL hcall (r := [_, _]) (.refl _) ?_
                rintro b2 -
                refine g0_ ?_
                refine nx_ (i + 1, b2, st2) ?_ ?_
                · exact ⟨hil, hfs, hstep⟩
                · ((try dsimp only); (try simp only [List.length_drop, List.length_take, List.length_append, List.length_cons, List.length_nil, List.length_map] at *); omega)
      · simp only [List.length_cons] at hpl
        by_cases h1 : s < 1 ∨ 9999 < s
        · rw [ownS, if_pos h1] at hR hfo
          refine acalls_of_vc (DM_ok (by decide)) Tryd.func83 rfl (by decide) (by decide) rfl ?_
          (refine g0_ ?_; repeat (refine n1_ fun b_ => ?_; refine g0_ ?_))
          revert b_
          intro bX
          refine g1_ ?_
          refine ACalls.lend1 (fail0_ok W b _ 4) lk_ ?_
          rintro _ -
          refine g0_ ?_
          refine' loopI (α := Nat × Nat × (Int × List Int)) (fun (i, b', st) => [(108, .int .i64 i)]) [(0, _), (4, _), (106, _), (107, _)] (fun (i, b', st) => ⟨bX, .row 4 [.agg [.int .i64 w, .int .i64 p, .int .i64 s, .sl 4 (ks.map encSpl)]] 0⟩ :: ⟨b, .row 2 [.agg [accV b' 1 (panesV st.2), .int .i64 st.1]] 0⟩ :: accM b' 1 (panesV st.2)) (fun (i, b', st) => i ≤ ks.length ∧ fewS st ∧ (ks.drop i).foldl (fun st k => visS k w st) st = R) (fun (i, b', st) => ks.length - i) (0, bo, (4, (p0 :: ps))) ?_ ?_
          · exact ⟨Nat.zero_le _, hfo, hR⟩
          rintro ⟨i, b', st⟩ ⟨hi, hf, hR'⟩
          refine g0_ ?_
          refine brec ?_; intro c_ hlt; (try rw [hlt]); cases c_ <;> replace hlt := nm_ hlt
          · have : i = ks.length := by simp at hlt; omega
            subst this
            rw [List.drop_length] at hR'
            subst hR'
            refine g0_ ?_
            exact ⟨b', trivial, rfl, wk_⟩
          · have hil : i < ks.length := by simp at hlt; omega
            (refine g0_ ?_; repeat (refine em_ fun x_ hx_ => ?_; refine g0_ ?_))
            have hm := List.mem_of_getElem? hx_
            have hcall := ih x_ hm (hko _ hm) w b b' st hf
            have hstep : List.foldl (fun st k => visS k w st) (visS x_ w st) (List.drop (i + 1) ks) = R := by
              rw [← hR', List.drop_eq_getElem_cons hil, (List.getElem?_eq_some_iff.1 hx_).2]; rfl
            have hfs := visS_few x_ w st hf
            generalize visS x_ w st = st2 at *
            obtain ⟨w2, p2, s2, ks2⟩ := x_
            rw [encSpl_mk] at hcall ⊢
            (refine g0_ ?_; repeat (refine n1_ fun b_ => ?_; refine g0_ ?_))
            refine ACalls.lendL hcall (r := [_, _]) (.refl _) ?_
            rintro b2 -
            refine g0_ ?_
            refine nx_ (i + 1, b2, st2) ?_ ?_
            · exact ⟨hil, hfs, hstep⟩
            · ((try dsimp only); (try simp only [List.length_drop, List.length_take, List.length_append, List.length_cons, List.length_nil, List.length_map] at *); omega)
        · by_cases hw : w = 0
          · by_cases hk : 0 < ks.length
            · rw [ownS, if_neg h1, if_pos hw, if_pos hk] at hR hfo
              refine acalls_of_vc (DM_ok (by decide)) Tryd.func83 rfl (by decide) (by decide) rfl ?_
              (refine g0_ ?_; repeat (refine n1_ fun b_ => ?_; refine g0_ ?_))
              revert b_
              intro bX
              refine g1_ ?_
              refine ACalls.lend1 (fail0_ok W b _ 5) lk_ ?_
              rintro _ -
              refine g0_ ?_
              refine Draws11.tree ⟨12, [.new, .new, .new, .new, .new, .new, .new, .new, .turn, .skip, .skip, .skip], (.one 8 [.again, .keep, .keep, .keep, .keep, .keep, .keep, .keep, .keep, .new, .new, .turn] (.one 11 [.keep, .keep, .keep, .keep, .keep, .keep, .keep, .keep, .keep, .keep, .keep, .keep] .fin)), by decide +kernel, ?_⟩; (refine g0_ ?_; repeat (refine n2_ fun b_ => ?_; refine g0_ ?_))
              try rw [show (List.map (PV.int .i64) ps).length + 1 + [PV.int .i64 p].length = (List.map (PV.int .i64) (ps ++ [p])).length + 1 from by simp]
              try rw [show (PV.int .i64 p0 :: List.map (PV.int .i64) ps) ++ [PV.int .i64 p] = panesV (p0 :: ps ++ [p]) from by simp [panesV]]
              refine' loopI (α := Nat × Nat × (Int × List Int)) (fun (i, b', st) => [(108, .int .i64 i)]) [(0, _), (4, _), (106, _), (107, _)] (fun (i, b', st) => ⟨bX, .row 4 [.agg [.int .i64 w, .int .i64 p, .int .i64 s, .sl 4 (ks.map encSpl)]] 0⟩ :: ⟨b, .row 2 [.agg [accV b' 1 (panesV st.2), .int .i64 st.1]] 0⟩ :: accM b' 1 (panesV st.2)) (fun (i, b', st) => i ≤ ks.length ∧ fewS st ∧ (ks.drop i).foldl (fun st k => visS k w st) st = R) (fun (i, b', st) => ks.length - i) (0, b_, (5, (p0 :: ps) ++ [p])) ?_ ?_
              · exact ⟨Nat.zero_le _, hfo, hR⟩
              rintro ⟨i, b', st⟩ ⟨hi, hf, hR'⟩
              refine g0_ ?_
              refine brec ?_; intro c_ hlt; (try rw [hlt]); cases c_ <;> replace hlt := nm_ hlt
              · have : i = ks.length := by simp at hlt; omega
                subst this
                rw [List.drop_length] at hR'
                subst hR'
                refine g0_ ?_
                exact ⟨b', trivial, rfl, wk_⟩
              · have hil : i < ks.length := by simp at hlt; omega
                (refine g0_ ?_; repeat (refine em_ fun x_ hx_ => ?_; refine g0_ ?_))
                have hm := List.mem_of_getElem? hx_
                have hcall := ih x_ hm (hko _ hm) w b b' st hf
                have hstep : List.foldl (fun st k => visS k w st) (visS x_ w st) (List.drop (i + 1) ks) = R := by
                  rw [← hR', List.drop_eq_getElem_cons hil, (List.getElem?_eq_some_iff.1 hx_).2]; rfl
                have hfs := visS_few x_ w st hf
                generalize visS x_ w st = st2 at *
                obtain ⟨w2, p2, s2, ks2⟩ := x_
                rw [encSpl_mk] at hcall ⊢
                (refine g0_ ?_; repeat (refine n1_ fun b_ => ?_; refine g0_ ?_))
                refine ACalls.lendL hcall (r := [_, _]) (.refl _) ?_
                rintro b2 -
                refine g0_ ?_
                refine nx_ (i + 1, b2, st2) ?_ ?_
                · exact ⟨hil, hfs, hstep⟩
                · ((try dsimp only); (try simp only [List.length_drop, List.length_take, List.length_append, List.length_cons, List.length_nil, List.length_map] at *); omega)
            · by_cases h2 : p < 1 ∨ 9999 < p
              · rw [ownS, if_neg h1, if_pos hw, if_neg hk, if_pos h2] at hR hfo
                refine acalls_of_vc (DM_ok (by decide)) Tryd.func83 rfl (by decide) (by decide) rfl ?_
                (refine g0_ ?_; repeat (refine n1_ fun b_ => ?_; refine g0_ ?_))
                revert b_
                intro bX
                refine g1_ ?_
                refine ACalls.lend1 (fail0_ok W b _ 4) lk_ ?_
                rintro _ -
                refine g0_ ?_
                refine Draws11.tree ⟨12, [.new, .new, .new, .new, .new, .new, .new, .new, .turn, .skip, .skip, .skip], (.one 8 [.again, .keep, .keep, .keep, .keep, .keep, .keep, .keep, .keep, .new, .new, .turn] (.one 11 [.keep, .keep, .keep, .keep, .keep, .keep, .keep, .keep, .keep, .keep, .keep, .keep] .fin)), by decide +kernel, ?_⟩; (refine g0_ ?_; repeat (refine n2_ fun b_ => ?_; refine g0_ ?_))
                try rw [show (List.map (PV.int .i64) ps).length + 1 + [PV.int .i64 p].length = (List.map (PV.int .i64) (ps ++ [p])).length + 1 from by simp]
                try rw [show (PV.int .i64 p0 :: List.map (PV.int .i64) ps) ++ [PV.int .i64 p] = panesV (p0 :: ps ++ [p]) from by simp [panesV]]
                refine' loopI (α := Nat × Nat × (Int × List Int)) (fun (i, b', st) => [(108, .int .i64 i)]) [(0, _), (4, _), (106, _), (107, _)] (fun (i, b', st) => ⟨bX, .row 4 [.agg [.int .i64 w, .int .i64 p, .int .i64 s, .sl 4 (ks.map encSpl)]] 0⟩ :: ⟨b, .row 2 [.agg [accV b' 1 (panesV st.2), .int .i64 st.1]] 0⟩ :: accM b' 1 (panesV st.2)) (fun (i, b', st) => i ≤ ks.length ∧ fewS st ∧ (ks.drop i).foldl (fun st k => visS k w st) st = R) (fun (i, b', st) => ks.length - i) (0, b_, (4, (p0 :: ps) ++ [p])) ?_ ?_
                · exact ⟨Nat.zero_le _, hfo, hR⟩
                rintro ⟨i, b', st⟩ ⟨hi, hf, hR'⟩
                refine g0_ ?_
                refine brec ?_; intro c_ hlt; (try rw [hlt]); cases c_ <;> replace hlt := nm_ hlt
                · have : i = ks.length := by simp at hlt; omega
                  subst this
                  rw [List.drop_length] at hR'
                  subst hR'
                  refine g0_ ?_
                  exact ⟨b', trivial, rfl, wk_⟩
                · have hil : i < ks.length := by simp at hlt; omega
                  (refine g0_ ?_; repeat (refine em_ fun x_ hx_ => ?_; refine g0_ ?_))
                  have hm := List.mem_of_getElem? hx_
                  have hcall := ih x_ hm (hko _ hm) w b b' st hf
                  have hstep : List.foldl (fun st k => visS k w st) (visS x_ w st) (List.drop (i + 1) ks) = R := by
                    rw [← hR', List.drop_eq_getElem_cons hil, (List.getElem?_eq_some_iff.1 hx_).2]; rfl
                  have hfs := visS_few x_ w st hf
                  generalize visS x_ w st = st2 at *
                  obtain ⟨w2, p2, s2, ks2⟩ := x_
                  rw [encSpl_mk] at hcall ⊢
                  (refine g0_ ?_; repeat (refine n1_ fun b_ => ?_; refine g0_ ?_))
                  refine ACalls.lendL hcall (r := [_, _]) (.refl _) ?_
                  rintro b2 -
                  refine g0_ ?_
                  refine nx_ (i + 1, b2, st2) ?_ ?_
                  · exact ⟨hil, hfs, hstep⟩
                  · ((try dsimp only); (try simp only [List.length_drop, List.length_take, List.length_append, List.length_cons, List.length_nil, List.length_map] at *); omega)
              · have hct := containsI_ok W (p0 :: ps) p (by simp only [List.length_cons, List.length_nil]; omega)
                by_cases h3 : p ∈ (p0 :: ps)
                · rw [ownS, if_neg h1, if_pos hw, if_neg hk, if_neg h2, if_pos h3] at hR hfo
                  rw [decide_eq_true h3] at hct
                  refine acalls_of_vc (DM_ok (by decide)) Tryd.func83 rfl (by decide) (by decide) rfl ?_
                  (refine g0_ ?_; repeat (refine n1_ fun b_ => ?_; refine g0_ ?_))
                  revert b_
                  intro bX
                  refine g1_ ?_
                  refine headT_ (head_ ?_); refine g0_ ?_
                  refine ⟨_, hct.quietB rfl rfl (fun j hj => ?_), ?_⟩
                  · match j, hj with
                    | 0, _ => exact frz_row lk_ _ rfl
                    | 1, _ => exact .refl _
                  refine g0_ ?_
                  refine g1_ ?_
                  refine ACalls.lend1 (fail0_ok W b _ 7) lk_ ?_
                  rintro _ -
                  refine g0_ ?_
                  refine Draws11.tree ⟨12, [.new, .new, .new, .new, .new, .new, .new, .new, .turn, .skip, .skip, .skip], (.one 8 [.again, .keep, .keep, .keep, .keep, .keep, .keep, .keep, .keep, .new, .new, .turn] (.one 11 [.keep, .keep, .keep, .keep, .keep, .keep, .keep, .keep, .keep, .keep, .keep, .keep] .fin)), by decide +kernel, ?_⟩; (refine g0_ ?_; repeat (refine n2_ fun b_ => ?_; refine g0_ ?_))
                  try rw [show (List.map (PV.int .i64) ps).length + 1 + [PV.int .i64 p].length = (List.map (PV.int .i64) (ps ++ [p])).length + 1 from by simp]
                  try rw [show (PV.int .i64 p0 :: List.map (PV.int .i64) ps) ++ [PV.int .i64 p] = panesV (p0 :: ps ++ [p]) from by simp [panesV]]
                  refine' loopI (α := Nat × Nat × (Int × List Int)) (fun (i, b', st) => [(108, .int .i64 i)]) [(0, _), (4, _), (106, _), (107, _)] (fun (i, b', st) => ⟨bX, .row 4 [.agg [.int .i64 w, .int .i64 p, .int .i64 s, .sl 4 (ks.map encSpl)]] 0⟩ :: ⟨b, .row 2 [.agg [accV b' 1 (panesV st.2), .int .i64 st.1]] 0⟩ :: accM b' 1 (panesV st.2)) (fun (i, b', st) => i ≤ ks.length ∧ fewS st ∧ (ks.drop i).foldl (fun st k => visS k w st) st = R) (fun (i, b', st) => ks.length - i) (0, b_, (7, (p0 :: ps) ++ [p])) ?_ ?_
                  · exact ⟨Nat.zero_le _, hfo, hR⟩
                  rintro ⟨i, b', st⟩ ⟨hi, hf, hR'⟩
                  refine g0_ ?_
                  refine brec ?_; intro c_ hlt; (try rw [hlt]); cases c_ <;> replace hlt := nm_ hlt
                  · have : i = ks.length := by simp at hlt; omega
                    subst this
                    rw [List.drop_length] at hR'
                    subst hR'
                    refine g0_ ?_
                    exact ⟨b', trivial, rfl, wk_⟩
                  · have hil : i < ks.length := by simp at hlt; omega
                    (refine g0_ ?_; repeat (refine em_ fun x_ hx_ => ?_; refine g0_ ?_))
                    have hm := List.mem_of_getElem? hx_
                    have hcall := ih x_ hm (hko _ hm) w b b' st hf
                    have hstep : List.foldl (fun st k => visS k w st) (visS x_ w st) (List.drop (i + 1) ks) = R := by
                      rw [← hR', List.drop_eq_getElem_cons hil, (List.getElem?_eq_some_iff.1 hx_).2]; rfl
                    have hfs := visS_few x_ w st hf
                    generalize visS x_ w st = st2 at *
                    obtain ⟨w2, p2, s2, ks2⟩ := x_
                    rw [encSpl_mk] at hcall ⊢
                    (refine g0_ ?_; repeat (refine n1_ fun b_ => ?_; refine g0_ ?_))
                    refine ACalls.lendL hcall (r := [_, _]) (.refl _) ?_
                    rintro b2 -
                    refine g0_ ?_
                    refine nx_ (i + 1, b2, st2) ?_ ?_
                    · exact ⟨hil, hfs, hstep⟩
                    · ((try dsimp only); (try simp only [List.length_drop, List.length_take, List.length_append, List.length_cons, List.length_nil, List.length_map] at *); omega)
                · rw [decide_eq_false h3] at hct
                  by_cases h4 : ((p0 :: ps) : List Int).length = 12
                  · rw [ownS, if_neg h1, if_pos hw, if_neg hk, if_neg h2, if_neg h3, if_pos h4] at hR hfo
                    refine acalls_of_vc (DM_ok (by decide)) Tryd.func83 rfl (by decide) (by decide) rfl ?_
                    (refine g0_ ?_; repeat (refine n1_ fun b_ => ?_; refine g0_ ?_))
                    revert b_
                    intro bX
                    refine g1_ ?_
                    refine headT_ (head_ ?_); refine g0_ ?_
                    refine ⟨_, hct.quietB rfl rfl (fun j hj => ?_), ?_⟩
                    · match j, hj with
                      | 0, _ => exact frz_row lk_ _ rfl
                      | 1, _ => exact .refl _
                    refine g0_ ?_
                    refine g1_ ?_
                    refine ACalls.lend1 (fail0_ok W b _ 2) lk_ ?_
                    rintro _ -
                    refine g0_ ?_
                    refine Draws11.tree ⟨12, [.new, .new, .new, .new, .new, .new, .new, .new, .turn, .skip, .skip, .skip], (.one 8 [.again, .keep, .keep, .keep, .keep, .keep, .keep, .keep, .keep, .new, .new, .turn] (.one 11 [.keep, .keep, .keep, .keep, .keep, .keep, .keep, .keep, .keep, .keep, .keep, .keep] .fin)), by decide +kernel, ?_⟩; (refine g0_ ?_; repeat (refine n2_ fun b_ => ?_; refine g0_ ?_))
                    try rw [show (List.map (PV.int .i64) ps).length + 1 + [PV.int .i64 p].length = (List.map (PV.int .i64) (ps ++ [p])).length + 1 from by simp]
                    try rw [show (PV.int .i64 p0 :: List.map (PV.int .i64) ps) ++ [PV.int .i64 p] = panesV (p0 :: ps ++ [p]) from by simp [panesV]]
                    refine' loopI (α := Nat × Nat × (Int × List Int)) (fun (i, b', st) => [(108, .int .i64 i)]) [(0, _), (4, _), (106, _), (107, _)] (fun (i, b', st) => ⟨bX, .row 4 [.agg [.int .i64 w, .int .i64 p, .int .i64 s, .sl 4 (ks.map encSpl)]] 0⟩ :: ⟨b, .row 2 [.agg [accV b' 1 (panesV st.2), .int .i64 st.1]] 0⟩ :: accM b' 1 (panesV st.2)) (fun (i, b', st) => i ≤ ks.length ∧ fewS st ∧ (ks.drop i).foldl (fun st k => visS k w st) st = R) (fun (i, b', st) => ks.length - i) (0, b_, (2, (p0 :: ps) ++ [p])) ?_ ?_
                    · exact ⟨Nat.zero_le _, hfo, hR⟩
                    rintro ⟨i, b', st⟩ ⟨hi, hf, hR'⟩
                    refine g0_ ?_
                    refine brec ?_; intro c_ hlt; (try rw [hlt]); cases c_ <;> replace hlt := nm_ hlt
                    · have : i = ks.length := by simp at hlt; omega
                      subst this
                      rw [List.drop_length] at hR'
                      subst hR'
                      refine g0_ ?_
                      exact ⟨b', trivial, rfl, wk_⟩
                    · have hil : i < ks.length := by simp at hlt; omega
                      (refine g0_ ?_; repeat (refine em_ fun x_ hx_ => ?_; refine g0_ ?_))
                      have hm := List.mem_of_getElem? hx_
                      have hcall := ih x_ hm (hko _ hm) w b b' st hf
                      have hstep : List.foldl (fun st k => visS k w st) (visS x_ w st) (List.drop (i + 1) ks) = R := by
                        rw [← hR', List.drop_eq_getElem_cons hil, (List.getElem?_eq_some_iff.1 hx_).2]; rfl
                      have hfs := visS_few x_ w st hf
                      generalize visS x_ w st = st2 at *
                      obtain ⟨w2, p2, s2, ks2⟩ := x_
                      rw [encSpl_mk] at hcall ⊢
                      (refine g0_ ?_; repeat (refine n1_ fun b_ => ?_; refine g0_ ?_))
                      refine ACalls.lendL hcall (r := [_, _]) (.refl _) ?_
                      rintro b2 -
                      refine g0_ ?_
                      refine nx_ (i + 1, b2, st2) ?_ ?_
                      · exact ⟨hil, hfs, hstep⟩
                      · ((try dsimp only); (try simp only [List.length_drop, List.length_take, List.length_append, List.length_cons, List.length_nil, List.length_map] at *); omega)
                  · rw [ownS, if_neg h1, if_pos hw, if_neg hk, if_neg h2, if_neg h3, if_neg h4] at hR hfo
                    have h4' : ¬ ps.length + 1 = 12 := by simpa using h4
                    have hlm : (List.map (PV.int .i64) ps).length = ps.length := List.length_map _
                    refine acalls_of_vc (DM_ok (by decide)) Tryd.func83 rfl (by decide) (by decide) rfl ?_
                    (refine g0_ ?_; repeat (refine n1_ fun b_ => ?_; refine g0_ ?_))
                    revert b_
                    intro bX
                    refine g1_ ?_
                    refine headT_ (head_ ?_); refine g0_ ?_
                    refine ⟨_, hct.quietB rfl rfl (fun j hj => ?_), ?_⟩
                    · match j, hj with
                      | 0, _ => exact frz_row lk_ _ rfl
                      | 1, _ => exact .refl _
                    refine g0_ ?_
                    refine g1_ ?_
                    refine Draws11.tree ⟨12, [.new, .new, .new, .new, .new, .new, .new, .new, .turn, .skip, .skip, .skip], (.one 8 [.again, .keep, .keep, .keep, .keep, .keep, .keep, .keep, .keep, .new, .new, .turn] (.one 11 [.keep, .keep, .keep, .keep, .keep, .keep, .keep, .keep, .keep, .keep, .keep, .keep] .fin)), by decide +kernel, ?_⟩; (refine g0_ ?_; repeat (refine n2_ fun b_ => ?_; refine g0_ ?_))
                    try rw [show (List.map (PV.int .i64) ps).length + 1 + [PV.int .i64 p].length = (List.map (PV.int .i64) (ps ++ [p])).length + 1 from by simp]
                    try rw [show (PV.int .i64 p0 :: List.map (PV.int .i64) ps) ++ [PV.int .i64 p] = panesV (p0 :: ps ++ [p]) from by simp [panesV]]
                    refine' loopI (α := Nat × Nat × (Int × List Int)) (fun (i, b', st) => [(108, .int .i64 i)]) [(0, _), (4, _), (106, _), (107, _)] (fun (i, b', st) => ⟨bX, .row 4 [.agg [.int .i64 w, .int .i64 p, .int .i64 s, .sl 4 (ks.map encSpl)]] 0⟩ :: ⟨b, .row 2 [.agg [accV b' 1 (panesV st.2), .int .i64 st.1]] 0⟩ :: accM b' 1 (panesV st.2)) (fun (i, b', st) => i ≤ ks.length ∧ fewS st ∧ (ks.drop i).foldl (fun st k => visS k w st) st = R) (fun (i, b', st) => ks.length - i) (0, b_, (0, (p0 :: ps) ++ [p])) ?_ ?_
                    · exact ⟨Nat.zero_le _, hfo, hR⟩
                    rintro ⟨i, b', st⟩ ⟨hi, hf, hR'⟩
                    refine g0_ ?_
                    refine brec ?_; intro c_ hlt; (try rw [hlt]); cases c_ <;> replace hlt := nm_ hlt
                    · have : i = ks.length := by simp at hlt; omega
                      subst this
                      rw [List.drop_length] at hR'
                      subst hR'
                      refine g0_ ?_
                      exact ⟨b', trivial, rfl, wk_⟩
                    · have hil : i < ks.length := by simp at hlt; omega
                      (refine g0_ ?_; repeat (refine em_ fun x_ hx_ => ?_; refine g0_ ?_))
                      have hm := List.mem_of_getElem? hx_
                      have hcall := ih x_ hm (hko _ hm) w b b' st hf
                      have hstep : List.foldl (fun st k => visS k w st) (visS x_ w st) (List.drop (i + 1) ks) = R := by
                        rw [← hR', List.drop_eq_getElem_cons hil, (List.getElem?_eq_some_iff.1 hx_).2]; rfl
                      have hfs := visS_few x_ w st hf
                      generalize visS x_ w st = st2 at *
                      obtain ⟨w2, p2, s2, ks2⟩ := x_
                      rw [encSpl_mk] at hcall ⊢
                      (refine g0_ ?_; repeat (refine n1_ fun b_ => ?_; refine g0_ ?_))
                      refine ACalls.lendL hcall (r := [_, _]) (.refl _) ?_
                      rintro b2 -
                      refine g0_ ?_
                      refine nx_ (i + 1, b2, st2) ?_ ?_
                      · exact ⟨hil, hfs, hstep⟩
                      · ((try dsimp only); (try simp only [List.length_drop, List.length_take, List.length_append, List.length_cons, List.length_nil, List.length_map] at *); omega)
          · by_cases h5 : (w ≠ 1 ∧ w ≠ 2) ∨ w = way ∨ ks.length < 2 ∨ p ≠ 0
            · rw [ownS, if_neg h1, if_neg hw, if_pos h5] at hR hfo
              refine acalls_of_vc (DM_ok (by decide)) Tryd.func83 rfl (by decide) (by decide) rfl ?_
              (refine g0_ ?_; repeat (refine n1_ fun b_ => ?_; refine g0_ ?_))
              revert b_
              intro bX
              refine g1_ ?_
              refine ACalls.lend1 (fail0_ok W b _ 5) lk_ ?_
              rintro _ -
              refine g0_ ?_
              refine' loopI (α := Nat × Nat × (Int × List Int)) (fun (i, b', st) => [(108, .int .i64 i)]) [(0, _), (4, _), (106, _), (107, _)] (fun (i, b', st) => ⟨bX, .row 4 [.agg [.int .i64 w, .int .i64 p, .int .i64 s, .sl 4 (ks.map encSpl)]] 0⟩ :: ⟨b, .row 2 [.agg [accV b' 1 (panesV st.2), .int .i64 st.1]] 0⟩ :: accM b' 1 (panesV st.2)) (fun (i, b', st) => i ≤ ks.length ∧ fewS st ∧ (ks.drop i).foldl (fun st k => visS k w st) st = R) (fun (i, b', st) => ks.length - i) (0, bo, (5, (p0 :: ps))) ?_ ?_
              · exact ⟨Nat.zero_le _, hfo, hR⟩
              rintro ⟨i, b', st⟩ ⟨hi, hf, hR'⟩
              refine g0_ ?_
              refine brec ?_; intro c_ hlt; (try rw [hlt]); cases c_ <;> replace hlt := nm_ hlt
              · have : i = ks.length := by simp at hlt; omega
                subst this
                rw [List.drop_length] at hR'
                subst hR'
                refine g0_ ?_
                exact ⟨b', trivial, rfl, wk_⟩
              · have hil : i < ks.length := by simp at hlt; omega
                (refine g0_ ?_; repeat (refine em_ fun x_ hx_ => ?_; refine g0_ ?_))
                have hm := List.mem_of_getElem? hx_
                have hcall := ih x_ hm (hko _ hm) w b b' st hf
                have hstep : List.foldl (fun st k => visS k w st) (visS x_ w st) (List.drop (i + 1) ks) = R := by
                  rw [← hR', List.drop_eq_getElem_cons hil, (List.getElem?_eq_some_iff.1 hx_).2]; rfl
                have hfs := visS_few x_ w st hf
                generalize visS x_ w st = st2 at *
                obtain ⟨w2, p2, s2, ks2⟩ := x_
                rw [encSpl_mk] at hcall ⊢
                (refine g0_ ?_; repeat (refine n1_ fun b_ => ?_; refine g0_ ?_))
                refine ACalls.lendL hcall (r := [_, _]) (.refl _) ?_
                rintro b2 -
                refine g0_ ?_
                refine nx_ (i + 1, b2, st2) ?_ ?_
                · exact ⟨hil, hfs, hstep⟩
                · ((try dsimp only); (try simp only [List.length_drop, List.length_take, List.length_append, List.length_cons, List.length_nil, List.length_map] at *); omega)
            · rw [ownS, if_neg h1, if_neg hw, if_neg h5] at hR hfo
              refine acalls_of_vc (DM_ok (by decide)) Tryd.func83 rfl (by decide) (by decide) rfl ?_
              (refine g0_ ?_; repeat (refine n1_ fun b_ => ?_; refine g0_ ?_))
              revert b_
              intro bX
              refine g1_ ?_
              refine' loopI (α := Nat × Nat × (Int × List Int)) (fun (i, b', st) => [(108, .int .i64 i)]) [(0, _), (4, _), (106, _), (107, _)] (fun (i, b', st) => ⟨bX, .row 4 [.agg [.int .i64 w, .int .i64 p, .int .i64 s, .sl 4 (ks.map encSpl)]] 0⟩ :: ⟨b, .row 2 [.agg [accV b' 1 (panesV st.2), .int .i64 st.1]] 0⟩ :: accM b' 1 (panesV st.2)) (fun (i, b', st) => i ≤ ks.length ∧ fewS st ∧ (ks.drop i).foldl (fun st k => visS k w st) st = R) (fun (i, b', st) => ks.length - i) (0, bo, (0, (p0 :: ps))) ?_ ?_
              · exact ⟨Nat.zero_le _, hfo, hR⟩
              rintro ⟨i, b', st⟩ ⟨hi, hf, hR'⟩
              refine g0_ ?_
              refine brec ?_; intro c_ hlt; (try rw [hlt]); cases c_ <;> replace hlt := nm_ hlt
              · have : i = ks.length := by simp at hlt; omega
                subst this
                rw [List.drop_length] at hR'
                subst hR'
                refine g0_ ?_
                exact ⟨b', trivial, rfl, wk_⟩
              · have hil : i < ks.length := by simp at hlt; omega
                (refine g0_ ?_; repeat (refine em_ fun x_ hx_ => ?_; refine g0_ ?_))
                have hm := List.mem_of_getElem? hx_
                have hcall := ih x_ hm (hko _ hm) w b b' st hf
                have hstep : List.foldl (fun st k => visS k w st) (visS x_ w st) (List.drop (i + 1) ks) = R := by
                  rw [← hR', List.drop_eq_getElem_cons hil, (List.getElem?_eq_some_iff.1 hx_).2]; rfl
                have hfs := visS_few x_ w st hf
                generalize visS x_ w st = st2 at *
                obtain ⟨w2, p2, s2, ks2⟩ := x_
                rw [encSpl_mk] at hcall ⊢
                (refine g0_ ?_; repeat (refine n1_ fun b_ => ?_; refine g0_ ?_))
                refine ACalls.lendL hcall (r := [_, _]) (.refl _) ?_
                rintro b2 -
                refine g0_ ?_
                refine nx_ (i + 1, b2, st2) ?_ ?_
                · exact ⟨hil, hfs, hstep⟩
                · ((try dsimp only); (try simp only [List.length_drop, List.length_take, List.length_append, List.length_cons, List.length_nil, List.length_map] at *); omega)
    · simp only [ne_eq, hc, not_false_eq_true, if_true]
      refine acalls_of_vc (DM_ok (by decide)) Tryd.func83 rfl (by decide) (by decide) rfl ?_
      (refine g0_ ?_; repeat (refine n1_ fun b_ => ?_; refine g0_ ?_))
      refine g1_ ?_
      exact ⟨bo, trivial, rfl, wk_⟩
theorem fewS0 : fewS (0, []) := ⟨by decide, fun _ => by decide⟩
theorem checkS_ok (t : Spl) (ht : t.ok) : Pure Tryd.prog W 44 [encSpl t] (.int .i64 (visS t 0 (0, [])).1) := by
  have hv := visit_ok W t ht 0
  obtain ⟨w, p, s, ks⟩ := t
  rw [encSpl_mk] at hv ⊢
  refine Pure.of (acalls_of_vc (drawOk W) Tryd.func44 rfl (by decide) (by decide) rfl ?_)
  (refine g0_ ?_; repeat (refine n1_ fun b_ => ?_; refine g0_ ?_))
  refine ACalls.lendL (hv _ 0 (0, []) fewS0) (r := [_]) (.swap _ _ _) ?_
  rintro b2 -
  refine g0_ ?_
  exact .refl _
end Go.Eng.YtkenlcaifhffoaaDoor
end

/- Where no variable is asked for: what a world must hold is nothing. -/
section
namespace Go.Eng.YtkenlcaifhffoaaDoor
open Go
def Free (_ : World) : Prop := True
end Go.Eng.YtkenlcaifhffoaaDoor
end

/- The engine, part 32: a function that defers a closure, which changes nothing when the function returns. -/
section
namespace Go.Eng
open Go
variable {P : Program} {W : World}
set_option linter.unusedSimpArgs false
set_option linter.unusedVariables false
def Idle (P : Program) (d : Deferred) : Prop := ∃ fv cap f args, d.target = .fn fv cap ∧ (∀ w, (invoke d.target d.args).run P w = .ok (.enter f args) w) ∧ ∀ w, CallsD P f args .returning w fun e u' w' => (∃ v, e = .returned v) ∧ u' = .returning ∧ w' = w
def EndD (P : Program) (W : World) (fn : Func) (k : PV → Mem → Prop) (σ : Mem) (K : Kn) (w : World) : Exit → Act → World → Prop := fun e a' w' =>
  (e = .ret ∨ e = .normal) ∧ (a'.defers = [] ∨ ∃ d, a'.defers = [d] ∧ Idle P d) ∧ ∃ env' σ' K', resV P fn.results.toList env' σ' k ∧ SatM K' σ' w' ∧ (∀ t, VRel K' w' (env' t) (a'.tmps.getD t undef)) ∧ Ext σ K w σ' K' w'
structure WpE (P : Program) (W : World) (fn : Func) (k : PV → Mem → Prop) (ds : List Deferred) (c : Code) (env : Env) (σ : Mem) : Prop where
  run : ∀ K a w, Sat ds W fn.ntmps K env σ a w → c.wp P (EndD P W fn k σ K w) a w
theorem EndD.trans {fn : Func} {k : PV → Mem → Prop} {σ σ' : Mem} {K K' : Kn} {w w' : World} (hx : Ext σ K w σ' K' w') {e : Exit} {a : Act} {w'' : World} (h : EndD P W fn k σ' K' w' e a w'') : EndD P W fn k σ K w e a w'' := by
  obtain ⟨h1, h2, env', τ, K2, h3, h4, h5, h6⟩ := h
  exact ⟨h1, h2, env', τ, K2, h3, h4, h5, hx.trans h6⟩
def okD (P : Program) (ds : List Deferred) : Prop := ds = [] ∨ ∃ d, ds = [d] ∧ Idle P d
theorem EndD.of_sat {fn : Func} {k : PV → Mem → Prop} {ds : List Deferred} (hds : okD P ds) {σ σ' : Mem} {K K' : Kn} {w w' : World} {env : Env} {a : Act} (hs : Sat ds W fn.ntmps K' env σ' a w') (hx : Ext σ K w σ' K' w') (hq : resV P fn.results.toList env σ' k) {e : Exit} (he : e = .ret ∨ e = .normal) : EndD P W fn k σ K w e a w' :=
  ⟨he, by rw [hs.dfs]; exact hds, env, σ', K', hq, hs.mem, hs.env, hx⟩
theorem WpE.seq {D : Array Oper → (Env → Mem → Prop) → Env → Mem → Prop} (hD : DrawOk P W D) {fn : Func} {k : PV → Mem → Prop} {ds : List Deferred} {x y : Code} {env : Env} {σ : Mem} (hds : okD P ds) (hs : slotsOk fn.ntmps x = true)
    (h : vc P W D x (fun e env' σ' => match e with | .normal => WpE P W fn k ds y env' σ' | .ret => resV P fn.results.toList env' σ' k | _ => False) env σ) : WpE P W fn k ds (Code.seq x y) env σ := by
  refine ⟨fun K a w hsat => ?_⟩
  refine wp_seq (wp_mono (vc_sound hD x _ _ σ K _ w hs h hsat) ?_)
  rintro e a' w' ⟨env', σ', K', hq, hs', hx⟩
  cases e <;> first | exact hq.elim | skip
  · exact wp_mono (hq.run K' a' w' hs') fun e a'' w'' h' => h'.trans hx
  · exact EndD.of_sat hds hs' hx hq (.inl rfl)
theorem WpE.last {D : Array Oper → (Env → Mem → Prop) → Env → Mem → Prop} (hD : DrawOk P W D) {fn : Func} {k : PV → Mem → Prop} {ds : List Deferred} {x : Code} {env : Env} {σ : Mem} (hds : okD P ds) (hs : slotsOk fn.ntmps x = true)
    (h : vc P W D x (retPost P fn.results.toList k) env σ) : WpE P W fn k ds x env σ := by
  refine ⟨fun K a w hsat => ?_⟩
  refine wp_mono (vc_sound hD x _ _ σ K _ w hs h hsat) ?_
  rintro e a' w' ⟨env', σ', K', hq, hs', hx⟩
  cases e <;> first | exact hq.elim | skip
  · exact EndD.of_sat hds hs' hx hq (.inr rfl)
  · exact EndD.of_sat hds hs' hx hq (.inl rfl)
end Go.Eng
end
