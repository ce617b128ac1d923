/- Texts put together: Spl25, Spl26, Spl27, Spl28, Spl29. -/
import Derived.Test.YtkenlcaifhffoaaDoorMSH
import Derived.Test.YtkenlcaifhffoaaDoorME8
/- Splits: plain (b_ x_ q_ e_). -/
section
namespace Go.Eng.YtkenlcaifhffoaaDoor
open Go Go.Eng Go.Proofs
variable (W : World)
set_option linter.unusedSimpArgs false
set_option maxRecDepth 100000
set_option linter.unusedVariables false
set_option maxHeartbeats 4000000
def kidsOf (w : Int) (k : Spl) : List Spl := if k.way = w then k.kids else [k]
def wrapT (w p s : Int) : List Spl → Spl
  | [x] => .mk x.way x.pane s x.kids
  | l => .mk w p s l
mutual
def plainT : Spl → Spl
  | .mk w p s ks => if w = 0 then .mk w p s ks else wrapT w p s (plainTs w ks)
def plainTs (w : Int) : List Spl → List Spl
  | [] => []
  | k :: ks => kidsOf w (plainT k) ++ plainTs w ks
end
theorem plainTs_eq (w : Int) : ∀ ks : List Spl, plainTs w ks = ks.flatMap fun k => kidsOf w (plainT k)
  | [] => rfl
  | k :: ks => by rw [plainTs, plainTs_eq w ks]; rfl
theorem plainT_mk (w p s : Int) (ks : List Spl) : plainT (.mk w p s ks) = if w = 0 then .mk w p s ks else wrapT w p s (ks.flatMap fun k => kidsOf w (plainT k)) := by rw [plainT, plainTs_eq]
mutual
def cntT : Spl → Nat
  | .mk _ _ _ ks => 1 + cntTs ks
def cntTs : List Spl → Nat
  | [] => 0
  | k :: ks => cntT k + cntTs ks
end
theorem cntT_mk (w p s : Int) (ks : List Spl) : cntT (.mk w p s ks) = 1 + cntTs ks := by rw [cntT]
theorem cntT_pos (t : Spl) : 1 ≤ cntT t := by
  obtain ⟨w, p, s, ks⟩ := t
  rw [cntT_mk]; omega
theorem cnt_mem : ∀ {ks : List Spl} {k : Spl}, k ∈ ks → cntT k ≤ cntTs ks
  | k0 :: ks, k, h => by
    rw [cntTs]
    rcases List.mem_cons.1 h with rfl | h
    · omega
    · have := cnt_mem h; omega
theorem cnt_len : ∀ ks : List Spl, ks.length ≤ cntTs ks
  | [] => by simp [cntTs]
  | k :: ks => by
    have := cnt_len ks
    have := cntT_pos k
    rw [cntTs, List.length_cons]; omega
mutual
def fewT (n : Nat) : Spl → Prop
  | .mk _ _ _ ks => ks.length ≤ n ∧ fewTs n ks
def fewTs (n : Nat) : List Spl → Prop
  | [] => True
  | k :: ks => fewT n k ∧ fewTs n ks
end
theorem fewTs_iff {n : Nat} : ∀ {ks : List Spl}, fewTs n ks ↔ ∀ k ∈ ks, fewT n k
  | [] => by simp [fewTs]
  | k :: ks => by rw [fewTs, fewTs_iff]; simp
theorem fewT_mk {n : Nat} {w p s : Int} {ks : List Spl} : fewT n (.mk w p s ks) ↔ ks.length ≤ n ∧ ∀ k ∈ ks, fewT n k := by rw [fewT, fewTs_iff]
theorem fewT_mono {n m : Nat} (h : n ≤ m) (t : Spl) : fewT n t → fewT m t := by
  induction t using spl_induct with
  | h w p s ks ih =>
    rw [fewT_mk, fewT_mk]
    exact fun ⟨h1, h2⟩ => ⟨by omega, fun k hk => ih k hk (h2 k hk)⟩
theorem few_cnt (t : Spl) : fewT (cntT t) t := by
  induction t using spl_induct with
  | h w p s ks ih =>
    rw [fewT_mk, cntT_mk]
    have := cnt_len ks
    exact ⟨by omega, fun k hk => fewT_mono (by have := cnt_mem hk; omega) k (ih k hk)⟩
theorem few_kids {n : Nat} {t : Spl} (h : fewT n t) : t.kids.length ≤ n ∧ ∀ k ∈ t.kids, fewT n k := by
  obtain ⟨w, p, s, ks⟩ := t
  exact fewT_mk.1 h
theorem few_parts {w : Int} {n : Nat} {t : Spl} (hn : 1 ≤ n) (h : fewT n t) : (kidsOf w t).length ≤ n ∧ ∀ k ∈ kidsOf w t, fewT n k := by
  unfold kidsOf
  split
  · exact few_kids h
  · refine ⟨by simpa using hn, fun k hk => ?_⟩
    obtain rfl := List.mem_singleton.1 hk
    exact h
theorem few_plain (t : Spl) : fewT (cntT t) (plainT t) := by
  induction t using spl_induct with
  | h w p s ks ih =>
    rw [plainT_mk]
    split
    · exact few_cnt _
    · have key : ∀ l : List Spl, (∀ k ∈ l, k ∈ ks) → (l.flatMap fun k => kidsOf w (plainT k)).length ≤ cntTs l ∧ ∀ x ∈ l.flatMap (fun k => kidsOf w (plainT k)), fewT (cntTs ks) x := by
        intro l
        induction l with
        | nil => intro _; simp [cntTs]
        | cons k l ihl =>
          intro hm
          obtain ⟨h1, h2⟩ := ihl fun z hz => hm z (List.mem_cons_of_mem _ hz)
          obtain ⟨g1, g2⟩ := few_parts (w := w) (cntT_pos k) (ih k (hm k (by simp)))
          rw [List.flatMap_cons, List.length_append, cntTs]
          refine ⟨by omega, fun x hx => ?_⟩
          rcases List.mem_append.1 hx with hx | hx
          · exact fewT_mono (cnt_mem (hm k (by simp))) x (g2 x hx)
          · exact h2 x hx
      obtain ⟨h1, h2⟩ := key ks fun _ h => h
      rw [cntT_mk]
      generalize (ks.flatMap fun k => kidsOf w (plainT k)) = l at *
      have hbig : fewT (1 + cntTs ks) (.mk w p s l) := fewT_mk.2 ⟨by omega, fun k hk => fewT_mono (by omega) k (h2 k hk)⟩
      match l, h1, h2, hbig with
      | [], _, _, hb => exact hb
      | [x], _, h2, _ =>
        obtain ⟨g1, g2⟩ := few_kids (h2 x (by simp))
        exact fewT_mk.2 ⟨by omega, fun k hk => fewT_mono (by omega) k (g2 k hk)⟩
      | x :: y :: l, _, _, hb => exact hb
theorem plains_len {w : Int} : ∀ ks : List Spl, (ks.flatMap fun k => kidsOf w (plainT k)).length ≤ cntTs ks
  | [] => by simp
  | k :: ks => by
    have h1 := plains_len (w := w) ks
    have h2 := (few_parts (w := w) (cntT_pos k) (few_plain k)).1
    rw [List.flatMap_cons, List.length_append, cntTs]; omega
theorem splPlain_ok (t : Spl) : cntT t ≤ 1000 → Pure Tryd.prog W 77 [encSpl t] (encSpl (plainT t)) := by
  induction t using spl_induct with
  | h w p s ks ih =>
    intro hn
    have hkl : (ks.map encSpl).length = ks.length := List.length_map _
    have hll := cnt_len ks
    rw [cntT_mk] at hn
    rw [plainT_mk]
    by_cases hw0 : w = 0
    · rw [if_pos hw0, encSpl_mk]
      refine Pure.of (acalls_of_vc (drawOk W) Tryd.func77 rfl (by decide) (by decide) rfl ?_)
      (refine g0_ ?_; repeat (refine n1_ fun b_ => ?_; refine g0_ ?_))
      refine g1_ ?_
      exact .refl _
    · have hfl := plains_len (w := w) ks
      rw [if_neg hw0, encSpl_mk]
      generalize hX : encSpl (wrapT w p s _) = X
      refine Pure.of (acalls_of_vc (drawOk W) Tryd.func77 rfl (by decide) (by decide) rfl ?_)
      (refine g0_ ?_; repeat (refine n1_ fun b_ => ?_; refine g0_ ?_))
      rename_i bT
      revert b_
      intro bR
      refine g1_ ?_
      refine' loopI (α := Nat × Nat × (List Spl)) (fun (i, b', o) => [(16, .int .i64 i)]) [(1, _), (2, _), (14, _), (15, _)] (fun (i, b', o) => ⟨bT, .row 4 [.agg [.int .i64 w, .int .i64 p, .int .i64 s, accV b' 4 (splsV o)]] 0⟩ :: ⟨bR, .row 4 [.agg [.int .i64 0, .int .i64 0, .int .i64 0, .nils]] 0⟩ :: accM b' 4 (splsV o)) (fun (i, b', o) => i ≤ ks.length ∧ o ++ (ks.drop i).flatMap (fun k => kidsOf w (plainT k)) = ks.flatMap (fun k => kidsOf w (plainT k))) (fun (i, b', o) => ks.length - i) (0, 0, []) ?_ ?_
      · exact ⟨Nat.zero_le _, rfl⟩
      rintro ⟨i, b', o⟩ ⟨hi, ho⟩
      rcases o with _ | ⟨o0, o⟩
      · refine g0_ ?_
        refine brec ?_; intro c_ hlt; (try rw [hlt]); cases c_ <;> replace hlt := nm_ hlt
        · have : i = ks.length := by omega
          subst this
          rw [List.drop_length, List.flatMap_nil, List.append_nil] at ho
          refine g0_ ?_
          rw [← hX, ← ho]
          show Frz _ _ (encSpl (.mk w p s []))
          rw [encSpl_mk]
          refine .agg _ _ rfl fun j hj => ?_
          match j, hj with
          | 0, _ => exact .refl _
          | 1, _ => exact .refl _
          | 2, _ => exact .refl _
          | 3, _ => exact .nils 4
        · have hil : i < ks.length := by omega
          (refine g0_ ?_; repeat (refine em_ fun x_ hx_ => ?_; refine g0_ ?_))
          have hm := List.mem_of_getElem? hx_
          have hcm := cnt_mem hm
          have hcl := ih x_ hm (by omega)
          have hpl := (few_parts (w := w) (cntT_pos x_) (few_plain x_)).1
          have hnx : ([] ++ kidsOf w (plainT x_)) ++ (ks.drop (i + 1)).flatMap (fun k => kidsOf w (plainT k)) = ks.flatMap (fun k => kidsOf w (plainT k)) := by
            rw [← ho, List.drop_eq_getElem_cons hil, (List.getElem?_eq_some_iff.1 hx_).2, List.flatMap_cons, List.append_assoc]
          have hsm := congrArg List.length hnx
          simp only [List.length_append, List.length_cons, List.length_nil] at hsm
          generalize hC : plainT x_ = C at *
          obtain ⟨w2, p2, s2, ks2⟩ := x_
          obtain ⟨w3, p3, s3, ks3⟩ := C
          have e3 := encSpl_mk w3 p3 s3 ks3
          rw [e3] at hcl
          rw [encSpl_mk] at hcl ⊢
          (refine g0_ ?_; repeat (refine n1_ fun b_ => ?_; refine g0_ ?_))
          refine (hcl).use ?_; refine g0_ ?_
          by_cases hw3 : w3 = w
          · have hpo : kidsOf w (.mk w3 p3 s3 ks3) = ks3 := by unfold kidsOf; exact if_pos hw3
            rw [hpo] at hnx hsm hpl
            refine g1_ ?_
            rcases ks3 with _ | ⟨q0, Q⟩
            · first | refine need.mk (by decide) ?_ | refine need.mk (by rfl) ?_
              refine g0_ ?_
              first | refine need.mk (by decide) ?_ | refine need.mk ⟨by simp, by simp; omega⟩ ?_ | refine Alt.a (by decide) ?_ | refine Alt.a ⟨by simp, by simp; omega⟩ ?_ | skip
              refine g0_ ?_
              rw [List.append_nil] at hnx
              try rw [show (List.map encSpl o).length + 1 + (List.map encSpl ([] : List Spl)).length = (List.map encSpl o).length + 1 from rfl]
              try rw [show (encSpl o0 :: List.map encSpl o) ++ List.map encSpl ([] : List Spl) = splsV (o0 :: o) from by simp [splsV]]
              refine nx_ (i + 1, b', ([] : List Spl)) ?_ ?_
              · exact ⟨hil, hnx⟩
              · ((try dsimp only); (try simp only [List.length_drop, List.length_take, List.length_append, List.length_cons, List.length_nil, List.length_map] at *); omega)
            · simp only [List.length_cons] at hsm hpl
              have hql2 : (splsV Q).length = Q.length := List.length_map _
              refine need.mk (spls_all (q0 :: Q)) ?_
              (refine g0_ ?_; repeat (refine n1_ fun b_ => ?_; refine g0_ ?_))
              try rw [show (List.map encSpl o).length + 1 + (List.map encSpl (q0 :: Q)).length = (List.map encSpl (o ++ q0 :: Q)).length + 1 from by simp; omega]
              try rw [show (encSpl o0 :: List.map encSpl o) ++ List.map encSpl (q0 :: Q) = splsV (o0 :: o ++ q0 :: Q) from by simp [splsV]]
              refine nx_ (i + 1, b_, ([] : List Spl) ++ q0 :: Q) ?_ ?_
              · exact ⟨hil, hnx⟩
              · ((try dsimp only); (try simp only [List.length_drop, List.length_take, List.length_append, List.length_cons, List.length_nil, List.length_map] at *); omega)
          · have hpo : kidsOf w (.mk w3 p3 s3 ks3) = [.mk w3 p3 s3 ks3] := by unfold kidsOf; exact if_neg hw3
            rw [hpo] at hnx hsm hpl
            simp only [List.length_cons, List.length_nil] at hsm
            refine g1_ ?_
            refine .inl ?_
            (refine g0_ ?_; repeat (refine n1_ fun b_ => ?_; refine g0_ ?_))
            rw [← e3]
            try rw [show ∀ v : PV, (List.map encSpl o).length + 1 + [v].length = (List.map encSpl (o ++ [.mk w3 p3 s3 ks3])).length + 1 from fun v => by simp]
            try rw [show (encSpl o0 :: List.map encSpl o) ++ [encSpl (.mk w3 p3 s3 ks3)] = splsV (o0 :: o ++ [.mk w3 p3 s3 ks3]) from by simp [splsV]]
            refine nx_ (i + 1, b_, ([] : List Spl) ++ [.mk w3 p3 s3 ks3]) ?_ ?_
            · exact ⟨hil, hnx⟩
            · ((try dsimp only); (try simp only [List.length_drop, List.length_take, List.length_append, List.length_cons, List.length_nil, List.length_map] at *); omega)
      · refine g0_ ?_
        refine brec ?_; intro c_ hlt; (try rw [hlt]); cases c_ <;> replace hlt := nm_ hlt
        · have : i = ks.length := by omega
          subst this
          rw [List.drop_length, List.flatMap_nil, List.append_nil] at ho
          rcases o with _ | ⟨o1, o⟩
          · obtain ⟨w4, p4, s4, ks4⟩ := o0
            have e4 := encSpl_mk w4 p4 s4 ks4
            rw [← ho] at hX
            (refine g0_ ?_; repeat (refine n1_ fun b_ => ?_; refine g0_ ?_))
            refine g1_ ?_
            rw [← hX]
            show Frz _ _ (encSpl (.mk w4 p4 s ks4))
            rw [encSpl_mk, ← encSpls_eq ks4]
            exact .refl _
          · refine g0_ ?_
            refine g1_ ?_
            rw [← hX, ← ho]
            show Frz _ _ (encSpl (.mk w p s (o0 :: o1 :: o)))
            rw [encSpl_mk]
            refine .agg _ _ rfl fun j hj => ?_
            match j, hj with
            | 0, _ => exact .refl _
            | 1, _ => exact .refl _
            | 2, _ => exact .refl _
            | 3, _ => exact frz_row (l := splsV (o0 :: o1 :: o)) (.there _ _ _ _ _ (.there _ _ _ _ _ (.here _ _ _))) _ rfl
        · have hil : i < ks.length := by omega
          (refine g0_ ?_; repeat (refine em_ fun x_ hx_ => ?_; refine g0_ ?_))
          have hm := List.mem_of_getElem? hx_
          have hcm := cnt_mem hm
          have hcl := ih x_ hm (by omega)
          have hpl := (few_parts (w := w) (cntT_pos x_) (few_plain x_)).1
          have hnx : ((o0 :: o) ++ kidsOf w (plainT x_)) ++ (ks.drop (i + 1)).flatMap (fun k => kidsOf w (plainT k)) = ks.flatMap (fun k => kidsOf w (plainT k)) := by
            rw [← ho, List.drop_eq_getElem_cons hil, (List.getElem?_eq_some_iff.1 hx_).2, List.flatMap_cons, List.append_assoc]
          have hsm := congrArg List.length hnx
          simp only [List.length_append, List.length_cons, List.length_nil] at hsm
          generalize hC : plainT x_ = C at *
          obtain ⟨w2, p2, s2, ks2⟩ := x_
          obtain ⟨w3, p3, s3, ks3⟩ := C
          have e3 := encSpl_mk w3 p3 s3 ks3
          rw [e3] at hcl
          rw [encSpl_mk] at hcl ⊢
          (refine g0_ ?_; repeat (refine n1_ fun b_ => ?_; refine g0_ ?_))
          refine (hcl).use ?_; refine g0_ ?_
          by_cases hw3 : w3 = w
          · have hpo : kidsOf w (.mk w3 p3 s3 ks3) = ks3 := by unfold kidsOf; exact if_pos hw3
            rw [hpo] at hnx hsm hpl
            refine g1_ ?_
            rcases ks3 with _ | ⟨q0, Q⟩
            · first | refine need.mk (by decide) ?_ | refine need.mk (by rfl) ?_
              (refine g0_ ?_; repeat (refine n2_ fun b_ => ?_; refine g0_ ?_))
              first | refine need.mk (by decide) ?_ | refine need.mk ⟨by simp, by simp; omega⟩ ?_ | refine Alt.a (by decide) ?_ | refine Alt.a ⟨by simp, by simp; omega⟩ ?_ | skip
              refine g0_ ?_
              rw [List.append_nil] at hnx
              try rw [show (List.map encSpl o).length + 1 + (List.map encSpl ([] : List Spl)).length = (List.map encSpl o).length + 1 from rfl]
              try rw [show (encSpl o0 :: List.map encSpl o) ++ List.map encSpl ([] : List Spl) = splsV (o0 :: o) from by simp [splsV]]
              refine nx_ (i + 1, b_, o0 :: o) ?_ ?_
              · exact ⟨hil, hnx⟩
              · ((try dsimp only); (try simp only [List.length_drop, List.length_take, List.length_append, List.length_cons, List.length_nil, List.length_map] at *); omega)
            · simp only [List.length_cons] at hsm hpl
              have hql2 : (splsV Q).length = Q.length := List.length_map _
              refine need.mk (spls_all (q0 :: Q)) ?_
              (refine g0_ ?_; repeat (refine n2_ fun b_ => ?_; refine g0_ ?_))
              try rw [show (List.map encSpl o).length + 1 + (List.map encSpl (q0 :: Q)).length = (List.map encSpl (o ++ q0 :: Q)).length + 1 from by simp; omega]
              try rw [show (encSpl o0 :: List.map encSpl o) ++ List.map encSpl (q0 :: Q) = splsV (o0 :: o ++ q0 :: Q) from by simp [splsV]]
              refine nx_ (i + 1, b_, ((o0 :: o) : List Spl) ++ q0 :: Q) ?_ ?_
              · exact ⟨hil, hnx⟩
              · ((try dsimp only); (try simp only [List.length_drop, List.length_take, List.length_append, List.length_cons, List.length_nil, List.length_map] at *); omega)
          · have hpo : kidsOf w (.mk w3 p3 s3 ks3) = [.mk w3 p3 s3 ks3] := by unfold kidsOf; exact if_neg hw3
            rw [hpo] at hnx hsm hpl
            simp only [List.length_cons, List.length_nil] at hsm
            refine g1_ ?_
            refine .inl ?_
            (refine g0_ ?_; repeat (refine n2_ fun b_ => ?_; refine g0_ ?_))
            rw [← e3]
            try rw [show ∀ v : PV, (List.map encSpl o).length + 1 + [v].length = (List.map encSpl (o ++ [.mk w3 p3 s3 ks3])).length + 1 from fun v => by simp]
            try rw [show (encSpl o0 :: List.map encSpl o) ++ [encSpl (.mk w3 p3 s3 ks3)] = splsV (o0 :: o ++ [.mk w3 p3 s3 ks3]) from by simp [splsV]]
            refine nx_ (i + 1, b_, ((o0 :: o) : List Spl) ++ [.mk w3 p3 s3 ks3]) ?_ ?_
            · exact ⟨hil, hnx⟩
            · ((try dsimp only); (try simp only [List.length_drop, List.length_take, List.length_append, List.length_cons, List.length_nil, List.length_map] at *); omega)
end Go.Eng.YtkenlcaifhffoaaDoor
end

/- Splits: the document's DropSplit (b_ x_ q_ e_). -/
section
namespace Go.Eng.YtkenlcaifhffoaaDoor
open Go Go.Eng Go.Proofs
variable (W : World)
set_option linter.unusedSimpArgs false
set_option maxRecDepth 100000
set_option linter.unusedVariables false
set_option maxHeartbeats 4000000
def wrapD (w s : Int) : List Spl → Spl × Bool
  | [x] => (.mk x.way x.pane s x.kids, true)
  | l => (.mk w 0 s l, decide (0 < l.length))
mutual
def dropT (pane : Int) : Spl → Spl × Bool
  | .mk w p s ks => if w = 0 then (.mk w p s ks, decide (p ≠ pane)) else wrapD w s (dropTs pane w ks)
def dropTs (pane w : Int) : List Spl → List Spl
  | [] => []
  | k :: ks => (if (dropT pane k).2 = true then kidsOf w (dropT pane k).1 else []) ++ dropTs pane w ks
end
def keptK (pane w : Int) (k : Spl) : List Spl := if (dropT pane k).2 = true then kidsOf w (dropT pane k).1 else []
theorem dropTs_eq (pane w : Int) : ∀ ks : List Spl, dropTs pane w ks = ks.flatMap (keptK pane w)
  | [] => rfl
  | k :: ks => by rw [dropTs, dropTs_eq pane w ks]; rfl
theorem dropT_mk (pane w p s : Int) (ks : List Spl) : dropT pane (.mk w p s ks) = if w = 0 then (.mk w p s ks, decide (p ≠ pane)) else wrapD w s (ks.flatMap (keptK pane w)) := by rw [dropT, dropTs_eq]
end Go.Eng.YtkenlcaifhffoaaDoor
end

/- Splits: Drop (b_ x_ q_ e_). -/
section
namespace Go.Eng.YtkenlcaifhffoaaDoor
open Go Go.Eng Go.Proofs
variable (W : World)
set_option linter.unusedSimpArgs false
set_option maxRecDepth 100000
set_option linter.unusedVariables false
set_option maxHeartbeats 4000000
def noD : Spl → Int → List Spl := fun _ _ => []
theorem cntTs_app : ∀ a b : List Spl, cntTs (a ++ b) = cntTs a + cntTs b
  | [], b => by rw [List.nil_append, cntTs, Nat.zero_add]
  | x :: a, b => by rw [List.cons_append, cntTs, cntTs, cntTs_app a b]; omega
theorem cnt_right (t : Spl) : ∀ way, t.right way → cntT t + 1 ≤ 2 * (panesT t).length := by
  induction t using spl_induct with
  | h w p s ks ih =>
    intro way hr
    rw [right_mk] at hr
    rw [cntT_mk, panesT_mk]
    rcases hr.2 with ⟨h0, hk, -⟩ | ⟨hw, -, hk2, -, hkr⟩
    · subst hk
      rw [if_pos h0, cntTs]; simp
    · rw [if_neg (by omega)]
      have key : ∀ l : List Spl, (∀ k ∈ l, k ∈ ks) → cntTs l + l.length ≤ 2 * (l.flatMap panesT).length := by
        intro l
        induction l with
        | nil => intro _; simp [cntTs]
        | cons k l ihl =>
          intro hm
          have h1 := ihl fun z hz => hm z (List.mem_cons_of_mem _ hz)
          have h2 := ih k (hm k (by simp)) w (hkr k (hm k (by simp)))
          rw [cntTs, List.flatMap_cons, List.length_append, List.length_cons]; omega
      have := key ks fun _ h => h
      omega
theorem cnt_with (pane : Int) (t : Spl) : ∀ way, cntTs (withT noD pane t way) ≤ cntT t := by
  induction t using spl_induct with
  | h w p s ks ih =>
    intro way
    rw [withT_mk]
    split
    · split
      · simp [noD, cntTs]
      · simp [cntTs]
    · have key : ∀ l : List Spl, (∀ k ∈ l, k ∈ ks) → cntTs (l.flatMap fun k => withT noD pane k w) ≤ cntTs l := by
        intro l
        induction l with
        | nil => intro _; simp [cntTs]
        | cons k l ihl =>
          intro hm
          have h1 := ihl fun z hz => hm z (List.mem_cons_of_mem _ hz)
          have h2 := ih k (hm k (by simp)) w
          rw [List.flatMap_cons, cntTs_app, cntTs]; omega
      have := key ks fun _ h => h
      rw [cntTs, cntTs, cntT_mk, cntT_mk]; omega
def dropR (t : Spl) (pane : Int) : Spl × Int :=
  if (visS t 0 (0, [])).1 ≠ 0 then (zeroT, (visS t 0 (0, [])).1) else if pane ∉ panesT t then (zeroT, 6) else if (panesT t).length = 1 then (zeroT, 9)
  else (plainT ((withT noD pane t 0).headD zeroT), 0)
theorem dropP_ok (t : Spl) (ht : t.ok) (pane : Int) : Pure Tryd.prog W 32 [encSpl t, .int .i64 pane] (.tup [encSpl (dropR t pane).1, .int .i64 (dropR t pane).2]) := by
  have hc := checkS_ok W t ht
  have hcp := copyT_ok W t ht
  have hr := @vis_right t
  have hpn := fun h => panes_ok W t 0 (hr h).1 (hr h).2.2.1
  have hwt := fun h => with_ok W noD pane 76 [] (fun _ _ => Nat.zero_le _) (drop1_ok W pane) t 0 (hr h).1 (hr h).2.2.1
  have hcnt := fun h => cnt_right t 0 (hr h).1
  have hcw := cnt_with pane t 0
  unfold dropR
  generalize visS t 0 (0, []) = st at *
  by_cases h0 : st.1 = 0
  · rw [if_neg (by simpa using h0)]
    have hpn := hpn h0
    have hwt := hwt h0
    have hcnt := hcnt h0
    have hl12 := (hr h0).2.2.1
    have hct := containsI_ok W (panesT t) pane (by omega)
    by_cases h1 : pane ∈ panesT t
    · rw [if_neg (by simpa using h1)]
      rw [decide_eq_true h1] at hct
      by_cases h4 : (panesT t).length = 1
      · rw [if_pos h4]
        obtain ⟨w, p, s, ks⟩ := t
        rw [encSpl_mk] at hc hpn hcp hwt ⊢
        generalize panesT (.mk w p s ks) = l at *
        have hln := panesV_len l
        refine Pure.of (acalls_of_vc (drawOk W) Tryd.func32 rfl (by decide) (by decide) rfl ?_)
        (refine g0_ ?_; repeat (refine n1_ fun b_ => ?_; refine g0_ ?_))
        refine (hc).use ?_; refine g0_ ?_
        refine g1_ ?_
        refine (hpn).use ?_; refine g0_ ?_
        refine (hct).use ?_; refine g0_ ?_
        refine g1_ ?_
        exact frz_t2 (frz_zeroT _)
      · rw [if_neg h4]
        obtain ⟨w, p, s, ks⟩ := t
        have hw0 : ¬ w = 0 := by
          intro e
          rw [panesT_mk, if_pos e] at h4
          exact h4 rfl
        rw [withT_mk, if_neg hw0] at hwt hcw ⊢
        rw [List.headD_cons]
        rw [cntTs, cntTs] at hcw
        generalize hkk : (ks.flatMap fun k => withT noD pane k w) = kk at *
        have hpl := splPlain_ok W (.mk w p s kk) (by omega)
        generalize plainT (.mk w p s kk) = C at *
        obtain ⟨w3, p3, s3, ks3⟩ := C
        rw [show splsV [Spl.mk w p s kk] = [encSpl (.mk w p s kk)] from rfl] at hwt
        rw [encSpl_mk] at hc hpn hcp
        rw [encSpl_mk w p s ks, encSpl_mk w p s kk] at hwt
        rw [encSpl_mk, encSpl_mk] at hpl
        rw [encSpl_mk w p s ks, encSpl_mk w3 p3 s3 ks3]
        generalize panesT (.mk w p s ks) = l at *
        have hln := panesV_len l
        refine Pure.of (acalls_of_vc (drawOk W) Tryd.func32 rfl (by decide) (by decide) rfl ?_)
        (refine g0_ ?_; repeat (refine n1_ fun b_ => ?_; refine g0_ ?_))
        refine (hc).use ?_; refine g0_ ?_
        refine g1_ ?_
        refine (hpn).use ?_; refine g0_ ?_
        refine (hct).use ?_; refine g0_ ?_
        refine g1_ ?_
        refine (hcp).use ?_; refine g0_ ?_
        refine (hwt).use ?_; refine g0_ ?_
        refine (hpl).use ?_; refine g0_ ?_
        exact .refl _
    · rw [if_pos h1]
      obtain ⟨w, p, s, ks⟩ := t
      rw [encSpl_mk] at hc hpn hcp hwt ⊢
      generalize panesT (.mk w p s ks) = l at *
      rw [decide_eq_false h1] at hct
      refine Pure.of (acalls_of_vc (drawOk W) Tryd.func32 rfl (by decide) (by decide) rfl ?_)
      (refine g0_ ?_; repeat (refine n1_ fun b_ => ?_; refine g0_ ?_))
      refine (hc).use ?_; refine g0_ ?_
      refine g1_ ?_
      refine (hpn).use ?_; refine g0_ ?_
      refine (hct).use ?_; refine g0_ ?_
      refine g1_ ?_
      exact frz_t2 (frz_zeroT _)
  · rw [if_pos h0]
    obtain ⟨w, p, s, ks⟩ := t
    rw [encSpl_mk] at hc ⊢
    refine Pure.of (acalls_of_vc (drawOk W) Tryd.func32 rfl (by decide) (by decide) rfl ?_)
    (refine g0_ ?_; repeat (refine n1_ fun b_ => ?_; refine g0_ ?_))
    refine (hc).use ?_; refine g0_ ?_
    refine g1_ ?_
    exact frz_t2 (frz_zeroT _)
end Go.Eng.YtkenlcaifhffoaaDoor
end

/- Splits: what Drop gives is the document's (plain). -/
section
namespace Go.Eng.YtkenlcaifhffoaaDoor
open Go Go.Eng Go.Proofs
set_option linter.unusedSimpArgs false
set_option maxRecDepth 100000
set_option linter.unusedVariables false
def twoT (t : Spl) : Prop := t.way = 0 ∨ 2 ≤ t.kids.length
def goneT (pane : Int) (t : Spl) (in_ : Int) : Prop := t.way = 0 ∧ t.pane = pane ∧ withT noD pane t in_ = [] ∧ (dropT pane t).2 = false
def stayT (pane : Int) (t : Spl) (in_ : Int) : Prop := ∃ t', withT noD pane t in_ = [t'] ∧ dropT pane t = (plainT t', true) ∧ twoT (plainT t')
theorem wrap_two {w s : Int} (hw : w ≠ 0) : ∀ M : List Spl, M ≠ [] → (∀ x, M = [x] → twoT x) → wrapD w s M = (wrapT w 0 s M, true) ∧ twoT (wrapT w 0 s M)
  | [], h, _ => absurd rfl h
  | [x], _, h => ⟨rfl, h x rfl⟩
  | x :: y :: l, _, _ => ⟨by simp [wrapD, wrapT], .inr (by simp [wrapT, Spl.kids])⟩
theorem kids_two {w : Int} (hw : w ≠ 0) {c : Spl} (h : twoT c) : (kidsOf w c = [c]) ∨ 2 ≤ (kidsOf w c).length := by
  unfold kidsOf
  split
  · rename_i e
    rcases h with h | h
    · exact absurd (e.symm.trans h) hw
    · exact .inr h
  · exact .inl rfl
theorem leaf_panes {t : Spl} {pane : Int} (h0 : t.way = 0) (hp : t.pane = pane) : panesT t = [pane] := by
  obtain ⟨w, p, s, ks⟩ := t
  replace h0 : w = 0 := h0
  replace hp : p = pane := hp
  rw [panesT_mk, if_pos h0, hp]
theorem drop_rel (pane : Int) (t : Spl) : ∀ in_, t.right in_ → (panesT t).Nodup → goneT pane t in_ ∨ stayT pane t in_ := by
  induction t using spl_induct with
  | h w p s ks ih =>
    intro in_ hr hnd
    rw [right_mk] at hr
    rcases hr.2 with ⟨h0, hk, -⟩ | ⟨hw, -, hk2, hp, hkr⟩
    · subst h0 hk
      by_cases hp : p = pane
      · exact .inl ⟨rfl, hp, by rw [withT_mk, if_pos rfl, if_pos hp]; rfl, by rw [dropT_mk, if_pos rfl]; simp [hp]⟩
      · refine .inr ⟨.mk 0 p s [], by rw [withT_mk, if_pos rfl, if_neg hp], ?_, .inl ?_⟩
        · rw [dropT_mk, if_pos rfl, plainT_mk, if_pos rfl]; simp [hp]
        · rw [plainT_mk, if_pos rfl]; rfl
    · have hw0 : w ≠ 0 := by omega
      subst hp
      rw [panesT_mk, if_neg hw0] at hnd
      have hkn : ∀ k ∈ ks, (panesT k).Nodup := fun k hk => by
        obtain ⟨a, b, rfl⟩ := List.append_of_mem hk
        rw [List.flatMap_append, List.flatMap_cons] at hnd
        exact (List.nodup_append.1 (List.nodup_append.1 hnd).2.1).1
      have hih := fun k hk => ih k hk w (hkr k hk) (hkn k hk)
      have hM : (ks.flatMap fun k => withT noD pane k w).flatMap (fun k => kidsOf w (plainT k)) = ks.flatMap (keptK pane w) := by
        rw [List.flatMap_assoc]
        refine flat_congr fun k hk => ?_
        rcases hih k hk with ⟨_, _, h1, h2⟩ | ⟨t', h1, h2, _⟩
        · rw [h1, keptK, if_neg (by rw [h2]; decide)]; rfl
        · rw [h1, keptK, if_pos (by rw [h2]), h2]; simp
      have hkk : ∀ k ∈ ks, (keptK pane w k = [] ∧ panesT k = [pane]) ∨ (∃ c, keptK pane w k = [c] ∧ twoT c) ∨ 2 ≤ (keptK pane w k).length := fun k hk => by
        rcases hih k hk with ⟨h0, hp, h1, h2⟩ | ⟨t', h1, h2, h3⟩
        · exact .inl ⟨by rw [keptK, if_neg (by rw [h2]; decide)], leaf_panes h0 hp⟩
        · rw [keptK, if_pos (by rw [h2]), h2]
          rcases kids_two hw0 h3 with h | h
          · exact .inr (.inl ⟨_, h, h3⟩)
          · exact .inr (.inr h)
      have hne : ks.flatMap (keptK pane w) ≠ [] ∧ ∀ x, ks.flatMap (keptK pane w) = [x] → twoT x := by
        refine ⟨fun he => ?_, fun x hx => ?_⟩
        · match ks, hk2, hkk, hnd, he with
          | a :: b :: r, _, hkk, hnd, he =>
            rw [List.flatMap_cons, List.append_eq_nil_iff, List.flatMap_cons, List.append_eq_nil_iff] at he
            have ha : panesT a = [pane] := by
              rcases hkk a (by simp) with h | ⟨c, h, _⟩ | h
              · exact h.2
              · rw [h] at he; simp at he
              · rw [he.1] at h; simp at h
            have hb : panesT b = [pane] := by
              rcases hkk b (by simp) with h | ⟨c, h, _⟩ | h
              · exact h.2
              · rw [h] at he; simp at he
              · rw [he.2.1] at h; simp at h
            rw [List.flatMap_cons, List.flatMap_cons, ha, hb] at hnd
            simp at hnd
        · have hxm : x ∈ ks.flatMap (keptK pane w) := by rw [hx]; simp
          obtain ⟨k, hk, hxk⟩ := List.mem_flatMap.1 hxm
          rcases hkk k hk with h | ⟨c, h, h2⟩ | h
          · rw [h.1] at hxk; cases hxk
          · rw [h] at hxk
            obtain rfl := List.mem_singleton.1 hxk
            exact h2
          · obtain ⟨a, b, rfl⟩ := List.append_of_mem hk
            have := congrArg List.length hx
            rw [List.flatMap_append, List.flatMap_cons, List.length_append, List.length_append] at this
            simp at this; omega
      obtain ⟨g1, g2⟩ := wrap_two (s := s) hw0 _ hne.1 hne.2
      refine .inr ⟨.mk w 0 s (ks.flatMap fun k => withT noD pane k w), by rw [withT_mk, if_neg hw0], ?_, ?_⟩
      · rw [dropT_mk, if_neg hw0, plainT_mk, if_neg hw0, hM]; exact g1
      · rw [plainT_mk, if_neg hw0, hM]; exact g2
end Go.Eng.YtkenlcaifhffoaaDoor
end

/- Splits: numbers of what Cut and Drop give (plain). -/
section
namespace Go.Eng.YtkenlcaifhffoaaDoor
open Go Go.Eng Go.Proofs
set_option linter.unusedSimpArgs false
set_option maxRecDepth 100000
set_option linter.unusedVariables false
theorem kidsOf_ok {w : Int} {c : Spl} (h : c.ok) : ∀ x ∈ kidsOf w c, x.ok := by
  obtain ⟨w', p, s, ks⟩ := c
  unfold kidsOf
  split
  · exact (spl_ok.1 h).2.2.2.2
  · intro x hx
    obtain rfl := List.mem_singleton.1 hx
    exact h
theorem wrap_ok {w p s : Int} (hw : i64ok w) (hp : i64ok p) (hs : i64ok s) : ∀ l : List Spl, l.length ≤ 2932031007402 → (∀ x ∈ l, x.ok) → (wrapT w p s l).ok
  | [], h, hx => spl_ok.2 ⟨hw, hp, hs, h, hx⟩
  | [x], h, hx => by
    have h1 := hx x (by simp)
    obtain ⟨w', p', s', ks'⟩ := x
    obtain ⟨a, b, c, d, e⟩ := spl_ok.1 h1
    exact spl_ok.2 ⟨a, b, hs, d, e⟩
  | x :: y :: l, h, hx => spl_ok.2 ⟨hw, hp, hs, h, hx⟩
theorem plain_okT (t : Spl) : cntT t ≤ 1000 → t.ok → (plainT t).ok := by
  induction t using spl_induct with
  | h w p s ks ih =>
    intro hn ht
    obtain ⟨o1, o2, o3, o4, o5⟩ := spl_ok.1 ht
    rw [cntT_mk] at hn
    rw [plainT_mk]
    split
    · exact ht
    · have hl := plains_len (w := w) ks
      refine wrap_ok o1 o2 o3 _ (by omega) fun x hx => ?_
      obtain ⟨k, hk, hxk⟩ := List.mem_flatMap.1 hx
      exact kidsOf_ok (ih k hk (by have := cnt_mem hk; omega) (o5 k hk)) x hxk
theorem with_okT (pane : Int) (t : Spl) : cntT t ≤ 1000 → t.ok → ∀ way, ∀ x ∈ withT noD pane t way, x.ok := by
  induction t using spl_induct with
  | h w p s ks ih =>
    intro hn ht way x hx
    obtain ⟨o1, o2, o3, o4, o5⟩ := spl_ok.1 ht
    rw [cntT_mk] at hn
    rw [withT_mk] at hx
    split at hx
    · split at hx
      · simp [noD] at hx
      · obtain rfl := List.mem_singleton.1 hx
        exact ht
    · obtain rfl := List.mem_singleton.1 hx
      have hl := flat_len (d := noD) (fun _ _ => Nat.zero_le _) pane w ks
      have := cnt_len ks
      refine spl_ok.2 ⟨o1, o2, o3, by omega, fun y hy => ?_⟩
      obtain ⟨k, hk, hyk⟩ := List.mem_flatMap.1 hy
      exact ih k hk (by have := cnt_mem hk; omega) (o5 k hk) w y hyk
theorem leaf_okS {p s : Int} (hp : i64ok p) (hs : i64ok s) : (Spl.mk 0 p s []).ok := spl_ok.2 ⟨by unfold i64ok; omega, hp, hs, by simp, by simp⟩
theorem cut_okT {pane way fresh : Int} (hp : i64ok pane) (hw : i64ok way) (hf : i64ok fresh) (t : Spl) : cntT t ≤ 1000 → t.ok → (cutT pane way fresh t).ok := by
  have i1 : i64ok 1 := by unfold i64ok; omega
  have i0 : i64ok 0 := by unfold i64ok; omega
  induction t using spl_induct with
  | h w p s ks ih =>
    intro hn ht
    obtain ⟨o1, o2, o3, o4, o5⟩ := spl_ok.1 ht
    rw [cntT_mk] at hn
    rw [cutT_mk]
    split
    · split
      · refine spl_ok.2 ⟨hw, i0, o3, by simp, fun x hx => ?_⟩
        rcases List.mem_cons.1 hx with rfl | hx
        · exact leaf_okS hp i1
        · obtain rfl := List.mem_singleton.1 hx
          exact leaf_okS hf i1
      · exact ht
    · have hl := cuts_len pane way fresh w ks
      have := cnt_len ks
      refine spl_ok.2 ⟨o1, i0, o3, by omega, fun y hy => ?_⟩
      obtain ⟨k, hk, hyk⟩ := List.mem_flatMap.1 hy
      unfold cutK at hyk
      split at hyk
      · rcases List.mem_cons.1 hyk with rfl | hyk
        · exact o5 y hk
        · obtain rfl := List.mem_singleton.1 hyk
          have := o5 k hk
          obtain ⟨w', p', s', ks'⟩ := k
          exact leaf_okS hf (spl_ok.1 this).2.2.1
      · obtain rfl := List.mem_singleton.1 hyk
        exact ih k hk (by have := cnt_mem hk; omega) (o5 k hk)
end Go.Eng.YtkenlcaifhffoaaDoor
end
