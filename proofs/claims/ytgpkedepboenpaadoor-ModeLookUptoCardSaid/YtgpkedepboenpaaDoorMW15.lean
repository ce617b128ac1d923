/- Texts put together: ScrV, ScrN, ScrN2. -/
import Derived.Test.YtgpkedepboenpaaDoorMW13
import Derived.Test.YtgpkedepboenpaaDoorMT1
import Derived.Test.YtgpkedepboenpaaDoorMK3
import Derived.Test.YtgpkedepboenpaaDoorMS1
/- Looks and titles: package mode's Look and Name, the desk's; a call and what is done that read the same memory. -/
section
namespace Go.Eng
open Go
variable {P : Program} {W : World}
/-- A call that is lent some blocks and gives them back; what it made is written no more. -/
theorem ACalls.lendH {f : FuncId} {args : List PV} {σ τ τ1 ρ : Mem} {r : PV} {k : PV → Mem → Prop} (h : ACalls P W f args τ fun v σ' => ∃ ρ', σ'.Perm (τ1 ++ ρ') ∧ Frz ρ' v r) (hp : σ.Perm (τ ++ ρ)) (hk : k r (ρ ++ τ1)) : ACalls P W f args σ k := by
  refine ACalls.frz ((h.frame ρ).perm hp) ?_
  rintro v σ' ⟨σ1, ⟨ρ', hp', hf⟩, rfl⟩
  refine ⟨ρ ++ τ1, ρ', r, (hp'.append_right ρ).trans ?_, hf, hk⟩
  rw [List.append_assoc, List.append_assoc]
  exact (List.perm_append_comm.append_left _).trans (by rw [← List.append_assoc, ← List.append_assoc]; exact List.perm_append_comm.append_right _)
end Go.Eng
namespace Go.Eng.YtgpkedepboenpaaDoor
open Go Go.Eng Go.Proofs
variable (W : World)
set_option linter.unusedSimpArgs false
set_option maxRecDepth 100000
set_option linter.unusedVariables false
set_option maxHeartbeats 8000000
/-- does_ok, where the call and what is done read the same memory. -/
theorem does_okS (hT : Tabs W) (s : Scr) (hs : s.ok) (gc : Nat) (cc : List PV) (gd : Nat) (cd : List PV) (τ : Mem) (X : Scr) (E : Int) (hX : X.ok)
    (hcall : ACalls Tryd.prog W gc (encScr s :: cc) τ fun v σ' => ∃ ρ', σ'.Perm (τ ++ ρ') ∧ Frz ρ' v (.tup [encScr X, .int .i64 E]))
    (h : DeskOp W s X E τ gd fun d => .bref d 0 :: cd) :
    ACalls Tryd.prog W 54 [encScr s, .fn gc cc, .fn gd cd] τ fun v _ => v = .bool true := by
  obtain ⟨hbad, hdo⟩ := h
  have hp := printed_ok W hT
  have how := ownScreen_ok W s hs
  have hck := checkScreen_ok W s hs
  have hse := sameScreen_ok W s s hs hs
  rw [show decide (sameP s s) = true from decide_eq_true (sameP_rfl s)] at hse
  by_cases h0 : checkS s = 0
  · obtain ⟨rfl, s', L, w, hL, hL0, hw, hl, hw2, rfl, hd⟩ := hdo h0
    obtain ⟨w0, h0', hr⟩ := right_of h0
    have hta := dtake_ok W s hr
    rw [h0] at hck
    have hXX := sameScreen_ok W _ _ hX hX
    rw [show ∀ Y : Scr, decide (sameP Y Y) = true from fun Y => decide_eq_true (sameP_rfl Y)] at hXX
    have hgv := fun d σ (h : DeskP d s' L σ) => dgive_ok W d s' L hL hL0 hw hl hw2 h
    clear hdo hbad
    generalize hE : ({ s' with g := ⟨w, L.length, L.flatten⟩ } : Scr) = X at *
    clear hE
    refine acalls_of_vc (DL_ok (by decide)) Tryd.func54 rfl (by decide) (by decide) rfl ?_
    (refine g0_ ?_; repeat ((first | refine n1_ fun b_ => ?_ | refine n2_ fun b_ => ?_ | refine n3_ fun b_ pre_ => ?_ | refine Nat1.mk fun q_ hq_ => ?_ | refine em_ fun x_ hx_ => ?_ | refine Elem1.mk fun e_ he_ => ?_); refine g0_ ?_))
    refine (how).use ?_; (refine g0_ ?_; repeat ((first | refine n1_ fun b_ => ?_ | refine n2_ fun b_ => ?_ | refine n3_ fun b_ pre_ => ?_ | refine Nat1.mk fun q_ hq_ => ?_ | refine em_ fun x_ hx_ => ?_ | refine Elem1.mk fun e_ he_ => ?_); refine g0_ ?_))
    rename_i b1
    rw [forceL_eq]
    refine callV_of ?_
    refine ACalls.lendH hcall (ρ := [⟨b_, .row 22 [encScr s] 0⟩, ⟨b1, .row 22 [encScr s] 0⟩]) (List.perm_append_comm (l₁ := [_, _]) (l₂ := τ)) ?_
    (refine g0_ ?_; repeat ((first | refine n1_ fun b_ => ?_ | refine n2_ fun b_ => ?_ | refine n3_ fun b_ pre_ => ?_ | refine Nat1.mk fun q_ hq_ => ?_ | refine em_ fun x_ hx_ => ?_ | refine Elem1.mk fun e_ he_ => ?_); refine g0_ ?_))
    refine (hp).use ?_; (refine g0_ ?_; repeat ((first | refine n1_ fun b_ => ?_ | refine n2_ fun b_ => ?_ | refine n3_ fun b_ pre_ => ?_ | refine Nat1.mk fun q_ hq_ => ?_ | refine em_ fun x_ hx_ => ?_ | refine Elem1.mk fun e_ he_ => ?_); refine g0_ ?_))
    (refine g1_ ?_; repeat ((first | refine n1_ fun b_ => ?_ | refine n2_ fun b_ => ?_ | refine n3_ fun b_ pre_ => ?_ | refine Nat1.mk fun q_ hq_ => ?_ | refine em_ fun x_ hx_ => ?_ | refine Elem1.mk fun e_ he_ => ?_); refine g1_ ?_))
    refine (hse).use ?_; (refine g0_ ?_; repeat ((first | refine n1_ fun b_ => ?_ | refine n2_ fun b_ => ?_ | refine n3_ fun b_ pre_ => ?_ | refine Nat1.mk fun q_ hq_ => ?_ | refine em_ fun x_ hx_ => ?_ | refine Elem1.mk fun e_ he_ => ?_); refine g0_ ?_))
    (refine g1_ ?_; repeat ((first | refine n1_ fun b_ => ?_ | refine n2_ fun b_ => ?_ | refine n3_ fun b_ pre_ => ?_ | refine Nat1.mk fun q_ hq_ => ?_ | refine em_ fun x_ hx_ => ?_ | refine Elem1.mk fun e_ he_ => ?_); refine g1_ ?_))
    refine (hck).use ?_; (refine g0_ ?_; repeat ((first | refine n1_ fun b_ => ?_ | refine n2_ fun b_ => ?_ | refine n3_ fun b_ pre_ => ?_ | refine Nat1.mk fun q_ hq_ => ?_ | refine em_ fun x_ hx_ => ?_ | refine Elem1.mk fun e_ he_ => ?_); refine g0_ ?_))
    (refine g1_ ?_; repeat ((first | refine n1_ fun b_ => ?_ | refine n2_ fun b_ => ?_ | refine n3_ fun b_ pre_ => ?_ | refine Nat1.mk fun q_ hq_ => ?_ | refine em_ fun x_ hx_ => ?_ | refine Elem1.mk fun e_ he_ => ?_); refine g1_ ?_))
    rename_i b2
    refine ACalls.give hta ?_
    rintro ⟨d, bt, bo, gx, l⟩ ⟨hrows, hgx⟩
    dsimp only at hrows hgx ⊢
    (refine g0_ ?_; repeat ((first | refine n1_ fun b_ => ?_ | refine n2_ fun b_ => ?_ | refine n3_ fun b_ pre_ => ?_ | refine Nat1.mk fun q_ hq_ => ?_ | refine em_ fun x_ hx_ => ?_ | refine Elem1.mk fun e_ he_ => ?_); refine g0_ ?_))
    rw [forceL_eq]
    refine callV_of ?_
    refine ACalls.lendW (hd d bt bo gx l hrows hgx) (ρ := [⟨b_, .row 22 [encScr X] 0⟩, ⟨b2, .row 22 [encScr s] 0⟩, ⟨b1, .row 22 [encScr s] 0⟩]) ((List.Perm.append_left _ (List.perm_append_comm (l₁ := [_, _, _]) (l₂ := τ))).trans (by rw [List.append_assoc]; exact .refl _)) ?_
    rintro _ σ1 ⟨rfl, hP⟩
    refine ⟨[⟨b_, .row 22 [encScr X] 0⟩, ⟨b2, .row 22 [encScr s] 0⟩, ⟨b1, .row 22 [encScr s] 0⟩] ++ σ1, ⟨[], by rw [List.append_nil]; exact List.perm_append_comm⟩, ?_⟩
    (refine g0_ ?_; repeat ((first | refine n1_ fun b_ => ?_ | refine n2_ fun b_ => ?_ | refine n3_ fun b_ pre_ => ?_ | refine Nat1.mk fun q_ hq_ => ?_ | refine em_ fun x_ hx_ => ?_ | refine Elem1.mk fun e_ he_ => ?_); refine g0_ ?_))
    refine Draws10.chain ⟨6, [.new, .new, .new, .new, .new, .turn], [(5, [.keep, .keep, .keep, .again, .keep, .keep])], by decide +kernel, ?_⟩; (refine g0_ ?_; repeat ((first | refine n1_ fun b_ => ?_ | refine n2_ fun b_ => ?_ | refine n3_ fun b_ pre_ => ?_ | refine Nat1.mk fun q_ hq_ => ?_ | refine em_ fun x_ hx_ => ?_ | refine Elem1.mk fun e_ he_ => ?_); refine g0_ ?_))
    refine ACalls.lendF (hgv d σ1 hP) (ρ := [⟨b_, .row 22 [encScr X] 0⟩, ⟨b2, .row 22 [encScr s] 0⟩, ⟨b1, .row 22 [encScr s] 0⟩]) (List.perm_append_comm (l₁ := [_, _, _]) (l₂ := σ1)) ?_
    (refine g0_ ?_; repeat ((first | refine n1_ fun b_ => ?_ | refine n2_ fun b_ => ?_ | refine n3_ fun b_ pre_ => ?_ | refine Nat1.mk fun q_ hq_ => ?_ | refine em_ fun x_ hx_ => ?_ | refine Elem1.mk fun e_ he_ => ?_); refine g0_ ?_))
    refine (hXX).use ?_; (refine g0_ ?_; repeat ((first | refine n1_ fun b_ => ?_ | refine n2_ fun b_ => ?_ | refine n3_ fun b_ pre_ => ?_ | refine Nat1.mk fun q_ hq_ => ?_ | refine em_ fun x_ hx_ => ?_ | refine Elem1.mk fun e_ he_ => ?_); refine g0_ ?_))
    exact rfl
  · obtain ⟨rfl, rfl⟩ := hbad h0
    have hno := noScreen_ok W Scr.none noneS_ok
    rw [show decide (sameP Scr.none Scr.none) = true from decide_eq_true (sameP_rfl _)] at hno
    refine acalls_of_vc (DL_ok (by decide)) Tryd.func54 rfl (by decide) (by decide) rfl ?_
    (refine g0_ ?_; repeat ((first | refine n1_ fun b_ => ?_ | refine n2_ fun b_ => ?_ | refine n3_ fun b_ pre_ => ?_ | refine Nat1.mk fun q_ hq_ => ?_ | refine em_ fun x_ hx_ => ?_ | refine Elem1.mk fun e_ he_ => ?_); refine g0_ ?_))
    refine (how).use ?_; (refine g0_ ?_; repeat ((first | refine n1_ fun b_ => ?_ | refine n2_ fun b_ => ?_ | refine n3_ fun b_ pre_ => ?_ | refine Nat1.mk fun q_ hq_ => ?_ | refine em_ fun x_ hx_ => ?_ | refine Elem1.mk fun e_ he_ => ?_); refine g0_ ?_))
    rename_i b1
    rw [forceL_eq]
    refine callV_of ?_
    refine ACalls.lendH hcall (ρ := [⟨b_, .row 22 [encScr s] 0⟩, ⟨b1, .row 22 [encScr s] 0⟩]) (List.perm_append_comm (l₁ := [_, _]) (l₂ := τ)) ?_
    (refine g0_ ?_; repeat ((first | refine n1_ fun b_ => ?_ | refine n2_ fun b_ => ?_ | refine n3_ fun b_ pre_ => ?_ | refine Nat1.mk fun q_ hq_ => ?_ | refine em_ fun x_ hx_ => ?_ | refine Elem1.mk fun e_ he_ => ?_); refine g0_ ?_))
    refine (hp).use ?_; (refine g0_ ?_; repeat ((first | refine n1_ fun b_ => ?_ | refine n2_ fun b_ => ?_ | refine n3_ fun b_ pre_ => ?_ | refine Nat1.mk fun q_ hq_ => ?_ | refine em_ fun x_ hx_ => ?_ | refine Elem1.mk fun e_ he_ => ?_); refine g0_ ?_))
    (refine g1_ ?_; repeat ((first | refine n1_ fun b_ => ?_ | refine n2_ fun b_ => ?_ | refine n3_ fun b_ pre_ => ?_ | refine Nat1.mk fun q_ hq_ => ?_ | refine em_ fun x_ hx_ => ?_ | refine Elem1.mk fun e_ he_ => ?_); refine g1_ ?_))
    refine (hse).use ?_; (refine g0_ ?_; repeat ((first | refine n1_ fun b_ => ?_ | refine n2_ fun b_ => ?_ | refine n3_ fun b_ pre_ => ?_ | refine Nat1.mk fun q_ hq_ => ?_ | refine em_ fun x_ hx_ => ?_ | refine Elem1.mk fun e_ he_ => ?_); refine g0_ ?_))
    (refine g1_ ?_; repeat ((first | refine n1_ fun b_ => ?_ | refine n2_ fun b_ => ?_ | refine n3_ fun b_ pre_ => ?_ | refine Nat1.mk fun q_ hq_ => ?_ | refine em_ fun x_ hx_ => ?_ | refine Elem1.mk fun e_ he_ => ?_); refine g1_ ?_))
    refine (hck).use ?_; (refine g0_ ?_; repeat ((first | refine n1_ fun b_ => ?_ | refine n2_ fun b_ => ?_ | refine n3_ fun b_ pre_ => ?_ | refine Nat1.mk fun q_ hq_ => ?_ | refine em_ fun x_ hx_ => ?_ | refine Elem1.mk fun e_ he_ => ?_); refine g0_ ?_))
    (refine g1_ ?_; repeat ((first | refine n1_ fun b_ => ?_ | refine n2_ fun b_ => ?_ | refine n3_ fun b_ pre_ => ?_ | refine Nat1.mk fun q_ hq_ => ?_ | refine em_ fun x_ hx_ => ?_ | refine Elem1.mk fun e_ he_ => ?_); refine g1_ ?_))
    refine (hno).use ?_; (refine g0_ ?_; repeat ((first | refine n1_ fun b_ => ?_ | refine n2_ fun b_ => ?_ | refine n3_ fun b_ pre_ => ?_ | refine Nat1.mk fun q_ hq_ => ?_ | refine em_ fun x_ hx_ => ?_ | refine Elem1.mk fun e_ he_ => ?_); refine g0_ ?_))
    exact rfl
theorem deskOp_block {s s' : Scr} (gd : Nat) (args : Nat → List PV) (τ : Mem) (ht : s'.tabs = s.tabs) (hg : s'.gone = s.gone) (hG : s'.g = s.g)
    (h : checkS s = 0 → ∀ (d : Nat) (cv tv gv lv : PV), ACalls Tryd.prog W gd (args d) (dskB d cv tv gv lv s :: τ) (Gives (fun _ : Unit => .tup []) (fun _ => dskB d cv tv gv lv s' :: τ) (fun _ => True))) :
    DeskOp W s (moveE s s').1 (moveE s s').2 τ gd args := by
  refine ⟨fun h0 => ?_, fun h0 => ?_⟩
  · rw [moveE, if_neg h0]; exact ⟨rfl, rfl⟩
  · rw [moveE, if_pos h0]
    obtain ⟨w, h', hr⟩ := right_of h0
    have f := hr.fit
    have hw2 := f.w2
    have hh1 := f.h1
    have hh2 := f.h2
    refine ⟨rfl, s', s.g.rows, w, f.row, fun e => ?_, f.w1, by rw [f.rlen]; omega, by omega, ?_, fun d bt bo gx l hl hgx => ?_⟩
    · have := f.rlen
      rw [e] at this; simp at this; omega
    · rw [f.rlen, f.flat]
      have e : (⟨w, h', s.g.cs⟩ : Grid) = s'.g := by rw [hG, ← f.ew, ← f.eh]
      rw [e]
    · refine ACalls.lendW (h h0 d (.sl 4 (s.g.cs.map encCell)) (.rsl bt 1 0 s.tabs.length) (goneV gx s.gone.length) (.rsl bo 1 0 l.length)) (ρ := ⟨bt, .row 1 (s.tabs.map PV.bool) 0⟩ :: (goneM gx (s.gone.map encRow) ++ rowsM bo l)) ?_ ?_
      · exact List.Perm.cons _ List.perm_append_comm
      rintro v σ1 ⟨_, -, rfl, hm⟩
      refine ⟨deskM d bt bo gx l (s.g.cs.map encCell) s' ++ τ, ?_, rfl, hl ▸ desk_of d bt bo gx l _ s' (fun e => by rw [hg]; exact hgx e) τ⟩
      obtain ⟨q, hq⟩ := hm
      refine ⟨q, (hq.append_right _).trans ?_⟩
      rw [deskM, ht, hg]
      rw [List.cons_append, List.cons_append, List.cons_append, List.cons_append]
      refine List.Perm.cons _ ?_
      generalize (⟨bt, .row 1 (s.tabs.map PV.bool) 0⟩ :: (goneM gx (s.gone.map encRow) ++ rowsM bo l) : Mem) = R
      rw [List.append_assoc R]
      exact List.perm_append_comm
abbrev intsB (b : Nat) (l : List Int) : Blk := ⟨b, .row 1 [.sl 1 (l.map (PV.int .i64))] 0⟩
theorem lookC_ok (hT : Tabs W) (s : Scr) (hs : s.ok) (l : List Int) (hl : l.length ≤ 17592186043904) (bl : Nat) : ACalls Tryd.prog W 51 [encScr s, .bref bl 0] [intsB bl l] fun v σ' => ∃ ρ', σ'.Perm ([intsB bl l] ++ ρ') ∧ Frz ρ' v (.tup [encScr (moveE s (lookS s l)).1, .int .i64 (moveE s (lookS s l)).2]) := by
  have h := modeLookF_ok W hT s hs l hl
  refine acalls_of_vc (drawOk W) Tryd.func51 rfl (by decide) (by decide) rfl ?_
  (refine g0_ ?_; repeat ((first | refine n1_ fun b_ => ?_ | refine n2_ fun b_ => ?_ | refine n3_ fun b_ pre_ => ?_ | refine Nat1.mk fun q_ hq_ => ?_ | refine em_ fun x_ hx_ => ?_ | refine Elem1.mk fun e_ he_ => ?_); refine g0_ ?_))
  refine (h).use ?_; (refine g0_ ?_; repeat ((first | refine n1_ fun b_ => ?_ | refine n2_ fun b_ => ?_ | refine n3_ fun b_ pre_ => ?_ | refine Nat1.mk fun q_ hq_ => ?_ | refine em_ fun x_ hx_ => ?_ | refine Elem1.mk fun e_ he_ => ?_); refine g0_ ?_))
  exact ⟨[_, _], List.perm_append_comm (l₁ := [_, _]) (l₂ := [_]), .refl _⟩
theorem lookD_ok (s : Scr) (hs : s.ok) (l : List Int) (hi : ∀ n ∈ l, i64ok n) (hl : l.length ≤ 17592186043904) (d bl : Nat) (cv tv gv lv : PV) : ACalls Tryd.prog W 55 [.bref d 0, .bref bl 0] [dskB d cv tv gv lv s, intsB bl l] (Gives (fun _ : Unit => .tup []) (fun _ => [dskB d cv tv gv lv (lookS s l), intsB bl l]) (fun _ => True)) := by
  have ha := ApplyTo_ok W s.look hs.look l hi (by omega)
  clear hs
  rw [lookS]
  obtain ⟨⟨gw, gh, cs⟩, X, Y, late, lk, tp, bo, modes, tabs, kx, ky, ⟨f2, b2', bi2⟩, km, last, title, gone⟩ := s
  dsimp only at ha ⊢
  generalize applyTo lk l = lk' at *
  obtain ⟨fo, ba, bi⟩ := lk
  obtain ⟨fo', ba', bi'⟩ := lk'
  rw [dskB_eq]
  refine acalls_of_vc (DL_ok (by decide)) Tryd.func55 rfl (by decide) (by decide) rfl ?_
  (refine g0_ ?_; repeat ((first | refine n1_ fun b_ => ?_ | refine n2_ fun b_ => ?_ | refine n3_ fun b_ pre_ => ?_ | refine Nat1.mk fun q_ hq_ => ?_ | refine em_ fun x_ hx_ => ?_ | refine Elem1.mk fun e_ he_ => ?_); refine g0_ ?_))
  refine headL_ (head_ ?_); (refine g0_ ?_; repeat ((first | refine n1_ fun b_ => ?_ | refine n2_ fun b_ => ?_ | refine n3_ fun b_ pre_ => ?_ | refine Nat1.mk fun q_ hq_ => ?_ | refine em_ fun x_ hx_ => ?_ | refine Elem1.mk fun e_ he_ => ?_); refine g0_ ?_))
  refine ⟨_, (ha).quiet, ?_⟩; (refine g0_ ?_; repeat ((first | refine n1_ fun b_ => ?_ | refine n2_ fun b_ => ?_ | refine n3_ fun b_ pre_ => ?_ | refine Nat1.mk fun q_ hq_ => ?_ | refine em_ fun x_ hx_ => ?_ | refine Elem1.mk fun e_ he_ => ?_); refine g0_ ?_))
  exact ⟨(), trivial, rfl, by (first | exact ⟨_, .refl _⟩ | exact wkMem.rfl' | exact ⟨_, .swap _ _ _⟩ | (repeat (first | exact wkMem.nil _ | exact wkMem.rfl' | exact wk_snoc _ _ _ | exact wk_fam (by assumption) _ _ _ | exact wk_famN (by assumption) _ _ _ | (apply wkMem.cons; (case' hl => (repeat (first | exact .here _ _ _ | apply Look.there)))) | apply wkMem.skip)))⟩
end Go.Eng.YtgpkedepboenpaaDoor
end

/- Titles: package mode's Name, the desk's. -/
section
namespace Go.Eng.YtgpkedepboenpaaDoor
open Go Go.Eng Go.Proofs
variable (W : World)
set_option linter.unusedSimpArgs false
set_option maxRecDepth 100000
set_option linter.unusedVariables false
set_option maxHeartbeats 8000000
def runeP (n : Nat) : PV := .int .i32 n
theorem runesFrom_eqS (s : List UInt8) : ∀ (n i : Nat) (acc : Array Value), s.length - i ≤ n → (Conv.runesFrom ⟨s.toArray⟩ n i acc).toList = acc.toList ++ (runes (s.drop i)).map fun p => Value.int .i32 p.1
  | 0, i, acc, h => by
    rw [Conv.runesFrom, List.drop_of_length_le (by omega), runes_nil]; simp
  | n + 1, i, acc, h => by
    rw [Conv.runesFrom]
    by_cases hi : i < s.length
    · have hne : s.drop i ≠ [] := by simp; omega
      rw [if_pos (by simpa [ByteArray.size] using hi), decode_drop s i hi]
      have := dec_pos (s.drop i) hne
      dsimp only
      rw [runesFrom_eqS s n _ _ (by omega), runes_cons hne, List.drop_drop]
      simp
    · rw [if_neg (by simpa [ByteArray.size] using hi), List.drop_of_length_le (by omega), runes_nil]; simp
theorem runesV_eqS (s : List UInt8) : runesV s = ((runes s).map Prod.fst).map runeP := by
  rw [runesV, runesFrom_eqS s s.length 0 #[] (by omega)]
  simp [runeP, ofV1]
def encLs : List Nat → List UInt8
  | [] => []
  | r :: l => Lib.encodeRune r ++ encLs l
theorem runesBytes_encS (l : List Nat) : (runesBytes (l.map fun r : Nat => (r : Int))).data.toList = encLs l := by
  have key : ∀ (l : List Nat) (acc : ByteArray), ((l.map fun r : Nat => (r : Int)).foldl (fun r n => r ++ Utf8.encode n) acc).data.toList = acc.data.toList ++ encLs l := by
    intro l
    induction l with
    | nil => intro acc; simp [encLs]
    | cons n l ih =>
      intro acc
      rw [List.map_cons, List.foldl_cons, ih, encLs, ← enc_utf8]
      simp [ByteArray.data_append]
  have := key l ByteArray.empty
  rw [runesBytes, this]
  rfl
theorem encLs_len : ∀ l : List Nat, (encLs l).length ≤ 4 * l.length
  | [] => Nat.le_refl _
  | r :: l => by
    have h1 := encLs_len l
    have h2 : (Lib.encodeRune r).length ≤ 4 := by have := Lib.encodeRuneZ_length r; simpa [Lib.encodeRune] using this.2
    rw [encLs, List.length_append, List.length_cons]; omega
def nameL (c : List UInt8) : List UInt8 := encLs (((runes c).map Prod.fst).take 20)
theorem nameL_len (c : List UInt8) : (nameL c).length ≤ 80 := by
  have := encLs_len (((runes c).map Prod.fst).take 20)
  rw [List.length_take] at this
  rw [nameL]; omega
def nameS (s : Scr) (t : List UInt8) : Scr := { s with title := nameL (cleanL t) }
theorem nameS_ok {s : Scr} (h : s.ok) (t : List UInt8) : (nameS s t).ok := by
  have hL := nameL_len (cleanL t)
  obtain ⟨h1, h2, h3, h4, h5, h6, h7, h8, h9, h10, h11, h12, h13, h14, h15⟩ := h
  exact ⟨h1, h2, h3, h4, h5, h6, h7, h8, h9, h10, h11, h12, h13, (by show (nameL (cleanL t)).length ≤ _; omega), h15⟩
theorem take_min (l : List PV) (n : Nat) : l.take (min l.length n) = l.take n := by
  rcases Nat.le_total l.length n with h | h
  · rw [Nat.min_eq_left h, List.take_length, List.take_of_length_le h]
  · rw [Nat.min_eq_right h]
theorem name1_ok (hT : Tabs W) (b bc N bt : Nat) (tv gv : PV) (s : Scr) (t : List UInt8) (ht : t.length ≤ 1048576) : ACalls Tryd.prog W 114 [.bref b 0, .bref bt 0] [scrB b bc N tv gv s, strB bt t] (Gives (fun _ : Unit => .tup []) (fun _ => [scrB b bc N tv gv (nameS s t), strB bt t]) (fun _ => True)) := by
  have hcl := clean_ok W hT t (by omega)
  have hl := clean_len t
  rw [nameS]
  obtain ⟨⟨gw, gh, cs⟩, X, Y, late, ⟨fo, ba, bi⟩, tp, bo, modes, tabs, kx, ky, ⟨f2, b2', bi2⟩, km, last, title, gone⟩ := s
  dsimp only
  rw [scrB_eq]
  refine acalls_of_vc (DL_ok (by decide)) Tryd.func114 rfl (by decide) (by decide) rfl ?_
  (refine g0_ ?_; repeat ((first | refine n1_ fun b_ => ?_ | refine n2_ fun b_ => ?_ | refine n3_ fun b_ pre_ => ?_ | refine Nat1.mk fun q_ hq_ => ?_ | refine em_ fun x_ hx_ => ?_ | refine Elem1.mk fun e_ he_ => ?_); refine g0_ ?_))
  refine (hcl).use ?_; (refine g0_ ?_; repeat ((first | refine n1_ fun b_ => ?_ | refine n2_ fun b_ => ?_ | refine n3_ fun b_ pre_ => ?_ | refine Nat1.mk fun q_ hq_ => ?_ | refine em_ fun x_ hx_ => ?_ | refine Elem1.mk fun e_ he_ => ?_); refine g0_ ?_))
  (refine g0_ ?_; repeat ((first | refine n1_ fun b_ => ?_ | refine n2_ fun b_ => ?_ | refine n3_ fun b_ pre_ => ?_ | refine Nat1.mk fun q_ hq_ => ?_ | refine em_ fun x_ hx_ => ?_ | refine Elem1.mk fun e_ he_ => ?_); refine g0_ ?_))
  have hq : q_ = min (runesV (cleanL t)).length 20 := by split at hq_ <;> omega
  refine ⟨(((runes (cleanL t)).map Prod.fst).take 20).map (fun r : Nat => (r : Int)), ?_, ?_⟩
  · rw [hq, take_min, runesV_eqS, ← List.map_take, List.map_map]
    exact List.map_congr_left fun r _ => rfl
  rw [runesBytes_encS]
  (refine g0_ ?_; repeat ((first | refine n1_ fun b_ => ?_ | refine n2_ fun b_ => ?_ | refine n3_ fun b_ pre_ => ?_ | refine Nat1.mk fun q_ hq_ => ?_ | refine em_ fun x_ hx_ => ?_ | refine Elem1.mk fun e_ he_ => ?_); refine g0_ ?_))
  exact ⟨(), trivial, rfl, by (first | exact ⟨_, .refl _⟩ | exact wkMem.rfl' | exact ⟨_, .swap _ _ _⟩ | (repeat (first | exact wkMem.nil _ | exact wkMem.rfl' | exact wk_snoc _ _ _ | exact wk_fam (by assumption) _ _ _ | exact wk_famN (by assumption) _ _ _ | (apply wkMem.cons; (case' hl => (repeat (first | exact .here _ _ _ | apply Look.there)))) | apply wkMem.skip)))⟩
theorem nameD_ok (s : Scr) (t : List UInt8) (ht : t.length ≤ 1048576) (d bt : Nat) (cv tv gv lv : PV) : ACalls Tryd.prog W 57 [.bref d 0, .bref bt 0] [dskB d cv tv gv lv s, strB bt t] (Gives (fun _ : Unit => .tup []) (fun _ => [dskB d cv tv gv lv (nameS s t), strB bt t]) (fun _ => True)) := by
  have hcl := cleanOf_ok W t ht
  have hl := clean_len t
  rw [nameS]
  obtain ⟨⟨gw, gh, cs⟩, X, Y, late, ⟨fo, ba, bi⟩, tp, bo, modes, tabs, kx, ky, ⟨f2, b2', bi2⟩, km, last, title, gone⟩ := s
  dsimp only
  rw [dskB_eq]
  refine acalls_of_vc (DL_ok (by decide)) Tryd.func57 rfl (by decide) (by decide) rfl ?_
  (refine g0_ ?_; repeat ((first | refine n1_ fun b_ => ?_ | refine n2_ fun b_ => ?_ | refine n3_ fun b_ pre_ => ?_ | refine Nat1.mk fun q_ hq_ => ?_ | refine em_ fun x_ hx_ => ?_ | refine Elem1.mk fun e_ he_ => ?_); refine g0_ ?_))
  refine (hcl).use ?_; (refine g0_ ?_; repeat ((first | refine n1_ fun b_ => ?_ | refine n2_ fun b_ => ?_ | refine n3_ fun b_ pre_ => ?_ | refine Nat1.mk fun q_ hq_ => ?_ | refine em_ fun x_ hx_ => ?_ | refine Elem1.mk fun e_ he_ => ?_); refine g0_ ?_))
  (refine g0_ ?_; repeat ((first | refine n1_ fun b_ => ?_ | refine n2_ fun b_ => ?_ | refine n3_ fun b_ pre_ => ?_ | refine Nat1.mk fun q_ hq_ => ?_ | refine em_ fun x_ hx_ => ?_ | refine Elem1.mk fun e_ he_ => ?_); refine g0_ ?_))
  have hq : q_ = min (runesV (cleanL t)).length 20 := by split at hq_ <;> omega
  refine ⟨(((runes (cleanL t)).map Prod.fst).take 20).map (fun r : Nat => (r : Int)), ?_, ?_⟩
  · rw [hq, take_min, runesV_eqS, ← List.map_take, List.map_map]
    exact List.map_congr_left fun r _ => rfl
  rw [runesBytes_encS]
  (refine g0_ ?_; repeat ((first | refine n1_ fun b_ => ?_ | refine n2_ fun b_ => ?_ | refine n3_ fun b_ pre_ => ?_ | refine Nat1.mk fun q_ hq_ => ?_ | refine em_ fun x_ hx_ => ?_ | refine Elem1.mk fun e_ he_ => ?_); refine g0_ ?_))
  exact ⟨(), trivial, rfl, by (first | exact ⟨_, .refl _⟩ | exact wkMem.rfl' | exact ⟨_, .swap _ _ _⟩ | (repeat (first | exact wkMem.nil _ | exact wkMem.rfl' | exact wk_snoc _ _ _ | exact wk_fam (by assumption) _ _ _ | exact wk_famN (by assumption) _ _ _ | (apply wkMem.cons; (case' hl => (repeat (first | exact .here _ _ _ | apply Look.there)))) | apply wkMem.skip)))⟩
end Go.Eng.YtgpkedepboenpaaDoor
end

/- Package mode's Name and Reset; a screen of the call's own that becomes a new one. -/
section
namespace Go.Eng.YtgpkedepboenpaaDoor
open Go Go.Eng Go.Proofs
variable (W : World)
set_option linter.unusedSimpArgs false
set_option maxRecDepth 100000
set_option linter.unusedVariables false
set_option maxHeartbeats 8000000
theorem modeName_ok (hT : Tabs W) (s : Scr) (hok : s.ok) (t : List UInt8) (ht : t.length ≤ 1048576) : Pure Tryd.prog W 53 [encScr s, .str t] (.tup [encScr (moveE s (nameS s t)).1, .int .i64 (moveE s (nameS s t)).2]) := by
  by_cases h0 : checkS s = 0
  · rw [moveE, if_pos h0]
    refine Pure.of (acalls_of_vc (drawOk W) Tryd.func53 rfl (by decide) (by decide) rfl ?_)
    (refine g0_ ?_; repeat ((first | refine n1_ fun b_ => ?_ | refine n2_ fun b_ => ?_ | refine n3_ fun b_ pre_ => ?_ | refine Nat1.mk fun q_ hq_ => ?_ | refine em_ fun x_ hx_ => ?_ | refine Elem1.mk fun e_ he_ => ?_); refine g0_ ?_))
    rename_i bs bl
    refine ACalls.lendF (change_ok W hT s hok h0 114 [.bref bl 0] [strB bl t] (nameS s t) (fun b bc bt bg => ?_)) (.swap _ _ _) ?_
    · refine ACalls.lend (name1_ok W hT b bc s.g.cs.length bl (.rsl bt 1 0 s.tabs.length) (.rsl bg 1 0 s.gone.length) s t ht) (r := scrR bc bt bg [] s) ?_ ?_
      · exact (List.perm_append_comm (l₁ := scrR bc bt bg [] s) (l₂ := [_])).cons _
      · rintro _ -
        exact ⟨rfl, done_plainLK b bc bt bg s (nameS s t) rfl rfl rfl [strB bl t]⟩
    · (refine g0_ ?_; repeat ((first | refine n1_ fun b_ => ?_ | refine n2_ fun b_ => ?_ | refine n3_ fun b_ pre_ => ?_ | refine Nat1.mk fun q_ hq_ => ?_ | refine em_ fun x_ hx_ => ?_ | refine Elem1.mk fun e_ he_ => ?_); refine g0_ ?_))
      exact .refl _
  · rw [moveE, if_neg h0]
    have hb := change_bad W hT s hok h0
    refine Pure.of (acalls_of_vc (drawOk W) Tryd.func53 rfl (by decide) (by decide) rfl ?_)
    (refine g0_ ?_; repeat ((first | refine n1_ fun b_ => ?_ | refine n2_ fun b_ => ?_ | refine n3_ fun b_ pre_ => ?_ | refine Nat1.mk fun q_ hq_ => ?_ | refine em_ fun x_ hx_ => ?_ | refine Elem1.mk fun e_ he_ => ?_); refine g0_ ?_))
    rename_i bs bl
    refine (hb 114 [.bref bl 0]).use ?_
    (refine g0_ ?_; repeat ((first | refine n1_ fun b_ => ?_ | refine n2_ fun b_ => ?_ | refine n3_ fun b_ pre_ => ?_ | refine Nat1.mk fun q_ hq_ => ?_ | refine em_ fun x_ hx_ => ?_ | refine Elem1.mk fun e_ he_ => ?_); refine g0_ ?_))
    exact .refl _
theorem nameC_ok (hT : Tabs W) (s : Scr) (hs : s.ok) (t : List UInt8) (ht : t.length ≤ 1048576) (bl : Nat) : ACalls Tryd.prog W 52 [encScr s, .bref bl 0] [strB bl t] fun v σ' => ∃ ρ', σ'.Perm ([strB bl t] ++ ρ') ∧ Frz ρ' v (.tup [encScr (moveE s (nameS s t)).1, .int .i64 (moveE s (nameS s t)).2]) := by
  have h := modeName_ok W hT s hs t ht
  refine acalls_of_vc (drawOk W) Tryd.func52 rfl (by decide) (by decide) rfl ?_
  (refine g0_ ?_; repeat ((first | refine n1_ fun b_ => ?_ | refine n2_ fun b_ => ?_ | refine n3_ fun b_ pre_ => ?_ | refine Nat1.mk fun q_ hq_ => ?_ | refine em_ fun x_ hx_ => ?_ | refine Elem1.mk fun e_ he_ => ?_); refine g0_ ?_))
  refine (h).use ?_; (refine g0_ ?_; repeat ((first | refine n1_ fun b_ => ?_ | refine n2_ fun b_ => ?_ | refine n3_ fun b_ pre_ => ?_ | refine Nat1.mk fun q_ hq_ => ?_ | refine em_ fun x_ hx_ => ?_ | refine Elem1.mk fun e_ he_ => ?_); refine g0_ ?_))
  exact ⟨[_, _], List.perm_append_comm (l₁ := [_, _]) (l₂ := [_]), .refl _⟩
/-- A screen of the call's own that holds what is written no more, but for what is gone. -/
def DoneR (b : Nat) (s : Scr) (σ : Mem) : Prop := ∃ gv ρ, σ.Perm (⟨b, .row 22 [.agg (scrA (.sl 4 (s.g.cs.map encCell)) (.sl 1 (s.tabs.map PV.bool)) gv s)] 0⟩ :: ρ) ∧ (gv = .nils ∨ ∃ bg i n, gv = .rsl bg 1 i n) ∧ Frz ρ gv (.sl 1 (s.gone.map encRow))
theorem change_okR (hT : Tabs W) (s : Scr) (hok : s.ok) (hb : checkS s = 0) (g : Nat) (cap : List PV) (τ : Mem) (s' : Scr)
    (hg : ∀ b bc bt bg, ACalls Tryd.prog W g (.bref b 0 :: cap) (scrM b bc bt bg [] s ++ τ) fun v σ' => v = .tup [] ∧ DoneR b s' σ') :
    ACalls Tryd.prog W 67 [encScr s, .fn g cap] τ fun v σ' => Frz σ' v (.tup [encScr s', .int .i64 0]) := by
  have hck := checkScr_ok W hT s hok
  rw [hb] at hck
  obtain ⟨w, h, hr⟩ := right_of hb
  have hcs : s.g.cs.length ≤ 7200 := by rw [hr.fit.len]; exact hr.fit.small
  have hne : s.g.cs ≠ [] := by
    intro h0
    have h1 := hr.fit.len
    rw [h0] at h1
    have : 1 * 1 ≤ w * h := Nat.mul_le_mul hr.fit.w1 hr.fit.h1
    simp at h1; omega
  have htl := hr.tabs
  have hw1 := hr.fit.w1
  have hw2 := hr.fit.w2
  have hcp := putCopy_ok W s hne hcs (by intro h0; rw [h0] at htl; simp at htl; omega) (by omega) hr.gone (fun r hr' => (hr.rows r hr').2)
  refine acalls_of_vc (drawOk W) Tryd.func67 rfl (by decide) (by decide) rfl ?_
  (refine g0_ ?_; repeat ((first | refine n1_ fun b_ => ?_ | refine n2_ fun b_ => ?_ | refine n3_ fun b_ pre_ => ?_ | refine Nat1.mk fun q_ hq_ => ?_ | refine em_ fun x_ hx_ => ?_ | refine Elem1.mk fun e_ he_ => ?_); refine g0_ ?_))
  refine (hck).use ?_; (refine g0_ ?_; repeat ((first | refine n1_ fun b_ => ?_ | refine n2_ fun b_ => ?_ | refine n3_ fun b_ pre_ => ?_ | refine Nat1.mk fun q_ hq_ => ?_ | refine em_ fun x_ hx_ => ?_ | refine Elem1.mk fun e_ he_ => ?_); refine g0_ ?_))
  (refine g1_ ?_; repeat ((first | refine n1_ fun b_ => ?_ | refine n2_ fun b_ => ?_ | refine n3_ fun b_ pre_ => ?_ | refine Nat1.mk fun q_ hq_ => ?_ | refine em_ fun x_ hx_ => ?_ | refine Elem1.mk fun e_ he_ => ?_); refine g1_ ?_))
  refine ACalls.give hcp ?_
  rintro ⟨bc, bt, bg⟩ -
  (refine g0_ ?_; repeat ((first | refine n1_ fun b_ => ?_ | refine n2_ fun b_ => ?_ | refine n3_ fun b_ pre_ => ?_ | refine Nat1.mk fun q_ hq_ => ?_ | refine em_ fun x_ hx_ => ?_ | refine Elem1.mk fun e_ he_ => ?_); refine g0_ ?_))
  rw [forceL_eq]
  refine callV_of ?_
  rename_i b1
  obtain ⟨z, hz⟩ : ∃ z : Blk, z = ⟨b_, .row 22 [.agg (scrA .nils .nils .nils Scr.none)] 0⟩ := ⟨_, rfl⟩
  refine ACalls.weak ((((hg b1 bc bt bg).frame [z]).perm ?_).mono ?_)
  · rw [List.append_assoc, hz]
    exact List.Perm.append_left (scrM b1 bc bt bg [] s) (List.perm_append_comm (l₁ := [_]) (l₂ := τ))
  rintro v σ' ⟨σ1, ⟨rfl, gv, ρ, hp, hgv, f3⟩, rfl⟩
  refine ⟨⟨b1, .row 22 [.agg (scrA (.sl 4 (s'.g.cs.map encCell)) (.sl 1 (s'.tabs.map PV.bool)) gv s')] 0⟩ :: z :: ρ, ?_, [], ?_⟩
  · subst hz
    rcases hgv with rfl | ⟨bg', i, n, rfl⟩
    · (refine g0_ ?_; repeat ((first | refine n1_ fun b_ => ?_ | refine n2_ fun b_ => ?_ | refine n3_ fun b_ pre_ => ?_ | refine Nat1.mk fun q_ hq_ => ?_ | refine em_ fun x_ hx_ => ?_ | refine Elem1.mk fun e_ he_ => ?_); refine g0_ ?_))
      exact frz_tup2 (a' := encScr s') (frz_scr (s := s') (.refl _) (.refl _) (f3.cons _ |>.cons _)) (.refl _)
    · (refine g0_ ?_; repeat ((first | refine n1_ fun b_ => ?_ | refine n2_ fun b_ => ?_ | refine n3_ fun b_ pre_ => ?_ | refine Nat1.mk fun q_ hq_ => ?_ | refine em_ fun x_ hx_ => ?_ | refine Elem1.mk fun e_ he_ => ?_); refine g0_ ?_))
      exact frz_tup2 (a' := encScr s') (frz_scr (s := s') (.refl _) (.refl _) (f3.cons _ |>.cons _)) (.refl _)
  · rw [List.append_nil]
    exact (hp.append_right [z]).trans (List.Perm.cons _ (List.perm_append_comm (l₁ := ρ) (l₂ := [z])))
/-- A screen anew. -/
def resetS (s : Scr) : Scr := { newS s.g.w.toNat s.g.h.toNat with gone := s.gone }
theorem resetS_ok {s : Scr} (h : s.ok) (h0 : checkS s = 0) : (resetS s).ok := by
  obtain ⟨w, h', hr⟩ := right_of h0
  have e1 := hr.fit.ew
  have e2 := hr.fit.eh
  have h1 := newS_ok s.g.w.toNat s.g.h.toNat (by have := hr.fit.w2; omega) (by have := hr.fit.h2; omega)
  have hg := h.gone
  obtain ⟨h1, h2, h3, h4, h5, h6, h7, h8, h9, h10, h11, h12, h13, h14, h15⟩ := h1
  exact ⟨h1, h2, h3, h4, h5, h6, h7, h8, h9, h10, h11, h12, h13, h14, hg⟩
theorem newSE_at {w h : Nat} (h1 : 1 ≤ w) (h2 : w ≤ 120) (h3 : 1 ≤ h) (h4 : h ≤ 60) : newSE w h = (newS w h, 0) := by
  rw [newSE, if_pos (by simp only [sizeB, Bool.and_eq_true, decide_eq_true_eq]; omega), Int.toNat_natCast, Int.toNat_natCast]
theorem reset1_ok (b bc N bg n : Nat) (tv : PV) (s : Scr) {w h : Nat} (f : s.g.fit w h) : ACalls Tryd.prog W 121 [.bref b 0] [scrB b bc N tv (.rsl bg 1 0 n) s]
    (Gives (fun _ : Unit => .tup []) (fun _ => [⟨b, .row 22 [.agg (scrA (.sl 4 ((newG w h).cs.map encCell)) (.sl 1 ((tabsN w w).map PV.bool)) (.rsl bg 1 0 n) (newS w h))] 0⟩]) (fun _ => True)) := by
  have hn := putNew_ok W w h
  rw [newSE_at f.w1 f.w2 f.h1 f.h2] at hn
  rw [show encScr (newS w h, (0 : Int)).1 = .agg (scrA (.sl 4 ((newG w h).cs.map encCell)) (.sl 1 ((tabsN w w).map PV.bool)) (.sl 1 []) (newS w h)) from rfl] at hn
  have e1 := f.ew
  have e2 := f.eh
  clear f
  obtain ⟨⟨gw, gh, cs⟩, X, Y, late, ⟨fo, ba, bi⟩, tp, bo, modes, tabs, kx, ky, ⟨f2, b2', bi2⟩, km, last, title, gone⟩ := s
  dsimp only at *
  subst e1 e2
  rw [scrB_eqK]
  generalize (newG w h).cs.map encCell = C at *
  generalize (tabsN w w).map PV.bool = T at *
  refine acalls_of_vc (DL_ok (by decide)) Tryd.func121 rfl (by decide) (by decide) rfl ?_
  (refine g0_ ?_; repeat ((first | refine n1_ fun b_ => ?_ | refine n2_ fun b_ => ?_ | refine n3_ fun b_ pre_ => ?_ | refine Nat1.mk fun q_ hq_ => ?_ | refine em_ fun x_ hx_ => ?_ | refine Elem1.mk fun e_ he_ => ?_); refine g0_ ?_))
  refine Draws10.chain ⟨16, [.new, .new, .new, .new, .new, .new, .new, .new, .new, .new, .new, .new, .new, .new, .turn, .skip], [(14, [.again, .again, .again, .again, .again, .again, .again, .again, .again, .again, .again, .again, .again, .again, .keep, .turn]), (15, [.keep, .keep, .keep, .keep, .keep, .keep, .keep, .keep, .keep, .keep, .keep, .keep, .keep, .again, .keep, .keep])], by decide +kernel, ?_⟩; (refine g0_ ?_; repeat ((first | refine n1_ fun b_ => ?_ | refine n2_ fun b_ => ?_ | refine n3_ fun b_ pre_ => ?_ | refine Nat1.mk fun q_ hq_ => ?_ | refine em_ fun x_ hx_ => ?_ | refine Elem1.mk fun e_ he_ => ?_); refine g0_ ?_))
  refine ⟨_, (hn).quiet, ?_⟩; (refine g0_ ?_; repeat ((first | refine n1_ fun b_ => ?_ | refine n2_ fun b_ => ?_ | refine n3_ fun b_ pre_ => ?_ | refine Nat1.mk fun q_ hq_ => ?_ | refine em_ fun x_ hx_ => ?_ | refine Elem1.mk fun e_ he_ => ?_); refine g0_ ?_))
  (refine g0_ ?_; repeat ((first | refine n1_ fun b_ => ?_ | refine n2_ fun b_ => ?_ | refine n3_ fun b_ pre_ => ?_ | refine Nat1.mk fun q_ hq_ => ?_ | refine em_ fun x_ hx_ => ?_ | refine Elem1.mk fun e_ he_ => ?_); refine g0_ ?_))
  refine ⟨_, (hn).quiet, ?_⟩; (refine g0_ ?_; repeat ((first | refine n1_ fun b_ => ?_ | refine n2_ fun b_ => ?_ | refine n3_ fun b_ pre_ => ?_ | refine Nat1.mk fun q_ hq_ => ?_ | refine em_ fun x_ hx_ => ?_ | refine Elem1.mk fun e_ he_ => ?_); refine g0_ ?_))
  exact ⟨(), trivial, rfl, by (first | exact ⟨_, .refl _⟩ | exact wkMem.rfl' | exact ⟨_, .swap _ _ _⟩ | (repeat (first | exact wkMem.nil _ | exact wkMem.rfl' | exact wk_snoc _ _ _ | exact wk_fam (by assumption) _ _ _ | exact wk_famN (by assumption) _ _ _ | (apply wkMem.cons; (case' hl => (repeat (first | exact .here _ _ _ | apply Look.there)))) | apply wkMem.skip)))⟩
theorem modeReset_ok (hT : Tabs W) (s : Scr) (hok : s.ok) : Pure Tryd.prog W 59 [encScr s] (.tup [encScr (moveE s (resetS s)).1, .int .i64 (moveE s (resetS s)).2]) := by
  by_cases h0 : checkS s = 0
  · rw [moveE, if_pos h0]
    obtain ⟨w, h, hr⟩ := right_of h0
    have e : resetS s = { newS w h with gone := s.gone } := by rw [resetS, hr.fit.ew, hr.fit.eh, Int.toNat_natCast, Int.toNat_natCast]
    refine Pure.of (acalls_of_vc (drawOk W) Tryd.func59 rfl (by decide) (by decide) rfl ?_)
    (refine g0_ ?_; repeat ((first | refine n1_ fun b_ => ?_ | refine n2_ fun b_ => ?_ | refine n3_ fun b_ pre_ => ?_ | refine Nat1.mk fun q_ hq_ => ?_ | refine em_ fun x_ hx_ => ?_ | refine Elem1.mk fun e_ he_ => ?_); refine g0_ ?_))
    refine ACalls.lendF (change_okR W hT s hok h0 121 [] [] (resetS s) (fun b bc bt bg => ?_)) (.refl _) ?_
    · rw [List.append_nil]
      refine ACalls.lend (reset1_ok W b bc s.g.cs.length bg s.gone.length (.rsl bt 1 0 s.tabs.length) s hr.fit) (r := scrR bc bt bg [] s) (.refl _) ?_
      rintro _ -
      rw [e]
      exact ⟨rfl, .rsl bg 1 0 s.gone.length, scrR bc bt bg [] s, .refl _, .inr ⟨bg, 0, _, rfl⟩, frz_row (l := s.gone.map encRow) (.there _ _ _ _ _ (.there _ _ _ _ _ (.here _ _ _))) _ (by simp)⟩
    · (refine g0_ ?_; repeat ((first | refine n1_ fun b_ => ?_ | refine n2_ fun b_ => ?_ | refine n3_ fun b_ pre_ => ?_ | refine Nat1.mk fun q_ hq_ => ?_ | refine em_ fun x_ hx_ => ?_ | refine Elem1.mk fun e_ he_ => ?_); refine g0_ ?_))
      exact .refl _
  · rw [moveE, if_neg h0]
    have hb := change_bad W hT s hok h0
    refine Pure.of (acalls_of_vc (drawOk W) Tryd.func59 rfl (by decide) (by decide) rfl ?_)
    (refine g0_ ?_; repeat ((first | refine n1_ fun b_ => ?_ | refine n2_ fun b_ => ?_ | refine n3_ fun b_ pre_ => ?_ | refine Nat1.mk fun q_ hq_ => ?_ | refine em_ fun x_ hx_ => ?_ | refine Elem1.mk fun e_ he_ => ?_); refine g0_ ?_))
    refine (hb 121 []).use ?_
    (refine g0_ ?_; repeat ((first | refine n1_ fun b_ => ?_ | refine n2_ fun b_ => ?_ | refine n3_ fun b_ pre_ => ?_ | refine Nat1.mk fun q_ hq_ => ?_ | refine em_ fun x_ hx_ => ?_ | refine Elem1.mk fun e_ he_ => ?_); refine g0_ ?_))
    exact .refl _
end Go.Eng.YtgpkedepboenpaaDoor
end
