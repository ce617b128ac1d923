/- Texts put together: Dsk1, Dsk2, Dsk3, Dsk4. -/
import Derived.Test.YtphoefglfbifdaaDoorMW11
import Derived.Test.YtphoefglfbifdaaDoorMW6
/- A desk, the document's screen under way: Take, Give; the laws' does, acts, one. -/
section
namespace Go.Eng
open Go
variable {P : Program} {W : World}
/-- A call that is lent some blocks, whatever it leaves. -/
theorem ACalls.lendW {f : FuncId} {args : List PV} {σ τ ρ : Mem} {k0 k : PV → Mem → Prop} (h : ACalls P W f args τ k0) (hp : σ.Perm (τ ++ ρ)) (hk : ∀ v σ1, k0 v σ1 → ∃ σ2, wkMem (σ1 ++ ρ) σ2 ∧ k v σ2) : ACalls P W f args σ k := by
  refine ACalls.weak (((h.frame ρ).perm hp).mono ?_)
  rintro v σ' ⟨σ1, h1, rfl⟩
  obtain ⟨σ2, h2, h3⟩ := hk v σ1 h1
  exact ⟨σ2, h3, h2⟩
end Go.Eng
namespace Go.Eng.YtphoefglfbifdaaDoor
open Go Go.Eng Go.Proofs
variable (W : World)
set_option linter.unusedSimpArgs false
set_option maxRecDepth 100000
set_option linter.unusedVariables false
set_option maxHeartbeats 8000000
theorem frz_sub {σ σ' : Mem} (hs : ∀ k ∈ σ, k ∈ σ') {p q : PV} (h : Frz σ p q) : Frz σ' p q := by
  induction h with
  | refl p => exact .refl p
  | nils sz => exact .nils sz
  | rsl b sz i n es es' fz r hl hi hn _ ih =>
    obtain ⟨r', hr'⟩ := Look.of_mem (hs _ (hl.perm.mem_iff.2 List.mem_cons_self))
    exact .rsl b sz i n es es' fz r' hr' hi hn ih
  | agg cs cs' hl _ ih => exact .agg cs cs' hl ih
  | tup cs cs' hl _ ih => exact .tup cs cs' hl ih
  | bref b f sz e fz r hl =>
    obtain ⟨r', hr'⟩ := Look.of_mem (hs _ (hl.perm.mem_iff.2 List.mem_cons_self))
    exact .bref b f sz e fz r' hr'
/-- The block of a desk. -/
def dskB (d : Nat) (cv tv gv lv : PV) (s : Scr) : Blk := ⟨d, .row 23 [.agg (scrA cv tv gv s ++ [lv])] 0⟩
/-- A desk whose fields can be read out. -/
def DeskP (d : Nat) (s : Scr) (L : List (List Cell)) (σ : Mem) : Prop :=
  ∃ cs bt nt gv bo no ρ, σ.Perm (dskB d (.sl 4 cs) (.rsl bt 1 0 nt) gv (.rsl bo 1 0 no) s :: ρ) ∧ (gv = .nils ∨ ∃ bg i n, gv = .rsl bg 1 i n) ∧
    Frz ρ (.rsl bt 1 0 nt) (.sl 1 (s.tabs.map PV.bool)) ∧ Frz ρ gv (.sl 1 (s.gone.map encRow)) ∧ Frz ρ (.rsl bo 1 0 no) (encRows L)
def goneV (gx : Option Nat) (n : Nat) : PV := match gx with | none => .nils | some b => .rsl b 1 0 n
def goneM (gx : Option Nat) (l : List PV) : Mem := match gx with | none => [] | some b => [⟨b, .row 1 l 0⟩]
/-- The memory of a desk. -/
def deskM (d bt bo : Nat) (gx : Option Nat) (l : Fam) (cs : List PV) (s : Scr) : Mem :=
  dskB d (.sl 4 cs) (.rsl bt 1 0 s.tabs.length) (goneV gx s.gone.length) (.rsl bo 1 0 l.length) s :: ⟨bt, .row 1 (s.tabs.map PV.bool) 0⟩ :: (goneM gx (s.gone.map encRow) ++ rowsM bo l)
theorem desk_of (d bt bo : Nat) (gx : Option Nat) (l : Fam) (cs : List PV) (s : Scr) (hg : gx = none → s.gone = []) (ρ : Mem) : DeskP d s (l.map Prod.snd) (deskM d bt bo gx l cs s ++ ρ) := by
  refine ⟨cs, bt, _, goneV gx s.gone.length, bo, _, ⟨bt, .row 1 (s.tabs.map PV.bool) 0⟩ :: (goneM gx (s.gone.map encRow) ++ rowsM bo l) ++ ρ, .refl _, ?_, ?_, ?_, ?_⟩
  · cases gx with
    | none => exact .inl rfl
    | some b => exact .inr ⟨b, 0, _, rfl⟩
  · exact frz_row (l := s.tabs.map PV.bool) (.here _ _ _) _ (by simp)
  · cases gx with
    | none =>
      rw [hg rfl]
      exact .nils _
    | some b => exact frz_row (l := s.gone.map encRow) (.there _ _ _ _ _ (.here _ _ _)) _ (by simp)
  · refine frz_sub (fun k hk => ?_) (frz_rowsM bo l)
    refine List.mem_append_left _ (List.mem_cons_of_mem _ (List.mem_append_right _ hk))
theorem dgive_ok (d : Nat) (s : Scr) (L : List (List Cell)) {w : Nat} (hL : ∀ r ∈ L, r.length = w) (h0 : L ≠ []) (hw : 1 ≤ w) (hs : L.length ≤ 1000) (hw2 : w ≤ 1000) {σ : Mem} (hσ : DeskP d s L σ) :
    ACalls Tryd.prog W 32 [.bref d 0] σ (fun v σ' => Frz σ' v (encScr { s with g := ⟨w, L.length, L.flatten⟩ })) := by
  obtain ⟨cs, bt, nt, gv, bo, no, ρ, hp, hgv, ht, hg, hl⟩ := hσ
  refine ACalls.perm ?_ hp
  clear hp
  have hgo := gridOf_ok W L hL h0 hw hs hw2
  have fin : ∀ (gv : PV), Frz ρ gv (.sl 1 (s.gone.map encRow)) → (gv = .nils ∨ ∃ bg i n, gv = .rsl bg 1 i n) → ACalls Tryd.prog W 32 [.bref d 0] (dskB d (.sl 4 cs) (.rsl bt 1 0 nt) gv (.rsl bo 1 0 no) s :: ρ) (fun v σ' => Frz σ' v (encScr { s with g := ⟨w, L.length, L.flatten⟩ })) := by
    intro gv hg hgv
    obtain ⟨⟨gw, gh, cs0⟩, x, y, late, ⟨f, b, bi⟩, top, bottom, modes, tabs, kx, ky, ⟨f2, b2, bi2⟩, km, last, title, gone⟩ := s
    dsimp only at *
    rw [show ∀ gv, dskB d (.sl 4 cs) (.rsl bt 1 0 nt) gv (.rsl bo 1 0 no) ⟨⟨gw, gh, cs0⟩, x, y, late, ⟨f, b, bi⟩, top, bottom, modes, tabs, kx, ky, ⟨f2, b2, bi2⟩, km, last, title, gone⟩ = ⟨d, .row 23 [.agg [.int .i64 gw, .int .i64 gh, .sl 4 cs, .int .i64 x, .int .i64 y, .bool late, .int .i64 f, .int .i64 b, .int .i64 bi, .int .i64 top, .int .i64 bottom, .int .i64 modes, .rsl bt 1 0 nt, .int .i64 kx, .int .i64 ky, .int .i64 f2, .int .i64 b2, .int .i64 bi2, .int .i64 km, .int .i32 last, .str title, gv, .rsl bo 1 0 no]] 0⟩ from fun _ => rfl]
    rcases hgv with rfl | ⟨bg, i, n, rfl⟩
    all_goals
      refine acalls_of_vc (drawOk W) Tryd.func32 rfl (by decide) (by decide) rfl ?_
      (refine g0_ ?_; repeat ((first | refine n1_ fun b_ => ?_ | refine n2_ fun b_ => ?_ | refine n3_ fun b_ pre_ => ?_ | refine Nat1.mk fun q_ hq_ => ?_ | refine em_ fun x_ hx_ => ?_ | refine Elem1.mk fun e_ he_ => ?_); refine g0_ ?_))
      refine ACalls.borrow1 hgo (fun b _ => ⟨free_grid (.int _ _) (.int _ _), freeM1 _ _⟩) (hl.cons _ |>.cons _ |>.cons _) ?_
      rintro bG -
      (refine g0_ ?_; repeat ((first | refine n1_ fun b_ => ?_ | refine n2_ fun b_ => ?_ | refine n3_ fun b_ pre_ => ?_ | refine Nat1.mk fun q_ hq_ => ?_ | refine em_ fun x_ hx_ => ?_ | refine Elem1.mk fun e_ he_ => ?_); refine g0_ ?_))
      exact frz_scr (s := ⟨⟨w, L.length, L.flatten⟩, x, y, late, ⟨f, b, bi⟩, top, bottom, modes, tabs, kx, ky, ⟨f2, b2, bi2⟩, km, last, title, gone⟩) (frz_row (l := L.flatten.map encCell) (by repeat (first | exact .here _ _ _ | apply Look.there)) _ (by rw [List.length_map])) (frz_sub (fun k hk => by (repeat (apply List.mem_cons_of_mem)); exact hk) ht) (frz_sub (fun k hk => by (repeat (apply List.mem_cons_of_mem)); exact hk) hg)
  exact fin gv hg hgv
theorem dtake_ok (s : Scr) {w h : Nat} (hr : s.right w h) : ACalls Tryd.prog W 31 [encScr s] [] (Gives (fun x : Nat × Nat × Nat × Option Nat × Fam => .bref x.1 0) (fun x => deskM x.1 x.2.1 x.2.2.1 x.2.2.2.1 x.2.2.2.2 (s.g.cs.map encCell) s) (fun x => x.2.2.2.2.map Prod.snd = s.g.rows ∧ (x.2.2.2.1 = none → s.gone = []))) := by
  have hro := rowsR_ok W s.g hr.fit
  have hgl := hr.gone
  have htl := hr.tabs
  have hw1 := hr.fit.w1
  have hw2 := hr.fit.w2
  have hcl := clone_rows W s.gone (by omega)
  obtain ⟨⟨gw, gh, cs⟩, x, y, late, ⟨f, b, bi⟩, top, bottom, modes, tabs, kx, ky, ⟨f2, b2, bi2⟩, km, last, title, gone⟩ := s
  dsimp only at *
  obtain ⟨t0, tabs, rfl⟩ : ∃ t0 r, tabs = t0 :: r := by
    cases tabs with
    | nil => simp at htl; omega
    | cons a r => exact ⟨a, r, rfl⟩
  have hct := cloneG_bools W t0 tabs (by simp at htl; omega)
  rw [show encScr ⟨⟨gw, gh, cs⟩, x, y, late, ⟨f, b, bi⟩, top, bottom, modes, t0 :: tabs, kx, ky, ⟨f2, b2, bi2⟩, km, last, title, gone⟩ = .agg [.int .i64 gw, .int .i64 gh, .sl 4 (cs.map encCell), .int .i64 x, .int .i64 y, .bool late, .int .i64 f, .int .i64 b, .int .i64 bi, .int .i64 top, .int .i64 bottom, .int .i64 modes, .sl 1 ((t0 :: tabs).map PV.bool), .int .i64 kx, .int .i64 ky, .int .i64 f2, .int .i64 b2, .int .i64 bi2, .int .i64 km, .int .i32 last, .str title, .sl 1 (gone.map encRow)] from rfl]
  rw [show encGrid ⟨gw, gh, cs⟩ = .agg [.int .i64 gw, .int .i64 gh, .sl 4 (cs.map encCell)] from rfl] at hro
  refine acalls_of_vc (DL_ok (by decide)) Tryd.func31 rfl (by decide) (by decide) rfl ?_
  (refine g0_ ?_; repeat ((first | refine n1_ fun b_ => ?_ | refine n2_ fun b_ => ?_ | refine n3_ fun b_ pre_ => ?_ | refine Nat1.mk fun q_ hq_ => ?_ | refine em_ fun x_ hx_ => ?_ | refine Elem1.mk fun e_ he_ => ?_); refine g0_ ?_))
  refine Draws10.chain ⟨6, [.new, .new, .new, .turn, .skip, .skip], [(3, [.again, .keep, .keep, .keep, .new, .turn]), (5, [.keep, .keep, .keep, .keep, .keep, .keep])], by decide +kernel, ?_⟩; (refine g0_ ?_; repeat ((first | refine n1_ fun b_ => ?_ | refine n2_ fun b_ => ?_ | refine n3_ fun b_ pre_ => ?_ | refine Nat1.mk fun q_ hq_ => ?_ | refine em_ fun x_ hx_ => ?_ | refine Elem1.mk fun e_ he_ => ?_); refine g0_ ?_))
  refine ACalls.giveE hro ?_
  rintro ⟨bo, l⟩ hl
  (refine g0_ ?_; repeat ((first | refine n1_ fun b_ => ?_ | refine n2_ fun b_ => ?_ | refine n3_ fun b_ pre_ => ?_ | refine Nat1.mk fun q_ hq_ => ?_ | refine em_ fun x_ hx_ => ?_ | refine Elem1.mk fun e_ he_ => ?_); refine g0_ ?_))
  refine ACalls.give hct ?_
  rintro bt -
  (refine g0_ ?_; repeat ((first | refine n1_ fun b_ => ?_ | refine n2_ fun b_ => ?_ | refine n3_ fun b_ pre_ => ?_ | refine Nat1.mk fun q_ hq_ => ?_ | refine em_ fun x_ hx_ => ?_ | refine Elem1.mk fun e_ he_ => ?_); refine g0_ ?_))
  refine ACalls.give hcl ?_
  rintro (_ | bg) hx
  · (refine g0_ ?_; repeat ((first | refine n1_ fun b_ => ?_ | refine n2_ fun b_ => ?_ | refine n3_ fun b_ pre_ => ?_ | refine Nat1.mk fun q_ hq_ => ?_ | refine em_ fun x_ hx_ => ?_ | refine Elem1.mk fun e_ he_ => ?_); refine g0_ ?_))
    rw [List.length_map]
    refine ⟨(_, bt, bo, none, l), ⟨hl, fun _ => List.map_eq_nil_iff.1 (hx rfl)⟩, rfl, ?_⟩
    dsimp only [deskM, dskB, goneV, goneM, rowsM, scrA, List.append]
    (first | exact ⟨_, .refl _⟩ | exact wkMem.rfl' | exact ⟨_, .swap _ _ _⟩ | (repeat (first | exact wkMem.nil _ | exact wkMem.rfl' | exact wk_snoc _ _ _ | exact wk_fam (by assumption) _ _ _ | exact wk_famN (by assumption) _ _ _ | (apply wkMem.cons; (case' hl => (repeat (first | exact .here _ _ _ | apply Look.there)))) | apply wkMem.skip)))
  · (refine g0_ ?_; repeat ((first | refine n1_ fun b_ => ?_ | refine n2_ fun b_ => ?_ | refine n3_ fun b_ pre_ => ?_ | refine Nat1.mk fun q_ hq_ => ?_ | refine em_ fun x_ hx_ => ?_ | refine Elem1.mk fun e_ he_ => ?_); refine g0_ ?_))
    rw [List.length_map, List.length_map]
    refine ⟨(_, bt, bo, some bg, l), ⟨hl, fun h => by cases h⟩, rfl, ?_⟩
    dsimp only [deskM, dskB, goneV, goneM, rowsM, scrA, List.append]
    (first | exact ⟨_, .refl _⟩ | exact wkMem.rfl' | exact ⟨_, .swap _ _ _⟩ | (repeat (first | exact wkMem.nil _ | exact wkMem.rfl' | exact wk_snoc _ _ _ | exact wk_fam (by assumption) _ _ _ | exact wk_famN (by assumption) _ _ _ | (apply wkMem.cons; (case' hl => (repeat (first | exact .here _ _ _ | apply Look.there)))) | apply wkMem.skip)))
end Go.Eng.YtphoefglfbifdaaDoor
end

/- The laws' ownScreen, does, acts, one. -/
section
namespace Go.Eng.YtphoefglfbifdaaDoor
open Go Go.Eng Go.Proofs
variable (W : World)
set_option linter.unusedSimpArgs false
set_option maxRecDepth 100000
set_option linter.unusedVariables false
set_option maxHeartbeats 8000000
theorem clone_bools0 (a : Option Addr) (c : Nat) : Pure Tryd.prog W 62 [.lit (.slice a 0 c)] (.sl 1 []) := by
  refine Pure.of (acalls_of_vc (drawOk W) Tryd.func62 rfl (by decide) (by decide) rfl ?_)
  (refine g0_ ?_; repeat ((first | refine n1_ fun b_ => ?_ | refine n2_ fun b_ => ?_ | refine em_ fun x_ hx_ => ?_); refine g0_ ?_))
  refine ⟨_, eql_nil Tryd.underlying27 (.inl ⟨_, _, rfl, rfl⟩), ?_⟩
  (refine g0_ ?_; repeat ((first | refine n1_ fun b_ => ?_ | refine n2_ fun b_ => ?_ | refine em_ fun x_ hx_ => ?_); refine g0_ ?_))
  refine brec ?_; intro c_ h; (try rw [h]); cases c_ <;> replace h := nm_ h
  · (refine g0_ ?_; repeat ((first | refine n1_ fun b_ => ?_ | refine n2_ fun b_ => ?_ | refine em_ fun x_ hx_ => ?_); refine g0_ ?_))
    refine .inr ?_
    (refine g0_ ?_; repeat ((first | refine n1_ fun b_ => ?_ | refine n2_ fun b_ => ?_ | refine em_ fun x_ hx_ => ?_); refine g0_ ?_))
    exact frz_row (.here _ _ _) _ rfl
  · (refine g0_ ?_; repeat ((first | refine n1_ fun b_ => ?_ | refine n2_ fun b_ => ?_ | refine em_ fun x_ hx_ => ?_); refine g0_ ?_))
    exact .nils _
theorem clone_bools (l : List Bool) (hl : l.length ≤ 140737488355328) : Pure Tryd.prog W 62 [.sl 1 (l.map PV.bool)] (.sl 1 (l.map PV.bool)) := by
  cases l with
  | nil => exact Pure.of_empty (clone_bools0 W)
  | cons x l => exact GivesRow.pure W (cloneG_bools W x l (by simpa using hl))
theorem ownScreen_ok (s : Scr) (hok : s.ok) : Pure Tryd.prog W 29 [encScr s] (encScr s) := by
  have hgr := hok.gone.2
  have hgl := hok.gone.1
  have hc := clone_cells W s.g.cs hok.g.2.2.2
  have ht := clone_bools W s.tabs hok.tabs
  obtain ⟨⟨gw, gh, cs⟩, x, y, late, ⟨f, b, bi⟩, top, bottom, modes, tabs, kx, ky, ⟨f2, b2, bi2⟩, km, last, title, gone⟩ := s
  dsimp only at *
  rw [show encScr ⟨⟨gw, gh, cs⟩, x, y, late, ⟨f, b, bi⟩, top, bottom, modes, tabs, kx, ky, ⟨f2, b2, bi2⟩, km, last, title, gone⟩ = .agg [.int .i64 gw, .int .i64 gh, .sl 4 (cs.map encCell), .int .i64 x, .int .i64 y, .bool late, .int .i64 f, .int .i64 b, .int .i64 bi, .int .i64 top, .int .i64 bottom, .int .i64 modes, .sl 1 (tabs.map PV.bool), .int .i64 kx, .int .i64 ky, .int .i64 f2, .int .i64 b2, .int .i64 bi2, .int .i64 km, .int .i32 last, .str title, .sl 1 (gone.map encRow)] from rfl]
  refine Pure.of (acalls_of_vc (drawOk W) Tryd.func29 rfl (by decide) (by decide) rfl ?_)
  (refine g0_ ?_; repeat ((first | refine n1_ fun b_ => ?_ | refine n2_ fun b_ => ?_ | refine em_ fun x_ hx_ => ?_); refine g0_ ?_))
  refine (hc).use ?_; (refine g0_ ?_; repeat ((first | refine n1_ fun b_ => ?_ | refine n2_ fun b_ => ?_ | refine em_ fun x_ hx_ => ?_); refine g0_ ?_))
  refine (ht).use ?_; (refine g0_ ?_; repeat ((first | refine n1_ fun b_ => ?_ | refine n2_ fun b_ => ?_ | refine em_ fun x_ hx_ => ?_); refine g0_ ?_))
  rename_i b1
  refine' loopI (α := Nat × Nat × (List PV)) (fun (i, bg, o) => [(19, .int .i64 i), (3, accV bg 1 o)]) [(1, _), (2, _), (17, _), (18, _)] (fun (i, bg, o) => accM bg 1 o ++ [⟨b_, .row 22 [.agg (scrA .nils .nils .nils Scr.none)] 0⟩, ⟨b1, .row 22 [.agg [.int .i64 gw, .int .i64 gh, .sl 4 (cs.map encCell), .int .i64 x, .int .i64 y, .bool late, .int .i64 f, .int .i64 b, .int .i64 bi, .int .i64 top, .int .i64 bottom, .int .i64 modes, .sl 1 (tabs.map PV.bool), .int .i64 kx, .int .i64 ky, .int .i64 f2, .int .i64 b2, .int .i64 bi2, .int .i64 km, .int .i32 last, .str title, .sl 1 (gone.map encRow)]] 0⟩]) (fun (i, bg, o) => i ≤ gone.length ∧ o = (gone.take i).map encRow) (fun (i, bg, o) => gone.length - i) (0, 0, []) ?_ ?_
  · exact ⟨Nat.zero_le _, rfl⟩
  rintro ⟨i, bg, o⟩ ⟨hi, ho⟩
  rcases o with _ | ⟨p, o⟩
  · (refine g0_ ?_; repeat ((first | refine n1_ fun b_ => ?_ | refine n2_ fun b_ => ?_ | refine em_ fun x_ hx_ => ?_); refine g0_ ?_))
    refine brec ?_; intro c_ h1; (try rw [h1]); cases c_ <;> replace h1 := nm_ h1
    · rw [List.length_map] at h1
      have e : i = gone.length := by omega
      subst e
      rw [List.take_of_length_le (Nat.le_refl _)] at ho
      (refine g0_ ?_; repeat ((first | refine n1_ fun b_ => ?_ | refine n2_ fun b_ => ?_ | refine em_ fun x_ hx_ => ?_); refine g0_ ?_))
      rw [← ho]
      exact frz_scr (s := ⟨⟨gw, gh, cs⟩, x, y, late, ⟨f, b, bi⟩, top, bottom, modes, tabs, kx, ky, ⟨f2, b2, bi2⟩, km, last, title, gone⟩) (.refl _) (.refl _) (.nils _)
    · rw [List.length_map] at h1
      have hll := congrArg List.length ho
      simp only [List.length_map, List.length_take, List.length_cons, List.length_nil] at hll
      (refine g0_ ?_; repeat ((first | refine n1_ fun b_ => ?_ | refine n2_ fun b_ => ?_ | refine em_ fun x_ hx_ => ?_); refine g0_ ?_))
      have hm := hgr _ (List.mem_of_getElem? hx_)
      refine (clone_cells W x_ (by omega)).use ?_; (refine g0_ ?_; repeat ((first | refine n1_ fun b_ => ?_ | refine n2_ fun b_ => ?_ | refine em_ fun x_ hx_ => ?_); refine g0_ ?_))
      refine .inl ?_
      (refine g0_ ?_; repeat ((first | refine n1_ fun b_ => ?_ | refine n2_ fun b_ => ?_ | refine em_ fun x_ hx_ => ?_); refine g0_ ?_))
      refine nx_ (i + 1, b_, [] ++ [encRow x_]) ?_ ?_
      · exact ⟨by omega, by rw [take_snoc_of hx_, List.map_append, ← ho]; rfl⟩
      · show gone.length - (i + 1) < gone.length - i
        omega
  · (refine g0_ ?_; repeat ((first | refine n1_ fun b_ => ?_ | refine n2_ fun b_ => ?_ | refine em_ fun x_ hx_ => ?_); refine g0_ ?_))
    refine brec ?_; intro c_ h1; (try rw [h1]); cases c_ <;> replace h1 := nm_ h1
    · rw [List.length_map] at h1
      have e : i = gone.length := by omega
      subst e
      rw [List.take_of_length_le (Nat.le_refl _)] at ho
      (refine g0_ ?_; repeat ((first | refine n1_ fun b_ => ?_ | refine n2_ fun b_ => ?_ | refine em_ fun x_ hx_ => ?_); refine g0_ ?_))
      rw [← ho]
      exact frz_scr (s := ⟨⟨gw, gh, cs⟩, x, y, late, ⟨f, b, bi⟩, top, bottom, modes, tabs, kx, ky, ⟨f2, b2, bi2⟩, km, last, title, gone⟩) (.refl _) (.refl _) (frz_row (by repeat (first | exact .here _ _ _ | apply Look.there)) _ (by simp))
    · rw [List.length_map] at h1
      have hll := congrArg List.length ho
      simp only [List.length_map, List.length_take, List.length_cons, List.length_nil] at hll
      (refine g0_ ?_; repeat ((first | refine n1_ fun b_ => ?_ | refine n2_ fun b_ => ?_ | refine em_ fun x_ hx_ => ?_); refine g0_ ?_))
      have hm := hgr _ (List.mem_of_getElem? hx_)
      refine (clone_cells W x_ (by omega)).use ?_; (refine g0_ ?_; repeat ((first | refine n1_ fun b_ => ?_ | refine n2_ fun b_ => ?_ | refine em_ fun x_ hx_ => ?_); refine g0_ ?_))
      refine .inl ?_
      (refine g0_ ?_; repeat ((first | refine n1_ fun b_ => ?_ | refine n2_ fun b_ => ?_ | refine em_ fun x_ hx_ => ?_); refine g0_ ?_))
      refine nx_ (i + 1, b_, (p :: o) ++ [encRow x_]) ?_ ?_
      · exact ⟨by omega, by rw [take_snoc_of hx_, List.map_append, ← ho]; rfl⟩
      · show gone.length - (i + 1) < gone.length - i
        omega
/-- What is to be shown of a call and of what is to be done. -/
theorem does_ok (hT : Tabs W) (s : Scr) (hs : s.ok) (gc : Nat) (cc : List PV) (gd : Nat) (cd : List PV) (τc τd : Mem) (X : Scr) (E : Int) (hX : X.ok)
    (hcall : ACalls Tryd.prog W gc (encScr s :: cc) τc fun v σ' => Frz σ' v (.tup [encScr X, .int .i64 E]))
    (hbad : checkS s ≠ 0 → X = Scr.none ∧ E = checkS s)
    (hdo : checkS s = 0 → E = 0 ∧ ∃ (s' : Scr) (L : List (List Cell)) (w : Nat), (∀ r ∈ L, r.length = w) ∧ L ≠ [] ∧ 1 ≤ w ∧ L.length ≤ 1000 ∧ w ≤ 1000 ∧ { s' with g := ⟨w, L.length, L.flatten⟩ } = X ∧
      ∀ (d bt bo : Nat) (gx : Option Nat) (l : Fam), l.map Prod.snd = s.g.rows → (gx = none → s.gone = []) → ACalls Tryd.prog W gd (.bref d 0 :: cd) (deskM d bt bo gx l (s.g.cs.map encCell) s ++ τd) fun v σ' => v = .tup [] ∧ DeskP d s' L σ') :
    ACalls Tryd.prog W 10 [encScr s, .fn gc cc, .fn gd cd] (τc ++ τd) fun v _ => v = .bool true := by
  have hp := printed_ok W hT
  have how := ownScreen_ok W s hs
  have hck := checkScreen_ok W s hs
  have hse := sameScreen_ok W s s hs hs
  rw [show decide (sameP s s) = true from decide_eq_true (sameP_rfl s)] at hse
  by_cases h0 : checkS s = 0
  · obtain ⟨rfl, s', L, w, hL, hL0, hw, hl, hw2, rfl, hd⟩ := hdo h0
    obtain ⟨w0, h0', hr⟩ := right_of h0
    have hta := dtake_ok W s hr
    rw [h0] at hck
    have hXX := sameScreen_ok W _ _ hX hX
    rw [show ∀ Y : Scr, decide (sameP Y Y) = true from fun Y => decide_eq_true (sameP_rfl Y)] at hXX
    have hgv := fun d σ (h : DeskP d s' L σ) => dgive_ok W d s' L hL hL0 hw hl hw2 h
    clear hdo hbad
    generalize hE : ({ s' with g := ⟨w, L.length, L.flatten⟩ } : Scr) = X at *
    clear hE
    refine acalls_of_vc (DL_ok (by decide)) Tryd.func10 rfl (by decide) (by decide) rfl ?_
    (refine g0_ ?_; repeat ((first | refine n1_ fun b_ => ?_ | refine n2_ fun b_ => ?_ | refine em_ fun x_ hx_ => ?_); refine g0_ ?_))
    refine (how).use ?_; (refine g0_ ?_; repeat ((first | refine n1_ fun b_ => ?_ | refine n2_ fun b_ => ?_ | refine em_ fun x_ hx_ => ?_); refine g0_ ?_))
    rename_i b1
    rw [forceL_eq]
    refine callV_of ?_
    refine ACalls.lendF hcall (ρ := [⟨b_, .row 22 [encScr s] 0⟩, ⟨b1, .row 22 [encScr s] 0⟩] ++ τd) (by first | exact List.Perm.trans (List.perm_append_comm (l₁ := [_, _]) (l₂ := τc ++ τd)) (by rw [List.append_assoc]; exact List.Perm.append_left τc List.perm_append_comm)) ?_
    (refine g0_ ?_; repeat ((first | refine n1_ fun b_ => ?_ | refine n2_ fun b_ => ?_ | refine em_ fun x_ hx_ => ?_); refine g0_ ?_))
    refine (hp).use ?_; (refine g0_ ?_; repeat ((first | refine n1_ fun b_ => ?_ | refine n2_ fun b_ => ?_ | refine em_ fun x_ hx_ => ?_); refine g0_ ?_))
    (refine g1_ ?_; repeat ((first | refine n1_ fun b_ => ?_ | refine n2_ fun b_ => ?_ | refine em_ fun x_ hx_ => ?_); refine g1_ ?_))
    refine (hse).use ?_; (refine g0_ ?_; repeat ((first | refine n1_ fun b_ => ?_ | refine n2_ fun b_ => ?_ | refine em_ fun x_ hx_ => ?_); refine g0_ ?_))
    (refine g1_ ?_; repeat ((first | refine n1_ fun b_ => ?_ | refine n2_ fun b_ => ?_ | refine em_ fun x_ hx_ => ?_); refine g1_ ?_))
    refine (hck).use ?_; (refine g0_ ?_; repeat ((first | refine n1_ fun b_ => ?_ | refine n2_ fun b_ => ?_ | refine em_ fun x_ hx_ => ?_); refine g0_ ?_))
    (refine g1_ ?_; repeat ((first | refine n1_ fun b_ => ?_ | refine n2_ fun b_ => ?_ | refine em_ fun x_ hx_ => ?_); refine g1_ ?_))
    rename_i b2
    refine ACalls.give hta ?_
    rintro ⟨d, bt, bo, gx, l⟩ ⟨hrows, hgx⟩
    dsimp only at hrows hgx ⊢
    (refine g0_ ?_; repeat ((first | refine n1_ fun b_ => ?_ | refine n2_ fun b_ => ?_ | refine em_ fun x_ hx_ => ?_); refine g0_ ?_))
    rw [forceL_eq]
    refine callV_of ?_
    refine ACalls.lendW (hd d bt bo gx l hrows hgx) (ρ := [⟨b_, .row 22 [encScr X] 0⟩, ⟨b2, .row 22 [encScr s] 0⟩, ⟨b1, .row 22 [encScr s] 0⟩]) ((List.Perm.append_left _ (List.perm_append_comm (l₁ := [_, _, _]) (l₂ := τd))).trans (by rw [List.append_assoc]; exact .refl _)) ?_
    rintro _ σ1 ⟨rfl, hP⟩
    refine ⟨[⟨b_, .row 22 [encScr X] 0⟩, ⟨b2, .row 22 [encScr s] 0⟩, ⟨b1, .row 22 [encScr s] 0⟩] ++ σ1, ⟨[], by rw [List.append_nil]; exact List.perm_append_comm⟩, ?_⟩
    (refine g0_ ?_; repeat ((first | refine n1_ fun b_ => ?_ | refine n2_ fun b_ => ?_ | refine em_ fun x_ hx_ => ?_); refine g0_ ?_))
    refine Draws10.chain ⟨6, [.new, .new, .new, .new, .new, .turn], [(5, [.keep, .keep, .keep, .again, .keep, .keep])], by decide +kernel, ?_⟩; (refine g0_ ?_; repeat ((first | refine n1_ fun b_ => ?_ | refine n2_ fun b_ => ?_ | refine em_ fun x_ hx_ => ?_); refine g0_ ?_))
    refine ACalls.lendF (hgv d σ1 hP) (ρ := [⟨b_, .row 22 [encScr X] 0⟩, ⟨b2, .row 22 [encScr s] 0⟩, ⟨b1, .row 22 [encScr s] 0⟩]) (List.perm_append_comm (l₁ := [_, _, _]) (l₂ := σ1)) ?_
    (refine g0_ ?_; repeat ((first | refine n1_ fun b_ => ?_ | refine n2_ fun b_ => ?_ | refine em_ fun x_ hx_ => ?_); refine g0_ ?_))
    refine (hXX).use ?_; (refine g0_ ?_; repeat ((first | refine n1_ fun b_ => ?_ | refine n2_ fun b_ => ?_ | refine em_ fun x_ hx_ => ?_); refine g0_ ?_))
    exact rfl
  · obtain ⟨rfl, rfl⟩ := hbad h0
    have hno := noScreen_ok W Scr.none noneS_ok
    rw [show decide (sameP Scr.none Scr.none) = true from decide_eq_true (sameP_rfl _)] at hno
    refine acalls_of_vc (DL_ok (by decide)) Tryd.func10 rfl (by decide) (by decide) rfl ?_
    (refine g0_ ?_; repeat ((first | refine n1_ fun b_ => ?_ | refine n2_ fun b_ => ?_ | refine em_ fun x_ hx_ => ?_); refine g0_ ?_))
    refine (how).use ?_; (refine g0_ ?_; repeat ((first | refine n1_ fun b_ => ?_ | refine n2_ fun b_ => ?_ | refine em_ fun x_ hx_ => ?_); refine g0_ ?_))
    rename_i b1
    rw [forceL_eq]
    refine callV_of ?_
    refine ACalls.lendF hcall (ρ := [⟨b_, .row 22 [encScr s] 0⟩, ⟨b1, .row 22 [encScr s] 0⟩] ++ τd) (by first | exact List.Perm.trans (List.perm_append_comm (l₁ := [_, _]) (l₂ := τc ++ τd)) (by rw [List.append_assoc]; exact List.Perm.append_left τc List.perm_append_comm)) ?_
    (refine g0_ ?_; repeat ((first | refine n1_ fun b_ => ?_ | refine n2_ fun b_ => ?_ | refine em_ fun x_ hx_ => ?_); refine g0_ ?_))
    refine (hp).use ?_; (refine g0_ ?_; repeat ((first | refine n1_ fun b_ => ?_ | refine n2_ fun b_ => ?_ | refine em_ fun x_ hx_ => ?_); refine g0_ ?_))
    (refine g1_ ?_; repeat ((first | refine n1_ fun b_ => ?_ | refine n2_ fun b_ => ?_ | refine em_ fun x_ hx_ => ?_); refine g1_ ?_))
    refine (hse).use ?_; (refine g0_ ?_; repeat ((first | refine n1_ fun b_ => ?_ | refine n2_ fun b_ => ?_ | refine em_ fun x_ hx_ => ?_); refine g0_ ?_))
    (refine g1_ ?_; repeat ((first | refine n1_ fun b_ => ?_ | refine n2_ fun b_ => ?_ | refine em_ fun x_ hx_ => ?_); refine g1_ ?_))
    refine (hck).use ?_; (refine g0_ ?_; repeat ((first | refine n1_ fun b_ => ?_ | refine n2_ fun b_ => ?_ | refine em_ fun x_ hx_ => ?_); refine g0_ ?_))
    (refine g1_ ?_; repeat ((first | refine n1_ fun b_ => ?_ | refine n2_ fun b_ => ?_ | refine em_ fun x_ hx_ => ?_); refine g1_ ?_))
    refine (hno).use ?_; (refine g0_ ?_; repeat ((first | refine n1_ fun b_ => ?_ | refine n2_ fun b_ => ?_ | refine em_ fun x_ hx_ => ?_); refine g0_ ?_))
    exact rfl
end Go.Eng.YtphoefglfbifdaaDoor
end

/- The laws' acts and one: what a call makes of a screen is what a desk does. -/
section
namespace Go.Eng
open Go
theorem isExt_of {P : Program} {W : World} {g : FuncId} {args : List PV} {σ : Mem} {k : PV → Mem → Prop} (h : ACalls P W g args σ k) : isExt P g = false := by
  obtain ⟨fn, h1, h2, _⟩ := h.body
  unfold isExt; rw [h1]; exact h2
end Go.Eng
namespace Go.Eng.YtphoefglfbifdaaDoor
open Go Go.Eng Go.Proofs
variable (W : World)
set_option linter.unusedSimpArgs false
set_option maxRecDepth 100000
set_option linter.unusedVariables false
set_option maxHeartbeats 8000000
/-- What a call makes of a screen is what is done to a desk. -/
def DeskOp (s X : Scr) (E : Int) (τd : Mem) (gd : Nat) (args : Nat → List PV) : Prop :=
  (checkS s ≠ 0 → X = Scr.none ∧ E = checkS s) ∧
  (checkS s = 0 → E = 0 ∧ ∃ (s' : Scr) (L : List (List Cell)) (w : Nat), (∀ r ∈ L, r.length = w) ∧ L ≠ [] ∧ 1 ≤ w ∧ L.length ≤ 1000 ∧ w ≤ 1000 ∧ { s' with g := ⟨w, L.length, L.flatten⟩ } = X ∧
    ∀ (d bt bo : Nat) (gx : Option Nat) (l : Fam), l.map Prod.snd = s.g.rows → (gx = none → s.gone = []) → ACalls Tryd.prog W gd (args d) (deskM d bt bo gx l (s.g.cs.map encCell) s ++ τd) fun v σ' => v = .tup [] ∧ DeskP d s' L σ')
abbrev actArgs (what : List UInt8) (n m : Int) (d : Nat) : List PV := [.bref d 0, .str what, .int .i64 n, .int .i64 m]
abbrev ActOp (s X : Scr) (E : Int) (what : List UInt8) (n m : Int) : Prop := DeskOp W s X E [] 48 (actArgs what n m)
abbrev actB (bm bn bw : Nat) (what : List UInt8) (n m : Int) : Mem := [⟨bm, .row 1 [.int .i64 m] 0⟩, ⟨bn, .row 1 [.int .i64 n] 0⟩, ⟨bw, .row 1 [.str what] 0⟩]
theorem acts1_ok (d bm bn bw : Nat) (what : List UInt8) (n m : Int) (σ : Mem) (s' : Scr) (L : List (List Cell)) (h : ACalls Tryd.prog W 48 (actArgs what n m d) σ fun v σ' => v = .tup [] ∧ DeskP d s' L σ') :
    ACalls Tryd.prog W 47 [.bref d 0, .bref bw 0, .bref bn 0, .bref bm 0] (σ ++ actB bm bn bw what n m) fun v σ' => v = .tup [] ∧ DeskP d s' L σ' := by
  refine ACalls.perm (σ := actB bm bn bw what n m ++ σ) ?_ List.perm_append_comm
  refine acalls_of_vc (DL_ok (by decide)) Tryd.func47 rfl (by decide) (by decide) rfl ?_
  (refine g0_ ?_; repeat ((first | refine n1_ fun b_ => ?_ | refine n2_ fun b_ => ?_); refine g0_ ?_))
  refine ACalls.lendW h (ρ := actB bm bn bw what n m) (List.perm_append_comm (l₁ := [_, _, _]) (l₂ := σ)) ?_
  rintro _ σ1 ⟨rfl, hP⟩
  refine ⟨σ1, ⟨_, .refl _⟩, ?_⟩
  (refine g0_ ?_; repeat ((first | refine n1_ fun b_ => ?_ | refine n2_ fun b_ => ?_); refine g0_ ?_))
  exact ⟨rfl, hP⟩
theorem acts_ok (hT : Tabs W) (s : Scr) (hs : s.ok) (gc : Nat) (cc : List PV) (τc : Mem) (X : Scr) (E : Int) (hX : X.ok) (what : List UInt8) (n m : Int)
    (hcall : ACalls Tryd.prog W gc (encScr s :: cc) τc fun v σ' => Frz σ' v (.tup [encScr X, .int .i64 E])) (h : ActOp W s X E what n m) :
    ACalls Tryd.prog W 20 [encScr s, .fn gc cc, .str what, .int .i64 n, .int .i64 m] τc fun v _ => v = .bool true := by
  refine acalls_of_vc (DL_ok (by decide)) Tryd.func20 rfl (by decide) (by decide) rfl ?_
  (refine g0_ ?_; repeat ((first | refine n1_ fun b_ => ?_ | refine n2_ fun b_ => ?_); refine g0_ ?_))
  rename_i b1 b2 b3
  refine ACalls.lendW (does_ok W hT s hs gc cc 47 [.bref b2 0, .bref b3 0, .bref b_ 0] τc (actB b_ b3 b2 what n m) X E hX hcall h.1 ?_) (ρ := [⟨b1, .row 22 [encScr s] 0⟩]) ?_ ?_
  · intro h0
    obtain ⟨h1, s', L, w, h2, h3, h4, h5, h6, h7, h8⟩ := h.2 h0
    refine ⟨h1, s', L, w, h2, h3, h4, h5, h6, h7, fun d bt bo gx l hl hg => ?_⟩
    have := h8 d bt bo gx l hl hg
    rw [List.append_nil] at this
    exact acts1_ok W d b_ b3 b2 what n m _ s' L this
  · refine List.Perm.trans (List.perm_append_comm (l₁ := [_, _, _, _]) (l₂ := τc)) ?_
    rw [List.append_assoc]
    exact List.Perm.append_left τc (.refl _)
  · rintro v σ1 rfl
    refine ⟨σ1, ⟨_, .refl _⟩, ?_⟩
    (refine g0_ ?_; repeat ((first | refine n1_ fun b_ => ?_ | refine n2_ fun b_ => ?_); refine g0_ ?_))
    exact rfl
theorem one_ok (hT : Tabs W) (s : Scr) (hs : s.ok) (g : Nat) (X : Scr) (E : Int) (hX : X.ok) (what : List UInt8) (n : Int)
    (hg : Pure Tryd.prog W g [encScr s, .int .i64 n] (.tup [encScr X, .int .i64 E])) (h : ActOp W s X E what n 0) :
    Pure Tryd.prog W 14 [encScr s, .fn g [], .str what, .int .i64 n] (.bool true) := by
  have h1 : ∀ bn bf, ACalls Tryd.prog W 37 [encScr s, .bref bf 0, .bref bn 0] [⟨bn, .row 1 [.int .i64 n] 0⟩, ⟨bf, .row 1 [.fn g []] 0⟩] fun v σ' => Frz σ' v (.tup [encScr X, .int .i64 E]) := by
    intro bn bf
    refine acalls_of_vc (DL_ok (by decide)) Tryd.func37 rfl (by decide) (by decide) rfl ?_
    (refine g0_ ?_; repeat ((first | refine n1_ fun b_ => ?_ | refine n2_ fun b_ => ?_); refine g0_ ?_))
    rw [isExt_of hg.calls]
    refine (hg).use ?_; (refine g0_ ?_; repeat ((first | refine n1_ fun b_ => ?_ | refine n2_ fun b_ => ?_); refine g0_ ?_))
    exact .refl _
  refine Pure.of (ACalls.mono (k := fun v _ => v = .bool true) ?_ fun v σ' h => h ▸ .refl _)
  refine acalls_of_vc (DL_ok (by decide)) Tryd.func14 rfl (by decide) (by decide) rfl ?_
  (refine g0_ ?_; repeat ((first | refine n1_ fun b_ => ?_ | refine n2_ fun b_ => ?_); refine g0_ ?_))
  rename_i b1 b2
  refine ACalls.lendW (acts_ok W hT s hs 37 [.bref b2 0, .bref b_ 0] [⟨b_, .row 1 [.int .i64 n] 0⟩, ⟨b2, .row 1 [.fn g []] 0⟩] X E hX what n 0 (h1 b_ b2) h) (ρ := [⟨b1, .row 22 [encScr s] 0⟩]) (.refl _) ?_
  rintro v σ1 rfl
  refine ⟨σ1, ⟨_, .refl _⟩, ?_⟩
  (refine g0_ ?_; repeat ((first | refine n1_ fun b_ => ?_ | refine n2_ fun b_ => ?_); refine g0_ ?_))
  exact rfl
end Go.Eng.YtphoefglfbifdaaDoor
end

/- A desk: where one goes. -/
section
namespace Go.Eng.YtphoefglfbifdaaDoor
open Go Go.Eng Go.Proofs
variable (W : World)
set_option linter.unusedSimpArgs false
set_option maxRecDepth 100000
set_option linter.unusedVariables false
set_option maxHeartbeats 8000000
theorem often_ok (n : Int) : Pure Tryd.prog W 75 [.int .i64 n] (.int .i64 (timesL n)) := by
  have e : timesL n = max 1 (min n 9999) := by unfold timesL; omega
  rw [e]
  refine Pure.of (acalls_of_vc (drawOk W) Tryd.func75 rfl (by decide) (by decide) rfl ?_)
  refine g0_ ?_
  simp only [ifmin, ifmax]
  exact .refl _
/-- The block of a desk, written out. -/
theorem dskB_eq (d : Nat) (cv tv gv lv : PV) (gw gh : Int) (cs : List Cell) (x y : Int) (late : Bool) (f b bi top bottom modes : Int) (tabs : List Bool) (kx ky f2 b2 bi2 km last : Int) (title : List UInt8) (gone : List (List Cell)) :
    dskB d cv tv gv lv ⟨⟨gw, gh, cs⟩, x, y, late, ⟨f, b, bi⟩, top, bottom, modes, tabs, kx, ky, ⟨f2, b2, bi2⟩, km, last, title, gone⟩ = ⟨d, .row 23 [.agg [.int .i64 gw, .int .i64 gh, cv, .int .i64 x, .int .i64 y, .bool late, .int .i64 f, .int .i64 b, .int .i64 bi, .int .i64 top, .int .i64 bottom, .int .i64 modes, tv, .int .i64 kx, .int .i64 ky, .int .i64 f2, .int .i64 b2, .int .i64 bi2, .int .i64 km, .int .i32 last, .str title, gv, lv]] 0⟩ := rfl
theorem dgo_ok (d : Nat) (cv tv gv lv : PV) (s : Scr) (x y : Int) (hw : 1 ≤ s.g.w ∧ s.g.w ≤ 120) (hh : 1 ≤ s.g.h ∧ s.g.h ≤ 60) : ACalls Tryd.prog W 74 [.bref d 0, .int .i64 x, .int .i64 y] [dskB d cv tv gv lv s]
    (Gives (fun _ : Unit => .tup []) (fun _ => [dskB d cv tv gv lv (atS s x y)]) (fun _ => True)) := by
  obtain ⟨⟨gw, gh, cs⟩, X, Y, late, ⟨fo, ba, bi⟩, tp, bo, modes, tabs, kx, ky, ⟨f2, b2, bi2⟩, km, last, title, gone⟩ := s
  dsimp only at *
  rw [atS]
  dsimp only
  rw [show min (max x 0) (gw - 1) = max 0 (min x (gw - 1)) by omega, show min (max y 0) (gh - 1) = max 0 (min y (gh - 1)) by omega, dskB_eq, dskB_eq]
  refine acalls_of_vc (DL_ok (by decide)) Tryd.func74 rfl (by decide) (by decide) rfl ?_
  refine g0_ ?_
  refine Draws10.chain ⟨31, [.new, .new, .new, .new, .new, .new, .new, .new, .new, .new, .new, .new, .new, .new, .new, .new, .new, .new, .new, .new, .new, .new, .new, .new, .new, .new, .turn, .skip, .skip, .skip, .skip], [(26, [.keep, .again, .again, .keep, .keep, .keep, .keep, .keep, .keep, .keep, .keep, .keep, .keep, .again, .keep, .keep, .keep, .keep, .keep, .keep, .again, .again, .again, .keep, .keep, .keep, .keep, .new, .new, .new, .turn]), (30, [.keep, .keep, .again, .keep, .keep, .keep, .keep, .keep, .keep, .keep, .keep, .keep, .keep, .keep, .keep, .keep, .keep, .keep, .keep, .keep, .keep, .keep, .keep, .keep, .keep, .keep, .keep, .keep, .keep, .keep, .keep])], by decide +kernel, ?_⟩; refine g0_ ?_
  simp only [ifmin, ifmax]
  trace_state
  exact ⟨(), trivial, trivial, by (first | exact ⟨_, .refl _⟩ | exact wkMem.rfl' | exact ⟨_, .swap _ _ _⟩ | (repeat (first | exact wkMem.nil _ | exact wkMem.rfl' | exact wk_snoc _ _ _ | exact wk_fam (by assumption) _ _ _ | exact wk_famN (by assumption) _ _ _ | (apply wkMem.cons; (case' hl => (repeat (first | exact .here _ _ _ | apply Look.there)))) | apply wkMem.skip)))⟩
theorem drow_ok (d : Nat) (cv tv gv lv : PV) (s : Scr) (n : Int) (ht : -1000 ≤ s.top ∧ s.top ≤ 1000) : ACalls Tryd.prog W 76 [.bref d 0, .int .i64 n] [dskB d cv tv gv lv s]
    (Gives (fun _ : Unit => .int .i64 (rowS s n)) (fun _ => [dskB d cv tv gv lv s]) (fun _ => True)) := by
  have htm : 1 ≤ timesL n ∧ timesL n ≤ 9999 := by unfold timesL; omega
  obtain ⟨⟨gw, gh, cs⟩, X, Y, late, ⟨fo, ba, bi⟩, tp, bo, modes, tabs, kx, ky, ⟨f2, b2, bi2⟩, km, last, title, gone⟩ := s
  dsimp only at *
  rw [dskB_eq]
  refine acalls_of_vc (DL_ok (by decide)) Tryd.func76 rfl (by decide) (by decide) rfl ?_
  refine g0_ ?_
  refine brec ?_; intro c_ h1; (try rw [h1]); cases c_ <;> replace h1 := nm_ h1
  · rw [rowS, if_neg (by dsimp only; omega)]
    dsimp only
    refine g0_ ?_
    refine headL_ (head_ ?_); refine g0_ ?_
    refine ⟨_, (often_ok W n).quiet, ?_⟩; refine g0_ ?_
    simp only [ifmin]
    exact ⟨(), trivial, by simp, wkMem.rfl'⟩
  · rw [rowS, if_pos (by dsimp only; omega)]
    dsimp only
    refine g0_ ?_
    refine (often_ok W n).use ?_; refine g0_ ?_
    exact ⟨(), trivial, rfl, wkMem.rfl'⟩
theorem scrB_eq (b bc N : Nat) (tv gv : PV) (gw gh : Int) (cs : List Cell) (x y : Int) (late : Bool) (f ba bi top bottom modes : Int) (tabs : List Bool) (kx ky f2 b2 bi2 km last : Int) (title : List UInt8) (gone : List (List Cell)) :
    scrB b bc N tv gv ⟨⟨gw, gh, cs⟩, x, y, late, ⟨f, ba, bi⟩, top, bottom, modes, tabs, kx, ky, ⟨f2, b2, bi2⟩, km, last, title, gone⟩ = ⟨b, .row 22 [.agg [.int .i64 gw, .int .i64 gh, .rsl bc 4 0 N, .int .i64 x, .int .i64 y, .bool late, .int .i64 f, .int .i64 ba, .int .i64 bi, .int .i64 top, .int .i64 bottom, .int .i64 modes, tv, .int .i64 kx, .int .i64 ky, .int .i64 f2, .int .i64 b2, .int .i64 bi2, .int .i64 km, .int .i32 last, .str title, gv]] 0⟩ := rfl
theorem moveE_ok {s s' : Scr} (hs : s.ok) (h : checkS s = 0 → s'.ok) : (moveE s s').1.ok := by
  unfold moveE
  split
  · exact h ‹_›
  · exact noneS_ok
theorem actOp_block {s s' : Scr} (what : List UInt8) (n m : Int) (ht : s'.tabs = s.tabs) (hg : s'.gone = s.gone) (hG : s'.g = s.g)
    (h : checkS s = 0 → ∀ (d : Nat) (cv tv gv lv : PV), ACalls Tryd.prog W 48 (actArgs what n m d) [dskB d cv tv gv lv s] (Gives (fun _ : Unit => .tup []) (fun _ => [dskB d cv tv gv lv s']) (fun _ => True))) :
    ActOp W s (moveE s s').1 (moveE s s').2 what n m := by
  refine ⟨fun h0 => ?_, fun h0 => ?_⟩
  · rw [moveE, if_neg h0]; exact ⟨rfl, rfl⟩
  · rw [moveE, if_pos h0]
    obtain ⟨w, h', hr⟩ := right_of h0
    have f := hr.fit
    have hw2 := f.w2
    have hh1 := f.h1
    have hh2 := f.h2
    refine ⟨rfl, s', s.g.rows, w, f.row, fun e => ?_, f.w1, by rw [f.rlen]; omega, by omega, ?_, fun d bt bo gx l hl hgx => ?_⟩
    · have := f.rlen
      rw [e] at this; simp at this; omega
    · rw [f.rlen, f.flat]
      have e : (⟨w, h', s.g.cs⟩ : Grid) = s'.g := by rw [hG, ← f.ew, ← f.eh]
      rw [e]
    · refine ACalls.lendW (h h0 d (.sl 4 (s.g.cs.map encCell)) (.rsl bt 1 0 s.tabs.length) (goneV gx s.gone.length) (.rsl bo 1 0 l.length)) (ρ := ⟨bt, .row 1 (s.tabs.map PV.bool) 0⟩ :: (goneM gx (s.gone.map encRow) ++ rowsM bo l)) (by rw [List.append_nil]; exact .refl _) ?_
      rintro v σ1 ⟨_, -, rfl, hm⟩
      refine ⟨deskM d bt bo gx l (s.g.cs.map encCell) s' ++ [], ?_, rfl, hl ▸ desk_of d bt bo gx l _ s' (fun e => by rw [hg]; exact hgx e) []⟩
      obtain ⟨q, hq⟩ := hm
      rw [List.append_nil]
      refine ⟨q, (hq.append_right _).trans ?_⟩
      rw [deskM, ht, hg, List.append_assoc, List.cons_append, List.nil_append]
      refine List.Perm.cons _ ?_
      exact List.perm_append_comm
end Go.Eng.YtphoefglfbifdaaDoor
end
