/- Texts put together: RollL, RollC, Roll, Dsk17, Dsk18. -/
import Derived.Test.YtphoefglfbifdaaDoorMW1
import Derived.Test.YtphoefglfbifdaaDoorMK1
import Derived.Test.YtphoefglfbifdaaDoorMK11
import Derived.Test.YtphoefglfbifdaaDoorMK13
import Derived.Test.YtphoefglfbifdaaDoorME10
import Derived.Test.YtphoefglfbifdaaDoorMW7
/- Rows of a desk that roll: plain. -/
section
namespace Go.Eng.YtphoefglfbifdaaDoor
open Go Go.Eng Go.Proofs
set_option linter.unusedSimpArgs false
set_option linter.unusedVariables false
/-- One goes at t, one comes at b. -/
def insF {α : Type} (t b : Nat) (x : α) (l : List α) : List α := (l.take t ++ l.drop (t + 1)).take b ++ [x] ++ (l.take t ++ l.drop (t + 1)).drop b
theorem insF_map {α β : Type} (f : α → β) (t b : Nat) (x : α) (l : List α) : (insF t b x l).map f = insF t b (f x) (l.map f) := by
  simp [insF, List.map_take, List.map_drop]
theorem insF_len {α : Type} {t b : Nat} (x : α) {l : List α} (ht : t < l.length) (hb : b < l.length) : (insF t b x l).length = l.length := by
  simp [insF]; omega
theorem insF_perm {α : Type} {t : Nat} (b : Nat) (x : α) {l : List α} {p : α} (hp : l[t]? = some p) : (x :: l).Perm (insF t b x l ++ [p]) := by
  have h1 : l.Perm (p :: (l.take t ++ l.drop (t + 1))) := by
    have e : l = l.take t ++ p :: l.drop (t + 1) := by
      rw [← drop_cons_of hp, List.take_append_drop]
    exact (List.Perm.of_eq e).trans List.perm_middle
  rw [insF]
  generalize l.take t ++ l.drop (t + 1) = m at *
  have h3 : (m.take b ++ [x] ++ m.drop b).Perm (x :: m) := by
    rw [List.append_assoc]
    have h4 : (m.take b ++ ([x] ++ m.drop b)).Perm (x :: (m.take b ++ m.drop b)) := List.perm_middle
    rwa [List.take_append_drop] at h4
  have h5 : (p :: x :: m).Perm (m.take b ++ [x] ++ m.drop b ++ [p]) := (h3.symm.cons p).trans (List.perm_append_comm (l₁ := [p]))
  exact (h1.cons x).trans ((List.Perm.swap _ _ _).trans h5)
theorem up_insF {L : List (List Cell)} {w h : Nat} (f : RowsOk L w h) {top bottom : Nat} (h1 : top ≤ bottom) (h2 : bottom < h) (back : Int) : insF top bottom (List.replicate w (blankB back)) L = upR back w top bottom L := by
  have hl := f.len
  obtain ⟨c, hc, -⟩ := f.at (y := bottom) h2
  rw [insF, upR, midR, drop_cons_of hc]
  generalize List.replicate w (blankB back) = x
  have hd : L.drop (top + 1) = (L.drop (top + 1)).take (bottom - top) ++ L.drop (bottom + 1) := by
    have h := (List.take_append_drop (bottom - top) (L.drop (top + 1))).symm
    rwa [List.drop_drop, show top + 1 + (bottom - top) = bottom + 1 by omega] at h
  have hA : (L.take top ++ (L.drop (top + 1)).take (bottom - top)).length = bottom := by simp; omega
  rw [hd, ← List.append_assoc]
  rw [show ((L.drop (top + 1)).take (bottom - top) ++ L.drop (bottom + 1)).take (bottom - top) = (L.drop (top + 1)).take (bottom - top) by rw [← hd]]
  generalize L.take top ++ (L.drop (top + 1)).take (bottom - top) = A at *
  rw [List.take_left' hA, List.drop_left' hA, List.append_assoc, List.set_append_right _ _ (by omega), hA, Nat.sub_self]
  rfl
theorem down_insF {L : List (List Cell)} {w h : Nat} (f : RowsOk L w h) {top bottom : Nat} (h1 : top ≤ bottom) (h2 : bottom < h) (back : Int) : insF bottom top (List.replicate w (blankB back)) L = downR back w top bottom L := by
  have hl := f.len
  obtain ⟨c, hc, -⟩ := f.at (y := top) (by omega)
  rw [insF, downR, mid2R, take_snoc_of hc]
  generalize List.replicate w (blankB back) = x
  have hd : L.take bottom = L.take top ++ (L.drop top).take (bottom - top) := by
    have h := (List.take_append_drop top (L.take bottom)).symm
    rwa [List.take_take, Nat.min_eq_left h1, List.drop_take] at h
  have hA : (L.take top).length = top := by simp; omega
  rw [hd]
  generalize (L.drop top).take (bottom - top) = B at *
  generalize L.drop (bottom + 1) = C
  generalize L.take top = A at *
  rw [List.append_assoc A B C, List.take_left' hA, List.drop_left' hA]
  rw [List.append_assoc, List.append_assoc, List.append_assoc, List.set_append_right _ _ (by omega), hA, Nat.sub_self]
  rfl
/-- What is gone, of a desk: nil, or a row of the call's own (what stands ahead of it; its elements). -/
abbrev Gon := Option (Nat × List PV) × List PV
def gonV : Gon → PV
  | (none, _) => .nils
  | (some x, es) => .rsl x.1 1 x.2.length es.length
def gonM : Gon → Mem
  | (none, _) => []
  | (some x, es) => [⟨x.1, .row 1 (x.2 ++ es) 0⟩]
structure GonOk (g : Fam) (q : Gon) (gone : List (List Cell)) : Prop where
  len : q.2.length = gone.length
  all : q.2.all cellsB = true
  nil : q.1 = none → q.2 = []
  at_ : ∀ (k : Nat) (e : PV) (r : List Cell), q.2[k]? = some e → gone[k]? = some r → Frz (famM 4 encCell g) e (encRow r)
theorem fam_sub {g g' : Fam} (h : ∀ p ∈ g, p ∈ g') : ∀ k ∈ famM 4 encCell g, k ∈ famM 4 encCell g' := by
  intro k hk
  obtain ⟨p, hp, rfl⟩ := List.mem_map.1 hk
  exact List.mem_map.2 ⟨p, h p hp, rfl⟩
theorem GonOk.mono {g g' : Fam} {q : Gon} {gone : List (List Cell)} (h : GonOk g q gone) (hs : ∀ p ∈ g, p ∈ g') : GonOk g' q gone :=
  ⟨h.len, h.all, h.nil, fun k e r he hr => frz_sub (fam_sub hs) (h.at_ k e r he hr)⟩
theorem frz_fam {g : Fam} {p : Nat × List Cell} (hp : p ∈ g) : Frz (famM 4 encCell g) (rowP 4 p) (encRow p.2) := by
  obtain ⟨r, hr⟩ := Look.of_mem (List.mem_map.2 ⟨p, hp, rfl⟩ : (⟨p.1, .row 4 (p.2.map encCell) 0⟩ : Blk) ∈ famM 4 encCell g)
  exact frz_row hr _ (by rw [List.length_map])
theorem GonOk.snoc {g : Fam} {q : Gon} {gone : List (List Cell)} (h : GonOk g q gone) (p : Nat × List Cell) (x : Nat × List PV) : GonOk (p :: g) (some x, q.2 ++ [rowP 4 p]) (gone ++ [p.2]) := by
  have hl := h.len
  refine ⟨by simp [hl], ?_, (fun h => by cases h), fun k e r he hr => ?_⟩
  · rw [List.all_append, h.all]; rfl
  · rw [List.getElem?_append] at he hr
    split at he
    · rw [if_pos (by omega)] at hr
      exact frz_sub (fam_sub fun p hp => List.mem_cons_of_mem _ hp) (h.at_ k e r he hr)
    · rw [if_neg (by omega)] at hr
      obtain ⟨h1, h2⟩ : k - q.2.length = 0 ∧ e = rowP 4 p := by
        rw [List.getElem?_singleton] at he
        split at he
        · exact ⟨‹_›, (Option.some.inj he).symm⟩
        · cases he
      rw [hl] at h1
      rw [h1] at hr
      obtain rfl := Option.some.inj hr
      rw [h2]
      exact frz_fam List.mem_cons_self
theorem GonOk.tail {g : Fam} {e : PV} {es : List PV} {x y : Nat × List PV} {gone : List (List Cell)} (h : GonOk g (some x, e :: es) gone) : GonOk g (some y, es) (gone.drop 1) := by
  refine ⟨by have := h.len; simp at this; simp; omega, ?_, (fun h => by cases h), fun k e' r he hr => ?_⟩
  · have := h.all
    simp only [List.all_cons, Bool.and_eq_true] at this
    exact this.2
  · rw [List.getElem?_drop] at hr
    exact h.at_ (k + 1) e' r (by simpa using he) (by rwa [Nat.add_comm])
theorem GonOk.frz {g : Fam} {q : Gon} {gone : List (List Cell)} (h : GonOk g q gone) {σ : Mem} (hs : ∀ k ∈ famM 4 encCell g, k ∈ σ) (hq : ∀ k ∈ gonM q, k ∈ σ) : Frz σ (gonV q) (.sl 1 (gone.map encRow)) := by
  obtain ⟨x, es⟩ := q
  have hl : es.length = gone.length := h.len
  cases x with
  | none =>
    obtain rfl : es = [] := h.nil rfl
    obtain rfl : gone = [] := List.length_eq_zero_iff.1 hl.symm
    exact .nils _
  | some x =>
    obtain ⟨r, hr⟩ := Look.of_mem (hq ⟨x.1, .row 1 (x.2 ++ es) 0⟩ List.mem_cons_self)
    refine .rsl x.1 1 x.2.length es.length (x.2 ++ es) (gone.map encRow) 0 r hr (by simp) (by simp [hl]) fun j hj => ?_
    have e1 : (x.2 ++ es).getD (x.2.length + j) .dead = es[j] := by
      rw [List.getD_eq_getElem?_getD, List.getElem?_append_right (by omega), Nat.add_sub_cancel_left, List.getElem?_eq_getElem hj]; rfl
    have hj' : j < gone.length := by omega
    have e2 : (gone.map encRow).getD j .dead = encRow gone[j] := by
      rw [List.getD_eq_getElem?_getD, List.getElem?_map, List.getElem?_eq_getElem hj']; rfl
    rw [e1, e2]
    exact frz_sub hs (h.at_ j _ _ (List.getElem?_eq_getElem hj) (List.getElem?_eq_getElem hj'))
/-- The memory of a desk whose rows roll. -/
def rolM (d : Nat) (cv tv : PV) (q : Gon) (bo : Nat) (l g : Fam) (s : Scr) : Mem :=
  dskB d cv tv (gonV q) (.rsl bo 1 0 l.length) s :: ⟨bo, .row 1 (l.map (rowP 4)) 0⟩ :: (gonM q ++ (famM 4 encCell l ++ (famM 4 encCell g ++ [])))
/-- A round of rows that go up; with keep, what leaves at the top is gone. -/
def stepK (keep : Bool) (back : Int) (w top bottom : Nat) (p : List (List Cell) × List (List Cell)) : List (List Cell) × List (List Cell) := (upR back w top bottom p.1, if top = 0 ∧ keep = true then goneR (p.2 ++ p.1.take 1) else p.2)
theorem wk_roll {l g : Fam} {t : Nat} {p : Nat × List Cell} (hp : l[t]? = some p) (b : Nat) (be : Nat) (r : List Cell) : wkMem (⟨be, .row 4 (r.map encCell) 0⟩ :: (famM 4 encCell l ++ (famM 4 encCell g ++ []))) (famM 4 encCell (insF t b (be, r) l) ++ (famM 4 encCell (p :: g) ++ [])) := by
  refine ⟨[], ?_⟩
  rw [List.append_nil, List.append_nil, List.append_nil]
  have h := (insF_perm b (be, r) hp).map fun p : Nat × List Cell => (⟨p.1, .row 4 (p.2.map encCell) 0⟩ : Blk)
  rw [List.map_append] at h
  have h2 := h.append_right (famM 4 encCell g)
  rw [List.append_assoc] at h2
  exact h2
theorem wk_roll2 {l g : Fam} {t : Nat} {p : Nat × List Cell} (hp : l[t]? = some p) (b : Nat) (be : Nat) (r : List Cell) (G : Mem) : wkMem (⟨be, .row 4 (r.map encCell) 0⟩ :: (G ++ (famM 4 encCell l ++ (famM 4 encCell g ++ [])))) (G ++ (famM 4 encCell (insF t b (be, r) l) ++ (famM 4 encCell (p :: g) ++ []))) := by
  obtain ⟨q, hq⟩ := wk_roll (g := g) hp b be r
  refine ⟨q, List.perm_middle.symm.trans ?_⟩
  rw [List.append_assoc]
  exact hq.append_left G
end Go.Eng.YtphoefglfbifdaaDoor
end

/- Rows that are gone, of a desk: slices.Clone of them. -/
section
namespace Go.Eng.YtphoefglfbifdaaDoor
open Go Go.Eng Go.Proofs
variable (W : World)
set_option linter.unusedSimpArgs false
set_option maxRecDepth 100000
set_option linter.unusedVariables false
set_option maxHeartbeats 8000000
theorem cloneN_rows : ACalls Tryd.prog W 69 [.nils] [] (Gives (fun _ : Unit => .nils) (fun _ => []) (fun _ => True)) := by
  refine acalls_of_vc (drawOk W) Tryd.func69 rfl (by decide) (by decide) rfl ?_
  (refine g0_ ?_; repeat ((first | refine n1_ fun b_ => ?_ | refine n2_ fun b_ => ?_ | refine n3_ fun b_ pre_ => ?_ | refine Nat1.mk fun q_ hq_ => ?_ | refine em_ fun x_ hx_ => ?_ | refine Elem1.mk fun e_ he_ => ?_); refine g0_ ?_))
  refine ⟨_, eql_nil Tryd.underlying30 (.inr (.inr (.inr (.inr ⟨rfl, rfl⟩)))), ?_⟩
  (refine g0_ ?_; repeat ((first | refine n1_ fun b_ => ?_ | refine n2_ fun b_ => ?_ | refine n3_ fun b_ pre_ => ?_ | refine Nat1.mk fun q_ hq_ => ?_ | refine em_ fun x_ hx_ => ?_ | refine Elem1.mk fun e_ he_ => ?_); refine g0_ ?_))
  exact ⟨(), trivial, rfl, by (first | exact ⟨_, .refl _⟩ | exact wkMem.rfl' | exact ⟨_, .swap _ _ _⟩ | (repeat (first | exact wkMem.nil _ | exact wkMem.rfl' | exact wk_snoc _ _ _ | exact wk_fam (by assumption) _ _ _ | exact wk_famN (by assumption) _ _ _ | (apply wkMem.cons; (case' hl => (repeat (first | exact .here _ _ _ | apply Look.there)))) | apply wkMem.skip)))⟩
theorem cloneR_rows (b i n : Nat) (es : List PV) (hn : i + n ≤ es.length) (hl : n * 24 ≤ 140737488355328) (hc : ((es.drop i).take n).all cellsB = true) :
    ACalls Tryd.prog W 69 [.rsl b 1 i n] [⟨b, .row 1 es 0⟩]
      (Gives (fun b' : Nat => .rsl b' 1 0 n) (fun b' => [⟨b', .row 1 ((es.drop i).take n) 0⟩]) (fun _ => True)) := by
  have hlen : ((es.drop i).take n).length = n := by simp; omega
  refine acalls_of_vc (drawOk W) Tryd.func69 rfl (by decide) (by decide) rfl ?_
  (refine g0_ ?_; repeat ((first | refine n1_ fun b_ => ?_ | refine n2_ fun b_ => ?_ | refine n3_ fun b_ pre_ => ?_ | refine Nat1.mk fun q_ hq_ => ?_ | refine em_ fun x_ hx_ => ?_ | refine Elem1.mk fun e_ he_ => ?_); refine g0_ ?_))
  refine ⟨_, eql_nil Tryd.underlying30 (.inr (.inr (.inl ⟨_, _, _, _, rfl, rfl⟩))), ?_⟩
  (refine g0_ ?_; repeat ((first | refine n1_ fun b_ => ?_ | refine n2_ fun b_ => ?_ | refine n3_ fun b_ pre_ => ?_ | refine Nat1.mk fun q_ hq_ => ?_ | refine em_ fun x_ hx_ => ?_ | refine Elem1.mk fun e_ he_ => ?_); refine g0_ ?_))
  refine .inr ?_
  (refine g0_ ?_; repeat ((first | refine n1_ fun b_ => ?_ | refine n2_ fun b_ => ?_ | refine n3_ fun b_ pre_ => ?_ | refine Nat1.mk fun q_ hq_ => ?_ | refine em_ fun x_ hx_ => ?_ | refine Elem1.mk fun e_ he_ => ?_); refine g0_ ?_))
  exact ⟨_, trivial, by rw [hlen, List.length_nil, Nat.zero_add]; rfl, by (first | exact ⟨_, .refl _⟩ | exact wkMem.rfl' | exact ⟨_, .swap _ _ _⟩ | (repeat (first | exact wkMem.nil _ | exact wkMem.rfl' | exact wk_snoc _ _ _ | exact wk_fam (by assumption) _ _ _ | exact wk_famN (by assumption) _ _ _ | (apply wkMem.cons; (case' hl => (repeat (first | exact .here _ _ _ | apply Look.there)))) | apply wkMem.skip)))⟩
end Go.Eng.YtphoefglfbifdaaDoor
end

/- A desk's Roll. -/
section
namespace Go.Eng.YtphoefglfbifdaaDoor
open Go Go.Eng Go.Proofs
variable (W : World)
set_option linter.unusedSimpArgs false
set_option maxRecDepth 100000
set_option linter.unusedVariables false
set_option maxHeartbeats 8000000
abbrev RolS := Gon × Nat × Fam × Fam
theorem droll_ok (d : Nat) (cv tv : PV) (s : Scr) {w h : Nat} (hw : s.g.w = w) (top bottom : Nat) (htb : top ≤ bottom) (hbh : bottom < h) (hbo : s.bottom = bottom) (n : Int) (keep : Bool) (q : Gon) (bo : Nat) (l g : Fam) (gone : List (List Cell)) (f : RowsOk (l.map Prod.snd) w h) (hg : GonOk g q gone) (hgl : gone.length ≤ 50) (R : List (List Cell) × List (List Cell))
    (hR : R = if 0 ≤ n then iterF (stepK keep s.look.back w top bottom) (min n.toNat (bottom - top + 1)) (l.map Prod.snd, gone) else (iterF (downR s.look.back w top bottom) (min (-n).toNat (bottom - top + 1)) (l.map Prod.snd), gone)) :
    ACalls Tryd.prog W 71 [.bref d 0, .int .i64 top, .int .i64 n, .bool keep] (rolM d cv tv q bo l g s)
      (Gives (fun _ : RolS => .tup []) (fun x => rolM d cv tv x.1 x.2.1 x.2.2.1 x.2.2.2 s) (fun x => x.2.2.1.map Prod.snd = R.1 ∧ GonOk x.2.2.2 x.1 R.2)) := by
  have hh2 := f.h2
  have w1 := f.w1
  have w2 := f.w2
  have hrc : ∀ q : Fam, (q.map (rowP 4)).all cellsB = true := fun q => by
    rw [List.all_eq_true]
    intro e he
    obtain ⟨r, _, rfl⟩ := List.mem_map.1 he
    rfl
  have hdel := fun (bo : Nat) (l : Fam) (t : Nat) (ht : t < l.length) => by
    have := delT_ok W bo t (t + 1) rfl (l.map (rowP 4)) (hrc l) (by rw [List.length_map]; exact ht)
    rw [List.length_map, show ((t + 1 : Nat) : Int) = (t : Int) + 1 from rfl] at this
    exact this
  have hem := fun gv lv => dempty_ok W d cv tv gv lv s hw w1 w2
  obtain ⟨⟨gw, gh, cs⟩, X, Y, late, ⟨fo, ba, bi⟩, tp, bo_, modes, tabs, kx, ky, ⟨f2, b2, bi2⟩, km, last, title, gn⟩ := s
  dsimp only at *
  subst hbo
  have hD : ∀ gv lv, dskB d cv tv gv lv ⟨⟨gw, gh, cs⟩, X, Y, late, ⟨fo, ba, bi⟩, tp, bottom, modes, tabs, kx, ky, ⟨f2, b2, bi2⟩, km, last, title, gn⟩ = ⟨d, .row 23 [.agg [.int .i64 gw, .int .i64 gh, cv, .int .i64 X, .int .i64 Y, .bool late, .int .i64 fo, .int .i64 ba, .int .i64 bi, .int .i64 tp, .int .i64 bottom, .int .i64 modes, tv, .int .i64 kx, .int .i64 ky, .int .i64 f2, .int .i64 b2, .int .i64 bi2, .int .i64 km, .int .i32 last, .str title, gv, lv]] 0⟩ := fun _ _ => rfl
  simp only [rolM, hD] at *
  clear hD
  by_cases hn : 0 ≤ n
  · rw [if_pos hn] at hR
    obtain ⟨K, hK⟩ : ∃ K, K = min n.toNat (bottom - top + 1) := ⟨_, rfl⟩
    rw [← hK] at hR
    refine acalls_of_vc (DM_ok (by decide)) Tryd.func71 rfl (by decide) (by decide) rfl ?_
    (refine g0_ ?_; repeat ((first | refine n1_ fun b_ => ?_ | refine n2_ fun b_ => ?_); refine g0_ ?_))
    simp only [ifmin, ifmax]
    rw [show max (0 - ((bottom : Int) - top + 1)) (min n ((bottom : Int) - top + 1)) = (K : Int) by omega]
    refine' loopI (α := Nat × Gon × Nat × Fam × Fam × (List (List Cell))) (fun (k, q', bo', l', g', gone') => [(2, .int .i64 k)]) [(0, _), (1, _), (3, _)] (fun (k, q', bo', l', g', gone') => ⟨d, .row 23 [.agg [.int .i64 gw, .int .i64 gh, cv, .int .i64 X, .int .i64 Y, .bool late, .int .i64 fo, .int .i64 ba, .int .i64 bi, .int .i64 tp, .int .i64 bottom, .int .i64 modes, tv, .int .i64 kx, .int .i64 ky, .int .i64 f2, .int .i64 b2, .int .i64 bi2, .int .i64 km, .int .i32 last, .str title, gonV q', .rsl bo' 1 0 l'.length]] 0⟩ :: ⟨bo', .row 1 (l'.map (rowP 4)) 0⟩ :: (gonM q' ++ (famM 4 encCell l' ++ (famM 4 encCell g' ++ [])))) (fun (k, q', bo', l', g', gone') => RowsOk (l'.map Prod.snd) w h ∧ k ≤ 60 ∧ iterF (stepK keep ba w top bottom) k (l'.map Prod.snd, gone') = R ∧ GonOk g' q' gone' ∧ gone'.length ≤ 50) (fun (k, q', bo', l', g', gone') => k) (K, q, bo, l, g, gone) ?_ ?_
    · exact ⟨f, by omega, hR.symm, hg, hgl⟩
    clear hR hg hgl f hK
    rintro ⟨k, q', bo', l', g', gone'⟩ ⟨f, hk, hR, hg, hgl⟩
    (refine g0_ ?_; repeat ((first | refine n1_ fun b_ => ?_ | refine n2_ fun b_ => ?_); refine g0_ ?_))
    refine brec ?_; intro c_ h1; (try rw [h1]); cases c_ <;> replace h1 := nm_ h1
    · obtain rfl : k = 0 := by omega
      (refine g0_ ?_; repeat ((first | refine n1_ fun b_ => ?_ | refine n2_ fun b_ => ?_); refine g0_ ?_))
      refine .run ⟨1, ?_⟩
      (refine g1_ ?_; repeat ((first | refine n1_ fun b_ => ?_ | refine n2_ fun b_ => ?_); refine g1_ ?_))
      exact ⟨(q', bo', l', g'), ⟨congrArg Prod.fst hR, congrArg Prod.snd hR ▸ hg⟩, rfl, wkMem.rfl'⟩
    · have hll : l'.length = h := by have := f.len; rwa [List.length_map] at this
      (refine gj_ ?_; repeat ((first | refine n1_ fun b_ => ?_ | refine n2_ fun b_ => ?_); refine gj_ ?_))
      first | refine' joinT (α := Gon × (List (List Cell))) (fun (q2, gone2) => []) [(0, _), (1, _), (2, _), (3, _)] (fun (q2, gone2) => ⟨d, .row 23 [.agg [.int .i64 gw, .int .i64 gh, cv, .int .i64 X, .int .i64 Y, .bool late, .int .i64 fo, .int .i64 ba, .int .i64 bi, .int .i64 tp, .int .i64 bottom, .int .i64 modes, tv, .int .i64 kx, .int .i64 ky, .int .i64 f2, .int .i64 b2, .int .i64 bi2, .int .i64 km, .int .i32 last, .str title, gonV q2, .rsl bo' 1 0 l'.length]] 0⟩ :: ⟨bo', .row 1 (l'.map (rowP 4)) 0⟩ :: (gonM q2 ++ (famM 4 encCell l' ++ (famM 4 encCell g' ++ [])))) (fun (q2, gone2) => gone2 = (if top = 0 ∧ keep = true then goneR (gone' ++ (l'.map Prod.snd).take 1) else gone') ∧ gone2.length ≤ 50 ∧ ∀ p, l'[top]? = some p → GonOk (p :: g') q2 gone2) ?_ ?_ | refine' joinF (α := Gon × (List (List Cell))) (fun (q2, gone2) => []) [(0, _), (1, _), (2, _), (3, _)] (fun (q2, gone2) => ⟨d, .row 23 [.agg [.int .i64 gw, .int .i64 gh, cv, .int .i64 X, .int .i64 Y, .bool late, .int .i64 fo, .int .i64 ba, .int .i64 bi, .int .i64 tp, .int .i64 bottom, .int .i64 modes, tv, .int .i64 kx, .int .i64 ky, .int .i64 f2, .int .i64 b2, .int .i64 bi2, .int .i64 km, .int .i32 last, .str title, gonV q2, .rsl bo' 1 0 l'.length]] 0⟩ :: ⟨bo', .row 1 (l'.map (rowP 4)) 0⟩ :: (gonM q2 ++ (famM 4 encCell l' ++ (famM 4 encCell g' ++ [])))) (fun (q2, gone2) => gone2 = (if top = 0 ∧ keep = true then goneR (gone' ++ (l'.map Prod.snd).take 1) else gone') ∧ gone2.length ≤ 50 ∧ ∀ p, l'[top]? = some p → GonOk (p :: g') q2 gone2) ?_ ?_
      · refine brec ?_; intro c_ h3; (try rw [h3]); cases c_ <;> replace h3 := nm_ h3
        · rw [if_neg (by simpa using h3)]
          (refine g0_ ?_; repeat ((first | refine n1_ fun b_ => ?_ | refine n2_ fun b_ => ?_); refine g0_ ?_))
          refine jx_ (q', gone') ?_
          exact ⟨rfl, hgl, fun p _ => hg.mono fun p hp => List.mem_cons_of_mem _ hp⟩
        · obtain ⟨rfl, rfl⟩ : top = 0 ∧ keep = true := by simpa using h3
          rw [if_pos ⟨rfl, rfl⟩]
          obtain ⟨p, hp⟩ : ∃ p, l'[0]? = some p := ⟨_, List.getElem?_eq_getElem (by omega)⟩
          obtain ⟨_ | ⟨bg, pre⟩, es⟩ := q'
          · obtain rfl : es = [] := hg.nil rfl
            obtain rfl : gone' = [] := List.length_eq_zero_iff.1 hg.len.symm
            (refine g0_ ?_; repeat ((first | refine n1_ fun b_ => ?_ | refine n2_ fun b_ => ?_); refine g0_ ?_))
            refine Draws11.tree ⟨19, [.new, .new, .new, .new, .new, .new, .turn, .new, .new, .new, .new, .new, .new, .turn, .skip, .skip, .skip, .skip, .skip], (.two 6 [.again, .keep, .keep, .keep, .keep, .keep, .keep, .again, .again, .again, .again, .again, .again, .turn, .skip, .skip, .skip, .skip, .skip] (.one 13 [.again, .keep, .keep, .keep, .keep, .keep, .keep, .keep, .keep, .keep, .keep, .keep, .keep, .keep, .turn, .skip, .skip, .skip, .skip] (.one 14 [.again, .keep, .keep, .keep, .keep, .keep, .keep, .keep, .keep, .keep, .keep, .keep, .keep, .keep, .keep, .new, .new, .new, .turn] (.one 18 [.keep, .keep, .keep, .keep, .keep, .keep, .keep, .keep, .keep, .keep, .keep, .keep, .keep, .keep, .keep, .keep, .keep, .keep, .keep] .fin))) 13 [.again, .again, .again, .again, .again, .again, .turn, .keep, .keep, .keep, .keep, .keep, .keep, .keep, .skip, .skip, .skip, .skip, .skip] (.one 6 [.again, .keep, .keep, .keep, .keep, .keep, .keep, .keep, .keep, .keep, .keep, .keep, .keep, .keep, .turn, .skip, .skip, .skip, .skip] (.one 14 [.again, .keep, .keep, .keep, .keep, .keep, .keep, .keep, .keep, .keep, .keep, .keep, .keep, .keep, .keep, .new, .new, .new, .turn] (.one 18 [.keep, .keep, .keep, .keep, .keep, .keep, .keep, .keep, .keep, .keep, .keep, .keep, .keep, .keep, .keep, .keep, .keep, .keep, .keep] .fin)))), by decide +kernel, ?_⟩; (refine g0_ ?_; repeat ((first | refine n1_ fun b_ => ?_ | refine n2_ fun b_ => ?_); refine g0_ ?_))
            have hfin : ∀ b : Nat, [p.2] = goneR ([] ++ List.take 1 (l'.map Prod.snd)) ∧ [p.2].length ≤ 50 ∧ ∀ p', l'[0]? = some p' → GonOk (p' :: g') (some (b, []), [rowP 4 p]) [p.2] := fun b => by
              obtain ⟨l0, rfl⟩ : ∃ l0, l' = p :: l0 := by
                cases l' with
                | nil => cases hp
                | cons a r => cases hp; exact ⟨_, rfl⟩
              refine ⟨rfl, (by simp), fun p' hp' => ?_⟩
              obtain rfl := Option.some.inj hp'
              exact hg.snoc p (b, [])
            refine ⟨?_, ?_⟩
            · (refine g0_ ?_; repeat ((first | refine n1_ fun b_ => ?_ | refine n2_ fun b_ => ?_); refine g0_ ?_))
              refine ACalls.give (cloneN_rows W) ?_
              rintro _ -
              (refine g0_ ?_; repeat ((first | refine n1_ fun b_ => ?_ | refine n2_ fun b_ => ?_); refine g0_ ?_))
              refine .inr ?_
              (refine g0_ ?_; repeat ((first | refine n1_ fun b_ => ?_ | refine n2_ fun b_ => ?_); refine g0_ ?_))
              refine jx_ ((some (b_, []), [rowP 4 p]), [p.2]) ?_
              exact hfin b_
            · (refine g0_ ?_; repeat ((first | refine n1_ fun b_ => ?_ | refine n2_ fun b_ => ?_); refine g0_ ?_))
              refine .inr ?_
              (refine g0_ ?_; repeat ((first | refine n1_ fun b_ => ?_ | refine n2_ fun b_ => ?_); refine g0_ ?_))
              refine ACalls.give (cloneN_rows W) ?_
              rintro _ -
              (refine g0_ ?_; repeat ((first | refine n1_ fun b_ => ?_ | refine n2_ fun b_ => ?_); refine g0_ ?_))
              refine jx_ ((some (b_, []), [rowP 4 p]), [p.2]) ?_
              exact hfin b_
          · have hcl := cloneR_rows W bg pre.length es.length (pre ++ es) (by simp) (by have := hg.len; dsimp only at this; omega) (by rw [List.drop_left, List.take_length]; exact hg.all)
            rw [List.drop_left, List.take_length] at hcl
            have hgn : es.length = gone'.length := hg.len
            obtain ⟨e0, es', he⟩ : ∃ e0 es', es ++ [rowP 4 p] = e0 :: es' := by cases es <;> exact ⟨_, _, rfl⟩
            have hsn := hg.snoc p
            dsimp only at hsn
            rw [he] at hsn
            have htk : List.take 1 (l'.map Prod.snd) = [p.2] := by
              cases l' with
              | nil => cases hp
              | cons a r => cases hp; rfl
            have hel : es.length = es'.length := by have := congrArg List.length he; simpa using this
            (refine g0_ ?_; repeat ((first | refine n1_ fun b_ => ?_ | refine n2_ fun b_ => ?_); refine g0_ ?_))
            refine Draws11.tree ⟨19, [.new, .new, .new, .new, .new, .new, .turn, .new, .new, .new, .new, .new, .new, .turn, .skip, .skip, .skip, .skip, .skip], (.two 6 [.again, .keep, .keep, .keep, .keep, .keep, .keep, .again, .again, .again, .again, .again, .again, .turn, .skip, .skip, .skip, .skip, .skip] (.one 13 [.again, .keep, .keep, .keep, .keep, .keep, .keep, .keep, .keep, .keep, .keep, .keep, .keep, .keep, .turn, .skip, .skip, .skip, .skip] (.one 14 [.again, .keep, .keep, .keep, .keep, .keep, .keep, .keep, .keep, .keep, .keep, .keep, .keep, .keep, .keep, .new, .new, .new, .turn] (.one 18 [.keep, .keep, .keep, .keep, .keep, .keep, .keep, .keep, .keep, .keep, .keep, .keep, .keep, .keep, .keep, .keep, .keep, .keep, .keep] .fin))) 13 [.again, .again, .again, .again, .again, .again, .turn, .keep, .keep, .keep, .keep, .keep, .keep, .keep, .skip, .skip, .skip, .skip, .skip] (.one 6 [.again, .keep, .keep, .keep, .keep, .keep, .keep, .keep, .keep, .keep, .keep, .keep, .keep, .keep, .turn, .skip, .skip, .skip, .skip] (.one 14 [.again, .keep, .keep, .keep, .keep, .keep, .keep, .keep, .keep, .keep, .keep, .keep, .keep, .keep, .keep, .new, .new, .new, .turn] (.one 18 [.keep, .keep, .keep, .keep, .keep, .keep, .keep, .keep, .keep, .keep, .keep, .keep, .keep, .keep, .keep, .keep, .keep, .keep, .keep] .fin)))), by decide +kernel, ?_⟩; (refine g0_ ?_; repeat ((first | refine n1_ fun b_ => ?_ | refine n2_ fun b_ => ?_); refine g0_ ?_))
            refine ⟨?_, ?_⟩
            · (refine g0_ ?_; repeat ((first | refine n1_ fun b_ => ?_ | refine n2_ fun b_ => ?_); refine g0_ ?_))
              refine ACalls.lend hcl (r := ⟨d, .row 23 [.agg [.int .i64 gw, .int .i64 gh, cv, .int .i64 X, .int .i64 Y, .bool late, .int .i64 fo, .int .i64 ba, .int .i64 bi, .int .i64 tp, .int .i64 bottom, .int .i64 modes, tv, .int .i64 kx, .int .i64 ky, .int .i64 f2, .int .i64 b2, .int .i64 bi2, .int .i64 km, .int .i32 last, .str title, .rsl bg 1 pre.length es.length, .rsl bo' 1 0 l'.length]] 0⟩ :: ⟨bo', .row 1 (l'.map (rowP 4)) 0⟩ :: (famM 4 encCell l' ++ (famM 4 encCell g' ++ []))) (List.perm_append_comm (l₁ := [_, _]) (l₂ := [_]) |>.append_right _) ?_
              rintro bc -
              (refine g0_ ?_; repeat ((first | refine n1_ fun b_ => ?_ | refine n2_ fun b_ => ?_); refine g0_ ?_))
              refine .inr ?_
              (refine g0_ ?_; repeat ((first | refine n1_ fun b_ => ?_ | refine n2_ fun b_ => ?_); refine g0_ ?_))
              rw [show es ++ List.take [((0, Operand.tmp 44).fst, PV.rsl p.1 4 0 p.2.length).snd].length (List.drop 0 [((0, Operand.tmp 44).fst, PV.rsl p.1 4 0 p.2.length).snd]) = e0 :: es' from he, show es.length + (List.take [((0, Operand.tmp 44).fst, PV.rsl p.1 4 0 p.2.length).snd].length (List.drop 0 [((0, Operand.tmp 44).fst, PV.rsl p.1 4 0 p.2.length).snd])).length = es'.length + 1 by rw [hel]; rfl]
              refine brec ?_; intro c_ h5; (try rw [h5]); cases c_ <;> replace h5 := nm_ h5
              · (refine g0_ ?_; repeat ((first | refine n1_ fun b_ => ?_ | refine n2_ fun b_ => ?_); refine g0_ ?_))
                refine jx_ ((some (b_, []), e0 :: es'), gone' ++ [p.2]) ?_
                refine ⟨?_, by simp; omega, fun p' hp' => ?_⟩
                · rw [htk, goneR, if_neg (by simp; omega)]
                · obtain rfl := Option.some.inj (hp.symm.trans hp')
                  exact hsn (b_, [])
              · (refine g0_ ?_; repeat ((first | refine n1_ fun b_ => ?_ | refine n2_ fun b_ => ?_); refine g0_ ?_))
                refine jx_ ((some (b_, [e0]), es'), (gone' ++ [p.2]).drop 1) ?_
                refine ⟨?_, by simp; omega, fun p' hp' => ?_⟩
                · rw [htk, goneR, if_pos (by simp; omega)]
                · obtain rfl := Option.some.inj (hp.symm.trans hp')
                  exact (hsn (b_, [])).tail
            · (refine g0_ ?_; repeat ((first | refine n1_ fun b_ => ?_ | refine n2_ fun b_ => ?_); refine g0_ ?_))
              refine .inr ?_
              (refine g0_ ?_; repeat ((first | refine n1_ fun b_ => ?_ | refine n2_ fun b_ => ?_); refine g0_ ?_))
              refine ACalls.lend hcl (r := ⟨b_, .row 1 [((0, Operand.tmp 44).fst, PV.rsl p.1 4 0 p.2.length).snd] 0⟩ :: ⟨d, .row 23 [.agg [.int .i64 gw, .int .i64 gh, cv, .int .i64 X, .int .i64 Y, .bool late, .int .i64 fo, .int .i64 ba, .int .i64 bi, .int .i64 tp, .int .i64 bottom, .int .i64 modes, tv, .int .i64 kx, .int .i64 ky, .int .i64 f2, .int .i64 b2, .int .i64 bi2, .int .i64 km, .int .i32 last, .str title, .rsl bg 1 pre.length es.length, .rsl bo' 1 0 l'.length]] 0⟩ :: ⟨bo', .row 1 (l'.map (rowP 4)) 0⟩ :: (famM 4 encCell l' ++ (famM 4 encCell g' ++ []))) (List.perm_append_comm (l₁ := [_, _, _]) (l₂ := [_]) |>.append_right _) ?_
              rintro bc -
              (refine g0_ ?_; repeat ((first | refine n1_ fun b_ => ?_ | refine n2_ fun b_ => ?_); refine g0_ ?_))
              rw [show es ++ List.take [((0, Operand.tmp 44).fst, PV.rsl p.1 4 0 p.2.length).snd].length (List.drop 0 [((0, Operand.tmp 44).fst, PV.rsl p.1 4 0 p.2.length).snd]) = e0 :: es' from he, show es.length + (List.take [((0, Operand.tmp 44).fst, PV.rsl p.1 4 0 p.2.length).snd].length (List.drop 0 [((0, Operand.tmp 44).fst, PV.rsl p.1 4 0 p.2.length).snd])).length = es'.length + 1 by rw [hel]; rfl]
              refine brec ?_; intro c_ h5; (try rw [h5]); cases c_ <;> replace h5 := nm_ h5
              · (refine g0_ ?_; repeat ((first | refine n1_ fun b_ => ?_ | refine n2_ fun b_ => ?_); refine g0_ ?_))
                refine jx_ ((some (b_, []), e0 :: es'), gone' ++ [p.2]) ?_
                refine ⟨?_, by simp; omega, fun p' hp' => ?_⟩
                · rw [htk, goneR, if_neg (by simp; omega)]
                · obtain rfl := Option.some.inj (hp.symm.trans hp')
                  exact hsn (b_, [])
              · (refine g0_ ?_; repeat ((first | refine n1_ fun b_ => ?_ | refine n2_ fun b_ => ?_); refine g0_ ?_))
                refine jx_ ((some (b_, [e0]), es'), (gone' ++ [p.2]).drop 1) ?_
                refine ⟨?_, by simp; omega, fun p' hp' => ?_⟩
                · rw [htk, goneR, if_pos (by simp; omega)]
                · obtain rfl := Option.some.inj (hp.symm.trans hp')
                  exact (hsn (b_, [])).tail
      rintro ⟨q2, gone2⟩ ⟨hg2, hgl2, hok2⟩
      obtain ⟨p, hp⟩ : ∃ p, l'[top]? = some p := ⟨_, List.getElem?_eq_getElem (by omega)⟩
      have hdl := hdel bo' l' top (by omega)
      (refine g0_ ?_; repeat ((first | refine n1_ fun b_ => ?_ | refine n2_ fun b_ => ?_); refine g0_ ?_))
      refine Draws11.tree ⟨21, [.new, .new, .new, .new, .new, .new, .new, .new, .turn, .new, .new, .new, .new, .new, .new, .skip, .skip, .skip, .skip, .skip, .skip], (.one 8 [.again, .keep, .keep, .keep, .keep, .keep, .keep, .keep, .keep, .again, .again, .again, .again, .again, .again, .turn, .skip, .skip, .skip, .skip, .skip] (.one 15 [.again, .keep, .keep, .keep, .keep, .keep, .keep, .keep, .keep, .again, .again, .again, .again, .again, .keep, .keep, .turn, .skip, .skip, .skip, .skip] (.one 16 [.again, .keep, .keep, .keep, .keep, .keep, .keep, .keep, .keep, .again, .again, .again, .again, .again, .keep, .keep, .keep, .turn, .skip, .skip, .skip] (.one 17 [.again, .keep, .keep, .keep, .keep, .keep, .keep, .keep, .keep, .keep, .keep, .keep, .keep, .keep, .keep, .keep, .keep, .keep, .new, .new, .turn] (.one 20 [.keep, .keep, .keep, .keep, .keep, .keep, .keep, .keep, .keep, .keep, .keep, .keep, .keep, .keep, .keep, .keep, .keep, .keep, .keep, .keep, .keep] .fin))))), by decide +kernel, ?_⟩; (refine g0_ ?_; repeat ((first | refine n1_ fun b_ => ?_ | refine n2_ fun b_ => ?_); refine g0_ ?_))
      refine ACalls.lend hdl (r := ⟨d, .row 23 [.agg [.int .i64 gw, .int .i64 gh, cv, .int .i64 X, .int .i64 Y, .bool late, .int .i64 fo, .int .i64 ba, .int .i64 bi, .int .i64 tp, .int .i64 bottom, .int .i64 modes, tv, .int .i64 kx, .int .i64 ky, .int .i64 f2, .int .i64 b2, .int .i64 bi2, .int .i64 km, .int .i32 last, .str title, gonV q2, .rsl bo' 1 0 l'.length]] 0⟩ :: (gonM q2 ++ (famM 4 encCell l' ++ (famM 4 encCell g' ++ [])))) (.swap _ _ _) ?_
      rintro _ -
      (refine g0_ ?_; repeat ((first | refine n1_ fun b_ => ?_ | refine n2_ fun b_ => ?_); refine g0_ ?_))
      refine ACalls.lend (hem (gonV q2) (.rsl bo' 1 0 l'.length)) (r := ⟨bo', .row 1 ((l'.map (rowP 4)).take top ++ (l'.map (rowP 4)).drop (top + 1)) 0⟩ :: (gonM q2 ++ (famM 4 encCell l' ++ (famM 4 encCell g' ++ [])))) (by first | exact .refl _ | exact .swap _ _ _) ?_
      rintro be -
      (refine g0_ ?_; repeat ((first | refine n1_ fun b_ => ?_ | refine n2_ fun b_ => ?_); refine g0_ ?_))
      refine .inr ?_
      (refine g0_ ?_; repeat ((first | refine n1_ fun b_ => ?_ | refine n2_ fun b_ => ?_); refine g0_ ?_))
      have hes : ((l'.map (rowP 4)).take top ++ (l'.map (rowP 4)).drop (top + 1)).length = l'.length - 1 := by simp; omega
      have hec : ((l'.map (rowP 4)).take top ++ (l'.map (rowP 4)).drop (top + 1)).all cellsB = true := by
        rw [← List.map_take, ← List.map_drop, List.all_append, hrc, hrc]; rfl
      have hin := insR_ok W bo' bottom b_ ((l'.map (rowP 4)).take top ++ (l'.map (rowP 4)).drop (top + 1)) (.rsl be 4 0 w) hec rfl (by omega) (by omega)
      have hrow2 : ((l'.map (rowP 4)).take top ++ (l'.map (rowP 4)).drop (top + 1)).take bottom ++ [.rsl be 4 0 w] ++ ((l'.map (rowP 4)).take top ++ (l'.map (rowP 4)).drop (top + 1)).drop bottom = (insF top bottom (be, List.replicate w (blankB ba)) l').map (rowP 4) := by
        rw [insF_map, insF, rowP, List.length_replicate]
      rw [hes, hrow2, show l'.length - 1 + 1 = (insF top bottom (be, List.replicate w (blankB ba)) l').length by rw [insF_len _ (by omega) (by omega)]; omega] at hin
      refine ACalls.lend hin (r := ⟨d, .row 23 [.agg [.int .i64 gw, .int .i64 gh, cv, .int .i64 X, .int .i64 Y, .bool late, .int .i64 fo, .int .i64 ba, .int .i64 bi, .int .i64 tp, .int .i64 bottom, .int .i64 modes, tv, .int .i64 kx, .int .i64 ky, .int .i64 f2, .int .i64 b2, .int .i64 bi2, .int .i64 km, .int .i32 last, .str title, gonV q2, .rsl bo' 1 0 l'.length]] 0⟩ :: ⟨be, .row 4 ((List.replicate w (blankB ba)).map encCell) 0⟩ :: (gonM q2 ++ (famM 4 encCell l' ++ (famM 4 encCell g' ++ [])))) ((List.perm_append_comm (l₁ := [_, _, _]) (l₂ := [_])).append_right _) ?_
      rintro bo2 -
      (refine g0_ ?_; repeat ((first | refine n1_ fun b_ => ?_ | refine n2_ fun b_ => ?_); refine g0_ ?_))
      refine nx_ (k - 1, q2, bo2, insF top bottom (be, List.replicate w (blankB ba)) l', p :: g', gone2) ?_ ?_ (hM := wkMem.cons (.here _ _ _) (wkMem.cons (.here _ _ _) (wk_roll2 hp bottom be _ (gonM q2))))
      · obtain ⟨k', rfl⟩ : ∃ k', k = k' + 1 := ⟨k - 1, by omega⟩
        have hm : (insF top bottom (be, List.replicate w (blankB ba)) l').map Prod.snd = upR ba w top bottom (l'.map Prod.snd) := by
          rw [insF_map]
          exact up_insF f htb hbh ba
        refine ⟨hm ▸ f.up htb hbh ba, by omega, ?_, hok2 p hp, hgl2⟩
        rw [hm, ← hR, iterF, stepK, hg2]
        rfl
      · show k - 1 < k
        omega
  · rw [if_neg hn] at hR
    obtain ⟨K, hK⟩ : ∃ K, K = min (-n).toNat (bottom - top + 1) := ⟨_, rfl⟩
    rw [← hK] at hR
    refine acalls_of_vc (DM_ok (by decide)) Tryd.func71 rfl (by decide) (by decide) rfl ?_
    (refine g0_ ?_; repeat ((first | refine n1_ fun b_ => ?_ | refine n2_ fun b_ => ?_); refine g0_ ?_))
    simp only [ifmin, ifmax]
    rw [show max (0 - ((bottom : Int) - top + 1)) (min n ((bottom : Int) - top + 1)) = -(K : Int) by omega]
    refine .run ⟨1, ?_⟩
    (refine g1_ ?_; repeat ((first | refine n1_ fun b_ => ?_ | refine n2_ fun b_ => ?_); refine g1_ ?_))
    refine' loopI (α := Nat × Nat × Fam × Fam) (fun (k, bo', l', g') => [(2, .int .i64 (-(k : Int)))]) [(0, _), (1, _)] (fun (k, bo', l', g') => ⟨d, .row 23 [.agg [.int .i64 gw, .int .i64 gh, cv, .int .i64 X, .int .i64 Y, .bool late, .int .i64 fo, .int .i64 ba, .int .i64 bi, .int .i64 tp, .int .i64 bottom, .int .i64 modes, tv, .int .i64 kx, .int .i64 ky, .int .i64 f2, .int .i64 b2, .int .i64 bi2, .int .i64 km, .int .i32 last, .str title, gonV q, .rsl bo' 1 0 l'.length]] 0⟩ :: ⟨bo', .row 1 (l'.map (rowP 4)) 0⟩ :: (gonM q ++ (famM 4 encCell l' ++ (famM 4 encCell g' ++ [])))) (fun (k, bo', l', g') => RowsOk (l'.map Prod.snd) w h ∧ k ≤ 60 ∧ iterF (downR ba w top bottom) k (l'.map Prod.snd) = R.1 ∧ gone = R.2 ∧ GonOk g' q gone) (fun (k, bo', l', g') => k) (K, bo, l, g) ?_ ?_
    · exact ⟨f, by omega, by rw [hR], by rw [hR], hg⟩
    clear hR hg hgl f hK
    rintro ⟨k, bo', l', g'⟩ ⟨f, hk, hR, hR2, hg⟩
    (refine g0_ ?_; repeat ((first | refine n1_ fun b_ => ?_ | refine n2_ fun b_ => ?_); refine g0_ ?_))
    refine brec ?_; intro c_ h1; (try rw [h1]); cases c_ <;> replace h1 := nm_ h1
    · obtain rfl : k = 0 := by omega
      (refine g0_ ?_; repeat ((first | refine n1_ fun b_ => ?_ | refine n2_ fun b_ => ?_); refine g0_ ?_))
      exact ⟨(q, bo', l', g'), ⟨hR, hR2 ▸ hg⟩, rfl, wkMem.rfl'⟩
    · have hll : l'.length = h := by have := f.len; rwa [List.length_map] at this
      obtain ⟨p, hp⟩ : ∃ p, l'[bottom]? = some p := ⟨_, List.getElem?_eq_getElem (by omega)⟩
      have hdl := hdel bo' l' bottom (by omega)
      (refine g0_ ?_; repeat ((first | refine n1_ fun b_ => ?_ | refine n2_ fun b_ => ?_); refine g0_ ?_))
      refine Draws11.tree ⟨25, [.new, .new, .new, .new, .new, .new, .new, .new, .new, .new, .new, .new, .new, .new, .new, .new, .turn, .new, .new, .skip, .skip, .skip, .skip, .skip, .skip], (.one 16 [.again, .keep, .keep, .keep, .keep, .keep, .keep, .keep, .keep, .keep, .keep, .keep, .keep, .keep, .keep, .keep, .keep, .again, .again, .turn, .skip, .skip, .skip, .skip, .skip] (.one 19 [.again, .keep, .keep, .keep, .keep, .keep, .keep, .keep, .keep, .keep, .keep, .keep, .keep, .keep, .keep, .keep, .keep, .again, .keep, .keep, .turn, .skip, .skip, .skip, .skip] (.one 20 [.again, .keep, .keep, .keep, .keep, .keep, .keep, .keep, .keep, .keep, .keep, .keep, .keep, .keep, .keep, .keep, .keep, .again, .keep, .keep, .keep, .turn, .skip, .skip, .skip] (.one 21 [.again, .keep, .keep, .keep, .keep, .keep, .keep, .keep, .keep, .keep, .keep, .keep, .keep, .keep, .keep, .keep, .keep, .keep, .keep, .keep, .keep, .keep, .new, .new, .turn] (.one 24 [.keep, .keep, .keep, .keep, .keep, .keep, .keep, .keep, .keep, .keep, .keep, .keep, .keep, .keep, .keep, .keep, .keep, .keep, .keep, .keep, .keep, .keep, .keep, .keep, .keep] .fin))))), by decide +kernel, ?_⟩; (refine g0_ ?_; repeat ((first | refine n1_ fun b_ => ?_ | refine n2_ fun b_ => ?_); refine g0_ ?_))
      refine ACalls.lend hdl (r := ⟨d, .row 23 [.agg [.int .i64 gw, .int .i64 gh, cv, .int .i64 X, .int .i64 Y, .bool late, .int .i64 fo, .int .i64 ba, .int .i64 bi, .int .i64 tp, .int .i64 bottom, .int .i64 modes, tv, .int .i64 kx, .int .i64 ky, .int .i64 f2, .int .i64 b2, .int .i64 bi2, .int .i64 km, .int .i32 last, .str title, gonV q, .rsl bo' 1 0 l'.length]] 0⟩ :: (gonM q ++ (famM 4 encCell l' ++ (famM 4 encCell g' ++ [])))) (.swap _ _ _) ?_
      rintro _ -
      (refine g0_ ?_; repeat ((first | refine n1_ fun b_ => ?_ | refine n2_ fun b_ => ?_); refine g0_ ?_))
      refine ACalls.lend (hem (gonV q) (.rsl bo' 1 0 l'.length)) (r := ⟨bo', .row 1 ((l'.map (rowP 4)).take bottom ++ (l'.map (rowP 4)).drop (bottom + 1)) 0⟩ :: (gonM q ++ (famM 4 encCell l' ++ (famM 4 encCell g' ++ [])))) (by first | exact .refl _ | exact .swap _ _ _) ?_
      rintro be -
      (refine g0_ ?_; repeat ((first | refine n1_ fun b_ => ?_ | refine n2_ fun b_ => ?_); refine g0_ ?_))
      refine .inr ?_
      (refine g0_ ?_; repeat ((first | refine n1_ fun b_ => ?_ | refine n2_ fun b_ => ?_); refine g0_ ?_))
      have hes : ((l'.map (rowP 4)).take bottom ++ (l'.map (rowP 4)).drop (bottom + 1)).length = l'.length - 1 := by simp; omega
      have hec : ((l'.map (rowP 4)).take bottom ++ (l'.map (rowP 4)).drop (bottom + 1)).all cellsB = true := by
        rw [← List.map_take, ← List.map_drop, List.all_append, hrc, hrc]; rfl
      have hin := insR_ok W bo' top b_ ((l'.map (rowP 4)).take bottom ++ (l'.map (rowP 4)).drop (bottom + 1)) (.rsl be 4 0 w) hec rfl (by omega) (by omega)
      have hrow2 : ((l'.map (rowP 4)).take bottom ++ (l'.map (rowP 4)).drop (bottom + 1)).take top ++ [.rsl be 4 0 w] ++ ((l'.map (rowP 4)).take bottom ++ (l'.map (rowP 4)).drop (bottom + 1)).drop top = (insF bottom top (be, List.replicate w (blankB ba)) l').map (rowP 4) := by
        rw [insF_map, insF, rowP, List.length_replicate]
      rw [hes, hrow2, show l'.length - 1 + 1 = (insF bottom top (be, List.replicate w (blankB ba)) l').length by rw [insF_len _ (by omega) (by omega)]; omega] at hin
      refine ACalls.lend hin (r := ⟨d, .row 23 [.agg [.int .i64 gw, .int .i64 gh, cv, .int .i64 X, .int .i64 Y, .bool late, .int .i64 fo, .int .i64 ba, .int .i64 bi, .int .i64 tp, .int .i64 bottom, .int .i64 modes, tv, .int .i64 kx, .int .i64 ky, .int .i64 f2, .int .i64 b2, .int .i64 bi2, .int .i64 km, .int .i32 last, .str title, gonV q, .rsl bo' 1 0 l'.length]] 0⟩ :: ⟨be, .row 4 ((List.replicate w (blankB ba)).map encCell) 0⟩ :: (gonM q ++ (famM 4 encCell l' ++ (famM 4 encCell g' ++ [])))) ((List.perm_append_comm (l₁ := [_, _, _]) (l₂ := [_])).append_right _) ?_
      rintro bo2 -
      (refine g0_ ?_; repeat ((first | refine n1_ fun b_ => ?_ | refine n2_ fun b_ => ?_); refine g0_ ?_))
      refine nx_ (k - 1, bo2, insF bottom top (be, List.replicate w (blankB ba)) l', p :: g') ?_ ?_ (hM := wkMem.cons (.here _ _ _) (wkMem.cons (.here _ _ _) (wk_roll2 hp top be _ (gonM q))))
      · obtain ⟨k', rfl⟩ : ∃ k', k = k' + 1 := ⟨k - 1, by omega⟩
        have hm : (insF bottom top (be, List.replicate w (blankB ba)) l').map Prod.snd = downR ba w top bottom (l'.map Prod.snd) := by
          rw [insF_map]
          exact down_insF f htb hbh ba
        refine ⟨hm ▸ f.down htb hbh ba, by omega, ?_, hR2, hg.mono fun p hp => List.mem_cons_of_mem _ hp⟩
        rw [hm, ← hR, iterF]
        rfl
      · show k - 1 < k
        omega
end Go.Eng.YtphoefglfbifdaaDoor
end

/- A desk whose rows roll: from Take to Give; Feed. -/
section
namespace Go.Eng.YtphoefglfbifdaaDoor
open Go Go.Eng Go.Proofs
variable (W : World)
set_option linter.unusedSimpArgs false
set_option maxRecDepth 100000
set_option linter.unusedVariables false
set_option maxHeartbeats 8000000
/-- A desk's rows, and what is gone. -/
def DkOk (x : RolS) (L G : List (List Cell)) : Prop := x.2.2.1.map Prod.snd = L ∧ GonOk x.2.2.2 x.1 G
abbrev rolX (d : Nat) (cv tv : PV) (x : RolS) (s : Scr) : Mem := rolM d cv tv x.1 x.2.1 x.2.2.1 x.2.2.2 s
theorem rol_desk (d bt bo : Nat) (cs : List PV) (q : Gon) (l g : Fam) (s : Scr) (G : List (List Cell)) (hg : GonOk g q G) (τ : Mem) {σ : Mem} (hσ : σ.Perm (rolM d (.sl 4 cs) (.rsl bt 1 0 s.tabs.length) q bo l g s ++ (⟨bt, .row 1 (s.tabs.map PV.bool) 0⟩ :: τ))) : DeskP d { s with gone := G } (l.map Prod.snd) σ := by
  refine ⟨cs, bt, s.tabs.length, gonV q, bo, l.length, (⟨bo, .row 1 (l.map (rowP 4)) 0⟩ : Blk) :: (gonM q ++ (famM 4 encCell l ++ (famM 4 encCell g ++ []))) ++ (⟨bt, .row 1 (s.tabs.map PV.bool) 0⟩ :: τ), hσ, ?_, ?_, ?_, ?_⟩
  · obtain ⟨_ | ⟨b, pre⟩, es⟩ := q
    · exact .inl rfl
    · exact .inr ⟨b, _, _, rfl⟩
  · exact frz_row (l := s.tabs.map PV.bool) (Look.app (.here _ _ _) _) _ (by simp)
  · refine hg.frz (fun k hk => ?_) (fun k hk => ?_)
    · refine List.mem_append_left _ (List.mem_cons_of_mem _ (List.mem_append_right _ (List.mem_append_right _ (List.mem_append_left _ hk))))
    · exact List.mem_append_left _ (List.mem_cons_of_mem _ (List.mem_append_left _ hk))
  · refine frz_sub (fun k hk => ?_) (frz_rowsM bo l)
    rcases List.mem_cons.1 hk with rfl | hk
    · exact List.mem_append_left _ List.mem_cons_self
    · rw [List.append_nil] at hk
      exact List.mem_append_left _ (List.mem_cons_of_mem _ (List.mem_append_right _ (List.mem_append_left _ hk)))
theorem desk_rol (d bt bo : Nat) (gx : Option Nat) (l : Fam) (cs : List PV) (s : Scr) (hgx : gx = none → s.gone = []) :
    ∃ q : Gon, GonOk [] q s.gone ∧ (deskM d bt bo gx l cs s).Perm (rolM d (.sl 4 cs) (.rsl bt 1 0 s.tabs.length) q bo l [] s ++ [⟨bt, .row 1 (s.tabs.map PV.bool) 0⟩]) := by
  have key : ∀ (q : Gon), gonV q = goneV gx s.gone.length → gonM q = goneM gx (s.gone.map encRow) → (deskM d bt bo gx l cs s).Perm (rolM d (.sl 4 cs) (.rsl bt 1 0 s.tabs.length) q bo l [] s ++ [⟨bt, .row 1 (s.tabs.map PV.bool) 0⟩]) := by
    intro q h1 h2
    rw [deskM, rolM, h1, h2]
    refine List.Perm.cons _ ?_
    rw [rowsM, show famM 4 encCell ([] : Fam) = [] from rfl]
    generalize goneM gx (s.gone.map encRow) = A
    generalize famM 4 encCell l = F
    refine List.Perm.trans ?_ (List.perm_append_comm (l₁ := [_]))
    refine List.Perm.cons _ ?_
    refine List.perm_middle.trans ?_
    refine List.Perm.cons _ ?_
    simp
  have ha : ∀ (k : Nat) (e : PV) (r : List Cell), (s.gone.map encRow)[k]? = some e → s.gone[k]? = some r → Frz (famM 4 encCell ([] : Fam)) e (encRow r) := fun k e r h1 h2 => by
    rw [List.getElem?_map, h2] at h1
    obtain rfl := Option.some.inj h1
    exact .refl _
  cases gx with
  | none =>
    have hg := hgx rfl
    exact ⟨(none, []), ⟨by rw [hg]; rfl, rfl, fun _ => rfl, fun k e r h1 h2 => by simp at h1⟩, key _ rfl rfl⟩
  | some b =>
    exact ⟨(some (b, []), s.gone.map encRow), ⟨List.length_map _, rows_all _, (fun h => by cases h), ha⟩, key _ (by show PV.rsl b 1 0 _ = _; rw [List.length_map]; rfl) rfl⟩
/-- What is done to a desk whose rows roll. -/
theorem deskOp_rol {s s1 : Scr} {L G : List (List Cell)} (gd : Nat) (args : Nat → List PV) (τ : Mem) (ht : s1.tabs = s.tabs) (hw : s1.g.w = s.g.w) (hh : s1.g.h = s.g.h) (hL : checkS s = 0 → ∀ w h, s.right w h → RowsOk L w h)
    (h : checkS s = 0 → ∀ w h, s.right w h → ∀ (d : Nat) (cv tv : PV) (x : RolS), DkOk x s.g.rows s.gone → ACalls Tryd.prog W gd (args d) (rolX d cv tv x s ++ τ) (Gives (fun _ : RolS => .tup []) (fun x' => rolX d cv tv x' s1 ++ τ) (fun x' => DkOk x' L G))) :
    DeskOp W s (moveE s (s1.put L G)).1 (moveE s (s1.put L G)).2 τ gd args := by
  refine ⟨fun h0 => ?_, fun h0 => ?_⟩
  · rw [moveE, if_neg h0]; exact ⟨rfl, rfl⟩
  · rw [moveE, if_pos h0]
    obtain ⟨w, h', hr⟩ := right_of h0
    have f := hL h0 w h' hr
    have hw2 := f.w2
    have hh1 := f.h1
    have hh2 := f.h2
    have hfl := f.len
    refine ⟨rfl, { s1 with gone := G }, L, w, f.row, fun e => by rw [e] at hfl; simp at hfl; omega, f.w1, by omega, by omega, ?_, fun d bt bo gx l hl hgx => ?_⟩
    · have e1 : s1.g.w = w := hw.trans hr.fit.ew
      have e2 : s1.g.h = (L.length : Int) := by rw [hh, hr.fit.eh, hfl]
      rw [Scr.put, ← e1, ← e2]
    · obtain ⟨q, hq, hp⟩ := desk_rol d bt bo gx l (s.g.cs.map encCell) s hgx
      refine ACalls.lendW (h h0 w h' hr d (.sl 4 (s.g.cs.map encCell)) (.rsl bt 1 0 s.tabs.length) (q, bo, l, []) ⟨hl, hq⟩) (ρ := [⟨bt, .row 1 (s.tabs.map PV.bool) 0⟩]) ?_ ?_
      · refine (hp.append_right τ).trans ?_
        rw [List.append_assoc, List.append_assoc]
        exact List.Perm.append_left _ List.perm_append_comm
      · rintro v σ1 ⟨⟨q', bo', l', g'⟩, ⟨hl', hq'⟩, rfl, r, hm⟩
        dsimp only at hl' hq' hm
        refine ⟨σ1 ++ [⟨bt, .row 1 (s.tabs.map PV.bool) 0⟩], ⟨[], by rw [List.append_nil]⟩, rfl, ?_⟩
        rw [← hl']
        refine rol_desk d bt bo' (s.g.cs.map encCell) q' l' g' s1 G hq' (τ ++ r) ?_
        rw [ht]
        refine (hm.append_right _).trans ?_
        rw [List.append_assoc, List.append_assoc]
        refine List.Perm.append_left _ ?_
        rw [← List.append_assoc]
        exact List.perm_append_comm (l₁ := τ ++ r) (l₂ := [_])
end Go.Eng.YtphoefglfbifdaaDoor
end

/- A desk whose rows roll: Feed, and what Act does where rows roll. -/
section
namespace Go.Eng.YtphoefglfbifdaaDoor
open Go Go.Eng Go.Proofs
variable (W : World)
set_option linter.unusedSimpArgs false
set_option maxRecDepth 100000
set_option linter.unusedVariables false
set_option maxHeartbeats 8000000
theorem stepK_true (back : Int) (w top bottom : Nat) : stepK true back w top bottom = stepU back w top bottom := by
  funext p
  rw [stepK, stepU]
  by_cases h : top = 0
  · rw [if_pos ⟨h, rfl⟩, if_pos h]
  · rw [if_neg (fun e => h e.1), if_neg h]
theorem dfeed_ok (d : Nat) (cv tv : PV) (p : Wk) (x : RolS) {w h : Nat} (hw : p.1.g.w = w) (hh : p.1.g.h = h) (f : RowsOk p.2.1 w h) (hy : 0 ≤ p.1.y ∧ p.1.y < h) (ht : 0 ≤ p.1.top ∧ p.1.top ≤ p.1.bottom ∧ p.1.bottom < h) (hg : p.2.2.length ≤ 50) (hx : DkOk x p.2.1 p.2.2) :
    ACalls Tryd.prog W 34 [.bref d 0] (rolX d cv tv x p.1)
      (Gives (fun _ : RolS => .tup []) (fun x' => rolX d cv tv x' (feedW p).1) (fun x' => DkOk x' (feedW p).2.1 (feedW p).2.2)) := by
  obtain ⟨q, bo, l, g⟩ := x
  obtain ⟨s, L, G⟩ := p
  obtain ⟨hl, hgo⟩ := hx
  dsimp only at *
  subst hl
  have hh2 := f.h2
  obtain ⟨top, hto⟩ := Int.eq_ofNat_of_zero_le ht.1
  obtain ⟨bottom, hbo⟩ := Int.eq_ofNat_of_zero_le (show 0 ≤ s.bottom by omega)
  by_cases hyb : s.y = s.bottom
  · have e : feedW (s, l.map Prod.snd, G) = ({ s with late := false }, stepU s.look.back w top bottom (l.map Prod.snd, G)) := by
      rw [feedW]
      dsimp only
      rw [if_pos hyb, hw, hto, hbo, Int.toNat_natCast, Int.toNat_natCast, Int.toNat_natCast]
    rw [e]
    have hr := droll_ok W d cv tv { s with late := false } hw top bottom (by omega) (by omega) hbo 1 true q bo l g G f hgo hg _ rfl
    rw [if_pos (by omega), show min (1 : Int).toNat (bottom - top + 1) = 1 by omega, show ∀ (F : List (List Cell) × List (List Cell) → List (List Cell) × List (List Cell)) p, iterF F 1 p = F p from fun _ _ => rfl, stepK_true] at hr
    dsimp only at hr ⊢
    generalize stepU s.look.back w top bottom (l.map Prod.snd, G) = F at *
    clear e
    obtain ⟨⟨gw, gh, cs⟩, X, Y, late, ⟨fo, ba, bi⟩, tp, bo_, modes, tabs, kx, ky, ⟨f2, b2, bi2⟩, km, last, title, gn⟩ := s
    dsimp only at *
    subst hto hbo hyb
    simp only [rolX, rolM, dskB_eq] at *
    refine acalls_of_vc (DM_ok (by decide)) Tryd.func34 rfl (by decide) (by decide) rfl ?_
    refine g0_ ?_
    refine headT_ (head_ ?_); refine g0_ ?_
    refine g1_ ?_
    refine ACalls.lendW hr (ρ := []) (List.Perm.of_eq (List.append_nil _).symm) ?_
    rintro v σ1 ⟨x', hx', rfl, hm⟩
    refine ⟨_, (List.append_nil σ1).symm ▸ hm, ?_⟩
    refine g0_ ?_
    exact ⟨x', hx', rfl, wkMem.rfl'⟩
  · have e : feedW (s, l.map Prod.snd, G) = (feedY s, l.map Prod.snd, G) := by
      rw [feedW]
      dsimp only
      rw [if_neg hyb]
    rw [e]
    have e2 : feedY s = { s with y := min (s.y + 1) (s.g.h - 1), late := false } := by
      rw [feedY]
      congr 1
      split <;> omega
    rw [e2]
    clear e e2 hg
    obtain ⟨⟨gw, gh, cs⟩, X, Y, late, ⟨fo, ba, bi⟩, tp, bo_, modes, tabs, kx, ky, ⟨f2, b2, bi2⟩, km, last, title, gn⟩ := s
    dsimp only at *
    simp only [rolX, rolM, dskB_eq] at *
    refine acalls_of_vc (DM_ok (by decide)) Tryd.func34 rfl (by decide) (by decide) rfl ?_
    refine g0_ ?_
    refine headT_ (head_ ?_); refine g0_ ?_
    refine g1_ ?_
    refine headT_ (head_ ?_); refine g0_ ?_
    simp only [ifmin]
    exact ⟨(q, bo, l, g), ⟨rfl, hgo⟩, (by first | rfl | trivial), by (first | exact ⟨_, .refl _⟩ | exact wkMem.rfl' | exact ⟨_, .swap _ _ _⟩ | (repeat (first | exact wkMem.nil _ | exact wkMem.rfl' | exact wk_snoc _ _ _ | exact wk_fam (by assumption) _ _ _ | exact wk_famN (by assumption) _ _ _ | (apply wkMem.cons; (case' hl => (repeat (first | exact .here _ _ _ | apply Look.there)))) | apply wkMem.skip)))⟩
end Go.Eng.YtphoefglfbifdaaDoor
end
