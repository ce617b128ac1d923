/- Texts put together: Eng1, Eng2, Eng3, Eng4, Eng5, Eng6, Eng7. -/
import Derived.Tactics
import Derived.Below
import Derived.Laws.Cover4
import Derived.Laws.IdiomStrings
import Derived.WalkKit
import Derived.WalkLawsBesides
import Derived.WalkSpells
import Derived.Laws.Concat
import Derived.Lib.Builder
/- The engine, part 1: values of a walk that speak of no addresses but of blocks that the call owns, how they stand to the model's values, and what a step may change. Plain theorems for any program. -/
section
namespace Go.Eng
open Go

inductive PV where
  | bool (b : Bool)
  | int (k : IntKind) (n : Int)
  | str (s : List UInt8)
  | lit (v : Value)
  | sl (sz : Nat) (es : List PV)
  | nils
  | ip (e : PV) (f : Nat)
  | bref (b f : Nat)
  | ref (b sz i f : Nat)
  | rsl (b sz i n : Nat)
  | bsl (e b n : Nat)
  | bpt (e b : Nat)
  | tpt (e n b : Nat)
  | agg (cs : List PV)
  | tup (vs : List PV)
  | fn (f : FuncId) (cap : List PV)
  | ifc (t : TypeId) (v : PV)
  | mp (b : Nat)
  | opt (c : Bool) (v : PV)
  | dead
  deriving Inhabited

def PV.flat : PV → List PV
  | .agg cs => cs
  | x => [x]

abbrev Env := Nat → PV
def upd (env : Env) (t : Nat) (v : PV) : Env := fun x => bif Nat.beq x t then v else env x
def updO (env : Env) (t : Option Nat) (v : PV) : Env :=
  match t with
  | some t => upd env t v
  | none => env

inductive Cont where
  | row (sz : Nat) (es : List PV) (fz : Nat)
  | iter (s : List UInt8) (pos : Nat)
  | mpc (es : List (PV × PV))
  | mps (es : List (PV × PV)) (st : List Nat) (ck : Nat)
  | mit (bm : Nat) (st : List Nat) (ck : Nat) (is : List Nat)
structure Blk where
  b : Nat
  c : Cont
abbrev Mem := List Blk
abbrev Kn := Nat → Nat → Prop

inductive VRel (K : Kn) (w : World) : PV → Value → Prop
  | bool (b : Bool) : VRel K w (.bool b) (.bool b)
  | int (k : IntKind) (n : Int) : VRel K w (.int k n) (.int k n)
  | str (s : List UInt8) : VRel K w (.str s) (.string ⟨s.toArray⟩)
  | lit (v : Value) : VRel K w (.lit v) v
  | sl0 (sz : Nat) (a : Option Addr) (cap : Nat) : VRel K w (.sl sz []) (.slice a 0 cap)
  | sl (sz : Nat) (es : List PV) (b o cap : Nat) (hcap : es.length ≤ cap) (vs : Nat → Nat → Value) (hz : ∀ e ∈ es, e.flat.length = sz)
      (hk : ∀ i j, i < es.length → j < sz → K b (o + i * sz + j) ∧ w.cell? ⟨b, o + i * sz + j, none⟩ = some (vs i j))
      (hv : ∀ i j, i < es.length → j < sz → VRel K w ((es.getD i .dead).flat.getD j .dead) (vs i j)) :
      VRel K w (.sl sz es) (.slice (some ⟨b, o, none⟩) es.length cap)
  | nils : VRel K w .nils (.slice none 0 0)
  | ip (e : PV) (f b o : Nat) (vs : Nat → Value)
      (hk : ∀ j, j < e.flat.length → K b (o + j) ∧ w.cell? ⟨b, o + j, none⟩ = some (vs j))
      (hv : ∀ j, j < e.flat.length → VRel K w (e.flat.getD j .dead) (vs j)) :
      VRel K w (.ip e f) (.pointer (some ⟨b, o + f, none⟩))
  | bref (b f : Nat) : VRel K w (.bref b f) (.pointer (some ⟨b, f, none⟩))
  | ref (b sz i f : Nat) : VRel K w (.ref b sz i f) (.pointer (some ⟨b, i * sz + f, none⟩))
  | rsl (b sz i n o cap : Nat) (ho : n ≠ 0 ∨ i = 0 → o = i * sz) (hc : n ≤ cap)
      (hs : ∃ e m, w.shape? b = some (e, m) ∧ o + cap * sz ≤ m) : VRel K w (.rsl b sz i n) (.slice (some ⟨b, o, none⟩) n cap)
  | bsl (e b n cap : Nat) (hc : n ≤ cap) (hs : ∃ m, w.shape? b = some (e, m) ∧ cap ≤ m) : VRel K w (.bsl e b n) (.slice (some ⟨b, 0, none⟩) n cap)
  | bpt (e b : Nat) (hs : ∃ m, w.shape? b = some (e, m)) : VRel K w (.bpt e b) (.pointer (some ⟨b, 0, none⟩))
  | tpt (e n b : Nat) (hs : w.shape? b = some (e, n)) : VRel K w (.tpt e n b) (.pointer (some ⟨b, 0, none⟩))
  | agg (cs : List PV) (vs : List Value) (hl : cs.length = vs.length)
      (h : ∀ i, i < cs.length → VRel K w (cs.getD i .dead) (vs.getD i undef)) : VRel K w (.agg cs) (.agg vs.toArray)
  | tup (cs : List PV) (vs : List Value) (hl : cs.length = vs.length)
      (h : ∀ i, i < cs.length → VRel K w (cs.getD i .dead) (vs.getD i undef)) : VRel K w (.tup cs) (.tuple vs.toArray)
  | fn (f : FuncId) (cs : List PV) (vs : List Value) (hl : cs.length = vs.length)
      (h : ∀ i, i < cs.length → VRel K w (cs.getD i .dead) (vs.getD i undef)) : VRel K w (.fn f cs) (.func (.func f) #[] vs.toArray)
  | ifc (t : TypeId) (p : PV) (v : Value) (h : VRel K w p v) : VRel K w (.ifc t p) (.iface t v)
  | mp (b : Nat) : VRel K w (.mp b) (.map (some b))
  | opt (c : Bool) (p : PV) (v : Value) (h : c = true → VRel K w p v) (h' : c = false → v = undef) : VRel K w (.opt c p) v
  | dead (v : Value) : VRel K w .dead v

theorem VRel.mono {K K' : Kn} {w w' : World} (hK : ∀ b o, K b o → K' b o ∧ w'.cell? ⟨b, o, none⟩ = w.cell? ⟨b, o, none⟩)
    (hS : ∀ b x, w.shape? b = some x → w'.shape? b = some x) {p : PV} {v : Value} (h : VRel K w p v) : VRel K' w' p v := by
  induction h with
  | bool => exact .bool _
  | int => exact .int _ _
  | str => exact .str _
  | lit => exact .lit _
  | sl0 => exact .sl0 _ _ _
  | sl sz es b o cap hcap vs hz hk _ ih =>
    exact .sl sz es b o cap hcap vs hz (fun i j hi hj => ⟨(hK _ _ (hk i j hi hj).1).1, (hK _ _ (hk i j hi hj).1).2.trans (hk i j hi hj).2⟩) ih
  | nils => exact .nils
  | ip e f b o vs hk _ ih => exact .ip e f b o vs (fun j hj => ⟨(hK _ _ (hk j hj).1).1, (hK _ _ (hk j hj).1).2.trans (hk j hj).2⟩) ih
  | bref => exact .bref _ _
  | ref => exact .ref _ _ _ _
  | rsl b sz i n o cap ho hc hs =>
    obtain ⟨e, m, h1, h2⟩ := hs
    exact .rsl b sz i n o cap ho hc ⟨e, m, hS _ _ h1, h2⟩
  | bsl e b n cap hc hs =>
    obtain ⟨m, h1, h2⟩ := hs
    exact .bsl e b n cap hc ⟨m, hS _ _ h1, h2⟩
  | bpt e b hs =>
    obtain ⟨m, h1⟩ := hs
    exact .bpt e b ⟨m, hS _ _ h1⟩
  | tpt e n b hs => exact .tpt e n b (hS _ _ hs)
  | agg cs vs hl _ ih => exact .agg cs vs hl ih
  | tup cs vs hl _ ih => exact .tup cs vs hl ih
  | fn f cs vs hl _ ih => exact .fn f cs vs hl ih
  | ifc t p v _ ih => exact .ifc t p v ih
  | mp => exact .mp _
  | opt c p v _ h' ih => exact .opt c p v ih h'
  | dead => exact .dead _

theorem VRel.cells {K : Kn} {w : World} {p : PV} {v : Value} (h : VRel K w p v) (hp : p ≠ .dead) (hq : ∀ x, p ≠ .lit x) (ho : ∀ c x, p ≠ .opt c x) :
    p.flat.length = v.cells.size ∧ ∀ j, j < p.flat.length → VRel K w (p.flat.getD j .dead) (v.cells.getD j undef) := by
  cases h with
  | agg cs vs hl h => exact ⟨by simpa [PV.flat, Value.cells] using hl, fun j hj => by simpa [PV.flat, Value.cells] using h j hj⟩
  | dead => exact absurd rfl hp
  | lit v => exact absurd rfl (hq v)
  | opt c p v => exact absurd rfl (ho c p)
  | _ =>
    refine ⟨rfl, fun j hj => ?_⟩
    obtain rfl : j = 0 := by simp [PV.flat] at hj; exact hj
    simp only [PV.flat, Value.cells, List.getD_cons_zero]
    first
      | exact VRel.bool _
      | exact VRel.int _ _
      | exact VRel.str _
      | exact VRel.sl0 _ _ _
      | exact VRel.nils
      | (apply VRel.bsl <;> assumption)
      | (apply VRel.bpt; assumption)
      | (apply VRel.tpt; assumption)
      | exact VRel.bref _ _
      | exact VRel.ref _ _ _ _
      | exact VRel.mp _
      | (apply VRel.sl <;> assumption)
      | (apply VRel.ip <;> assumption)
      | (apply VRel.rsl <;> assumption)
      | (apply VRel.tup <;> assumption)
      | (apply VRel.fn <;> assumption)
      | (apply VRel.ifc; assumption)

structure RowOk (K : Kn) (w : World) (b sz : Nat) (es : List PV) (fz : Nat) : Prop where
  le : fz ≤ es.length
  ex : ∀ o, K b o → o < fz * sz
  hz : ∀ e ∈ es, e.flat.length = sz
  cells : ∃ cs ty, w.heap[b]? = some (.cells cs ty (0, 0)) ∧ es.length * sz ≤ cs.size ∧
    ∀ i j, i < es.length → j < sz → VRel K w ((es.getD i .dead).flat.getD j .dead) (cs.getD (i * sz + j) undef)
def Stm (ents : Array MapEntry) (clock : Nat) : Prop := (∀ x ∈ ents.toList.map MapEntry.born, x < clock) ∧ (ents.toList.map MapEntry.born).Nodup
def BlkOk (K : Kn) (w : World) (k : Blk) : Prop :=
  match k.c with
  | .row sz es fz => RowOk K w k.b sz es fz
  | .iter s pos => w.heap[k.b]? = some (.stringIter ⟨s.toArray⟩ pos) ∧ ∀ o, ¬ K k.b o
  | .mpc es => (∀ o, ¬ K k.b o) ∧ ∃ ents clock, w.heap[k.b]? = some (.map ents clock) ∧ ents.size = es.length ∧
      (∀ i, i < es.length → VRel K w (es.getD i (.dead, .dead)).1 (ents.getD i default).key ∧ VRel K w (es.getD i (.dead, .dead)).2 (ents.getD i default).val) ∧ Stm ents clock
  | .mps es st ck => (∀ o, ¬ K k.b o) ∧ ∃ ents, w.heap[k.b]? = some (.map ents ck) ∧ ents.size = es.length ∧
      (∀ i, i < es.length → VRel K w (es.getD i (.dead, .dead)).1 (ents.getD i default).key ∧ VRel K w (es.getD i (.dead, .dead)).2 (ents.getD i default).val) ∧ ents.toList.map MapEntry.born = st ∧ Stm ents ck
  | .mit bm st ck is => w.heap[k.b]? = some (.mapIter (some bm) ck (is.map fun i => st.getD i 0).toArray ck) ∧ (∀ j ∈ is, j < st.length) ∧ ∀ o, ¬ K k.b o
theorem BlkOk.old {K : Kn} {w : World} {b : Nat} {es : List (PV × PV)} (h : BlkOk K w ⟨b, .mpc es⟩) : (∀ o, ¬ K b o) ∧ ∃ ents clock, w.heap[b]? = some (.map ents clock) ∧ ents.size = es.length ∧
    ∀ i, i < es.length → VRel K w (es.getD i (.dead, .dead)).1 (ents.getD i default).key ∧ VRel K w (es.getD i (.dead, .dead)).2 (ents.getD i default).val := by
  obtain ⟨h1, e, c, h2, h3, h4, _⟩ := h
  exact ⟨h1, e, c, h2, h3, h4⟩
theorem BlkOk.lt {K : Kn} {w : World} {k : Blk} (h : BlkOk K w k) : k.b < w.heap.size := by
  unfold BlkOk at h
  split at h
  · obtain ⟨_, _, _, cs, ty, h4, _⟩ := h; exact (Array.getElem?_eq_some_iff.1 h4).1
  · exact (Array.getElem?_eq_some_iff.1 h.1).1
  · obtain ⟨_, cs, ty, h4, _⟩ := h; exact (Array.getElem?_eq_some_iff.1 h4).1
  · obtain ⟨_, cs, h4, _⟩ := h; exact (Array.getElem?_eq_some_iff.1 h4).1
  · exact (Array.getElem?_eq_some_iff.1 h.1).1
theorem BlkOk.move {K K' : Kn} {w w' : World} {k : Blk} (h : BlkOk K w k) (hh : w'.heap[k.b]? = w.heap[k.b]?) (hn : ∀ o, K' k.b o → K k.b o)
    (hK : ∀ b o, K b o → K' b o ∧ w'.cell? ⟨b, o, none⟩ = w.cell? ⟨b, o, none⟩) (hS : ∀ b x, w.shape? b = some x → w'.shape? b = some x) : BlkOk K' w' k := by
  unfold BlkOk at *
  split at h
  · obtain ⟨h1, h2, h3, cs, ty, h4, h5, h6⟩ := h
    exact ⟨h1, fun o ho => h2 o (hn o ho), h3, cs, ty, by rw [hh]; exact h4, h5, fun i j hi hj => (h6 i j hi hj).mono hK hS⟩
  · exact ⟨by rw [hh]; exact h.1, fun o ho => h.2 o (hn o ho)⟩
  · obtain ⟨h1, ents, clock, h2, h3, h4, h5⟩ := h
    exact ⟨fun o ho => h1 o (hn o ho), ents, clock, by rw [hh]; exact h2, h3, fun i hi => ⟨(h4 i hi).1.mono hK hS, (h4 i hi).2.mono hK hS⟩, h5⟩
  · obtain ⟨h1, ents, h2, h3, h4, h5⟩ := h
    exact ⟨fun o ho => h1 o (hn o ho), ents, by rw [hh]; exact h2, h3, fun i hi => ⟨(h4 i hi).1.mono hK hS, (h4 i hi).2.mono hK hS⟩, h5⟩
  · exact ⟨by rw [hh]; exact h.1, h.2.1, fun o ho => h.2.2 o (hn o ho)⟩

structure SatM (K : Kn) (σ : Mem) (w : World) : Prop where
  kin : ∀ b o, K b o → b < w.heap.size
  nodup : (σ.map Blk.b).Nodup
  blk : ∀ k ∈ σ, BlkOk K w k

structure Ext (σ : Mem) (K : Kn) (w : World) (σ' : Mem) (K' : Kn) (w' : World) : Prop where
  os : w'.os = w.os
  tape : w'.tape = w.tape
  output : w'.output = w.output
  size : w.heap.size ≤ w'.heap.size
  shape : ∀ b x, w.shape? b = some x → w'.shape? b = some x
  keep : ∀ b, b < w.heap.size → (∀ k ∈ σ, k.b ≠ b) → w'.heap[b]? = w.heap[b]?
  kn : ∀ b o, K b o → K' b o ∧ w'.cell? ⟨b, o, none⟩ = w.cell? ⟨b, o, none⟩
  own : ∀ k ∈ σ', (∃ k0 ∈ σ, k0.b = k.b) ∨ w.heap.size ≤ k.b
  fresh : ∀ b o, K' b o → K b o ∨ (∃ k0 ∈ σ, k0.b = b) ∨ w.heap.size ≤ b

theorem Ext.refl (σ : Mem) (K : Kn) (w : World) : Ext σ K w σ K w :=
  ⟨rfl, rfl, rfl, Nat.le_refl _, fun _ _ h => h, fun _ _ _ => rfl, fun _ _ h => ⟨h, rfl⟩, fun k hk => .inl ⟨k, hk, rfl⟩, fun _ _ h => .inl h⟩

theorem Ext.trans {σ σ1 σ2 : Mem} {K K1 K2 : Kn} {w w1 w2 : World} (h : Ext σ K w σ1 K1 w1) (g : Ext σ1 K1 w1 σ2 K2 w2) : Ext σ K w σ2 K2 w2 where
  os := g.os.trans h.os
  tape := g.tape.trans h.tape
  output := g.output.trans h.output
  size := Nat.le_trans h.size g.size
  shape b x hx := g.shape b x (h.shape b x hx)
  keep b hb hn := (g.keep b (Nat.lt_of_lt_of_le hb h.size) (fun k hk hkb => by
    rcases h.own k hk with ⟨k0, h0, h1⟩ | h1
    · exact hn k0 h0 (h1.trans hkb)
    · omega)).trans (h.keep b hb hn)
  kn b o hb := ⟨(g.kn b o (h.kn b o hb).1).1, (g.kn b o (h.kn b o hb).1).2.trans (h.kn b o hb).2⟩
  own k hk := by
    rcases g.own k hk with ⟨k1, h1, h2⟩ | h2
    · rcases h.own k1 h1 with ⟨k0, h3, h4⟩ | h4
      · exact .inl ⟨k0, h3, h4.trans h2⟩
      · exact .inr (h2 ▸ h4)
    · exact .inr (Nat.le_trans h.size h2)
  fresh b o hb := by
    rcases g.fresh b o hb with h1 | ⟨k1, h1, h2⟩ | h1
    · exact h.fresh b o h1
    · rcases h.own k1 h1 with ⟨k0, h3, h4⟩ | h4
      · exact .inr (.inl ⟨k0, h3, h4.trans h2⟩)
      · exact .inr (.inr (h2 ▸ h4))
    · exact .inr (.inr (Nat.le_trans h.size h1))

theorem Ext.vrel {σ σ1 : Mem} {K K1 : Kn} {w w1 : World} (h : Ext σ K w σ1 K1 w1) {p : PV} {v : Value} (hv : VRel K w p v) : VRel K1 w1 p v :=
  hv.mono h.kn h.shape

theorem Ext.drawn (σ : Mem) (K : Kn) (w : World) (n : Nat) : Ext σ K w σ K { w with drawn := n } :=
  ⟨rfl, rfl, rfl, Nat.le_refl _, fun _ _ h => h, fun _ _ _ => rfl, fun _ _ h => ⟨h, rfl⟩, fun k hk => .inl ⟨k, hk, rfl⟩, fun _ _ h => .inl h⟩
theorem SatM.drawn {K : Kn} {σ : Mem} {w : World} (h : SatM K σ w) (n : Nat) : SatM K σ { w with drawn := n } :=
  ⟨h.kin, h.nodup, fun k hk => BlkOk.move (w' := { w with drawn := n }) (h.blk k hk) rfl (fun _ h => h) (fun _ _ h => ⟨h, rfl⟩) (fun _ _ h => h)⟩

theorem SatM.frame {K K1 : Kn} {σ σ1 τ : Mem} {w w1 : World} (h : SatM K (σ ++ τ) w) (g : SatM K1 σ1 w1) (x : Ext σ K w σ1 K1 w1) : SatM K1 (σ1 ++ τ) w1 := by
  have hnd := h.nodup
  rw [List.map_append, List.nodup_append] at hnd
  have hlt : ∀ k ∈ τ, k.b < w.heap.size := fun k hk => (h.blk k (List.mem_append_right _ hk)).lt
  have hne : ∀ k ∈ τ, ∀ k0 ∈ σ, k0.b ≠ k.b := fun k hk k0 h0 e => hnd.2.2 k0.b (List.mem_map_of_mem h0) k.b (List.mem_map_of_mem hk) e
  refine ⟨g.kin, ?_, fun k hk => ?_⟩
  · rw [List.map_append, List.nodup_append]
    refine ⟨g.nodup, hnd.2.1, fun a ha b hb e => ?_⟩
    obtain ⟨k1, h1, rfl⟩ := List.mem_map.1 ha
    obtain ⟨k2, h2, rfl⟩ := List.mem_map.1 hb
    rcases x.own k1 h1 with ⟨k0, h3, h4⟩ | h4
    · exact hne k2 h2 k0 h3 (h4.trans e)
    · have := hlt k2 h2; omega
  · rcases List.mem_append.1 hk with hk | hk
    · exact g.blk k hk
    · refine (h.blk k (List.mem_append_right _ hk)).move (x.keep k.b (hlt k hk) (hne k hk)) (fun o ho => ?_) x.kn x.shape
      rcases x.fresh _ _ ho with h7 | ⟨k0, h7, h8⟩ | h7
      · exact h7
      · exact absurd h8 (hne k hk k0 h7)
      · have := hlt k hk; omega

theorem Ext.frame {K K1 : Kn} {σ σ1 τ : Mem} {w w1 : World} (x : Ext σ K w σ1 K1 w1) : Ext (σ ++ τ) K w (σ1 ++ τ) K1 w1 where
  os := x.os
  tape := x.tape
  output := x.output
  size := x.size
  shape := x.shape
  keep b hb hn := x.keep b hb fun k hk => hn k (List.mem_append_left _ hk)
  kn := x.kn
  own k hk := by
    rcases List.mem_append.1 hk with hk | hk
    · rcases x.own k hk with ⟨k0, h0, h1⟩ | h1
      · exact .inl ⟨k0, List.mem_append_left _ h0, h1⟩
      · exact .inr h1
    · exact .inl ⟨k, List.mem_append_right _ hk, rfl⟩
  fresh b o hb := by
    rcases x.fresh b o hb with h1 | ⟨k0, h0, h1⟩ | h1
    · exact .inl h1
    · exact .inr (.inl ⟨k0, List.mem_append_left _ h0, h1⟩)
    · exact .inr (.inr h1)

theorem SatM.left {K : Kn} {σ τ : Mem} {w : World} (h : SatM K (σ ++ τ) w) : SatM K σ w :=
  ⟨h.kin, by have := h.nodup; rw [List.map_append, List.nodup_append] at this; exact this.1, fun k hk => h.blk k (List.mem_append_left _ hk)⟩
theorem SatM.perm {K : Kn} {σ τ : Mem} {w : World} (h : SatM K σ w) (hp : σ.Perm τ) : SatM K τ w :=
  ⟨h.kin, (hp.map _).nodup_iff.1 h.nodup, fun k hk => h.blk k (hp.mem_iff.2 hk)⟩
theorem Ext.perm {K K1 : Kn} {σ σ' σ1 σ1' : Mem} {w w1 : World} (x : Ext σ K w σ1 K1 w1) (hp : σ.Perm σ') (hq : σ1.Perm σ1') : Ext σ' K w σ1' K1 w1 where
  os := x.os
  tape := x.tape
  output := x.output
  size := x.size
  shape := x.shape
  keep b hb hn := x.keep b hb fun k hk => hn k (hp.mem_iff.1 hk)
  kn := x.kn
  own k hk := by
    rcases x.own k (hq.mem_iff.2 hk) with ⟨k0, h0, h1⟩ | h1
    · exact .inl ⟨k0, hp.mem_iff.1 h0, h1⟩
    · exact .inr h1
  fresh b o hb := by
    rcases x.fresh b o hb with h1 | ⟨k0, h0, h1⟩ | h1
    · exact .inl h1
    · exact .inr (.inl ⟨k0, hp.mem_iff.1 h0, h1⟩)
    · exact .inr (.inr h1)
theorem SatM.drop {K : Kn} {σ τ : Mem} {w : World} (h : SatM K σ w) (hs : τ.Sublist σ) : SatM K τ w :=
  ⟨h.kin, (hs.map _).nodup h.nodup, fun k hk => h.blk k (hs.mem hk)⟩
theorem Ext.drop {K : Kn} {σ τ : Mem} {w : World} (hs : τ.Sublist σ) : Ext σ K w τ K w :=
  ⟨rfl, rfl, rfl, Nat.le_refl _, fun _ _ h => h, fun _ _ _ => rfl, fun _ _ h => ⟨h, rfl⟩, fun k hk => .inl ⟨k, hs.mem hk, rfl⟩, fun _ _ h => .inl h⟩
end Go.Eng
end

/- The engine, part 2: what each operation does to values, as conditions to be shown. Definitions alone. -/
section
namespace Go.Eng
open Go

def ofV1 : Value → PV
  | .bool b => .bool b
  | .int k n => .int k n
  | .string s => .str s.data.toList
  | .slice none 0 0 => .nils
  | v => .lit v
def ofV : Value → PV
  | .agg cs => .agg (cs.toList.map ofV1)
  | v => ofV1 v
def ev (env : Env) : Operand → PV
  | .tmp t => env t
  | .const v => ofV v
  | .func f => .fn f []
  | .global g => .lit (.pointer (some ⟨g, 0, none⟩))
def evO (env : Env) : Option Operand → Option PV
  | some x => some (ev env x)
  | none => none

def kEq : IntKind → IntKind → Bool
  | .i8, .i8 => true | .i16, .i16 => true | .i32, .i32 => true | .i64, .i64 => true
  | .u8, .u8 => true | .u16, .u16 => true | .u32, .u32 => true | .u64, .u64 => true
  | _, _ => false
theorem kEq_eq {a b : IntKind} (h : kEq a b = true) : a = b := by cases a <;> cases b <;> first | rfl | cases h

def maxInt : Int := 9223372036854775807
def bitop (op : BinOp) (k : IntKind) (x y : Int) : Int :=
  let a := BitVec.ofInt k.bits x
  let b := BitVec.ofInt k.bits y
  k.wrap (match op with
    | .and => (a &&& b).toNat
    | .or => (a ||| b).toNat
    | .xor => (a ^^^ b).toNat
    | _ => (a &&& ~~~b).toNat)

structure need (c : Prop) (k : Prop) : Prop where
  mk ::
  cond : c
  rest : k
inductive Alt (c p q : Prop) : Prop where
  | a (cond : c) (rest : p) : Alt c p q
  | b (rest : q) : Alt c p q
structure Both (p q : Prop) : Prop where
  mk ::
  one : p
  two : q

structure Nat1 (n : Int) (k : Nat → Prop) : Prop where
  mk ::
  all : ∀ q : Nat, n = q → k q
structure Elem1 {α : Type} (l : List α) (q : Nat) (k : α → Prop) : Prop where
  mk ::
  all : ∀ e, l[q]? = some e → k e
structure Lst1 {α : Type} (l : List α) (k : List α → Prop) : Prop where
  mk ::
  all : ∀ l', l' = l → k l'
def litN (n : Nat) (k : Nat → Prop) : Prop :=
  match n with
  | 0 => k 0
  | m + 1 => k (m + 1)
theorem litN_eq (n : Nat) (k : Nat → Prop) : litN n k = k n := by cases n <;> rfl
theorem litN_spec {n : Nat} {k : Nat → Prop} (h : litN n k) : k n := by cases n <;> exact h
def chk (b : Bool) (k : Prop) : Prop :=
  match b with
  | true => k
  | false => False
theorem chk_spec {b : Bool} {k : Prop} (h : chk b k) : b = true ∧ k := by
  cases b
  · exact h.elim
  · exact ⟨rfl, h⟩

def eqCell : PV → PV → Option Bool
  | .bool a, .bool b => some (decide (a = b))
  | .int k a, .int k' b => if kEq k k' = true then some (decide (a = b)) else none
  | .str a, .str b => some (decide (a = b))
  | _, _ => none

inductive Fits (lo hi n : Int) (A B : Prop) : Prop
  | ok (h1 : lo ≤ n) (h2 : n ≤ hi) (h : A)
  | wrap (h : B)
def inV (ik : IntKind) (n : Int) (k : PV → Prop) : Prop :=
  match ik with
  | .i64 => Fits (-9223372036854775808) 9223372036854775807 n (k (.int .i64 n)) (k (.int .i64 (IntKind.i64.wrap n)))
  | .i32 => Fits (-2147483648) 2147483647 n (k (.int .i32 n)) (k (.int .i32 (IntKind.i32.wrap n)))
  | .u8 => Fits 0 255 n (k (.int .u8 n)) (k (.int .u8 (IntKind.u8.wrap n)))
  | ik => k (.int ik (ik.wrap n))
theorem inV_spec {ik : IntKind} {n : Int} {k : PV → Prop} (h : inV ik n k) : k (.int ik (ik.wrap n)) := by
  cases ik <;> first
    | exact h
    | (cases h with
        | wrap h => exact h
        | ok h1 h2 h =>
          first
            | (rw [IntKind.wrap_i64, show (n + 9223372036854775808) % 18446744073709551616 - 9223372036854775808 = n by omega]; exact h)
            | (rw [IntKind.wrap_i32, show (n + 2147483648) % 4294967296 - 2147483648 = n by omega]; exact h)
            | (rw [IntKind.wrap_u8, show n % 256 = n by omega]; exact h))
theorem inV_mk {ik : IntKind} {n : Int} {k : PV → Prop} (h : k (.int ik (ik.wrap n))) : inV ik n k := by
  cases ik <;> first | exact h | exact .wrap h

def binV (P : Program) (t : TypeId) (op : BinOp) (x y : PV) (k : PV → Prop) : Prop :=
  match x, y with
  | .int ik a, .int jk b =>
    match op with
    | .shl => need (0 ≤ b) (k (.int ik (ik.wrap (a * 2 ^ min b.toNat ik.bits))))
    | .shr => need (0 ≤ b) (k (.int ik (a.fdiv (2 ^ min b.toNat ik.bits))))
    | _ =>
      match kEq ik jk with
      | false => False
      | true =>
        match op with
        | .add => inV ik (a + b) k
        | .sub => inV ik (a - b) k
        | .mul => inV ik (a * b) k
        | .quo => need (b ≠ 0) (inV ik (a.tdiv b) k)
        | .rem => need (b ≠ 0) (k (.int ik (a.tmod b)))
        | .and => k (.int ik (bitop .and ik a b))
        | .or => k (.int ik (bitop .or ik a b))
        | .xor => k (.int ik (bitop .xor ik a b))
        | .andNot => k (.int ik (bitop .andNot ik a b))
        | .eql => k (.bool (decide (a = b)))
        | .neq => k (.bool (decide (a ≠ b)))
        | .lss => k (.bool (decide (a < b)))
        | .leq => k (.bool (decide (a ≤ b)))
        | .gtr => k (.bool (decide (b < a)))
        | .geq => k (.bool (decide (b ≤ a)))
        | _ => False
  | .str a, .str b =>
    match op with
    | .add => need ((a.length : Int) + b.length ≤ 9223372036854775807) (k (.str (a ++ b)))
    | .eql => k (.bool (decide (a = b)))
    | .neq => k (.bool (decide (a ≠ b)))
    | .lss => k (.bool (Op.bytesLess a b))
    | .geq => k (.bool (!Op.bytesLess a b))
    | .leq => k (.bool (Op.bytesLess a b || decide (a = b)))
    | .gtr => k (.bool (!(Op.bytesLess a b || decide (a = b))))
    | _ => False
  | .bool a, .bool b =>
    match P.underlying t with
    | some .bool =>
      match op with
      | .eql => k (.bool (decide (a = b)))
      | .neq => k (.bool (decide (a ≠ b)))
      | _ => False
    | _ => False
  | _, _ => False

def unV (op : UnOp) (x : PV) (k : PV → Prop) : Prop :=
  match op, x with
  | .not, .bool b => k (.bool (!b))
  | .neg, .int ik n => inV ik (0 - n) k
  | _, _ => False

def isAggB (P : Program) (t : TypeId) : Bool :=
  match P.underlying t with
  | some (.struct _) => true
  | some (.array _ _) => true
  | _ => false

def tyOk (P : Program) (t : TypeId) : Bool := (P.underlying t).isSome && Nat.blt 0 (P.cellsOf t)
def partV (agg : Bool) (n : Nat) (e : List PV) (f : Nat) : PV :=
  match agg with
  | true => .agg ((e.drop f).take n)
  | false => e.getD f .dead
def splice {α : Type} (cs : List α) (f : Nat) (vs : List α) : List α := cs.take f ++ vs ++ cs.drop (f + vs.length)
def setPart (e : PV) (f : Nat) (v : PV) : PV :=
  match e with
  | .agg cs => .agg (splice cs f v.flat)
  | _ => v
def cellB : PV → Bool
  | .lit v => v.oneCell'
  | .agg _ => false
  | .tup _ => false
  | .opt _ _ => false
  | .dead => false
  | _ => true
def cellsB (v : PV) : Bool := v.flat.all cellB

inductive Look : Mem → Nat → Cont → Mem → Prop
  | here (b : Nat) (c : Cont) (r : Mem) : Look (⟨b, c⟩ :: r) b c r
  | there (k : Blk) (σ : Mem) (b : Nat) (c : Cont) (r : Mem) (h : Look σ b c r) : Look (k :: σ) b c (k :: r)

structure New1 (σ : Mem) (k : Nat → Prop) : Prop where
  mk ::
  all : ∀ b, (∀ z ∈ σ, z.b ≠ b) → k b
inductive New2 (b : Nat) (σ : Mem) (k kk : Nat → Prop) : Prop
  | mk (all : ∀ b', (b' = b ∨ ∀ z ∈ σ, z.b ≠ b') → k b')
  | keep (h1 : k b) (h2 : ∀ b', (∀ z ∈ σ, z.b ≠ b') → kk b')
inductive New3 (b : Nat) (σ : Mem) (l : List PV) (k : Nat → Nat → List PV → Prop) (pre0 : List PV) (kk : Nat → Prop) : Prop
  | mk (all : ∀ b' pre, (b' = b ∨ ∀ z ∈ σ, z.b ≠ b') → k b' pre.length (pre ++ l))
  | keep (h1 : k b pre0.length (pre0 ++ l)) (h2 : ∀ b', (∀ z ∈ σ, z.b ≠ b') → kk b')
inductive RowAt (σ : Mem) (b : Nat) (k : Nat → List PV → Nat → Mem → Prop) : Prop
  | mk (sz : Nat) (es : List PV) (fz : Nat) (r : Mem) (hl : Look σ b (.row sz es fz) r) (h : k sz es fz r)
abbrev rowAt (σ : Mem) (b : Nat) (k : Nat → List PV → Nat → Mem → Prop) : Prop := RowAt σ b k

def loadV (P : Program) (t : TypeId) (x : PV) (σ : Mem) (k : PV → Prop) : Prop :=
  match x with
  | .bref b f => rowAt σ b fun _ es _ _ =>
      match es with
      | [e] => chk (Nat.ble (f + P.cellsOf t) e.flat.length && tyOk P t) (k (partV (isAggB P t) (P.cellsOf t) e.flat f))
      | _ => False
  | .ref b sz i f => rowAt σ b fun sz' es _ _ => chk (Nat.beq sz' sz && Nat.ble (f + P.cellsOf t) sz && tyOk P t) (need (i < es.length) (Elem1 es i fun e => k (partV (isAggB P t) (P.cellsOf t) e.flat f)))
  | .ip e f => chk (Nat.ble (f + P.cellsOf t) e.flat.length && tyOk P t) (k (partV (isAggB P t) (P.cellsOf t) e.flat f))
  | _ => False

def storeV (P : Program) (t : TypeId) (x v : PV) (σ : Mem) (k : Mem → Prop) : Prop :=
  match x with
  | .bref b f => rowAt σ b fun sz es fz r =>
      match es with
      | [e] => chk (Nat.ble (f + v.flat.length) sz && Nat.beq v.flat.length (P.cellsOf t) && Nat.beq fz 0 && cellsB v && Nat.blt 0 (P.cellsOf t))
        (k (⟨b, .row sz [setPart e f v] fz⟩ :: r))
      | _ => False
  | .ref b sz i f => rowAt σ b fun sz' es fz r =>
      chk (Nat.beq sz' sz && Nat.ble (f + v.flat.length) sz && Nat.beq v.flat.length (P.cellsOf t) && cellsB v && Nat.blt 0 (P.cellsOf t))
        (need (i < es.length ∧ fz ≤ i) (Elem1 es i fun e => k (⟨b, .row sz (es.set i (setPart e f v)) fz⟩ :: r)))
  | _ => False

def newV (v : PV) (n : Nat) (σ : Mem) (k : PV → Mem → Prop) : Prop :=
  chk (Nat.beq v.flat.length n && cellsB v) (New1 σ fun b => k (.bref b 0) (⟨b, .row n [v] 0⟩ :: σ))

def selfPtr (P : Program) (e : TypeId) : Bool :=
  match P.underlying e with
  | some (.struct fs) => match fs.toList with
    | [f, _] => match P.underlying f.type with
      | some (.pointer e') => Nat.beq e' e
      | _ => false
    | _ => false
  | _ => false
def allocV (P : Program) (e : TypeId) (v : PV) (σ : Mem) (k : PV → Mem → Prop) : Prop :=
  match selfPtr P e with
  | true => chk (Nat.beq v.flat.length (P.cellsOf e) && cellsB v) (New1 σ fun b => k (.tpt e (P.cellsOf e) b) (⟨b, .row (P.cellsOf e) [v] 0⟩ :: σ))
  | false => newV v (P.cellsOf e) σ k

def zeroV (P : Program) (t : TypeId) : PV :=
  match P.info? t with
  | some i => match i.zero with
    | some v => ofV v
    | none => .dead
  | none => .dead

def fieldsOf (P : Program) (t : TypeId) : Array Field :=
  match P.underlying t with
  | some (.struct fs) => fs
  | _ => #[]
def elemTy (P : Program) (t : TypeId) : TypeId :=
  match P.underlying t with
  | some (.slice e) => e
  | some (.array _ e) => e
  | _ => 0
def isSliceB (P : Program) (t : TypeId) : Bool :=
  match P.underlying t with
  | some (.slice _) => true
  | _ => false
def isAppB (P : Program) (t : TypeId) : Bool :=
  match P.underlying t with
  | some (.slice _) => true
  | some .string => true
  | _ => false
def fillV (place : Nat → Option (Nat × Nat)) (cells : List PV) : List (Nat × PV) → Option (List PV)
  | [] => some cells
  | (i, v) :: rest =>
    match place i with
    | none => none
    | some (off, size) =>
      bif Nat.beq v.flat.length size && Nat.ble (off + size) cells.length && cellsB v then fillV place (splice cells off v.flat) rest else none
def builtV (P : Program) (t : TypeId) (parts : List (Nat × PV)) : Option (List PV) :=
  match P.info? t, P.underlying t with
  | some it, some (.array _ e) =>
    match it.zero, P.info? e with
    | some z, some ie => fillV (fun i => some (i * ie.size, ie.size)) (ofV z).flat parts
    | _, _ => none
  | some it, some (.struct fields) =>
    match it.zero, fields.toList.mapM (fun f => (P.info? f.type).map fun i => (f.offset, i.size)) with
    | some z, some places => fillV (places[·]?) (ofV z).flat parts
    | _, _ => none
  | _, _ => none
def buildV (P : Program) (t : TypeId) (parts : List (Nat × PV)) (k : PV → Prop) : Prop :=
  match builtV P t parts with
  | some cs => k (.agg cs)
  | none => False

def fieldAddrV (P : Program) (s : TypeId) (x : PV) (fld : Nat) (k : PV → Prop) : Prop :=
  match (fieldsOf P s)[fld]? with
  | some f =>
    match x with
    | .bref b o => chk (Nat.blt 0 (P.cellsOf f.type)) (k (.bref b (o + f.offset)))
    | .tpt _ _ b => chk (Nat.blt 0 (P.cellsOf f.type)) (k (.bref b f.offset))
    | .ref b sz i o => chk (Nat.blt 0 (P.cellsOf f.type)) (k (.ref b sz i (o + f.offset)))
    | .ip e o => chk (Nat.blt 0 (P.cellsOf f.type)) (k (.ip e (o + f.offset)))
    | _ => False
  | none => False

def fieldV (P : Program) (s : TypeId) (x : PV) (fld : Nat) (k : PV → Prop) : Prop :=
  match (fieldsOf P s)[fld]? with
  | some f =>
    match x with
    | .agg cs => chk (Nat.ble (f.offset + P.cellsOf f.type) cs.length && tyOk P f.type) (k (partV (isAggB P f.type) (P.cellsOf f.type) cs f.offset))
    | _ => False
  | none => False

def indexAddrV (P : Program) (t : TypeId) (x i : PV) (k : PV → Prop) : Prop :=
  match i with
  | .int _ n =>
    match P.underlying t with
    | some (.slice e) =>
      match x with
      | .sl sz es => chk (Nat.beq (P.cellsOf e) sz && Nat.blt 0 sz) (need (0 ≤ n ∧ n < es.length) (Nat1 n fun q => Elem1 es q fun e => k (.ip e 0)))
      | .rsl b sz j m => chk (Nat.beq (P.cellsOf e) sz && Nat.blt 0 sz) (need (0 ≤ n ∧ n < m) (Nat1 n fun q => k (.ref b sz (j + q) 0)))
      | _ => False
    | some (.array m e) =>
      match x with
      | .bref b f => chk (Nat.blt 0 (P.cellsOf e)) (need (0 ≤ n ∧ n < m) (k (.bref b (f + n.toNat * P.cellsOf e))))
      | .ref b sz j f => chk (Nat.blt 0 (P.cellsOf e)) (need (0 ≤ n ∧ n < m) (k (.ref b sz j (f + n.toNat * P.cellsOf e))))
      | .ip v f => chk (Nat.blt 0 (P.cellsOf e)) (need (0 ≤ n ∧ n < m) (k (.ip v (f + n.toNat * P.cellsOf e))))
      | .lit u => match u with
        | .pointer p => match p with
          | some a => chk (Nat.blt 0 (P.cellsOf e)) (need (0 ≤ n ∧ n < m) (k (.lit (.pointer (some (a.add (n.toNat * P.cellsOf e)))))))
          | none => False
        | _ => False
      | _ => False
    | _ => False
  | _ => False

def indexV (P : Program) (t : TypeId) (x i : PV) (k : PV → Prop) : Prop :=
  match i with
  | .int _ n =>
    match x with
    | .str s => match P.underlying t with
      | some .string => need (0 ≤ n ∧ n < s.length) (Nat1 n fun q => Elem1 s q fun c => k (.int .u8 c.toNat))
      | _ => False
    | .agg cs => match P.underlying t with
      | some (.array m e) => chk (Nat.ble (m * P.cellsOf e) cs.length && tyOk P e) (need (0 ≤ n ∧ n < m) (k (partV (isAggB P e) (P.cellsOf e) cs (n.toNat * P.cellsOf e))))
      | _ => False
    | _ => False
  | _ => False

def boundsT (hi mx : Option PV) (n : Nat) (l h : Int) (k : Nat → Nat → Prop) : Prop :=
  match mx with
  | none => need (0 ≤ l ∧ l ≤ h ∧ h ≤ n) (Nat1 l fun p => Nat1 h fun q => k p q)
  | some (.int _ m) => match hi with
    | some _ => need (0 ≤ l ∧ l ≤ h ∧ h ≤ m ∧ m ≤ n) (Nat1 l fun p => Nat1 h fun q => k p q)
    | none => False
  | _ => False
def boundsV (lo hi mx : Option PV) (n : Nat) (k : Nat → Nat → Prop) : Prop :=
  match (match lo with | some l => l | none => .int .i64 0), (match hi with | some h => h | none => .int .i64 n) with
  | .int _ l, .int _ h => boundsT hi mx n l h k
  | _, _ => False
def sliceV (P : Program) (t : TypeId) (x : PV) (lo hi mx : Option PV) (k : PV → Prop) : Prop :=
  match P.underlying t with
  | some .string => match x, mx with
    | .str s, none => boundsV lo hi none s.length fun l h => Lst1 ((s.take h).drop l) fun s' => k (.str s')
    | _, _ => False
  | some (.slice e) => match x with
    | .sl sz es => chk (Nat.beq (P.cellsOf e) sz && Nat.blt 0 sz) (boundsV lo hi mx es.length fun l h => Lst1 ((es.take h).drop l) fun es' => k (.sl sz es'))
    | .rsl b sz i n => chk (Nat.beq (P.cellsOf e) sz && Nat.blt 0 sz) (boundsV lo hi mx n fun l h => k (.rsl b sz (i + l) (h - l)))
    | .nils => chk (Nat.blt 0 (P.cellsOf e)) (boundsV lo hi mx 0 fun _ _ => k .nils)
    | _ => False
  | _ => False

def infoB (P : Program) (t : TypeId) : Bool :=
  match P.info? t with
  | some j => Nat.blt 0 j.size
  | none => false
def infoB0 (P : Program) (t : TypeId) : Bool := (P.info? t).isSome
def convV (P : Program) (src dst : TypeId) (x : PV) (k : PV → Prop) : Prop :=
  match P.underlying src, P.underlying dst with
  | some s, some d =>
    match x with
    | .int _ n => match d with
      | .int ik => inV ik n k
      | .string => k (.str (Utf8.encode n).data.toList)
      | _ => False
    | .str l => match d with
      | .string => k (.str l)
      | _ => False
    | .sl sz es => match s, d with
      | .slice e, .string => match P.underlying e with
        | some (.int .u8) => chk (Nat.beq sz 1) (∃ ns : List Int, es = ns.map (PV.int .u8) ∧ k (.str (ns.map fun n => UInt8.ofNat n.toNat)))
        | some (.int .i32) => chk (Nat.beq sz 1) (∃ ns : List Int, es = ns.map (PV.int .i32) ∧ k (.str (runesBytes ns).data.toList))
        | _ => False
      | _, _ => False
    | .nils => match s, d with
      | .slice e, .string => match P.underlying e with
        | some (.int .u8) => k (.str [])
        | _ => False
      | _, _ => False
    | .tpt e n b => match s, d with
      | .pointer t, .unsafePointer => chk (Nat.blt 0 n && infoB P t) (k (.tpt e n b))
      | .unsafePointer, .pointer u => chk (infoB0 P u && liesAt P P.depth e (n / P.cellsOf e) 0 u 1) (k (.tpt e n b))
      | _, _ => False
    | _ => False
  | _, _ => False

def runesV (l : List UInt8) : List PV := (Conv.runesFrom ⟨l.toArray⟩ l.length 0 #[]).toList.map ofV1
def isRunesB (P : Program) (t : TypeId) : Bool :=
  match P.underlying t with
  | some (.slice e) => match P.underlying e with
    | some (.int .i32) => true
    | _ => false
  | _ => false
def isStringB (P : Program) (t : TypeId) : Bool :=
  match P.underlying t with
  | some .string => true
  | _ => false
def isBytesB (P : Program) (t : TypeId) : Bool :=
  match P.underlying t with
  | some (.slice e) => match P.underlying e with
    | some (.int .u8) => true
    | _ => false
  | _ => false
def convM (P : Program) (src dst : TypeId) (x : PV) (k : PV → Prop) : Prop :=
  match isRunesB P dst with
  | true => match x with
    | .str l => chk (isStringB P src) (need (l.length ≤ 70368744177664) (k (.sl 1 (runesV l))))
    | _ => False
  | false => match isBytesB P dst && isStringB P src with
    | true => match x with
      | .str l => k (.sl 1 (l.map fun c => .int .u8 c.toNat))
      | _ => False
    | false => convV P src dst x k

def minInts : List PV → IntKind → Int → Option PV
  | [], k, x => some (.int k x)
  | .int _ y :: r, k, x => minInts r k (if y < x then y else x)
  | _, _, _ => none
def maxInts : List PV → IntKind → Int → Option PV
  | [], k, x => some (.int k x)
  | .int _ y :: r, k, x => maxInts r k (if x < y then y else x)
  | _, _, _ => none

def lenV : PV → Option Nat
  | .str s => some s.length
  | .sl _ es => some es.length
  | .rsl _ _ _ n => some n
  | .nils => some 0
  | .bsl _ _ n => some n
  | _ => none

structure Pre (W : World) (σ : Mem) (w : World) : Prop where
  size : W.heap.size ≤ w.heap.size
  base : ∀ b, b < W.heap.size → w.heap[b]? = W.heap[b]?
  own : ∀ k ∈ σ, W.heap.size ≤ k.b

structure ACalls (P : Program) (W : World) (f : FuncId) (args : List PV) (σ : Mem) (k : PV → Mem → Prop) : Prop where
  body : ∃ fn, P.funcs[f]? = some fn ∧ fn.body.isNone = false ∧ (fn.name == "runtime.NumGoroutine") = false
  run : ∀ (K : Kn) (w : World) (vs : List Value), args.length = vs.length → (∀ i, i < args.length → VRel K w (args.getD i .dead) (vs.getD i undef)) → SatM K σ w → Pre W σ w →
    Calls P f vs.toArray w fun e w' => ∃ v pv σ' K', e = .returned v ∧ k pv σ' ∧ VRel K' w' pv v ∧ SatM K' σ' w' ∧ Ext σ K w σ' K' w'

def elemsOf (d : Nat) (x : PV) (σ : Mem) (k : Nat → List PV → Prop) : Prop :=
  match x with
  | .sl sz es => k sz es
  | .nils => k d []
  | .lit (.slice _ 0 _) => k d []
  | .rsl b sz i n => rowAt σ b fun sz' es _ _ => chk (Nat.beq sz' sz) (need (i + n ≤ es.length) (k sz ((es.drop i).take n)))
  | _ => False

def srcOf (d : Nat) (x : PV) (σ : Mem) (k : Nat → List PV → Prop) : Prop :=
  match x with
  | .str s => k 1 (s.map fun c => .int .u8 c.toNat)
  | x => elemsOf d x σ k

def zeroOk (P : Program) (e : TypeId) : Bool := Nat.beq (zeroV P e).flat.length (P.cellsOf e) && cellsB (zeroV P e) && Nat.blt 0 (P.cellsOf e) && Nat.blt 0 (P.bytesOf e)
def fillE (sz : Nat) (es : List PV) : List (Nat × PV) → Option (List PV)
  | [] => some es
  | (i, v) :: rest => bif Nat.beq v.flat.length sz && Nat.blt i es.length && cellsB v then fillE sz (es.set i v) rest else none
def seqOk (sz n : Nat) : Nat → List (Nat × PV) → Bool
  | j, [] => Nat.beq j n
  | j, (i, v) :: rest => Nat.beq i j && Nat.beq v.flat.length sz && cellsB v && seqOk sz n (j + 1) rest
def fillP (sz n : Nat) (z : PV) (parts : List (Nat × PV)) : Option (List PV) :=
  bif seqOk sz n 0 parts then some (parts.map Prod.snd) else fillE sz (List.replicate n z) parts
def buildSliceV (P : Program) (t : TypeId) (n : Nat) (parts : List (Nat × PV)) (k : Nat → List PV → Prop) : Prop :=
  match isSliceB P t with
  | true =>
    chk (Nat.ble (n * P.cellsOf (elemTy P t)) 16777216 && zeroOk P (elemTy P t))
      (match fillP (P.cellsOf (elemTy P t)) n (zeroV P (elemTy P t)) parts with
        | some es => k (P.cellsOf (elemTy P t)) es
        | none => False)
  | false => False

def ownSl (P : Program) (e b sz n : Nat) : PV :=
  match P.underlying e with
  | some (.int .u8) => match sz with
    | 1 => .bsl e b n
    | _ => .rsl b sz 0 n
  | _ => .rsl b sz 0 n
def appendV (P : Program) (t : TypeId) (s x : PV) (σ : Mem) (k : PV → Mem → Prop) : Prop :=
  match P.underlying t with
  | some (.slice e) =>
    srcOf (P.cellsOf e) x σ fun sz ys =>
      chk (Nat.beq sz (P.cellsOf e) && zeroOk P e) (need (ys.all cellsB = true)
        (match s with
          | .nils => litN (P.bytesOf e) fun B => need (ys.length * B ≤ 140737488355328) (match ys with | [] => k .nils σ | y :: ys' => New1 σ fun b => k (ownSl P e b (P.cellsOf e) (ys'.length + 1)) (⟨b, .row (P.cellsOf e) (y :: ys') 0⟩ :: σ))
          | .rsl b sz' i n => rowAt σ b fun sz'' es fz r =>
              chk (Nat.beq sz' (P.cellsOf e) && Nat.beq sz'' (P.cellsOf e)) (litN (P.bytesOf e) fun B => match i with
                | 0 => Alt (n = es.length ∧ (n + ys.length) * B ≤ 140737488355328)
                  (New2 b σ (fun b' => k (.rsl b' (P.cellsOf e) 0 (n + ys.length)) (⟨b', .row (P.cellsOf e) (es ++ ys) fz⟩ :: r)) fun b' => k (.rsl b' (P.cellsOf e) 0 (n + ys.length)) (⟨b', .row (P.cellsOf e) (es ++ ys) fz⟩ :: σ))
                  (need (n ≤ es.length ∧ fz ≤ n ∧ (n + ys.length) * B ≤ 140737488355328) (Both (k (.rsl b (P.cellsOf e) 0 (n + ys.length)) (⟨b, .row (P.cellsOf e) (es.take n ++ ys ++ es.drop (n + ys.length)) fz⟩ :: r))
                    (New1 σ fun b' => k (.rsl b' (P.cellsOf e) 0 (n + ys.length)) (⟨b', .row (P.cellsOf e) (es.take n ++ ys) fz⟩ :: σ))))
                | i + 1 => need (0 < n ∧ i + 1 + n = es.length ∧ fz = 0 ∧ (n + ys.length) * B ≤ 140737488355328)
                  (New3 b σ (es.drop (i + 1) ++ ys) (fun b' i' es' => k (.rsl b' (P.cellsOf e) i' (n + ys.length)) (⟨b', .row (P.cellsOf e) es' 0⟩ :: r)) (es.take (i + 1)) fun b' => k (.rsl b' (P.cellsOf e) 0 (n + ys.length)) (⟨b', .row (P.cellsOf e) (es.drop (i + 1) ++ ys) 0⟩ :: σ)))
          | .bsl e' b n => rowAt σ b fun sz'' es fz r =>
              chk (Nat.beq e' e && Nat.beq sz'' (P.cellsOf e) && Nat.beq (P.cellsOf e) 1) (litN (P.bytesOf e) fun B => need (n = es.length ∧ (n + ys.length) * B ≤ 140737488355328)
                (New2 b σ (fun b' => k (.bsl e b' (n + ys.length)) (⟨b', .row (P.cellsOf e) (es ++ ys) fz⟩ :: r)) fun _ => False))
          | _ => False))
  | _ => False

def copyV (P : Program) (t : TypeId) (d x : PV) (σ : Mem) (k : PV → Mem → Prop) : Prop :=
  match P.underlying t with
  | some (.slice e) =>
    elemsOf (P.cellsOf e) x σ fun sz ys =>
      match d with
      | .rsl b sz' i n => rowAt σ b fun sz'' es fz r =>
          chk (Nat.beq sz (P.cellsOf e) && Nat.beq sz' (P.cellsOf e) && Nat.beq sz'' (P.cellsOf e) && Nat.blt 0 (P.cellsOf e)) (need (i + n ≤ es.length ∧ ys.all cellsB = true ∧ fz ≤ i)
            (k (.int .i64 (min n ys.length : Nat)) (⟨b, .row (P.cellsOf e) (es.take i ++ ys.take n ++ es.drop (i + min n ys.length)) fz⟩ :: r)))
      | _ => False
  | _ => False

def clearV (P : Program) (t : TypeId) (x : PV) (σ : Mem) (k : PV → Mem → Prop) : Prop :=
  match P.underlying t with
  | some (.slice e) =>
    match x with
    | .rsl b sz i n => rowAt σ b fun sz' es fz r =>
        chk (Nat.beq sz (P.cellsOf e) && Nat.beq sz' sz && zeroOk P e) (need (i + n ≤ es.length ∧ fz ≤ i)
          (k (.tup []) (⟨b, .row sz (es.take i ++ List.replicate n (zeroV P e) ++ es.drop (i + n)) fz⟩ :: r)))
    | _ => False
  | _ => False

def makeV (P : Program) (t : TypeId) (l c : PV) (σ : Mem) (k : PV → Mem → Prop) : Prop :=
  match P.underlying t with
  | some (.slice e) =>
    match l, c with
    | .int _ n, .int _ m =>
      chk (zeroOk P e) (litN (P.bytesOf e) fun B => need (0 ≤ n ∧ n ≤ m ∧ m ≤ 9223372036854775807 ∧ (B : Int) * m ≤ 281474976710656)
        (Nat1 n fun q => New1 σ fun b => k (.rsl b (P.cellsOf e) 0 q) (⟨b, .row (P.cellsOf e) (List.replicate q (zeroV P e)) 0⟩ :: σ)))
    | _, _ => False
  | _ => False

def ptrTo (P : Program) (t : TypeId) : Option TypeId :=
  match P.underlying t with
  | some (.pointer e) => some e
  | _ => none
inductive StrAt (P : Program) (σ : Mem) (b e pt : Nat) (n : Int) (k : PV → Mem → Prop) : Prop
  | mk (es : List PV) (fz : Nat) (r : Mem) (s : List UInt8) (hl : Look σ b (.row 1 es fz) r) (hn : n = s.length) (h0 : s ≠ []) (h63 : n ≤ 9223372036854775807) (he : ptrTo P pt = some e) (h8 : P.underlying e = some (.int .u8)) (h1 : P.cellsOf e = 1)
      (hs : es.take s.length = s.map fun c => PV.int .u8 c.toNat) (h : k (.str s) r)
def builtinV (P : Program) (b : Builtin) (ts : Array TypeId) (args : List PV) (σ : Mem) (k : PV → Mem → Prop) : Prop :=
  match b, args with
  | .len, [x] => match ts[0]? with
    | some t => match P.underlying t with
      | some (.array n _) => k (.int .i64 n) σ
      | some .string => match x with
        | .str s => k (.int .i64 s.length) σ
        | _ => False
      | some (.slice _) => match x with
        | .sl _ es => k (.int .i64 es.length) σ
        | .rsl _ _ _ n => k (.int .i64 n) σ
        | .nils => k (.int .i64 0) σ
        | .bsl _ _ n => k (.int .i64 n) σ
        | _ => False
      | _ => False
    | none => False
  | .min, .int ik x :: r => match minInts r ik x with
    | some v => k v σ
    | none => False
  | .max, .int ik x :: r => match maxInts r ik x with
    | some v => k v σ
    | none => False
  | .append, [s, x] => match ts[0]?, ts[1]? with
    | some t, some t2 => match isAppB P t2 with
      | true => appendV P t s x σ k
      | false => False
    | _, _ => False
  | .copy, [d, x] => match ts[0]? with
    | some t => copyV P t d x σ k
    | none => False
  | .clear, [x] => match ts[0]? with
    | some t => clearV P t x σ k
    | none => False
  | .unsafeSliceData, [x] => match x with
    | .nils => k (.lit (.pointer none)) σ
    | .bsl e b n => need (0 < n) (k (.bpt e b) σ)
    | _ => False
  | .unsafeString, [p, n] => match n with
    | .int .i64 n => match ts.toList with
      | [pt, _] => match p with
        | .lit (.pointer none) => need (n = 0) (k (.str []) σ)
        | .bpt e b => StrAt P σ b e pt n k
        | _ => False
      | _ => False
    | _ => False
  | _, _ => False

structure EqLaw (P : Program) (op : BinOp) (t : TypeId) (xo yo : Operand) (x y : PV) (r : Bool) : Prop where
  run : ∀ (K : Kn) (w : World) (u v : Value), VRel K w x u → VRel K w y v →
    (do eqGuard op t xo yo u v; binOp op t u v : Sem Value).run P w = .ok (.bool r) w

def isPlain : PV → Bool
  | .bool _ => true | .int _ _ => true | .str _ => true | _ => false

inductive IterAt (σ : Mem) (b : Nat) (k : PV → Mem → Prop) : Prop
  | mk (s : List UInt8) (pos : Nat) (r : Mem) (hl : Look σ b (.iter s pos) r)
      (h1 : pos < s.length → k (.tup [.bool true, .int .i64 pos, .int .i32 (Utf8.decode ⟨s.toArray⟩ pos).1]) (⟨b, .iter s (pos + (Utf8.decode ⟨s.toArray⟩ pos).2)⟩ :: r))
      (h2 : ¬ pos < s.length → k (.tup [.bool false]) σ)
inductive RangeAt (σ : Mem) (b : Nat) (k : PV → Mem → Prop) : Prop
  | mk (es : List (PV × PV)) (r : Mem) (hl : Look σ b (.mpc es) r)
      (h : ∀ st ck, st.length = es.length → New1 (⟨b, .mps es st ck⟩ :: r) fun m => k (.bref m 0) (⟨m, .mit b st ck []⟩ :: ⟨b, .mps es st ck⟩ :: r))
inductive NextAt (σ : Mem) (b : Nat) (k : PV → Mem → Prop) : Prop
  | mk (bm : Nat) (st : List Nat) (ck : Nat) (is : List Nat) (r : Mem) (hl : Look σ b (.mit bm st ck is) r) (es : List (PV × PV)) (r' : Mem) (hm : Look r bm (.mps es st ck) r')
      (h1 : ∀ i, i < es.length → i ∉ is → k (.tup [.bool true, (es.getD i (.dead, .dead)).1, (es.getD i (.dead, .dead)).2]) (⟨b, .mit bm st ck (is ++ [i])⟩ :: r))
      (h2 : (∀ i, i < es.length → i ∈ is) → k (.tup [.bool false]) σ)
inductive EntryAt (σ : Mem) (b : Nat) (k : PV → Mem → Prop) : Prop
  | mk (bm : Nat) (st : List Nat) (ck : Nat) (is : List Nat) (i : Nat) (r : Mem) (hl : Look σ b (.mit bm st ck (is ++ [i])) r) (es : List (PV × PV)) (r' : Mem) (hm : Look r bm (.mps es st ck) r')
      (hi : i < es.length) (h : k (.tup [(es.getD i (.dead, .dead)).1, (es.getD i (.dead, .dead)).2]) σ)
def nextV (x : PV) (str : Bool) (σ : Mem) (k : PV → Mem → Prop) : Prop :=
  match x, str with
  | .bref b 0, true => IterAt σ b k
  | .bref b 0, false => NextAt σ b k
  | _, _ => False

structure LookLaw (P : Program) (t : TypeId) (x i : PV) (ok : Bool) (σ : Mem) (r : PV) : Prop where
  run : ∀ (K : Kn) (w : World) (u v : Value), SatM K σ w → VRel K w x u → VRel K w i v → ∃ z, (Instr.lookup t u v ok).run P w = .ok z w ∧ VRel K w r z
def newKey (i : PV) : List (PV × PV) → Bool
  | [] => true
  | (j, _) :: es => match i, j with
    | .int k n, .int k' m => kEq k k' && !decide (n = m) && newKey i es
    | .str a, .str b => !decide (a = b) && newKey i es
    | _, _ => false
def plainKey (P : Program) (t : TypeId) (i : PV) : Bool :=
  match P.underlying t with
  | some (.map kt _) => match P.underlying kt, i with
    | some (.int k), .int k' _ => kEq k k'
    | some .string, .str _ => true
    | _, _ => false
  | _ => false
inductive MapAt (σ : Mem) (b : Nat) (k : List (PV × PV) → Mem → Prop) : Prop
  | mk (es : List (PV × PV)) (r : Mem) (hl : Look σ b (.mpc es) r) (h : k es r)
def MapRel (K : Kn) (w : World) (es : List (PV × PV)) (ents : Array MapEntry) : Prop :=
  ents.size = es.length ∧ ∀ i, i < es.length → VRel K w (es.getD i (.dead, .dead)).1 (ents.getD i default).key ∧ VRel K w (es.getD i (.dead, .dead)).2 (ents.getD i default).val
structure InsLaw (P : Program) (t : TypeId) (es : List (PV × PV)) (i v : PV) (es' : List (PV × PV)) : Prop where
  run : ∀ (K : Kn) (w : World) (b : Nat) (ui uv : Value) (ents : Array MapEntry) (clock : Nat), w.heap[b]? = some (.map ents clock) → MapRel K w es ents → VRel K w i ui → VRel K w v uv →
    ∃ ents' clock', (Instr.mapUpdate t (.map (some b)) ui uv).run P w = .ok () { w with heap := w.heap.setIfInBounds b (.map ents' clock') } ∧ MapRel K w es' ents' ∧ (Stm ents clock → Stm ents' clock')
inductive InsAt (P : Program) (t : TypeId) (i v : PV) (σ : Mem) (b : Nat) (k : Mem → Prop) : Prop
  | new (h : chk (plainKey P t i) (MapAt σ b fun es r => need (newKey i es = true) (k (⟨b, .mpc (es ++ [(i, v)])⟩ :: r))))
  | law (es es' : List (PV × PV)) (r : Mem) (hl : Look σ b (.mpc es) r) (hw : InsLaw P t es i v es') (h : k (⟨b, .mpc es'⟩ :: r))
def insV (P : Program) (t : TypeId) (m i v : PV) (σ : Mem) (k : Mem → Prop) : Prop :=
  match m with
  | .mp b => InsAt P t i v σ b k
  | _ => False
def isMapB (P : Program) (t : TypeId) : Bool :=
  match P.underlying t with
  | some (.map _ _) => true
  | _ => false
structure OpLaw (P : Program) (W : World) (o : Op) (env : Env) (σ : Mem) (k : PV → Mem → Prop) : Prop where
  run : ∀ (o' : Oper) (K : Kn) (w : World) (a : Act) (next : Act → World → Prop) (Q : Exit → Act → World → Prop), o'.op = o → SatM K σ w → Pre W σ w → (∀ x ∈ o.operands, VRel K w (ev env x) (a.eval x)) →
    (∀ v pv σ' K' w', k pv σ' → VRel K' w' pv v → SatM K' σ' w' → Ext σ K w σ' K' w' → next (a.put o'.dst v) w') → o'.wp P a w next Q
def isExt (P : Program) (g : FuncId) : Bool :=
  match P.funcs[g]? with
  | some fn => fn.body.isNone
  | none => false
structure ExtLaw (P : Program) (g : FuncId) (args : List PV) (r : PV) : Prop where
  run : ∀ (K : Kn) (w : World) (vs : List Value), args.length = vs.length → (∀ i, i < args.length → VRel K w (args.getD i .dead) (vs.getD i undef)) → ∃ v, (callFunc g vs.toArray).run P w = .ok (.value v) w ∧ VRel K w r v
def callV (P : Program) (W : World) (g : FuncId) (args : List PV) (σ : Mem) (k : PV → Mem → Prop) : Prop :=
  match isExt P g with
  | true => ∃ r, ExtLaw P g args r ∧ k r σ
  | false => ACalls P W g args σ k
theorem callV_of {P : Program} {W : World} {g : FuncId} {args : List PV} {σ : Mem} {k : PV → Mem → Prop} (h : ACalls P W g args σ k) : callV P W g args σ k := by
  obtain ⟨fn, h1, h2, _⟩ := h.body
  have : isExt P g = false := by unfold isExt; rw [h1]; exact h2
  unfold callV
  rw [this]; exact h
structure GlobAt (P : Program) (W : World) (t : TypeId) (u : Value) (pv : PV) : Prop where
  run : ∀ (K : Kn) (w : World), (∀ b, b < W.heap.size → w.heap[b]? = W.heap[b]?) → ∃ r, (Instr.loadAt t u).run P w = .ok r w ∧ VRel K w pv r
def loadG (P : Program) (W : World) (t : TypeId) (x : PV) (σ : Mem) (k : PV → Prop) : Prop :=
  match x with
  | .lit u => ∃ pv, GlobAt P W t u pv ∧ k pv
  | x => loadV P t x σ k
def pickV (t : Bool) (a b : PV) (k : PV → Prop) : Prop :=
  match a with
  | .opt y v => match v with
    | .bool v => match b with
      | .bool w => need (t = true → y = true) (match w with
        | false => k (.bool (t && v))
        | true => k (.bool (!t || v)))
      | _ => False
    | _ => False
  | .tup l => match l with
    | [] => need (t = false) (k b)
    | _ => False
  | a => match b with
    | .opt y v => match v with
      | .bool v => match a with
        | .bool u => need (t = false → y = true) (match u with
          | true => k (.bool (t || v))
          | false => k (.bool (!t && v)))
        | _ => False
      | _ => False
    | .tup l => match l with
      | [] => need (t = true) (k a)
      | _ => False
    | b => k (match t with | true => a | false => b)
def opV (P : Program) (W : World) (o : Op) (env : Env) (σ : Mem) (k : PV → Mem → Prop) : Prop :=
  match o with
  | .move x => k (ev env x) σ
  | .assign x => k (ev env x) σ
  | .pick c a b => match ev env c with
    | .bool t => pickV t (ev env a) (ev env b) fun v => k v σ
    | _ => False
  | .alloc e => allocV P e (zeroV P e) σ k
  | .box e x => newV (ev env x) (P.cellsOf e) σ k
  | .build t ps => buildV P t (ps.toList.map fun p => (p.1, ev env p.2)) fun v => k v σ
  | .buildSlice t n ps => buildSliceV P t n (ps.toList.map fun p => (p.1, ev env p.2)) fun sz es => k (.sl sz es) σ ∨ New1 σ fun b => k (.rsl b sz 0 es.length) (⟨b, .row sz es 0⟩ :: σ)
  | .load t x => loadG P W t (ev env x) σ fun v => k v σ
  | .store t x v => storeV P t (ev env x) (ev env v) σ fun σ' => k .dead σ'
  | .nilCheck x => match ev env x with
    | .bref b f => k (.bref b f) σ
    | .tpt e n b => k (.tpt e n b) σ
    | .ref b sz i f => k (.ref b sz i f) σ
    | .ip e f => k (.ip e f) σ
    | .fn f cs => k (.fn f cs) σ
    | _ => False
  | .binOp op t x y _ =>
    match isPlain (ev env x) && isPlain (ev env y) with
    | true => binV P t op (ev env x) (ev env y) fun v => k v σ
    | false => ∃ r, EqLaw P op t x y (ev env x) (ev env y) r ∧ k (.bool r) σ
  | .unOp op _ x => unV op (ev env x) fun v => k v σ
  | .convert s d x => convM P s d (ev env x) fun v => k v σ
  | .makeInterface t x => match P.underlying t with
    | some (.interface _) => False
    | some _ => k (.ifc t (ev env x)) σ
    | none => False
  | .makeFunc (.func f) first cap => match first.toList with
    | [] => k (.fn f (cap.toList.map (ev env))) σ
    | _ => False
  | .makeSlice t l c => makeV P t (ev env l) (ev env c) σ k
  | .slice t x lo hi mx => sliceV P t (ev env x) (evO env lo) (evO env hi) (evO env mx) fun v => k v σ
  | .fieldAddr s x f => fieldAddrV P s (ev env x) f fun v => k v σ
  | .field t x f => fieldV P t (ev env x) f fun v => k v σ
  | .indexAddr t x i => indexAddrV P t (ev env x) (ev env i) fun v => k v σ
  | .index t x i => indexV P t (ev env x) (ev env i) fun v => k v σ
  | .range t x => match P.underlying t, ev env x with
    | some .string, .str s => New1 σ fun b => k (.bref b 0) (⟨b, .iter s 0⟩ :: σ)
    | some (.map _ _), .mp b => RangeAt σ b k
    | _, _ => False
  | .next x str => nextV (ev env x) str σ k
  | .entry x => match ev env x with
    | .bref b 0 => EntryAt σ b k
    | _ => False
  | .extract x i => match ev env x with
    | .tup vs => chk (Nat.blt i vs.length) (k (vs.getD i .dead) σ)
    | _ => False
  | .call c => match c.callee with
    | .value f => match ev env f with
      | .fn g cap => callV P W g (c.args.toList.map (ev env) ++ cap) σ k
      | _ => False
    | .builtin b => builtinV P b c.argTypes (c.args.toList.map (ev env)) σ k
    | _ => False
  | .lookup t x i ok => ∃ r, LookLaw P t (ev env x) (ev env i) ok σ r ∧ k r σ
  | .makeMap t r => match r with
    | none => New1 σ fun b => k (.mp b) (⟨b, .mpc []⟩ :: σ)
    | some x => match ev env x with
      | .int _ _ => chk (isMapB P t) (New1 σ fun b => k (.mp b) (⟨b, .mpc []⟩ :: σ))
      | _ => False
  | .insert t m i v => insV P t (ev env m) (ev env i) (ev env v) σ fun σ' => k .dead σ'
  | .mapUpdate t m i v => insV P t (ev env m) (ev env i) (ev env v) σ fun σ' => k .dead σ'
  | .typeAssert x s t ok => OpLaw P W (.typeAssert x s t ok) env σ k
  | _ => False

def guardV (ops : Array Oper) (env : Env) (j : Nat) : Option Bool :=
  match ops[j]? with
  | some o => match o.dst with
    | some d => match env d with
      | .bool b => some b
      | _ => none
    | none => none
  | none => none

def guardW (ops : Array Oper) (env : Env) (j : Nat) (want : Bool) : Option Bool :=
  match ops[j]? with
  | some o => match o.dst with
    | some d => match env d with
      | .bool b => some b
      | .opt c v => match v with
        | .bool b => match want with
          | true => some (c && b)
          | false => some (!c || b)
        | _ => none
      | _ => none
    | none => none
  | none => none
def optOk (G : Prop) (env : Env) : List Operand → Prop
  | [] => True
  | .tmp t :: r => match env t with
    | .opt c _ => need (G → c = true) (optOk G env r)
    | _ => optOk G env r
  | _ :: r => optOk G env r
structure needO (c : Prop) (k : Prop) : Prop where
  mk ::
  cond : c
  rest : k
def unO : PV → PV
  | .opt _ v => v
  | v => v
def envU (env : Env) : Env := fun t => unO (env t)
def opndsG (o : Op) : List Operand :=
  match o with
  | .pick c _ _ => [c]
  | o => o.operands.toList
def envG (o : Op) (env : Env) : Env :=
  match o with
  | .pick c _ _ => match c with
    | .tmp t => upd env t (unO (env t))
    | _ => env
  | _ => envU env
def beqB (x want : Bool) : Bool :=
  match want with
  | true => x
  | false => !x
theorem beqB_spec {x want : Bool} (h : beqB x want = true) : x = want := by cases want <;> cases x <;> simp_all [beqB]
inductive GuardC (A B : Prop) : Prop
  | part (h : A)
  | spec (h : B)
def guardU (ops : Array Oper) (env : Env) (j : Nat) : Bool :=
  match ops[j]? with
  | some o => match o.dst with
    | some d => match env d with
      | .tup [] => true
      | _ => false
    | none => false
  | none => false

def vcOps (P : Program) (W : World) (ops : Array Oper) (Q : Env → Mem → Prop) : List Oper → Env → Mem → Prop
  | [], env, σ => Q env σ
  | o :: r, env, σ =>
    match o.guard with
    | none => opV P W o.op env σ fun v σ' => vcOps P W ops Q r (updO env o.dst v) σ'
    | some (j, want) =>
      match guardW ops env j want with
      | some x => match want with
        | true => GuardC (@Bool.rec (fun _ => Prop) (vcOps P W ops Q r (updO env o.dst (.tup [])) σ) (needO (optOk True env (opndsG o.op)) (opV P W o.op (envG o.op env) σ fun v σ' => vcOps P W ops Q r (updO env o.dst v) σ')) x)
          (∃ pv, optOk (x = want) env (opndsG o.op) ∧ (x = want → opV P W o.op (envG o.op env) σ fun v σ' => v = pv ∧ σ' = σ) ∧ vcOps P W ops Q r (updO env o.dst (.opt (beqB x want) pv)) σ)
        | false => GuardC (@Bool.rec (fun _ => Prop) (needO (optOk True env (opndsG o.op)) (opV P W o.op (envG o.op env) σ fun v σ' => vcOps P W ops Q r (updO env o.dst v) σ')) (vcOps P W ops Q r (updO env o.dst (.tup [])) σ) x)
          (∃ pv, optOk (x = want) env (opndsG o.op) ∧ (x = want → opV P W o.op (envG o.op env) σ fun v σ' => v = pv ∧ σ' = σ) ∧ vcOps P W ops Q r (updO env o.dst (.opt (beqB x want) pv)) σ)
      | none => chk (guardU ops env j) (vcOps P W ops Q r (updO env o.dst (.tup [])) σ)

/-! ### The same, with values that are reckoned before they are put away -/
def forceL : List PV → (List PV → Prop) → Prop
  | [], k => k []
  | x :: l, k => forceL l fun l' => k (x :: l')
theorem forceL_eq : ∀ (l : List PV) (k : List PV → Prop), forceL l k = k l
  | [], _ => rfl
  | x :: l, k => by rw [forceL, forceL_eq l]
def forceV (v : PV) (k : PV → Prop) : Prop :=
  match v with
  | .bool b => k (.bool b)
  | .int kk n => k (.int kk n)
  | .str s => k (.str s)
  | .lit v => k (.lit v)
  | .sl sz es => k (.sl sz es)
  | .nils => k .nils
  | .ip e f => litN f fun f => k (.ip e f)
  | .bref b f => litN f fun f => k (.bref b f)
  | .ref b sz i f => litN f fun f => k (.ref b sz i f)
  | .rsl b sz i n => k (.rsl b sz i n)
  | .bsl e b n => k (.bsl e b n)
  | .bpt e b => k (.bpt e b)
  | .tpt e n b => litN n fun n => k (.tpt e n b)
  | .agg cs => forceL cs fun cs => k (.agg cs)
  | .tup vs => forceL vs fun vs => k (.tup vs)
  | .fn f cap => k (.fn f cap)
  | .ifc t v => k (.ifc t v)
  | .mp b => k (.mp b)
  | .opt c v => k (.opt c v)
  | .dead => k .dead
theorem forceV_eq (v : PV) (k : PV → Prop) : forceV v k = k v := by cases v <;> first | rfl | exact forceL_eq _ _ | (simp only [forceV, litN_eq])
def partsF (env : Env) : List (Nat × Operand) → (List (Nat × PV) → Prop) → Prop
  | [], k => k []
  | p :: r, k => forceV (ev env p.2) fun v => partsF env r fun vs => k ((p.1, v) :: vs)
theorem partsF_eq (env : Env) : ∀ (l : List (Nat × Operand)) (k : List (Nat × PV) → Prop), partsF env l k = k (l.map fun p => (p.1, ev env p.2))
  | [], _ => rfl
  | p :: r, k => by rw [partsF, forceV_eq, partsF_eq env r]; rfl
def argsF (env : Env) : List Operand → (List PV → Prop) → Prop
  | [], k => k []
  | x :: r, k => forceV (ev env x) fun v => argsF env r fun vs => k (v :: vs)
theorem argsF_eq (env : Env) : ∀ (l : List Operand) (k : List PV → Prop), argsF env l k = k (l.map (ev env))
  | [], _ => rfl
  | x :: r, k => by rw [argsF, forceV_eq, argsF_eq env r]; rfl
def putF (env : Env) (dst : Option Nat) (v : PV) (k : Env → Prop) : Prop :=
  match dst with
  | some t => k (upd env t v)
  | none => k env
theorem putF_eq (env : Env) (dst : Option Nat) (v : PV) (k : Env → Prop) : putF env dst v k = k (updO env dst v) := by cases dst <;> rfl
def setPartF (e : PV) (f : Nat) (v : PV) (k : PV → Prop) : Prop :=
  match e with
  | .agg cs => forceL (splice cs f v.flat) fun cs => k (.agg cs)
  | _ => k v
theorem setPartF_eq (e : PV) (f : Nat) (v : PV) (k : PV → Prop) : setPartF e f v k = k (setPart e f v) := by cases e <;> first | rfl | exact forceL_eq _ _
def storeF (P : Program) (t : TypeId) (x v : PV) (σ : Mem) (k : Mem → Prop) : Prop :=
  match x with
  | .bref b f => rowAt σ b fun sz es fz r =>
      match es with
      | [e] => chk (Nat.ble (f + v.flat.length) sz && Nat.beq v.flat.length (P.cellsOf t) && Nat.beq fz 0 && cellsB v && Nat.blt 0 (P.cellsOf t))
        (setPartF e f v fun e' => k (⟨b, .row sz [e'] fz⟩ :: r))
      | _ => False
  | .ref b sz i f => rowAt σ b fun sz' es fz r =>
      chk (Nat.beq sz' sz && Nat.ble (f + v.flat.length) sz && Nat.beq v.flat.length (P.cellsOf t) && cellsB v && Nat.blt 0 (P.cellsOf t))
        (need (i < es.length ∧ fz ≤ i) (Elem1 es i fun e => setPartF e f v fun e' => k (⟨b, .row sz (es.set i e') fz⟩ :: r)))
  | _ => False
theorem storeF_eq (P : Program) (t : TypeId) (x v : PV) (σ : Mem) (k : Mem → Prop) : storeF P t x v σ k = storeV P t x v σ k := by
  cases x <;> first
    | rfl
    | (simp only [storeF, storeV, setPartF_eq]; done)
    | (simp only [storeF, storeV]; congr; funext sz es fz r; rcases es with _ | ⟨e, _ | ⟨e2, r2⟩⟩ <;> first | rfl | simp only [setPartF_eq])
def opF (P : Program) (W : World) (o : Op) (env : Env) (σ : Mem) (k : PV → Mem → Prop) : Prop :=
  match o with
  | .build t ps => partsF env ps.toList fun parts => buildV P t parts fun v => k v σ
  | .buildSlice t n ps => partsF env ps.toList fun parts => buildSliceV P t n parts fun sz es => forceL es fun es => k (.sl sz es) σ ∨ New1 σ fun b => k (.rsl b sz 0 es.length) (⟨b, .row sz es 0⟩ :: σ)
  | .lookup t x i ok => forceV (ev env x) fun x => forceV (ev env i) fun i => ∃ r, LookLaw P t x i ok σ r ∧ k r σ
  | .insert t m i v => forceV (ev env m) fun m => forceV (ev env i) fun i => forceV (ev env v) fun v => insV P t m i v σ fun σ' => k .dead σ'
  | .store t x v => forceV (ev env v) fun v => storeF P t (ev env x) v σ fun σ' => k .dead σ'
  | .alloc e => forceV (zeroV P e) fun v => allocV P e v σ k
  | .box e x => forceV (ev env x) fun v => newV v (P.cellsOf e) σ k
  | .makeFunc fn first cap => match fn with
    | .func f => match first.toList with
      | [] => argsF env cap.toList fun cs => k (.fn f cs) σ
      | _ => False
    | _ => False
  | .call c => match c.callee with
    | .value f => match ev env f with
      | .fn g cap => argsF env c.args.toList fun as => forceL (as ++ cap) fun as => callV P W g as σ k
      | _ => False
    | .builtin b => argsF env c.args.toList fun as => builtinV P b c.argTypes as σ k
    | _ => False
  | o => opV P W o env σ k
theorem opF_eq (P : Program) (W : World) (o : Op) (env : Env) (σ : Mem) (k : PV → Mem → Prop) : opF P W o env σ k = opV P W o env σ k := by
  cases o <;> first
    | rfl
    | (simp only [opF, opV, partsF_eq, forceV_eq, forceL_eq, storeF_eq, argsF_eq]; done)
    | (rename_i fn first cap; cases fn <;> first | rfl | (simp only [opF, opV, argsF_eq]; done))
    | (rename_i c; simp only [opF, opV, argsF_eq, forceL_eq])
def optF (x want : Bool) (pv : PV) (k : PV → Prop) : Prop :=
  match want with
  | true => k (.opt x pv)
  | false => k (.opt (!x) pv)
theorem optF_eq (x want : Bool) (pv : PV) (k : PV → Prop) : optF x want pv k = k (.opt (beqB x want) pv) := by cases want <;> rfl
theorem not_of_false {x : Bool} (h : x = false) : (!x) = true := by subst h; rfl
def vcStepF (P : Program) (W : World) (ops : Array Oper) (o : Oper) (rest : Env → Mem → Prop) (env : Env) (σ : Mem) : Prop :=
  match o.guard with
  | none => opF P W o.op env σ fun v σ' => forceV v fun v => putF env o.dst v fun env' => rest env' σ'
  | some (j, want) =>
    match guardW ops env j want with
    | some x => match want with
      | true => GuardC (@Bool.rec (fun _ => Prop) (putF env o.dst (.tup []) fun env' => rest env' σ) (needO (optOk True env (opndsG o.op)) (opF P W o.op (envG o.op env) σ fun v σ' => forceV v fun v => putF env o.dst v fun env' => rest env' σ')) x)
        (∃ pv, optOk (x = want) env (opndsG o.op) ∧ (x = want → opF P W o.op (envG o.op env) σ fun v σ' => forceV v fun v => v = pv ∧ σ' = σ) ∧ optF x want pv fun v => putF env o.dst v fun env' => rest env' σ)
      | false => GuardC (@Bool.rec (fun _ => Prop) (needO (optOk True env (opndsG o.op)) (opF P W o.op (envG o.op env) σ fun v σ' => forceV v fun v => putF env o.dst v fun env' => rest env' σ')) (putF env o.dst (.tup []) fun env' => rest env' σ) x)
        (∃ pv, optOk (x = want) env (opndsG o.op) ∧ (x = want → opF P W o.op (envG o.op env) σ fun v σ' => forceV v fun v => v = pv ∧ σ' = σ) ∧ optF x want pv fun v => putF env o.dst v fun env' => rest env' σ)
    | none => chk (guardU ops env j) (putF env o.dst (.tup []) fun env' => rest env' σ)
def vcOpsF (P : Program) (W : World) (ops : Array Oper) (Q : Env → Mem → Prop) (l : List Oper) : Env → Mem → Prop :=
  @List.rec Oper (fun _ => Env → Mem → Prop) Q (fun o _ ih => vcStepF P W ops o ih) l
theorem vcOpsF_eq (P : Program) (W : World) (ops : Array Oper) (Q : Env → Mem → Prop) : ∀ (l : List Oper) (env : Env) (σ : Mem), vcOpsF P W ops Q l env σ = vcOps P W ops Q l env σ
  | [], _, _ => rfl
  | o :: r, env, σ => by
    have ih := vcOpsF_eq P W ops Q r
    show vcStepF P W ops o (vcOpsF P W ops Q r) env σ = _
    simp only [vcStepF, vcOps, forceV_eq, putF_eq, opF_eq, optF_eq, ih]

def mkEnv : List (Nat × PV) → Env
  | [], _ => .dead
  | (t, v) :: r, x => bif Nat.beq x t then v else mkEnv r x
def wkEnv (env : Env) : List (Nat × PV) → Prop
  | [] => True
  | (t, v) :: r => env t = v ∧ wkEnv env r

def wkMem (σ τ : Mem) : Prop := ∃ ρ, σ.Perm (τ ++ ρ)

def loopN (body : (Exit → Env → Mem → Prop) → Env → Mem → Prop) (Q : Exit → Env → Mem → Prop) : Nat → Env → Mem → Prop
  | 0, _, _ => False
  | n + 1, env, σ => body (fun e env' σ' => match e with
      | .normal => loopN body Q n env' σ'
      | e => Q e env' σ') env σ
inductive Loops (A B : Prop) : Prop
  | run (h : A)
  | inv (h : B)
def loopV (body : (Exit → Env → Mem → Prop) → Env → Mem → Prop) (Q : Exit → Env → Mem → Prop) (env : Env) (σ : Mem) : Prop := Loops (∃ n, loopN body Q n env σ) <|
  ∃ (α : Type) (L : α → List (Nat × PV)) (M : α → Mem) (R : α → Prop) (μ : α → Nat),
    (∃ x, R x ∧ wkEnv env (L x) ∧ wkMem σ (M x)) ∧
    ∀ x, R x → body (fun e env' σ' => match e with
      | .normal => ∃ y, R y ∧ μ y < μ x ∧ wkEnv env' (L y) ∧ wkMem σ' (M y)
      | e => Q e env' σ') (mkEnv (L x)) (M x)

inductive CondC (A B : Prop) : Prop
  | part (h : A)
  | join (h : B)
abbrev VC := (Exit → Env → Mem → Prop) → Env → Mem → Prop
def vcSeq (a b : VC) : VC := fun Q env σ => a (fun e env σ => match e with | .normal => b Q env σ | e => Q e env σ) env σ
def vcCond (c : Operand) (a b : VC) : VC := fun Q env σ =>
  match ev env c with
  | .bool x => CondC (@Bool.rec (fun _ => Prop) (b Q env σ) (a Q env σ) x)
      (∃ (α : Type) (L : α → List (Nat × PV)) (M : α → Mem) (R : α → Prop),
        @Bool.rec (fun _ => Prop) (b (fun e env' σ' => match e with | .normal => ∃ y, R y ∧ wkEnv env' (L y) ∧ wkMem σ' (M y) | e => Q e env' σ') env σ)
          (a (fun e env' σ' => match e with | .normal => ∃ y, R y ∧ wkEnv env' (L y) ∧ wkMem σ' (M y) | e => Q e env' σ') env σ) x ∧
        ∀ y, R y → Q .normal (mkEnv (L y)) (M y))
  | _ => False
def vcBlock (id : Nat) (a : VC) : VC := fun Q env σ => a (fun e env σ => match e with
  | .exit j => bif Nat.beq j id then Q .normal env σ else Q (.exit j) env σ
  | e => Q e env σ) env σ
def vcRegion (P : Program) (W : World) (D : Array Oper → (Env → Mem → Prop) → Env → Mem → Prop) (ops : Array Oper) (draw : Bool) : VC := fun Q env σ =>
  match draw with
  | false => vcOpsF P W ops (Q .normal) ops.toList env σ
  | true => D ops (Q .normal) env σ
def vc (P : Program) (W : World) (D : Array Oper → (Env → Mem → Prop) → Env → Mem → Prop) (c : Code) : VC :=
  @Code.rec (fun _ => VC)
    (fun Q env σ => Q .normal env σ)
    (fun _ ops draw => vcRegion P W D ops draw)
    (fun _ _ a b => vcSeq a b)
    (fun c _ _ a b => vcCond c a b)
    (fun id _ a => vcBlock id a)
    (fun _ a Q env σ => loopV a Q env σ)
    (fun _ _ _ _ _ _ _ _ _ => False)
    (fun id Q env σ => Q (.exit id) env σ)
    (fun _ _ _ _ _ => False)
    (fun _ Q env σ => Q .normal env σ)
    (fun _ _ _ _ => False)
    (fun Q env σ => Q .ret env σ)
    (fun _ _ _ _ => False) c
end Go.Eng
end

/- The engine, part 3: the conditions of part 2 are enough: operations that touch no memory. -/
section
namespace Go.Eng
open Go

variable {P : Program} {K : Kn} {w : World}

theorem ofV1_rel (v : Value) : VRel K w (ofV1 v) v := by
  unfold ofV1
  split
  · exact .bool _
  · exact .int _ _
  · exact .str _
  · exact .nils
  · exact .lit _
theorem ofV_rel (v : Value) : VRel K w (ofV v) v := by
  unfold ofV
  split
  · rename_i cs
    have := VRel.agg (K := K) (w := w) (cs.toList.map ofV1) cs.toList (by simp) (fun i hi => by
      simp at hi
      have h1 : (cs.toList.map ofV1).getD i .dead = ofV1 (cs.toList.getD i undef) := by
        simp [List.getD_eq_getElem?_getD, hi]
      rw [h1]; exact ofV1_rel _)
    simpa using this
  · exact ofV1_rel _
theorem ev_rel {env : Env} {a : Act} (h : ∀ t, VRel K w (env t) (a.tmps.getD t undef)) (x : Operand) : VRel K w (ev env x) (a.eval x) := by
  cases x with
  | tmp t => exact h t
  | const v => exact ofV_rel v
  | global g => exact .lit _
  | func f => exact .fn f [] [] rfl (fun i hi => by simp at hi)


theorem guard_int (op : BinOp) (t : TypeId) (xo yo : Operand) (i j : IntKind) (a b : Int) : (eqGuard op t xo yo (.int i a) (.int j b)).run P w = .ok () w := by
  cases op <;> rfl
theorem guard_str (op : BinOp) (t : TypeId) (xo yo : Operand) (a b : ByteArray) : (eqGuard op t xo yo (.string a) (.string b)).run P w = .ok () w := by
  cases op <;> rfl
theorem guard_bool (op : BinOp) (t : TypeId) (xo yo : Operand) (a b : Bool) : (eqGuard op t xo yo (.bool a) (.bool b)).run P w = .ok () w := by
  cases op <;> rfl
theorem toList_mk (a : List UInt8) : (⟨a.toArray⟩ : ByteArray).toList = a := by rw [ByteArray.toList_eq]
theorem binV_sound {op : BinOp} {x y : PV} {u v : Value} {k : PV → Prop} {t : TypeId} (xo yo : Operand) (hx : VRel K w x u) (hy : VRel K w y v) (h : binV P t op x y k) :
    ∃ pv r, (do eqGuard op t xo yo u v; binOp op t u v : Sem Value).run P w = .ok r w ∧ VRel K w pv r ∧ k pv := by
  cases hx <;> cases hy <;> (try exact h.elim)
  case bool.bool a b =>
    simp only [binV] at h
    split at h
    case h_2 => exact h.elim
    rename_i hu
    split at h
    · refine ⟨_, .bool (decide (a = b)), ?_, .bool _, h⟩
      rw [Sem.run_bind, guard_bool, Result.andThen_ok, run_eql_bool _ _ _ _ hu]
      cases a <;> cases b <;> rfl
    · refine ⟨_, .bool (decide (a ≠ b)), ?_, .bool _, h⟩
      rw [Sem.run_bind, guard_bool, Result.andThen_ok]
      have : (binOp .neq t (.bool a) (.bool b)).run P w = .ok (.bool (!(a == b))) w := by simp [go_sem, hu]
      rw [this]; cases a <;> cases b <;> rfl
    · exact h.elim
  case int.int ik a jk b =>
    rw [Sem.run_bind, guard_int, Result.andThen_ok]
    cases op
    case shl => exact ⟨_, _, by show (if b < 0 then _ else _ : Sem Value).run P w = _; rw [if_neg (by have := h.1; omega)]; rfl, .int _ _, h.2⟩
    case shr => exact ⟨_, _, by show (if b < 0 then _ else _ : Sem Value).run P w = _; rw [if_neg (by have := h.1; omega)]; rfl, .int _ _, h.2⟩
    all_goals
      simp only [binV] at h
      split at h
      · exact h.elim
      rename_i hk
      obtain rfl := kEq_eq hk
      first
        | exact h.elim
        | exact ⟨_, _, by show (if ik ≠ ik then _ else _ : Sem Value).run P w = _; rw [if_neg (by simp)]; rfl, .int _ _, h⟩
        | exact ⟨_, _, by show (if ik ≠ ik then _ else _ : Sem Value).run P w = _; rw [if_neg (by simp)]; rfl, .int _ _, inV_spec h⟩
        | (refine ⟨_, _, ?_, .int _ _, inV_spec h.2⟩; show (if ik ≠ ik then _ else _ : Sem Value).run P w = _; rw [if_neg (by simp)]; show (if b = 0 then _ else _ : Sem Value).run P w = _; rw [if_neg h.1]; rfl)
        | (refine ⟨_, _, ?_, .int _ _, h.2⟩; show (if ik ≠ ik then _ else _ : Sem Value).run P w = _; rw [if_neg (by simp)]; show (if b = 0 then _ else _ : Sem Value).run P w = _; rw [if_neg h.1]; rfl)
        | (refine ⟨_, _, ?_, .bool _, h⟩; show (if ik ≠ ik then _ else _ : Sem Value).run P w = _; rw [if_neg (by simp)]; simp [Op.intCmp]; done)
        | (refine ⟨_, _, ?_, .bool _, h⟩; show (if ik ≠ ik then _ else _ : Sem Value).run P w = _; rw [if_neg (by simp)]; simp [Op.intCmp]; rw [Bool.eq_iff_iff]; simp; done)
  case str.str a b =>
    rw [Sem.run_bind, guard_str, Result.andThen_ok]
    have e1 : ∀ op, (binOp op t (.string ⟨a.toArray⟩) (.string ⟨b.toArray⟩)).run P w = (Op.stringOp op ⟨a.toArray⟩ ⟨b.toArray⟩).run P w := fun op => by cases op <;> rfl
    rw [e1]
    cases op <;> simp only [binV] at h <;> try exact h.elim
    case add =>
      refine ⟨_, _, run_string_add_sum w _ _ ?_, ?_, h.2⟩
      · have := h.1; show a.toArray.size + b.toArray.size ≤ _; simp; omega
      · have : (⟨a.toArray⟩ ++ ⟨b.toArray⟩ : ByteArray) = ⟨(a ++ b).toArray⟩ := by
          apply ByteArray.ext; simp
        rw [this]; exact .str _
    all_goals
      refine ⟨_, _, ?_, .bool _, h⟩
      simp only [Op.stringOp, toList_mk, Sem.run_pure]
      try (congr 2 <;> (rw [Bool.eq_iff_iff]; simp))

theorem unV_sound {op : UnOp} {x : PV} {u : Value} {k : PV → Prop} (hx : VRel K w x u) (h : unV op x k) :
    ∃ pv r, (Op.unary op u).run P w = .ok r w ∧ VRel K w pv r ∧ k pv := by
  cases op <;> cases hx <;> first | exact h.elim | skip
  · exact ⟨_, _, rfl, .int _ _, inV_spec h⟩
  · exact ⟨_, _, rfl, .bool _, h⟩

theorem tyOk_spec {t : TypeId} (h : tyOk P t = true) : ∃ d i, P.underlying t = some d ∧ P.info? t = some i ∧ P.cellsOf t = i.size ∧ 0 < i.size := by
  unfold tyOk at h
  simp only [Bool.and_eq_true] at h
  obtain ⟨h1, h2⟩ := h
  obtain ⟨d, hd⟩ := Option.isSome_iff_exists.1 h1
  cases hi : P.info? t with
  | none => simp [Program.underlying, hi] at hd
  | some i =>
    have hc : P.cellsOf t = i.size := by simp [Program.cellsOf, hi]
    refine ⟨d, i, hd, rfl, hc, ?_⟩
    rw [← hc]; simpa using h2
theorem run_sizeOf {t : TypeId} (h : 0 < P.cellsOf t) : (sizeOf t).run P w = .ok (P.cellsOf t) w := by
  cases hi : P.info? t with
  | none => simp [Program.cellsOf, hi] at h
  | some i => simp [sizeOf, typeInfo, hi, Program.cellsOf]
theorem run_isAgg {t : TypeId} {d : TypeDesc} (h : P.underlying t = some d) : (isAgg t).run P w = .ok (isAggB P t) w := by
  simp only [isAgg, isAggB, Sem.run_bind, run_underlying h, Result.andThen_ok, h]
  cases d <;> rfl

theorem addr_add (b o n : Nat) : (⟨b, o, none⟩ : Addr).add n = ⟨b, o + n, none⟩ := by unfold Addr.add; split <;> simp_all

theorem load_at {t : TypeId} {b o f : Nat} {e : List PV} (ht : tyOk P t = true) (hl : f + P.cellsOf t ≤ e.length)
    (hc : ∀ j, j < P.cellsOf t → ∃ u, w.cell? ⟨b, o + j, none⟩ = some u ∧ VRel K w (e.getD (f + j) .dead) u) :
    ∃ r, (loadVar t ⟨b, o, none⟩).run P w = .ok r w ∧ VRel K w (partV (isAggB P t) (P.cellsOf t) e f) r := by
  obtain ⟨d, i, hd, hi, hsz, hpos⟩ := tyOk_spec ht
  unfold loadVar
  rw [Sem.run_bind, run_isAgg hd, Result.andThen_ok]
  cases hag : isAggB P t with
  | false =>
    obtain ⟨u, hu, hv⟩ := hc 0 (by omega)
    refine ⟨u, ?_, by simpa [partV] using hv⟩
    simp only [Bool.false_eq_true, if_false, run_load]
    rw [Nat.add_zero] at hu
    rw [hu]
  | true =>
    have hg : ∃ g : Nat → Value, ∀ j, j < P.cellsOf t → w.cell? ⟨b, o + j, none⟩ = some (g j) ∧ VRel K w (e.getD (f + j) .dead) (g j) :=
      ⟨fun j => if hj : j < P.cellsOf t then (hc j hj).choose else undef, fun j hj => by simp only [hj, dif_pos]; exact (hc j hj).choose_spec⟩
    obtain ⟨g, hg⟩ := hg
    have hr := run_loadCells (P := P) w ⟨b, o, none⟩ (P.cellsOf t) g (fun j hj => by rw [addr_add]; exact (hg j hj).1)
    refine ⟨.agg ((List.range (P.cellsOf t)).map g).toArray, ?_, ?_⟩
    · simp only [if_true, Sem.run_bind, run_sizeOf (w := w) (show 0 < P.cellsOf t by omega), Result.andThen_ok, hr, Sem.run_pure]
    · refine .agg _ _ (by simp; omega) (fun j hj => ?_)
      have hj' : j < P.cellsOf t := by simp at hj; omega
      have h1 : ((e.drop f).take (P.cellsOf t)).getD j .dead = e.getD (f + j) .dead := by
        simp [List.getD_eq_getElem?_getD, hj']
      have h2 : ((List.range (P.cellsOf t)).map g).getD j undef = g j := by
        simp [List.getD_eq_getElem?_getD, hj']
      rw [h1, h2]; exact (hg j hj').2

theorem RowOk.cell {b sz : Nat} {es : List PV} {fz : Nat} (h : RowOk K w b sz es fz) {i j : Nat} (hi : i < es.length) (hj : j < sz) :
    ∃ u, w.cell? ⟨b, i * sz + j, none⟩ = some u ∧ VRel K w ((es.getD i .dead).flat.getD j .dead) u := by
  obtain ⟨cs, ty, h1, h2, h3⟩ := h.cells
  have hlt : i * sz + j < cs.size := by
    have : (i + 1) * sz ≤ es.length * sz := Nat.mul_le_mul_right _ hi
    rw [Nat.add_mul] at this; omega
  refine ⟨cs[i * sz + j], by simp [World.cell?, h1, hlt], ?_⟩
  have := h3 i j hi hj
  simpa [Array.getD, hlt] using this
theorem RowOk.flat {b sz : Nat} {es : List PV} {fz : Nat} (h : RowOk K w b sz es fz) {i : Nat} (hi : i < es.length) : (es.getD i .dead).flat.length = sz := by
  have : es.getD i .dead = es[i] := by simp [List.getD_eq_getElem?_getD, hi]
  rw [this]; exact h.hz _ (List.getElem_mem hi)

theorem Look.mem {σ r : Mem} {b : Nat} {c : Cont} (h : Look σ b c r) : ⟨b, c⟩ ∈ σ := by
  induction h with
  | here => exact List.mem_cons_self
  | there k σ b c r _ ih => exact List.mem_cons_of_mem _ ih
theorem Look.perm {σ r : Mem} {b : Nat} {c : Cont} (h : Look σ b c r) : σ.Perm (⟨b, c⟩ :: r) := by
  induction h with
  | here => exact .refl _
  | there k σ b c r _ ih => exact (ih.cons k).trans (.swap _ _ _)

theorem getD_some {es : List PV} {i : Nat} (h : i < es.length) : es[i]? = some (es.getD i .dead) := by
  simp [List.getD_eq_getElem?_getD, h]
theorem loadV_sound {t : TypeId} {x : PV} {u : Value} {σ : Mem} {k : PV → Prop} (hm : SatM K σ w) (hx : VRel K w x u) (h : loadV P t x σ k) :
    ∃ pv r, (Instr.loadAt t u).run P w = .ok r w ∧ VRel K w pv r ∧ k pv := by
  cases hx <;> (try exact h.elim)
  case bref b f =>
    obtain ⟨sz', es, fz, r, hlk, h⟩ := h
    have hro : RowOk K w b sz' es fz := hm.blk _ hlk.mem
    split at h
    case h_2 => exact h.elim
    rename_i e
    obtain ⟨hc, hk⟩ := chk_spec h
    simp only [Bool.and_eq_true, Nat.ble_eq] at hc
    have hfl := hro.hz e (by simp)
    obtain ⟨v, h1, h2⟩ := load_at (P := P) (K := K) (w := w) (t := t) (b := b) (o := f) (f := f) (e := e.flat) hc.2 hc.1
      (fun j hj => by
        have := hro.cell (i := 0) (j := f + j) (by simp) (by omega)
        simpa using this)
    exact ⟨_, _, by simp only [Instr.loadAt, Instr.sureAddr, Sem.run_bind, Sem.run_pure, Result.andThen_ok, h1], h2, hk⟩
  case ref b sz i f =>
    obtain ⟨sz', es, fz, r, hlk, h⟩ := h
    obtain ⟨hc, hi, hk⟩ := chk_spec h
    simp only [Bool.and_eq_true, Nat.ble_eq, Nat.beq_eq] at hc
    obtain ⟨⟨rfl, hf⟩, ht⟩ := hc
    have hro : RowOk K w b sz' es fz := hm.blk _ hlk.mem
    obtain ⟨v, h1, h2⟩ := load_at (P := P) (K := K) (w := w) (t := t) (b := b) (o := i * sz' + f) (f := f) (e := (es.getD i .dead).flat) ht (by rw [hro.flat hi]; exact hf)
      (fun j hj => by rw [Nat.add_assoc]; exact hro.cell hi (by omega))
    exact ⟨_, _, by simp only [Instr.loadAt, Instr.sureAddr, Sem.run_bind, Sem.run_pure, Result.andThen_ok, h1], h2, hk.all _ (getD_some hi)⟩
  case ip e f b o vs hk hv =>
    obtain ⟨hc, hkk⟩ := chk_spec h
    simp only [Bool.and_eq_true, Nat.ble_eq] at hc
    obtain ⟨hf, ht⟩ := hc
    obtain ⟨v, h1, h2⟩ := load_at (P := P) (K := K) (w := w) (t := t) (b := b) (o := o + f) (f := f) (e := e.flat) ht hf
      (fun j hj => ⟨vs (f + j), by rw [Nat.add_assoc]; exact (hk (f + j) (by omega)).2, hv (f + j) (by omega)⟩)
    exact ⟨_, _, by simp only [Instr.loadAt, Instr.sureAddr, Sem.run_bind, Sem.run_pure, Result.andThen_ok, h1], h2, hkk⟩

theorem loadG_sound {W : World} {t : TypeId} {x : PV} {u : Value} {σ : Mem} {k : PV → Prop} (hm : SatM K σ w) (hb : ∀ b, b < W.heap.size → w.heap[b]? = W.heap[b]?) (hx : VRel K w x u) (h : loadG P W t x σ k) :
    ∃ pv r, (Instr.loadAt t u).run P w = .ok r w ∧ VRel K w pv r ∧ k pv := by
  unfold loadG at h
  split at h
  · obtain ⟨pv, h1, h2⟩ := h
    cases hx
    obtain ⟨r, h3, h4⟩ := h1.run K w hb
    exact ⟨pv, r, h3, h4, h2⟩
  · exact loadV_sound hm hx h
theorem fieldAddrV_sound {s : TypeId} {x : PV} {u : Value} {fld : Nat} {k : PV → Prop} (hx : VRel K w x u) (h : fieldAddrV P s x fld k) :
    ∃ pv r, (Instr.fieldAt s u fld).run P w = .ok r w ∧ VRel K w pv r ∧ k pv := by
  unfold fieldAddrV at h
  split at h
  case h_2 => exact h.elim
  rename_i f hf
  obtain ⟨fs, hs, hf⟩ : ∃ fs, P.underlying s = some (.struct fs) ∧ fs[fld]? = some f := by
    unfold fieldsOf at hf
    split at hf
    · exact ⟨_, by assumption, hf⟩
    · simp at hf
  have hrun : ∀ a : Addr, 0 < P.cellsOf f.type → (Instr.fieldAt s (.pointer (some a)) fld).run P w = .ok (.pointer (some (a.add f.offset))) w := fun a hp => by
    have hne : P.cellsOf f.type ≠ 0 := by omega
    simp [Instr.fieldAt, run_underlying hs, hf, Instr.sureAddr, fieldPlace, run_sizeOf (w := w) hp, hne]
  cases hx <;> (try exact h.elim)
  case bref b o =>
    obtain ⟨h1, h2⟩ := chk_spec h
    refine ⟨_, _, hrun _ (by simpa using h1), ?_, h2⟩
    rw [addr_add]; exact .bref _ _
  case tpt e n b hs =>
    obtain ⟨h1, h2⟩ := chk_spec h
    refine ⟨_, _, hrun _ (by simpa using h1), ?_, h2⟩
    rw [addr_add, Nat.zero_add]; exact .bref _ _
  case ref b sz i o =>
    obtain ⟨h1, h2⟩ := chk_spec h
    refine ⟨_, _, hrun _ (by simpa using h1), ?_, h2⟩
    rw [addr_add, Nat.add_assoc]; exact .ref _ _ _ _
  case ip e o b o' vs hk hv =>
    obtain ⟨h1, h2⟩ := chk_spec h
    refine ⟨_, _, hrun _ (by simpa using h1), ?_, h2⟩
    rw [addr_add, Nat.add_assoc]; exact .ip _ _ _ _ vs hk hv

theorem part_sound {t : TypeId} {cs : List PV} {vs : List Value} {f : Nat} (ht : tyOk P t = true) (hl : cs.length = vs.length) (hf : f + P.cellsOf t ≤ cs.length)
    (h : ∀ i, i < cs.length → VRel K w (cs.getD i .dead) (vs.getD i undef)) :
    ∃ r, (part t vs.toArray f).run P w = .ok r w ∧ VRel K w (partV (isAggB P t) (P.cellsOf t) cs f) r := by
  obtain ⟨d, i, hd, hi, hsz, hpos⟩ := tyOk_spec ht
  unfold part
  rw [Sem.run_bind, run_isAgg hd, Result.andThen_ok]
  cases hag : isAggB P t with
  | false =>
    have hlt : f < vs.length := by omega
    refine ⟨vs.getD f undef, ?_, h f (by omega)⟩
    simp [hlt]
  | true =>
    refine ⟨.agg ((vs.drop f).take (P.cellsOf t)).toArray, ?_, .agg _ _ (by simp; omega) (fun j hj => ?_)⟩
    · simp only [if_true, Sem.run_bind, run_sizeOf (w := w) (show 0 < P.cellsOf t by omega), Result.andThen_ok, Sem.run_pure]
      congr 2
      simp
    · have hj' : j < P.cellsOf t := by simp at hj; omega
      have h1 : ((cs.drop f).take (P.cellsOf t)).getD j .dead = cs.getD (f + j) .dead := by simp [List.getD_eq_getElem?_getD, hj']
      have h2 : ((vs.drop f).take (P.cellsOf t)).getD j undef = vs.getD (f + j) undef := by simp [List.getD_eq_getElem?_getD, hj']
      rw [h1, h2]; exact h _ (by omega)

theorem fieldV_sound {s : TypeId} {x : PV} {u : Value} {fld : Nat} {k : PV → Prop} (hx : VRel K w x u) (h : fieldV P s x fld k) :
    ∃ pv r, (Instr.field s u fld).run P w = .ok r w ∧ VRel K w pv r ∧ k pv := by
  unfold fieldV at h
  split at h
  case h_2 => exact h.elim
  rename_i f hf
  obtain ⟨fs, hs, hf⟩ : ∃ fs, P.underlying s = some (.struct fs) ∧ fs[fld]? = some f := by
    unfold fieldsOf at hf
    split at hf
    · exact ⟨_, by assumption, hf⟩
    · simp at hf
  cases hx <;> (try exact h.elim)
  case agg cs vs hl hv =>
    obtain ⟨hc, hk⟩ := chk_spec h
    simp only [Bool.and_eq_true, Nat.ble_eq] at hc
    obtain ⟨r, h1, h2⟩ := part_sound (P := P) hc.2 hl hc.1 hv
    exact ⟨_, r, by simp [Instr.field, run_underlying hs, hf, asAgg, h1], h2, hk⟩

theorem indexAddrV_sound {t : TypeId} {x i : PV} {u v : Value} {k : PV → Prop} (hx : VRel K w x u) (hi : VRel K w i v) (h : indexAddrV P t x i k) :
    ∃ pv r, (Instr.indexAt t u v).run P w = .ok r w ∧ VRel K w pv r ∧ k pv := by
  cases hi <;> (try exact h.elim)
  case int ik n =>
  simp only [indexAddrV] at h
  split at h
  · rename_i e he
    cases hx <;> (try exact h.elim)
    case sl0 sz a cap => obtain ⟨_, ⟨h1, h2⟩, _⟩ := chk_spec h; simp at h2; omega
    case sl sz es b o cap hcap vs hz hk hv =>
      obtain ⟨hc, ⟨h1, h2⟩, hkk⟩ := chk_spec h
      simp only [Bool.and_eq_true, Nat.beq_eq, Nat.blt_eq] at hc
      obtain ⟨h3, h4⟩ := hc
      have hn : n.toNat < es.length := by omega
      refine ⟨_, .pointer (some ⟨b, o + n.toNat * sz, none⟩), ?_, ?_, (hkk.all n.toNat (by omega)).all _ (getD_some hn)⟩
      · have hs : (sizeOf e).run P w = .ok sz w := by rw [← h3]; exact run_sizeOf (by omega)
        simp [Instr.indexAt, run_underlying he, asIntOf, h1, h2, hs, addr_add]
      · have hfl : (es.getD n.toNat .dead).flat.length = sz := by
          have : es.getD n.toNat .dead = es[n.toNat] := by simp [List.getD_eq_getElem?_getD, hn]
          rw [this]; exact hz _ (List.getElem_mem hn)
        have := VRel.ip (K := K) (w := w) (es.getD n.toNat .dead) 0 b (o + n.toNat * sz) (vs n.toNat)
          (fun j hj => by rw [hfl] at hj; exact hk _ _ hn hj) (fun j hj => by rw [hfl] at hj; exact hv _ _ hn hj)
        simpa using this
    case rsl b sz j m o cap ho hc hs =>
      obtain ⟨hc', ⟨h1, h2⟩, hkk⟩ := chk_spec h
      simp only [Bool.and_eq_true, Nat.beq_eq, Nat.blt_eq] at hc'
      obtain ⟨h3, h4⟩ := hc'
      refine ⟨_, .pointer (some ⟨b, o + n.toNat * sz, none⟩), ?_, ?_, hkk.all n.toNat (by omega)⟩
      · have hs : (sizeOf e).run P w = .ok sz w := by rw [← h3]; exact run_sizeOf (by omega)
        simp [Instr.indexAt, run_underlying he, asIntOf, h1, h2, hs, addr_add]
      · have ho' := ho (.inl (by omega))
        rw [ho', ← Nat.add_mul]
        have := VRel.ref (K := K) (w := w) b sz (j + n.toNat) 0
        simpa using this
  · rename_i m e he
    cases hx <;> (try exact h.elim)
    case bref b f =>
      obtain ⟨h3, ⟨h1, h2⟩, hkk⟩ := chk_spec h
      simp only [Nat.blt_eq] at h3
      refine ⟨_, .pointer (some ⟨b, f + n.toNat * P.cellsOf e, none⟩), by simp [Instr.indexAt, run_underlying he, asIntOf, Instr.sureAddr, h1, h2, run_sizeOf (w := w) h3, addr_add], .bref _ _, hkk⟩
    case ref b sz j f =>
      obtain ⟨h3, ⟨h1, h2⟩, hkk⟩ := chk_spec h
      simp only [Nat.blt_eq] at h3
      refine ⟨_, _, by simp [Instr.indexAt, run_underlying he, asIntOf, Instr.sureAddr, h1, h2, run_sizeOf (w := w) h3, addr_add]; rfl, ?_, hkk⟩
      rw [Nat.add_assoc]; exact .ref _ _ _ _
    case ip e' f b o vs hk hv =>
      obtain ⟨h3, ⟨h1, h2⟩, hkk⟩ := chk_spec h
      simp only [Nat.blt_eq] at h3
      refine ⟨_, _, by simp [Instr.indexAt, run_underlying he, asIntOf, Instr.sureAddr, h1, h2, run_sizeOf (w := w) h3, addr_add]; rfl, ?_, hkk⟩
      rw [Nat.add_assoc]; exact .ip _ _ _ _ vs hk hv
    case lit =>
      cases u <;> simp only at h <;> (try exact h.elim)
      rename_i p
      cases p <;> simp only at h <;> (try exact h.elim)
      obtain ⟨h3, ⟨h1, h2⟩, hkk⟩ := chk_spec h
      simp only [Nat.blt_eq] at h3
      exact ⟨_, _, by simp [Instr.indexAt, run_underlying he, asIntOf, Instr.sureAddr, h1, h2, run_sizeOf (w := w) h3], .lit _, hkk⟩
  · exact h.elim

theorem indexV_sound {t : TypeId} {x i : PV} {u v : Value} {k : PV → Prop} (hx : VRel K w x u) (hi : VRel K w i v) (h : indexV P t x i k) :
    ∃ pv r, (Instr.index t u v).run P w = .ok r w ∧ VRel K w pv r ∧ k pv := by
  cases hi <;> (try exact h.elim)
  case int ik n =>
  simp only [indexV] at h
  cases hx <;> (try exact h.elim)
  case str s =>
    simp only at h
    split at h
    case h_2 => exact h.elim
    rename_i he
    obtain ⟨⟨h1, h2⟩, hk⟩ := h
    have hn : n.toNat < s.length := by omega
    refine ⟨_, .int .u8 (s.getD n.toNat 0).toNat, ?_, .int _ _, (hk.all n.toNat (by omega)).all _ (by simp [List.getD_eq_getElem?_getD, hn])⟩
    have hg : (⟨s.toArray⟩ : ByteArray)[n.toNat]? = some (s.getD n.toNat 0) := by
      have : n.toNat < (⟨s.toArray⟩ : ByteArray).size := by show n.toNat < s.toArray.size; simpa using hn
      rw [getElem?_pos (⟨s.toArray⟩ : ByteArray) n.toNat this]
      show some (s.toArray[n.toNat]'_) = _
      simp [List.getD_eq_getElem?_getD, hn]
    simp [Instr.index, run_underlying he, asIntOf, h1, hg]
  case agg cs vs hl hv =>
    simp only at h
    split at h
    case h_2 => exact h.elim
    rename_i m e he
    obtain ⟨hc, ⟨h1, h2⟩, hk⟩ := chk_spec h
    simp only [Bool.and_eq_true, Nat.ble_eq] at hc
    obtain ⟨h3, h4⟩ := hc
    have hlt : n.toNat < m := by omega
    have hbd : n.toNat * P.cellsOf e + P.cellsOf e ≤ cs.length := by
      have : (n.toNat + 1) * P.cellsOf e ≤ m * P.cellsOf e := Nat.mul_le_mul_right _ hlt
      rw [Nat.add_mul] at this; omega
    obtain ⟨r, h5, h6⟩ := part_sound (P := P) h4 hl hbd hv
    obtain ⟨_, _, _, _, hsz, hpos⟩ := tyOk_spec h4
    exact ⟨_, r, by simp [Instr.index, run_underlying he, asIntOf, h1, h2, run_sizeOf (w := w) (show 0 < P.cellsOf e by omega), h5], h6, hk⟩
end Go.Eng
end

/- The engine, part 4: soundness of slicing, conversions, literals, and of what writes memory. -/
section
namespace Go.Eng
open Go

variable {P : Program} {K : Kn} {w : World}

theorem getD_pair (l : List PV) (a b j : Nat) (hj : j < b - a) : ((l.take b).drop a).getD j .dead = l.getD (a + j) .dead := by
  simp [List.getD_eq_getElem?_getD, show a + j < b by omega]

def ORel (K : Kn) (w : World) (p : Option PV) (v : Option Value) : Prop :=
  match p, v with
  | none, none => True
  | some p, some v => VRel K w p v
  | _, _ => False

theorem boundsV_sound {lo hi mx : Option PV} {ul uh um : Option Value} {n cap : Nat} {isS : Bool} {G : Nat → Nat → Prop} (hn : n ≤ cap)
    (h1 : ORel K w lo ul) (h2 : ORel K w hi uh) (h3 : ORel K w mx um) (h : boundsV lo hi mx n G) :
    ∃ l h m, (Instr.sliceBounds isS n cap ul uh um).run P w = .ok (l, h, m) w ∧ l ≤ h ∧ h ≤ n ∧ h ≤ m ∧ m ≤ cap ∧ (mx = none → m = cap) ∧ G l h := by
  have e1 : ∃ l : Int, ((lo = none ∧ l = 0) ∨ ∃ k, lo = some (.int k l) ∧ ul = some (.int k l)) ∧ ∃ hh : Int, ((hi = none ∧ hh = n) ∨ ∃ k, hi = some (.int k hh) ∧ uh = some (.int k hh)) ∧
      boundsT hi mx n l hh G := by
    unfold boundsV at h
    split at h
    · rename_i kl l kh hh e1 e2
      refine ⟨l, ?_, hh, ?_, h⟩
      · cases lo with
        | none => injection e1 with e3 e4; exact .inl ⟨rfl, e4.symm⟩
        | some p =>
          simp only at e1; subst e1
          cases ul with
          | none => exact h1.elim
          | some v => cases h1; exact .inr ⟨_, rfl, rfl⟩
      · cases hi with
        | none => injection e2 with e3 e4; exact .inl ⟨rfl, e4.symm⟩
        | some p =>
          simp only at e2; subst e2
          cases uh with
          | none => exact h2.elim
          | some v => cases h2; exact .inr ⟨_, rfl, rfl⟩
    · exact h.elim
  obtain ⟨l, hl, hh, hhh, hg⟩ := e1
  have n1 : lo = none → ul = none := by rintro rfl; cases ul with | none => rfl | some v => exact h1.elim
  have n2 : hi = none → uh = none := by rintro rfl; cases uh with | none => rfl | some v => exact h2.elim
  cases mx with
  | none =>
    cases um with
    | some v => exact h3.elim
    | none =>
    obtain ⟨⟨g1, g2, g3⟩, g4⟩ := hg
    refine ⟨l.toNat, hh.toNat, cap, ?_, by omega, by omega, by omega, Nat.le_refl _, fun _ => rfl, (g4.all _ (by omega : l = (l.toNat : Int))).all _ (by omega : hh = (hh.toNat : Int))⟩
    rcases hl with ⟨e, rfl⟩ | ⟨k1, _, e1⟩ <;> rcases hhh with ⟨e', rfl⟩ | ⟨k2, _, e2⟩
    · simp [Instr.sliceBounds, n1 e, n2 e']
    · simp [Instr.sliceBounds, n1 e, e2, run_sliceBound (P := P) w k2 hh cap _ (by omega) (by omega)]
    · simp [Instr.sliceBounds, e1, n2 e', run_sliceBound (P := P) w k1 l n _ g1 g2]
    · simp [Instr.sliceBounds, e1, e2, run_sliceBound (P := P) w k2 hh cap _ (by omega) (by omega), run_sliceBound (P := P) w k1 l hh.toNat _ g1 (by omega)]
  | some pm =>
    cases um with
    | none => exact h3.elim
    | some vm =>
    cases pm <;> (try exact hg.elim)
    rename_i km m
    rcases hhh with ⟨e, rfl⟩ | ⟨k, e, e'⟩
    · subst e; exact hg.elim
    · subst e
      obtain ⟨⟨g1, g2, g3, g3'⟩, g4⟩ := hg
      cases h3
      refine ⟨l.toNat, hh.toNat, m.toNat, ?_, by omega, by omega, by omega, by omega, (fun e => nomatch e), (g4.all _ (by omega : l = (l.toNat : Int))).all _ (by omega : hh = (hh.toNat : Int))⟩
      rcases hl with ⟨e, rfl⟩ | ⟨k1, _, e1⟩
      · simp [Instr.sliceBounds, e', n1 e, run_sliceBound (P := P) w km m cap _ (by omega) (by omega), run_sliceBound (P := P) w k hh m.toNat _ (by omega) (by omega)]
      · simp [Instr.sliceBounds, e', e1, run_sliceBound (P := P) w km m cap _ (by omega) (by omega), run_sliceBound (P := P) w k hh m.toNat _ (by omega) (by omega), run_sliceBound (P := P) w k1 l hh.toNat _ g1 (by omega)]

theorem sliceV_sound {t : TypeId} {x : PV} {u : Value} {lo hi mx : Option PV} {ul uh um : Option Value} {k : PV → Prop} (hx : VRel K w x u)
    (h1 : ORel K w lo ul) (h2 : ORel K w hi uh) (h3 : ORel K w mx um)
    (h : sliceV P t x lo hi mx k) : ∃ pv r, (Instr.sliceAt t u ul uh um).run P w = .ok r w ∧ VRel K w pv r ∧ k pv := by
  simp only [sliceV] at h
  split at h
  · rename_i he
    split at h
    case h_2 => exact h.elim
    cases hx
    rename_i s
    obtain ⟨l, hh, m, hr, g1, g2, g3, g4, _, g5⟩ := boundsV_sound (P := P) (isS := false) (Nat.le_refl s.length) h1 h2 h3 h
    refine ⟨_, .string ⟨((s.take hh).drop l).toArray⟩, ?_, .str _, g5.all _ rfl⟩
    have hsz : (⟨s.toArray⟩ : ByteArray).size = s.length := by show s.toArray.size = _; simp
    have hum : um = none := by cases um with | none => rfl | some v => exact h3.elim
    subst hum
    have hex : (⟨s.toArray⟩ : ByteArray).extract l hh = ⟨((s.take hh).drop l).toArray⟩ := by
      apply ByteArray.ext
      simp [ByteArray.data_extract, List.extract_eq_take_drop, List.drop_take]
    simp [Instr.sliceAt, run_underlying he, Instr.slice, hsz, hr, hex]
  · rename_i e he
    have hrun : ∀ (a : Option Addr) (len cap l hh m sz : Nat), P.cellsOf e = sz → 0 < sz → (Instr.sliceBounds true len cap ul uh um).run P w = .ok (l, hh, m) w →
        (Instr.sliceAt t (.slice a len cap) ul uh um).run P w = .ok (.slice (if m = l then a else a.map (·.add (l * sz))) (hh - l) (m - l)) w := by
      intro a len cap l hh m sz e1 e2 hr
      have hs : (sizeOf e).run P w = .ok sz w := by rw [← e1]; exact run_sizeOf (by omega)
      simp [Instr.sliceAt, run_underlying he, Instr.slice, hr, hs]
    cases hx <;> (try exact h.elim)
    case sl0 sz a cap =>
      obtain ⟨hc0, h⟩ := chk_spec h
      simp only [Bool.and_eq_true, Nat.beq_eq, Nat.blt_eq] at hc0
      obtain ⟨e1, e2⟩ := hc0
      obtain ⟨l, hh, m, hr, g1, g2, g3, g4, _, g5⟩ := boundsV_sound (P := P) (isS := true) (n := 0) (cap := cap) (Nat.zero_le _) h1 h2 h3 h
      have : hh - l = 0 := by omega
      refine ⟨_, _, hrun _ _ _ _ _ _ _ e1 e2 hr, ?_, g5.all _ rfl⟩
      rw [this]; simp only [List.take_nil, List.drop_nil]; exact .sl0 _ _ _
    case nils =>
      obtain ⟨e2, h⟩ := chk_spec h
      simp only [Nat.blt_eq] at e2
      obtain ⟨l, hh, m, hr, g1, g2, g3, g4, _, g5⟩ := boundsV_sound (P := P) (isS := true) (n := 0) (cap := 0) (Nat.zero_le _) h1 h2 h3 h
      have : hh - l = 0 := by omega
      have h4 : m - l = 0 := by omega
      refine ⟨_, _, hrun _ _ _ _ _ _ _ rfl e2 hr, ?_, g5⟩
      rw [this, h4]
      split <;> exact .nils
    case sl sz es b o cap hcap vs hz hk hv =>
      obtain ⟨hc0, h⟩ := chk_spec h
      simp only [Bool.and_eq_true, Nat.beq_eq, Nat.blt_eq] at hc0
      obtain ⟨e1, e2⟩ := hc0
      obtain ⟨l, hh, m, hr, g1, g2, g3, g4, _, g5⟩ := boundsV_sound (P := P) (isS := true) (n := es.length) (cap := cap) hcap h1 h2 h3 h
      refine ⟨_, _, hrun _ _ _ _ _ _ _ e1 e2 hr, ?_, g5.all _ rfl⟩
      have hlen : ((es.take hh).drop l).length = hh - l := by simp; omega
      by_cases he0 : hh - l = 0
      · have : (es.take hh).drop l = [] := List.eq_nil_of_length_eq_zero (by omega)
        rw [this, he0]; exact .sl0 _ _ _
      · have hml : ¬ m = l := by omega
        rw [if_neg hml]
        simp only [Option.map_some, addr_add]
        rw [← hlen]
        refine .sl sz _ b (o + l * sz) (m - l) (by omega) (fun i j => vs (l + i) j) (fun e' he' => hz _ (List.mem_of_mem_take (List.mem_of_mem_drop he'))) (fun i j hi hj => ?_) (fun i j hi hj => ?_)
        · have := hk (l + i) j (by omega) hj
          rw [Nat.add_mul] at this
          rw [show o + l * sz + i * sz + j = o + (l * sz + i * sz) + j by omega]; exact this
        · rw [getD_pair _ _ _ _ (by omega)]; exact hv (l + i) j (by omega) hj
    case rsl b sz i n o cap ho hc hs =>
      obtain ⟨hc0, h⟩ := chk_spec h
      simp only [Bool.and_eq_true, Nat.beq_eq, Nat.blt_eq] at hc0
      obtain ⟨e1, e2⟩ := hc0
      obtain ⟨l, hh, m, hr, g1, g2, g3, g4, _, g5⟩ := boundsV_sound (P := P) (isS := true) (n := n) (cap := cap) hc h1 h2 h3 h
      refine ⟨_, _, hrun _ _ _ _ _ _ _ e1 e2 hr, ?_, g5⟩
      obtain ⟨e', mm, hs1, hs2⟩ := hs
      by_cases hml : m = l
      · rw [if_pos hml]
        have : hh - l = 0 := by omega
        rw [this]
        exact .rsl b sz _ _ o _ (fun hq => by
          rcases hq with hq | hq
          · exact absurd rfl hq
          · have h0 : i = 0 := by omega
            have h0' : l = 0 := by omega
            subst h0 h0'
            rw [ho (.inr rfl)]) (by omega) ⟨e', mm, hs1, by
              have : m - l = 0 := by omega
              rw [this]; omega⟩
      · rw [if_neg hml]
        simp only [Option.map_some, addr_add]
        refine .rsl b sz _ _ _ _ (fun hq => ?_) (by omega) ⟨e', mm, hs1, ?_⟩
        · have : n ≠ 0 ∨ i = 0 := by omega
          rw [ho this, Nat.add_mul]
        · have h6 : l * sz + (m - l) * sz ≤ cap * sz := by
            rw [← Nat.add_mul]; exact Nat.mul_le_mul_right _ (by omega)
          omega
  · exact h.elim

theorem convV_sound {src dst : TypeId} {x : PV} {u : Value} {k : PV → Prop} (hx : VRel K w x u) (h : convV P src dst x k) :
    ∃ pv r, (convert src dst u).run P w = .ok r w ∧ VRel K w pv r ∧ k pv := by
  simp only [convV] at h
  split at h
  case h_2 => exact h.elim
  rename_i s d hs hd
  cases hx <;> (try exact h.elim)
  case int ik n =>
    simp only at h
    split at h
    · exact ⟨_, _, by simp [convert, run_underlying hs, run_underlying hd, Conv.intToInt], .int _ _, inV_spec h⟩
    · refine ⟨_, .string ⟨(Utf8.encode n).data.toList.toArray⟩, ?_, .str _, h⟩
      simp [convert, run_underlying hs, run_underlying hd, Conv.intToString]
    · exact h.elim
  case str l =>
    simp only at h
    split at h
    · exact ⟨_, _, by simp [convert, run_underlying hs, run_underlying hd], .str _, h⟩
    · exact h.elim
  case sl0 sz a cap =>
    simp only at h
    split at h
    case h_2 => exact h.elim
    rename_i e
    split at h
    case h_3 => exact h.elim
    · rename_i he
      obtain ⟨h1, ns, h2, h3⟩ := chk_spec h
      obtain rfl : ns = [] := by cases ns with | nil => rfl | cons a b => simp at h2
      refine ⟨_, .string ⟨([] : List UInt8).toArray⟩, ?_, .str _, h3⟩
      rw [run_convert_bytes_string w src dst e _ _ _ hs he hd]
      cases a with
      | none => rfl
      | some a => exact run_bytesToString (P := P) w a 0 cap [] rfl
    · rename_i he
      obtain ⟨h1, ns, h2, h3⟩ := chk_spec h
      obtain rfl : ns = [] := by cases ns with | nil => rfl | cons a b => simp at h2
      refine ⟨_, .string ⟨(runesBytes []).data.toList.toArray⟩, ?_, .str _, h3⟩
      rw [run_convert_runes_string w src dst e _ _ _ hs he hd]
      cases a with
      | none => rfl
      | some a => exact run_runesToString (P := P) w a 0 cap [] rfl
  case nils =>
    simp only at h
    split at h
    case h_2 => exact h.elim
    rename_i e
    split at h
    case h_2 => exact h.elim
    rename_i he
    refine ⟨_, .string ⟨([] : List UInt8).toArray⟩, ?_, .str _, h⟩
    rw [run_convert_bytes_string w src dst e _ _ _ hs he hd]
    rfl
  case tpt e n b hsh =>
    simp only at h
    split at h
    · rename_i t
      obtain ⟨hc, h⟩ := chk_spec h
      simp only [Bool.and_eq_true] at hc
      obtain ⟨h1, h2⟩ := hc
      unfold infoB at h2
      split at h2
      case h_2 => cases h2
      rename_i j hj
      exact ⟨_, _, Lib.run_to_unsafe w ⟨b, 0, none⟩ hs hd hj (by rw [Nat.blt_eq] at h2; omega) hsh (by simpa using h1), .tpt _ _ _ hsh, h⟩
    · rename_i t
      obtain ⟨hc, h⟩ := chk_spec h
      simp only [Bool.and_eq_true] at hc
      obtain ⟨h1, h2⟩ := hc
      obtain ⟨j, hj⟩ := Option.isSome_iff_exists.1 h1
      exact ⟨_, _, Lib.run_from_unsafe w ⟨b, 0, none⟩ hs hd hj hsh h2, .tpt _ _ _ hsh, h⟩
    · exact h.elim
  case sl sz es b o cap hcap vs hz hk hv =>
    simp only at h
    split at h
    case h_2 => exact h.elim
    rename_i e
    split at h
    case h_3 => exact h.elim
    · rename_i he
      obtain ⟨hs1, ns, rfl, h3⟩ := chk_spec h
      obtain rfl : sz = 1 := by simpa using hs1
      refine ⟨_, .string ⟨(ns.map fun n => UInt8.ofNat n.toNat).toArray⟩, ?_, .str _, h3⟩
      rw [run_convert_bytes_string w src dst e _ _ _ hs he hd]
      have hl : (loadCells ⟨b, o, none⟩ (ns.map (PV.int .u8)).length).run P w = .ok (ns.map (Value.int .u8)).toArray w := by
        rw [run_loadCells w ⟨b, o, none⟩ _ (fun j => .int .u8 (ns.getD j 0)) (fun j hj => by
          rw [addr_add]
          have h4 := (hk j 0 hj (by omega)).2
          have h5 := hv j 0 hj (by omega)
          simp only [Nat.mul_one, Nat.add_zero] at h4
          rw [h4]
          have hj' : j < ns.length := by simpa using hj
          have h6 : ((ns.map (PV.int .u8)).getD j .dead) = .int .u8 (ns.getD j 0) := by simp [List.getD_eq_getElem?_getD, hj']
          rw [h6] at h5
          simp only [PV.flat, List.getD_cons_zero] at h5
          generalize vs j 0 = u at h5 ⊢
          cases h5; rfl)]
        congr 2
        apply List.ext_getElem?
        intro j
        by_cases hj : j < ns.length
        · simp [hj, List.getD_eq_getElem?_getD]
        · simp [hj]
      rw [run_bytesToString (P := P) w _ _ _ ns hl]
      congr 2
      have key : ∀ (l : List Int) (acc : ByteArray), l.foldl (fun r n => r.push (UInt8.ofNat n.toNat)) acc = ⟨acc.data ++ (l.map fun n => UInt8.ofNat n.toNat).toArray⟩ := by
        intro l
        induction l with
        | nil => intro acc; apply ByteArray.ext; simp
        | cons n l ih => intro acc; rw [List.foldl_cons, ih]; apply ByteArray.ext; simp [ByteArray.push]
      rw [key]; apply ByteArray.ext; simp
    · rename_i he
      obtain ⟨hs1, ns, rfl, h3⟩ := chk_spec h
      obtain rfl : sz = 1 := by simpa using hs1
      refine ⟨_, .string ⟨(runesBytes ns).data.toList.toArray⟩, ?_, .str _, h3⟩
      rw [run_convert_runes_string w src dst e _ _ _ hs he hd]
      have hl : (loadCells ⟨b, o, none⟩ (ns.map (PV.int .i32)).length).run P w = .ok (ns.map (Value.int .i32)).toArray w := by
        rw [run_loadCells w ⟨b, o, none⟩ _ (fun j => .int .i32 (ns.getD j 0)) (fun j hj => by
          rw [addr_add]
          have h4 := (hk j 0 hj (by omega)).2
          have h5 := hv j 0 hj (by omega)
          simp only [Nat.mul_one, Nat.add_zero] at h4
          rw [h4]
          have hj' : j < ns.length := by simpa using hj
          have h6 : ((ns.map (PV.int .i32)).getD j .dead) = .int .i32 (ns.getD j 0) := by simp [List.getD_eq_getElem?_getD, hj']
          rw [h6] at h5
          simp only [PV.flat, List.getD_cons_zero] at h5
          generalize vs j 0 = u at h5 ⊢
          cases h5; rfl)]
        congr 2
        apply List.ext_getElem?
        intro j
        by_cases hj : j < ns.length
        · simp [hj, List.getD_eq_getElem?_getD]
        · simp [hj]
      rw [run_runesToString (P := P) w _ _ _ ns hl]

/-! ### Literals -/
theorem cellsB_spec {p : PV} {v : Value} (h : VRel K w p v) (hc : cellsB p = true) :
    p.flat.length = v.cells.size ∧ (∀ j, j < p.flat.length → VRel K w (p.flat.getD j .dead) (v.cells.getD j undef)) ∧ ∀ x ∈ v.cells.toList, x.oneCell' = true := by
  unfold cellsB at hc
  have one : ∀ {q : PV} {u : Value}, cellB q = true → VRel K w q u → u.oneCell' = true := by
    intro q u hq hr
    cases hr <;> first | rfl | exact hq | cases hq
  cases h with
  | agg cs vs hl h =>
    refine ⟨by simpa [PV.flat, Value.cells] using hl, fun j hj => by simpa [PV.flat, Value.cells] using h j hj, fun x hx => ?_⟩
    simp only [Value.cells] at hx
    obtain ⟨j, hj, rfl⟩ := List.getElem_of_mem hx
    have hj' : j < cs.length := by rw [hl]; simpa using hj
    have h1 := h j hj'
    have h2 : vs.getD j undef = vs[j]'(by omega) := by simp [List.getD_eq_getElem?_getD, show j < vs.length by omega]
    rw [h2] at h1
    refine one (List.all_eq_true.1 hc (cs.getD j .dead) ?_) (by simpa using h1)
    have : cs.getD j .dead = cs[j] := by simp [List.getD_eq_getElem?_getD, hj']
    simp only [PV.flat]
    rw [this]; exact List.getElem_mem hj'
  | dead v => simp [PV.flat, cellB] at hc
  | tup => simp [PV.flat, cellB] at hc
  | opt => simp [PV.flat, cellB] at hc
  | lit v =>
    simp only [PV.flat, List.all_cons, List.all_nil, Bool.and_true, cellB] at hc
    have : v.cells = #[v] := by cases v <;> first | rfl | (simp [Value.oneCell'] at hc)
    rw [this]
    refine ⟨rfl, fun j hj => ?_, fun x hx => ?_⟩
    · obtain rfl : j = 0 := by simp [PV.flat] at hj; exact hj
      exact .lit _
    · simp at hx; subst hx; exact hc
  | _ =>
    refine ⟨rfl, fun j hj => ?_, fun x hx => ?_⟩
    · obtain rfl : j = 0 := by simp [PV.flat] at hj; exact hj
      simp only [PV.flat, Value.cells, List.getD_cons_zero]
      first
        | exact VRel.bool _
        | exact VRel.int _ _
        | exact VRel.str _
        | exact VRel.sl0 _ _ _
        | exact VRel.nils
        | (apply VRel.bsl <;> assumption)
        | (apply VRel.bpt; assumption)
        | (apply VRel.tpt; assumption)
        | exact VRel.bref _ _
        | exact VRel.ref _ _ _ _
        | exact VRel.mp _
        | (apply VRel.sl <;> assumption)
        | (apply VRel.ip <;> assumption)
        | (apply VRel.rsl <;> assumption)
        | (apply VRel.fn <;> assumption)
        | (apply VRel.ifc; assumption)
    · simp only [Value.cells, List.mem_singleton] at hx
      subst hx; rfl

theorem zeroV_rel {t : TypeId} (hc : cellsB (zeroV P t) = true) : ∃ i v, P.info? t = some i ∧ i.zero = some v ∧ zeroV P t = ofV v := by
  unfold zeroV at hc ⊢
  cases hi : P.info? t with
  | none => simp [hi, cellsB, PV.flat, cellB] at hc
  | some i =>
    cases hz : i.zero with
    | none => simp [hi, hz, cellsB, PV.flat, cellB] at hc
    | some v => exact ⟨i, v, rfl, hz, by simp [hz]⟩

def LRel (K : Kn) (w : World) (ps : List PV) (vs : List Value) : Prop := ps.length = vs.length ∧ ∀ i, i < ps.length → VRel K w (ps.getD i .dead) (vs.getD i undef)

theorem length_splice {α : Type} (l : List α) (f : Nat) (vs : List α) (h : f + vs.length ≤ l.length) : (splice l f vs).length = l.length := by
  simp [splice]; omega
theorem getD_splice {α : Type} (l : List α) (f : Nat) (vs : List α) (d : α) (h : f + vs.length ≤ l.length) (i : Nat) :
    (splice l f vs).getD i d = if f ≤ i ∧ i < f + vs.length then vs.getD (i - f) d else l.getD i d := by
  have hm : min f l.length = f := by omega
  simp only [splice, List.getD_eq_getElem?_getD, List.getElem?_append, List.length_take, List.length_append, List.getElem?_take, List.getElem?_drop, hm]
  by_cases c1 : i < f
  · simp [c1, show i < f + vs.length by omega, show ¬ f ≤ i by omega]
  · by_cases c2 : i < f + vs.length
    · simp [c1, c2, show f ≤ i by omega]
    · simp [c2, show f + vs.length + (i - (f + vs.length)) = i by omega]

theorem LRel.splice {ps qs : List PV} {vs us : List Value} {f : Nat} (h : LRel K w ps vs) (g : LRel K w qs us) (hf : f + qs.length ≤ ps.length) :
    LRel K w (splice ps f qs) (splice vs f us) := by
  obtain ⟨h1, h2⟩ := h
  obtain ⟨g1, g2⟩ := g
  refine ⟨by rw [length_splice _ _ _ hf, length_splice _ _ _ (by omega), h1], fun i hi => ?_⟩
  rw [length_splice _ _ _ hf] at hi
  rw [getD_splice _ _ _ _ hf, getD_splice _ _ _ _ (by omega), g1]
  split
  · exact g2 _ (by omega)
  · exact h2 _ hi
theorem cells_LRel {p : PV} {v : Value} (h : VRel K w p v) (hc : cellsB p = true) : LRel K w p.flat v.cells.toList ∧ (∀ x ∈ v.cells.toList, x.oneCell' = true) := by
  obtain ⟨h1, h2, h3⟩ := cellsB_spec h hc
  exact ⟨⟨by simpa using h1, fun i hi => by
    have := h2 i hi
    have hi' : i < v.cells.size := by omega
    simpa [Array.getD, hi', List.getD_eq_getElem?_getD] using this⟩, h3⟩

theorem foldl_set (vs : List Value) (off : Nat) : ∀ (us : List Value) (cs : Array Value) (j : Nat), cs.toList = vs → off + j + us.length ≤ vs.length →
    ((us.zipIdx j).foldl (fun cs p => cs.setIfInBounds (off + p.2) p.1) cs).toList = splice vs (off + j) us
  | [], cs, j, hc, _ => by simp [splice, hc]
  | u :: us, cs, j, hc, hl => by
    simp only [List.length_cons] at hl
    simp only [List.zipIdx_cons, List.foldl_cons]
    rw [foldl_set (vs.set (off + j) u) off us _ (j + 1) (by rw [Array.toList_setIfInBounds, hc]) (by simp; omega)]
    apply List.ext_getElem?
    intro i
    have e1 : ∀ (l : List Value) (f : Nat) (xs : List Value), f + xs.length ≤ l.length → ∀ i, (splice l f xs)[i]? = if f ≤ i ∧ i < f + xs.length then xs[i - f]? else l[i]? := by
      intro l f xs h i
      have hm : min f l.length = f := by omega
      simp only [splice, List.getElem?_append, List.length_take, List.length_append, List.getElem?_take, List.getElem?_drop, hm]
      by_cases c1 : i < f
      · simp [c1, show i < f + xs.length by omega, show ¬ f ≤ i by omega]
      · by_cases c2 : i < f + xs.length
        · simp [c1, c2, show f ≤ i by omega]
        · simp [c2, show f + xs.length + (i - (f + xs.length)) = i by omega]
    rw [e1 _ _ _ (by simp; omega), e1 _ _ _ (by simp; omega)]
    simp only [List.length_cons, List.getElem?_set]
    by_cases c0 : i = off + j
    · subst c0
      rw [if_neg (by omega), if_pos rfl, if_pos (by omega), if_pos (by omega)]; simp
    · by_cases c1 : off + (j + 1) ≤ i ∧ i < off + (j + 1) + us.length
      · rw [if_pos c1, if_pos (by omega)]
        rw [show i - (off + j) = (i - (off + (j + 1))) + 1 by omega, List.getElem?_cons_succ]
      · rw [if_neg c1, if_neg (by omega), if_neg (by omega)]

theorem fill_sound {place : Nat → Option (Nat × Nat)} : ∀ (ps : List (Nat × PV)) (us : List (Nat × Value)) (cs : List PV) (vs : Array Value) (rs : List PV),
    ps.length = us.length → (∀ i, i < ps.length → (ps.getD i (0, .dead)).1 = (us.getD i (0, undef)).1 ∧ VRel K w (ps.getD i (0, .dead)).2 (us.getD i (0, undef)).2) →
    LRel K w cs vs.toList → fillV place cs ps = some rs → ∃ ws, Instr.fill place vs us = some ws ∧ LRel K w rs ws.toList
  | [], [], cs, vs, rs, _, _, hc, h => by
    simp only [fillV, Option.some.injEq] at h; subst h
    exact ⟨vs, rfl, hc⟩
  | (i, p) :: ps, (j, u) :: us, cs, vs, rs, hl, hr, hc, h => by
    have h0 := hr 0 (by simp)
    simp only [List.getD_cons_zero] at h0
    obtain ⟨rfl, h0⟩ := h0
    simp only [fillV] at h
    cases hp : place i with
    | none => simp [hp] at h
    | some os =>
      obtain ⟨off, size⟩ := os
      simp only [hp] at h
      cases hb : (Nat.beq p.flat.length size && Nat.ble (off + size) cs.length && cellsB p) with
      | false => simp [hb] at h
      | true =>
        simp only [hb, cond_true] at h
        simp only [Bool.and_eq_true, Nat.beq_eq, Nat.ble_eq] at hb
        obtain ⟨⟨b1, b2⟩, b3⟩ := hb
        obtain ⟨g1, g2⟩ := cells_LRel h0 b3
        have hvl : cs.length = vs.size := by simpa using hc.1
        have hul : u.cells.size = size := by have := g1.1; simp at this; omega
        have hst := foldl_set vs.toList off u.cells.toList vs 0 rfl (by simp; omega)
        simp only [Nat.add_zero] at hst
        obtain ⟨ws, f1, f2⟩ := fill_sound ps us (splice cs off p.flat) ((u.cells.zipIdx.foldl (fun cs (c, j) => cs.setIfInBounds (off + j) c) vs)) rs (by simpa using hl)
          (fun k hk => by have := hr (k + 1) (by simpa using hk); simpa using this)
          (by
            have e2 : (u.cells.zipIdx.foldl (fun cs (c, j) => cs.setIfInBounds (off + j) c) vs).toList = splice vs.toList off u.cells.toList := by
              rw [← hst, ← Array.foldl_toList]; simp
            rw [e2]
            exact hc.splice g1 (by omega)) h
        refine ⟨ws, ?_, f2⟩
        simp only [Instr.fill, hp]
        rw [if_neg (by simp; omega)]
        exact f1
  | [], _ :: _, _, _, _, hl, _, _, _ => by simp at hl
  | _ :: _, [], _, _, _, hl, _, _, _ => by simp at hl

theorem run_zeroValue {t : TypeId} {i : TypeInfo} {v : Value} (h : P.info? t = some i) (hz : i.zero = some v) : (zeroValue t).run P w = .ok v w := by
  simp [zeroValue, typeInfo, h, hz]
theorem flat_LRel {p : PV} {v : Value} (h : VRel K w p v) (hp : ∃ x, p = ofV x ∧ v = x) : LRel K w p.flat v.cells.toList := by
  obtain ⟨x, rfl, rfl⟩ := hp
  unfold ofV
  split
  · rename_i cs
    refine ⟨by simp [PV.flat, Value.cells], fun i hi => ?_⟩
    simp only [PV.flat, List.length_map, Array.length_toList] at hi
    have h1 : (cs.toList.map ofV1).getD i .dead = ofV1 (cs.toList.getD i undef) := by simp [List.getD_eq_getElem?_getD, hi]
    simp only [PV.flat, Value.cells]
    rw [h1]; exact ofV1_rel _
  · rename_i hna
    have hc : v.cells = #[v] := by cases v <;> first | rfl | exact absurd rfl (hna _)
    rw [hc]
    have hf : (ofV1 v).flat = [ofV1 v] := by
      unfold ofV1; split <;> rfl
    rw [hf]
    refine ⟨rfl, fun i hi => ?_⟩
    obtain rfl : i = 0 := by simp at hi; exact hi
    exact ofV1_rel v

theorem buildV_sound {t : TypeId} {ps : List (Nat × PV)} {us : List (Nat × Value)} {k : PV → Prop} (hl : ps.length = us.length)
    (hr : ∀ i, i < ps.length → (ps.getD i (0, .dead)).1 = (us.getD i (0, undef)).1 ∧ VRel K w (ps.getD i (0, .dead)).2 (us.getD i (0, undef)).2)
    (h : buildV P t ps k) : ∃ pv r, (Instr.build t us.toArray).run P w = .ok r w ∧ VRel K w pv r ∧ k pv := by
  unfold buildV at h
  split at h
  case h_2 => exact h.elim
  rename_i rs hrs
  have key : ∃ ws, P.built t us = some ws ∧ LRel K w rs ws.toList := by
    unfold builtV at hrs
    unfold Program.built
    split at hrs
    · rename_i it e hit he
      split at hrs
      · rename_i z ie hz hie
        obtain ⟨ws, f1, f2⟩ := fill_sound ps us _ z.cells rs hl hr (flat_LRel (ofV_rel z) ⟨z, rfl, rfl⟩) hrs
        exact ⟨ws, by simp [hit, he, hz, hie, f1], f2⟩
      · cases hrs
    · rename_i it fs hit he
      split at hrs
      · rename_i z pl hz hpl
        obtain ⟨ws, f1, f2⟩ := fill_sound ps us _ z.cells rs hl hr (flat_LRel (ofV_rel z) ⟨z, rfl, rfl⟩) hrs
        refine ⟨ws, ?_, f2⟩
        simp only [hit, he, hz, hpl]
        simpa using f1
      · cases hrs
    · cases hrs
  obtain ⟨ws, h1, h2⟩ := key
  refine ⟨_, .agg ws.toList.toArray, ?_, .agg rs ws.toList h2.1 h2.2, h⟩
  simpa using run_build (P := P) w t us.toArray ws (by simpa using h1)

def flats (es : List PV) : List PV := es.flatMap PV.flat

theorem flats_length {es : List PV} {sz : Nat} (h : ∀ e ∈ es, e.flat.length = sz) : (flats es).length = es.length * sz := by
  induction es with
  | nil => simp [flats]
  | cons e es ih =>
    have := ih fun x hx => h x (List.mem_cons_of_mem _ hx)
    simp only [flats, List.flatMap_cons, List.length_append, List.length_cons] at *
    rw [this, h e List.mem_cons_self, Nat.add_mul]; omega
theorem flats_getD {es : List PV} {sz : Nat} (h : ∀ e ∈ es, e.flat.length = sz) : ∀ i j, i < es.length → j < sz → (flats es).getD (i * sz + j) .dead = (es.getD i .dead).flat.getD j .dead := by
  induction es with
  | nil => intro i j hi; simp at hi
  | cons e es ih =>
    intro i j hi hj
    have h0 := h e List.mem_cons_self
    cases i with
    | zero => simp [flats, List.getD_eq_getElem?_getD, List.getElem?_append, h0, hj]
    | succ i =>
      have := ih (fun x hx => h x (List.mem_cons_of_mem _ hx)) i j (by simpa using hi) hj
      simp only [flats, List.flatMap_cons, List.getD_eq_getElem?_getD, List.getElem?_append, List.getElem?_cons_succ] at *
      rw [if_neg (by rw [h0, Nat.add_mul]; omega), h0, show (i + 1) * sz + j - sz = i * sz + j by rw [Nat.add_mul]; omega]
      exact this
theorem flats_set {es : List PV} {sz : Nat} (h : ∀ e ∈ es, e.flat.length = sz) (p : PV) (hp : p.flat.length = sz) : ∀ i, i < es.length → flats (es.set i p) = splice (flats es) (i * sz) p.flat := by
  intro i hi
  have h' : ∀ e ∈ es.set i p, e.flat.length = sz := fun e he => by
    rcases List.mem_or_eq_of_mem_set he with h1 | rfl
    · exact h e h1
    · exact hp
  have hb : i * sz + p.flat.length ≤ (flats es).length := by
    rw [flats_length h, hp]
    have : (i + 1) * sz ≤ es.length * sz := Nat.mul_le_mul_right _ hi
    rw [Nat.add_mul] at this; omega
  apply List.ext_getElem
  · rw [length_splice _ _ _ hb, flats_length h, flats_length h']; simp
  · intro n h1 h2
    have e1 : (flats (es.set i p))[n] = (flats (es.set i p)).getD n .dead := by simp [List.getD_eq_getElem?_getD, h1]
    have e2 : (splice (flats es) (i * sz) p.flat)[n] = (splice (flats es) (i * sz) p.flat).getD n .dead := by simp [List.getD_eq_getElem?_getD, h2]
    rw [e1, e2, getD_splice _ _ _ _ hb]
    rw [flats_length h'] at h1
    have hsz : 0 < sz := by
      rcases Nat.eq_zero_or_pos sz with rfl | h0
      · simp at h1
      · exact h0
    have hn : n = n / sz * sz + n % sz := by rw [Nat.mul_comm]; exact (Nat.div_add_mod n sz).symm
    have hq : n / sz < es.length := by
      have : n < es.length * sz := by simpa using h1
      exact (Nat.div_lt_iff_lt_mul hsz).2 this
    have hm : n % sz < sz := Nat.mod_lt _ hsz
    rw [hp]
    conv => lhs; rw [hn]
    rw [flats_getD h' _ _ (by simpa using hq) hm]
    by_cases hqi : n / sz = i
    · have h3 : i * sz ≤ n ∧ n < i * sz + sz := by rw [hqi] at hn; omega
      rw [if_pos h3, hqi, show n - i * sz = n % sz by rw [hqi] at hn; omega]
      simp [List.getD_eq_getElem?_getD, hi]
    · have h3 : ¬ (i * sz ≤ n ∧ n < i * sz + sz) := by
        rintro ⟨g1, g2⟩
        apply hqi
        have : n / sz = i := Nat.div_eq_of_lt_le g1 (by rw [Nat.add_mul]; omega)
        exact this
      rw [if_neg h3]
      conv => rhs; rw [hn]
      rw [flats_getD h _ _ hq hm]
      simp [List.getD_eq_getElem?_getD, Ne.symm hqi]

theorem fillE_sound {sz : Nat} : ∀ (ps : List (Nat × PV)) (us : List (Nat × Value)) (es : List PV) (vs : Array Value) (rs : List PV),
    ps.length = us.length → (∀ i, i < ps.length → (ps.getD i (0, .dead)).1 = (us.getD i (0, undef)).1 ∧ VRel K w (ps.getD i (0, .dead)).2 (us.getD i (0, undef)).2) →
    (∀ e ∈ es, e.flat.length = sz) → LRel K w (flats es) vs.toList → fillE sz es ps = some rs →
    ∃ ws, Instr.fill (fun i => some (i * sz, sz)) vs us = some ws ∧ LRel K w (flats rs) ws.toList ∧ rs.length = es.length ∧ ∀ e ∈ rs, e.flat.length = sz
  | [], [], es, vs, rs, _, _, hz, hc, h => by
    simp only [fillE, Option.some.injEq] at h; subst h
    exact ⟨vs, rfl, hc, rfl, hz⟩
  | (i, p) :: ps, (j, u) :: us, es, vs, rs, hl, hr, hz, hc, h => by
    have h0 := hr 0 (by simp)
    simp only [List.getD_cons_zero] at h0
    obtain ⟨rfl, h0⟩ := h0
    simp only [fillE] at h
    cases hb : (Nat.beq p.flat.length sz && Nat.blt i es.length && cellsB p) with
    | false => simp [hb] at h
    | true =>
      simp only [hb, cond_true] at h
      simp only [Bool.and_eq_true, Nat.beq_eq, Nat.blt_eq] at hb
      obtain ⟨⟨b1, b2⟩, b3⟩ := hb
      obtain ⟨g1, g2⟩ := cells_LRel h0 b3
      have hfl := flats_length hz
      have hbd : i * sz + sz ≤ es.length * sz := by
        have : (i + 1) * sz ≤ es.length * sz := Nat.mul_le_mul_right _ b2
        rw [Nat.add_mul] at this; omega
      have hvl : es.length * sz = vs.size := by rw [← hfl]; simpa using hc.1
      have hul : u.cells.size = sz := by have := g1.1; simp at this; omega
      have hst := foldl_set vs.toList (i * sz) u.cells.toList vs 0 rfl (by simp; omega)
      simp only [Nat.add_zero] at hst
      obtain ⟨ws, f1, f2, f3, f4⟩ := fillE_sound ps us (es.set i p) ((u.cells.zipIdx.foldl (fun cs (c, j) => cs.setIfInBounds (i * sz + j) c) vs)) rs (by simpa using hl)
        (fun k hk => by have := hr (k + 1) (by simpa using hk); simpa using this)
        (fun e he => by
          rcases List.mem_or_eq_of_mem_set he with h1 | rfl
          · exact hz e h1
          · exact b1)
        (by
          have e2 : (u.cells.zipIdx.foldl (fun cs (c, j) => cs.setIfInBounds (i * sz + j) c) vs).toList = splice vs.toList (i * sz) u.cells.toList := by
            rw [← hst, ← Array.foldl_toList]; simp
          rw [e2, flats_set hz p b1 i b2]
          exact hc.splice g1 (by omega)) h
      refine ⟨ws, ?_, f2, by simpa using f3, f4⟩
      simp only [Instr.fill]
      rw [if_neg (by simp; omega)]
      exact f1
  | [], _ :: _, _, _, _, hl, _, _, _, _ => by simp at hl
  | _ :: _, [], _, _, _, hl, _, _, _, _ => by simp at hl
end Go.Eng
end

/- The engine, part 5: new rows, stores, appends: what is owned stays true. -/
section
namespace Go.Eng
open Go

variable {P : Program} {K : Kn} {w : World}

theorem rowOk_of {b sz : Nat} {es : List PV} {fz : Nat} {cs : Array Value} {ty : TypeId} (hfz : fz ≤ es.length) (hex : ∀ o, K b o → o < fz * sz) (hz : ∀ e ∈ es, e.flat.length = sz)
    (hg : w.heap[b]? = some (.cells cs ty (0, 0))) (hlen : es.length * sz ≤ cs.size)
    (h : ∀ n, n < es.length * sz → VRel K w ((flats es).getD n .dead) (cs.getD n undef)) : RowOk K w b sz es fz :=
  ⟨hfz, hex, hz, cs, ty, hg, hlen, fun i j hi hj => by
    rw [← flats_getD hz i j hi hj]
    refine h _ ?_
    have : (i + 1) * sz ≤ es.length * sz := Nat.mul_le_mul_right _ hi
    rw [Nat.add_mul] at this; omega⟩
theorem RowOk.flats {b sz : Nat} {es : List PV} {fz : Nat} (h : RowOk K w b sz es fz) :
    ∃ cs ty, w.heap[b]? = some (.cells cs ty (0, 0)) ∧ es.length * sz ≤ cs.size ∧ ∀ n, n < es.length * sz → VRel K w ((flats es).getD n .dead) (cs.getD n undef) := by
  obtain ⟨cs, ty, h1, h2, h3⟩ := h.cells
  refine ⟨cs, ty, h1, h2, fun n hn => ?_⟩
  have hsz : 0 < sz := by
    rcases Nat.eq_zero_or_pos sz with rfl | h0
    · simp at hn
    · exact h0
  have e : n = n / sz * sz + n % sz := by rw [Nat.mul_comm]; exact (Nat.div_add_mod n sz).symm
  have hq : n / sz < es.length := (Nat.div_lt_iff_lt_mul hsz).2 hn
  have hm : n % sz < sz := Nat.mod_lt _ hsz
  have := h3 _ _ hq hm
  rw [← flats_getD h.hz _ _ hq hm, ← e] at this
  exact this

theorem shape_alloc (o : Obj) {b : Nat} {x : TypeId × Nat} (h : w.shape? b = some x) : (w.alloc o).shape? b = some x := by
  unfold World.shape? at h ⊢
  have hlt : b < w.heap.size := by
    rcases Nat.lt_or_ge b w.heap.size with h' | h'
    · exact h'
    · rw [Array.getElem?_eq_none h'] at h; cases h
  rw [Go.RowKit.Below.heap_alloc w o b hlt]; exact h
theorem vrel_alloc (hm : ∀ b o, K b o → b < w.heap.size) (o : Obj) {p : PV} {v : Value} (h : VRel K w p v) : VRel K (w.alloc o) p v :=
  h.mono (fun b i hb => ⟨hb, World.cell?_alloc_lt w o ⟨b, i, none⟩ (hm b i hb)⟩) (fun _ _ h => shape_alloc o h)
theorem ext_alloc {σ : Mem} (hm : SatM K σ w) (o : Obj) (c : Cont) : Ext σ K w (⟨w.heap.size, c⟩ :: σ) K (w.alloc o) where
  os := rfl
  tape := rfl
  output := rfl
  size := by simp
  shape _ _ h := shape_alloc o h
  keep b hb _ := Go.RowKit.Below.heap_alloc w o b hb
  kn b i hb := ⟨hb, World.cell?_alloc_lt w o ⟨b, i, none⟩ (hm.kin b i hb)⟩
  own k hk := by
    rcases List.mem_cons.1 hk with rfl | hk
    · exact .inr (Nat.le_refl _)
    · exact .inl ⟨k, hk, rfl⟩
  fresh _ _ h := .inl h
theorem satM_alloc {σ : Mem} (hm : SatM K σ w) (o : Obj) (c : Cont) (hb : BlkOk K (w.alloc o) ⟨w.heap.size, c⟩) : SatM K (⟨w.heap.size, c⟩ :: σ) (w.alloc o) := by
  refine ⟨fun b i h => by have := hm.kin b i h; simp; omega, ?_, fun k hk => ?_⟩
  · rw [List.map_cons, List.nodup_cons]
    refine ⟨fun h => ?_, hm.nodup⟩
    obtain ⟨k, hk, e⟩ := List.mem_map.1 h
    have := (hm.blk k hk).lt; simp only at e; omega
  · rcases List.mem_cons.1 hk with rfl | hk
    · exact hb
    · have hlt := (hm.blk k hk).lt
      exact (hm.blk k hk).move (Go.RowKit.Below.heap_alloc w o k.b hlt) (fun _ h => h) (fun b i h => ⟨h, World.cell?_alloc_lt w o ⟨b, i, none⟩ (hm.kin b i h)⟩) (fun _ _ h => shape_alloc o h)
theorem fresh_new {σ : Mem} (hm : SatM K σ w) : ∀ x ∈ σ, x.b ≠ w.heap.size := fun x hx => Nat.ne_of_lt (hm.blk x hx).lt

theorem new_row {σ : Mem} (hm : SatM K σ w) (ty : TypeId) (sz : Nat) (es : List PV) (fz : Nat) (hfz : fz ≤ es.length) (cs : Array Value) (hz : ∀ e ∈ es, e.flat.length = sz) (hlen : es.length * sz ≤ cs.size)
    (h : ∀ n, n < es.length * sz → VRel K w ((flats es).getD n .dead) (cs.getD n undef)) :
    SatM K (⟨w.heap.size, .row sz es fz⟩ :: σ) (w.alloc (.cells cs ty)) := by
  refine satM_alloc hm _ _ ?_
  show RowOk K _ _ sz es fz
  refine rowOk_of hfz (fun o ho => absurd (hm.kin _ o ho) (Nat.lt_irrefl _)) hz (cs := cs) (ty := ty) (heap_alloc_new w _) hlen (fun n hn => vrel_alloc hm.kin _ (h n hn))
theorem shape_new (ty : TypeId) (cs : Array Value) : (w.alloc (.cells cs ty)).shape? w.heap.size = some (ty, cs.size) := by
  simp only [World.shape?]; rw [heap_alloc_new w]

theorem newV_sound {σ : Mem} {p : PV} {v : Value} {n : Nat} {e : TypeId} {k : PV → Mem → Prop} (hm : SatM K σ w) (hv : VRel K w p v) (h : newV p n σ k) :
    ∃ pv r σ' w', (newVar e v).run P w = .ok r w' ∧ k pv σ' ∧ VRel K w' pv (.pointer (some r)) ∧ SatM K σ' w' ∧ Ext σ K w σ' K w' := by
  obtain ⟨hc, h3⟩ := chk_spec h
  simp only [Bool.and_eq_true, Nat.beq_eq] at hc
  obtain ⟨h1, h2⟩ := hc
  obtain ⟨g1, g2⟩ := cells_LRel hv h2
  refine ⟨_, ⟨w.heap.size, 0, none⟩, _, w.alloc (.cells v.cells e), rfl, h3.all w.heap.size (fresh_new hm), .bref _ _, ?_, ext_alloc hm _ _⟩
  have hl := g1.1
  simp only [Array.length_toList] at hl
  refine new_row hm e n [p] 0 (Nat.zero_le _) v.cells (by simp [h1]) (by simp; omega) (fun m hm' => ?_)
  have := g1.2 m (by simp at hm'; omega)
  simp only [flats, List.flatMap_cons, List.flatMap_nil, List.append_nil]
  simpa [Array.getD, List.getD_eq_getElem?_getD, show m < v.cells.size by simp at hm'; omega] using this

theorem allocV_sound {σ : Mem} {p : PV} {v : Value} {e : TypeId} {k : PV → Mem → Prop} (hm : SatM K σ w) (hv : VRel K w p v) (h : allocV P e p σ k) :
    ∃ pv r σ' w', (newVar e v).run P w = .ok r w' ∧ k pv σ' ∧ VRel K w' pv (.pointer (some r)) ∧ SatM K σ' w' ∧ Ext σ K w σ' K w' := by
  unfold allocV at h
  split at h
  case h_2 => exact newV_sound hm hv h
  obtain ⟨hc, h3⟩ := chk_spec h
  simp only [Bool.and_eq_true, Nat.beq_eq] at hc
  obtain ⟨h1, h2⟩ := hc
  obtain ⟨g1, g2⟩ := cells_LRel hv h2
  have hl := g1.1
  simp only [Array.length_toList] at hl
  refine ⟨_, ⟨w.heap.size, 0, none⟩, _, w.alloc (.cells v.cells e), rfl, h3.all w.heap.size (fresh_new hm), .tpt _ _ _ ?_, ?_, ext_alloc hm _ _⟩
  · rw [shape_new]; congr 2; omega
  refine new_row hm e (P.cellsOf e) [p] 0 (Nat.zero_le _) v.cells (by simp [h1]) (by simp; omega) (fun m hm' => ?_)
  have := g1.2 m (by simp at hm'; omega)
  simp only [flats, List.flatMap_cons, List.flatMap_nil, List.append_nil]
  simpa [Array.getD, List.getD_eq_getElem?_getD, show m < v.cells.size by simp at hm'; omega] using this

/-! ### Rows that are written -/
theorem setRow_shape {b : Nat} {cs cs' : Array Value} {ty : TypeId} (hg : w.heap[b]? = some (.cells cs ty (0, 0))) (hs : cs'.size = cs.size) {b' : Nat} {x : TypeId × Nat} (h : w.shape? b' = some x) :
    (w.setRow b cs').shape? b' = some x := by
  by_cases e : b' = b
  · subst e
    unfold World.shape? at h ⊢
    rw [setRow_heap w b' cs cs' ty _ hg]
    rw [hg] at h
    simpa [hs] using h
  · unfold World.shape? at h ⊢
    rw [setRow_other w b b' cs' e]; exact h
theorem setRow_size (b : Nat) (cs : Array Value) : (w.setRow b cs).heap.size = w.heap.size := by simp [World.setRow]
theorem setRow_kn {b : Nat} {cs cs' : Array Value} {ty : TypeId} (hg : w.heap[b]? = some (.cells cs ty (0, 0))) (hk : ∀ o, K b o → cs'[o]? = cs[o]?) (b' o : Nat) (h : K b' o) :
    (w.setRow b cs').cell? ⟨b', o, none⟩ = w.cell? ⟨b', o, none⟩ := by
  by_cases e : b' = b
  · subst e
    simp [World.cell?, setRow_heap w b' cs cs' ty _ hg, hg, hk o h]
  · simp [World.cell?, setRow_other w b b' cs' e]

theorem row_written {σ r : Mem} {b sz : Nat} {es es' : List PV} {fz : Nat} {cs cs' : Array Value} {ty : TypeId} (hm : SatM K σ w) (hl : Look σ b (.row sz es fz) r)
    (hg : w.heap[b]? = some (.cells cs ty (0, 0))) (hs : cs'.size = cs.size) (hz : ∀ e ∈ es', e.flat.length = sz) (hfz : fz ≤ es'.length) (hlen : es'.length * sz ≤ cs.size)
    (hrel : ∀ n, n < es'.length * sz → VRel K w ((flats es').getD n .dead) (cs'.getD n undef)) (hkeep : ∀ o, o < fz * sz → cs'[o]? = cs[o]?) :
    SatM K (⟨b, .row sz es' fz⟩ :: r) (w.setRow b cs') ∧ Ext σ K w (⟨b, .row sz es' fz⟩ :: r) K (w.setRow b cs') := by
  have hro : RowOk K w b sz es fz := hm.blk _ hl.mem
  have hkk : ∀ o, K b o → cs'[o]? = cs[o]? := fun o ho => hkeep o (hro.ex o ho)
  have hp := hm.perm hl.perm
  have hnd := hp.nodup
  rw [List.map_cons, List.nodup_cons] at hnd
  refine ⟨⟨fun b' o h => by rw [setRow_size]; exact hm.kin b' o h, by rw [List.map_cons, List.nodup_cons]; exact hnd, fun k hk => ?_⟩, ?_⟩
  · rcases List.mem_cons.1 hk with rfl | hk
    · show RowOk K _ b sz es' fz
      exact rowOk_of hfz hro.ex hz (setRow_heap w b cs cs' ty _ hg) (by rw [hs]; exact hlen)
        (fun n hn => (hrel n hn).mono (fun b' o h => ⟨h, setRow_kn hg hkk b' o h⟩) (fun b' x h => setRow_shape hg hs h))
    · have hne : k.b ≠ b := fun e => hnd.1 (List.mem_map.2 ⟨k, hk, e⟩)
      exact (hp.blk k (List.mem_cons_of_mem _ hk)).move (setRow_other w b k.b cs' hne) (fun _ h => h) (fun b' o h => ⟨h, setRow_kn hg hkk b' o h⟩) (fun b' x h => setRow_shape hg hs h)
  · refine ⟨rfl, rfl, rfl, by rw [setRow_size]; exact Nat.le_refl _, fun b' x h => setRow_shape hg hs h, fun b' hb hn => setRow_other w b b' cs' (fun e => hn _ hl.mem e.symm), fun b' o h => ⟨h, setRow_kn hg hkk b' o h⟩, fun k hk => .inl ?_, fun _ _ h => .inl h⟩
    rcases List.mem_cons.1 hk with rfl | hk
    · exact ⟨_, hl.mem, rfl⟩
    · exact ⟨k, hl.perm.mem_iff.2 (List.mem_cons_of_mem _ hk), rfl⟩

theorem getD_toArray (l : List Value) (n : Nat) : l.toArray.getD n undef = l.getD n undef := by
  by_cases h : n < l.length
  · simp [Array.getD, h, List.getD_eq_getElem?_getD]
  · simp [Array.getD, h, List.getD_eq_getElem?_getD]
theorem getD_toList (a : Array Value) (n : Nat) : a.toList.getD n undef = a.getD n undef := by
  by_cases h : n < a.size
  · simp [Array.getD, h, List.getD_eq_getElem?_getD]
  · simp [Array.getD, h, List.getD_eq_getElem?_getD]

theorem store_at {σ r : Mem} {t : TypeId} {p : PV} {v : Value} {b sz' i f : Nat} {es : List PV} {fz : Nat} (hm : SatM K σ w) (hv : VRel K w p v) (hl : Look σ b (.row sz' es fz) r)
    (hi : i < es.length) (hf : f + p.flat.length ≤ sz') (hsz : p.flat.length = P.cellsOf t) (hfz : fz ≤ i) (hc : cellsB p = true) (hpos : 0 < P.cellsOf t) :
    ∃ w', (Instr.storeAt t (.pointer (some ⟨b, i * sz' + f, none⟩)) v).run P w = .ok () w' ∧ SatM K (⟨b, .row sz' (es.set i (setPart (es.getD i .dead) f p)) fz⟩ :: r) w' ∧
      Ext σ K w (⟨b, .row sz' (es.set i (setPart (es.getD i .dead) f p)) fz⟩ :: r) K w' := by
  obtain ⟨g1, g2⟩ := cells_LRel hv hc
  have hro : RowOk K w b sz' es fz := hm.blk _ hl.mem
  obtain ⟨cs, ty, h1, h2, h3⟩ := hro.flats
  have hvl : v.cells.size = p.flat.length := by have := g1.1; simp at this; omega
  have hbd : i * sz' + sz' ≤ es.length * sz' := by
    have : (i + 1) * sz' ≤ es.length * sz' := Nat.mul_le_mul_right _ hi
    rw [Nat.add_mul] at this; omega
  have hef := hro.flat hi
  -- the new element, as cells
  have hflat : (setPart (es.getD i .dead) f p).flat = splice (es.getD i .dead).flat f p.flat := by
    unfold setPart
    split
    · rename_i cs' e; rw [e]; rfl
    · rename_i e
      have h1' : (es.getD i .dead).flat = [es.getD i .dead] := by
        generalize es.getD i .dead = q at e
        cases q <;> first | rfl | exact absurd rfl (e _)
      rw [h1'] at hef ⊢
      simp only [List.length_cons, List.length_nil] at hef
      have : f = 0 := by omega
      subst this
      have : p.flat.length = 1 := by omega
      simp [splice, this]
  have hsl : (splice (es.getD i .dead).flat f p.flat).length = sz' := by rw [length_splice _ _ _ (by omega), hef]
  have hrow := run_storeCells_at P b (i * sz' + f) ty v.cells.toList 0 cs w h1 (by simp; omega) g2
  simp only [Nat.add_zero] at hrow
  have hfit : i * sz' + f + v.cells.toList.length ≤ cs.toList.length := by simp; omega
  have hfl := flats_length hro.hz
  refine ⟨w.setRow b (splice cs.toList (i * sz' + f) v.cells.toList).toArray, ?_, ?_⟩
  · have hs := run_sizeOf (P := P) (w := w) hpos
    have hve : v.cells.size = P.cellsOf t := by omega
    simp only [Instr.storeAt, Instr.sureAddr, Sem.run_bind, Sem.run_pure, Result.andThen_ok, storeVar, hs, hve, ne_eq, not_true, if_false]
    exact hrow
  · refine row_written hm hl h1 (by simp [length_splice _ _ _ hfit]) (fun e he => ?_) (by simpa using hro.le) (by simpa using h2) (fun n hn => ?_) (fun o ho => ?_)
    · rcases List.mem_or_eq_of_mem_set he with h4 | rfl
      · exact hro.hz e h4
      · rw [hflat]; exact hsl
    · rw [List.length_set] at hn
      rw [flats_set hro.hz _ (by rw [hflat]; exact hsl) i hi, hflat, getD_toArray, getD_splice _ _ _ _ (by rw [hsl]; omega), getD_splice _ _ _ _ hfit]
      rw [hsl]
      simp only [Array.length_toList]
      by_cases c1 : i * sz' + f ≤ n ∧ n < i * sz' + f + v.cells.size
      · rw [if_pos (by omega), if_pos c1, getD_splice _ _ _ _ (by omega), if_pos (by omega), show n - i * sz' - f = n - (i * sz' + f) by omega]
        exact g1.2 _ (by omega)
      · rw [if_neg c1]
        have h5 := h3 n hn
        rw [getD_toList]
        by_cases c2 : i * sz' ≤ n ∧ n < i * sz' + sz'
        · rw [if_pos c2, getD_splice _ _ _ _ (by omega), if_neg (by omega)]
          have := flats_getD hro.hz i (n - i * sz') hi (by omega)
          rw [← this, show i * sz' + (n - i * sz') = n by omega]; exact h5
        · rw [if_neg c2]; exact h5
    · have h6 : fz * sz' ≤ i * sz' := Nat.mul_le_mul_right _ hfz
      have : (splice cs.toList (i * sz' + f) v.cells.toList)[o]? = cs.toList[o]? := by
        simp only [splice]
        rw [List.getElem?_append_left (by simp at hfit ⊢; omega), List.getElem?_append_left (by simp at hfit ⊢; omega), List.getElem?_take, if_pos (by omega)]
      simpa using this

theorem storeV_sound {σ : Mem} {t : TypeId} {x p : PV} {u v : Value} {k : Mem → Prop} (hm : SatM K σ w) (hx : VRel K w x u) (hv : VRel K w p v) (h : storeV P t x p σ k) :
    ∃ σ' w', (Instr.storeAt t u v).run P w = .ok () w' ∧ k σ' ∧ SatM K σ' w' ∧ Ext σ K w σ' K w' := by
  cases hx <;> (try exact h.elim)
  case bref b f =>
    obtain ⟨sz, es, fz, r, hl, h⟩ := h
    split at h
    case h_2 => exact h.elim
    rename_i e
    obtain ⟨hc, hk⟩ := chk_spec h
    simp only [Bool.and_eq_true, Nat.ble_eq, Nat.beq_eq, Nat.blt_eq] at hc
    obtain ⟨⟨⟨⟨hf, hsz⟩, rfl⟩, hc⟩, hpos⟩ := hc
    obtain ⟨w', h1, h2, h3⟩ := store_at (P := P) (i := 0) hm hv hl (by simp) hf hsz (Nat.le_refl _) hc hpos
    exact ⟨_, w', by simpa using h1, hk, h2, h3⟩
  case ref b sz i f =>
    obtain ⟨sz', es, fz, r, hl, h⟩ := h
    obtain ⟨hc, ⟨hi, hfz⟩, hk⟩ := chk_spec h
    simp only [Bool.and_eq_true, Nat.ble_eq, Nat.beq_eq, Nat.blt_eq] at hc
    obtain ⟨⟨⟨⟨rfl, hf⟩, hsz⟩, hc⟩, hpos⟩ := hc
    obtain ⟨w', h1, h2, h3⟩ := store_at (P := P) hm hv hl hi hf hsz hfz hc hpos
    exact ⟨_, w', h1, hk.all _ (getD_some hi), h2, h3⟩

/-! ### What a slice that is read has -/
theorem elemsOf_sound {d : Nat} {σ : Mem} {x : PV} {u : Value} {k : Nat → List PV → Prop} (hm : SatM K σ w) (hx : VRel K w x u) (h : elemsOf d x σ k) :
    ∃ sz ys, k sz ys ∧ (∀ y ∈ ys, y.flat.length = sz ∨ ys = []) ∧ (∃ a cap, u = .slice a ys.length cap ∧ (ys ≠ [] → ∃ b o, a = some ⟨b, o, none⟩ ∧
      ∃ vs : List Value, LRel K w (flats ys) vs ∧ ∀ j, j < vs.length → w.cell? ⟨b, o + j, none⟩ = some (vs.getD j undef))) ∧ (∀ y ∈ ys, y.flat.length = sz) := by
  by_cases hlit : ∃ a c, x = .lit (.slice a 0 c)
  · obtain ⟨a, c, rfl⟩ := hlit
    cases hx
    exact ⟨d, [], h, by simp, ⟨a, c, rfl, fun h => absurd rfl h⟩, by simp⟩
  cases hx <;> (try exact h.elim)
  case lit =>
    exfalso
    unfold elemsOf at h
    split at h <;> first | exact h | (rename_i e; exact hlit ⟨_, _, e⟩) | (rename_i e; cases e)
  case sl0 sz a cap => exact ⟨sz, [], h, by simp, ⟨a, cap, rfl, fun h => absurd rfl h⟩, by simp⟩
  case nils => exact ⟨d, [], h, by simp, ⟨none, 0, rfl, fun h => absurd rfl h⟩, by simp⟩
  case sl sz es b o cap hcap vs hz hk hv =>
    refine ⟨sz, es, h, fun y hy => .inl (hz y hy), ⟨_, cap, rfl, fun _ => ⟨b, o, rfl, (List.range (es.length * sz)).map fun n => vs (n / sz) (n % sz), ?_, fun j hj => ?_⟩⟩, hz⟩
    · refine ⟨by simp [flats_length hz], fun n hn => ?_⟩
      rw [flats_length hz] at hn
      have hsz : 0 < sz := by
        rcases Nat.eq_zero_or_pos sz with rfl | h0
        · simp at hn
        · exact h0
      have e : n = n / sz * sz + n % sz := by rw [Nat.mul_comm]; exact (Nat.div_add_mod n sz).symm
      have hq : n / sz < es.length := (Nat.div_lt_iff_lt_mul hsz).2 hn
      have hmm : n % sz < sz := Nat.mod_lt _ hsz
      have h1 := hv _ _ hq hmm
      rw [← flats_getD hz _ _ hq hmm, ← e] at h1
      simpa [List.getD_eq_getElem?_getD, hn] using h1
    · simp only [List.length_map, List.length_range] at hj
      have hsz : 0 < sz := by
        rcases Nat.eq_zero_or_pos sz with rfl | h0
        · simp at hj
        · exact h0
      have e : j = j / sz * sz + j % sz := by rw [Nat.mul_comm]; exact (Nat.div_add_mod j sz).symm
      have h1 := (hk _ _ ((Nat.div_lt_iff_lt_mul hsz).2 hj) (Nat.mod_lt j hsz)).2
      rw [Nat.add_assoc, ← e] at h1
      simpa [List.getD_eq_getElem?_getD, hj] using h1
  case rsl b sz i n o cap ho hc hs =>
    obtain ⟨sz', es, fz, r, hl, h⟩ := h
    obtain ⟨hc0, hin, hk⟩ := chk_spec h
    obtain rfl : sz' = sz := by simpa using hc0
    have hro : RowOk K w b sz' es fz := hm.blk _ hl.mem
    have hz : ∀ y ∈ (es.drop i).take n, y.flat.length = sz' := fun y hy => hro.hz y (List.mem_of_mem_drop (List.mem_of_mem_take hy))
    have hlen : ((es.drop i).take n).length = n := by simp; omega
    refine ⟨sz', _, hk, fun y hy => .inl (hz y hy), ⟨_, cap, by rw [hlen], fun hne => ⟨b, o, rfl, ?_⟩⟩, hz⟩
    have hn0 : n ≠ 0 := fun e => hne (by rw [e]; simp)
    have ho' := ho (.inl hn0)
    obtain ⟨cs, ty, h1, h2, h3⟩ := hro.flats
    have hb : i * sz' + n * sz' ≤ es.length * sz' := by rw [← Nat.add_mul]; exact Nat.mul_le_mul_right _ hin
    refine ⟨(List.range (n * sz')).map fun j => cs.getD (o + j) undef, ⟨by rw [flats_length hz, hlen]; simp, fun m hmm => ?_⟩, fun j hj => ?_⟩
    · rw [flats_length hz, hlen] at hmm
      have hsz : 0 < sz' := by
        rcases Nat.eq_zero_or_pos sz' with rfl | h0
        · simp at hmm
        · exact h0
      have e : m = m / sz' * sz' + m % sz' := by rw [Nat.mul_comm]; exact (Nat.div_add_mod m sz').symm
      have hq : m / sz' < n := (Nat.div_lt_iff_lt_mul hsz).2 hmm
      have hmo : m % sz' < sz' := Nat.mod_lt _ hsz
      have e2 : (flats ((es.drop i).take n)).getD m .dead = (flats es).getD (o + m) .dead := by
        rw [e, flats_getD hz _ _ (by rw [hlen]; exact hq) hmo]
        have : o + (m / sz' * sz' + m % sz') = (i + m / sz') * sz' + m % sz' := by rw [ho', Nat.add_mul]; omega
        rw [this, flats_getD hro.hz _ _ (by omega) hmo]
        congr 2
        simp [List.getD_eq_getElem?_getD, hq]
      rw [e2]
      have := h3 (o + m) (by omega)
      simpa [List.getD_eq_getElem?_getD, hmm] using this
    · simp only [List.length_map, List.length_range] at hj
      have hlt : o + j < cs.size := by omega
      simp [World.cell?, h1, hlt, List.getD_eq_getElem?_getD, hj, Array.getD]
end Go.Eng
end

/- The engine, part 6: append, copy, clear, make, literals in memory, strings that are gone through; what is owned becomes what nobody writes. -/
section
namespace Go.Eng
open Go

variable {P : Program} {K : Kn} {w : World}

theorem isSliceB_spec {t : TypeId} (h : isSliceB P t = true) : ∃ e, P.underlying t = some (.slice e) := by
  unfold isSliceB at h
  split at h
  · exact ⟨_, by assumption⟩
  · cases h

theorem isAppB_spec {t : TypeId} (h : isAppB P t = true) : (∃ e, P.underlying t = some (.slice e)) ∨ P.underlying t = some .string := by
  unfold isAppB at h
  split at h
  · exact .inl ⟨_, by assumption⟩
  · exact .inr (by assumption)
  · cases h
theorem run_app_room {ts : Array TypeId} {t t2 e ty : TypeId} {i : TypeInfo} (h0 : ts[0]? = some t) (h1 : ts[1]? = some t2) (ht : P.underlying t = some (.slice e)) (ht2 : isAppB P t2 = true)
    (hi : P.info? e = some i) (base : Option Addr) (n cap m : Nat) (x : Value) (hx : ∀ w, (Builtin.lenOf x).run P w = .ok m w) (news : List Value) (hf : (Builtin.firstCells i.size m x).run P w = .ok news.toArray w) (hroom : n + m ≤ cap) {w' : World}
    (hst : (match base with | some a => storeCells (a.add (n * i.size)) news | none => pure () : Sem Unit).run P w = .ok () w') :
    (Builtin.append_ ts ty #[.slice base n cap, x]).run P w = .ok (.slice base (n + m) cap) w' := by
  rcases isAppB_spec ht2 with ⟨e2, he2⟩ | he2 <;> cases base with
  | none => simp at hst; subst hst; simp [Builtin.append_, h0, h1, run_underlying ht, run_underlying he2, sizeOf, typeInfo, hi, hx, hroom, hf]
  | some b => simp only at hst; simp [Builtin.append_, h0, h1, run_underlying ht, run_underlying he2, sizeOf, typeInfo, hi, hx, hroom, hf, hst]

theorem run_app_grow {ts : Array TypeId} {t t2 e ty : TypeId} {i : TypeInfo} {z : Value} (h0 : ts[0]? = some t) (h1 : ts[1]? = some t2) (ht : P.underlying t = some (.slice e)) (ht2 : isAppB P t2 = true)
    (hi : P.info? e = some i) (hz : i.zero = some z) (base : Option Addr) (n cap m : Nat) (x : Value) (hx : ∀ w, (Builtin.lenOf x).run P w = .ok m w) (olds news : List Value)
    (hfo : (Builtin.firstCells i.size n (.slice base n cap)).run P w.drew = .ok olds.toArray w.drew)
    (hf : (Builtin.firstCells i.size m x).run P w.drew = .ok news.toArray w.drew) (hg : cap < n + m) (h63 : ((n + m : Nat) : Int) ≤ 9223372036854775807) (hfit : Builtin.nextslicecap (n + m) cap * i.bytes ≤ 281474976710656) :
    (Builtin.append_ ts ty #[.slice base n cap, x]).run P w =
      .ok (.slice (some ⟨w.heap.size, 0, none⟩) (n + m) (grownCap w (n + m) cap e)) (w.drew.alloc (.cells (olds.toArray ++ news.toArray ++ Builtin.zeroCells z.cells (grownCap w (n + m) cap e - (n + m))) e)) := by
  have hn : ¬ (n + m ≤ cap) := by omega
  have h63' : ¬ (9223372036854775807 < ((n : Int) + (m : Int))) := by omega
  have h48' : ¬ (281474976710656 < Builtin.nextslicecap (n + m) cap * i.bytes) := by omega
  rcases isAppB_spec ht2 with ⟨e2, he2⟩ | he2
  all_goals
    simp [Builtin.append_, h0, h1, run_underlying ht, run_underlying he2, sizeOf, typeInfo, zeroValue, hi, hz, hx, hn, h63', h48', Question.forced, hf, hfo, newRow, grownCap]
    congr 2
    apply Array.ext'
    simp [List.append_assoc]

theorem zeroOk_spec {e : TypeId} (h : zeroOk P e = true) : ∃ i z, P.info? e = some i ∧ i.zero = some z ∧ P.cellsOf e = i.size ∧ z.cells.size = i.size ∧ 0 < i.size ∧ 0 < i.bytes ∧ zeroV P e = ofV z := by
  unfold zeroOk at h
  simp only [Bool.and_eq_true, Nat.beq_eq, Nat.blt_eq] at h
  obtain ⟨⟨⟨h1, h2⟩, h3⟩, h4⟩ := h
  obtain ⟨i, z, hi, hz, hv⟩ := zeroV_rel h2
  have hc : P.cellsOf e = i.size := by simp [Program.cellsOf, hi]
  have hb : P.bytesOf e = i.bytes := by simp [Program.bytesOf, hi]
  refine ⟨i, z, hi, hz, hc, ?_, by omega, by omega, hv⟩
  have := (flat_LRel (K := fun _ _ => False) (w := default) (ofV_rel z) ⟨z, rfl, rfl⟩).1
  rw [hv] at h1
  simp only [Array.length_toList] at this
  omega

theorem first_of {σ : Mem} {sz : Nat} {ys : List PV} {a : Option Addr} {cap : Nat} {vs : List Value} {b o : Nat} (ha : a = some ⟨b, o, none⟩) (hL : LRel K w (flats ys) vs) (hz : ∀ y ∈ ys, y.flat.length = sz)
    (hc : ∀ j, j < vs.length → w.cell? ⟨b, o + j, none⟩ = some (vs.getD j undef)) (_ : σ = σ) : (Builtin.firstCells sz ys.length (.slice a ys.length cap)).run P w = .ok vs.toArray w := by
  subst ha
  have hl : vs.length = ys.length * sz := by rw [← hL.1, flats_length hz]
  exact run_firstCells_some (P := P) w sz ys.length ⟨b, o, none⟩ ys.length cap vs hl (fun j v hj => by
    rw [addr_add]
    have hlt : j < vs.length := (List.getElem?_eq_some_iff.1 hj).1
    rw [hc j hlt]
    simp [List.getD_eq_getElem?_getD, hj])

theorem one_of_cellsB {ys : List PV} {vs : List Value} (hL : LRel K w (flats ys) vs) (hc : ∀ y ∈ ys, cellsB y = true) : ∀ v ∈ vs, v.oneCell' = true := by
  intro v hv
  obtain ⟨j, hj, rfl⟩ := List.getElem_of_mem hv
  have h1 := hL.2 j (by rw [hL.1]; exact hj)
  have hj' : j < (flats ys).length := by rw [hL.1]; exact hj
  have h2 : (flats ys).getD j .dead = (flats ys)[j] := by simp [List.getD_eq_getElem?_getD, hj']
  have h3 : vs.getD j undef = vs[j] := by simp [List.getD_eq_getElem?_getD, hj]
  rw [h2, h3] at h1
  have h4 := List.getElem_mem hj'
  obtain ⟨y, hy, hm⟩ := List.mem_flatMap.1 h4
  have h5 := List.all_eq_true.1 (hc y hy) _ hm
  generalize (flats ys)[j] = q at h1 h5
  generalize vs[j] = u at h1 ⊢
  cases h1 <;> first | rfl | exact h5 | cases h5

theorem flats_append (xs ys : List PV) : flats (xs ++ ys) = flats xs ++ flats ys := by simp [flats]

theorem ownSl_rel {e b sz n cap : Nat} (hc : n ≤ cap) (hs : ∃ m, w.shape? b = some (e, m) ∧ cap * sz ≤ m) : VRel K w (ownSl P e b sz n) (.slice (some ⟨b, 0, none⟩) n cap) := by
  obtain ⟨m, h1, h2⟩ := hs
  unfold ownSl
  split
  · split
    · exact .bsl _ _ _ _ hc ⟨m, h1, by omega⟩
    · exact .rsl _ _ 0 _ 0 _ (fun _ => by simp) hc ⟨e, m, h1, by omega⟩
  · exact .rsl _ _ 0 _ 0 _ (fun _ => by simp) hc ⟨e, m, h1, by omega⟩
theorem srcOf_sound {d : Nat} {σ : Mem} {x : PV} {u : Value} {k : Nat → List PV → Prop} (hm : SatM K σ w) (hx : VRel K w x u) (h : srcOf d x σ k) :
    ∃ sz ys, k sz ys ∧ (∀ w, (Builtin.lenOf u).run P w = .ok ys.length w) ∧ (∀ y ∈ ys, y.flat.length = sz) ∧ (∃ news : List Value, LRel K w (flats ys) news ∧ (Builtin.firstCells sz ys.length u).run P w = .ok news.toArray w ∧
      (Builtin.firstCells sz ys.length u).run P w.drew = .ok news.toArray w.drew ∧ news.length = ys.length * sz) := by
  by_cases hs : ∃ s, x = .str s
  · obtain ⟨s, rfl⟩ := hs
    cases hx
    have hf : ∀ w : World, (Builtin.firstCells 1 s.length (.string ⟨s.toArray⟩)).run P w = .ok (s.map fun c => Value.int .u8 c.toNat).toArray w := fun w => by
      have e : (ByteArray.extract ⟨s.toArray⟩ 0 s.length).data = s.toArray := by rw [ByteArray.data_extract]; simp
      simp only [Builtin.firstCells, e]
      simp
    refine ⟨1, _, h, fun w => by simp [Builtin.lenOf, ByteArray.size], fun y hy => ?_, s.map fun c => Value.int .u8 c.toNat, ?_, by rw [List.length_map]; exact hf w, by rw [List.length_map]; exact hf w.drew, by simp⟩
    · obtain ⟨c, _, rfl⟩ := List.mem_map.1 hy
      rfl
    · have hfl : ∀ s : List UInt8, flats (s.map fun c : UInt8 => PV.int .u8 c.toNat) = s.map fun c : UInt8 => PV.int .u8 c.toNat := fun s => by
        induction s with
        | nil => rfl
        | cons c s ih => simp only [List.map_cons, flats, List.flatMap_cons] at ih ⊢; rw [ih]; rfl
      rw [hfl]
      refine ⟨by simp, fun i hi => ?_⟩
      have hi' : i < s.length := by simpa using hi
      simp only [List.getD_eq_getElem?_getD, List.getElem?_map, List.getElem?_eq_getElem hi', Option.map_some, Option.getD_some]
      exact .int _ _
  · have h' : elemsOf d x σ k := by
      unfold srcOf at h
      split at h
      · exact absurd ⟨_, rfl⟩ hs
      · exact h
    obtain ⟨sz, ys, hk, _, ⟨a, cap', rfl, hsrc⟩, hzy⟩ := elemsOf_sound hm hx h'
    refine ⟨sz, ys, hk, fun w => by simp [Builtin.lenOf], hzy, ?_⟩
    by_cases hy0 : ys = []
    · subst hy0
      have hf0 : ∀ w : World, (Builtin.firstCells sz 0 (.slice a 0 cap')).run P w = .ok #[] w := fun w => by
        cases a with
        | none => rfl
        | some a => simp [Builtin.firstCells, loadCells, loadCellsFrom]
      exact ⟨[], ⟨rfl, fun i hi => by simp [flats] at hi⟩, hf0 w, hf0 w.drew, by simp⟩
    · obtain ⟨b, o, ha, vs, hL, hc⟩ := hsrc hy0
      exact ⟨vs, hL, first_of (σ := σ) ha hL hzy hc rfl, first_of (K := K) (w := w.drew) (σ := σ) ha ⟨hL.1, fun j hj => VRel.mono (w := w) (w' := w.drew) (fun _ _ h => ⟨h, rfl⟩) (fun _ _ h => h) (hL.2 j hj)⟩ hzy hc rfl, by rw [← hL.1, flats_length hzy]⟩
def Grown (K : Kn) (σ r : Mem) (w : World) (b b' : Nat) (c1 c2 : Cont) (w' : World) : Prop :=
  (b' = b ∧ SatM K (⟨b', c1⟩ :: r) w' ∧ Ext σ K w (⟨b', c1⟩ :: r) K w') ∨ ((∀ z ∈ σ, z.b ≠ b') ∧ SatM K (⟨b', c2⟩ :: σ) w' ∧ Ext σ K w (⟨b', c2⟩ :: σ) K w')
theorem Grown.drop {σ r : Mem} {b b' : Nat} {c c0 : Cont} {w' : World} (h : Grown K σ r w b b' c c w') (hl : Look σ b c0 r) : (b' = b ∨ ∀ z ∈ σ, z.b ≠ b') ∧ SatM K (⟨b', c⟩ :: r) w' ∧ Ext σ K w (⟨b', c⟩ :: r) K w' := by
  rcases h with ⟨h1, h2, h3⟩ | ⟨h1, h2, h3⟩
  · exact ⟨.inl h1, h2, h3⟩
  · have hsub : (⟨b', c⟩ :: r : Mem).Sublist (⟨b', c⟩ :: ⟨b, c0⟩ :: r) := List.Sublist.cons_cons _ (List.sublist_cons_self _ _)
    have hperm : (⟨b', c⟩ :: σ : Mem).Perm (⟨b', c⟩ :: ⟨b, c0⟩ :: r) := (hl.perm).cons _
    exact ⟨.inr h1, (h2.perm hperm).drop hsub, (h3.perm (.refl _) hperm).trans (Ext.drop hsub)⟩
theorem append_own {σ : Mem} {ts : Array TypeId} {t t2 e ty : TypeId} (h0 : ts[0]? = some t) (h1 : ts[1]? = some t2) (ht2 : isAppB P t2 = true) (he : P.underlying t = some (.slice e)) (hm : SatM K σ w) {i : TypeInfo} {z : Value}
    (hi : P.info? e = some i) (hz : i.zero = some z) (hzs : z.cells.size = i.size) (hby : 0 < i.bytes) {ys : List PV} {x : Value} (hx : ∀ w, (Builtin.lenOf x).run P w = .ok ys.length w) {news : List Value} (hL : LRel K w (flats ys) news)
    (hf : (Builtin.firstCells i.size ys.length x).run P w = .ok news.toArray w) (hfd : (Builtin.firstCells i.size ys.length x).run P w.drew = .ok news.toArray w.drew) (hnl : news.length = ys.length * i.size)
    (hone : ∀ v ∈ news, v.oneCell' = true) (hzi : ∀ y ∈ ys, y.flat.length = i.size) (hdrew : SatM K σ w.drew) {b fz : Nat} {es : List PV} {r : Mem} (hl : Look σ b (.row i.size es fz) r) {cap e' mm : Nat} (q1 : w.shape? b = some (e', mm)) (q2 : 0 + cap * i.size ≤ mm) (hc : es.length ≤ cap)
    (hb : (es.length + ys.length) * i.bytes ≤ 140737488355328) :
    ∃ b' cap2 w', (Builtin.append_ ts ty #[.slice (some ⟨b, 0, none⟩) es.length cap, x]).run P w = .ok (.slice (some ⟨b', 0, none⟩) (es.length + ys.length) cap2) w' ∧ es.length + ys.length ≤ cap2 ∧
      (∃ e2 m, w'.shape? b' = some (e2, m) ∧ 0 + cap2 * i.size ≤ m ∧ (e2 = e' ∨ e2 = e)) ∧ Grown K σ r w b b' (.row i.size (es ++ ys) fz) (.row i.size (es ++ ys) fz) w' := by
  have hro : RowOk K w b i.size es fz := hm.blk _ hl.mem
  obtain ⟨cs, ty', g1, g2, g3⟩ := hro.flats
  have hmm : mm = cs.size := by simp [World.shape?, g1] at q1; exact q1.2.symm
  subst hmm
  have hfl := flats_length hro.hz
  have hzz : ∀ x ∈ es ++ ys, x.flat.length = i.size := fun x hx => by
    rcases List.mem_append.1 hx with h | h
    · exact hro.hz x h
    · exact hzi x h
  by_cases hroom : es.length + ys.length ≤ cap
  · have hbd : (es.length + ys.length) * i.size ≤ cap * i.size := Nat.mul_le_mul_right _ hroom
    rw [Nat.add_mul] at hbd
    have hst := run_storeCells_at P b (es.length * i.size) ty' news 0 cs w g1 (by omega) hone
    simp only [Nat.add_zero] at hst
    have hfit : es.length * i.size + news.length ≤ cs.toList.length := by simp; omega
    have hr := run_app_room (ty := ty) h0 h1 he ht2 hi (some ⟨b, 0, none⟩) es.length cap ys.length x hx news hf hroom (by simp only [addr_add, Nat.zero_add]; exact hst)
    obtain ⟨s1, s2⟩ := row_written (es' := es ++ ys) (cs' := (splice cs.toList (es.length * i.size) news).toArray) hm hl g1 (by simp [length_splice _ _ _ hfit]) hzz (by have := hro.le; simp; omega) (by simp [Nat.add_mul]; omega)
      (fun m hmm => by
        simp only [List.length_append, Nat.add_mul] at hmm
        rw [getD_toArray, getD_splice _ _ _ _ hfit, flats_append]
        by_cases c1 : m < es.length * i.size
        · rw [if_neg (by omega), getD_toList]
          have := g3 m c1
          simpa [List.getD_eq_getElem?_getD, List.getElem?_append, hfl, c1] using this
        · rw [if_pos (by omega)]
          have := hL.2 (m - es.length * i.size) (by rw [flats_length hzi]; omega)
          simpa [List.getD_eq_getElem?_getD, List.getElem?_append, hfl, c1] using this)
      (fun o ho => by
        have h6 : fz * i.size ≤ es.length * i.size := Nat.mul_le_mul_right _ hro.le
        have : (splice cs.toList (es.length * i.size) news)[o]? = cs.toList[o]? := by
          simp only [splice]
          rw [List.getElem?_append_left (by simp at hfit ⊢; omega), List.getElem?_append_left (by simp at hfit ⊢; omega), List.getElem?_take, if_pos (by omega)]
        simpa using this)
    exact ⟨b, cap, _, hr, hroom, ⟨e', cs.size, setRow_shape g1 (by have := length_splice _ _ _ hfit; simpa [splice] using this) q1, q2, .inl rfl⟩, .inl ⟨rfl, s1, s2⟩⟩
  · have hb2 : (es.length + ys.length) * 1 ≤ (es.length + ys.length) * i.bytes := Nat.mul_le_mul_left _ hby
    have holds : LRel K w.drew (flats es) ((List.range (es.length * i.size)).map fun n => cs.getD n undef) := ⟨by simp [hfl], fun n hn => by
      rw [hfl] at hn
      have := g3 n hn
      refine VRel.mono (w := w) (w' := w.drew) (fun _ _ h => ⟨h, rfl⟩) (fun _ _ h => h) ?_
      simpa [List.getD_eq_getElem?_getD, hn] using this⟩
    have hfo : (Builtin.firstCells i.size es.length (.slice (some ⟨b, 0, none⟩) es.length cap)).run P w.drew = .ok ((List.range (es.length * i.size)).map fun n => cs.getD n undef).toArray w.drew :=
      first_of (σ := σ) rfl holds hro.hz (fun j hj => by
        simp only [List.length_map, List.length_range] at hj
        have hlt : j < cs.size := by omega
        show w.cell? _ = _
        simp [World.cell?, g1, hlt, List.getD_eq_getElem?_getD, hj, Array.getD]) rfl
    have hr := run_app_grow (ty := ty) h0 h1 he ht2 hi hz (some ⟨b, 0, none⟩) es.length cap ys.length x hx _ news hfo hfd (by omega) (by omega) (growslice_fits (by omega) hb)
    have hge := grownCap_ge w (es.length + ys.length) cap e
    have hsz : (((List.range (es.length * i.size)).map fun n => cs.getD n undef).toArray ++ news.toArray ++ Builtin.zeroCells z.cells (grownCap w (es.length + ys.length) cap e - (es.length + ys.length))).size = grownCap w (es.length + ys.length) cap e * i.size := by
      simp only [Array.size_append, List.size_toArray, size_zeroCells, List.length_map, List.length_range, hnl, hzs]
      rw [← Nat.add_mul, ← Nat.add_mul]; congr 1; omega
    have hle : (es.length + ys.length) * i.size ≤ grownCap w (es.length + ys.length) cap e * i.size := Nat.mul_le_mul_right _ hge
    have hnew := new_row hdrew e i.size (es ++ ys) fz (by have := hro.le; simp; omega) (((List.range (es.length * i.size)).map fun n => cs.getD n undef).toArray ++ news.toArray ++ Builtin.zeroCells z.cells (grownCap w (es.length + ys.length) cap e - (es.length + ys.length))) hzz (by rw [hsz]; simpa using hle)
      (fun m hmm => by
        simp only [List.length_append, Nat.add_mul] at hmm hle
        have e1 : (((List.range (es.length * i.size)).map fun n => cs.getD n undef).toArray ++ news.toArray ++ Builtin.zeroCells z.cells (grownCap w (es.length + ys.length) cap e - (es.length + ys.length))).getD m undef =
            (((List.range (es.length * i.size)).map fun n => cs.getD n undef) ++ news).getD m undef := by
          have hlt : m < (((List.range (es.length * i.size)).map fun n => cs.getD n undef).toArray ++ news.toArray).size := by simp; omega
          have hlt2 : m < (((List.range (es.length * i.size)).map fun n => cs.getD n undef).toArray ++ news.toArray ++ Builtin.zeroCells z.cells (grownCap w (es.length + ys.length) cap e - (es.length + ys.length))).size := by rw [hsz]; omega
          have hlt3 : m < (((List.range (es.length * i.size)).map fun n => cs.getD n undef) ++ news).length := by simp; omega
          rw [Array.getD_eq_getD_getElem?, Array.getElem?_append_left hlt]
          simp [List.getD_eq_getElem?_getD, ← List.getElem?_toArray]
        rw [e1, flats_append]
        by_cases c1 : m < es.length * i.size
        · have := holds.2 m (by rw [hfl]; exact c1)
          simpa [List.getD_eq_getElem?_getD, List.getElem?_append, hfl, c1] using this
        · have := hL.2 (m - es.length * i.size) (by rw [flats_length hzi]; omega)
          have := VRel.mono (w := w) (w' := w.drew) (fun _ _ h => ⟨h, rfl⟩) (fun _ _ h => h) this
          simpa [List.getD_eq_getElem?_getD, List.getElem?_append, hfl, c1] using this)
    exact ⟨w.drew.heap.size, _, _, hr, hge, ⟨e, _, shape_new e _, by rw [hsz]; omega, .inr rfl⟩, .inr ⟨fresh_new hdrew, hnew, (Ext.drawn σ K w _).trans (ext_alloc hdrew _ _)⟩⟩

theorem append_mid {σ : Mem} {ts : Array TypeId} {t t2 e ty : TypeId} (h0 : ts[0]? = some t) (h1 : ts[1]? = some t2) (ht2 : isAppB P t2 = true) (he : P.underlying t = some (.slice e)) (hm : SatM K σ w) {i : TypeInfo} {z : Value}
    (hi : P.info? e = some i) (hz : i.zero = some z) (hzs : z.cells.size = i.size) (hby : 0 < i.bytes) {ys : List PV} {x : Value} (hx : ∀ w, (Builtin.lenOf x).run P w = .ok ys.length w) {news : List Value} (hL : LRel K w (flats ys) news)
    (hf : (Builtin.firstCells i.size ys.length x).run P w = .ok news.toArray w) (hfd : (Builtin.firstCells i.size ys.length x).run P w.drew = .ok news.toArray w.drew) (hnl : news.length = ys.length * i.size)
    (hone : ∀ v ∈ news, v.oneCell' = true) (hzi : ∀ y ∈ ys, y.flat.length = i.size) (hdrew : SatM K σ w.drew) {b fz : Nat} {es : List PV} {r : Mem} (hl : Look σ b (.row i.size es fz) r) {n : Nat} (hne : n ≤ es.length) (hfz : fz ≤ n) {cap e' mm : Nat} (q1 : w.shape? b = some (e', mm)) (q2 : 0 + cap * i.size ≤ mm) (hc : n ≤ cap)
    (hb : (n + ys.length) * i.bytes ≤ 140737488355328) :
    ∃ b' cap2 w', (Builtin.append_ ts ty #[.slice (some ⟨b, 0, none⟩) n cap, x]).run P w = .ok (.slice (some ⟨b', 0, none⟩) (n + ys.length) cap2) w' ∧ n + ys.length ≤ cap2 ∧
      (∃ e2 m, w'.shape? b' = some (e2, m) ∧ 0 + cap2 * i.size ≤ m) ∧ Grown K σ r w b b' (.row i.size (es.take n ++ ys ++ es.drop (n + ys.length)) fz) (.row i.size (es.take n ++ ys) fz) w' := by
  have hro : RowOk K w b i.size es fz := hm.blk _ hl.mem
  obtain ⟨cs, ty', g1, g2, g3⟩ := hro.flats
  have hmm : mm = cs.size := by simp [World.shape?, g1] at q1; exact q1.2.symm
  subst hmm
  have hfl := flats_length hro.hz
  have htl : (es.take n).length = n := by simp; omega
  have hzt : ∀ x ∈ es.take n, x.flat.length = i.size := fun x hx => hro.hz x (List.mem_of_mem_take hx)
  have hzz : ∀ x ∈ es.take n ++ ys, x.flat.length = i.size := fun x hx => by
    rcases List.mem_append.1 hx with h | h
    · exact hzt x h
    · exact hzi x h
  have hzd : ∀ x ∈ es.take n ++ ys ++ es.drop (n + ys.length), x.flat.length = i.size := fun x hx => by
    rcases List.mem_append.1 hx with h | h
    · exact hzz x h
    · exact hro.hz x (List.mem_of_mem_drop h)
  have hns : n * i.size ≤ es.length * i.size := Nat.mul_le_mul_right _ hne
  have hft : (flats (es.take n)).length = n * i.size := by rw [flats_length hzt, htl]
  have hgt : ∀ m, m < n * i.size → (flats (es.take n)).getD m .dead = (flats es).getD m .dead := fun m hmn => by
    have e3 : flats es = flats (es.take n) ++ flats (es.drop n) := by rw [← flats_append, List.take_append_drop]
    rw [e3, List.getD_eq_getElem?_getD, List.getD_eq_getElem?_getD, List.getElem?_append_left (by rw [hft]; exact hmn)]
  by_cases hroom : n + ys.length ≤ cap
  · have hbd : (n + ys.length) * i.size ≤ cap * i.size := Nat.mul_le_mul_right _ hroom
    have hbd2 := hbd
    rw [Nat.add_mul] at hbd
    have hst := run_storeCells_at P b (n * i.size) ty' news 0 cs w g1 (by omega) hone
    simp only [Nat.add_zero] at hst
    have hfit : n * i.size + news.length ≤ cs.toList.length := by simp; omega
    have hr := run_app_room (ty := ty) h0 h1 he ht2 hi (some ⟨b, 0, none⟩) n cap ys.length x hx news hf hroom (by simp only [addr_add, Nat.zero_add]; exact hst)
    have hsl : (splice cs.toList (n * i.size) news).length = cs.toList.length := length_splice _ _ _ hfit
    have hlen : (es.take n ++ ys ++ es.drop (n + ys.length)).length * i.size ≤ cs.size := by
      simp only [List.length_append, htl, List.length_drop]
      by_cases hle : n + ys.length ≤ es.length
      · rw [show n + ys.length + (es.length - (n + ys.length)) = es.length by omega]; exact g2
      · rw [show n + ys.length + (es.length - (n + ys.length)) = n + ys.length by omega]; omega
    obtain ⟨s1, s2⟩ := row_written (es' := es.take n ++ ys ++ es.drop (n + ys.length)) (cs' := (splice cs.toList (n * i.size) news).toArray) hm hl g1 (by simp [hsl]) hzd (by simp; omega) (by simpa [hsl] using hlen)
      (fun m hmm => by
        rw [getD_toArray, getD_splice _ _ _ _ hfit, flats_append, flats_append]
        by_cases c1 : m < n * i.size
        · rw [if_neg (by omega), getD_toList]
          have h1 := g3 m (by omega)
          have h2 := hgt m c1
          rw [List.append_assoc, List.getD_eq_getElem?_getD, List.getElem?_append_left (by rw [hft]; exact c1), ← List.getD_eq_getElem?_getD, h2]
          exact h1
        · by_cases c2 : m < n * i.size + news.length
          · rw [if_pos (by omega)]
            have hfy : (flats ys).length = ys.length * i.size := flats_length hzi
            have h1 := hL.2 (m - n * i.size) (by rw [hfy]; omega)
            rw [List.getD_eq_getElem?_getD, List.getElem?_append_left (by rw [List.length_append, hft, hfy]; omega), List.getElem?_append_right (by rw [hft]; omega), hft, ← List.getD_eq_getElem?_getD]
            exact h1
          · rw [if_neg (by omega), getD_toList]
            have hfy : (flats ys).length = ys.length * i.size := flats_length hzi
            simp only [List.length_append, htl, List.length_drop] at hmm
            have hle : n + ys.length ≤ es.length := by
              apply Classical.byContradiction
              intro hh
              rw [show n + ys.length + (es.length - (n + ys.length)) = n + ys.length by omega, Nat.add_mul] at hmm
              omega
            rw [show n + ys.length + (es.length - (n + ys.length)) = es.length by omega] at hmm
            have h1 := g3 m hmm
            have hft2 : (flats (es.take (n + ys.length))).length = (n + ys.length) * i.size := by
              rw [flats_length (fun x hx => hro.hz x (List.mem_of_mem_take hx))]; congr 1; simp; omega
            have e3 : flats es = flats (es.take (n + ys.length)) ++ flats (es.drop (n + ys.length)) := by rw [← flats_append, List.take_append_drop]
            rw [Nat.add_mul] at hft2
            rw [e3, List.getD_eq_getElem?_getD, List.getElem?_append_right (by rw [hft2]; omega), hft2] at h1
            rw [List.getD_eq_getElem?_getD, List.getElem?_append_right (by rw [List.length_append, hft, hfy]; omega), List.length_append, hft, hfy]
            exact h1)
      (fun o ho => by
        have h6 : fz * i.size ≤ n * i.size := Nat.mul_le_mul_right _ hfz
        have : (splice cs.toList (n * i.size) news)[o]? = cs.toList[o]? := by
          simp only [splice]
          rw [List.getElem?_append_left (by simp at hfit ⊢; omega), List.getElem?_append_left (by simp at hfit ⊢; omega), List.getElem?_take, if_pos (by omega)]
        simpa using this)
    exact ⟨b, cap, _, hr, hroom, ⟨e', cs.size, setRow_shape g1 (by simpa [splice] using hsl) q1, q2⟩, .inl ⟨rfl, s1, s2⟩⟩
  · have hb2 : (n + ys.length) * 1 ≤ (n + ys.length) * i.bytes := Nat.mul_le_mul_left _ hby
    have holds : LRel K w.drew (flats (es.take n)) ((List.range (n * i.size)).map fun n => cs.getD n undef) := ⟨by simp [hft], fun m hm' => by
      rw [hft] at hm'
      have := g3 m (by omega)
      rw [hgt m hm']
      refine VRel.mono (w := w) (w' := w.drew) (fun _ _ h => ⟨h, rfl⟩) (fun _ _ h => h) ?_
      simpa [List.getD_eq_getElem?_getD, hm'] using this⟩
    have hfo : (Builtin.firstCells i.size (es.take n).length (.slice (some ⟨b, 0, none⟩) (es.take n).length cap)).run P w.drew = .ok ((List.range (n * i.size)).map fun n => cs.getD n undef).toArray w.drew :=
      first_of (σ := σ) rfl holds hzt (fun j hj => by
        simp only [List.length_map, List.length_range] at hj
        have hlt : j < cs.size := by omega
        show w.cell? _ = _
        simp [World.cell?, g1, hlt, List.getD_eq_getElem?_getD, hj, Array.getD]) rfl
    rw [htl] at hfo
    have hr := run_app_grow (ty := ty) h0 h1 he ht2 hi hz (some ⟨b, 0, none⟩) n cap ys.length x hx _ news hfo hfd (by omega) (by omega) (growslice_fits (by omega) hb)
    have hge := grownCap_ge w (n + ys.length) cap e
    have hsz : (((List.range (n * i.size)).map fun n => cs.getD n undef).toArray ++ news.toArray ++ Builtin.zeroCells z.cells (grownCap w (n + ys.length) cap e - (n + ys.length))).size = grownCap w (n + ys.length) cap e * i.size := by
      simp only [Array.size_append, List.size_toArray, size_zeroCells, List.length_map, List.length_range, hnl, hzs]
      rw [← Nat.add_mul, ← Nat.add_mul]; congr 1; omega
    have hle : (n + ys.length) * i.size ≤ grownCap w (n + ys.length) cap e * i.size := Nat.mul_le_mul_right _ hge
    have hl2 : (es.take n ++ ys).length = n + ys.length := by rw [List.length_append, htl]
    have hnew := new_row hdrew e i.size (es.take n ++ ys) fz (by rw [hl2]; omega) (((List.range (n * i.size)).map fun n => cs.getD n undef).toArray ++ news.toArray ++ Builtin.zeroCells z.cells (grownCap w (n + ys.length) cap e - (n + ys.length))) hzz (by rw [hsz, hl2]; exact hle)
      (fun m hmm => by
        rw [hl2, Nat.add_mul] at hmm
        rw [Nat.add_mul] at hle
        have e1 : (((List.range (n * i.size)).map fun n => cs.getD n undef).toArray ++ news.toArray ++ Builtin.zeroCells z.cells (grownCap w (n + ys.length) cap e - (n + ys.length))).getD m undef =
            (((List.range (n * i.size)).map fun n => cs.getD n undef) ++ news).getD m undef := by
          have hlt : m < (((List.range (n * i.size)).map fun n => cs.getD n undef).toArray ++ news.toArray).size := by simp; omega
          rw [Array.getD_eq_getD_getElem?, Array.getElem?_append_left hlt]
          simp [List.getD_eq_getElem?_getD, ← List.getElem?_toArray]
        rw [e1, flats_append]
        by_cases c1 : m < n * i.size
        · have := holds.2 m (by rw [hft]; exact c1)
          simpa [List.getD_eq_getElem?_getD, List.getElem?_append, hft, c1] using this
        · have := hL.2 (m - n * i.size) (by rw [flats_length hzi]; omega)
          have := VRel.mono (w := w) (w' := w.drew) (fun _ _ h => ⟨h, rfl⟩) (fun _ _ h => h) this
          simpa [List.getD_eq_getElem?_getD, List.getElem?_append, hft, c1] using this)
    exact ⟨w.drew.heap.size, _, _, hr, hge, ⟨e, _, shape_new e _, by rw [hsz]; omega⟩, .inr ⟨fresh_new hdrew, hnew, (Ext.drawn σ K w _).trans (ext_alloc hdrew _ _)⟩⟩

theorem append_at {σ : Mem} {ts : Array TypeId} {t t2 e ty : TypeId} (h0 : ts[0]? = some t) (h1 : ts[1]? = some t2) (ht2 : isAppB P t2 = true) (he : P.underlying t = some (.slice e)) (hm : SatM K σ w) {i : TypeInfo} {z : Value}
    (hi : P.info? e = some i) (hz : i.zero = some z) (hzs : z.cells.size = i.size) (hby : 0 < i.bytes) {ys : List PV} {x : Value} (hx : ∀ w, (Builtin.lenOf x).run P w = .ok ys.length w) {news : List Value} (hL : LRel K w (flats ys) news)
    (hf : (Builtin.firstCells i.size ys.length x).run P w = .ok news.toArray w) (hfd : (Builtin.firstCells i.size ys.length x).run P w.drew = .ok news.toArray w.drew) (hnl : news.length = ys.length * i.size)
    (hone : ∀ v ∈ news, v.oneCell' = true) (hzi : ∀ y ∈ ys, y.flat.length = i.size) (hdrew : SatM K σ w.drew) {b : Nat} {es : List PV} {r : Mem} (hl : Look σ b (.row i.size es 0) r) {cap e' mm q n : Nat} (hq : q + n = es.length) (q1 : w.shape? b = some (e', mm)) (q2 : q * i.size + cap * i.size ≤ mm) (_hc : n ≤ cap)
    (hb : (n + ys.length) * i.bytes ≤ 140737488355328) :
    ∃ b' pre cap2 w', (Builtin.append_ ts ty #[.slice (some ⟨b, q * i.size, none⟩) n cap, x]).run P w = .ok (.slice (some ⟨b', pre.length * i.size, none⟩) (n + ys.length) cap2) w' ∧ n + ys.length ≤ cap2 ∧
      (∃ e2 m, w'.shape? b' = some (e2, m) ∧ pre.length * i.size + cap2 * i.size ≤ m) ∧ ((b' = b → pre = es.take q) ∧ (b' ≠ b → pre = [])) ∧ Grown K σ r w b b' (.row i.size (pre ++ (es.drop q ++ ys)) 0) (.row i.size (pre ++ (es.drop q ++ ys)) 0) w' := by
  have hro : RowOk K w b i.size es 0 := hm.blk _ hl.mem
  obtain ⟨cs, ty', g1, g2, g3⟩ := hro.flats
  have hmm : mm = cs.size := by simp [World.shape?, g1] at q1; exact q1.2.symm
  subst hmm
  have hfl := flats_length hro.hz
  have hzz : ∀ x ∈ es ++ ys, x.flat.length = i.size := fun x hx => by
    rcases List.mem_append.1 hx with h | h
    · exact hro.hz x h
    · exact hzi x h
  have hqn : q * i.size + n * i.size = es.length * i.size := by rw [← Nat.add_mul, hq]
  by_cases hroom : n + ys.length ≤ cap
  · have hbd : (n + ys.length) * i.size ≤ cap * i.size := Nat.mul_le_mul_right _ hroom
    rw [Nat.add_mul] at hbd
    have hst := run_storeCells_at P b (es.length * i.size) ty' news 0 cs w g1 (by omega) hone
    simp only [Nat.add_zero] at hst
    have hfit : es.length * i.size + news.length ≤ cs.toList.length := by simp; omega
    have hr := run_app_room (ty := ty) h0 h1 he ht2 hi (some ⟨b, q * i.size, none⟩) n cap ys.length x hx news hf hroom (by simp only [addr_add, hqn]; exact hst)
    obtain ⟨s1, s2⟩ := row_written (es' := es ++ ys) (cs' := (splice cs.toList (es.length * i.size) news).toArray) hm hl g1 (by simp [length_splice _ _ _ hfit]) hzz (by simp) (by simp [Nat.add_mul]; omega)
      (fun m hmm => by
        simp only [List.length_append, Nat.add_mul] at hmm
        rw [getD_toArray, getD_splice _ _ _ _ hfit, flats_append]
        by_cases c1 : m < es.length * i.size
        · rw [if_neg (by omega), getD_toList]
          have := g3 m c1
          simpa [List.getD_eq_getElem?_getD, List.getElem?_append, hfl, c1] using this
        · rw [if_pos (by omega)]
          have := hL.2 (m - es.length * i.size) (by rw [flats_length hzi]; omega)
          simpa [List.getD_eq_getElem?_getD, List.getElem?_append, hfl, c1] using this)
      (fun o ho => by simp at ho)
    have e1 : es.take q ++ (es.drop q ++ ys) = es ++ ys := by rw [← List.append_assoc, List.take_append_drop]
    have e2 : (es.take q).length = q := by simp; omega
    refine ⟨b, es.take q, cap, _, by rw [e2]; exact hr, hroom, ⟨e', cs.size, setRow_shape g1 (by have := length_splice _ _ _ hfit; simpa [splice] using this) q1, by rw [e2]; exact q2⟩, ⟨fun _ => rfl, fun h => absurd rfl h⟩, .inl ⟨rfl, ?_, ?_⟩⟩
    · rw [e1]; exact s1
    · rw [e1]; exact s2
  · have hb2 : (n + ys.length) * 1 ≤ (n + ys.length) * i.bytes := Nat.mul_le_mul_left _ hby
    have hze : ∀ x ∈ es.drop q, x.flat.length = i.size := fun x hx => hro.hz x (List.mem_of_mem_drop hx)
    have hfe : (flats (es.drop q)).length = n * i.size := by rw [flats_length hze]; congr 1; simp; omega
    have hdl : (es.drop q).length = n := by simp; omega
    have hge0 : ∀ m, m < n * i.size → (flats (es.drop q)).getD m .dead = (flats es).getD (q * i.size + m) .dead := fun m hmn => by
      have e3 : flats es = flats (es.take q) ++ flats (es.drop q) := by rw [← flats_append, List.take_append_drop]
      have e4 : (flats (es.take q)).length = q * i.size := by
        rw [flats_length (fun x hx => hro.hz x (List.mem_of_mem_take hx))]; congr 1; simp; omega
      rw [e3, List.getD_eq_getElem?_getD, List.getD_eq_getElem?_getD, List.getElem?_append_right (by omega), e4, Nat.add_sub_cancel_left]
    have holds : LRel K w.drew (flats (es.drop q)) ((List.range (n * i.size)).map fun m => cs.getD (q * i.size + m) undef) := ⟨by simp [hfe], fun m hm' => by
      rw [hfe] at hm'
      have := g3 (q * i.size + m) (by omega)
      rw [hge0 m hm']
      refine VRel.mono (w := w) (w' := w.drew) (fun _ _ h => ⟨h, rfl⟩) (fun _ _ h => h) ?_
      simpa [List.getD_eq_getElem?_getD, hm'] using this⟩
    have hfo : (Builtin.firstCells i.size (es.drop q).length (.slice (some ⟨b, q * i.size, none⟩) (es.drop q).length cap)).run P w.drew = .ok ((List.range (n * i.size)).map fun m => cs.getD (q * i.size + m) undef).toArray w.drew := first_of (σ := σ) rfl holds hze (fun j hj => by
        simp only [List.length_map, List.length_range] at hj
        have hlt : q * i.size + j < cs.size := by omega
        show w.cell? _ = _
        simp [World.cell?, g1, hlt, List.getD_eq_getElem?_getD, hj, Array.getD]) rfl
    rw [hdl] at hfo
    have hr := run_app_grow (ty := ty) h0 h1 he ht2 hi hz (some ⟨b, q * i.size, none⟩) n cap ys.length x hx _ news hfo hfd (by omega) (by omega) (growslice_fits (by omega) hb)
    have hge := grownCap_ge w (n + ys.length) cap e
    have hsz : (((List.range (n * i.size)).map fun m => cs.getD (q * i.size + m) undef).toArray ++ news.toArray ++ Builtin.zeroCells z.cells (grownCap w (n + ys.length) cap e - (n + ys.length))).size = grownCap w (n + ys.length) cap e * i.size := by
      simp only [Array.size_append, List.size_toArray, size_zeroCells, List.length_map, List.length_range, hnl, hzs]
      rw [← Nat.add_mul, ← Nat.add_mul]; congr 1; omega
    have hle : (n + ys.length) * i.size ≤ grownCap w (n + ys.length) cap e * i.size := Nat.mul_le_mul_right _ hge
    have hz2 : ∀ x ∈ es.drop q ++ ys, x.flat.length = i.size := fun x hx => by
      rcases List.mem_append.1 hx with h | h
      · exact hze x h
      · exact hzi x h
    have hl2 : (es.drop q ++ ys).length = n + ys.length := by rw [List.length_append, hdl]
    have hnew := new_row hdrew e i.size (es.drop q ++ ys) 0 (Nat.zero_le _) (((List.range (n * i.size)).map fun m => cs.getD (q * i.size + m) undef).toArray ++ news.toArray ++ Builtin.zeroCells z.cells (grownCap w (n + ys.length) cap e - (n + ys.length))) hz2 (by rw [hsz, hl2]; exact hle)
      (fun m hmm => by
        rw [hl2, Nat.add_mul] at hmm
        rw [Nat.add_mul] at hle
        have e1 : (((List.range (n * i.size)).map fun m => cs.getD (q * i.size + m) undef).toArray ++ news.toArray ++ Builtin.zeroCells z.cells (grownCap w (n + ys.length) cap e - (n + ys.length))).getD m undef =
            (((List.range (n * i.size)).map fun m => cs.getD (q * i.size + m) undef) ++ news).getD m undef := by
          have hlt : m < (((List.range (n * i.size)).map fun m => cs.getD (q * i.size + m) undef).toArray ++ news.toArray).size := by simp; omega
          rw [Array.getD_eq_getD_getElem?, Array.getElem?_append_left hlt]
          simp [List.getD_eq_getElem?_getD, ← List.getElem?_toArray]
        rw [e1, flats_append]
        by_cases c1 : m < n * i.size
        · have := holds.2 m (by rw [hfe]; exact c1)
          simpa [List.getD_eq_getElem?_getD, List.getElem?_append, hfe, c1] using this
        · have := hL.2 (m - n * i.size) (by rw [flats_length hzi]; omega)
          have := VRel.mono (w := w) (w' := w.drew) (fun _ _ h => ⟨h, rfl⟩) (fun _ _ h => h) this
          simpa [List.getD_eq_getElem?_getD, List.getElem?_append, hfe, c1] using this)
    have hfr := fresh_new hdrew
    refine ⟨w.drew.heap.size, [], _, _, by rw [List.length_nil, Nat.zero_mul]; exact hr, hge, ⟨e, _, shape_new e _, by rw [hsz]; simp⟩, ⟨fun h => absurd h.symm (hfr ⟨b, .row i.size es 0⟩ hl.mem), fun _ => rfl⟩, .inr ⟨hfr, ?_, ?_⟩⟩
    · rw [List.nil_append]; exact hnew
    · rw [List.nil_append]; exact (Ext.drawn σ K w _).trans (ext_alloc hdrew _ _)

theorem appendV_sound {σ : Mem} {ts : Array TypeId} {t t2 ty : TypeId} {s x : PV} {u v : Value} {k : PV → Mem → Prop} (h0 : ts[0]? = some t) (h1 : ts[1]? = some t2) (ht2 : isAppB P t2 = true)
    (hm : SatM K σ w) (hs : VRel K w s u) (hx : VRel K w x v) (h : appendV P t s x σ k) :
    ∃ pv r σ' w', (Builtin.append_ ts ty #[u, v]).run P w = .ok r w' ∧ k pv σ' ∧ VRel K w' pv r ∧ SatM K σ' w' ∧ Ext σ K w σ' K w' := by
  unfold appendV at h
  split at h
  case h_2 => exact h.elim
  rename_i e he
  obtain ⟨sz, ys, hk0, hlen, hzy, hsrc⟩ := srcOf_sound (P := P) hm hx h
  obtain ⟨hc0, hcy0, hk⟩ := chk_spec hk0
  clear hk0 h
  simp only [Bool.and_eq_true, Nat.beq_eq] at hc0
  obtain ⟨hys, hpos⟩ := hc0
  have hcy := List.all_eq_true.1 hcy0
  clear hcy0
  obtain ⟨i, z, hi, hz, hce, hzs, hpos, hby, hzv⟩ := zeroOk_spec hpos
  rw [hce] at hys hk
  obtain ⟨news, hL, hf, hfd, hnl⟩ := hsrc
  rw [hys] at hf hfd hnl
  have hone := one_of_cellsB hL hcy
  have hzi : ∀ y ∈ ys, y.flat.length = i.size := fun y hy => by
    rw [← hys]; exact hzy y hy
  have hdrew : SatM K σ w.drew := hm.drawn _
  have hbyt : P.bytesOf e = i.bytes := by simp [Program.bytesOf, hi]
  rw [hbyt] at hk
  cases hs <;> (try exact hk.elim)
  case nils =>
    obtain ⟨hb, hk0⟩ := litN_spec hk
    have hk1 : ys = [] → k .nils σ := fun h => by subst h; exact hk0
    have hk2 : ys ≠ [] → ∀ b, (∀ z ∈ σ, z.b ≠ b) → k (ownSl P e b i.size ys.length) (⟨b, .row i.size ys 0⟩ :: σ) := fun h => by
      cases ys with
      | nil => exact absurd rfl h
      | cons y ys' => exact hk0.all
    by_cases hy0 : ys = []
    · subst hy0
      refine ⟨_, _, σ, w, run_app_room h0 h1 he ht2 hi none 0 0 0 v hlen news hf (by simp) (w' := w) ?_, hk1 rfl, .nils, hm, Ext.refl _ _ _⟩
      have : news = [] := List.eq_nil_of_length_eq_zero (by simpa using hnl)
      subst this
      rfl
    · have hm0 : 0 < ys.length := List.length_pos_iff.2 hy0
      have h63 : ((0 + ys.length : Nat) : Int) ≤ 9223372036854775807 := by
        have : ys.length * 1 ≤ ys.length * i.bytes := Nat.mul_le_mul_left _ hby
        omega
      have hr := run_app_grow (ty := ty) h0 h1 he ht2 hi hz none 0 0 ys.length v hlen [] news (by simp [Builtin.firstCells, loadCells, loadCellsFrom]) hfd (by omega) h63 (growslice_fits (by omega) (by simpa using hb))
      have hge := grownCap_ge w (0 + ys.length) 0 e
      simp only [Nat.zero_add] at hr hge
      generalize hG : grownCap w ys.length 0 e = G at hr hge
      have hsz : (([] : List Value).toArray ++ news.toArray ++ Builtin.zeroCells z.cells (G - ys.length)).size = G * i.size := by
        simp only [Array.size_append, List.size_toArray, size_zeroCells, List.length_nil, hnl, hzs, Nat.zero_add]
        rw [← Nat.add_mul]; congr 1; omega
      refine ⟨_, _, _, _, hr, hk2 hy0 w.drew.heap.size (fresh_new hdrew), ?_, new_row hdrew e i.size ys 0 (Nat.zero_le _) _ hzi ?_ ?_, (Ext.drawn σ K w _).trans (ext_alloc hdrew _ _)⟩
      · exact ownSl_rel (w := w.drew.alloc _) hge ⟨_, shape_new e _, by rw [hsz]; omega⟩
      · rw [hsz]; exact Nat.mul_le_mul_right _ (by omega)
      · intro n hn
        have := hL.2 n (by rw [flats_length hzi]; exact hn)
        have hn' : n < news.length := by rw [hnl]; exact hn
        have e1 : (([] : List Value).toArray ++ news.toArray ++ Builtin.zeroCells z.cells (G - ys.length)).getD n undef = news.getD n undef := by
          have hlt : n < (([] : List Value).toArray ++ news.toArray).size := by simpa using hn'
          rw [Array.getD_eq_getD_getElem?, Array.getElem?_append_left hlt]
          simp [List.getD_eq_getElem?_getD]
        rw [e1]
        exact VRel.mono (w := w) (w' := w.drew) (fun _ _ h => ⟨h, rfl⟩) (fun _ _ h => h) this
  case rsl b sz' i0 n o cap ho hc hsh =>
    obtain ⟨sz'', es, fz, r, hl, hk1⟩ := hk
    obtain ⟨hc1, hlit⟩ := chk_spec hk1
    have hk3 := litN_spec hlit
    clear hk1 hlit
    simp only [Bool.and_eq_true, Nat.beq_eq] at hc1
    obtain ⟨rfl, rfl⟩ := hc1
    obtain ⟨e', mm, q1, q2⟩ := hsh
    cases i0 with
    | zero =>
      have ho0 : o = 0 := by simpa using ho (.inr rfl)
      subst ho0
      rcases hk3 with ⟨⟨rfl, hb⟩, hk2⟩ | ⟨⟨hne, hfz, hb⟩, hk2, hk4⟩
      case b =>
        obtain ⟨b', cap2, w', g1, g3, ⟨e2, m2, g4, g5⟩, g6⟩ := append_mid (ty := ty) h0 h1 ht2 he hm hi hz hzs hby hlen hL hf hfd hnl hone hzi hdrew hl hne hfz q1 q2 hc hb
        rcases g6 with ⟨rfl, g6, g7⟩ | ⟨g2, g6, g7⟩
        · exact ⟨_, _, _, _, g1, hk2, .rsl _ _ 0 _ 0 _ (fun _ => by simp) g3 ⟨e2, m2, g4, g5⟩, g6, g7⟩
        · exact ⟨_, _, _, _, g1, hk4.all b' g2, .rsl _ _ 0 _ 0 _ (fun _ => by simp) g3 ⟨e2, m2, g4, g5⟩, g6, g7⟩
      obtain ⟨b', cap2, w', g1, g3, ⟨e2, m2, g4, g5, _⟩, g6⟩ := append_own (ty := ty) h0 h1 ht2 he hm hi hz hzs hby hlen hL hf hfd hnl hone hzi hdrew hl q1 q2 hc hb
      cases hk2 with
      | mk hk2 =>
        obtain ⟨g2, g6, g7⟩ := g6.drop hl
        exact ⟨_, _, _, _, g1, hk2 b' g2, .rsl _ _ 0 _ 0 _ (fun _ => by simp) g3 ⟨e2, m2, g4, g5⟩, g6, g7⟩
      | keep hk2 hk4 =>
        rcases g6 with ⟨rfl, g6, g7⟩ | ⟨g2, g6, g7⟩
        · exact ⟨_, _, _, _, g1, hk2, .rsl _ _ 0 _ 0 _ (fun _ => by simp) g3 ⟨e2, m2, g4, g5⟩, g6, g7⟩
        · exact ⟨_, _, _, _, g1, hk4 b' g2, .rsl _ _ 0 _ 0 _ (fun _ => by simp) g3 ⟨e2, m2, g4, g5⟩, g6, g7⟩
    | succ i0 =>
      obtain ⟨⟨hn0, hq, rfl, hb⟩, hk2⟩ := hk3
      have ho0 := ho (.inl (by omega))
      subst ho0
      obtain ⟨b', pre, cap2, w', g1, g3, ⟨e2, m2, g4, g5⟩, gp, g6⟩ := append_at (ty := ty) h0 h1 ht2 he hm hi hz hzs hby hlen hL hf hfd hnl hone hzi hdrew hl hq q1 q2 hc hb
      cases hk2 with
      | mk hk2 =>
        obtain ⟨g2, g6, g7⟩ := g6.drop hl
        exact ⟨_, _, _, _, g1, hk2 b' pre g2, .rsl _ _ _ _ _ _ (fun _ => rfl) g3 ⟨e2, m2, g4, g5⟩, g6, g7⟩
      | keep hk2 hk4 =>
        rcases g6 with ⟨rfl, g6, g7⟩ | ⟨g2, g6, g7⟩
        · rw [gp.1 rfl] at g1 g5 g6 g7
          exact ⟨_, _, _, _, g1, hk2, .rsl _ _ _ _ _ _ (fun _ => rfl) g3 ⟨e2, m2, g4, g5⟩, g6, g7⟩
        · rw [gp.2 (fun h => g2 ⟨b, .row i.size es 0⟩ hl.mem h.symm)] at g1 g5 g6 g7
          exact ⟨_, _, _, _, g1, hk4 b' g2, .rsl _ _ 0 _ _ _ (fun _ => rfl) g3 ⟨e2, m2, g4, g5⟩, g6, g7⟩
  case bsl e' b n cap hc hsh =>
    obtain ⟨sz'', es, fz, r, hl, hk1⟩ := hk
    obtain ⟨hc1, hlit⟩ := chk_spec hk1
    obtain ⟨⟨rfl, hb⟩, hk2⟩ := litN_spec hlit
    clear hk1 hlit
    simp only [Bool.and_eq_true, Nat.beq_eq] at hc1
    obtain ⟨⟨rfl, rfl⟩, hs1⟩ := hc1
    obtain ⟨mm, q1, q2⟩ := hsh
    obtain ⟨b', cap2, w', g1, g3, ⟨e2, m2, g4, g5, g8⟩, g6⟩ := append_own (ty := ty) h0 h1 ht2 he hm hi hz hzs hby hlen hL hf hfd hnl hone hzi hdrew hl q1 (by rw [hs1]; omega) hc hb
    obtain rfl : e2 = e' := by rcases g8 with h | h <;> exact h
    cases hk2 with
    | mk hk2 =>
      obtain ⟨g2, g6, g7⟩ := g6.drop hl
      exact ⟨_, _, _, _, g1, hk2 b' g2, .bsl _ _ _ _ g3 ⟨m2, g4, by rw [hs1] at g5; omega⟩, g6, g7⟩
    | keep hk2 hk4 =>
      rcases g6 with ⟨rfl, g6, g7⟩ | ⟨g2, g6, g7⟩
      · exact ⟨_, _, _, _, g1, hk2, .bsl _ _ _ _ g3 ⟨m2, g4, by rw [hs1] at g5; omega⟩, g6, g7⟩
      · exact (hk4 b' g2).elim
end Go.Eng
end

/- The engine, part 7: copy, clear, make, slice literals, strings that are gone through; what is owned becomes what nobody writes. -/
section
namespace Go.Eng
open Go

variable {P : Program} {K : Kn} {w : World}

theorem over_row {σ r : Mem} {b sz : Nat} {es : List PV} {fz : Nat} {ys : List PV} {vs : List Value} {i : Nat} (hm : SatM K σ w) (hl : Look σ b (.row sz es fz) r) (hi : i + ys.length ≤ es.length) (hfz : fz ≤ i)
    (hz : ∀ y ∈ ys, y.flat.length = sz) (hL : LRel K w (flats ys) vs) (h1 : ∀ v ∈ vs, v.oneCell' = true) :
    ∃ w', (storeCells ⟨b, i * sz, none⟩ vs).run P w = .ok () w' ∧ SatM K (⟨b, .row sz (es.take i ++ ys ++ es.drop (i + ys.length)) fz⟩ :: r) w' ∧
      Ext σ K w (⟨b, .row sz (es.take i ++ ys ++ es.drop (i + ys.length)) fz⟩ :: r) K w' := by
  have hro : RowOk K w b sz es fz := hm.blk _ hl.mem
  obtain ⟨cs, ty, g1, g2, g3⟩ := hro.flats
  have hvl : vs.length = ys.length * sz := by rw [← hL.1, flats_length hz]
  have hb : i * sz + ys.length * sz ≤ es.length * sz := by rw [← Nat.add_mul]; exact Nat.mul_le_mul_right _ hi
  have hst := run_storeCells_at P b (i * sz) ty vs 0 cs w g1 (by omega) h1
  simp only [Nat.add_zero] at hst
  have hfit : i * sz + vs.length ≤ cs.toList.length := by simp; omega
  have hlen : (es.take i ++ ys ++ es.drop (i + ys.length)).length = es.length := by simp; omega
  have hzz : ∀ e ∈ es.take i ++ ys ++ es.drop (i + ys.length), e.flat.length = sz := fun e he => by
    rcases List.mem_append.1 he with he | he
    · rcases List.mem_append.1 he with he | he
      · exact hro.hz e (List.mem_of_mem_take he)
      · exact hz e he
    · exact hro.hz e (List.mem_of_mem_drop he)
  have hfl := flats_length hro.hz
  have hf1 : (flats (es.take i)).length = i * sz := by rw [flats_length (fun e he => hro.hz e (List.mem_of_mem_take he))]; congr 1; simp; omega
  have hfe : flats (es.take i ++ ys ++ es.drop (i + ys.length)) = splice (flats es) (i * sz) (flats ys) := by
    have h3 : flats es = flats (es.take i) ++ flats (es.drop i) := by rw [← flats_append, List.take_append_drop]
    have h4 : flats (es.drop i) = flats ((es.drop i).take ys.length) ++ flats (es.drop (i + ys.length)) := by
      rw [← flats_append]; congr 1
      rw [← List.drop_drop, List.take_append_drop]
    have h5 : (flats ((es.drop i).take ys.length)).length = ys.length * sz := by
      rw [flats_length (fun e he => hro.hz e (List.mem_of_mem_drop (List.mem_of_mem_take he)))]; congr 1; simp; omega
    rw [flats_append, flats_append, splice, h3, h4, List.take_left' hf1]
    congr 1
    rw [← List.append_assoc, List.drop_left' (by rw [List.length_append, hf1, h5, flats_length hz])]
  obtain ⟨s1, s2⟩ := row_written (es' := es.take i ++ ys ++ es.drop (i + ys.length)) (cs' := (splice cs.toList (i * sz) vs).toArray) hm hl g1 (by simp [length_splice _ _ _ hfit]) hzz (by rw [hlen]; exact hro.le) (by rw [hlen]; exact g2)
    (fun n hn => by
      rw [hlen] at hn
      rw [hfe, getD_toArray, getD_splice _ _ _ _ hfit, getD_splice _ _ _ _ (by rw [hfl, flats_length hz]; omega), flats_length hz, hvl]
      split
      · exact hL.2 _ (by rw [flats_length hz]; omega)
      · rw [getD_toList]; exact g3 n hn)
    (fun o ho => by
      have h6 : fz * sz ≤ i * sz := Nat.mul_le_mul_right _ hfz
      have : (splice cs.toList (i * sz) vs)[o]? = cs.toList[o]? := by
        simp only [splice]
        rw [List.getElem?_append_left (by simp at hfit ⊢; omega), List.getElem?_append_left (by simp at hfit ⊢; omega), List.getElem?_take, if_pos (by omega)]
      simpa using this)
  exact ⟨_, hst, s1, s2⟩

theorem LRel.take {ps : List PV} {vs : List Value} (h : LRel K w ps vs) (n : Nat) : LRel K w (ps.take n) (vs.take n) :=
  ⟨by simp [h.1], fun i hi => by
    simp only [List.length_take] at hi
    have := h.2 i (by omega)
    simpa [List.getD_eq_getElem?_getD, show i < n by omega] using this⟩
theorem flats_take {ys : List PV} {sz : Nat} (hz : ∀ y ∈ ys, y.flat.length = sz) (n : Nat) : flats (ys.take n) = (flats ys).take (n * sz) := by
  by_cases h : n ≤ ys.length
  · have h1 : flats ys = flats (ys.take n) ++ flats (ys.drop n) := by rw [← flats_append, List.take_append_drop]
    have h2 : (flats (ys.take n)).length = n * sz := by rw [flats_length (fun e he => hz e (List.mem_of_mem_take he))]; congr 1; simp; omega
    rw [h1, List.take_left' h2]
  · rw [List.take_of_length_le (by omega), List.take_of_length_le]
    rw [flats_length hz]; exact Nat.mul_le_mul_right _ (by omega)

theorem copyV_sound {σ : Mem} {ts : Array TypeId} {t ty : TypeId} {d x : PV} {u v : Value} {k : PV → Mem → Prop} (h0 : ts[0]? = some t)
    (hm : SatM K σ w) (hd : VRel K w d u) (hx : VRel K w x v) (h : copyV P t d x σ k) :
    ∃ pv r σ' w', (Builtin.copy_ ts ty #[u, v]).run P w = .ok r w' ∧ k pv σ' ∧ VRel K w' pv r ∧ SatM K σ' w' ∧ Ext σ K w σ' K w' := by
  unfold copyV at h
  split at h
  case h_2 => exact h.elim
  rename_i e he
  obtain ⟨sz, ys, hk, _, ⟨a, cap', rfl, hsrc⟩, hzy⟩ := elemsOf_sound hm hx h
  cases hd <;> (try exact hk.elim)
  rename_i b sz' i n o cap ho hc hsh
  obtain ⟨sz'', es, fz, r, hl, hk0⟩ := hk
  obtain ⟨hc0, ⟨hin, hcy0, hfz⟩, hk⟩ := chk_spec hk0
  clear hk0 h
  simp only [Bool.and_eq_true, Nat.beq_eq, Nat.blt_eq] at hc0
  obtain ⟨⟨⟨hys, rfl⟩, rfl⟩, hpos⟩ := hc0
  have hcy := List.all_eq_true.1 hcy0
  have hs := run_sizeOf (P := P) (w := w) hpos
  have hzi : ∀ y ∈ ys, y.flat.length = P.cellsOf e := fun y hy => by
    rw [← hys]; exact hzy y hy
  have hmin : (ys.take n).length = min n ys.length := by simp
  -- the source's first cells
  have src : ∃ news : List Value, LRel K w (flats (ys.take n)) news ∧ (Builtin.firstCells (P.cellsOf e) (min n ys.length) (.slice a ys.length cap')).run P w = .ok news.toArray w := by
    by_cases hy0 : ys = []
    · subst hy0
      refine ⟨[], ⟨by simp [flats], fun i hi => by simp [flats] at hi⟩, ?_⟩
      cases a with
      | none => rfl
      | some a => simp [Builtin.firstCells, loadCells, loadCellsFrom]
    · obtain ⟨b', o', ha, vs, hL, hcc⟩ := hsrc hy0
      have hL' := hL.take (n * P.cellsOf e)
      rw [← flats_take hzi] at hL'
      have hvl : vs.length = ys.length * P.cellsOf e := by rw [← hL.1, flats_length hzi]
      refine ⟨_, hL', ?_⟩
      subst ha
      refine run_firstCells_some (P := P) w (P.cellsOf e) (min n ys.length) ⟨b', o', none⟩ ys.length cap' _ ?_ (fun j v hj => ?_)
      · rw [List.length_take, hvl, Nat.mul_min_mul_right]
      · rw [addr_add]
        have hlt := (List.getElem?_eq_some_iff.1 hj).1
        rw [List.length_take] at hlt
        rw [List.getElem?_take, if_pos (by omega)] at hj
        rw [hcc j (by omega)]
        simp [List.getD_eq_getElem?_getD, hj]
  obtain ⟨news, hL, hf⟩ := src
  have hone := one_of_cellsB hL (fun y hy => hcy y (List.mem_of_mem_take hy))
  have hrun : ∀ w', (storeCells ⟨b, o, none⟩ news).run P w = .ok () w' → (Builtin.copy_ ts ty #[.slice (some ⟨b, o, none⟩) n cap, .slice a ys.length cap']).run P w = .ok (goInt (min n ys.length : Nat)) w' := fun w' hst => by
    have e1 : Nat.min ys.length n = min n ys.length := by rw [Nat.min_comm]
    simp [Builtin.copy_, h0, run_underlying he, Builtin.lenOf, hs, e1, hf, hst]
  have hlen : es.take i ++ ys.take n ++ es.drop (i + min n ys.length) = es.take i ++ ys.take n ++ es.drop (i + (ys.take n).length) := by rw [hmin]
  by_cases hn0 : n = 0
  · subst hn0
    have hnw : news = [] := by
      have := hL.1
      rw [List.take_zero] at this
      exact List.eq_nil_of_length_eq_zero this.symm
    subst hnw
    have e2 : es.take i ++ ys.take 0 ++ es.drop (i + min 0 ys.length) = es := by simp
    rw [e2] at hk
    exact ⟨_, _, _, w, hrun w rfl, hk, .int _ _, hm.perm hl.perm, Ext.perm (Ext.refl σ K w) (.refl _) hl.perm⟩
  · have ho' := ho (.inl hn0)
    subst ho'
    obtain ⟨w', g1, g2, g3⟩ := over_row (P := P) (ys := ys.take n) (vs := news) (i := i) hm hl (by rw [hmin]; omega) hfz (fun y hy => hzi y (List.mem_of_mem_take hy)) hL hone
    rw [← hlen] at g2 g3
    exact ⟨_, _, _, w', hrun w' g1, hk, .int _ _, g2, g3⟩

theorem zeroCells_rel {e : TypeId} (h : zeroOk P e = true) (n : Nat) : ∃ i z, P.info? e = some i ∧ i.zero = some z ∧ P.cellsOf e = i.size ∧ 0 < i.size ∧ z.cells.size = i.size ∧
    (∀ y ∈ List.replicate n (zeroV P e), y.flat.length = i.size) ∧ LRel K w (flats (List.replicate n (zeroV P e))) (Builtin.zeroCells z.cells n).toList ∧ ∀ v ∈ (Builtin.zeroCells z.cells n).toList, v.oneCell' = true := by
  obtain ⟨i, z, hi, hz, hc, hzs, hp, hb, hv⟩ := zeroOk_spec h
  have hcb : cellsB (zeroV P e) = true := by unfold zeroOk at h; simp only [Bool.and_eq_true] at h; exact h.1.1.2
  have hflat := flat_LRel (K := K) (w := w) (ofV_rel z) ⟨z, rfl, rfl⟩
  rw [← hv] at hflat
  have hfl : (zeroV P e).flat.length = i.size := by rw [hflat.1]; simpa using hzs
  have hzz : ∀ y ∈ List.replicate n (zeroV P e), y.flat.length = i.size := fun y hy => by rw [List.eq_of_mem_replicate hy]; exact hfl
  have hone := (cells_LRel (hv ▸ ofV_rel z : VRel K w (zeroV P e) z) hcb).2
  have hL : LRel K w (flats (List.replicate n (zeroV P e))) (Builtin.zeroCells z.cells n).toList := by
    refine ⟨by rw [flats_length hzz]; simp [Builtin.zeroCells, hzs], fun m hm => ?_⟩
    rw [flats_length hzz] at hm
    simp only [List.length_replicate] at hm
    have em : m = m / i.size * i.size + m % i.size := by rw [Nat.mul_comm]; exact (Nat.div_add_mod m _).symm
    have hq : m / i.size < n := (Nat.div_lt_iff_lt_mul hp).2 hm
    have hmo : m % i.size < i.size := Nat.mod_lt _ hp
    have e1 : (flats (List.replicate n (zeroV P e))).getD m .dead = (zeroV P e).flat.getD (m % i.size) .dead := by
      conv => lhs; rw [em]
      rw [flats_getD hzz _ _ (by simpa using hq) hmo]
      simp [List.getD_eq_getElem?_getD, hq]
    have e2 : (Builtin.zeroCells z.cells n).toList.getD m undef = z.cells.toList.getD (m % i.size) undef := by
      have hlt : m < (Builtin.zeroCells z.cells n).size := by simp [Builtin.zeroCells, hzs]; exact hm
      rw [List.getD_eq_getElem?_getD, List.getElem?_eq_getElem (by simpa using hlt)]
      have hmz : m % i.size < z.cells.size := by omega
      simp [Builtin.zeroCells, hzs, List.getD_eq_getElem?_getD]
      rw [getElem!_pos z.cells _ hmz]; simp [hmz]
    rw [e1, e2]
    exact hflat.2 _ (by omega)
  refine ⟨i, z, hi, hz, hc, hp, hzs, hzz, hL, one_of_cellsB hL (fun y hy => by rw [List.eq_of_mem_replicate hy]; exact hcb)⟩

theorem clearV_sound {σ : Mem} {ts : Array TypeId} {t ty : TypeId} {x : PV} {v : Value} {k : PV → Mem → Prop} (h0 : ts[0]? = some t)
    (hm : SatM K σ w) (hx : VRel K w x v) (h : clearV P t x σ k) :
    ∃ pv r σ' w', (Builtin.clear_ ts ty #[v]).run P w = .ok r w' ∧ k pv σ' ∧ VRel K w' pv r ∧ SatM K σ' w' ∧ Ext σ K w σ' K w' := by
  unfold clearV at h
  split at h
  case h_2 => exact h.elim
  rename_i e he
  cases hx <;> (try exact h.elim)
  rename_i b sz i n o cap ho hc hsh
  obtain ⟨sz', es, fz, r, hl, h⟩ := h
  obtain ⟨hc0, ⟨hin, hfz⟩, hk⟩ := chk_spec h
  clear h
  simp only [Bool.and_eq_true, Nat.beq_eq] at hc0
  obtain ⟨⟨hsz, rfl⟩, hz0⟩ := hc0
  obtain ⟨inf, z, hi, hz, hce, hp, hzs, hzz, hL, hone⟩ := zeroCells_rel (K := K) (w := w) hz0 n
  have hszi : sz' = inf.size := by rw [hsz, hce]
  subst hszi
  have htup : VRel K w (.tup []) (.tuple #[]) := .tup [] [] rfl (fun i hi => by simp at hi)
  have htup' : ∀ w' : World, VRel K w' (.tup []) (.tuple #[]) := fun w' => .tup [] [] rfl (fun i hi => by simp at hi)
  by_cases hn0 : n = 0
  · subst hn0
    have e2 : es.take i ++ List.replicate 0 (zeroV P e) ++ es.drop (i + 0) = es := by simp
    rw [e2] at hk
    refine ⟨_, .tuple #[], _, w, ?_, hk, htup, hm.perm hl.perm, Ext.perm (Ext.refl σ K w) (.refl _) hl.perm⟩
    simp [Builtin.clear_, h0, run_underlying he]
  · have ho' := ho (.inl hn0)
    subst ho'
    obtain ⟨w', g1, g2, g3⟩ := over_row (P := P) (ys := List.replicate n (zeroV P e)) (i := i) hm hl (by simp; exact hin) hfz hzz hL hone
    simp only [List.length_replicate] at g2 g3
    refine ⟨_, .tuple #[], _, w', ?_, hk, htup' w', g2, g3⟩
    obtain ⟨m, rfl⟩ : ∃ m, n = m + 1 := ⟨n - 1, by omega⟩
    simp only [Builtin.clear_, h0, Array.getElem?_singleton, if_true, Sem.run_bind, run_underlying he, Result.andThen_ok, run_zeroValue hi hz, g1, Sem.run_pure]

theorem makeV_sound {σ : Mem} {t : TypeId} {l c : PV} {u v : Value} {k : PV → Mem → Prop}
    (hm : SatM K σ w) (hx : VRel K w l u) (hy : VRel K w c v) (h : makeV P t l c σ k) :
    ∃ pv r σ' w', (Instr.makeSlice t u v).run P w = .ok r w' ∧ k pv σ' ∧ VRel K w' pv r ∧ SatM K σ' w' ∧ Ext σ K w σ' K w' := by
  unfold makeV at h
  split at h
  case h_2 => exact h.elim
  rename_i e he
  cases hx <;> (try exact h.elim)
  cases hy <;> (try exact h.elim)
  rename_i kl n kc m
  obtain ⟨hz0, hlit⟩ := chk_spec h
  obtain ⟨⟨h1, h2, h3, h4⟩, hk⟩ := litN_spec hlit
  obtain ⟨i, z, hi, hz, hce, hp, hzs, hzz, hL, hone⟩ := zeroCells_rel (K := K) (w := w) hz0 n.toNat
  have hby : P.bytesOf e = i.bytes := by simp [Program.bytesOf, hi]
  rw [hby] at h4
  rw [hce] at hk
  have hr := run_make (P := P) w t e i z he hi hz kl kc n m h1 h2 h4 h3
  have hsz : (madeCells z.cells (m.toNat * i.size)).size = m.toNat * i.size := size_madeCells _ _
  have hle : n.toNat * i.size ≤ m.toNat * i.size := Nat.mul_le_mul_right _ (by omega)
  refine ⟨_, _, _, _, hr, (hk.all n.toNat (by omega)).all w.heap.size (fresh_new hm), ?_, new_row hm e i.size (List.replicate n.toNat (zeroV P e)) 0 (Nat.zero_le _) _ hzz ?_ ?_, ext_alloc hm _ _⟩
  · exact VRel.rsl (w := w.alloc _) w.heap.size _ 0 _ 0 _ (fun _ => by simp) (by omega) ⟨e, _, shape_new e _, by rw [hsz]; omega⟩
  · rw [hsz]; simpa using hle
  · intro q hq
    simp only [List.length_replicate] at hq
    have := hL.2 q (by rw [flats_length hzz]; simpa using hq)
    have e1 : (madeCells z.cells (m.toNat * i.size)).getD q undef = (Builtin.zeroCells z.cells n.toNat).toList.getD q undef := by
      have hlt : q < (Builtin.zeroCells z.cells n.toNat).size := by simp [Builtin.zeroCells, hzs]; exact hq
      have hlt2 : q < (madeCells z.cells (m.toNat * i.size)).size := by rw [hsz]; omega
      rw [getD_toList, Array.getD_eq_getD_getElem?, Array.getD_eq_getD_getElem?, Array.getElem?_eq_getElem hlt, Array.getElem?_eq_getElem hlt2]
      simp [madeCells, Builtin.zeroCells]
    rw [e1]; exact this

/-! ### Slice literals -/
theorem fillE_seq {sz n : Nat} : ∀ (ps : List (Nat × PV)) (done rest : List PV), seqOk sz n done.length ps = true → rest.length = ps.length →
    fillE sz (done ++ rest) ps = some (done ++ ps.map Prod.snd) ∧ done.length + ps.length = n
  | [], done, rest, h, hl => by
    obtain rfl : rest = [] := List.eq_nil_of_length_eq_zero hl
    exact ⟨by simp [fillE], by simpa [seqOk] using h⟩
  | (i, v) :: ps, done, [], h, hl => by simp at hl
  | (i, v) :: ps, done, r :: rest, h, hl => by
    simp only [seqOk, Bool.and_eq_true, Nat.beq_eq] at h
    obtain ⟨⟨⟨rfl, h2⟩, h3⟩, h4⟩ := h
    have ih := fillE_seq ps (done ++ [v]) rest (by simpa using h4) (by simpa using hl)
    refine ⟨?_, by simpa [Nat.add_comm, Nat.add_left_comm, Nat.add_assoc] using ih.2⟩
    have e1 : (Nat.beq v.flat.length sz && Nat.blt done.length (done ++ r :: rest).length && cellsB v) = true := by
      simp [h3, h2, Nat.blt_eq]
    rw [fillE, e1, cond_true]
    have e2 : (done ++ r :: rest).set done.length v = done ++ [v] ++ rest := by simp
    rw [e2, ih.1]; simp
theorem fillP_spec {sz n : Nat} {z : PV} {ps : List (Nat × PV)} {es : List PV} (h : fillP sz n z ps = some es) : fillE sz (List.replicate n z) ps = some es := by
  unfold fillP at h
  cases hs : seqOk sz n 0 ps with
  | false => simpa [hs] using h
  | true =>
    simp only [hs, cond_true, Option.some.injEq] at h
    subst h
    have hn : ps.length = n := by
      have := (fillE_seq (sz := sz) (n := n) ps [] (List.replicate ps.length z) hs (by simp)).2
      simpa using this
    subst hn
    simpa using (fillE_seq (sz := sz) ps [] (List.replicate ps.length z) hs (by simp)).1
theorem buildSlice_cells {t : TypeId} {n : Nat} {ps : List (Nat × PV)} {us : List (Nat × Value)} {k : Nat → List PV → Prop} (hl : ps.length = us.length)
    (hr : ∀ i, i < ps.length → (ps.getD i (0, .dead)).1 = (us.getD i (0, undef)).1 ∧ VRel K w (ps.getD i (0, .dead)).2 (us.getD i (0, undef)).2)
    (h : buildSliceV P t n ps k) : ∃ sz es cs e, k sz es ∧ 0 < sz ∧ (∀ y ∈ es, y.flat.length = sz) ∧ LRel K w (flats es) cs.toList ∧ es.length = n ∧
      (Instr.buildSlice t n us.toArray).run P w = .ok (.slice (some ⟨w.heap.size, 0, none⟩) n n) (w.alloc (.cells cs e)) := by
  unfold buildSliceV at h
  split at h
  case h_2 => exact h.elim
  rename_i hsl
  obtain ⟨e, he⟩ := isSliceB_spec hsl
  have hel : elemTy P t = e := by simp [elemTy, he]
  rw [hel] at h
  obtain ⟨hc0, h4⟩ := chk_spec h
  simp only [Bool.and_eq_true, Nat.ble_eq] at hc0
  obtain ⟨h1, h0⟩ := hc0
  split at h4
  case h_2 => exact h4.elim
  rename_i es hes
  have hes := fillP_spec hes
  obtain ⟨i, z, hi, hz, hce, hzs, h2, _, hzv⟩ := zeroOk_spec h0
  rw [hce] at h1 h4 hes
  · have hflat := flat_LRel (K := K) (w := w) (ofV_rel z) ⟨z, rfl, rfl⟩
    rw [← hzv] at hflat
    have h3 : (zeroV P e).flat.length = i.size := by rw [hflat.1]; simpa using hzs
    have hzz : ∀ y ∈ List.replicate n (zeroV P e), y.flat.length = i.size := fun y hy => by rw [List.eq_of_mem_replicate hy]; exact h3
    have hL : LRel K w (flats (List.replicate n (zeroV P e))) (madeCells z.cells (n * i.size)).toList := by
      refine ⟨by rw [flats_length hzz]; simp [madeCells], fun m hm => ?_⟩
      rw [flats_length hzz] at hm
      simp only [List.length_replicate] at hm
      have em : m = m / i.size * i.size + m % i.size := by rw [Nat.mul_comm]; exact (Nat.div_add_mod m _).symm
      have hq : m / i.size < n := (Nat.div_lt_iff_lt_mul h2).2 hm
      have hmo : m % i.size < i.size := Nat.mod_lt _ h2
      have e1 : (flats (List.replicate n (zeroV P e))).getD m .dead = (zeroV P e).flat.getD (m % i.size) .dead := by
        conv => lhs; rw [em]
        rw [flats_getD hzz _ _ (by simpa using hq) hmo]
        simp [List.getD_eq_getElem?_getD, hq]
      have e2 : (madeCells z.cells (n * i.size)).toList.getD m undef = z.cells.toList.getD (m % i.size) undef := by
        have hlt : m < (madeCells z.cells (n * i.size)).size := by simp [madeCells]; exact hm
        rw [List.getD_eq_getElem?_getD, List.getElem?_eq_getElem (by simpa using hlt)]
        have hmz : m % i.size < z.cells.size := by omega
        simp [madeCells, hzs, List.getD_eq_getElem?_getD]
        rw [getElem!_pos z.cells _ hmz]; simp [hmz]
      rw [e1, e2]
      exact hflat.2 _ (by omega)
    obtain ⟨ws, f1, f2, f3, f4⟩ := fillE_sound ps us _ _ es hl hr hzz hL hes
    refine ⟨i.size, es, ws, e, h4, h2, f4, f2, by simpa using f3, ?_⟩
    have hs : (sizeOf e).run P w = .ok i.size w := by rw [← hce]; exact run_sizeOf (by omega)
    have hn : ¬ 16777216 < n * i.size := by omega
    by_cases hn0 : n * i.size = 0
    · have hn00 : n = 0 := by
        rcases Nat.mul_eq_zero.1 hn0 with h | h
        · exact h
        · omega
      subst hn00
      have f1' : Instr.fill (fun j => some (j * i.size, i.size)) #[] us = some ws := by simpa [madeCells, Array.range_zero'] using f1
      simp [Instr.buildSlice, run_underlying he, hs, f1', newRow, Array.range_zero']
    · have f1' : Instr.fill (fun j => some (j * i.size, i.size)) ((Array.range (n * i.size)).map (z.cells[· % z.cells.size]!)) us = some ws := f1
      simp [Instr.buildSlice, run_underlying he, hs, hn, run_zeroValue hi hz, f1', newRow]
      exact fun h => absurd h hn0

theorem freeze_row {r : Mem} {b sz : Nat} {es : List PV} {fz : Nat} (hm : SatM K (⟨b, .row sz es fz⟩ :: r) w) :
    ∃ K', SatM K' (⟨b, .row sz es es.length⟩ :: r) w ∧ Ext (⟨b, .row sz es fz⟩ :: r) K w (⟨b, .row sz es es.length⟩ :: r) K' w ∧
      ∀ i n v, i + n ≤ es.length → VRel K w (.rsl b sz i n) v → VRel K' w (.sl sz ((es.drop i).take n)) v := by
  have hro : RowOk K w b sz es fz := hm.blk _ List.mem_cons_self
  obtain ⟨cs, ty, g1, g2, g3⟩ := hro.cells
  have hmono : ∀ {p : PV} {v : Value}, VRel K w p v → VRel (fun b' o => K b' o ∨ (b' = b ∧ o < es.length * sz)) w p v :=
    fun h => h.mono (fun _ _ h => ⟨.inl h, rfl⟩) (fun _ _ h => h)
  have hnd := hm.nodup
  rw [List.map_cons, List.nodup_cons] at hnd
  refine ⟨fun b' o => K b' o ∨ (b' = b ∧ o < es.length * sz), ⟨fun b' o h => ?_, by rw [List.map_cons, List.nodup_cons]; exact hnd, fun k hk => ?_⟩, ?_, fun i n v hin hv => ?_⟩
  · rcases h with h | ⟨rfl, _⟩
    · exact hm.kin _ _ h
    · exact (Array.getElem?_eq_some_iff.1 g1).1
  · rcases List.mem_cons.1 hk with rfl | hk
    · show RowOk _ w b sz es es.length
      refine ⟨Nat.le_refl _, fun o ho => ?_, hro.hz, cs, ty, g1, g2, fun i j hi hj => hmono (g3 i j hi hj)⟩
      rcases ho with ho | ⟨_, ho⟩
      · exact Nat.lt_of_lt_of_le (hro.ex o ho) (Nat.mul_le_mul_right _ hro.le)
      · exact ho
    · have hne : k.b ≠ b := fun e => hnd.1 (List.mem_map.2 ⟨k, hk, e⟩)
      exact (hm.blk k (List.mem_cons_of_mem _ hk)).move rfl (fun o ho => ho.resolve_right fun h => hne h.1) (fun _ _ h => ⟨.inl h, rfl⟩) (fun _ _ h => h)
  · refine ⟨rfl, rfl, rfl, Nat.le_refl _, fun _ _ h => h, fun _ _ _ => rfl, fun _ _ h => ⟨.inl h, rfl⟩, fun k hk => .inl ?_, fun b' o h => ?_⟩
    · rcases List.mem_cons.1 hk with rfl | hk
      · exact ⟨_, List.mem_cons_self, rfl⟩
      · exact ⟨k, List.mem_cons_of_mem _ hk, rfl⟩
    · rcases h with h | ⟨rfl, _⟩
      · exact .inl h
      · exact .inr (.inl ⟨_, List.mem_cons_self, rfl⟩)
  · have hlen : ((es.drop i).take n).length = n := by simp; omega
    obtain ⟨o, cap, rfl, ho, hc⟩ : ∃ o cap, v = .slice (some ⟨b, o, none⟩) n cap ∧ (n ≠ 0 ∨ i = 0 → o = i * sz) ∧ n ≤ cap := by
      cases hv with
      | rsl _ _ _ _ o cap ho hc hs => exact ⟨o, cap, rfl, ho, hc⟩
    by_cases hn0 : n = 0
    · subst hn0
      simp only [List.take_zero]
      exact .sl0 _ _ _
    · have ho' := ho (.inl hn0)
      subst ho'
      have := VRel.sl (K := fun b' o => K b' o ∨ (b' = b ∧ o < es.length * sz)) (w := w) sz ((es.drop i).take n) b (i * sz) cap (by omega) (fun a j => cs.getD ((i + a) * sz + j) undef)
        (fun e he => hro.hz e (List.mem_of_mem_drop (List.mem_of_mem_take he)))
        (fun a j ha hj => by
          rw [hlen] at ha
          have hb : (i + a + 1) * sz ≤ es.length * sz := Nat.mul_le_mul_right _ (by omega)
          rw [Nat.add_mul, Nat.add_mul] at hb
          rw [Nat.add_mul]
          have hlt : i * sz + a * sz + j < cs.size := by omega
          exact ⟨.inr ⟨rfl, by omega⟩, by simp [World.cell?, g1, hlt, Array.getD]⟩)
        (fun a j ha hj => by
          rw [hlen] at ha
          have e1 : (((es.drop i).take n).getD a .dead) = es.getD (i + a) .dead := by simp [List.getD_eq_getElem?_getD, ha]
          rw [e1]
          exact hmono (g3 (i + a) j (by omega) hj))
      rw [hlen] at this
      exact this
end Go.Eng
end
