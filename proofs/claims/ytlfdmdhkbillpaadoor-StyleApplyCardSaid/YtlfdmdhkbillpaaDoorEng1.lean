/- The engine, part 1: values of a walk that speak of no addresses but of blocks that the call owns, how they stand to the model's values, and what a step may change. Plain theorems for any program. -/
import Derived.Tactics
import Derived.Below
namespace Go.Eng
open Go

/-- Values as the walk has them: slices that nobody writes are lists; what the call owns is told by its block. -/
inductive PV where
  | bool (b : Bool)
  | int (k : IntKind) (n : Int)
  | str (s : List UInt8)
  | lit (v : Value)
  | sl (sz : Nat) (es : List PV)
  | nils
  | ip (e : PV) (f : Nat)
  | bref (b f : Nat)
  | ref (b sz i f : Nat)
  | rsl (b sz i n : Nat)
  | bsl (e b n : Nat)
  | bpt (e b : Nat)
  | tpt (e n b : Nat)
  | agg (cs : List PV)
  | tup (vs : List PV)
  | fn (f : FuncId) (cap : List PV)
  | ifc (t : TypeId) (v : PV)
  | mp (b : Nat)
  | opt (c : Bool) (v : PV)
  | dead
  deriving Inhabited

def PV.flat : PV → List PV
  | .agg cs => cs
  | x => [x]

abbrev Env := Nat → PV
def upd (env : Env) (t : Nat) (v : PV) : Env := fun x => bif Nat.beq x t then v else env x
def updO (env : Env) (t : Option Nat) (v : PV) : Env :=
  match t with
  | some t => upd env t v
  | none => env

/-- What a block of the call's own holds: a row: the cells of an element, the elements, how many of them (from the first on) are written no more; a string that is gone through; a map. -/
inductive Cont where
  | row (sz : Nat) (es : List PV) (fz : Nat)
  | iter (s : List UInt8) (pos : Nat)
  | mpc (es : List (PV × PV))
structure Blk where
  b : Nat
  c : Cont
abbrev Mem := List Blk
/-- Cells that are written no more. -/
abbrev Kn := Nat → Nat → Prop

inductive VRel (K : Kn) (w : World) : PV → Value → Prop
  | bool (b : Bool) : VRel K w (.bool b) (.bool b)
  | int (k : IntKind) (n : Int) : VRel K w (.int k n) (.int k n)
  | str (s : List UInt8) : VRel K w (.str s) (.string ⟨s.toArray⟩)
  | lit (v : Value) : VRel K w (.lit v) v
  | sl0 (sz : Nat) (a : Option Addr) (cap : Nat) : VRel K w (.sl sz []) (.slice a 0 cap)
  | sl (sz : Nat) (es : List PV) (b o cap : Nat) (hcap : es.length ≤ cap) (vs : Nat → Nat → Value) (hz : ∀ e ∈ es, e.flat.length = sz)
      (hk : ∀ i j, i < es.length → j < sz → K b (o + i * sz + j) ∧ w.cell? ⟨b, o + i * sz + j, none⟩ = some (vs i j))
      (hv : ∀ i j, i < es.length → j < sz → VRel K w ((es.getD i .dead).flat.getD j .dead) (vs i j)) :
      VRel K w (.sl sz es) (.slice (some ⟨b, o, none⟩) es.length cap)
  | nils : VRel K w .nils (.slice none 0 0)
  | ip (e : PV) (f b o : Nat) (vs : Nat → Value)
      (hk : ∀ j, j < e.flat.length → K b (o + j) ∧ w.cell? ⟨b, o + j, none⟩ = some (vs j))
      (hv : ∀ j, j < e.flat.length → VRel K w (e.flat.getD j .dead) (vs j)) :
      VRel K w (.ip e f) (.pointer (some ⟨b, o + f, none⟩))
  | bref (b f : Nat) : VRel K w (.bref b f) (.pointer (some ⟨b, f, none⟩))
  | ref (b sz i f : Nat) : VRel K w (.ref b sz i f) (.pointer (some ⟨b, i * sz + f, none⟩))
  | rsl (b sz i n o cap : Nat) (ho : n ≠ 0 ∨ i = 0 → o = i * sz) (hc : n ≤ cap)
      (hs : ∃ e m, w.shape? b = some (e, m) ∧ o + cap * sz ≤ m) : VRel K w (.rsl b sz i n) (.slice (some ⟨b, o, none⟩) n cap)
  | bsl (e b n cap : Nat) (hc : n ≤ cap) (hs : ∃ m, w.shape? b = some (e, m) ∧ cap ≤ m) : VRel K w (.bsl e b n) (.slice (some ⟨b, 0, none⟩) n cap)
  | bpt (e b : Nat) (hs : ∃ m, w.shape? b = some (e, m)) : VRel K w (.bpt e b) (.pointer (some ⟨b, 0, none⟩))
  | tpt (e n b : Nat) (hs : w.shape? b = some (e, n)) : VRel K w (.tpt e n b) (.pointer (some ⟨b, 0, none⟩))
  | agg (cs : List PV) (vs : List Value) (hl : cs.length = vs.length)
      (h : ∀ i, i < cs.length → VRel K w (cs.getD i .dead) (vs.getD i undef)) : VRel K w (.agg cs) (.agg vs.toArray)
  | tup (cs : List PV) (vs : List Value) (hl : cs.length = vs.length)
      (h : ∀ i, i < cs.length → VRel K w (cs.getD i .dead) (vs.getD i undef)) : VRel K w (.tup cs) (.tuple vs.toArray)
  | fn (f : FuncId) (cs : List PV) (vs : List Value) (hl : cs.length = vs.length)
      (h : ∀ i, i < cs.length → VRel K w (cs.getD i .dead) (vs.getD i undef)) : VRel K w (.fn f cs) (.func (.func f) #[] vs.toArray)
  | ifc (t : TypeId) (p : PV) (v : Value) (h : VRel K w p v) : VRel K w (.ifc t p) (.iface t v)
  | mp (b : Nat) : VRel K w (.mp b) (.map (some b))
  | opt (c : Bool) (p : PV) (v : Value) (h : c = true → VRel K w p v) (h' : c = false → v = undef) : VRel K w (.opt c p) v
  | dead (v : Value) : VRel K w .dead v

theorem VRel.mono {K K' : Kn} {w w' : World} (hK : ∀ b o, K b o → K' b o ∧ w'.cell? ⟨b, o, none⟩ = w.cell? ⟨b, o, none⟩)
    (hS : ∀ b x, w.shape? b = some x → w'.shape? b = some x) {p : PV} {v : Value} (h : VRel K w p v) : VRel K' w' p v := by
  induction h with
  | bool => exact .bool _
  | int => exact .int _ _
  | str => exact .str _
  | lit => exact .lit _
  | sl0 => exact .sl0 _ _ _
  | sl sz es b o cap hcap vs hz hk _ ih =>
    exact .sl sz es b o cap hcap vs hz (fun i j hi hj => ⟨(hK _ _ (hk i j hi hj).1).1, (hK _ _ (hk i j hi hj).1).2.trans (hk i j hi hj).2⟩) ih
  | nils => exact .nils
  | ip e f b o vs hk _ ih => exact .ip e f b o vs (fun j hj => ⟨(hK _ _ (hk j hj).1).1, (hK _ _ (hk j hj).1).2.trans (hk j hj).2⟩) ih
  | bref => exact .bref _ _
  | ref => exact .ref _ _ _ _
  | rsl b sz i n o cap ho hc hs =>
    obtain ⟨e, m, h1, h2⟩ := hs
    exact .rsl b sz i n o cap ho hc ⟨e, m, hS _ _ h1, h2⟩
  | bsl e b n cap hc hs =>
    obtain ⟨m, h1, h2⟩ := hs
    exact .bsl e b n cap hc ⟨m, hS _ _ h1, h2⟩
  | bpt e b hs =>
    obtain ⟨m, h1⟩ := hs
    exact .bpt e b ⟨m, hS _ _ h1⟩
  | tpt e n b hs => exact .tpt e n b (hS _ _ hs)
  | agg cs vs hl _ ih => exact .agg cs vs hl ih
  | tup cs vs hl _ ih => exact .tup cs vs hl ih
  | fn f cs vs hl _ ih => exact .fn f cs vs hl ih
  | ifc t p v _ ih => exact .ifc t p v ih
  | mp => exact .mp _
  | opt c p v _ h' ih => exact .opt c p v ih h'
  | dead => exact .dead _

/-- The cells of a value. -/
theorem VRel.cells {K : Kn} {w : World} {p : PV} {v : Value} (h : VRel K w p v) (hp : p ≠ .dead) (hq : ∀ x, p ≠ .lit x) (ho : ∀ c x, p ≠ .opt c x) :
    p.flat.length = v.cells.size ∧ ∀ j, j < p.flat.length → VRel K w (p.flat.getD j .dead) (v.cells.getD j undef) := by
  cases h with
  | agg cs vs hl h => exact ⟨by simpa [PV.flat, Value.cells] using hl, fun j hj => by simpa [PV.flat, Value.cells] using h j hj⟩
  | dead => exact absurd rfl hp
  | lit v => exact absurd rfl (hq v)
  | opt c p v => exact absurd rfl (ho c p)
  | _ =>
    refine ⟨rfl, fun j hj => ?_⟩
    obtain rfl : j = 0 := by simp [PV.flat] at hj; exact hj
    simp only [PV.flat, Value.cells, List.getD_cons_zero]
    first
      | exact VRel.bool _
      | exact VRel.int _ _
      | exact VRel.str _
      | exact VRel.sl0 _ _ _
      | exact VRel.nils
      | (apply VRel.bsl <;> assumption)
      | (apply VRel.bpt; assumption)
      | (apply VRel.tpt; assumption)
      | exact VRel.bref _ _
      | exact VRel.ref _ _ _ _
      | exact VRel.mp _
      | (apply VRel.sl <;> assumption)
      | (apply VRel.ip <;> assumption)
      | (apply VRel.rsl <;> assumption)
      | (apply VRel.tup <;> assumption)
      | (apply VRel.fn <;> assumption)
      | (apply VRel.ifc; assumption)

/-- A block of the call's own holds what it is said to hold. -/
structure RowOk (K : Kn) (w : World) (b sz : Nat) (es : List PV) (fz : Nat) : Prop where
  le : fz ≤ es.length
  ex : ∀ o, K b o → o < fz * sz
  hz : ∀ e ∈ es, e.flat.length = sz
  cells : ∃ cs ty, w.heap[b]? = some (.cells cs ty (0, 0)) ∧ es.length * sz ≤ cs.size ∧
    ∀ i j, i < es.length → j < sz → VRel K w ((es.getD i .dead).flat.getD j .dead) (cs.getD (i * sz + j) undef)
def BlkOk (K : Kn) (w : World) (k : Blk) : Prop :=
  match k.c with
  | .row sz es fz => RowOk K w k.b sz es fz
  | .iter s pos => w.heap[k.b]? = some (.stringIter ⟨s.toArray⟩ pos) ∧ ∀ o, ¬ K k.b o
  | .mpc es => (∀ o, ¬ K k.b o) ∧ ∃ ents clock, w.heap[k.b]? = some (.map ents clock) ∧ ents.size = es.length ∧
      ∀ i, i < es.length → VRel K w (es.getD i (.dead, .dead)).1 (ents.getD i default).key ∧ VRel K w (es.getD i (.dead, .dead)).2 (ents.getD i default).val
theorem BlkOk.lt {K : Kn} {w : World} {k : Blk} (h : BlkOk K w k) : k.b < w.heap.size := by
  unfold BlkOk at h
  split at h
  · obtain ⟨_, _, _, cs, ty, h4, _⟩ := h; exact (Array.getElem?_eq_some_iff.1 h4).1
  · exact (Array.getElem?_eq_some_iff.1 h.1).1
  · obtain ⟨_, cs, ty, h4, _⟩ := h; exact (Array.getElem?_eq_some_iff.1 h4).1
theorem BlkOk.move {K K' : Kn} {w w' : World} {k : Blk} (h : BlkOk K w k) (hh : w'.heap[k.b]? = w.heap[k.b]?) (hn : ∀ o, K' k.b o → K k.b o)
    (hK : ∀ b o, K b o → K' b o ∧ w'.cell? ⟨b, o, none⟩ = w.cell? ⟨b, o, none⟩) (hS : ∀ b x, w.shape? b = some x → w'.shape? b = some x) : BlkOk K' w' k := by
  unfold BlkOk at *
  split at h
  · obtain ⟨h1, h2, h3, cs, ty, h4, h5, h6⟩ := h
    exact ⟨h1, fun o ho => h2 o (hn o ho), h3, cs, ty, by rw [hh]; exact h4, h5, fun i j hi hj => (h6 i j hi hj).mono hK hS⟩
  · exact ⟨by rw [hh]; exact h.1, fun o ho => h.2 o (hn o ho)⟩
  · obtain ⟨h1, ents, clock, h2, h3, h4⟩ := h
    exact ⟨fun o ho => h1 o (hn o ho), ents, clock, by rw [hh]; exact h2, h3, fun i hi => ⟨(h4 i hi).1.mono hK hS, (h4 i hi).2.mono hK hS⟩⟩

structure SatM (K : Kn) (σ : Mem) (w : World) : Prop where
  kin : ∀ b o, K b o → b < w.heap.size
  nodup : (σ.map Blk.b).Nodup
  blk : ∀ k ∈ σ, BlkOk K w k

structure Ext (σ : Mem) (K : Kn) (w : World) (σ' : Mem) (K' : Kn) (w' : World) : Prop where
  os : w'.os = w.os
  tape : w'.tape = w.tape
  output : w'.output = w.output
  size : w.heap.size ≤ w'.heap.size
  shape : ∀ b x, w.shape? b = some x → w'.shape? b = some x
  keep : ∀ b, b < w.heap.size → (∀ k ∈ σ, k.b ≠ b) → w'.heap[b]? = w.heap[b]?
  kn : ∀ b o, K b o → K' b o ∧ w'.cell? ⟨b, o, none⟩ = w.cell? ⟨b, o, none⟩
  own : ∀ k ∈ σ', (∃ k0 ∈ σ, k0.b = k.b) ∨ w.heap.size ≤ k.b
  fresh : ∀ b o, K' b o → K b o ∨ (∃ k0 ∈ σ, k0.b = b) ∨ w.heap.size ≤ b

theorem Ext.refl (σ : Mem) (K : Kn) (w : World) : Ext σ K w σ K w :=
  ⟨rfl, rfl, rfl, Nat.le_refl _, fun _ _ h => h, fun _ _ _ => rfl, fun _ _ h => ⟨h, rfl⟩, fun k hk => .inl ⟨k, hk, rfl⟩, fun _ _ h => .inl h⟩

theorem Ext.trans {σ σ1 σ2 : Mem} {K K1 K2 : Kn} {w w1 w2 : World} (h : Ext σ K w σ1 K1 w1) (g : Ext σ1 K1 w1 σ2 K2 w2) : Ext σ K w σ2 K2 w2 where
  os := g.os.trans h.os
  tape := g.tape.trans h.tape
  output := g.output.trans h.output
  size := Nat.le_trans h.size g.size
  shape b x hx := g.shape b x (h.shape b x hx)
  keep b hb hn := (g.keep b (Nat.lt_of_lt_of_le hb h.size) (fun k hk hkb => by
    rcases h.own k hk with ⟨k0, h0, h1⟩ | h1
    · exact hn k0 h0 (h1.trans hkb)
    · omega)).trans (h.keep b hb hn)
  kn b o hb := ⟨(g.kn b o (h.kn b o hb).1).1, (g.kn b o (h.kn b o hb).1).2.trans (h.kn b o hb).2⟩
  own k hk := by
    rcases g.own k hk with ⟨k1, h1, h2⟩ | h2
    · rcases h.own k1 h1 with ⟨k0, h3, h4⟩ | h4
      · exact .inl ⟨k0, h3, h4.trans h2⟩
      · exact .inr (h2 ▸ h4)
    · exact .inr (Nat.le_trans h.size h2)
  fresh b o hb := by
    rcases g.fresh b o hb with h1 | ⟨k1, h1, h2⟩ | h1
    · exact h.fresh b o h1
    · rcases h.own k1 h1 with ⟨k0, h3, h4⟩ | h4
      · exact .inr (.inl ⟨k0, h3, h4.trans h2⟩)
      · exact .inr (.inr (h2 ▸ h4))
    · exact .inr (.inr (Nat.le_trans h.size h1))

theorem Ext.vrel {σ σ1 : Mem} {K K1 : Kn} {w w1 : World} (h : Ext σ K w σ1 K1 w1) {p : PV} {v : Value} (hv : VRel K w p v) : VRel K1 w1 p v :=
  hv.mono h.kn h.shape

/-- A draw changes nothing. -/
theorem Ext.drawn (σ : Mem) (K : Kn) (w : World) (n : Nat) : Ext σ K w σ K { w with drawn := n } :=
  ⟨rfl, rfl, rfl, Nat.le_refl _, fun _ _ h => h, fun _ _ _ => rfl, fun _ _ h => ⟨h, rfl⟩, fun k hk => .inl ⟨k, hk, rfl⟩, fun _ _ h => .inl h⟩
theorem SatM.drawn {K : Kn} {σ : Mem} {w : World} (h : SatM K σ w) (n : Nat) : SatM K σ { w with drawn := n } :=
  ⟨h.kin, h.nodup, fun k hk => BlkOk.move (w' := { w with drawn := n }) (h.blk k hk) rfl (fun _ h => h) (fun _ _ h => ⟨h, rfl⟩) (fun _ _ h => h)⟩

/-- The frame rule for memory: what the call isn't given stays. -/
theorem SatM.frame {K K1 : Kn} {σ σ1 τ : Mem} {w w1 : World} (h : SatM K (σ ++ τ) w) (g : SatM K1 σ1 w1) (x : Ext σ K w σ1 K1 w1) : SatM K1 (σ1 ++ τ) w1 := by
  have hnd := h.nodup
  rw [List.map_append, List.nodup_append] at hnd
  have hlt : ∀ k ∈ τ, k.b < w.heap.size := fun k hk => (h.blk k (List.mem_append_right _ hk)).lt
  have hne : ∀ k ∈ τ, ∀ k0 ∈ σ, k0.b ≠ k.b := fun k hk k0 h0 e => hnd.2.2 k0.b (List.mem_map_of_mem h0) k.b (List.mem_map_of_mem hk) e
  refine ⟨g.kin, ?_, fun k hk => ?_⟩
  · rw [List.map_append, List.nodup_append]
    refine ⟨g.nodup, hnd.2.1, fun a ha b hb e => ?_⟩
    obtain ⟨k1, h1, rfl⟩ := List.mem_map.1 ha
    obtain ⟨k2, h2, rfl⟩ := List.mem_map.1 hb
    rcases x.own k1 h1 with ⟨k0, h3, h4⟩ | h4
    · exact hne k2 h2 k0 h3 (h4.trans e)
    · have := hlt k2 h2; omega
  · rcases List.mem_append.1 hk with hk | hk
    · exact g.blk k hk
    · refine (h.blk k (List.mem_append_right _ hk)).move (x.keep k.b (hlt k hk) (hne k hk)) (fun o ho => ?_) x.kn x.shape
      rcases x.fresh _ _ ho with h7 | ⟨k0, h7, h8⟩ | h7
      · exact h7
      · exact absurd h8 (hne k hk k0 h7)
      · have := hlt k hk; omega

theorem Ext.frame {K K1 : Kn} {σ σ1 τ : Mem} {w w1 : World} (x : Ext σ K w σ1 K1 w1) : Ext (σ ++ τ) K w (σ1 ++ τ) K1 w1 where
  os := x.os
  tape := x.tape
  output := x.output
  size := x.size
  shape := x.shape
  keep b hb hn := x.keep b hb fun k hk => hn k (List.mem_append_left _ hk)
  kn := x.kn
  own k hk := by
    rcases List.mem_append.1 hk with hk | hk
    · rcases x.own k hk with ⟨k0, h0, h1⟩ | h1
      · exact .inl ⟨k0, List.mem_append_left _ h0, h1⟩
      · exact .inr h1
    · exact .inl ⟨k, List.mem_append_right _ hk, rfl⟩
  fresh b o hb := by
    rcases x.fresh b o hb with h1 | ⟨k0, h0, h1⟩ | h1
    · exact .inl h1
    · exact .inr (.inl ⟨k0, List.mem_append_left _ h0, h1⟩)
    · exact .inr (.inr h1)

theorem SatM.left {K : Kn} {σ τ : Mem} {w : World} (h : SatM K (σ ++ τ) w) : SatM K σ w :=
  ⟨h.kin, by have := h.nodup; rw [List.map_append, List.nodup_append] at this; exact this.1, fun k hk => h.blk k (List.mem_append_left _ hk)⟩
theorem SatM.perm {K : Kn} {σ τ : Mem} {w : World} (h : SatM K σ w) (hp : σ.Perm τ) : SatM K τ w :=
  ⟨h.kin, (hp.map _).nodup_iff.1 h.nodup, fun k hk => h.blk k (hp.mem_iff.2 hk)⟩
theorem Ext.perm {K K1 : Kn} {σ σ' σ1 σ1' : Mem} {w w1 : World} (x : Ext σ K w σ1 K1 w1) (hp : σ.Perm σ') (hq : σ1.Perm σ1') : Ext σ' K w σ1' K1 w1 where
  os := x.os
  tape := x.tape
  output := x.output
  size := x.size
  shape := x.shape
  keep b hb hn := x.keep b hb fun k hk => hn k (hp.mem_iff.1 hk)
  kn := x.kn
  own k hk := by
    rcases x.own k (hq.mem_iff.2 hk) with ⟨k0, h0, h1⟩ | h1
    · exact .inl ⟨k0, hp.mem_iff.1 h0, h1⟩
    · exact .inr h1
  fresh b o hb := by
    rcases x.fresh b o hb with h1 | ⟨k0, h0, h1⟩ | h1
    · exact .inl h1
    · exact .inr (.inl ⟨k0, hp.mem_iff.1 h0, h1⟩)
    · exact .inr (.inr h1)
/-- What is owned may be forgotten. -/
theorem SatM.drop {K : Kn} {σ τ : Mem} {w : World} (h : SatM K σ w) (hs : τ.Sublist σ) : SatM K τ w :=
  ⟨h.kin, (hs.map _).nodup h.nodup, fun k hk => h.blk k (hs.mem hk)⟩
theorem Ext.drop {K : Kn} {σ τ : Mem} {w : World} (hs : τ.Sublist σ) : Ext σ K w τ K w :=
  ⟨rfl, rfl, rfl, Nat.le_refl _, fun _ _ h => h, fun _ _ _ => rfl, fun _ _ h => ⟨h, rfl⟩, fun k hk => .inl ⟨k, hs.mem hk, rfl⟩, fun _ _ h => .inl h⟩
end Go.Eng
