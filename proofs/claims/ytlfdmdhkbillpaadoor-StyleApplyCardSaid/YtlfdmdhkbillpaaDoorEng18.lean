/- The engine, part 18: calls that read what is owned and hand over what they made anew. -/
import Derived.Test.YtlfdmdhkbillpaaDoorEng17
namespace Go.Eng
open Go

variable {P : Program} {W : World}

/-- A value that reads nothing that is written no more: it stands whatever is known. -/
inductive Free : PV → Prop
  | bool (b : Bool) : Free (.bool b)
  | int (k : IntKind) (n : Int) : Free (.int k n)
  | str (s : List UInt8) : Free (.str s)
  | lit (v : Value) : Free (.lit v)
  | sl0 (sz : Nat) : Free (.sl sz [])
  | nils : Free .nils
  | bref (b f : Nat) : Free (.bref b f)
  | ref (b sz i f : Nat) : Free (.ref b sz i f)
  | rsl (b sz i n : Nat) : Free (.rsl b sz i n)
  | bsl (e b n : Nat) : Free (.bsl e b n)
  | tpt (e n b : Nat) : Free (.tpt e n b)
  | agg (cs : List PV) (h : ∀ c ∈ cs, Free c) : Free (.agg cs)
  | tup (cs : List PV) (h : ∀ c ∈ cs, Free c) : Free (.tup cs)
theorem Free.rel {p : PV} (h : Free p) : ∀ {K K' : Kn} {w : World} {v : Value}, VRel K w p v → VRel K' w p v := by
  induction h with
  | agg cs _ ih =>
    intro K K' w v hv
    cases hv with
    | agg _ vs hl hr => exact .agg _ vs hl fun i hi => ih _ (by simp [List.getD_eq_getElem?_getD, hi]) (hr i hi)
  | tup cs _ ih =>
    intro K K' w v hv
    cases hv with
    | tup _ vs hl hr => exact .tup _ vs hl fun i hi => ih _ (by simp [List.getD_eq_getElem?_getD, hi]) (hr i hi)
  | sl0 sz =>
    intro K K' w v hv
    cases hv with
    | sl0 _ a c => exact .sl0 _ _ _
    | sl _ _ b o cap hcap vs hz hk hv => exact .sl0 _ _ _
  | _ =>
    intro K K' w v hv
    cases hv <;> first
      | exact .bool _ | exact .int _ _ | exact .str _ | exact .lit _ | exact .nils | exact .bref _ _ | exact .ref _ _ _ _
      | (apply VRel.rsl <;> assumption) | (apply VRel.bsl <;> assumption) | (apply VRel.tpt; assumption)
theorem Free.flat {p : PV} (h : Free p) : ∀ c ∈ p.flat, Free c := by
  cases h with
  | agg cs h => exact h
  | _ => intro c hc; simp only [PV.flat, List.mem_singleton] at hc; subst hc; constructor <;> assumption
/-- Rows of such values. -/
def FreeM (σ : Mem) : Prop := ∀ k ∈ σ, ∃ sz es fz, k.c = .row sz es fz ∧ ∀ e ∈ es, Free e
theorem FreeM.nil : FreeM [] := fun k hk => by cases hk
theorem FreeM.cons {b sz fz : Nat} {es : List PV} {σ : Mem} (h : ∀ e ∈ es, Free e) (g : FreeM σ) : FreeM (⟨b, .row sz es fz⟩ :: σ) := by
  intro k hk
  rcases List.mem_cons.1 hk with rfl | hk
  · exact ⟨sz, es, fz, rfl, h⟩
  · exact g k hk
theorem FreeM.app {σ τ : Mem} (h : FreeM σ) (g : FreeM τ) : FreeM (σ ++ τ) := by
  intro k hk
  rcases List.mem_append.1 hk with hk | hk
  · exact h k hk
  · exact g k hk
/-- A call that reads what is owned as if nobody wrote it, and hands over what it made. -/
theorem ACalls.borrow {α : Type} {V : α → PV} {M : α → Mem} {R : α → Prop} {f : FuncId} {args args' : List PV} {σ : Mem} {k : PV → Mem → Prop} (h : ACalls P W f args' [] (Gives V M R)) (hf : ∀ x, R x → Free (V x) ∧ FreeM (M x))
    (hl : args.length = args'.length) (ha : ∀ i, i < args.length → Frz σ (args.getD i .dead) (args'.getD i .dead)) (hk : ∀ x, R x → k (V x) (M x ++ σ)) : ACalls P W f args σ k := by
  refine ⟨h.body, fun K w vs hlen hr hm hpre => ?_⟩
  have hrel : ∀ i, i < args'.length → VRel (allK K σ) w (args'.getD i .dead) (vs.getD i undef) := fun i hi => frz_sound hm (ha i (by omega)) _ (hr i (by omega))
  refine (h.run _ w vs (hl ▸ hlen) hrel (allK_sat hm) ⟨hpre.size, hpre.base, fun k hk => by cases hk⟩).mono ?_
  rintro e w' ⟨v, pv, σ', K', h2, ⟨x, hR, rfl, ρ, hρ⟩, h4, h5, h6⟩
  obtain ⟨f1, f2⟩ := hf x hR
  have h5' : SatM K' (M x) w' := (h5.perm hρ).drop (List.sublist_append_left _ _)
  have hnew : ∀ k ∈ M x, w.heap.size ≤ k.b := fun k hk => by
    rcases h6.own k (hρ.mem_iff.2 (List.mem_append_left _ hk)) with ⟨k0, h0, _⟩ | h0
    · cases h0
    · exact h0
  have hold : ∀ k ∈ σ, k.b < w.heap.size := fun k hk => (hm.blk k hk).lt
  let K2 : Kn := fun b o => K' b o ∧ ((∃ k ∈ σ, k.b = b) → K b o)
  have hK2 : ∀ b o, K b o → K2 b o ∧ w'.cell? ⟨b, o, none⟩ = w.cell? ⟨b, o, none⟩ := fun b o hb => ⟨⟨(h6.kn b o (.inl hb)).1, fun _ => hb⟩, (h6.kn b o (.inl hb)).2⟩
  refine ⟨v, V x, M x ++ σ, K2, h2, hk x hR, f1.rel h4, ⟨fun b o hb => h5.kin b o hb.1, ?_, fun k hk => ?_⟩, ?_⟩
  · rw [List.map_append, List.nodup_append]
    refine ⟨h5'.nodup, hm.nodup, fun a ha b hb e => ?_⟩
    obtain ⟨k1, g1, rfl⟩ := List.mem_map.1 ha
    obtain ⟨k2, g2, rfl⟩ := List.mem_map.1 hb
    have := hnew k1 g1
    have := hold k2 g2
    omega
  · rcases List.mem_append.1 hk with hk | hk
    · obtain ⟨sz, es, fz, hc, hes⟩ := f2 k hk
      obtain ⟨b, c⟩ := k
      obtain rfl : c = .row sz es fz := hc
      obtain ⟨g1, g2, g3, cs, ty, g4, g5, g6⟩ : RowOk K' w' b sz es fz := h5'.blk _ hk
      show RowOk K2 w' b sz es fz
      refine ⟨g1, fun o ho => g2 o ho.1, g3, cs, ty, g4, g5, fun i j hi hj => ?_⟩
      have hmem : es.getD i .dead ∈ es := by simp [List.getD_eq_getElem?_getD, hi]
      have hlen := g3 _ hmem
      refine Free.rel ((hes _ hmem).flat _ ?_) (g6 i j hi hj)
      generalize (es.getD i .dead).flat = l at hlen
      subst hlen
      simp [List.getD_eq_getElem?_getD, hj]
    · exact (hm.blk k hk).move (h6.keep k.b (hold k hk) (fun k0 h0 => by cases h0)) (fun o ho => ho.2 ⟨k, hk, rfl⟩) hK2 h6.shape
  · refine ⟨h6.os, h6.tape, h6.output, h6.size, h6.shape, fun b hb _ => h6.keep b hb (fun k0 h0 => by cases h0), hK2, fun k hk => ?_, fun b o hb => ?_⟩
    · rcases List.mem_append.1 hk with hk | hk
      · exact .inr (hnew k hk)
      · exact .inl ⟨k, hk, rfl⟩
    · rcases h6.fresh b o hb.1 with h | ⟨k0, h0, _⟩ | h
      · rcases h with h | ⟨sz, es, fz, h, _⟩
        · exact .inl h
        · exact .inr (.inl ⟨_, h, rfl⟩)
      · cases h0
      · exact .inr (.inr h)
/-- One argument. -/
theorem ACalls.borrow1 {α : Type} {V : α → PV} {M : α → Mem} {R : α → Prop} {f : FuncId} {a a' : PV} {σ : Mem} {k : PV → Mem → Prop} (h : ACalls P W f [a'] [] (Gives V M R)) (hf : ∀ x, R x → Free (V x) ∧ FreeM (M x))
    (ha : Frz σ a a') (hk : ∀ x, R x → k (V x) (M x ++ σ)) : ACalls P W f [a] σ k :=
  h.borrow hf rfl (fun i hi => by
    obtain rfl : i = 0 := by simpa using hi
    exact ha) hk
theorem Pure.borrow1 {f : FuncId} {a a' r : PV} {σ : Mem} {k : PV → Mem → Prop} (h : Pure P W f [a'] r) (hp : isPlain r = true) (ha : Frz σ a a') (hk : k r σ) : ACalls P W f [a] σ k :=
  h.borrow hp rfl (fun i hi => by
    obtain rfl : i = 0 := by simpa using hi
    exact ha) hk
/-- What was made becomes what nobody writes. -/
theorem ACalls.pure {α : Type} {V : α → PV} {M : α → Mem} {R : α → Prop} {f : FuncId} {args : List PV} {r : PV} (h : ACalls P W f args [] (Gives V M R)) (hz : ∀ x, R x → Frz (M x) (V x) r) : Pure P W f args r :=
  Pure.of (ACalls.weak (h.mono fun _ _ ⟨x, hR, hv, hm⟩ => ⟨_, hv ▸ hz x hR, hm⟩))
theorem wkMem.skip {k : Blk} {σ τ : Mem} (h : wkMem σ τ) : wkMem (k :: σ) τ := by
  obtain ⟨q, hq⟩ := h
  exact ⟨k :: q, (hq.cons k).trans List.perm_middle.symm⟩
end Go.Eng
