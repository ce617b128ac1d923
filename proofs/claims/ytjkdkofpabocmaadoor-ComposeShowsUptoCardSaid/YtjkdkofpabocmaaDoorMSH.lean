/- Texts put together: Eng33. -/
import Derived.Test.YtjkdkofpabocmaaDoorME7
/- The engine, part 33: a call that is given what was owned, to be written no more. -/
section
namespace Go.Eng
open Go
variable {P : Program} {W : World}
theorem Pure.giveUp {f : FuncId} {args args' : List PV} {r : PV} {σ τ ρ : Mem} {k : PV → Mem → Prop} (h : Pure P W f args' r) (hl : args.length = args'.length) (hp : σ.Perm (τ ++ ρ))
    (ha : ∀ i, i < args.length → Frz ρ (args.getD i .dead) (args'.getD i .dead)) (hk : k r τ) : ACalls P W f args σ k := by
  refine ACalls.perm ?_ hp
  have hu : ACalls P W f args' τ k := h.use hk
  refine ⟨hu.body, fun K w vs hlen hr hm hpre => ?_⟩
  have hρ : SatM K ρ w := hm.drop (List.sublist_append_right _ _)
  have hrel : ∀ i, i < args'.length → VRel (allK K ρ) w (args'.getD i .dead) (vs.getD i undef) := fun i hi => frz_sound hρ (ha i (by omega)) _ (hr i (by omega))
  refine (hu.run _ w vs (hl ▸ hlen) hrel hm.freeze ⟨hpre.size, hpre.base, fun k hk => hpre.own k (List.mem_append_left _ hk)⟩).mono ?_
  rintro e w' ⟨v, pv, σ', K', h2, h3, h4, h5, h6⟩
  exact ⟨v, pv, σ', K', h2, h3, h4, h5, (Ext.freeze (K := K) (τ := τ) (ρ := ρ) (w := w)).trans h6⟩
end Go.Eng
end
