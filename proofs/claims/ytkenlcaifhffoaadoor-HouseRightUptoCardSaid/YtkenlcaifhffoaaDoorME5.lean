/- Texts put together: Eng22. -/
import Derived.Test.YtkenlcaifhffoaaDoorME4
/- The engine, part 22: what is owned is written no more, from a drawn region on. -/
section
namespace Go.Eng
open Go

variable {P : Program} {W : World} {ds : List Deferred}

theorem SatM.freeze {K : Kn} {τ ρ : Mem} {w : World} (h : SatM K (τ ++ ρ) w) : SatM (allK K ρ) τ w where
  kin b o hb := by
    rcases hb with hb | ⟨sz, es, fz, hm, _⟩
    · exact h.kin b o hb
    · exact (h.blk _ (List.mem_append_right _ hm)).lt
  nodup := by
    have := h.nodup
    rw [List.map_append] at this
    exact (List.nodup_append.1 this).1
  blk k hk := by
    refine (h.blk k (List.mem_append_left _ hk)).move rfl (fun o ho => ?_) (fun b o hb => ⟨.inl hb, rfl⟩) (fun _ _ h => h)
    rcases ho with ho | ⟨sz, es, fz, hm, _⟩
    · exact ho
    · have := h.nodup
      rw [List.map_append] at this
      exact absurd rfl ((List.nodup_append.1 this).2.2 k.b (List.mem_map_of_mem hk) k.b (List.mem_map.2 ⟨_, hm, rfl⟩))
theorem Ext.freeze {K : Kn} {τ ρ : Mem} {w : World} : Ext (τ ++ ρ) K w τ (allK K ρ) w where
  os := rfl
  tape := rfl
  output := rfl
  size := Nat.le_refl _
  shape _ _ h := h
  keep _ _ _ := rfl
  kn _ _ h := ⟨.inl h, rfl⟩
  own k hk := .inl ⟨k, List.mem_append_left _ hk, rfl⟩
  fresh b o h := by
    rcases h with h | ⟨sz, es, fz, hm, _⟩
    · exact .inl h
    · exact .inr (.inl ⟨_, List.mem_append_right _ hm, rfl⟩)
def DZ (P : Program) (W : World) (ops : Array Oper) (Q : Env → Mem → Prop) (env : Env) (σ : Mem) : Prop :=
  ∃ env' τ ρ, σ.Perm (τ ++ ρ) ∧ (∀ t, Frz ρ (env t) (env' t)) ∧ DF P W ops Q env' τ
inductive DrawsZ (A B : Prop) : Prop
  | old (h : A)
  | frz (h : B)
def DG (P : Program) (W : World) (ops : Array Oper) (Q : Env → Mem → Prop) (env : Env) (σ : Mem) : Prop := DrawsZ (DD P W ops Q env σ) (DZ P W ops Q env σ)
end Go.Eng
end
