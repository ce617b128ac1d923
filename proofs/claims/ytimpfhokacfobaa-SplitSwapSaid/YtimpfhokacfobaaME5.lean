/- Texts put together: Eng22. -/
import Derived.Test.YtimpfhokacfobaaME4
/- The engine, part 22: what is owned is written no more, from a drawn region on. -/
section
namespace Go.Eng
open Go

variable {P : Program} {W : World} {ds : List Deferred}

theorem SatM.freeze {K : Kn} {τ ρ : Mem} {w : World} (h : SatM K (τ ++ ρ) w) : SatM (allK K ρ) τ w where
  kin b o hb := by
    rcases hb with hb | ⟨sz, es, fz, hm, _⟩
    · exact h.kin b o hb
    · exact (h.blk _ (List.mem_append_right _ hm)).lt
  nodup := by
    have := h.nodup
    rw [List.map_append] at this
    exact (List.nodup_append.1 this).1
  blk k hk := by
    refine (h.blk k (List.mem_append_left _ hk)).move rfl (fun o ho => ?_) (fun b o hb => ⟨.inl hb, rfl⟩) (fun _ _ h => h)
    rcases ho with ho | ⟨sz, es, fz, hm, _⟩
    · exact ho
    · have := h.nodup
      rw [List.map_append] at this
      exact absurd rfl ((List.nodup_append.1 this).2.2 k.b (List.mem_map_of_mem hk) k.b (List.mem_map.2 ⟨_, hm, rfl⟩))
theorem Ext.freeze {K : Kn} {τ ρ : Mem} {w : World} : Ext (τ ++ ρ) K w τ (allK K ρ) w where
  os := rfl
  tape := rfl
  output := rfl
  size := Nat.le_refl _
  shape _ _ h := h
  keep _ _ _ := rfl
  kn _ _ h := ⟨.inl h, rfl⟩
  own k hk := .inl ⟨k, List.mem_append_left _ hk, rfl⟩
  fresh b o h := by
    rcases h with h | ⟨sz, es, fz, hm, _⟩
    · exact .inl h
    · exact .inr (.inl ⟨_, List.mem_append_right _ hm, rfl⟩)
def DZ (P : Program) (W : World) (ops : Array Oper) (Q : Env → Mem → Prop) (env : Env) (σ : Mem) : Prop :=
  ∃ env' τ ρ, σ.Perm (τ ++ ρ) ∧ (∀ t, Frz ρ (env t) (env' t)) ∧ DF P W ops Q env' τ
theorem DZ_ok (hm : P.follows .mixedOrders = true) : DrawOk P W (DZ P W) := by
  intro ds nt id ops Q env σ K a w hok h hs
  obtain ⟨env', τ, ρ, hp, he, hd⟩ := h
  have hm' := hs.mem.perm hp
  have hρ : SatM K ρ w := hm'.drop (List.sublist_append_right _ _)
  have hs' : Sat ds W nt (allK K ρ) env' τ a w := ⟨hm'.freeze, ⟨hs.pre.size, hs.pre.base, fun k hk => hs.pre.own k (hp.mem_iff.2 (List.mem_append_left _ hk))⟩, hs.sz, fun t => frz_sound hρ (he t) _ (hs.env t), hs.dfs⟩
  refine wp_mono (DF_ok hm ds nt id ops Q env' τ (allK K ρ) a w hok hd hs') ?_
  rintro e a' w' ⟨env2, σ2, K2, h1, h2, h3⟩
  exact ⟨env2, σ2, K2, h1, h2, ((Ext.freeze (K := K) (τ := τ) (ρ := ρ) (w := w)).perm hp.symm (.refl _)).trans h3⟩
inductive DrawsZ (A B : Prop) : Prop
  | old (h : A)
  | frz (h : B)
def DG (P : Program) (W : World) (ops : Array Oper) (Q : Env → Mem → Prop) (env : Env) (σ : Mem) : Prop := DrawsZ (DD P W ops Q env σ) (DZ P W ops Q env σ)
theorem DG_ok (hm : P.follows .mixedOrders = true) : DrawOk P W (DG P W) := by
  intro ds nt id ops Q env σ K a w hok h hs
  rcases h with h | h
  · exact DD_ok hm ds nt id ops Q env σ K a w hok h hs
  · exact DZ_ok hm ds nt id ops Q env σ K a w hok h hs
/-- One slot's rows are written no more. -/
theorem freeze_ {ops : Array Oper} {Q : Env → Mem → Prop} {env : Env} {σ : Mem} (t : Nat) (v : PV) (τ ρ : Mem) (hp : σ.Perm (τ ++ ρ)) (hv : Frz ρ (env t) v) (h : DD P W ops Q (upd env t v) τ) : DG P W ops Q env σ :=
  .frz ⟨_, τ, ρ, hp, fun t' => by
    unfold upd
    by_cases e : t' = t
    · subst e; simp; exact hv
    · have : Nat.beq t' t = false := by rw [Bool.eq_false_iff]; intro h; exact e (Nat.eq_of_beq_eq_true h)
      simp [e, this]
      exact .refl _, .old h⟩
end Go.Eng
end
