/- Texts put together: Hs6, Hs8, Hs7. -/
import Derived.Test.YtkenlcaifhffoaaDoorMHS5
import Derived.Test.YtkenlcaifhffoaaDoorMHS6
import Derived.Test.YtkenlcaifhffoaaDoorMSH
/- Houses: a session in memory; the package's Window (b_ x_ q_ e_). -/
section
namespace Go.Eng.YtkenlcaifhffoaaDoor
open Go Go.Eng Go.Proofs
variable (W : World)
set_option linter.unusedSimpArgs false
set_option maxRecDepth 100000
set_option linter.unusedVariables false
set_option maxHeartbeats 8000000
theorem permAt {α : Type} : ∀ {l : List α} {i : Nat} {p : α}, l[i]? = some p → l.Perm (p :: l.eraseIdx i)
  | [], i, p, h => by simp at h
  | q :: l, 0, p, h => by
    obtain rfl := Option.some.inj h
    exact .refl _
  | q :: l, i + 1, p, h => (List.Perm.cons q (permAt (by simpa using h))).trans (.swap _ _ _)
theorem famAt {L : List (Nat × Ses)} {i : Nat} {x : Nat × Ses} (h : L[i]? = some x) : (famM 8 encWin (L.map winsP)).Perm (⟨x.1, .row 8 (x.2.wins.map encWin) 0⟩ :: famM 8 encWin ((L.map winsP).eraseIdx i)) := by
  have := (permAt (winsP_at h)).map (fun p : Nat × List Win => (⟨p.1, .row 8 (p.2.map encWin) 0⟩ : Blk))
  exact this
def winE (h : Hs) (s : Int) (n : List UInt8) : Int :=
  if s < 0 then 6 else match h.ses[s.toNat]? with
  | none => 6
  | some x => if nameB n = false then 1 else if x.wins.length = 6 then 10 else if h.next = 9999 then 10 else 0
def winY (h : Hs) (s : Int) (n : List UInt8) : Hs := match h.ses[s.toNat]? with
  | none => h
  | some x => ⟨h.ses.set s.toNat ⟨x.name, x.wins ++ [winN n h.next], x.wins.length, x.act⟩, h.views, h.next + 1⟩
end Go.Eng.YtkenlcaifhffoaaDoor
end

/- A pointer to a closure, read out for a call. -/
section
namespace Go.Eng
open Go
variable {P : Program} {W : World}
def FrzS (σ : Mem) (p p' : PV) : Prop := ∀ (K : Kn) (w : World), SatM K σ w → ∀ v, VRel K w p v → VRel (allK K σ) w p' v
theorem FrzS.of {σ : Mem} {p p' : PV} (h : Frz σ p p') : FrzS σ p p' := fun _ _ hm v hv => frz_sound hm h v hv
theorem FrzS.fn {σ : Mem} (f : FuncId) {cs cs' : List PV} (hl : cs.length = cs'.length) (h : ∀ j, j < cs.length → FrzS σ (cs.getD j .dead) (cs'.getD j .dead)) : FrzS σ (.fn f cs) (.fn f cs') := by
  intro K w hm v hv
  cases hv
  rename_i vs hl' hr
  exact .fn _ _ _ (hl ▸ hl') (fun i hi => h i (hl ▸ hi) K w hm _ (hr i (hl ▸ hi)))
theorem FrzS.deep {σ r : Mem} {b f fz : Nat} {e e' : PV} (hl : Look σ b (.row 1 [e] fz) r) (h : FrzS σ e e') (h1 : e.flat = [e]) (h2 : e'.flat = [e']) : FrzS σ (.bref b f) (.ip e' f) := by
  intro K w hm v hv
  cases hv
  have hro : RowOk K w b 1 [e] fz := hm.blk _ hl.mem
  obtain ⟨cs, ty, g1, g2, g3⟩ := hro.cells
  simp only [List.length_cons, List.length_nil, Nat.zero_add, Nat.one_mul] at g2
  have := VRel.ip (K := allK K σ) (w := w) e' f b 0 (fun j => cs.getD j undef) (fun j hj => by
    rw [h2] at hj
    simp only [List.length_cons, List.length_nil] at hj
    have hlt : 0 + j < cs.size := by omega
    exact ⟨.inr ⟨1, [e], fz, hl.mem, by simp; omega⟩, by simp [World.cell?, g1, show j < cs.size by omega, Array.getD]⟩) (fun j hj => by
    rw [h2] at hj ⊢
    simp only [List.length_cons, List.length_nil] at hj
    obtain rfl : j = 0 := by omega
    have := g3 0 0 (by simp) (by omega)
    simp only [List.getD_cons_zero, Nat.zero_mul, Nat.zero_add] at this
    rw [h1] at this
    exact h K w hm _ (by simpa using this))
  rwa [Nat.zero_add] at this
end Go.Eng
end

/- Houses: the package's Show; Window and Show as calls (b_ x_ q_ e_). -/
section
namespace Go.Eng.YtkenlcaifhffoaaDoor
open Go Go.Eng Go.Proofs
variable (W : World)
set_option linter.unusedSimpArgs false
set_option maxRecDepth 100000
set_option linter.unusedVariables false
set_option maxHeartbeats 8000000
def showE (h : Hs) (s k : Int) : Int :=
  if s < 0 then 6 else match h.ses[s.toNat]? with
  | none => 6
  | some x => if k < 0 then 6 else if (x.wins.length : Int) ≤ k then 6 else 0
def showY (h : Hs) (s k : Int) : Hs := match h.ses[s.toNat]? with
  | none => h
  | some x => if x.act = k then h else ⟨h.ses.set s.toNat ⟨x.name, x.wins, k, x.act⟩, h.views, h.next⟩
end Go.Eng.YtkenlcaifhffoaaDoor
end
