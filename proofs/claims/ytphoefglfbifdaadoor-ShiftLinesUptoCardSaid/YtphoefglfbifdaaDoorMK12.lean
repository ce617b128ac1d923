/- Texts put together: Grow. -/
import Derived.Shelf.Spec.SlicesGrow
import Derived.Test.YtphoefglfbifdaaDoorMW11
/- slices.Grow of the nil slice, at cells. -/
section
namespace Go.Eng.YtphoefglfbifdaaDoor
open Go Go.Eng Go.Proofs
variable (W : World)
set_option linter.unusedSimpArgs false
set_option maxRecDepth 100000
set_option linter.unusedVariables false
def growRen : Go.Shelf.Ren := ⟨fun n => match n with | 4 => 72 | n => n, fun n => match n with | 0 => 0 | 3 => 3 | 4 => 4 | 9 => 9 | 20 => 20 | 22 => 22 | 25 => 56 | n => n, fun n => n⟩
theorem growLays : Go.Proofs.Lays8.n4 Tryd.prog growRen := {
  mixed := by kernel_rfl
  f4 := ⟨Tryd.f72.name, by kernel_rfl, Tryd.func72.trans (congrArg some (by kernel_rfl))⟩
  t0 := Tryd.underlying0
  a0 := Tryd.isAgg0
  z0 := Tryd.sizeOf0
  v0 := Tryd.zeroValue0
  t3 := Tryd.underlying3
  a3 := Tryd.isAgg3
  z3 := Tryd.sizeOf3
  v3 := Tryd.zeroValue3
  t4 := Tryd.underlying4
  a4 := Tryd.isAgg4
  z4 := Tryd.sizeOf4
  v4 := Tryd.zeroValue4
  t9 := Tryd.underlying9
  a9 := Tryd.isAgg9
  z9 := Tryd.sizeOf9
  v9 := Tryd.zeroValue9
  t20 := Tryd.underlying20
  a20 := Tryd.isAgg20
  z20 := Tryd.sizeOf20
  v20 := Tryd.zeroValue20
  t22 := Tryd.underlying22
  a22 := Tryd.isAgg22
  z22 := Tryd.sizeOf22
  v22 := Tryd.zeroValue22 }
theorem grow_ok (n : Nat) (hn : 0 < n) (hb : n * 32 ≤ 140737488355328) :
    ACalls Tryd.prog W 72 [.nils, .int .i64 n] [] (Gives (fun b : Nat => .rsl b 4 0 0) (fun b => [⟨b, .row 4 [] 0⟩]) (fun _ => True)) := by
  refine ⟨⟨_, Tryd.func72, by kernel_rfl, by kernel_rfl⟩, fun K w vs hl hr hm hp => ?_⟩
  obtain ⟨v0, v1, rfl⟩ : ∃ v0 v1, vs = [v0, v1] := by
    match vs, hl with
    | [a, b], _ => exact ⟨a, b, rfl⟩
  have h0 : VRel K w .nils v0 := hr 0 (by simp)
  have h1 : VRel K w (.int .i64 n) v1 := hr 1 (by simp)
  cases h0
  cases h1
  obtain ⟨i, z, hi, hz, hce, hpos, hzs, hzz, hL, hone⟩ := zeroCells_rel (P := Tryd.prog) (K := K) (w := w) (e := 56) (by kernel_rfl) 0
  have h4 : i.size = 4 := hce.symm.trans (by kernel_rfl)
  have h32 : i.bytes = 32 := by
    have : Tryd.prog.bytesOf 56 = i.bytes := by simp [Program.bytesOf, hi]
    exact this.symm.trans (by kernel_rfl)
  have hd : SatM K [] w.drew := ⟨hm.kin, hm.nodup, fun k hk => by cases hk⟩
  refine (Any8.slices_Grow_grow growLays i z hi hz hpos none 0 0 n [] w (Nat.le_refl _) (by omega) (by rw [h32]; omega) (by omega) (by simp) (fun _ => rfl) (fun a h => by cases h)).mono ?_
  rintro e w' ⟨rfl, rfl⟩
  have hG : 0 + n ≤ grownCap w (0 + n) 0 (growRen.t 25) := grownCap_ge w _ _ _
  generalize grownCap w (0 + n) 0 (growRen.t 25) = G at *
  have hsz : (([] : List Value).toArray ++ Builtin.zeroCells z.cells (0 + n - 0) ++ Builtin.zeroCells z.cells (G - (0 + n))).size = G * 4 := by
    simp [Builtin.zeroCells, hzs, h4]; omega
  refine ⟨_, .rsl w.drew.heap.size 4 0 0, [⟨w.drew.heap.size, .row 4 [] 0⟩], K, rfl, ⟨w.drew.heap.size, trivial, rfl, wkMem.rfl'⟩, ?_, new_row hd _ 4 [] 0 (Nat.zero_le _) _ (fun e he => by cases he) (by simp) (fun q hq => by simp at hq), (Ext.drawn [] K w _).trans (ext_alloc hd _ _)⟩
  exact VRel.rsl (w := w.drew.alloc _) w.drew.heap.size 4 0 0 0 G (fun _ => by simp) (Nat.zero_le _) ⟨_, _, shape_new _ _, by rw [hsz]; omega⟩
end Go.Eng.YtphoefglfbifdaaDoor
end
