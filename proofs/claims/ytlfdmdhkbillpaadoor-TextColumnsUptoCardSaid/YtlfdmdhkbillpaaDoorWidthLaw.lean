/- The program's width of a rune is the document's: a plain law. -/
import Derived.Test.YtlfdmdhkbillpaaDoorText5
namespace Go.Eng.YtlfdmdhkbillpaaDoor
open Go Go.Eng Go.Proofs
theorem withinL_congr {r t : Int} {l : List (Int × Int)} (h : ∀ s ∈ l, (s.1 ≤ r ↔ s.1 ≤ t) ∧ (s.2 + 1 ≤ r ↔ s.2 + 1 ≤ t)) : withinL r l = withinL t l := by
  unfold withinL
  induction l with
  | nil => rfl
  | cons s l ih =>
    have h0 := h s (List.mem_cons_self ..)
    have e2 : (r ≤ s.2 ↔ t ≤ s.2) := by omega
    simp only [List.any_cons, h0.1, e2, ih (fun x hx => h x (List.mem_cons_of_mem _ hx))]
theorem foldE_congr {r t : Int} : ∀ {l : List (Int × Int)} (w : Int), (∀ e ∈ l, (e.1 ≤ r ↔ e.1 ≤ t)) → foldE r w l = foldE t w l
  | [], _, _ => rfl
  | e :: l, w, h => by
    have h0 := h e (List.mem_cons_self ..)
    simp only [foldE, List.foldl_cons, h0]
    exact foldE_congr _ (fun x hx => h x (List.mem_cons_of_mem _ hx))
def marks : List Int := edges.map (·.1) ++ noneS.map (·.1) ++ noneS.map (·.2 + 1) ++ wideS.map (·.1) ++ wideS.map (·.2 + 1)
/-- The greatest mark that is not above r. -/
def lowM (r : Int) : List Int → Int → Int
  | [], m => m
  | x :: l, m => lowM r l (if x ≤ r ∧ m ≤ x then x else m)
theorem lowM_spec (r : Int) : ∀ (l : List Int) (m : Int), m ≤ r → m ≤ lowM r l m ∧ lowM r l m ≤ r ∧ (lowM r l m = m ∨ lowM r l m ∈ l) ∧ ∀ x ∈ l, x ≤ r → x ≤ lowM r l m
  | [], m, h => ⟨Int.le_refl _, h, .inl rfl, fun x hx => by cases hx⟩
  | x :: l, m, h => by
    rw [lowM]
    split
    · rename_i hx
      obtain ⟨h1, h2, h3, h4⟩ := lowM_spec r l x hx.1
      refine ⟨by omega, h2, ?_, fun y hy hr => ?_⟩
      · rcases h3 with h3 | h3
        · exact .inr (by rw [h3]; exact List.mem_cons_self ..)
        · exact .inr (List.mem_cons_of_mem _ h3)
      · rcases List.mem_cons.1 hy with rfl | hy
        · exact h1
        · exact h4 y hy hr
    · rename_i hx
      obtain ⟨h1, h2, h3, h4⟩ := lowM_spec r l m h
      refine ⟨h1, h2, ?_, fun y hy hr => ?_⟩
      · rcases h3 with h3 | h3
        · exact .inl h3
        · exact .inr (List.mem_cons_of_mem _ h3)
      · rcases List.mem_cons.1 hy with rfl | hy
        · omega
        · exact h4 y hy hr
theorem width_eq (r : Int) : (widthL r : Int) = widthOfL r := by
  by_cases h1 : r < 0
  · simp [widthL, widthOfL, h1]
  · by_cases h2 : 1114111 < r
    · simp [widthL, widthOfL, h2]
    · obtain ⟨g1, g2, g3, g4⟩ := lowM_spec r marks 0 (by omega)
      generalize lowM r marks 0 = t at g1 g2 g3 g4
      have key : ∀ x ∈ marks, (x ≤ r ↔ x ≤ t) := fun x hx => ⟨g4 x hx, fun h => by omega⟩
      have hm : ∀ t ∈ (0 :: marks), (widthL t : Int) = widthOfL t := by decide +kernel
      have ht := hm t (by rcases g3 with g3 | g3 <;> simp [g3])
      have e1 : withinL r noneS = withinL t noneS := withinL_congr fun s hs => ⟨key _ (by simp only [marks, List.mem_append, List.mem_map]; exact .inl (.inl (.inl (.inr ⟨s, hs, rfl⟩)))), key _ (by simp only [marks, List.mem_append, List.mem_map]; exact .inl (.inl (.inr ⟨s, hs, rfl⟩)))⟩
      have e2 : withinL r wideS = withinL t wideS := withinL_congr fun s hs => ⟨key _ (by simp only [marks, List.mem_append, List.mem_map]; exact .inl (.inr ⟨s, hs, rfl⟩)), key _ (by simp only [marks, List.mem_append, List.mem_map]; exact .inr ⟨s, hs, rfl⟩)⟩
      have e3 : foldE r 0 edges = foldE t 0 edges := foldE_congr 0 fun e he => key _ (by simp only [marks, List.mem_append, List.mem_map]; exact .inl (.inl (.inl (.inl ⟨e, he, rfl⟩))))
      have t1 : ¬ t < 0 := by omega
      have t2 : ¬ 1114111 < t := by omega
      simp only [widthL, widthOfL, h1, h2, t1, t2, false_or, if_false, e1, e2, e3] at ht ⊢
      exact ht
end Go.Eng.YtlfdmdhkbillpaaDoor
