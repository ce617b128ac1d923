/- Texts put together: Scr1, Scr3, Scr4, ScrL, Scr2. -/
import Derived.Test.YtphoefglfbifdaaDoorMG2
import Derived.Test.YtphoefglfbifdaaDoorMT1
import Derived.Test.YtphoefglfbifdaaDoorMS1
import Derived.Test.YtphoefglfbifdaaDoorMG1
import Derived.Test.YtphoefglfbifdaaDoorME7
/- Screens: what they are; package put's Check. -/
section
namespace Go.Eng.YtphoefglfbifdaaDoor
open Go Go.Eng Go.Proofs
variable (W : World)
set_option linter.unusedSimpArgs false
set_option maxRecDepth 100000
set_option linter.unusedVariables false
set_option maxHeartbeats 8000000
theorem runesFrom_len (s : List UInt8) : ∀ (n i : Nat) (acc : Array Value), s.length - i ≤ n → (Conv.runesFrom ⟨s.toArray⟩ n i acc).toList.length = acc.toList.length + (runes (s.drop i)).length
  | 0, i, acc, h => by
    rw [Conv.runesFrom, List.drop_of_length_le (by omega), runes_nil]; simp
  | n + 1, i, acc, h => by
    rw [Conv.runesFrom]
    by_cases hi : i < s.length
    · have hne : s.drop i ≠ [] := by simp; omega
      rw [if_pos (by simpa [ByteArray.size] using hi), decode_drop s i hi]
      have := dec_pos (s.drop i) hne
      dsimp only
      rw [runesFrom_len s n _ _ (by omega), runes_cons hne, List.drop_drop]
      simp
      omega
    · rw [if_neg (by simpa [ByteArray.size] using hi), List.drop_of_length_le (by omega), runes_nil]; simp
theorem runesV_len (s : List UInt8) : (runesV s).length = (runes s).length := by
  rw [runesV, List.length_map, runesFrom_len s s.length 0 #[] (by omega)]
  simp
/-- A screen. -/
structure Scr where
  g : Grid
  x : Int
  y : Int
  late : Bool
  look : Style
  top : Int
  bottom : Int
  modes : Int
  tabs : List Bool
  kx : Int
  ky : Int
  ks : Style
  km : Int
  last : Int
  title : List UInt8
  gone : List (List Cell)
def encRow (r : List Cell) : PV := .sl 4 (r.map encCell)
/-- Its cells; those of slices are told apart. -/
def scrA (cells tabs gone : PV) (s : Scr) : List PV := [.int .i64 s.g.w, .int .i64 s.g.h, cells, .int .i64 s.x, .int .i64 s.y, .bool s.late, .int .i64 s.look.fore, .int .i64 s.look.back, .int .i64 s.look.bits, .int .i64 s.top, .int .i64 s.bottom, .int .i64 s.modes, tabs,
  .int .i64 s.kx, .int .i64 s.ky, .int .i64 s.ks.fore, .int .i64 s.ks.back, .int .i64 s.ks.bits, .int .i64 s.km, .int .i32 s.last, .str s.title, gone]
def encScr (s : Scr) : PV := .agg (scrA (.sl 4 (s.g.cs.map encCell)) (.sl 1 (s.tabs.map PV.bool)) (.sl 1 (s.gone.map encRow)) s)
structure Scr.ok (s : Scr) : Prop where
  g : s.g.ok
  x : i64ok s.x
  y : i64ok s.y
  look : s.look.ok
  top : i64ok s.top
  bottom : i64ok s.bottom
  modes : i64ok s.modes
  tabs : s.tabs.length ≤ 140737488355328
  kx : i64ok s.kx
  ky : i64ok s.ky
  ks : s.ks.ok
  km : i64ok s.km
  last : i32ok s.last
  title : s.title.length ≤ 1048576
  gone : s.gone.length * 24 ≤ 140737488355328 ∧ ∀ r ∈ s.gone, r.length * 32 ≤ 140737488355328 ∧ ∀ c ∈ r, c.ok
def rowG (r : List Cell) : Grid := ⟨r.length, 1, r⟩
def goneB (l : List (List Cell)) : Bool := l.all fun r => decide (checkG (rowG r) = 0)
/-- What is wrong with a screen. -/
def checkS (s : Scr) : Int :=
  if checkG s.g ≠ 0 then checkG s.g
  else if ((s.x < 0 ∨ s.g.w ≤ s.x) ∨ s.y < 0 ∨ s.g.h ≤ s.y) ∨ (s.kx < 0 ∨ s.g.w ≤ s.kx) ∨ s.ky < 0 ∨ s.g.h ≤ s.ky then 4
  else if s.top < 0 ∨ s.g.h ≤ s.bottom ∨ s.bottom < s.top ∨ (s.top = s.bottom ∧ 1 < s.g.h) then 4
  else if s.late = true ∧ (s.x ≠ s.g.w - 1 ∨ bitop .and .i64 s.modes 4 = 0) then 5
  else if checkStyle s.look = false ∨ checkStyle s.ks = false ∨ s.modes < 0 ∨ 63 < s.modes ∨ bitop .andNot .i64 s.km 6 ≠ 0 then 4
  else if (s.tabs.length : Int) ≠ s.g.w ∨ (s.last ≠ 0 ∧ widthL s.last = 0) ∨ cleanL s.title ≠ s.title ∨ 20 < (runes s.title).length then 5
  else if 50 < s.gone.length then 2
  else if goneB s.gone = true then 0 else 5
theorem encRowG (r : List Cell) : encGrid (rowG r) = .agg [.int .i64 (r.map encCell).length, .int .i64 1, .sl 4 (r.map encCell)] := by rw [List.length_map]; rfl
theorem rowG_ok {s : Scr} (h : s.ok) {r : List Cell} (hr : r ∈ s.gone) : (rowG r).ok := by
  obtain ⟨h1, h2⟩ := h.gone.2 r hr
  refine ⟨?_, ?_, h2, h1⟩
  · show i64ok (r.length : Int)
    unfold i64ok; omega
  · show i64ok 1
    unfold i64ok; omega
theorem checkScr_ok (hT : Tabs W) (s : Scr) (h : s.ok) : Pure Tryd.prog W 51 [encScr s] (.int .i64 (checkS s)) := by
  have hrow := fun r hr => rowG_ok h (r := r) hr
  obtain ⟨hg, -, -, -, -, -, -, htl, -, -, -, -, hla, hti, hgo⟩ := h
  obtain ⟨⟨gw, gh, cs⟩, x, y, late, ⟨f, b, bi⟩, top, bottom, modes, tabs, kx, ky, ⟨f2, b2, bi2⟩, km, last, title, gone⟩ := s
  dsimp only at *
  rw [show encScr ⟨⟨gw, gh, cs⟩, x, y, late, ⟨f, b, bi⟩, top, bottom, modes, tabs, kx, ky, ⟨f2, b2, bi2⟩, km, last, title, gone⟩ = .agg [.int .i64 gw, .int .i64 gh, .sl 4 (cs.map encCell), .int .i64 x, .int .i64 y, .bool late, .int .i64 f, .int .i64 b, .int .i64 bi, .int .i64 top, .int .i64 bottom, .int .i64 modes, .sl 1 (tabs.map PV.bool), .int .i64 kx, .int .i64 ky, .int .i64 f2, .int .i64 b2, .int .i64 bi2, .int .i64 km, .int .i32 last, .str title, .sl 1 (gone.map encRow)] from rfl]
  generalize hE : checkS ⟨⟨gw, gh, cs⟩, x, y, late, ⟨f, b, bi⟩, top, bottom, modes, tabs, kx, ky, ⟨f2, b2, bi2⟩, km, last, title, gone⟩ = E
  rw [checkS] at hE
  dsimp only at hE
  refine Pure.of (acalls_of_vc (drawOk W) Tryd.func51 rfl (by decide) (by decide) rfl ?_)
  (refine g0_ ?_; repeat ((first | refine n1_ fun b_ => ?_ | refine n2_ fun b_ => ?_ | refine em_ fun x_ hx_ => ?_); refine g0_ ?_))
  refine (check_ok W ⟨gw, gh, cs⟩ hg).use ?_; (refine g0_ ?_; repeat ((first | refine n1_ fun b_ => ?_ | refine n2_ fun b_ => ?_ | refine em_ fun x_ hx_ => ?_); refine g0_ ?_))
  refine brec ?_; intro c_ h1; (try rw [h1]); cases c_ <;> replace h1 := nm_ h1
  · rw [if_neg (by simpa using h1)] at hE
    (refine g0_ ?_; repeat ((first | refine n1_ fun b_ => ?_ | refine n2_ fun b_ => ?_ | refine em_ fun x_ hx_ => ?_); refine g0_ ?_))
    have hw : 1 ≤ gw ∧ gw ≤ 120 := by
      obtain ⟨w, h, ft⟩ := fit_of (g := ⟨gw, gh, cs⟩) (by simpa using h1)
      have := ft.ew; have := ft.w1; have := ft.w2
      simp only at *; omega
    refine brec ?_; intro c_ h2; (try rw [h2]); cases c_ <;> replace h2 := nm_ h2
    · (refine g0_ ?_; repeat ((first | refine n1_ fun b_ => ?_ | refine n2_ fun b_ => ?_ | refine em_ fun x_ hx_ => ?_); refine g0_ ?_))
      refine brec ?_; intro c_ h3; (try rw [h3]); cases c_ <;> replace h3 := nm_ h3
      · rw [if_neg (by omega)] at hE
        (refine g0_ ?_; repeat ((first | refine n1_ fun b_ => ?_ | refine n2_ fun b_ => ?_ | refine em_ fun x_ hx_ => ?_); refine g0_ ?_))
        refine brec ?_; intro c_ h4; (try rw [h4]); cases c_ <;> replace h4 := nm_ h4
        · rw [if_neg (by omega)] at hE
          (refine g0_ ?_; repeat ((first | refine n1_ fun b_ => ?_ | refine n2_ fun b_ => ?_ | refine em_ fun x_ hx_ => ?_); refine g0_ ?_))
          refine brec ?_; intro c_ h5; (try rw [h5]); cases c_ <;> replace h5 := nm_ h5
          · rw [if_neg (by simpa using h5)] at hE
            (refine g0_ ?_; repeat ((first | refine n1_ fun b_ => ?_ | refine n2_ fun b_ => ?_ | refine em_ fun x_ hx_ => ?_); refine g0_ ?_))
            refine (styleCheck_ok W ⟨f, b, bi⟩).use ?_; (refine g0_ ?_; repeat ((first | refine n1_ fun b_ => ?_ | refine n2_ fun b_ => ?_ | refine em_ fun x_ hx_ => ?_); refine g0_ ?_))
            refine brec ?_; intro c_ h6; (try rw [h6]); cases c_ <;> replace h6 := nm_ h6
            · (refine g0_ ?_; repeat ((first | refine n1_ fun b_ => ?_ | refine n2_ fun b_ => ?_ | refine em_ fun x_ hx_ => ?_); refine g0_ ?_))
              refine (styleCheck_ok W ⟨f2, b2, bi2⟩).use ?_; (refine g0_ ?_; repeat ((first | refine n1_ fun b_ => ?_ | refine n2_ fun b_ => ?_ | refine em_ fun x_ hx_ => ?_); refine g0_ ?_))
              refine brec ?_; intro c_ h7; (try rw [h7]); cases c_ <;> replace h7 := nm_ h7
              · rw [if_neg (by grind)] at hE
                (refine g0_ ?_; repeat ((first | refine n1_ fun b_ => ?_ | refine n2_ fun b_ => ?_ | refine em_ fun x_ hx_ => ?_); refine g0_ ?_))
                refine brec ?_; intro c_ h8; (try rw [h8]); cases c_ <;> replace h8 := nm_ h8
                · (refine g0_ ?_; repeat ((first | refine n1_ fun b_ => ?_ | refine n2_ fun b_ => ?_ | refine em_ fun x_ hx_ => ?_); refine g0_ ?_))
                  refine brec ?_; intro c_ h9; (try rw [h9]); cases c_ <;> replace h9 := nm_ h9
                  · (refine g0_ ?_; repeat ((first | refine n1_ fun b_ => ?_ | refine n2_ fun b_ => ?_ | refine em_ fun x_ hx_ => ?_); refine g0_ ?_))
                    refine head_ ?_; (refine g0_ ?_; repeat ((first | refine n1_ fun b_ => ?_ | refine n2_ fun b_ => ?_ | refine em_ fun x_ hx_ => ?_); refine g0_ ?_))
                    refine ⟨_, (clean_ok W hT title (by omega)).quiet, ?_⟩; (refine g0_ ?_; repeat ((first | refine n1_ fun b_ => ?_ | refine n2_ fun b_ => ?_ | refine em_ fun x_ hx_ => ?_); refine g0_ ?_))
                    refine brec ?_; intro c_ h11; (try rw [h11]); cases c_ <;> replace h11 := nm_ h11
                    · (refine g0_ ?_; repeat ((first | refine n1_ fun b_ => ?_ | refine n2_ fun b_ => ?_ | refine em_ fun x_ hx_ => ?_); refine g0_ ?_))
                      refine brec ?_; intro c_ h12; (try rw [h12]); cases c_ <;> replace h12 := nm_ h12
                      · rw [runesV_len] at h12
                        (refine g0_ ?_; repeat ((first | refine n1_ fun b_ => ?_ | refine n2_ fun b_ => ?_ | refine em_ fun x_ hx_ => ?_); refine g0_ ?_))
                        refine brec ?_; intro c_ h13; (try rw [h13]); cases c_ <;> replace h13 := nm_ h13
                        · rw [List.length_map] at h13
                          rw [if_neg (by grind), if_neg (by omega)] at hE
                          (refine g0_ ?_; repeat ((first | refine n1_ fun b_ => ?_ | refine n2_ fun b_ => ?_ | refine em_ fun x_ hx_ => ?_); refine g0_ ?_))
                          refine' loopI (α := Nat) (fun i => [(182, .int .i64 i)]) [(180, _), (181, _)] (fun i => [⟨b_, .row 22 [.agg [.int .i64 gw, .int .i64 gh, .sl 4 (cs.map encCell), .int .i64 x, .int .i64 y, .bool late, .int .i64 f, .int .i64 b, .int .i64 bi, .int .i64 top, .int .i64 bottom, .int .i64 modes, .sl 1 (tabs.map PV.bool), .int .i64 kx, .int .i64 ky, .int .i64 f2, .int .i64 b2, .int .i64 bi2, .int .i64 km, .int .i32 last, .str title, .sl 1 (gone.map encRow)]] 0⟩]) (fun i => i ≤ gone.length ∧ goneB (gone.drop i) = goneB gone) (fun i => gone.length - i) 0 ?_ ?_
                          · exact ⟨Nat.zero_le _, rfl⟩
                          rintro i ⟨hi, hw2⟩
                          (refine g0_ ?_; repeat ((first | refine n1_ fun b_ => ?_ | refine n2_ fun b_ => ?_ | refine em_ fun x_ hx_ => ?_); refine g0_ ?_))
                          refine brec ?_; intro c_ h14; (try rw [h14]); cases c_ <;> replace h14 := nm_ h14
                          · (refine g0_ ?_; repeat ((first | refine n1_ fun b_ => ?_ | refine n2_ fun b_ => ?_ | refine em_ fun x_ hx_ => ?_); refine g0_ ?_))
                            rw [List.drop_of_length_le (by simp at h14; omega), show goneB [] = true from rfl] at hw2
                            rw [if_pos hw2.symm] at hE
                            subst hE
                            exact .refl _
                          · (refine g0_ ?_; repeat ((first | refine n1_ fun b_ => ?_ | refine n2_ fun b_ => ?_ | refine em_ fun x_ hx_ => ?_); refine g0_ ?_))
                            have hmem := List.mem_of_getElem? hx_
                            have hok := hrow _ hmem
                            rw [drop_cons_of hx_, goneB, List.all_cons, ← goneB] at hw2
                            refine brec ?_; intro c_ h15; (try rw [h15]); cases c_ <;> replace h15 := nm_ h15
                            · rw [List.length_map] at h15
                              (refine g0_ ?_; repeat ((first | refine n1_ fun b_ => ?_ | refine n2_ fun b_ => ?_ | refine em_ fun x_ hx_ => ?_); refine g0_ ?_))
                              have hck := check_ok W (rowG x_) hok
                              rw [encRowG] at hck
                              refine (hck).use ?_; (refine g0_ ?_; repeat ((first | refine n1_ fun b_ => ?_ | refine n2_ fun b_ => ?_ | refine em_ fun x_ hx_ => ?_); refine g0_ ?_))
                              refine brec ?_; intro c_ h16; (try rw [h16]); cases c_ <;> replace h16 := nm_ h16
                              · (refine g0_ ?_; repeat ((first | refine n1_ fun b_ => ?_ | refine n2_ fun b_ => ?_ | refine em_ fun x_ hx_ => ?_); refine g0_ ?_))
                                refine nx_ (i + 1) ?_ ?_
                                · exact ⟨by simp at h14; omega, by rw [← hw2]; simp [h16]⟩
                                · simp at h14; omega
                              · rw [if_neg (by rw [← hw2]; simp [h16])] at hE
                                subst hE
                                (refine g0_ ?_; repeat ((first | refine n1_ fun b_ => ?_ | refine n2_ fun b_ => ?_ | refine em_ fun x_ hx_ => ?_); refine g0_ ?_))
                                exact .refl _
                            · rw [List.length_map] at h15
                              have hne : checkG (rowG x_) ≠ 0 := by
                                intro hc
                                obtain ⟨w, h, ft⟩ := fit_of hc
                                have h1 : ((x_.length : Nat) : Int) = w := ft.ew
                                have := ft.w1; have := ft.w2
                                omega
                              rw [if_neg (by rw [← hw2]; simp [hne])] at hE
                              subst hE
                              (refine g0_ ?_; repeat ((first | refine n1_ fun b_ => ?_ | refine n2_ fun b_ => ?_ | refine em_ fun x_ hx_ => ?_); refine g0_ ?_))
                              exact .refl _
                        · rw [List.length_map] at h13
                          rw [if_neg (by grind), if_pos (by omega)] at hE
                          subst hE
                          (refine g0_ ?_; repeat ((first | refine n1_ fun b_ => ?_ | refine n2_ fun b_ => ?_ | refine em_ fun x_ hx_ => ?_); refine g0_ ?_))
                          exact .refl _
                      · rw [runesV_len] at h12
                        rw [if_pos (by grind)] at hE
                        subst hE
                        (refine g0_ ?_; repeat ((first | refine n1_ fun b_ => ?_ | refine n2_ fun b_ => ?_ | refine em_ fun x_ hx_ => ?_); refine g0_ ?_))
                        exact .refl _
                    · rw [if_pos (by grind)] at hE
                      subst hE
                      (refine g0_ ?_; repeat ((first | refine n1_ fun b_ => ?_ | refine n2_ fun b_ => ?_ | refine em_ fun x_ hx_ => ?_); refine g0_ ?_))
                      exact .refl _
                  · (refine g0_ ?_; repeat ((first | refine n1_ fun b_ => ?_ | refine n2_ fun b_ => ?_ | refine em_ fun x_ hx_ => ?_); refine g0_ ?_))
                    refine (width_ok W last).use ?_; (refine g0_ ?_; repeat ((first | refine n1_ fun b_ => ?_ | refine n2_ fun b_ => ?_ | refine em_ fun x_ hx_ => ?_); refine g0_ ?_))
                    refine brec ?_; intro c_ h10; (try rw [h10]); cases c_ <;> replace h10 := nm_ h10
                    · (refine g0_ ?_; repeat ((first | refine n1_ fun b_ => ?_ | refine n2_ fun b_ => ?_ | refine em_ fun x_ hx_ => ?_); refine g0_ ?_))
                      refine head_ ?_; (refine g0_ ?_; repeat ((first | refine n1_ fun b_ => ?_ | refine n2_ fun b_ => ?_ | refine em_ fun x_ hx_ => ?_); refine g0_ ?_))
                      refine ⟨_, (clean_ok W hT title (by omega)).quiet, ?_⟩; (refine g0_ ?_; repeat ((first | refine n1_ fun b_ => ?_ | refine n2_ fun b_ => ?_ | refine em_ fun x_ hx_ => ?_); refine g0_ ?_))
                      refine brec ?_; intro c_ h11; (try rw [h11]); cases c_ <;> replace h11 := nm_ h11
                      · (refine g0_ ?_; repeat ((first | refine n1_ fun b_ => ?_ | refine n2_ fun b_ => ?_ | refine em_ fun x_ hx_ => ?_); refine g0_ ?_))
                        refine brec ?_; intro c_ h12; (try rw [h12]); cases c_ <;> replace h12 := nm_ h12
                        · rw [runesV_len] at h12
                          (refine g0_ ?_; repeat ((first | refine n1_ fun b_ => ?_ | refine n2_ fun b_ => ?_ | refine em_ fun x_ hx_ => ?_); refine g0_ ?_))
                          refine brec ?_; intro c_ h13; (try rw [h13]); cases c_ <;> replace h13 := nm_ h13
                          · rw [List.length_map] at h13
                            rw [if_neg (by grind), if_neg (by omega)] at hE
                            (refine g0_ ?_; repeat ((first | refine n1_ fun b_ => ?_ | refine n2_ fun b_ => ?_ | refine em_ fun x_ hx_ => ?_); refine g0_ ?_))
                            refine' loopI (α := Nat) (fun i => [(182, .int .i64 i)]) [(180, _), (181, _)] (fun i => [⟨b_, .row 22 [.agg [.int .i64 gw, .int .i64 gh, .sl 4 (cs.map encCell), .int .i64 x, .int .i64 y, .bool late, .int .i64 f, .int .i64 b, .int .i64 bi, .int .i64 top, .int .i64 bottom, .int .i64 modes, .sl 1 (tabs.map PV.bool), .int .i64 kx, .int .i64 ky, .int .i64 f2, .int .i64 b2, .int .i64 bi2, .int .i64 km, .int .i32 last, .str title, .sl 1 (gone.map encRow)]] 0⟩]) (fun i => i ≤ gone.length ∧ goneB (gone.drop i) = goneB gone) (fun i => gone.length - i) 0 ?_ ?_
                            · exact ⟨Nat.zero_le _, rfl⟩
                            rintro i ⟨hi, hw2⟩
                            (refine g0_ ?_; repeat ((first | refine n1_ fun b_ => ?_ | refine n2_ fun b_ => ?_ | refine em_ fun x_ hx_ => ?_); refine g0_ ?_))
                            refine brec ?_; intro c_ h14; (try rw [h14]); cases c_ <;> replace h14 := nm_ h14
                            · (refine g0_ ?_; repeat ((first | refine n1_ fun b_ => ?_ | refine n2_ fun b_ => ?_ | refine em_ fun x_ hx_ => ?_); refine g0_ ?_))
                              rw [List.drop_of_length_le (by simp at h14; omega), show goneB [] = true from rfl] at hw2
                              rw [if_pos hw2.symm] at hE
                              subst hE
                              exact .refl _
                            · (refine g0_ ?_; repeat ((first | refine n1_ fun b_ => ?_ | refine n2_ fun b_ => ?_ | refine em_ fun x_ hx_ => ?_); refine g0_ ?_))
                              have hmem := List.mem_of_getElem? hx_
                              have hok := hrow _ hmem
                              rw [drop_cons_of hx_, goneB, List.all_cons, ← goneB] at hw2
                              refine brec ?_; intro c_ h15; (try rw [h15]); cases c_ <;> replace h15 := nm_ h15
                              · rw [List.length_map] at h15
                                (refine g0_ ?_; repeat ((first | refine n1_ fun b_ => ?_ | refine n2_ fun b_ => ?_ | refine em_ fun x_ hx_ => ?_); refine g0_ ?_))
                                have hck := check_ok W (rowG x_) hok
                                rw [encRowG] at hck
                                refine (hck).use ?_; (refine g0_ ?_; repeat ((first | refine n1_ fun b_ => ?_ | refine n2_ fun b_ => ?_ | refine em_ fun x_ hx_ => ?_); refine g0_ ?_))
                                refine brec ?_; intro c_ h16; (try rw [h16]); cases c_ <;> replace h16 := nm_ h16
                                · (refine g0_ ?_; repeat ((first | refine n1_ fun b_ => ?_ | refine n2_ fun b_ => ?_ | refine em_ fun x_ hx_ => ?_); refine g0_ ?_))
                                  refine nx_ (i + 1) ?_ ?_
                                  · exact ⟨by simp at h14; omega, by rw [← hw2]; simp [h16]⟩
                                  · simp at h14; omega
                                · rw [if_neg (by rw [← hw2]; simp [h16])] at hE
                                  subst hE
                                  (refine g0_ ?_; repeat ((first | refine n1_ fun b_ => ?_ | refine n2_ fun b_ => ?_ | refine em_ fun x_ hx_ => ?_); refine g0_ ?_))
                                  exact .refl _
                              · rw [List.length_map] at h15
                                have hne : checkG (rowG x_) ≠ 0 := by
                                  intro hc
                                  obtain ⟨w, h, ft⟩ := fit_of hc
                                  have h1 : ((x_.length : Nat) : Int) = w := ft.ew
                                  have := ft.w1; have := ft.w2
                                  omega
                                rw [if_neg (by rw [← hw2]; simp [hne])] at hE
                                subst hE
                                (refine g0_ ?_; repeat ((first | refine n1_ fun b_ => ?_ | refine n2_ fun b_ => ?_ | refine em_ fun x_ hx_ => ?_); refine g0_ ?_))
                                exact .refl _
                          · rw [List.length_map] at h13
                            rw [if_neg (by grind), if_pos (by omega)] at hE
                            subst hE
                            (refine g0_ ?_; repeat ((first | refine n1_ fun b_ => ?_ | refine n2_ fun b_ => ?_ | refine em_ fun x_ hx_ => ?_); refine g0_ ?_))
                            exact .refl _
                        · rw [runesV_len] at h12
                          rw [if_pos (by grind)] at hE
                          subst hE
                          (refine g0_ ?_; repeat ((first | refine n1_ fun b_ => ?_ | refine n2_ fun b_ => ?_ | refine em_ fun x_ hx_ => ?_); refine g0_ ?_))
                          exact .refl _
                      · rw [if_pos (by grind)] at hE
                        subst hE
                        (refine g0_ ?_; repeat ((first | refine n1_ fun b_ => ?_ | refine n2_ fun b_ => ?_ | refine em_ fun x_ hx_ => ?_); refine g0_ ?_))
                        exact .refl _
                    · rw [if_pos (by grind)] at hE
                      subst hE
                      (refine g0_ ?_; repeat ((first | refine n1_ fun b_ => ?_ | refine n2_ fun b_ => ?_ | refine em_ fun x_ hx_ => ?_); refine g0_ ?_))
                      exact .refl _
                · rw [if_pos (by simp at h8; omega)] at hE
                  subst hE
                  (refine g0_ ?_; repeat ((first | refine n1_ fun b_ => ?_ | refine n2_ fun b_ => ?_ | refine em_ fun x_ hx_ => ?_); refine g0_ ?_))
                  exact .refl _
              · rw [if_pos (by grind)] at hE
                subst hE
                (refine g0_ ?_; repeat ((first | refine n1_ fun b_ => ?_ | refine n2_ fun b_ => ?_ | refine em_ fun x_ hx_ => ?_); refine g0_ ?_))
                exact .refl _
            · rw [if_pos (by simp [h6])] at hE
              subst hE
              (refine g0_ ?_; repeat ((first | refine n1_ fun b_ => ?_ | refine n2_ fun b_ => ?_ | refine em_ fun x_ hx_ => ?_); refine g0_ ?_))
              exact .refl _
          · rw [if_pos (by simpa using h5)] at hE
            subst hE
            (refine g0_ ?_; repeat ((first | refine n1_ fun b_ => ?_ | refine n2_ fun b_ => ?_ | refine em_ fun x_ hx_ => ?_); refine g0_ ?_))
            exact .refl _
        · rw [if_pos (by omega)] at hE
          subst hE
          (refine g0_ ?_; repeat ((first | refine n1_ fun b_ => ?_ | refine n2_ fun b_ => ?_ | refine em_ fun x_ hx_ => ?_); refine g0_ ?_))
          exact .refl _
      · rw [if_pos (by omega)] at hE
        subst hE
        (refine g0_ ?_; repeat ((first | refine n1_ fun b_ => ?_ | refine n2_ fun b_ => ?_ | refine em_ fun x_ hx_ => ?_); refine g0_ ?_))
        exact .refl _
    · rw [if_pos (by omega)] at hE
      subst hE
      (refine g0_ ?_; repeat ((first | refine n1_ fun b_ => ?_ | refine n2_ fun b_ => ?_ | refine em_ fun x_ hx_ => ?_); refine g0_ ?_))
      exact .refl _
  · rw [if_pos (by simpa using h1)] at hE
    subst hE
    (refine g0_ ?_; repeat ((first | refine n1_ fun b_ => ?_ | refine n2_ fun b_ => ?_ | refine em_ fun x_ hx_ => ?_); refine g0_ ?_))
    exact .refl _
end Go.Eng.YtphoefglfbifdaaDoor
end

/- Screens of the call's own: package put's Copy. -/
section
namespace Go.Eng.YtphoefglfbifdaaDoor
open Go Go.Eng Go.Proofs
variable (W : World)
set_option linter.unusedSimpArgs false
set_option maxRecDepth 100000
set_option linter.unusedVariables false
set_option maxHeartbeats 8000000
/-- The screen of zeros. -/
def Scr.none : Scr := ⟨.none, 0, 0, false, ⟨0, 0, 0⟩, 0, 0, 0, [], 0, 0, ⟨0, 0, 0⟩, 0, 0, [], []⟩
theorem bools_all (l : List Bool) : (l.map PV.bool).all cellsB = true := by simp [cellsB, PV.flat, cellB]
theorem rows_all (l : List (List Cell)) : (l.map encRow).all cellsB = true := by simp [cellsB, PV.flat, cellB, encRow]
theorem cloneG_bools (x : Bool) (l : List Bool) (hl : l.length + 1 ≤ 140737488355328) : ACalls Tryd.prog W 62 [.sl 1 ((x :: l).map PV.bool)] [] (GivesRow 1 ((x :: l).map PV.bool)) := by
  have ha : (l.map PV.bool).all cellsB = true := bools_all l
  have hlm : (l.map PV.bool).length = l.length := List.length_map _
  refine acalls_of_vc (drawOk W) Tryd.func62 rfl (by decide) (by decide) rfl ?_
  rw [List.map_cons] at *
  (refine g0_ ?_; repeat ((first | refine n1_ fun b_ => ?_ | refine n2_ fun b_ => ?_ | refine em_ fun x_ hx_ => ?_); refine g0_ ?_))
  refine ⟨_, eql_nil Tryd.underlying27 (.inr (.inl ⟨_, _, _, rfl, rfl⟩)), ?_⟩
  (refine g0_ ?_; repeat ((first | refine n1_ fun b_ => ?_ | refine n2_ fun b_ => ?_ | refine em_ fun x_ hx_ => ?_); refine g0_ ?_))
  refine .inr ?_
  (refine g0_ ?_; repeat ((first | refine n1_ fun b_ => ?_ | refine n2_ fun b_ => ?_ | refine em_ fun x_ hx_ => ?_); refine g0_ ?_))
  exact GivesRow.mk _ (by simp) wkMem.rfl'
/-- The cells of a screen of the call's own. -/
def scrV (bc bt bg p : Nat) (s : Scr) : PV := .agg (scrA (.rsl bc 4 0 s.g.cs.length) (.rsl bt 1 0 s.tabs.length) (.rsl bg 1 p s.gone.length) s)
def scrR (bc bt bg : Nat) (pre : List PV) (s : Scr) : Mem := [⟨bc, .row 4 (s.g.cs.map encCell) 0⟩, ⟨bt, .row 1 (s.tabs.map PV.bool) 0⟩, ⟨bg, .row 1 (pre ++ s.gone.map encRow) 0⟩]
/-- A screen of the call's own, behind its address. -/
def scrM (b bc bt bg : Nat) (pre : List PV) (s : Scr) : Mem := ⟨b, .row 22 [scrV bc bt bg pre.length s] 0⟩ :: scrR bc bt bg pre s
theorem putCopy_ok (s : Scr) (h1 : s.g.cs ≠ []) (h2 : s.g.cs.length ≤ 7200) (h3 : s.tabs ≠ []) (h4 : s.tabs.length ≤ 120) (h5 : s.gone.length ≤ 50) (h6 : ∀ r ∈ s.gone, r.length ≤ 120) :
    ACalls Tryd.prog W 52 [encScr s] [] (Gives (fun b : Nat × Nat × Nat => scrV b.1 b.2.1 b.2.2 0 s) (fun b => scrR b.1 b.2.1 b.2.2 [] s) (fun _ => True)) := by
  obtain ⟨⟨gw, gh, cs⟩, x, y, late, ⟨f, b, bi⟩, top, bottom, modes, tabs, kx, ky, ⟨f2, b2, bi2⟩, km, last, title, gone⟩ := s
  dsimp only at *
  obtain ⟨t0, tabs, rfl⟩ : ∃ t0 r, tabs = t0 :: r := by
    cases tabs with
    | nil => exact absurd rfl h3
    | cons a r => exact ⟨a, r, rfl⟩
  simp only [List.length_cons] at h4
  rw [show encScr ⟨⟨gw, gh, cs⟩, x, y, late, ⟨f, b, bi⟩, top, bottom, modes, t0 :: tabs, kx, ky, ⟨f2, b2, bi2⟩, km, last, title, gone⟩ = .agg [.int .i64 gw, .int .i64 gh, .sl 4 (cs.map encCell), .int .i64 x, .int .i64 y, .bool late, .int .i64 f, .int .i64 b, .int .i64 bi, .int .i64 top, .int .i64 bottom, .int .i64 modes, .sl 1 ((t0 :: tabs).map PV.bool), .int .i64 kx, .int .i64 ky, .int .i64 f2, .int .i64 b2, .int .i64 bi2, .int .i64 km, .int .i32 last, .str title, .sl 1 (gone.map encRow)] from rfl] at *
  refine acalls_of_vc (drawOk W) Tryd.func52 rfl (by decide) (by decide) rfl ?_
  (refine g0_ ?_; repeat ((first | refine n1_ fun b_ => ?_ | refine n2_ fun b_ => ?_ | refine em_ fun x_ hx_ => ?_); refine g0_ ?_))
  refine ACalls.give (copy_ok W gw gh cs h1 (by omega)) ?_
  rintro bc -
  (refine g0_ ?_; repeat ((first | refine n1_ fun b_ => ?_ | refine n2_ fun b_ => ?_ | refine em_ fun x_ hx_ => ?_); refine g0_ ?_))
  refine ACalls.give (cloneG_bools W t0 tabs (by omega)) ?_
  rintro bt -
  (refine g0_ ?_; repeat ((first | refine n1_ fun b_ => ?_ | refine n2_ fun b_ => ?_ | refine em_ fun x_ hx_ => ?_); refine g0_ ?_))
  rename_i b1 b2x
  rw [show (List.map PV.bool (t0 :: tabs)).length = (t0 :: tabs).length from List.length_map _]
  refine' loopI (α := Nat × Nat) (fun (i, bg) => [(21, .int .i64 i), (3, .rsl bg 1 0 i)]) [(1, _), (2, _), (19, _), (20, _)] (fun (i, bg) => [⟨bg, .row 1 ((gone.take i).map encRow) 0⟩, ⟨b1, .row 22 [.agg [.int .i64 gw, .int .i64 gh, .rsl bc 4 0 cs.length, .int .i64 x, .int .i64 y, .bool late, .int .i64 f, .int .i64 b, .int .i64 bi, .int .i64 top, .int .i64 bottom, .int .i64 modes, .rsl bt 1 0 (t0 :: tabs).length, .int .i64 kx, .int .i64 ky, .int .i64 f2, .int .i64 b2, .int .i64 bi2, .int .i64 km, .int .i32 last, .str title, .sl 1 (gone.map encRow)]] 0⟩, ⟨bt, .row 1 ((t0 :: tabs).map PV.bool) 0⟩, ⟨bc, .row 4 (cs.map encCell) 0⟩, ⟨b2x, .row 22 [.agg (scrA .nils .nils .nils Scr.none)] 0⟩]) (fun (i, bg) => i ≤ gone.length) (fun (i, bg) => gone.length - i) (0, b_) ?_ ?_
  · exact Nat.zero_le _
  rintro ⟨i, bg⟩ hi
  (refine g0_ ?_; repeat ((first | refine n1_ fun b_ => ?_ | refine n2_ fun b_ => ?_ | refine em_ fun x_ hx_ => ?_); refine g0_ ?_))
  refine brec ?_; intro c_ h7; (try rw [h7]); cases c_ <;> replace h7 := nm_ h7
  · simp at h7
    obtain rfl : i = gone.length := by omega
    (refine g0_ ?_; repeat ((first | refine n1_ fun b_ => ?_ | refine n2_ fun b_ => ?_ | refine em_ fun x_ hx_ => ?_); refine g0_ ?_))
    refine ⟨(bc, bt, bg), trivial, rfl, ?_⟩
    show wkMem _ [⟨bc, .row 4 (cs.map encCell) 0⟩, ⟨bt, .row 1 ((t0 :: tabs).map PV.bool) 0⟩, ⟨bg, .row 1 (gone.map encRow) 0⟩]
    rw [List.take_length]
    (first | exact ⟨_, .refl _⟩ | exact wkMem.rfl' | exact ⟨_, .swap _ _ _⟩ | (repeat (first | exact wkMem.nil _ | exact wkMem.rfl' | exact wk_snoc _ _ _ | exact wk_fam (by assumption) _ _ _ | exact wk_famN (by assumption) _ _ _ | (apply wkMem.cons; (case' hl => (repeat (first | exact .here _ _ _ | apply Look.there)))) | apply wkMem.skip)))
  · have hi' : i ≤ gone.length := hi
    rw [List.length_map] at h7
    have hlt : (gone.take i).length = i := by rw [List.length_take]; omega
    (refine g0_ ?_; repeat ((first | refine n1_ fun b_ => ?_ | refine n2_ fun b_ => ?_ | refine em_ fun x_ hx_ => ?_); refine g0_ ?_))
    have hm := h6 _ (List.mem_of_getElem? hx_)
    have e1 : (gone.take i).map encRow ++ [encRow x_] = (gone.take (i + 1)).map encRow := by rw [take_snoc_of hx_, List.map_append]; rfl
    have e2 : ((gone.take i).map encRow).length = i := by rw [List.length_map]; exact hlt
    refine (clone_cells W x_ (by omega)).use ?_; (refine g0_ ?_; repeat ((first | refine n1_ fun b_ => ?_ | refine n2_ fun b_ => ?_ | refine em_ fun x_ hx_ => ?_); refine g0_ ?_))
    refine .inl ?_
    (refine g0_ ?_; repeat ((first | refine n1_ fun b_ => ?_ | refine n2_ fun b_ => ?_ | refine em_ fun x_ hx_ => ?_); refine g0_ ?_))
    rw [show PV.sl 4 (x_.map encCell) = encRow x_ from rfl, e1]
    refine nx_ (i + 1, _) ?_ ?_
    · show i + 1 ≤ gone.length
      omega
    · show gone.length - (i + 1) < gone.length - i
      omega
end Go.Eng.YtphoefglfbifdaaDoor
end

/- Screens of the call's own: package put's Clear. -/
section
namespace Go.Eng.YtphoefglfbifdaaDoor
open Go Go.Eng Go.Proofs
variable (W : World)
set_option linter.unusedSimpArgs false
set_option maxRecDepth 100000
set_option linter.unusedVariables false
set_option maxHeartbeats 8000000
def blankB (back : Int) : Cell := ⟨32, ⟨0, back, 0⟩⟩
theorem blank_okB (back : Int) : Pure Tryd.prog W 90 [.int .i64 back] (encCell (blankB back)) := by
  refine Pure.of (acalls_of_vc (drawOk W) Tryd.func90 rfl (by decide) (by decide) rfl ?_)
  (refine g0_ ?_; repeat ((first | refine n1_ fun b_ => ?_ | refine n2_ fun b_ => ?_ | refine n3_ fun b_ pre_ => ?_ | refine Nat1.mk fun q_ hq_ => ?_ | refine em_ fun x_ hx_ => ?_ | refine Elem1.mk fun e_ he_ => ?_); refine g0_ ?_))
  exact .refl _
/-- The rows of a grid. -/
structure RowsOk (L : List (List Cell)) (w h : Nat) : Prop where
  len : L.length = h
  row : ∀ r ∈ L, r.length = w
  w1 : 1 ≤ w
  w2 : w ≤ 120
  h1 : 1 ≤ h
  h2 : h ≤ 60
theorem RowsOk.set {L : List (List Cell)} {w h : Nat} (f : RowsOk L w h) (y : Nat) {r : List Cell} (hr : r.length = w) : RowsOk (L.set y r) w h :=
  ⟨by rw [List.length_set]; exact f.len, fun q hq => (List.mem_or_eq_of_mem_set hq).elim (f.row q) fun e => e ▸ hr, f.w1, f.w2, f.h1, f.h2⟩
theorem RowsOk.flat {L : List (List Cell)} {w h : Nat} (f : RowsOk L w h) : L.flatten.length = h * w := by rw [flat_len w L f.row, f.len]
theorem RowsOk.small {L : List (List Cell)} {w h : Nat} (f : RowsOk L w h) : h * w ≤ 7200 := Nat.mul_le_mul f.h2 f.w2
theorem fillRow_len (c : Cell) (a b : Int) (row : List Cell) : (fillRow c a b row).length = row.length := by simp [fillRow]
/-- A row of which some cells become blank. -/
def clearR (back : Int) (x n : Nat) (row : List Cell) : List Cell := mendL (fillRow (blankB back) x (x + n : Nat) row)
theorem clearR_len (back : Int) (x n : Nat) (row : List Cell) : (clearR back x n row).length = row.length := by rw [clearR, mendL_len, fillRow_len]
/-- A screen's own block. -/
abbrev scrB (b bc N : Nat) (tv gv : PV) (s : Scr) : Blk := ⟨b, .row 22 [.agg (scrA (.rsl bc 4 0 N) tv gv s)] 0⟩
theorem clear_ok (b bc : Nat) (tv gv : PV) (s : Scr) {w h : Nat} {L : List (List Cell)} (f : RowsOk L w h) (hw : s.g.w = w) (hh : s.g.h = h) (y x n : Nat) {row : List Cell} (hrow : L[y]? = some row) (hx : x ≤ 10000) (hn : n ≤ 10000) :
    ACalls Tryd.prog W 73 [.bref b 0, .int .i64 x, .int .i64 y, .int .i64 n] [scrB b bc (h * w) tv gv s, ⟨bc, .row 4 (L.flatten.map encCell) 0⟩]
      (Gives (fun _ : Unit => .tup []) (fun _ => [scrB b bc (h * w) tv gv s, ⟨bc, .row 4 ((L.set y (clearR s.look.back x n row)).flatten.map encCell) 0⟩]) (fun _ => True)) := by
  have hfl := f.flat
  have hsm := f.small
  obtain ⟨⟨gw, gh, cs⟩, X, Y, late, ⟨fo, ba, bi⟩, top, bottom, modes, tabs, kx, ky, ⟨f2, b2, bi2⟩, km, last, title, gone⟩ := s
  dsimp only at *
  subst hw hh
  obtain ⟨hlen, hr, hw1, hw2, hh1, hh2⟩ := f
  have hyl := lt_of_at hrow
  have hrl := hr row (List.mem_of_getElem? hrow)
  have hyw : (y + 1) * w ≤ h * w := Nat.mul_le_mul_right _ (by omega)
  have hyw' : y * w + w ≤ h * w := by rw [← Nat.succ_mul]; exact hyw
  have hpre := take_flat_len hr (y := y) (by omega)
  rw [flat_set hrow]
  rw [flat_at hrow] at hfl ⊢
  rw [← hpre] at hyw'
  generalize (L.take y).flatten = pre at *
  generalize (L.drop (y + 1)).flatten = post at *
  rw [show scrB b bc (h * w) tv gv ⟨⟨w, h, cs⟩, X, Y, late, ⟨fo, ba, bi⟩, top, bottom, modes, tabs, kx, ky, ⟨f2, b2, bi2⟩, km, last, title, gone⟩ = ⟨b, .row 22 [.agg [.int .i64 w, .int .i64 h, .rsl bc 4 0 (h * w), .int .i64 X, .int .i64 Y, .bool late, .int .i64 fo, .int .i64 ba, .int .i64 bi, .int .i64 top, .int .i64 bottom, .int .i64 modes, tv, .int .i64 kx, .int .i64 ky, .int .i64 f2, .int .i64 b2, .int .i64 bi2, .int .i64 km, .int .i32 last, .str title, gv]] 0⟩ from rfl]
  refine acalls_of_vc (drawOk W) Tryd.func73 rfl (by decide) (by decide) rfl ?_
  (refine g0_ ?_; repeat ((first | refine n1_ fun b_ => ?_ | refine n2_ fun b_ => ?_ | refine n3_ fun b_ pre_ => ?_ | refine Nat1.mk fun q_ hq_ => ?_ | refine em_ fun x_ hx_ => ?_ | refine Elem1.mk fun e_ he_ => ?_); refine g0_ ?_))
  refine (rowOwn_ok W bc (h * w) w y h hyw (by omega) (by omega) (by omega)).use ?_; (refine g0_ ?_; repeat ((first | refine n1_ fun b_ => ?_ | refine n2_ fun b_ => ?_ | refine n3_ fun b_ pre_ => ?_ | refine Nat1.mk fun q_ hq_ => ?_ | refine em_ fun x_ hx_ => ?_ | refine Elem1.mk fun e_ he_ => ?_); refine g0_ ?_))
  rw [← hpre]
  refine' loopI (α := Nat × (List Cell)) (fun (i, seg) => [(9, .int .i64 i)]) [(0, _), (1, _), (3, _), (8, _)] (fun (i, seg) => [⟨b, .row 22 [.agg [.int .i64 w, .int .i64 h, .rsl bc 4 0 (h * w), .int .i64 X, .int .i64 Y, .bool late, .int .i64 fo, .int .i64 ba, .int .i64 bi, .int .i64 top, .int .i64 bottom, .int .i64 modes, tv, .int .i64 kx, .int .i64 ky, .int .i64 f2, .int .i64 b2, .int .i64 bi2, .int .i64 km, .int .i32 last, .str title, gv]] 0⟩, ⟨bc, .row 4 ((pre ++ seg ++ post).map encCell) 0⟩]) (fun (i, seg) => x ≤ i ∧ seg = upto (fillP (blankB ba) x (x + n : Nat)) i row) (fun (i, seg) => x + n - i) (x, row) ?_ ?_
  · exact ⟨Nat.le_refl _, (upto_from fun k d _ hk => by rw [fillP, if_neg]; simp [inB]; omega).symm⟩
  rintro ⟨i, seg⟩ ⟨hi, hseg⟩
  have hsl : seg.length = row.length := by rw [hseg, upto_len]
  (refine g0_ ?_; repeat ((first | refine n1_ fun b_ => ?_ | refine n2_ fun b_ => ?_ | refine n3_ fun b_ pre_ => ?_ | refine Nat1.mk fun q_ hq_ => ?_ | refine em_ fun x_ hx_ => ?_ | refine Elem1.mk fun e_ he_ => ?_); refine g0_ ?_))
  refine brec ?_; intro c_ h1; (try rw [h1]); cases c_ <;> replace h1 := nm_ h1
  · have hse : seg = fillRow (blankB ba) x (x + n : Nat) row := by
      rw [hseg, upto_all fun k d hk hk2 => ?_]
      · rfl
      · have := lt_of_at hk
        rw [fillP, if_neg]
        simp only [inB, Bool.and_eq_true, decide_eq_true_eq]
        split at h1 <;> omega
    (refine g0_ ?_; repeat ((first | refine n1_ fun b_ => ?_ | refine n2_ fun b_ => ?_ | refine n3_ fun b_ pre_ => ?_ | refine Nat1.mk fun q_ hq_ => ?_ | refine em_ fun x_ hx_ => ?_ | refine Elem1.mk fun e_ he_ => ?_); refine g0_ ?_))
    rw [show w = seg.length by omega]
    refine ACalls.lend1 (mend_ok W bc pre seg post (by omega)) (by repeat (first | exact .here _ _ _ | apply Look.there)) ?_
    rintro _ -
    (refine g0_ ?_; repeat ((first | refine n1_ fun b_ => ?_ | refine n2_ fun b_ => ?_ | refine n3_ fun b_ pre_ => ?_ | refine Nat1.mk fun q_ hq_ => ?_ | refine em_ fun x_ hx_ => ?_ | refine Elem1.mk fun e_ he_ => ?_); refine g0_ ?_))
    refine ⟨(), trivial, rfl, ?_⟩
    show wkMem _ [_, ⟨bc, .row 4 ((pre ++ mendL (fillRow (blankB ba) x (x + n : Nat) row) ++ post).map encCell) 0⟩]
    rw [← hse]
    (first | exact ⟨_, .refl _⟩ | exact wkMem.rfl' | exact ⟨_, .swap _ _ _⟩ | (repeat (first | exact wkMem.nil _ | exact wkMem.rfl' | exact wk_snoc _ _ _ | exact wk_fam (by assumption) _ _ _ | exact wk_famN (by assumption) _ _ _ | (apply wkMem.cons; (case' hl => (repeat (first | exact .here _ _ _ | apply Look.there)))) | apply wkMem.skip)))
  · have hil : i < row.length := by split at h1 <;> omega
    obtain ⟨d, hd⟩ : ∃ d, seg[i]? = some d := ⟨_, List.getElem?_eq_getElem (by omega)⟩
    obtain ⟨d0, hd0⟩ : ∃ d, row[i]? = some d := ⟨_, List.getElem?_eq_getElem hil⟩
    have hat := at_mid (pre := pre) (post := post) hd rfl
    have e1 : upto (fillP (blankB ba) x (x + n : Nat)) (i + 1) row = seg.set i (blankB ba) := by
      rw [upto_set hd0, ← hseg, fillP, if_pos]
      simp only [inB, Bool.and_eq_true, decide_eq_true_eq]
      split at h1 <;> omega
    (refine g0_ ?_; repeat ((first | refine n1_ fun b_ => ?_ | refine n2_ fun b_ => ?_ | refine n3_ fun b_ pre_ => ?_ | refine Nat1.mk fun q_ hq_ => ?_ | refine em_ fun x_ hx_ => ?_ | refine Elem1.mk fun e_ he_ => ?_); refine g0_ ?_))
    refine (blank_okB W ba).use ?_; (refine g0_ ?_; repeat ((first | refine n1_ fun b_ => ?_ | refine n2_ fun b_ => ?_ | refine n3_ fun b_ pre_ => ?_ | refine Nat1.mk fun q_ hq_ => ?_ | refine em_ fun x_ hx_ => ?_ | refine Elem1.mk fun e_ he_ => ?_); refine g0_ ?_))
    rw [set_mid (by omega) (blankB ba) rfl]
    refine nx_ (i + 1, seg.set i (blankB ba)) ?_ ?_
    · exact ⟨by omega, e1.symm⟩
    · show x + n - (i + 1) < x + n - i
      split at h1 <;> omega
end Go.Eng.YtphoefglfbifdaaDoor
end

/- Rows that scroll: plain. -/
section
namespace Go.Eng.YtphoefglfbifdaaDoor
open Go Go.Eng Go.Proofs
set_option linter.unusedSimpArgs false
set_option linter.unusedVariables false
theorem seg_le {a b n : Nat} (h1 : a ≤ b) (h2 : b ≤ n) : a + (b - a) ≤ n := by omega
def goneR (l : List (List Cell)) : List (List Cell) := if 50 < l.length then l.drop 1 else l
def midR (top bottom : Nat) (L : List (List Cell)) : List (List Cell) := L.take top ++ (L.drop (top + 1)).take (bottom - top) ++ L.drop bottom
def mid2R (top bottom : Nat) (L : List (List Cell)) : List (List Cell) := L.take (top + 1) ++ (L.drop top).take (bottom - top) ++ L.drop (bottom + 1)
/-- Rows go up by one: the last is blank. -/
def upR (back : Int) (w top bottom : Nat) (L : List (List Cell)) : List (List Cell) := (midR top bottom L).set bottom (List.replicate w (blankB back))
def downR (back : Int) (w top bottom : Nat) (L : List (List Cell)) : List (List Cell) := (mid2R top bottom L).set top (List.replicate w (blankB back))
def stepU (back : Int) (w top bottom : Nat) (p : List (List Cell) × List (List Cell)) : List (List Cell) × List (List Cell) := (upR back w top bottom p.1, if top = 0 then goneR (p.2 ++ p.1.take 1) else p.2)
def iterF {α : Type} (f : α → α) : Nat → α → α
  | 0, a => a
  | n + 1, a => iterF f n (f a)
theorem flat_take {w : Nat} {L : List (List Cell)} (hL : ∀ r ∈ L, r.length = w) {k : Nat} (hk : k ≤ L.length) : L.flatten.take (k * w) = (L.take k).flatten := by
  have h := take_flat_len hL hk
  have e : L.flatten = (L.take k).flatten ++ (L.drop k).flatten := by rw [← List.flatten_append, List.take_append_drop]
  rw [e, List.take_left' h]
theorem flat_drop {w : Nat} {L : List (List Cell)} (hL : ∀ r ∈ L, r.length = w) {k : Nat} (hk : k ≤ L.length) : L.flatten.drop (k * w) = (L.drop k).flatten := by
  have h := take_flat_len hL hk
  have e : L.flatten = (L.take k).flatten ++ (L.drop k).flatten := by rw [← List.flatten_append, List.take_append_drop]
  rw [e, List.drop_left' h]
theorem rows_take {w : Nat} {L : List (List Cell)} (hL : ∀ r ∈ L, r.length = w) (k : Nat) : ∀ r ∈ L.take k, r.length = w := fun r hr => hL r (List.mem_of_mem_take hr)
theorem rows_drop {w : Nat} {L : List (List Cell)} (hL : ∀ r ∈ L, r.length = w) (k : Nat) : ∀ r ∈ L.drop k, r.length = w := fun r hr => hL r (List.mem_of_mem_drop hr)
theorem RowsOk.mid {L : List (List Cell)} {w h : Nat} (f : RowsOk L w h) {top bottom : Nat} (h1 : top ≤ bottom) (h2 : bottom < h) : RowsOk (midR top bottom L) w h := by
  refine ⟨?_, ?_, f.w1, f.w2, f.h1, f.h2⟩
  · have := f.len
    simp [midR]; omega
  · intro r hr
    simp only [midR, List.mem_append] at hr
    rcases hr with (hr | hr) | hr
    · exact rows_take f.row _ r hr
    · exact rows_take (rows_drop f.row _) _ r hr
    · exact rows_drop f.row _ r hr
theorem RowsOk.mid2 {L : List (List Cell)} {w h : Nat} (f : RowsOk L w h) {top bottom : Nat} (h1 : top ≤ bottom) (h2 : bottom < h) : RowsOk (mid2R top bottom L) w h := by
  refine ⟨?_, ?_, f.w1, f.w2, f.h1, f.h2⟩
  · have := f.len
    simp [mid2R]; omega
  · intro r hr
    simp only [mid2R, List.mem_append] at hr
    rcases hr with (hr | hr) | hr
    · exact rows_take f.row _ r hr
    · exact rows_take (rows_drop f.row _) _ r hr
    · exact rows_drop f.row _ r hr
theorem RowsOk.up {L : List (List Cell)} {w h : Nat} (f : RowsOk L w h) {top bottom : Nat} (h1 : top ≤ bottom) (h2 : bottom < h) (back : Int) : RowsOk (upR back w top bottom L) w h := (f.mid h1 h2).set _ (by simp)
theorem RowsOk.down {L : List (List Cell)} {w h : Nat} (f : RowsOk L w h) {top bottom : Nat} (h1 : top ≤ bottom) (h2 : bottom < h) (back : Int) : RowsOk (downR back w top bottom L) w h := (f.mid2 h1 h2).set _ (by simp)
theorem RowsOk.at {L : List (List Cell)} {w h : Nat} (f : RowsOk L w h) {y : Nat} (hy : y < h) : ∃ r, L[y]? = some r ∧ r.length = w := by
  have := f.len
  refine ⟨L[y]'(by omega), List.getElem?_eq_getElem _, f.row _ (List.getElem_mem _)⟩
/-- What the copying of cells upwards does. -/
theorem up_copy {L : List (List Cell)} {w h : Nat} (f : RowsOk L w h) {top bottom : Nat} (h1 : top ≤ bottom) (h2 : bottom < h) :
    (L.flatten.map encCell).take (top * w) ++ (((L.flatten.map encCell).drop ((top + 1) * w)).take ((bottom + 1) * w - (top + 1) * w)).take (h * w - top * w) ++ (L.flatten.map encCell).drop (top * w + min (h * w - top * w) ((((L.flatten.map encCell).drop ((top + 1) * w)).take ((bottom + 1) * w - (top + 1) * w)).length)) = (midR top bottom L).flatten.map encCell := by
  have hlen := f.len
  have e0 : (bottom + 1) * w - (top + 1) * w = (bottom - top) * w := by rw [← Nat.sub_mul]; congr 1; omega
  have hb : (bottom + 1) * w ≤ h * w := Nat.mul_le_mul_right _ (by omega)
  have ht : (top + 1) * w ≤ (bottom + 1) * w := Nat.mul_le_mul_right _ (by omega)
  have e1 : (bottom - top) * w ≤ h * w - top * w := by rw [← Nat.sub_mul]; exact Nat.mul_le_mul_right _ (by omega)
  have hd := flat_drop f.row (k := top + 1) (by omega)
  have hdt : ((L.drop (top + 1)).flatten).take ((bottom - top) * w) = ((L.drop (top + 1)).take (bottom - top)).flatten := flat_take (rows_drop f.row _) (by rw [List.length_drop]; omega)
  have hl2 : (((L.drop (top + 1)).take (bottom - top)).flatten).length = (bottom - top) * w := by
    rw [flat_len w _ (rows_take (rows_drop f.row _) _), List.length_take, List.length_drop]; congr 1; omega
  have hT : (((L.drop (top + 1)).take (bottom - top)).flatten).take (h * w - top * w) = ((L.drop (top + 1)).take (bottom - top)).flatten := List.take_of_length_le (by rw [hl2]; exact e1)
  simp only [e0, ← List.map_drop, ← List.map_take, List.length_map, ← List.map_append]
  rw [hd, hdt, hl2, Nat.min_eq_right e1, flat_take f.row (by omega), ← Nat.add_mul, show top + (bottom - top) = bottom by omega, flat_drop f.row (by omega), hT, midR, List.flatten_append, List.flatten_append]
theorem down_copy {L : List (List Cell)} {w h : Nat} (f : RowsOk L w h) {top bottom : Nat} (h1 : top ≤ bottom) (h2 : bottom < h) :
    (L.flatten.map encCell).take ((top + 1) * w) ++ (((L.flatten.map encCell).drop (top * w)).take (bottom * w - top * w)).take ((bottom + 1) * w - (top + 1) * w) ++ (L.flatten.map encCell).drop ((top + 1) * w + min ((bottom + 1) * w - (top + 1) * w) ((((L.flatten.map encCell).drop (top * w)).take (bottom * w - top * w)).length)) = (mid2R top bottom L).flatten.map encCell := by
  have hlen := f.len
  have e0 : (bottom + 1) * w - (top + 1) * w = (bottom - top) * w := by rw [← Nat.sub_mul]; congr 1; omega
  have e2 : bottom * w - top * w = (bottom - top) * w := by rw [← Nat.sub_mul]
  have hd := flat_drop f.row (k := top) (by omega)
  have hdt : ((L.drop top).flatten).take ((bottom - top) * w) = ((L.drop top).take (bottom - top)).flatten := flat_take (rows_drop f.row _) (by rw [List.length_drop]; omega)
  have hl2 : (((L.drop top).take (bottom - top)).flatten).length = (bottom - top) * w := by
    rw [flat_len w _ (rows_take (rows_drop f.row _) _), List.length_take, List.length_drop]; congr 1; omega
  have hT : (((L.drop top).take (bottom - top)).flatten).take ((bottom - top) * w) = ((L.drop top).take (bottom - top)).flatten := List.take_of_length_le (by rw [hl2]; exact Nat.le_refl _)
  simp only [e0, e2, ← List.map_drop, ← List.map_take, List.length_map, ← List.map_append]
  rw [hd, hdt, hl2, Nat.min_self, flat_take f.row (by omega), ← Nat.add_mul, show top + 1 + (bottom - top) = bottom + 1 by omega, flat_drop f.row (by omega), hT, mid2R, List.flatten_append, List.flatten_append]
theorem wblank : widthL 32 = 1 := by decide +kernel
theorem mend_blank (back : Int) : ∀ (n : Nat) (p : Bool), mendP p (List.replicate n (blankB back)) = List.replicate n (blankB back)
  | 0, _ => rfl
  | n + 1, p => by
    rw [List.replicate_succ, mendP_keep (by show ¬ widthL 32 = 2; rw [wblank]; omega) (by rintro ⟨h, -⟩; exact absurd h (by show ¬ (32 : Int) = 0; omega)), mend_blank back n]
/-- A row that is wiped. -/
theorem clear_all (back : Int) {n : Nat} {row : List Cell} (h : row.length ≤ n) : clearR back 0 n row = List.replicate row.length (blankB back) := by
  have e : fillRow (blankB back) ((0 : Nat) : Int) ((0 + n : Nat) : Int) row = List.replicate row.length (blankB back) := by
    refine List.ext_getElem? fun k => ?_
    rw [fillRow, List.getElem?_mapIdx, List.getElem?_replicate]
    by_cases hk : k < row.length
    · rw [if_pos hk, List.getElem?_eq_getElem hk, Option.map_some, fillP, if_pos (by simp [inB]; omega)]
    · rw [if_neg hk, List.getElem?_eq_none (by omega)]; rfl
  rw [clearR, e]
  exact mend_blank back _ _
end Go.Eng.YtphoefglfbifdaaDoor
end

/- Screens: the document's CheckScreen. -/
section
namespace Go.Eng.YtphoefglfbifdaaDoor
open Go Go.Eng Go.Proofs
variable (W : World)
set_option linter.unusedSimpArgs false
set_option maxRecDepth 100000
set_option linter.unusedVariables false
set_option maxHeartbeats 8000000
/-- The block of a screen that is read. -/
abbrev scrF (b : Nat) (s : Scr) : Blk := ⟨b, .row 22 [encScr s] 0⟩
theorem withinS_ok (b : Nat) (s : Scr) (x y : Int) : ACalls Tryd.prog W 64 [.int .i64 x, .int .i64 y, .bref b 0] [scrF b s]
    (Gives (fun _ : Unit => .bool (decide (0 ≤ x ∧ x < s.g.w ∧ 0 ≤ y ∧ y < s.g.h))) (fun _ => [scrF b s]) (fun _ => True)) := by
  refine acalls_of_vc (drawOk W) Tryd.func64 rfl (by decide) (by decide) rfl ?_
  (refine g0_ ?_; repeat ((first | refine n1_ fun b_ => ?_ | refine n2_ fun b_ => ?_ | refine em_ fun x_ hx_ => ?_); refine g0_ ?_))
  exact ⟨(), trivial, by congr 1; rw [Bool.eq_iff_iff]; grind, wkMem.rfl'⟩
theorem checkRow_ok (r : List Cell) (hr : (rowG r).ok) : Pure Tryd.prog W 67 [encRow r] (.bool (decide (checkG (rowG r) = 0))) := by
  have hck := checkGrid_ok W (rowG r) hr
  rw [encRowG] at hck
  rw [encRow]
  refine Pure.of (acalls_of_vc (drawOk W) Tryd.func67 rfl (by decide) (by decide) rfl ?_)
  (refine g0_ ?_; repeat ((first | refine n1_ fun b_ => ?_ | refine n2_ fun b_ => ?_ | refine em_ fun x_ hx_ => ?_); refine g0_ ?_))
  refine (hck).use ?_; (refine g0_ ?_; repeat ((first | refine n1_ fun b_ => ?_ | refine n2_ fun b_ => ?_ | refine em_ fun x_ hx_ => ?_); refine g0_ ?_))
  (refine Frz.of_eq ?_; (conv => lhs; whnf))
theorem and57 (km : Int) (h : i64ok km) : bitop .andNot .i64 km 6 ≠ 0 ↔ km < 0 ∨ bitop .and .i64 km 57 ≠ 0 ∨ 63 < km := by
  unfold i64ok at h
  by_cases h0 : 0 ≤ km ∧ km ≤ 63
  · obtain ⟨n, rfl⟩ := Int.eq_ofNat_of_zero_le h0.1
    have key : ∀ n ∈ List.range 64, decide (bitop .andNot .i64 (n : Nat) 6 ≠ 0) = decide (bitop .and .i64 (n : Nat) 57 ≠ 0) := by decide +kernel
    have hk := key n (List.mem_range.2 (by omega))
    have hk' : bitop .andNot .i64 (n : Nat) 6 ≠ 0 ↔ bitop .and .i64 (n : Nat) 57 ≠ 0 := by
      constructor <;> intro h2 <;> simpa [h2] using hk
    rw [hk']
    constructor
    · intro h2; exact Or.inr (Or.inl h2)
    · rintro (h2 | h2 | h2)
      · omega
      · exact h2
      · omega
  · refine ⟨fun _ => by omega, fun _ hz => ?_⟩
    have hX : (BitVec.ofInt 64 km &&& ~~~ BitVec.ofInt 64 6) = 0 := by
      have h1 : IntKind.i64.wrap ((BitVec.ofInt 64 km &&& ~~~ BitVec.ofInt 64 6).toNat : Int) = 0 := hz
      rw [IntKind.wrap_i64] at h1
      have h2 := (BitVec.ofInt 64 km &&& ~~~ BitVec.ofInt 64 6).isLt
      apply BitVec.eq_of_toNat_eq
      show _ = 0
      omega
    have hY : BitVec.ofInt 64 km = BitVec.ofInt 64 km &&& 6#64 := by
      apply BitVec.eq_of_getLsbD_eq
      intro i hi
      have h3 : (BitVec.ofInt 64 km &&& ~~~ BitVec.ofInt 64 6).getLsbD i = false := by rw [hX]; exact BitVec.getLsbD_zero
      rw [BitVec.getLsbD_and, BitVec.getLsbD_not] at h3
      rw [BitVec.getLsbD_and, show (6#64).getLsbD i = (BitVec.ofInt 64 6).getLsbD i from rfl]
      cases h4 : (BitVec.ofInt 64 km).getLsbD i <;> cases h5 : (BitVec.ofInt 64 6).getLsbD i <;> simp_all
    have h6 : (BitVec.ofInt 64 km).toNat ≤ 6 := by
      rw [hY, BitVec.toNat_and]
      exact Nat.and_le_right
    rw [BitVec.toNat_ofInt] at h6
    omega
theorem checkScreen_ok (s : Scr) (h : s.ok) : Pure Tryd.prog W 30 [encScr s] (.int .i64 (checkS s)) := by
  have hrow := fun r hr => rowG_ok h (r := r) hr
  have h57 := and57 s.km h.km
  obtain ⟨hg, -, -, -, -, -, -, htl, -, -, -, -, hla, hti, hgo⟩ := h
  have hwi := fun b x y => withinS_ok W b s x y
  obtain ⟨⟨gw, gh, cs⟩, x, y, late, ⟨f, b, bi⟩, top, bottom, modes, tabs, kx, ky, ⟨f2, b2, bi2⟩, km, last, title, gone⟩ := s
  dsimp only [scrF] at *
  rw [show encScr ⟨⟨gw, gh, cs⟩, x, y, late, ⟨f, b, bi⟩, top, bottom, modes, tabs, kx, ky, ⟨f2, b2, bi2⟩, km, last, title, gone⟩ = .agg [.int .i64 gw, .int .i64 gh, .sl 4 (cs.map encCell), .int .i64 x, .int .i64 y, .bool late, .int .i64 f, .int .i64 b, .int .i64 bi, .int .i64 top, .int .i64 bottom, .int .i64 modes, .sl 1 (tabs.map PV.bool), .int .i64 kx, .int .i64 ky, .int .i64 f2, .int .i64 b2, .int .i64 bi2, .int .i64 km, .int .i32 last, .str title, .sl 1 (gone.map encRow)] from rfl] at *
  generalize hE : checkS ⟨⟨gw, gh, cs⟩, x, y, late, ⟨f, b, bi⟩, top, bottom, modes, tabs, kx, ky, ⟨f2, b2, bi2⟩, km, last, title, gone⟩ = E
  rw [checkS] at hE
  dsimp only at hE
  refine Pure.of (acalls_of_vc (drawOk W) Tryd.func30 rfl (by decide) (by decide) rfl ?_)
  (refine g0_ ?_; repeat ((first | refine n1_ fun b_ => ?_ | refine n2_ fun b_ => ?_ | refine em_ fun x_ hx_ => ?_); refine g0_ ?_))
  refine (checkGrid_ok W ⟨gw, gh, cs⟩ hg).use ?_; (refine g0_ ?_; repeat ((first | refine n1_ fun b_ => ?_ | refine n2_ fun b_ => ?_ | refine em_ fun x_ hx_ => ?_); refine g0_ ?_))
  refine brec ?_; intro c_ h1; (try rw [h1]); cases c_ <;> replace h1 := nm_ h1
  · rw [if_neg (by simpa using h1)] at hE
    have hw : 1 ≤ gw ∧ gw ≤ 120 := by
      obtain ⟨w, h, ft⟩ := fit_of (g := ⟨gw, gh, cs⟩) (by simpa using h1)
      have := ft.ew; have := ft.w1; have := ft.w2
      simp only at *; omega
    (refine g0_ ?_; repeat ((first | refine n1_ fun b_ => ?_ | refine n2_ fun b_ => ?_ | refine em_ fun x_ hx_ => ?_); refine g0_ ?_))
    refine ACalls.lend (hwi _ x y) (r := []) (.refl _) ?_
    rintro _ -
    (refine g0_ ?_; repeat ((first | refine n1_ fun b_ => ?_ | refine n2_ fun b_ => ?_ | refine em_ fun x_ hx_ => ?_); refine g0_ ?_))
    simp only [Bool.not_eq_eq_eq_not] at *
    refine brec ?_; intro c_ h2; (try rw [h2]); cases c_ <;> replace h2 := nm_ h2
    · (refine g0_ ?_; repeat ((first | refine n1_ fun b_ => ?_ | refine n2_ fun b_ => ?_ | refine em_ fun x_ hx_ => ?_); refine g0_ ?_))
      refine ACalls.lend (hwi _ kx ky) (r := []) (.refl _) ?_
      rintro _ -
      (refine g0_ ?_; repeat ((first | refine n1_ fun b_ => ?_ | refine n2_ fun b_ => ?_ | refine em_ fun x_ hx_ => ?_); refine g0_ ?_))
      refine brec ?_; intro c_ h3; (try rw [h3]); cases c_ <;> replace h3 := nm_ h3
      · rw [if_neg (by grind)] at hE
        (refine g0_ ?_; repeat ((first | refine n1_ fun b_ => ?_ | refine n2_ fun b_ => ?_ | refine em_ fun x_ hx_ => ?_); refine g0_ ?_))
        refine brec ?_; intro c_ h4; (try rw [h4]); cases c_ <;> replace h4 := nm_ h4
        · rw [if_neg (by grind)] at hE
          (refine g0_ ?_; repeat ((first | refine n1_ fun b_ => ?_ | refine n2_ fun b_ => ?_ | refine em_ fun x_ hx_ => ?_); refine g0_ ?_))
          refine brec ?_; intro c_ h5; (try rw [h5]); cases c_ <;> replace h5 := nm_ h5
          · rw [if_neg (by grind)] at hE
            (refine g0_ ?_; repeat ((first | refine n1_ fun b_ => ?_ | refine n2_ fun b_ => ?_ | refine em_ fun x_ hx_ => ?_); refine g0_ ?_))
            refine (isStyle_ok W ⟨f, b, bi⟩).use ?_; (refine g0_ ?_; repeat ((first | refine n1_ fun b_ => ?_ | refine n2_ fun b_ => ?_ | refine em_ fun x_ hx_ => ?_); refine g0_ ?_))
            refine brec ?_; intro c_ h6; (try rw [h6]); cases c_ <;> replace h6 := nm_ h6
            · (refine g0_ ?_; repeat ((first | refine n1_ fun b_ => ?_ | refine n2_ fun b_ => ?_ | refine em_ fun x_ hx_ => ?_); refine g0_ ?_))
              refine (isStyle_ok W ⟨f2, b2, bi2⟩).use ?_; (refine g0_ ?_; repeat ((first | refine n1_ fun b_ => ?_ | refine n2_ fun b_ => ?_ | refine em_ fun x_ hx_ => ?_); refine g0_ ?_))
              refine brec ?_; intro c_ h7; (try rw [h7]); cases c_ <;> replace h7 := nm_ h7
              · rw [if_neg (by grind)] at hE
                (refine g0_ ?_; repeat ((first | refine n1_ fun b_ => ?_ | refine n2_ fun b_ => ?_ | refine em_ fun x_ hx_ => ?_); refine g0_ ?_))
                refine head_ ?_; (refine g0_ ?_; repeat ((first | refine n1_ fun b_ => ?_ | refine n2_ fun b_ => ?_ | refine em_ fun x_ hx_ => ?_); refine g0_ ?_))
                refine brec ?_; intro c_ h8; (try rw [h8]); cases c_ <;> replace h8 := nm_ h8
                · (refine g0_ ?_; repeat ((first | refine n1_ fun b_ => ?_ | refine n2_ fun b_ => ?_ | refine em_ fun x_ hx_ => ?_); refine g0_ ?_))
                  refine brec ?_; intro c_ h9; (try rw [h9]); cases c_ <;> replace h9 := nm_ h9
                  · (refine g0_ ?_; repeat ((first | refine n1_ fun b_ => ?_ | refine n2_ fun b_ => ?_ | refine em_ fun x_ hx_ => ?_); refine g0_ ?_))
                    refine ⟨_, (cleanOf_ok W title (by omega)).quiet, ?_⟩; (refine g0_ ?_; repeat ((first | refine n1_ fun b_ => ?_ | refine n2_ fun b_ => ?_ | refine em_ fun x_ hx_ => ?_); refine g0_ ?_))
                    refine brec ?_; intro c_ h11; (try rw [h11]); cases c_ <;> replace h11 := nm_ h11
                    · (refine g0_ ?_; repeat ((first | refine n1_ fun b_ => ?_ | refine n2_ fun b_ => ?_ | refine em_ fun x_ hx_ => ?_); refine g0_ ?_))
                      refine brec ?_; intro c_ h12; (try rw [h12]); cases c_ <;> replace h12 := nm_ h12
                      · rw [runesV_len] at h12
                        (refine g0_ ?_; repeat ((first | refine n1_ fun b_ => ?_ | refine n2_ fun b_ => ?_ | refine em_ fun x_ hx_ => ?_); refine g0_ ?_))
                        refine brec ?_; intro c_ h13; (try rw [h13]); cases c_ <;> replace h13 := nm_ h13
                        · rw [List.length_map] at h13
                          rw [if_neg (by grind), if_neg (by omega)] at hE
                          (refine g0_ ?_; repeat ((first | refine n1_ fun b_ => ?_ | refine n2_ fun b_ => ?_ | refine em_ fun x_ hx_ => ?_); refine g0_ ?_))
                          refine' loopI (α := Nat) (fun i => [(161, .int .i64 i)]) [(159, _), (160, _)] (fun i => [⟨b_, .row 22 [.agg [.int .i64 gw, .int .i64 gh, .sl 4 (cs.map encCell), .int .i64 x, .int .i64 y, .bool late, .int .i64 f, .int .i64 b, .int .i64 bi, .int .i64 top, .int .i64 bottom, .int .i64 modes, .sl 1 (tabs.map PV.bool), .int .i64 kx, .int .i64 ky, .int .i64 f2, .int .i64 b2, .int .i64 bi2, .int .i64 km, .int .i32 last, .str title, .sl 1 (gone.map encRow)]] 0⟩]) (fun i => i ≤ gone.length ∧ goneB (gone.drop i) = goneB gone) (fun i => gone.length - i) 0 ?_ ?_
                          · exact ⟨Nat.zero_le _, rfl⟩
                          rintro i ⟨hi, hw2⟩
                          (refine g0_ ?_; repeat ((first | refine n1_ fun b_ => ?_ | refine n2_ fun b_ => ?_ | refine em_ fun x_ hx_ => ?_); refine g0_ ?_))
                          refine brec ?_; intro c_ h14; (try rw [h14]); cases c_ <;> replace h14 := nm_ h14
                          · (refine g0_ ?_; repeat ((first | refine n1_ fun b_ => ?_ | refine n2_ fun b_ => ?_ | refine em_ fun x_ hx_ => ?_); refine g0_ ?_))
                            rw [List.drop_of_length_le (by simp at h14; omega), show goneB [] = true from rfl] at hw2
                            rw [if_pos hw2.symm] at hE
                            subst hE
                            exact .refl _
                          · (refine g0_ ?_; repeat ((first | refine n1_ fun b_ => ?_ | refine n2_ fun b_ => ?_ | refine em_ fun x_ hx_ => ?_); refine g0_ ?_))
                            have hmem := List.mem_of_getElem? hx_
                            have hok := hrow _ hmem
                            rw [drop_cons_of hx_, goneB, List.all_cons, ← goneB] at hw2
                            refine (checkRow_ok W x_ hok).use ?_; (refine g0_ ?_; repeat ((first | refine n1_ fun b_ => ?_ | refine n2_ fun b_ => ?_ | refine em_ fun x_ hx_ => ?_); refine g0_ ?_))
                            refine brec ?_; intro c_ h15; (try rw [h15]); cases c_ <;> replace h15 := nm_ h15
                            · (refine g0_ ?_; repeat ((first | refine n1_ fun b_ => ?_ | refine n2_ fun b_ => ?_ | refine em_ fun x_ hx_ => ?_); refine g0_ ?_))
                              refine nx_ (i + 1) ?_ ?_
                              · exact ⟨by simp at h14; omega, by rw [← hw2]; simp [h15]⟩
                              · simp at h14; omega
                            · rw [if_neg (by rw [← hw2]; simp [h15])] at hE
                              subst hE
                              (refine g0_ ?_; repeat ((first | refine n1_ fun b_ => ?_ | refine n2_ fun b_ => ?_ | refine em_ fun x_ hx_ => ?_); refine g0_ ?_))
                              exact .refl _
                        · rw [List.length_map] at h13
                          rw [if_neg (by grind), if_pos (by omega)] at hE
                          subst hE
                          (refine g0_ ?_; repeat ((first | refine n1_ fun b_ => ?_ | refine n2_ fun b_ => ?_ | refine em_ fun x_ hx_ => ?_); refine g0_ ?_))
                          exact .refl _
                      · rw [runesV_len] at h12
                        rw [if_pos (by grind)] at hE
                        subst hE
                        (refine g0_ ?_; repeat ((first | refine n1_ fun b_ => ?_ | refine n2_ fun b_ => ?_ | refine em_ fun x_ hx_ => ?_); refine g0_ ?_))
                        exact .refl _
                    · rw [if_pos (by grind)] at hE
                      subst hE
                      (refine g0_ ?_; repeat ((first | refine n1_ fun b_ => ?_ | refine n2_ fun b_ => ?_ | refine em_ fun x_ hx_ => ?_); refine g0_ ?_))
                      exact .refl _
                  · (refine g0_ ?_; repeat ((first | refine n1_ fun b_ => ?_ | refine n2_ fun b_ => ?_ | refine em_ fun x_ hx_ => ?_); refine g0_ ?_))
                    refine ⟨_, (widthOf_ok W last).quiet, ?_⟩; (refine g0_ ?_; repeat ((first | refine n1_ fun b_ => ?_ | refine n2_ fun b_ => ?_ | refine em_ fun x_ hx_ => ?_); refine g0_ ?_))
                    rw [← width_eq last]
                    (refine g0_ ?_; repeat ((first | refine n1_ fun b_ => ?_ | refine n2_ fun b_ => ?_ | refine em_ fun x_ hx_ => ?_); refine g0_ ?_))
                    refine brec ?_; intro c_ h10; (try rw [h10]); cases c_ <;> replace h10 := nm_ h10
                    · (refine g0_ ?_; repeat ((first | refine n1_ fun b_ => ?_ | refine n2_ fun b_ => ?_ | refine em_ fun x_ hx_ => ?_); refine g0_ ?_))
                      refine ⟨_, (cleanOf_ok W title (by omega)).quiet, ?_⟩; (refine g0_ ?_; repeat ((first | refine n1_ fun b_ => ?_ | refine n2_ fun b_ => ?_ | refine em_ fun x_ hx_ => ?_); refine g0_ ?_))
                      refine brec ?_; intro c_ h11; (try rw [h11]); cases c_ <;> replace h11 := nm_ h11
                      · (refine g0_ ?_; repeat ((first | refine n1_ fun b_ => ?_ | refine n2_ fun b_ => ?_ | refine em_ fun x_ hx_ => ?_); refine g0_ ?_))
                        refine brec ?_; intro c_ h12; (try rw [h12]); cases c_ <;> replace h12 := nm_ h12
                        · rw [runesV_len] at h12
                          (refine g0_ ?_; repeat ((first | refine n1_ fun b_ => ?_ | refine n2_ fun b_ => ?_ | refine em_ fun x_ hx_ => ?_); refine g0_ ?_))
                          refine brec ?_; intro c_ h13; (try rw [h13]); cases c_ <;> replace h13 := nm_ h13
                          · rw [List.length_map] at h13
                            rw [if_neg (by grind), if_neg (by omega)] at hE
                            (refine g0_ ?_; repeat ((first | refine n1_ fun b_ => ?_ | refine n2_ fun b_ => ?_ | refine em_ fun x_ hx_ => ?_); refine g0_ ?_))
                            refine' loopI (α := Nat) (fun i => [(161, .int .i64 i)]) [(159, _), (160, _)] (fun i => [⟨b_, .row 22 [.agg [.int .i64 gw, .int .i64 gh, .sl 4 (cs.map encCell), .int .i64 x, .int .i64 y, .bool late, .int .i64 f, .int .i64 b, .int .i64 bi, .int .i64 top, .int .i64 bottom, .int .i64 modes, .sl 1 (tabs.map PV.bool), .int .i64 kx, .int .i64 ky, .int .i64 f2, .int .i64 b2, .int .i64 bi2, .int .i64 km, .int .i32 last, .str title, .sl 1 (gone.map encRow)]] 0⟩]) (fun i => i ≤ gone.length ∧ goneB (gone.drop i) = goneB gone) (fun i => gone.length - i) 0 ?_ ?_
                            · exact ⟨Nat.zero_le _, rfl⟩
                            rintro i ⟨hi, hw2⟩
                            (refine g0_ ?_; repeat ((first | refine n1_ fun b_ => ?_ | refine n2_ fun b_ => ?_ | refine em_ fun x_ hx_ => ?_); refine g0_ ?_))
                            refine brec ?_; intro c_ h14; (try rw [h14]); cases c_ <;> replace h14 := nm_ h14
                            · (refine g0_ ?_; repeat ((first | refine n1_ fun b_ => ?_ | refine n2_ fun b_ => ?_ | refine em_ fun x_ hx_ => ?_); refine g0_ ?_))
                              rw [List.drop_of_length_le (by simp at h14; omega), show goneB [] = true from rfl] at hw2
                              rw [if_pos hw2.symm] at hE
                              subst hE
                              exact .refl _
                            · (refine g0_ ?_; repeat ((first | refine n1_ fun b_ => ?_ | refine n2_ fun b_ => ?_ | refine em_ fun x_ hx_ => ?_); refine g0_ ?_))
                              have hmem := List.mem_of_getElem? hx_
                              have hok := hrow _ hmem
                              rw [drop_cons_of hx_, goneB, List.all_cons, ← goneB] at hw2
                              refine (checkRow_ok W x_ hok).use ?_; (refine g0_ ?_; repeat ((first | refine n1_ fun b_ => ?_ | refine n2_ fun b_ => ?_ | refine em_ fun x_ hx_ => ?_); refine g0_ ?_))
                              refine brec ?_; intro c_ h15; (try rw [h15]); cases c_ <;> replace h15 := nm_ h15
                              · (refine g0_ ?_; repeat ((first | refine n1_ fun b_ => ?_ | refine n2_ fun b_ => ?_ | refine em_ fun x_ hx_ => ?_); refine g0_ ?_))
                                refine nx_ (i + 1) ?_ ?_
                                · exact ⟨by simp at h14; omega, by rw [← hw2]; simp [h15]⟩
                                · simp at h14; omega
                              · rw [if_neg (by rw [← hw2]; simp [h15])] at hE
                                subst hE
                                (refine g0_ ?_; repeat ((first | refine n1_ fun b_ => ?_ | refine n2_ fun b_ => ?_ | refine em_ fun x_ hx_ => ?_); refine g0_ ?_))
                                exact .refl _
                          · rw [List.length_map] at h13
                            rw [if_neg (by grind), if_pos (by omega)] at hE
                            subst hE
                            (refine g0_ ?_; repeat ((first | refine n1_ fun b_ => ?_ | refine n2_ fun b_ => ?_ | refine em_ fun x_ hx_ => ?_); refine g0_ ?_))
                            exact .refl _
                        · rw [runesV_len] at h12
                          rw [if_pos (by grind)] at hE
                          subst hE
                          (refine g0_ ?_; repeat ((first | refine n1_ fun b_ => ?_ | refine n2_ fun b_ => ?_ | refine em_ fun x_ hx_ => ?_); refine g0_ ?_))
                          exact .refl _
                      · rw [if_pos (by grind)] at hE
                        subst hE
                        (refine g0_ ?_; repeat ((first | refine n1_ fun b_ => ?_ | refine n2_ fun b_ => ?_ | refine em_ fun x_ hx_ => ?_); refine g0_ ?_))
                        exact .refl _
                    · rw [if_pos (by grind)] at hE
                      subst hE
                      (refine g0_ ?_; repeat ((first | refine n1_ fun b_ => ?_ | refine n2_ fun b_ => ?_ | refine em_ fun x_ hx_ => ?_); refine g0_ ?_))
                      exact .refl _
                · rw [if_pos (by simp at h8; omega)] at hE
                  subst hE
                  (refine g0_ ?_; repeat ((first | refine n1_ fun b_ => ?_ | refine n2_ fun b_ => ?_ | refine em_ fun x_ hx_ => ?_); refine g0_ ?_))
                  exact .refl _
              · rw [if_pos (by grind)] at hE
                subst hE
                (refine g0_ ?_; repeat ((first | refine n1_ fun b_ => ?_ | refine n2_ fun b_ => ?_ | refine em_ fun x_ hx_ => ?_); refine g0_ ?_))
                exact .refl _
            · rw [if_pos (by grind)] at hE
              subst hE
              (refine g0_ ?_; repeat ((first | refine n1_ fun b_ => ?_ | refine n2_ fun b_ => ?_ | refine em_ fun x_ hx_ => ?_); refine g0_ ?_))
              exact .refl _
          · rw [if_pos (by grind)] at hE
            subst hE
            (refine g0_ ?_; repeat ((first | refine n1_ fun b_ => ?_ | refine n2_ fun b_ => ?_ | refine em_ fun x_ hx_ => ?_); refine g0_ ?_))
            exact .refl _
        · rw [if_pos (by grind)] at hE
          subst hE
          (refine g0_ ?_; repeat ((first | refine n1_ fun b_ => ?_ | refine n2_ fun b_ => ?_ | refine em_ fun x_ hx_ => ?_); refine g0_ ?_))
          exact .refl _
      · rw [if_pos (by grind)] at hE
        subst hE
        (refine g0_ ?_; repeat ((first | refine n1_ fun b_ => ?_ | refine n2_ fun b_ => ?_ | refine em_ fun x_ hx_ => ?_); refine g0_ ?_))
        exact .refl _
    · rw [if_pos (by grind)] at hE
      subst hE
      (refine g0_ ?_; repeat ((first | refine n1_ fun b_ => ?_ | refine n2_ fun b_ => ?_ | refine em_ fun x_ hx_ => ?_); refine g0_ ?_))
      exact .refl _
  · rw [if_pos (by simpa using h1)] at hE
    subst hE
    (refine g0_ ?_; repeat ((first | refine n1_ fun b_ => ?_ | refine n2_ fun b_ => ?_ | refine em_ fun x_ hx_ => ?_); refine g0_ ?_))
    exact .refl _
end Go.Eng.YtphoefglfbifdaaDoor
end
