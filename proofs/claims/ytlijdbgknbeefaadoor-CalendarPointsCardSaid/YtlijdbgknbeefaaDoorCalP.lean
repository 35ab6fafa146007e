/- Dates and days: plain. -/
import Derived.Lib.Hide
namespace Go.Proofs.YtlijdbgknbeefaaDoor
namespace Cal
def lp (y : Int) : Int := if y % 4 = 0 ∧ (y % 100 ≠ 0 ∨ y % 400 = 0) then 1 else 0
def bef (y : Int) : Int := (y - 2000) * 365 + ((y - 1) / 4 - (y - 1) / 100 + (y - 1) / 400) - 484
def dim (y m : Int) : Int := if m = 2 then 28 + lp y else if m = 4 ∨ m = 6 ∨ m = 9 ∨ m = 11 then 30 else 31
def cumT (m : Int) : Int :=
  if m ≤ 1 then 0 else if m = 2 then 31 else if m = 3 then 59 else if m = 4 then 90 else if m = 5 then 120 else if m = 6 then 151 else if m = 7 then 181 else if m = 8 then 212 else if m = 9 then 243 else if m = 10 then 273 else if m = 11 then 304 else if m = 12 then 334 else 365
def cum (y m : Int) : Int := cumT m + (if m ≤ 2 then 0 else lp y)
theorem lp_01 (y : Int) : 0 ≤ lp y ∧ lp y ≤ 1 := by unfold lp; split <;> omega
theorem months {m : Int} (h1 : 1 ≤ m) (h2 : m ≤ 12) : m = 1 ∨ m = 2 ∨ m = 3 ∨ m = 4 ∨ m = 5 ∨ m = 6 ∨ m = 7 ∨ m = 8 ∨ m = 9 ∨ m = 10 ∨ m = 11 ∨ m = 12 := by omega
theorem cum_one (y : Int) : cum y 1 = 0 := by simp [cum, cumT]
theorem cum_succ (y m : Int) (h1 : 1 ≤ m) (h2 : m ≤ 12) : cum y (m + 1) = cum y m + dim y m := by
  rcases months h1 h2 with rfl | rfl | rfl | rfl | rfl | rfl | rfl | rfl | rfl | rfl | rfl | rfl <;> simp [cum, cumT, dim] <;> omega
theorem cum_13 (y : Int) : cum y 13 = 365 + lp y := by simp [cum, cumT]
theorem dim_bd (y m : Int) : 28 ≤ dim y m ∧ dim y m ≤ 31 := by
  have := lp_01 y
  unfold dim
  split
  · omega
  · split <;> omega
theorem cum_mono (y m : Int) (k : Nat) (h1 : 1 ≤ m) (h2 : m + k ≤ 13) : cum y m ≤ cum y (m + k) := by
  induction k with
  | zero => simp
  | succ k ih =>
    have h := cum_succ y (m + k) (by omega) (by omega)
    have e : m + ((k + 1 : Nat) : Int) = m + (k : Int) + 1 := by omega
    have hd := dim_bd y (m + k)
    have := ih (by omega)
    rw [e, h]; omega
theorem cum_le (y a b : Int) (h1 : 1 ≤ a) (hab : a ≤ b) (h2 : b ≤ 13) : cum y a ≤ cum y b := by
  have := cum_mono y a (b - a).toNat h1 (by omega)
  rwa [show a + ((b - a).toNat : Int) = b by omega] at this
theorem cum_bd (y m : Int) (h1 : 1 ≤ m) (h2 : m ≤ 13) : 0 ≤ cum y m ∧ cum y m ≤ 365 + lp y := by
  have a := cum_le y 1 m (by omega) h1 h2
  have b := cum_le y m 13 h1 h2 (by omega)
  rw [cum_one] at a
  rw [cum_13] at b
  exact ⟨a, b⟩
theorem bef_succ (y : Int) : bef (y + 1) = bef y + 365 + lp y := by unfold bef lp; split <;> omega
theorem bef_le (y z : Int) (h : y ≤ z) : bef y ≤ bef z := by unfold bef; omega
theorem bef_lt (y z : Int) (h : y < z) : bef y + 365 + lp y ≤ bef z := by
  rw [← bef_succ]; exact bef_le _ _ (by omega)
theorem bef_2000 : bef 2000 = 0 := by decide
theorem bef_4873 : bef 4873 = 1049343 := by decide
theorem bef_nn (y : Int) (h : 2000 ≤ y) : 0 ≤ bef y := by
  have := bef_le 2000 y h
  rw [bef_2000] at this; exact this
theorem bef_top (y : Int) (h : y ≤ 5001) : bef y ≤ 1100000 := by unfold bef; omega
theorem bef_cycle (y : Int) : bef (y + 400) = bef y + 146097 := by unfold bef; omega
theorem lp_cycle (y : Int) : lp (y + 400) = lp y := by
  unfold lp
  have a : (y + 400) % 4 = y % 4 := by omega
  have b : (y + 400) % 100 = y % 100 := by omega
  have c : (y + 400) % 400 = y % 400 := by omega
  rw [a, b, c]
theorem dim_cycle (y m : Int) : dim (y + 400) m = dim y m := by unfold dim; rw [lp_cycle]
theorem cum_cycle (y m : Int) : cum (y + 400) m = cum y m := by unfold cum; rw [lp_cycle]
theorem bef_guess (n : Int) : bef (2000 + n / 146097 * 400 + n % 146097 / 366) ≤ n := by unfold bef; omega
/-- The number of a date. -/
def num (y m d : Int) : Int := bef y + cum y m + d - 1
def ok (y m d : Int) : Prop := 2000 ≤ y ∧ 1 ≤ m ∧ m ≤ 12 ∧ 1 ≤ d ∧ d ≤ dim y m ∧ num y m d ≤ 1048576
theorem ok_year {y m d : Int} (h : ok y m d) : y ≤ 4872 := by
  obtain ⟨h1, h2, h3, h4, h5, h6⟩ := h
  by_cases g : 4872 < y
  · have a := bef_le 4873 y (by omega)
    have b := cum_bd y m h2 (by omega)
    rw [bef_4873] at a
    unfold num at h6; omega
  · omega
theorem num_nn {y m d : Int} (h : ok y m d) : 0 ≤ num y m d := by
  obtain ⟨h1, h2, h3, h4, h5, h6⟩ := h
  have a := bef_nn y h1
  have b := cum_bd y m h2 (by omega)
  unfold num; omega
theorem in_year {y m d : Int} (h1 : 1 ≤ m) (h2 : m ≤ 12) (h3 : 1 ≤ d) (h4 : d ≤ dim y m) : bef y ≤ num y m d ∧ num y m d < bef y + 365 + lp y := by
  have a := cum_bd y m h1 (by omega)
  have b := cum_succ y m h1 h2
  have c := cum_bd y (m + 1) (by omega) (by omega)
  unfold num; omega
/-- The later date. -/
def later (y m d y' m' d' : Int) : Prop := y < y' ∨ y = y' ∧ (m < m' ∨ m = m' ∧ d < d')
theorem later_num {y m d y' m' d' : Int} (h : ok y m d) (h' : ok y' m' d') (hl : later y m d y' m' d') : num y m d < num y' m' d' := by
  obtain ⟨h1, h2, h3, h4, h5, h6⟩ := h
  obtain ⟨g1, g2, g3, g4, g5, g6⟩ := h'
  rcases hl with hl | ⟨rfl, hl | ⟨rfl, hl⟩⟩
  · have a := in_year h2 h3 h4 h5
    have b := in_year g2 g3 g4 g5
    have c := bef_lt y y' hl
    omega
  · have a := cum_succ y m h2 h3
    have b := cum_le y (m + 1) m' (by omega) (by omega) (by omega)
    unfold num; omega
  · unfold num; omega
theorem later_or (y m d y' m' d' : Int) : later y m d y' m' d' ∨ later y' m' d' y m d ∨ (y = y' ∧ m = m' ∧ d = d') := by unfold later; omega
theorem num_inj {y m d y' m' d' : Int} (h : ok y m d) (h' : ok y' m' d') (e : num y m d = num y' m' d') : y = y' ∧ m = m' ∧ d = d' := by
  rcases later_or y m d y' m' d' with hl | hl | hl
  · have := later_num h h' hl; omega
  · have := later_num h' h hl; omega
  · exact hl
theorem num_lt {y m d y' m' d' : Int} (h : ok y m d) (h' : ok y' m' d') : num y m d < num y' m' d' ↔ later y m d y' m' d' := by
  constructor
  · intro hn
    rcases later_or y m d y' m' d' with hl | hl | ⟨rfl, rfl, rfl⟩
    · exact hl
    · have := later_num h' h hl; omega
    · omega
  · exact later_num h h'
/-- The following date. -/
def nextD (y m d : Int) : Int × Int × Int := if d + 1 > dim y m then (if m + 1 > 12 then (y + 1, 1, 1) else (y, m + 1, 1)) else (y, m, d + 1)
theorem next_ok {y m d : Int} (h : ok y m d) (hn : num y m d + 1 ≤ 1048576) : ok (nextD y m d).1 (nextD y m d).2.1 (nextD y m d).2.2 ∧ num (nextD y m d).1 (nextD y m d).2.1 (nextD y m d).2.2 = num y m d + 1 := by
  obtain ⟨h1, h2, h3, h4, h5, h6⟩ := h
  have a := cum_succ y m h2 h3
  unfold nextD
  split
  · split
    · have hm : m = 12 := by omega
      subst hm
      have b := bef_succ y
      have c := cum_13 y
      have e := dim_bd (y + 1) 1
      have f := cum_one (y + 1)
      rw [show (12 : Int) + 1 = 13 by rfl, c] at a
      have g : num (y + 1) 1 1 = num y 12 d + 1 := by unfold num; omega
      exact ⟨⟨by simp only []; omega, by simp only []; omega, by simp only []; omega, by simp only []; omega, by simp only []; omega, by simp only []; omega⟩, g⟩
    · have e := dim_bd y (m + 1)
      have g : num y (m + 1) 1 = num y m d + 1 := by unfold num; omega
      exact ⟨⟨by simp only []; omega, by simp only []; omega, by simp only []; omega, by simp only []; omega, by simp only []; omega, by simp only []; omega⟩, g⟩
  · have g : num y m (d + 1) = num y m d + 1 := by unfold num; omega
    exact ⟨⟨by simp only []; omega, by simp only []; omega, by simp only []; omega, by simp only []; omega, by simp only []; omega, by simp only []; omega⟩, g⟩
theorem cycle_ok {y m d : Int} (h : ok y m d) (hn : num y m d + 146097 ≤ 1048576) : ok (y + 400) m d ∧ num (y + 400) m d = num y m d + 146097 := by
  obtain ⟨h1, h2, h3, h4, h5, h6⟩ := h
  have e : num (y + 400) m d = num y m d + 146097 := by unfold num; rw [bef_cycle, cum_cycle]; omega
  exact ⟨⟨by omega, h2, h3, h4, by rw [dim_cycle]; exact h5, by omega⟩, e⟩
def okB (y m d : Int) : Bool := decide (2000 ≤ y ∧ 1 ≤ m ∧ m ≤ 12 ∧ 1 ≤ d ∧ d ≤ dim y m ∧ num y m d ≤ 1048576)
theorem okB_iff (y m d : Int) : okB y m d = true ↔ ok y m d := by unfold okB; exact decide_eq_true_iff
theorem okB_false (y m d : Int) : okB y m d = false ↔ ¬ ok y m d := by rw [← okB_iff]; simp
def dayN (y m d : Int) : Int := if okB y m d then num y m d else 0
def dayE (y m d : Int) : Int := if okB y m d then 0 else 10
end Cal
end Go.Proofs.YtlijdbgknbeefaaDoor
