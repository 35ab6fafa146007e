/- Mirror's laws: states, bytes and versions as the laws' walks meet them. -/
import Derived.Test.YtkflpoiobpblhaaP46
import Derived.Test.YtkflpoiobpblhaaP47
import Derived.Test.YtkflpoiobpblhaaMChnC
import Derived.Test.YtkflpoiobpblhaaMLpC
namespace Go.Proofs.Ytkflpoiobpblhaa
open Go.RowKit
set_option linter.unusedVariables false
set_option linter.unusedSimpArgs false
theorem byte_of {a : Int} (h : Lit.wf (.int .u8 a) = true) : ∃ b : Nat, b < 256 ∧ a = (b : Int) := by
  have hb : 0 ≤ a ∧ a ≤ 255 := by
    simp [Lit.wf, IntKind.min, IntKind.max, IntKind.signed, IntKind.bits] at h
    omega
  exact ⟨a.toNat, by omega, by omega⟩
theorem open_picks {w : World} {A : Option Addr} {xs : List Int} (hA : Cells w A (xs.map (Value.int .u8))) (hw : ∀ x ∈ xs, (Lit.int .u8 x).wf = true) :
    ∃ b : List Nat, b.length = xs.length ∧ (∀ y ∈ b, y < 256) ∧ Cells w A (bytesV b) := by
  have hx : ∀ x ∈ xs, 0 ≤ x ∧ x < 256 := fun x h => by
    obtain ⟨b, hb, rfl⟩ := byte_of (hw x h)
    omega
  refine ⟨xs.map Int.toNat, by simp, fun y hy => ?_, ?_⟩
  · obtain ⟨x, h, rfl⟩ := List.mem_map.1 hy
    have := hx x h
    omega
  · have e : bytesV (xs.map Int.toNat) = xs.map (Value.int .u8) := by
      unfold bytesV
      rw [List.map_map]
      apply List.map_congr_left
      intro x h
      have := hx x h
      simp [Function.comp]; omega
    rw [e]; exact hA
namespace Mir
theorem fewI_ok {l : List It} (h : fewI l = true) : l.length ≤ 12 ∧ ∀ y ∈ l, y.2.length ≤ 300 := by
  unfold fewI at h
  rw [Bool.and_eq_true, List.all_eq_true] at h
  refine ⟨of_decide_eq_true h.2, fun y hy => ?_⟩
  have := h.1 y hy
  unfold fewA at this
  rw [Bool.and_eq_true] at this
  exact of_decide_eq_true this.2
theorem vsK_two (s : List Nat) (a b : List It) : vsK s 0 [] [a, b] = [v1K s a, v2K s a b] := rfl
theorem v1_small {s : List Nat} {a : List It} (h : okS a) : SmV (v1K s a) := by
  have h1 := diffS_length [] a
  have h2 := diff_small (a := []) (b := a) (n := 300) (by simp) h.2.2
  have h3 := h.2.1
  exact ⟨show (diffS [] a).length ≤ 1000000 by simp at h1; omega, fun x hx => by have := h2 x hx; omega⟩
theorem v2_small {s : List Nat} {a b : List It} (ha : okS a) (h : okS b) : SmV (v2K s a b) := by
  have h1 := diffS_length a b
  have h2 := diff_small (a := a) (b := b) (n := 300) ha.2.2 h.2.2
  have h3 := h.2.1
  have h4 := ha.2.1
  exact ⟨show (diffS a b).length ≤ 1000000 by omega, fun x hx => by have := h2 x hx; omega⟩
theorem fK_small {s : List Nat} {a b : List It} (ha : okS a) (hb : okS b) (g0 g1 : Bool) : SmF (fK s a b g0 g1) := by
  have h1 := v2_small (s := s) ha hb
  cases g0 <;> cases g1
  · exact ⟨show (0 : Nat) ≤ 1000000 by omega, fun x hx => by simp [fK, f0K] at hx, show (0 : Nat) ≤ 1000000 by omega, fun x hx => by simp [fK, f0K] at hx⟩
  · exact ⟨show (0 : Nat) ≤ 1000000 by omega, fun x hx => by simp [fK, g0K] at hx, show (1 : Nat) ≤ 1000000 by omega, fun x hx => by simp [fK, g0K] at hx; rw [hx]; exact h1⟩
  · exact ⟨show a.length ≤ 1000000 by have := ha.2.1; omega, fun x hx => by have := ha.2.2 x hx; omega, show (0 : Nat) ≤ 1000000 by omega, fun x hx => by simp [fK, f1K] at hx⟩
  · exact ⟨show b.length ≤ 1000000 by have := hb.2.1; omega, fun x hx => by have := hb.2.2 x hx; omega, show (0 : Nat) ≤ 1000000 by omega, fun x hx => by simp [fK, f2K] at hx⟩
end Mir
theorem states_two {w : World} {g : Nat} {A B : Option Addr} {n c m d : Nat} {a b : List Mir.It} (h : Blk w g 22 #[.slice A n c, .slice B m d]) (hl : a.length = n) (hn : n ≤ c) (hc : c ≤ maxLen) (hI : ItemsC w A a) (hl2 : b.length = m) (hn2 : m ≤ d) (hc2 : d ≤ maxLen) (hI2 : ItemsC w B b) : StatesC w (some ⟨g, 0, none⟩) [a, b] := by
  subst hl; subst hl2
  refine ⟨[(A, c), (B, d)], rfl, fun k y x e1 e2 => ?_, fun k y x e1 e2 => ?_⟩
  · match k with
    | 0 => simp at e1 e2; subst e1; subst e2; exact ⟨hn, hc, hI⟩
    | 1 => simp at e1 e2; subst e1; subst e2; exact ⟨hn2, hc2, hI2⟩
    | k + 2 => simp at e1
  · match k with
    | 0 => simp at e1 e2; subst e1; subst e2; exact ⟨g, 0, rfl, h.lt, h.cell 0⟩
    | 1 => simp at e1 e2; subst e1; subst e2; exact ⟨g, 0, rfl, h.lt, h.cell 1⟩
    | k + 2 => simp at e1
theorem range_below {w w' : World} {b o : Nat} {cs : List Value} (h : w.rangeAt b o cs) (hb : Below w.heap.size w w') : w'.rangeAt b o cs := fun j v hv => cellkM hb (h j v hv)
structure RcK (wb w : World) (top : Nat) (wc : World) (f : Mir.Fo) (G : Array Value) : Prop where
  le : top ≤ wc.heap.size
  out : ∀ W', Below wb.heap.size wb W' → (∀ b, w.heap.size ≤ b → b < top → W'.heap[b]? = wc.heap[b]?) → top ≤ W'.heap.size → FolC W' f G
section
variable {wb w wc wd : World} {top : Nat} {f : Mir.Fo} {G : Array Value}
theorem RcK.grown {row : Option Nat} (h : RcK wb w top wc f G) (hg : wc.grownBy wd row) (hr : ∀ g, row = some g → ¬ (w.heap.size ≤ g ∧ g < top)) : RcK wb w top wd f G :=
  ⟨Nat.le_trans h.le hg.size, fun W' h1 h2 h3 => h.out W' h1 (fun b h4 h5 => (h2 b h4 h5).trans (hg.block b (Nat.lt_of_lt_of_le h5 h.le) (fun e => hr b e.symm ⟨h4, h5⟩))) h3⟩
theorem RcK.below (h : RcK wb w top wc f G) (hb : Below wc.heap.size wc wd) : RcK wb w top wd f G := h.grown (grown_of_below hb none) (fun g e => by cases e)
theorem RcK.fol (h : RcK wb w top wc f G) (hb : Below wb.heap.size wb wc) : FolC wc f G := h.out wc hb (fun _ _ _ => rfl) h.le
end
end Go.Proofs.Ytkflpoiobpblhaa
