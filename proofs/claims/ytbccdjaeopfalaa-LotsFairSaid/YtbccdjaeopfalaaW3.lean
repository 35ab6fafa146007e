import Derived.Test.YtbccdjaeopfalaaBase
namespace Go.Proofs.Ytbccdjaeopfalaa
open Go.RowKit

/-- A list of the numbers 0 to n - 1, each once. -/
def permB (p : List Int) : Bool := decide (p.Nodup ∧ ∀ x ∈ p, 0 ≤ x ∧ x < (p.length : Int))

def Pre (n : Nat) (p : List Int) : Prop := p.Nodup ∧ ∀ x ∈ p, 0 ≤ x ∧ x < (n : Int)
theorem Pre.snoc {n : Nat} {p : List Int} {x : Int} (h : Pre n p) (hx : x ∉ p) (h0 : 0 ≤ x) (h1 : x < n) : Pre n (p ++ [x]) := by
  refine ⟨?_, ?_⟩
  · rw [List.nodup_append]
    exact ⟨h.1, by simp, fun a ha b hb e => hx (by simp at hb; subst hb; subst e; exact ha)⟩
  · intro y hy
    rcases List.mem_append.1 hy with hy | hy
    · exact h.2 y hy
    · simp at hy; subst hy; exact ⟨h0, h1⟩
theorem Pre.take {n : Nat} {p : List Int} (h : Pre n p) (k : Nat) : Pre n (p.take k) :=
  ⟨h.1.sublist (List.take_sublist _ _), fun x hx => h.2 x (List.mem_of_mem_take hx)⟩
theorem permB_true {p : List Int} {n : Nat} (hl : p.length = n) : permB p = true ↔ Pre n p := by
  subst hl; simp [permB, Pre]
theorem permB_of {p : List Int} {n : Nat} (hl : p.length = n) (h : Pre n p) : permB p = true := (permB_true hl).2 h
theorem permB_not {p : List Int} {n : Nat} (hl : p.length = n) (h : ¬ Pre n p) : permB p = false := by
  cases e : permB p
  · rfl
  · exact absurd ((permB_true hl).1 e) h

set_option maxHeartbeats 800000 in
theorem Permutation_any (A : Option Addr) (n c : Nat) (p : List Int) (w : World) (hp : p.length = n) (hm : n ≤ maxLen) (hA : Ints w A p) :
    Calls Try.prog 24 #[.slice A n c] w fun e w' => e = .returned (.bool (permB p && decide (n ≤ 18))) ∧ Drawn w w' := by
  have Hp := Lib.hid hp; clear hp
  unfold maxLen at hm
  go_enter Try.func24, Try.ntmps24
  go_wp2
  go_loopw [3] (fun i wr => ∃ k : Nat, k ≤ n ∧ i = .int .i64 k ∧ Hid (Pre n (p.take k)) ∧ Drawn w wr) (fun i _ => n - (intOf i).toNat)
  case atStart => exact ⟨0, by omega, rfl, ⟨by simp, by simp⟩, Drawn.refl _⟩
  case round =>
    obtain ⟨k, hk, rfl, Htk, hw⟩ := hrel
    by_cases hlt : k < n
    · obtain ⟨b, off, rfl, -, hc⟩ := hA.at_ (k := k) (by rw [Hp.out]; exact hlt)
      obtain ⟨x, hxk⟩ := getElem?_lt (l := p) (k := k) (by rw [Hp.out]; exact hlt)
      have e1 : wr.cell? ⟨b, off + k, none⟩ = some (.int .i64 x) := (hw.cell _).trans (hc k x hxk)
      have Hxk := Lib.hid hxk; have Hc := Lib.hid hc
      clear hc hxk hA
      by_cases hx : 0 ≤ x ∧ x < n
      · obtain ⟨hx0, hx1⟩ := hx
        obtain ⟨wo, rfl⟩ : ∃ wo : World, wo = wr := ⟨_, rfl⟩
        go_wp2
        go_loopw [4] (fun i wq => ∃ j : Nat, j ≤ k ∧ i = .int .i64 j ∧ Hid (x ∉ p.take j) ∧ Drawn wo wq) (fun i _ => k - (intOf i).toNat)
        case atStart => exact ⟨0, by omega, rfl, by simp [Hid], Drawn.refl _⟩
        case round =>
          obtain ⟨j, hj, rfl, Hnj, hw2⟩ := hrel
          by_cases hlt2 : j < k
          · obtain ⟨y, hyj⟩ := getElem?_lt (l := p) (k := j) (by rw [Hp.out]; omega)
            have e2 : wr.cell? ⟨b, off + j, none⟩ = some (.int .i64 y) := (hw2.cell _).trans ((hw.cell _).trans (Hc.out j y hyj))
            have e3 : wr.cell? ⟨b, off + k, none⟩ = some (.int .i64 x) := (hw2.cell _).trans e1
            clear e1
            have Hyj := Lib.hid hyj
            clear hyj
            by_cases hxy : y = x
            · subst hxy
              have hb : (y == y) = true := by simp
              go_wp2
              go_quiet (fail)
              go_wp2
              go_ret
              refine ⟨ret_bool ?_, (hw.trans hw2).drewN _⟩
              rw [permB_not Hp.out, Bool.false_and]
              intro hP
              have h1 := (hP.take (k + 1)).1
              rw [take_snoc Hxk.out, List.nodup_append] at h1
              refine h1.2.2 y ?_ y (by simp) rfl
              exact mem_take_of Hyj.out hlt2
            · have hb : (y == x) = false := by simpa using hxy
              go_wp2
              go_quiet (fail)
              go_wp2
              go_roundw
              case rel => exact ⟨j + 1, by omega, by go_num, by
                show x ∉ _
                rw [take_snoc Hyj.out]; simp [Hnj.out, Ne.symm hxy], hw2.drewN _⟩
              case measure => simp [intOf]; omega
          · go_wp2
            go_roundw
            case rel => exact ⟨k + 1, by omega, by go_num, by
              obtain rfl : j = k := by omega
              show Pre _ _
              rw [take_snoc Hxk.out]; exact Htk.out.snoc Hnj.out hx0 hx1, hw.trans hw2⟩
            case measure => simp [intOf]; omega
      · have hP : permB p = false := permB_not Hp.out fun hP => hx (hP.2 x (List.mem_of_getElem? Hxk.out))
        have HP := Lib.hid hP; clear hP
        by_cases hx0 : x < 0
        · go_wp2
          go_ret
          exact ⟨ret_bool (by rw [HP.out]; rfl), hw⟩
        · have hx1 : (n : Int) ≤ x := by omega
          clear hx
          go_wp2
          go_ret
          exact ⟨ret_bool (by rw [HP.out]; rfl), hw⟩
    · go_wp2
      go_ret
      obtain rfl : k = n := by omega
      have hP : Pre k p := by have := Htk.out; rwa [List.take_of_length_le (by rw [Hp.out]; omega)] at this
      exact ⟨ret_bool (by rw [permB_of Hp.out hP, Bool.true_and]; exact decide_eq_decide.2 (by omega)), hw⟩

end Go.Proofs.Ytbccdjaeopfalaa
