/- Plain facts of lists with matches left out; rows cut (fixtures). -/
import Derived.Test.YtpmkebejfnflfaaFCirF
import Derived.Test.YtpmkebejfnflfaaFShort
namespace Go.Proofs.Ytpmkebejfnflfaa
open Go.RowKit
namespace Fix
theorem busy_sub {l m : List Mt} (h : l.Sublist m) : (busyM l).Sublist (busyM m) := by
  induction h with
  | slnil => exact .slnil
  | cons a _ ih => exact (ih.cons _).cons _
  | cons_cons a _ ih => exact (ih.cons_cons _).cons_cons _
theorem okL_sub {cl : List Int} {ls ms : List (List Mt)} (h : okL cl ls = true) (h1 : ∀ m ∈ ms, ∃ l ∈ ls, m.Sublist l) (h2 : ms.flatten.Sublist ls.flatten) : okL cl ms = true := by
  obtain ⟨g1, g2, g3⟩ := okL_iff.1 h
  refine okL_iff.2 ⟨fun m hm => ?_, h2.nodup g2, fun m hm x hx => ?_⟩
  · obtain ⟨l, hl, hs⟩ := h1 m hm
    exact (busy_sub hs).nodup (g1 l hl)
  · obtain ⟨l, hl, hs⟩ := h1 m hm
    exact g3 l hl x (hs.mem hx)
theorem cut_at {α : Type} {l : List α} {k : Nat} {x : α} (h : l[k]? = some x) : l = l.take k ++ x :: l.drop (k + 1) := by
  rw [← drop_cons h, List.take_append_drop]
def lessL (ls : List (List Mt)) (r : Nat) : List (List Mt) := ls.take r ++ ls.drop (r + 1)
def partL (ls : List (List Mt)) (r : Nat) (one : List Mt) : List (List Mt) := ls.take r ++ [one] ++ ls.drop (r + 1)
theorem less_length {ls : List (List Mt)} {r : Nat} (h : r < ls.length) : (lessL ls r).length + 1 = ls.length := by
  unfold lessL; rw [List.length_append, List.length_take, List.length_drop]; omega
theorem part_length {ls : List (List Mt)} {r : Nat} (one : List Mt) (h : r < ls.length) : (partL ls r one).length = ls.length := by
  unfold partL; rw [List.length_append, List.length_append, List.length_take, List.length_drop, List.length_singleton]; omega
theorem less_ok {cl : List Int} {ls : List (List Mt)} {r : Nat} {l : List Mt} (hr : ls[r]? = some l) (h : okL cl ls = true) : okL cl (lessL ls r) = true := by
  have hc := cut_at hr
  refine okL_sub h (fun m hm => ⟨m, ?_, List.Sublist.refl _⟩) ?_
  · unfold lessL at hm
    rcases List.mem_append.1 hm with hm | hm
    · exact List.mem_of_mem_take hm
    · exact List.mem_of_mem_drop hm
  · unfold lessL
    conv => rhs; rw [hc]
    rw [List.flatten_append, List.flatten_append, List.flatten_cons]
    exact List.Sublist.append (List.Sublist.refl _) (List.sublist_append_right _ _)
theorem part_flat {ls : List (List Mt)} {r : Nat} {l one : List Mt} (hr : ls[r]? = some l) (h1 : one.Sublist l) : (partL ls r one).flatten.Sublist ls.flatten := by
  have hc := cut_at hr
  unfold partL
  conv => rhs; rw [hc]
  rw [List.flatten_append, List.flatten_append, List.flatten_append, List.flatten_cons, List.append_assoc]
  refine List.Sublist.append (List.Sublist.refl _) (List.Sublist.append ?_ (List.Sublist.refl _))
  simpa using h1
theorem part_ok {cl : List Int} {ls : List (List Mt)} {r : Nat} {l one : List Mt} (hr : ls[r]? = some l) (h1 : one.Sublist l) (h : okL cl ls = true) : okL cl (partL ls r one) = true := by
  refine okL_sub h (fun m hm => ?_) (part_flat hr h1)
  unfold partL at hm
  rcases List.mem_append.1 hm with hm | hm
  · rcases List.mem_append.1 hm with hm | hm
    · exact ⟨m, List.mem_of_mem_take hm, List.Sublist.refl _⟩
    · rw [List.mem_singleton] at hm
      subst hm
      exact ⟨l, List.mem_of_getElem? hr, h1⟩
  · exact ⟨m, List.mem_of_mem_drop hm, List.Sublist.refl _⟩
theorem less_check {cl : List Int} {ls : List (List Mt)} {r : Nat} {l : List Mt} (hr : ls[r]? = some l) (h : checkE cl ls = 0) : checkE cl (lessL ls r) = 0 := by
  obtain ⟨h1, h2, h3⟩ := checkE_zero.1 h
  have := less_length (List.getElem?_eq_some_iff.1 hr).1
  exact checkE_zero.2 ⟨h1, by omega, less_ok hr h3⟩
theorem part_check {cl : List Int} {ls : List (List Mt)} {r : Nat} {l one : List Mt} (hr : ls[r]? = some l) (hs : one.Sublist l) (h : checkE cl ls = 0) : checkE cl (partL ls r one) = 0 := by
  obtain ⟨h1, h2, h3⟩ := checkE_zero.1 h
  exact checkE_zero.2 ⟨h1, by rw [part_length one (List.getElem?_eq_some_iff.1 hr).1]; exact h2, part_ok hr hs h3⟩
theorem fullB_at {cl : List Int} {S : List Mt} {d : Bool} (h : fullB cl S d = true) {a b : Int} (ha : a ∈ cl) (hb : b ∈ cl) (hab : a ≠ b) : okPair S d a b = true := by
  obtain ⟨i, hi, ea⟩ := List.mem_iff_getElem.1 ha
  obtain ⟨k, hk, eb⟩ := List.mem_iff_getElem.1 hb
  have gi : cl.getD i 0 = a := by rw [List.getD_eq_getElem?_getD, List.getElem?_eq_getElem hi, ea]; rfl
  have gk : cl.getD k 0 = b := by rw [List.getD_eq_getElem?_getD, List.getElem?_eq_getElem hk, eb]; rfl
  have hik : i ≠ k := fun e => hab (by rw [← gi, ← gk, e])
  unfold fullB at h
  rcases Nat.lt_or_gt_of_ne hik with hlt | hlt
  · have := List.all_eq_true.1 (List.all_eq_true.1 h k (List.mem_range.2 hk)) i (List.mem_range.2 hlt)
    rw [gi, gk] at this
    rw [← okPair_comm]; exact this
  · have := List.all_eq_true.1 (List.all_eq_true.1 h i (List.mem_range.2 hi)) k (List.mem_range.2 hlt)
    rwa [gi, gk] at this
/-- A full list is not full any more without a match. -/
theorem part_not_full {cl : List Int} {ls : List (List Mt)} {r k : Nat} {l : List Mt} {x : Mt} (d : Bool) (hr : ls[r]? = some l) (hk : l[k]? = some x) (h : checkE cl ls = 0) :
    (fullR cl ls d && fullR cl (partL ls r (l.take k ++ l.drop (k + 1))) d) = false := by
  obtain ⟨-, -, hok⟩ := checkE_zero.1 h
  obtain ⟨g1, g2, g3⟩ := okL_iff.1 hok
  have hl := List.mem_of_getElem? hr
  have hx := List.mem_of_getElem? hk
  have hc := cut_at hr
  have hck := cut_at hk
  have hone : (l.take k ++ l.drop (k + 1)).Sublist l := by
    conv => rhs; rw [hck]
    exact List.Sublist.append (List.Sublist.refl _) (List.sublist_cons_self _ _)
  have hsub := (part_flat hr hone).subset
  have hin : x ∈ ls.flatten := List.mem_flatten.2 ⟨l, hl, hx⟩
  have hout : x ∉ (partL ls r (l.take k ++ l.drop (k + 1))).flatten := by
    have hp : ls.flatten.Perm (x :: (partL ls r (l.take k ++ l.drop (k + 1))).flatten) := by
      have e1 : ls.flatten = (ls.take r).flatten ++ (l.take k ++ x :: l.drop (k + 1)) ++ (ls.drop (r + 1)).flatten := by
        conv => lhs; rw [hc]
        rw [List.flatten_append, List.flatten_cons, ← hck, List.append_assoc]
      have e2 : (partL ls r (l.take k ++ l.drop (k + 1))).flatten = (ls.take r).flatten ++ (l.take k ++ l.drop (k + 1)) ++ (ls.drop (r + 1)).flatten := by
        unfold partL
        simp
      rw [e1, e2]
      simp only [List.append_assoc, List.cons_append]
      rw [← List.append_assoc, ← List.append_assoc (ls.take r).flatten]
      exact List.perm_middle
    have hn := hp.nodup_iff.1 g2
    exact (List.nodup_cons.1 hn).1
  have hne := busy_ne (g1 l hl) hx
  obtain ⟨ha, hb⟩ := g3 l hl x hx
  cases hf : fullR cl ls d with
  | false => rfl
  | true =>
    cases hf2 : fullR cl (partL ls r (l.take k ++ l.drop (k + 1))) d with
    | false => rfl
    | true =>
      unfold fullR at hf hf2
      rw [Bool.and_eq_true] at hf hf2
      have p1 := fullB_at hf.2 ha hb hne
      have p2 := fullB_at hf2.2 ha hb hne
      generalize (partL ls r (l.take k ++ l.drop (k + 1))).flatten = S' at *
      unfold okPair at p1 p2
      cases d
      · simp only [Bool.false_eq_true, if_false] at p1 p2
        rw [decide_eq_true hin] at p1
        rw [decide_eq_false hout] at p2
        have q2 : (x.2, x.1) ∈ S' := by simpa using p2
        have := hsub q2
        rw [decide_eq_true this] at p1
        simp at p1
      · simp only [if_true, Bool.and_eq_true, decide_eq_true_eq] at p2
        exact absurd p2.1 hout
end Fix
theorem rowV_take : ∀ (hs : List (Option Addr × Nat)) (ls : List (List (Int × Int))) (k : Nat), rowV (hs.take k) (ls.take k) = (rowV hs ls).take k
  | h :: hs, l :: ls, 0 => by simp [rowV]
  | h :: hs, l :: ls, k + 1 => by simp only [List.take_succ_cons, rowV]; rw [rowV_take hs ls k]
  | [], _, k => by simp [rowV]
  | h :: hs, [], k => by cases k <;> simp [rowV]
theorem rowV_drop : ∀ (hs : List (Option Addr × Nat)) (ls : List (List (Int × Int))) (k : Nat), hs.length = ls.length → rowV (hs.drop k) (ls.drop k) = (rowV hs ls).drop k
  | h :: hs, l :: ls, 0, _ => rfl
  | h :: hs, l :: ls, k + 1, e => by simp only [List.drop_succ_cons, rowV]; exact rowV_drop hs ls k (by simpa using e)
  | [], [], k, _ => by simp [rowV]
  | [], _ :: _, _, e => by simp at e
  | _ :: _, [], _, e => by simp at e
theorem rowV_append : ∀ (hs : List (Option Addr × Nat)) (ls : List (List (Int × Int))) (gs : List (Option Addr × Nat)) (ms : List (List (Int × Int))), hs.length = ls.length → rowV (hs ++ gs) (ls ++ ms) = rowV hs ls ++ rowV gs ms
  | [], [], _, _, _ => rfl
  | h :: hs, l :: ls, gs, ms, e => by simp only [List.cons_append, rowV]; rw [rowV_append hs ls gs ms (by simpa using e)]
  | [], _ :: _, _, _, e => by simp at e
  | _ :: _, [], _, _, e => by simp at e
/-- Headers and the rounds behind them. -/
def HeadsC (w : World) (hs : List (Option Addr × Nat)) (ls : List (List (Int × Int))) : Prop :=
  hs.length = ls.length ∧ ∀ (k : Nat) (h : Option Addr × Nat) (l : List (Int × Int)), hs[k]? = some h → ls[k]? = some l → l.length ≤ h.2 ∧ h.2 ≤ maxLen ∧ IvC w h.1 l
theorem HeadsC.below {w w' : World} {hs : List (Option Addr × Nat)} {ls : List (List (Int × Int))} (h : HeadsC w hs ls) (hb : Below w.heap.size w w') : HeadsC w' hs ls := ⟨h.1, fun k x l e1 e2 => ⟨(h.2 k x l e1 e2).1, (h.2 k x l e1 e2).2.1, (h.2 k x l e1 e2).2.2.below hb⟩⟩
theorem HeadsC.take {w : World} {hs : List (Option Addr × Nat)} {ls : List (List (Int × Int))} (h : HeadsC w hs ls) (n : Nat) : HeadsC w (hs.take n) (ls.take n) := by
  refine ⟨by rw [List.length_take, List.length_take, h.1], fun k x l e1 e2 => ?_⟩
  rw [List.getElem?_take] at e1 e2
  by_cases hk : k < n
  · rw [if_pos hk] at e1 e2; exact h.2 k x l e1 e2
  · rw [if_neg hk] at e1; cases e1
theorem HeadsC.drop {w : World} {hs : List (Option Addr × Nat)} {ls : List (List (Int × Int))} (h : HeadsC w hs ls) (n : Nat) : HeadsC w (hs.drop n) (ls.drop n) := by
  refine ⟨by rw [List.length_drop, List.length_drop, h.1], fun k x l e1 e2 => ?_⟩
  rw [List.getElem?_drop] at e1 e2
  exact h.2 _ x l e1 e2
theorem HeadsC.append {w : World} {hs gs : List (Option Addr × Nat)} {ls ms : List (List (Int × Int))} (h : HeadsC w hs ls) (g : HeadsC w gs ms) : HeadsC w (hs ++ gs) (ls ++ ms) := by
  refine ⟨by rw [List.length_append, List.length_append, h.1, g.1], fun k x l e1 e2 => ?_⟩
  by_cases hk : k < hs.length
  · rw [List.getElem?_append_left hk] at e1
    rw [List.getElem?_append_left (by rw [← h.1]; exact hk)] at e2
    exact h.2 k x l e1 e2
  · rw [List.getElem?_append_right (by omega)] at e1
    rw [List.getElem?_append_right (by rw [← h.1]; omega), ← h.1] at e2
    exact g.2 _ x l e1 e2
theorem HeadsC.one {w : World} {A : Option Addr} {c : Nat} {l : List (Int × Int)} (h1 : l.length ≤ c) (h2 : c ≤ maxLen) (h : IvC w A l) : HeadsC w [(A, c)] [l] := by
  refine ⟨rfl, fun k x m e1 e2 => ?_⟩
  match k, e1, e2 with
  | 0, e1, e2 => simp at e1 e2; subst e1; subst e2; exact ⟨h1, h2, h⟩
  | k + 1, e1, _ => simp at e1
theorem HeadsC.rounds {w : World} {A : Option Addr} {hs : List (Option Addr × Nat)} {ls : List (List (Int × Int))} (h : HeadsC w hs ls) (hC : Cells w A (rowV hs ls)) : RoundsC w A ls := ⟨hs, h.1, hC, h.2⟩
end Go.Proofs.Ytpmkebejfnflfaa
