/- Walks and plain laws that the statement rests on: Set. -/
import Derived.Maps.OwnSet
import Derived.Maps.StringElems
import Derived.Test.YtkflpoiobpblhaaGreatP00
import Derived.Test.YtkflpoiobpblhaaGreatP01
import Derived.Test.YtkflpoiobpblhaaGreatPS
namespace Go.Proofs.YtkflpoiobpblhaaGreat
open Go.RowKit Go.Maps Go.WideMaps Go.WideElems Go.ChangeMaps
def BoolSet (P : Program) (k e : TypeId) (w : World) (M : Nat) (S : List (List UInt8)) : Prop :=
 ∃ (D : DataW Unit) (n : Nat), w.ownsMap P k (plainElem P e) M n D ∧ n ≤ S.length ∧ size D = S.length ∧ S.Nodup ∧ ∀ (key : List UInt8) (z : DataW Unit), D.atKey (.string key) z = if key ∈ S then .lit (.bool true) else z
section
variable {P : Program} {k e t : TypeId} {w : World} {M : Nat} {S : List (List UInt8)}
theorem BoolSet.made (w : World) : BoolSet P k e (w.alloc (.map #[] 0)) w.heap.size [] :=
 ⟨.map [], 0, World.ownsMap_made w P k _, Nat.le_refl _, rfl, List.nodup_nil, fun _ _ => by simp [DataW.atKey]⟩
theorem BoolSet.lt (h : BoolSet P k e w M S) : M < w.heap.size := by
 obtain ⟨D, n, ho, _⟩ := h
 exact ho.lt
theorem BoolSet.grown {w' : World} {row : Option Nat} (h : BoolSet P k e w M S) (hg : w.grownBy w' row) (hne : some M ≠ row) : BoolSet P k e w' M S := by
 obtain ⟨D, n, ho, r⟩ := h
 exact ⟨D, n, ho.kept hg hne, r⟩
theorem BoolSet.below {w' : World} (h : BoolSet P k e w M S) (hb : Below w.heap.size w w') : BoolSet P k e w' M S := h.grown (grown_of_below hb none) (by simp)
theorem BoolSet.setCell (h : BoolSet P k e w M S) {a : Addr} (ha : M ≠ a.block) (u : Value) : BoolSet P k e (w.setCell a u) M S := by
 obtain ⟨D, n, ho, r⟩ := h
 exact ⟨D, n, ho.setCell ha u, r⟩
theorem plainElem_bool_inv (he : P.underlying e = some .bool) {v : Value} {b : Bool} {ps : List MemPlace} (h : plainElem (H := Unit) P e v = some (.lit (.bool b), ps)) : v = .bool b := by
 cases v with
 | bool x =>
   rw [plainElem_bool he] at h
   simp at h
   rw [h.1]
 | _ => simp [plainElem, he] at h
theorem BoolSet.look (h : BoolSet P k e w M S) (hk : P.underlying k = some .string) (ht : P.underlying t = some (.map k e)) (he : P.underlying e = some .bool) (hz : (zeroValue e).run P w = .ok (.bool false) w)
    (s : ByteArray) (hs : s.size ≤ maxLen) : (Instr.lookup t (.map (some M)) (.string s) false).run P w = .ok (.bool (decide (s.data.toList ∈ S))) w := by
 obtain ⟨D, n, ho, _, _, _, hat⟩ := h
 obtain ⟨v, ps, hrun, hv⟩ := ho.lookup (string_keyed hk) ht hz (plainElem_bool he false) (keyOf_string_mk hk hs)
 rw [hat] at hv
 rw [hrun]
 by_cases hm : s.data.toList ∈ S
 · rw [if_pos hm] at hv
   rw [plainElem_bool_inv he hv, decide_eq_true hm]
 · rw [if_neg hm] at hv
   rw [plainElem_bool_inv he hv, decide_eq_false hm]
theorem BoolSet.store (h : BoolSet P k e w M S) (hk : P.underlying k = some .string) (ht : P.underlying t = some (.map k e)) (he : P.underlying e = some .bool)
    (s : ByteArray) (hs : s.size ≤ maxLen) (hS : S.length < maxLen) (hnew : s.data.toList ∉ S) : ∃ w', (Instr.mapUpdate t (.map (some M)) (.string s) (.bool true)).run P w = .ok () w' ∧ BoolSet P k e w' M (S ++ [s.data.toList]) ∧ w.grownBy w' (some M) := by
 obtain ⟨D, n, ho, hn, hsz, hnd, hat⟩ := h
 obtain ⟨w', hrun, ho', hg⟩ := ho.update (string_keyed hk) ht (by omega) (keyOf_string_mk hk hs) (plainElem_bool he true)
 have hnh : has D (.string s.data.toList) = false := has_false_of_atKey fun z => by rw [hat, if_neg hnew]
 refine ⟨w', hrun, ⟨_, _, ho', by simp; omega, ?_, ?_, ?_⟩, hg⟩
 · rw [size_put (ho.tidy (string_keyed hk)), hnh]
   simp [hsz]
 · rw [List.nodup_append]
   exact ⟨hnd, by simp, fun a ha b hb e => hnew (by simp at hb; subst hb; subst e; exact ha)⟩
 · intro key z
   by_cases hke : key = s.data.toList
   · subst hke
     rw [atKey_put_same ho.isMap (by trivial), if_pos (by simp)]
   · rw [atKey_put_other (by intro e; injection e with e; exact hke e), hat]
     simp [hke]
theorem BoolSet.len (h : BoolSet P k e w M S) (ht : P.underlying t = some (.map k e)) (ty : TypeId) : (Builtin.len_ #[t] ty #[.map (some M)]).run P w = .ok (.int .i64 S.length) w := by
 obtain ⟨D, n, ho, _, hsz, _⟩ := h
 rw [ho.len ht ty, hsz]
end
end Go.Proofs.YtkflpoiobpblhaaGreat
