/- Walks and plain laws that the statement rests on: ClimbP. -/
import Derived.Stop.BytesEq
import Derived.Test.YtkflpoiobpblhaaGreatP00
import Derived.Test.YtkflpoiobpblhaaGreatP12
namespace Go.Proofs.YtkflpoiobpblhaaGreat
open Go.RowKit
def dirsS (at_ n : Nat) : List Bool :=
 if _h : 2 ≤ n then decide (at_ < halfN n) :: (if at_ < halfN n then dirsS at_ (halfN n) else dirsS (at_ - halfN n) (n - halfN n)) else []
termination_by n
decreasing_by
 · exact half_lt ‹_›
 · have := half_pos n; omega
theorem dirsS_one (at_ n : Nat) (h : n ≤ 1) : dirsS at_ n = [] := by rw [dirsS]; simp; omega
theorem dirsS_lo {at_ n : Nat} (h : 2 ≤ n) (hk : at_ < halfN n) : dirsS at_ n = true :: dirsS at_ (halfN n) := by rw [dirsS]; simp [h, hk]
theorem dirsS_hi {at_ n : Nat} (h : 2 ≤ n) (hk : ¬ at_ < halfN n) : dirsS at_ n = false :: dirsS (at_ - halfN n) (n - halfN n) := by rw [dirsS]; simp [h, hk]
theorem dirsS_lt : ∀ (n at_ : Nat), 1 ≤ n → (dirsS at_ n).length < n := by
 intro n
 induction n using Nat.strongRecOn with
 | _ n ih =>
   intro at_ h1
   by_cases h : 2 ≤ n
   · have hp := half_pos n
     have hl := half_lt h
     by_cases hk : at_ < halfN n
     · rw [dirsS_lo h hk, List.length_cons]
       have := ih (halfN n) hl at_ hp
       omega
     · rw [dirsS_hi h hk, List.length_cons]
       have := ih (n - halfN n) (by omega) (at_ - halfN n) (by omega)
       omega
   · rw [dirsS_one _ _ (by omega)]; simp; omega
def climbStep (x : List Nat) (b : Bool) (o : List Nat) : List Nat := if b then nodeS x o else nodeS o x
def climbF (x : List Nat) : List Bool → List (List Nat) → List Nat
 | b :: bs, o :: os => climbF (climbStep x b o) bs os
 | _, _ => x
theorem climbStep_isD (x : List Nat) (b : Bool) (o : List Nat) : IsD (climbStep x b o) := by unfold climbStep; split <;> exact nodeS_isD _ _
theorem climbF_isD : ∀ (bs : List Bool) (os : List (List Nat)) (x : List Nat), IsD x → IsD (climbF x bs os)
 | [], _, _, h => h
 | _ :: _, [], _, h => h
 | b :: bs, o :: os, x, _ => climbF_isD bs os _ (climbStep_isD x b o)
theorem climbF_snoc : ∀ (bs : List Bool) (os : List (List Nat)) (x : List Nat) (b : Bool) (o : List Nat), bs.length = os.length → climbF x (bs ++ [b]) (os ++ [o]) = climbStep (climbF x bs os) b o
 | [], [], _, _, _, _ => rfl
 | _ :: bs, _ :: os, x, b, o, h => climbF_snoc bs os _ b o (by simpa using h)
 | [], _ :: _, _, _, _, h => by simp at h
 | _ :: _, [], _, _, _, h => by simp at h
def climbS (d : List Nat) (at_ n : Nat) (p : List (List Nat)) : List Nat := climbF (leafS d) (dirsS at_ n).reverse p
theorem climbS_isD (d : List Nat) (at_ n : Nat) (p : List (List Nat)) : IsD (climbS d at_ n p) := climbF_isD _ _ _ (leafS_isD d)
theorem climbS_one (d : List Nat) (at_ : Nat) (p : List (List Nat)) : climbS d at_ 1 p = leafS d := by unfold climbS; rw [dirsS_one _ _ (by omega)]; rfl
theorem climbS_lo {d : List Nat} {at_ n : Nat} (h : 2 ≤ n) (hk : at_ < halfN n) (p : List (List Nat)) (o : List Nat) (hp : p.length = (dirsS at_ (halfN n)).length) : climbS d at_ n (p ++ [o]) = nodeS (climbS d at_ (halfN n) p) o := by
 unfold climbS
 rw [dirsS_lo h hk, List.reverse_cons, climbF_snoc _ _ _ _ _ (by simp [hp])]
 rfl
theorem climbS_hi {d : List Nat} {at_ n : Nat} (h : 2 ≤ n) (hk : ¬ at_ < halfN n) (p : List (List Nat)) (o : List Nat) (hp : p.length = (dirsS (at_ - halfN n) (n - halfN n)).length) : climbS d at_ n (p ++ [o]) = nodeS o (climbS d (at_ - halfN n) (n - halfN n) p) := by
 unfold climbS
 rw [dirsS_hi h hk, List.reverse_cons, climbF_snoc _ _ _ _ _ (by simp [hp])]
 rfl
def okClimb (at_ n : Int) (m : Nat) : Bool := decide (1 ≤ n ∧ n ≤ 1099511627776 ∧ 0 ≤ at_ ∧ at_ < n) && decide (m = (dirsS at_.toNat n.toNat).length)
def climbR (d : List Nat) (at_ n : Int) (p : List (List Nat)) : List Nat := if okClimb at_ n p.length then climbS d at_.toNat n.toNat p else z32
theorem climbR_isD (d : List Nat) (at_ n : Int) (p : List (List Nat)) : IsD (climbR d at_ n p) := by
 unfold climbR
 split
 · exact climbS_isD _ _ _ _
 · exact z32_isD
def errArg (b : Bool) : Int := if b then 0 else 1
def pathS (l : List (List Nat)) (at_ : Nat) : List (List Nat) :=
 if _h : 2 ≤ l.length then (if at_ < halfN l.length then pathS (l.take (halfN l.length)) at_ ++ [treeS (l.drop (halfN l.length))] else pathS (l.drop (halfN l.length)) (at_ - halfN l.length) ++ [treeS (l.take (halfN l.length))]) else []
termination_by l.length
decreasing_by
 · simp only [List.length_take]; have := half_lt ‹_›; omega
 · simp only [List.length_drop]; have := half_pos l.length; omega
theorem pathS_one {l : List (List Nat)} (at_ : Nat) (h : l.length ≤ 1) : pathS l at_ = [] := by rw [pathS]; simp; omega
theorem pathS_lo {l : List (List Nat)} {at_ : Nat} (h : 2 ≤ l.length) (hk : at_ < halfN l.length) : pathS l at_ = pathS (l.take (halfN l.length)) at_ ++ [treeS (l.drop (halfN l.length))] := by rw [pathS]; simp [h, hk]
theorem pathS_hi {l : List (List Nat)} {at_ : Nat} (h : 2 ≤ l.length) (hk : ¬ at_ < halfN l.length) : pathS l at_ = pathS (l.drop (halfN l.length)) (at_ - halfN l.length) ++ [treeS (l.take (halfN l.length))] := by rw [pathS]; simp [h, hk]
theorem pathS_isL : ∀ (m : Nat) (l : List (List Nat)) (at_ : Nat), l.length = m → IsL (pathS l at_) := by
 intro m
 induction m using Nat.strongRecOn with
 | _ m ih =>
   intro l at_ hl
   by_cases h : 2 ≤ l.length
   · have h1 := half_lt h
     have h2 := half_pos l.length
     by_cases hk : at_ < halfN l.length
     · rw [pathS_lo h hk]
       intro d hd
       rcases List.mem_append.1 hd with hd | hd
       · exact ih (halfN l.length) (by omega) (l.take (halfN l.length)) at_ (by rw [List.length_take]; exact Nat.min_eq_left (Nat.le_of_lt h1)) d hd
       · rw [List.mem_singleton] at hd; subst hd; exact treeS_isD _
     · rw [pathS_hi h hk]
       intro d hd
       rcases List.mem_append.1 hd with hd | hd
       · exact ih (l.length - halfN l.length) (by omega) (l.drop (halfN l.length)) _ (by rw [List.length_drop]) d hd
       · rw [List.mem_singleton] at hd; subst hd; exact treeS_isD _
   · rw [pathS_one _ (by omega)]; intro d hd; simp at hd
theorem pathS_length : ∀ (m : Nat) (l : List (List Nat)) (at_ : Nat), l.length = m → (pathS l at_).length = (dirsS at_ m).length := by
 intro m
 induction m using Nat.strongRecOn with
 | _ m ih =>
   intro l at_ hl
   by_cases h : 2 ≤ m
   · have h1 := half_lt h
     have h2 := half_pos m
     by_cases hk : at_ < halfN m
     · rw [pathS_lo (by omega) (by rw [hl]; exact hk), hl, List.length_append, ih _ h1 (l.take (halfN m)) at_ (by rw [List.length_take, hl]; omega), dirsS_lo h hk]
       simp
     · rw [pathS_hi (by omega) (by rw [hl]; exact hk), hl, List.length_append, ih (m - halfN m) (by omega) (l.drop (halfN m)) _ (by rw [List.length_drop, hl]), dirsS_hi h hk]
       simp
   · rw [pathS_one _ (by omega), dirsS_one _ _ (by omega)]; rfl
theorem climb_path : ∀ (m : Nat) (l : List (List Nat)) (at_ : Nat) (d : List Nat), l.length = m → l[at_]? = some d → climbS d at_ m (pathS l at_) = treeS l := by
 intro m
 induction m using Nat.strongRecOn with
 | _ m ih =>
   intro l at_ d hl hd
   have hat : at_ < m := by rw [← hl]; exact (List.getElem?_eq_some_iff.1 hd).1
   by_cases h : 2 ≤ m
   · have h1 := half_lt h
     have h2 := half_pos m
     have ht := treeS_two (l := l) (by omega)
     rw [hl] at ht
     by_cases hk : at_ < halfN m
     · rw [pathS_lo (by omega) (by rw [hl]; exact hk), hl, climbS_lo h hk _ _ (pathS_length _ _ _ (by rw [List.length_take, hl]; omega)), ht,
         ih _ h1 (l.take (halfN m)) at_ d (by rw [List.length_take, hl]; omega) (by rw [List.getElem?_take, if_pos hk]; exact hd)]
     · rw [pathS_hi (by omega) (by rw [hl]; exact hk), hl, climbS_hi h hk _ _ (pathS_length _ _ _ (by rw [List.length_drop, hl])), ht,
         ih (m - halfN m) (by omega) (l.drop (halfN m)) (at_ - halfN m) d (by rw [List.length_drop, hl]) (by rw [List.getElem?_drop, show halfN m + (at_ - halfN m) = at_ by omega]; exact hd)]
   · have hm : m = 1 := by omega
     subst hm
     match l, hl with
     | [x], _ =>
       have ha : at_ = 0 := by omega
       subst ha
       have hx : x = d := by simpa using hd
       rw [climbS_one, treeS_one, hx]
theorem cell_ofNat {d : List Nat} (h : ByteL d) : arrK .u8 d = ((d.map UInt8.ofNat).map Extern.Stop.cell).toArray := by
 unfold arrK
 congr 1
 rw [List.map_map]
 apply List.map_congr_left
 intro x hx
 obtain ⟨i, hi, he⟩ := List.mem_iff_getElem.1 hx
 have := h i
 rw [List.getD_eq_getElem?_getD, List.getElem?_eq_getElem hi, he] at this
 simp at this
 simp [Extern.Stop.cell, Nat.mod_eq_of_lt this]
theorem ofNat_inj {a b : List Nat} (ha : ByteL a) (hb : ByteL b) (hl : a.length = b.length) : (a.map UInt8.ofNat == b.map UInt8.ofNat) = decide (a = b) := by
 rw [Bool.eq_iff_iff, beq_iff_eq, decide_eq_true_eq]
 refine ⟨fun h => ?_, fun h => by rw [h]⟩
 apply List.ext_getElem hl
 intro i h1 h2
 have e : (a.map UInt8.ofNat)[i]? = (b.map UInt8.ofNat)[i]? := by rw [h]
 rw [List.getElem?_map, List.getElem?_map, List.getElem?_eq_getElem h1, List.getElem?_eq_getElem h2] at e
 have ha' := ha i
 have hb' := hb i
 rw [List.getD_eq_getElem?_getD, List.getElem?_eq_getElem h1] at ha'
 rw [List.getD_eq_getElem?_getD, List.getElem?_eq_getElem h2] at hb'
 simp at ha' hb' e
 have := congrArg UInt8.toNat e
 simpa [Nat.mod_eq_of_lt ha', Nat.mod_eq_of_lt hb'] using this
theorem run_eqD {a b : List Nat} (ha : IsD a) (hb : IsD b) (w : World) : (Op.equalIn 10000 29 (.agg (arrK .u8 a)) (.agg (arrK .u8 b))).run Tryz.prog w = .ok (decide (a = b)) w := by
 rw [cell_ofNat ha.2, cell_ofNat hb.2, run_equalIn_bytes w 9998 29 5 32 (by kernel_rfl) (by kernel_rfl) (fun w => by kernel_rfl) _ _ (by rw [List.length_map, ha.1]) (by rw [List.length_map, hb.1]), ofNat_inj ha.2 hb.2 (by rw [ha.1, hb.1])]
attribute [irreducible] climbF climbStep climbS climbR okClimb errArg
end Go.Proofs.YtkflpoiobpblhaaGreat
