/- Walks and plain laws that the statement rests on: MSm, MEq. -/
import Derived.Shelf.Bytes.SlEqualAll
import Derived.Shelf.Lay
import Derived.Test.YtkflpoiobpblhaaGreatP00
import Derived.Test.YtkflpoiobpblhaaGreatP02
namespace Go.Proofs.YtkflpoiobpblhaaGreat
open Go.RowKit Go.Shelf
set_option linter.unusedVariables false
set_option linter.unusedSimpArgs false
def Tryz.bytesEqual_ren : Go.Shelf.Ren := ⟨fun | 115 => 94 | n => n, fun | 4 => 4 | 9 => 9 | 37 => 22 | 5 => 5 | n => n, fun | n => n⟩
theorem Tryz.bytesEqual : Go.Proofs.Lays.nb115 Tryz.prog Tryz.bytesEqual_ren := {
 mixed := by kernel_rfl
 f115 := Tryz.func94.trans (congrArg some (by kernel_rfl))
 t4 := Tryz.underlying4
 a4 := Tryz.isAgg4
 z4 := Tryz.sizeOf4
 v4 := Tryz.zeroValue4
 t9 := Tryz.underlying9
 a9 := Tryz.isAgg9
 z9 := Tryz.sizeOf9
 v9 := Tryz.zeroValue9
 t37 := Tryz.underlying22
 a37 := Tryz.isAgg22
 z37 := Tryz.sizeOf22
 v37 := Tryz.zeroValue22
 t5 := Tryz.underlying5
 a5 := Tryz.isAgg5
 z5 := Tryz.sizeOf5
 v5 := Tryz.zeroValue5 }
namespace Mir
def manyB (n : Int) : Bool := decide (1 ≤ n) && decide (n ≤ 4096)
end Mir
set_option maxHeartbeats 4000000 in
theorem isMany_any (n : Int) (w : World) : Calls Tryz.prog 48 #[.int .i64 n] w fun e w' => e = .returned (.bool (Mir.manyB n)) ∧ w = w' := by
 unfold Mir.manyB
 by_cases h1 : (1 : Int) ≤ n
 · have d1 : decide ((1 : Int) ≤ n) = true := by simpa using h1
   rw [d1]
   go_enter Tryz.func48, Tryz.ntmps48
   go_wp2_with (fail)
   go_ret
   exact ⟨rfl, rfl⟩
 · have d1 : decide ((1 : Int) ≤ n) = false := by simpa using h1
   rw [d1]
   go_enter Tryz.func48, Tryz.ntmps48
   go_wp2_with (fail)
   go_ret
   exact ⟨rfl, rfl⟩
set_option maxHeartbeats 4000000 in
theorem chName_any (s : ByteArray) (A : Option Addr) (n c : Nat) (g : Bool) (w : World) : Calls Tryz.prog 107 #[.agg #[.string s, .slice A n c, .bool g]] w fun e w' => e = .returned (.string s) ∧ Below w.heap.size w w' := by
 go_enter Tryz.func107, Tryz.ntmps107
 go_wp2_with (fail)
 go_ret
 exact ⟨rfl, (Below.refl _ _).alloc (Nat.le_refl _) _⟩
end Go.Proofs.YtkflpoiobpblhaaGreat
namespace Go.Proofs.YtkflpoiobpblhaaGreat
open Go.RowKit Go.Shelf
set_option linter.unusedVariables false
set_option linter.unusedSimpArgs false
theorem bytesIn_of {w : World} {A : Option Addr} {d : List Nat} (h : Cells w A (Mir.bytesI d)) : Lib.BytesIn w A d.length (d.map Int.ofNat) := by
 intro hl
 obtain ⟨b, o, rfl, -, hc⟩ := Cells.addr h (by rw [Mir.bytesI, List.length_map]; exact hl)
 refine ⟨b, o, rfl, fun i hi => ?_⟩
 rw [hc i (.int .u8 ((d.map Int.ofNat).getD i 0)) ?_]
 unfold Mir.bytesI
 rw [List.getElem?_map, List.getD_eq_getElem?_getD, List.getElem?_map, List.getElem?_eq_getElem hi]
 rfl
theorem bytesOf_eq : ∀ {a b : List Nat}, (∀ x ∈ a, x < 256) → (∀ x ∈ b, x < 256) → (Lib.bytesOf (a.map Int.ofNat) == Lib.bytesOf (b.map Int.ofNat)) = decide (a = b)
 | [], [], _, _ => rfl
 | [], _ :: _, _, _ => rfl
 | _ :: _, [], _, _ => rfl
 | x :: a, y :: b, ha, hb => by
   have ih := bytesOf_eq (a := a) (b := b) (fun x h => ha x (by simp [h])) (fun x h => hb x (by simp [h]))
   have hx := ha x (by simp)
   have hy := hb y (by simp)
   unfold Lib.bytesOf at ih ⊢
   simp only [List.map_cons, List.cons_beq_cons, ih]
   have e : (UInt8.ofNat (Int.ofNat x).toNat == UInt8.ofNat (Int.ofNat y).toNat) = decide (x = y) := by
    simp only [Int.ofNat_eq_natCast, Int.toNat_natCast]
    by_cases h : x = y
    · subst h; simp
    · have : UInt8.ofNat x ≠ UInt8.ofNat y := fun h' => h (by
        have := congrArg UInt8.toNat h'
        simp only [UInt8.toNat_ofNat'] at this
        omega)
      simp [h, this]
   rw [e]
   by_cases h1 : x = y <;> by_cases h2 : a = b <;> simp [h1, h2]
namespace Mir
def itEq (x y : It) : Bool := decide (x.1 = y.1) && decide (x.2 = y.2)
end Mir
set_option maxRecDepth 100000 in
theorem bytesEq_any (A B : Option Addr) (c d : Nat) (x y : List Nat) (w : World) (hA : Cells w A (Mir.bytesI x)) (hB : Cells w B (Mir.bytesI y)) (h1 : ∀ b ∈ x, b < 256) (h2 : ∀ b ∈ y, b < 256) :
    Calls Tryz.prog 94 #[.slice A x.length c, .slice B y.length d] w fun e w' => e = .returned (.bool (decide (x = y))) ∧ w = w' := by
 have hcon := Any.bytes_Equal_all Tryz.bytesEqual A B x.length c y.length d (x.map Int.ofNat) (y.map Int.ofNat) w (by simp) (by simp) (bytesIn_of hA) (bytesIn_of hB)
 rw [bytesOf_eq h1 h2] at hcon
 change Calls Tryz.prog 94 _ _ _ at hcon
 refine hcon.mono ?_
 rintro e w' ⟨rfl, rfl⟩
 exact ⟨rfl, rfl⟩
set_option maxHeartbeats 4000000 in
theorem equal_any (s t : ByteArray) (A B : Option Addr) (c d : Nat) (x y : List Nat) (w : World) (hA : Cells w A (Mir.bytesI x)) (hB : Cells w B (Mir.bytesI y)) (h1 : ∀ b ∈ x, b < 256) (h2 : ∀ b ∈ y, b < 256) :
    Calls Tryz.prog 55 #[.agg #[.string s, .slice A x.length c], .agg #[.string t, .slice B y.length d]] w fun e w' => e = .returned (.bool (Mir.itEq (s, x) (t, y))) ∧ Below w.heap.size w w' := by
 have H := Lib.hid (fun W hA hB => bytesEq_any A B c d x y W hA hB h1 h2)
 have HA := Lib.hid hA
 have HB := Lib.hid hB
 clear hA hB h1 h2
 unfold Mir.itEq
 by_cases h : s = t
 · have d1 : decide (s = t) = true := by simpa using h
   rw [d1, Bool.true_and]
   subst h
   clear d1
   generalize decide (x = y) = q at *
   go_enter Tryz.func55, Tryz.ntmps55
   go_wp2_with (fail)
   generalize hge : World.alloc _ _ = w1
   have hb : Below w.heap.size w w1 := by subst hge; exact ((Below.refl _ _).alloc (Nat.le_refl _) _).alloc (by simp) _
   refine (H.out w1 (HA.out.below hb) (HB.out.below hb)).mono ?_
   clear hge
   rintro e w2 ⟨rfl, rfl⟩
   cases q
   · go_wp2_with (fail)
     go_ret
     exact ⟨rfl, hb⟩
   · go_wp2_with (fail)
     go_ret
     exact ⟨rfl, hb⟩
 · have d1 : decide (s = t) = false := by simpa using h
   rw [d1]
   have hne : ¬s.toList = t.toList := fun h' => h (by
    rw [ByteArray.toList_eq, ByteArray.toList_eq] at h'
    exact ByteArray.ext (Array.ext' h'))
   clear h d1
   go_enter Tryz.func55, Tryz.ntmps55
   go_wp2_with (fail)
   go_ret
   exact ⟨rfl, ((Below.refl _ _).alloc (Nat.le_refl _) _).alloc (by simp) _⟩
end Go.Proofs.YtkflpoiobpblhaaGreat
