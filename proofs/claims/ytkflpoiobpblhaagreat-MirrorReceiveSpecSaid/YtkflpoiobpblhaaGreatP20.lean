/- Walks and plain laws that the statement rests on: Sane. -/
import Derived.Laws.EntriesVeiled
import Derived.Test.YtkflpoiobpblhaaGreatP00
import Derived.Test.YtkflpoiobpblhaaGreatP14
import Derived.Test.YtkflpoiobpblhaaGreatPS
namespace Go.Proofs.YtkflpoiobpblhaaGreat
open Go.RowKit
theorem climb_any (d : List Nat) (at_ n : Int) (A : Option Addr) (m c : Nat) (p : List (List Nat)) (w : World) (hd : IsD d) (hp : p.length = m) (hP : IsL p) (hmc : m ≤ c) (hcm : c ≤ maxLen) (hA : Cells w A (bytesV p.flatten)) :
    Calls Tryz.prog 78 #[.agg (arrK .u8 d), .int .i64 at_, .int .i64 n, .slice A m c] w fun e w' =>
     e = .returned (.tuple #[.agg (arrK .u8 (climbR d at_ n p)), .int .i64 (errArg (okClimb at_ n m))]) ∧ Below w.heap.size w w' := by
 by_cases hb : 1 ≤ n ∧ n ≤ 1099511627776 ∧ 0 ≤ at_ ∧ at_ < n
 · obtain ⟨h1, h2, h3, h4⟩ := hb
   obtain ⟨n0, rfl⟩ := Int.eq_ofNat_of_zero_le (show 0 ≤ n by omega)
   obtain ⟨a0, rfl⟩ := Int.eq_ofNat_of_zero_le h3
   refine (climb_good d a0 n0 A m c p w hd (by omega) (by omega) (by omega) hp hP hmc hcm hA).mono ?_
   rintro e w' ⟨g1, g2, g3⟩
   refine ⟨?_, g3⟩
   have hall : decide ((1 : Int) ≤ (n0 : Int) ∧ (n0 : Int) ≤ 1099511627776 ∧ 0 ≤ (a0 : Int) ∧ (a0 : Int) < (n0 : Int)) = true := decide_eq_true ⟨h1, h2, h3, h4⟩
   by_cases hm : m = (dirsS a0 n0).length
   · rw [g1 hm]
     have hok : okClimb a0 n0 m = true := by unfold okClimb; rw [hall]; simp [hm]
     unfold climbR
     rw [hp, hok]
     unfold errArg; rfl
   · rw [g2 hm]
     have hok : okClimb a0 n0 m = false := by unfold okClimb; rw [hall]; simp [hm]
     unfold climbR
     rw [hp, hok]
     unfold errArg; rfl
 · refine (climb_bad d at_ n A m c w hd hb).mono ?_
   rintro e w' ⟨g1, g3⟩
   refine ⟨?_, g3⟩
   have hok : okClimb at_ n m = false := by unfold okClimb; rw [decide_eq_false hb]; rfl
   rw [g1]
   unfold climbR
   rw [hp, hok]
   unfold errArg; rfl
theorem path_none (at_ : Int) (A : Option Addr) (m c : Nat) (w : World) (h : at_ < 0 ∨ (m : Int) ≤ at_) :
    Calls Tryz.prog 58 #[.slice A m c, .int .i64 at_] w fun e w' => e = .returned (.tuple #[.slice none 0 0, .int .i64 1]) ∧ w = w' := by
 have h' : at_ < 0 ∨ (0 ≤ at_ ∧ (m : Int) ≤ at_) := by omega
 clear h
 rcases h' with h | ⟨h0, h⟩
 · go_enter Tryz.func58, Tryz.ntmps58
   go_wp2_with (fail)
   go_ret2
   exact ⟨rfl, rfl⟩
 · go_enter Tryz.func58, Tryz.ntmps58
   go_wp2_with (fail)
   go_ret2
   exact ⟨rfl, rfl⟩
theorem wpList_load_blk_g {P : Program} {w : World} {ops : Array Oper} {rest : List Oper} {o : Oper} {a : Act} {Q : Exit → Act → World → Prop} (ty : TypeId) (x : Operand) (ho : o.op = .load ty x) (hw : Region.wanted o (yielded ops a.tmps) = true)
    (g : Nat) (hx : a.eval x = .pointer (some ⟨g, 0, none⟩)) (t : TypeId) (cs : Array Value) (d : TypeDesc) (hg : Blk w g t cs)
    (hu : P.underlying ty = some d) (hd : (match d with | .struct _ | .array _ _ => true | _ => false) = true) (hi : (P.info? ty).map (·.size) = some cs.size)
    (h : wpList P ops Q rest (a.put o.dst (.agg cs)) w) : wpList P ops Q (o :: rest) a w :=
 wpList_step fun _ hK => by rw [if_pos hw]; exact wp_load_row ty x ho g hx t cs (0, 0) d hg hu hd hi (hK _ _ h)
end Go.Proofs.YtkflpoiobpblhaaGreat
