/- Short writings of lines that the walks repeat. -/
import Derived.Test.YtkflpoiobpblhaaGreatP02
import Derived.Test.YtkflpoiobpblhaaGreatP03
namespace Go.Proofs.YtkflpoiobpblhaaGreat
open Go.RowKit
theorem bo {u w v : World} (h : Hid (Below u.heap.size u w)) (h2 : Below w.heap.size w v) : Below u.heap.size u v := below_of h.out h2 h.out.size
macro "hv" x:ident t:term : tactic => `(tactic| have $x:ident := Lib.hid $t)
macro "sp" : tactic => `(tactic| try simp only [la, Act.put])
macro "gw" : tactic => `(tactic| go_wp2_with (fail))
macro "gu" n:num : tactic => `(tactic| go_upto_region $n with (fail))
macro "ob" x:ident h:ident t:term : tactic => `(tactic| obtain ⟨$x, $h⟩ : ∃ m, $t = m := ⟨_, rfl⟩)
macro "gs" : tactic => `(tactic| (go_simp; try with_reducible rfl))
macro:max "¶" : term => `(by kernel_rfl)
set_option hygiene false in
macro "ms" : tactic => `(tactic| case measure => simp [intOf]; omega)
set_option hygiene false in
macro "ck" : tactic => `(tactic| clear hK K)
notation:max x:max "§" => Array.size (World.heap x)
end Go.Proofs.YtkflpoiobpblhaaGreat
