/- The walks of the reference's padded and Sum. -/
import Derived.Test.YtcijhakofoklcaaRef2
import Derived.Test.YtcijhakofoklcaaRef3
import Derived.Test.YtcijhakofoklcaaSum
namespace Go.Proofs.Ytcijhakofoklcaa
open Go.RowKit
section
variable {P : Program} {ops : Array Oper} {w : World} {rest : List Oper} {o : Oper} {a : Act}
theorem wpStill_load_blk {Q : Act → Prop} (hgd : o.guard = none) (ty : TypeId) (x : Operand) (ho : o.op = .load ty x) (g : Nat) (hx : a.eval x = .pointer (some ⟨g, 0, none⟩)) (t : TypeId) (cs : Array Value) (d : TypeDesc) (hg : Blk w g t cs)
    (hu : P.underlying ty = some d) (hd : (match d with | .struct _ | .array _ _ => true | _ => false) = true) (hi : (P.info? ty).map (·.size) = some cs.size)
    (h : wpStill P ops w Q rest (a.put o.dst (.agg cs))) : wpStill P ops w Q (o :: rest) a := by
  refine wpStill_step fun K hK => ?_
  have hw : Region.wanted o (yielded ops a.tmps) = true := by simp [Region.wanted, hgd]
  rw [if_pos hw]
  unfold Oper.still execOp
  simp only [ho, hx, Instr.loadAt, Instr.sureAddr, Sem.run_bind, Sem.run_pure, Result.andThen_ok, run_loadVar_row w g t ty cs (0, 0) d hg hu hd hi]
  exact ⟨rfl, hK _ h⟩
end
/-- What is laid behind the bytes, as the reference lays it. -/
def padL (b : List Nat) (j : Nat) : List Nat := b ++ 6 :: List.replicate j 0
theorem padL_length (b : List Nat) (j : Nat) : (padL b j).length = b.length + 1 + j := by simp [padL]; omega
theorem padL_succ (b : List Nat) (j : Nat) : padL b (j + 1) = padL b j ++ [0] := by simp [padL, List.replicate_succ']
theorem padL_zero (b : List Nat) : padL b 0 = b ++ [6] := rfl
theorem padL_last (b : List Nat) (j : Nat) : (padL b j).getD (b.length + j) 0 = 0 ∨ (padL b j).getD (b.length + j) 0 = 6 := by
  unfold padL
  rw [List.getD_eq_getElem?_getD, List.getElem?_append_right (by omega)]
  cases j with
  | zero => right; simp
  | succ j =>
    left
    rw [show b.length + (j + 1) - b.length = j + 1 by omega, List.getElem?_cons_succ, List.getElem?_replicate]
    split <;> rfl
theorem padL_end (b : List Nat) (j : Nat) (h : 136 - b.length % 136 = j + 1) : (padL b j).set (b.length + j) ((padL b j).getD (b.length + j) 0 ^^^ 128) = msgL b := by
  have := msg_ref b (j + 1) h.symm (by omega)
  rw [Nat.add_sub_cancel, show b.length + (j + 1) - 1 = b.length + j by omega] at this
  exact this
theorem bytesV_set (b : List Nat) (i v : Nat) : (bytesV b).set i (.int .u8 (v : Int)) = bytesV (b.set i v) := by
  unfold bytesV
  rw [List.map_set]
theorem bytesV_nil : bytesV [] = [] := by unfold bytesV; rfl
theorem bytesV_snoc (b : List Nat) (v : Nat) : bytesV b ++ [.int .u8 (v : Int)] = bytesV (b ++ [v]) := by rw [bytesV_append]; congr 1; unfold bytesV; rfl
attribute [irreducible] padL
set_option maxRecDepth 100000 in
set_option maxHeartbeats 4000000 in
theorem padded_any (A : Option Addr) (n c : Nat) (b : List Nat) (w : World) (hA : Cells w A (bytesV b)) (hn : b.length = n) (hbig : n ≤ 10000000) :
    Calls Try.prog 85 #[.slice A n c] w fun e w' => ∃ A' N c', e = .returned (.slice A' N c') ∧ (msgL b).length = N ∧ w'.ownsRow w.heap.size 5 1 (.slice A' N c') N (bytesV (msgL b)) ∧ Below w.heap.size w w' := by
  have HA := Lib.hid hA
  have Hn := Lib.hid hn
  clear hA hn
  obtain ⟨k0, hk0⟩ : ∃ k, 136 - n % 136 = k + 1 := ⟨135 - n % 136, by omega⟩
  have Hk0 := Lib.hid hk0
  have hm2 : k0 ≤ 135 := by omega
  go_enter Try.func85, Try.ntmps85
  go_wp2_with (first
    | (at_builtin
       refine push1 rfl (.tmp 6) (.tmp 7) 22 rfl w.heap.size 5 (.int .u8 0) 1 (by kernel_rfl) (by kernel_rfl) rfl v1 (0 + n) ([] ++ bytesV b) (.int .u8 6) Hown1.out rfl rfl rfl (by unfold maxLen; omega) (by omega) hb1.size ?_
       intro v2 w2 hown2 hg2 _
       have hb2 := below_grown hb1 hg2 hb1.size (own_base Hown1.out)
       rw [List.nil_append, Nat.zero_add] at hown2
       have Hown2 := Lib.hid hown2
       clear hown2 hg2)
    | (at_builtin
       refine wpList_append_cells rfl (.tmp 4) (.tmp 5) 22 rfl w.heap.size 5 (.int .u8 0) 1 1 (by kernel_rfl) (by kernel_rfl) rfl (by omega) (.slice (some ⟨w.heap.size, 0, none⟩) 0 0) 0 [] (World.ownsRow_lit (size := 1) w #[] 0 (Nat.le_refl _) (Nat.zero_le _) rfl) rfl A n c (bytesV b) rfl (by rw [bytesV_length, Hn.out, Nat.mul_one]) (HA.out.alloc _) (bytesV_one _) (by unfold maxLen; omega) (by omega) (by simp) ?_
       intro v1 w1 hown1 hg1 _
       have hb1 := below_grown ((Below.refl w.heap.size w).alloc (Nat.le_refl _) (.cells #[] 5)) hg1 (by simp) (by intro k hk; simp [Value.ownBlock] at hk; omega)
       have Hown1 := Lib.hid hown1
       clear hown1 hg1))
  go_loopw [3] (fun v wr => ∃ u j : Nat, ∃ A' c', u = n + j ∧ j ≤ k0 ∧ v = .slice A' (u + 1) c' ∧ Hid (wr.ownsRow w.heap.size 5 1 (.slice A' (u + 1) c') (u + 1) (bytesV (padL b j))) ∧ Below w.heap.size w wr) (fun v _ => n + k0 + 1 - lenV v)
  case atStart =>
    obtain ⟨A2, c2, rfl, -, -, -⟩ := own_form Hown2.out
    exact ⟨n, 0, A2, c2, rfl, by omega, rfl, by
      show World.ownsRow _ _ _ _ _ _ _
      rw [padL_zero, ← bytesV_snoc]; exact Hown2.out, hb2⟩
  case round =>
    obtain ⟨u, j, A', c', hu, hj, rfl, Ho, hb⟩ := hrel
    by_cases hlt : j < k0
    · have hne : ((u : Int) + 1) % 136 ≠ 0 := by omega
      have hdn : (((u : Int) + 1) % 136 != 0) = true := by simpa using hne
      have Hu := Lib.hid hu
      have huI : (u : Int) ≤ 100000000 := by omega
      clear hne hu hk0
      go_wp2_with (at_builtin
                   refine push1 rfl (.tmp 13) (.tmp 14) 22 rfl w.heap.size 5 (.int .u8 0) 1 (by kernel_rfl) (by kernel_rfl) rfl (.slice A' (u + 1) c') (u + 1) (bytesV (padL b j)) (.int .u8 0) Ho.out rfl rfl rfl (by unfold maxLen; omega) (by omega) hb.size ?_
                   intro v2 w2 hown2 hg2 _
                   have hb2 := below_grown hb hg2 hb.size (own_base Ho.out)
                   obtain ⟨A3, c3, rfl, -, -, -⟩ := own_form hown2
                   have Hown2 := Lib.hid hown2
                   clear hown2 hg2)
      go_roundw
      case rel => exact ⟨u + 1, j + 1, A3, c3, by have := Hu.out; omega, by omega, rfl, by
        show World.ownsRow _ _ _ _ _ _ _
        rw [padL_succ, ← bytesV_snoc]; exact Hown2.out, hb2⟩
      case measure => simp [lenV]; have := Hu.out; omega
    · have hjk : Hid (j = k0) := by show j = k0; omega
      have he : ((u : Int) + 1) % 136 = 0 := by omega
      have hdn : (((u : Int) + 1) % 136 != 0) = false := by simpa using he
      obtain ⟨g, cap, hv, hgb, hgl⟩ := Ho.out.form (by omega)
      injection hv with hA' _ hc'
      subst hA'; subst hc'
      have Hu := Lib.hid hu
      have huI : (u : Int) ≤ 100000000 := by omega
      have hzz := padL_last b j
      rw [Hn.out, ← hu] at hzz
      have hend := padL_end b j (by rw [Hn.out, hjk.out]; exact hk0)
      rw [Hn.out, ← hu] at hend
      have e1 := (Ho.out.cellAt u (by omega)).trans (bytesV_get (b := padL b j) (k := u) (by rw [padL_length, Hn.out]; omega))
      have f1 := Ho.out.frozenAt u
      have hst := Ho.out.stored u (.int .u8 (((padL b j).getD u 0 ^^^ 128 : Nat) : Int))
      rw [bytesV_set, hend] at hst
      have hx := xor128 hzz
      have Hend := Lib.hid (show (msgL b).length = u + 1 by rw [← hend, List.length_set, padL_length, Hn.out]; omega)
      clear hend hzz he hu hk0
      generalize (padL b j).getD u 0 = z at *
      have Hst := Lib.hid hst
      clear hst
      go_wp2_with (fail)
      go_ret
      exact ⟨_, _, _, rfl, Hend.out, Hst.out.1, below_grown hb Hst.out.2 hb.size (by simpa using hgb)⟩
end Go.Proofs.Ytcijhakofoklcaa
