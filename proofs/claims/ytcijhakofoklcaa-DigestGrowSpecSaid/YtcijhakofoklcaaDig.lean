/- A digest appended; the laws' digestsOf. -/
import Derived.Test.YtcijhakofoklcaaClimb
import Derived.Test.YtcijhakofoklcaaLawB
namespace Go.Proofs.Ytcijhakofoklcaa
open Go.RowKit
theorem info_dig : (Try.prog.info? 37).map (fun i => (i.zero, i.size, i.bytes)) = some (some (.agg (arrK .u8 z32)), 32, 32) := by kernel_rfl
theorem flat_snoc (l : List (List Nat)) (d : List Nat) : bytesV l.flatten ++ bytesV d = bytesV (l ++ [d]).flatten := by
  rw [List.flatten_append, bytesV_append]; simp
theorem IsL.snoc {l : List (List Nat)} (h : IsL l) {d : List Nat} (hd : IsD d) : IsL (l ++ [d]) := fun x hx => by
  rcases List.mem_append.1 hx with hx | hx
  · exact h x hx
  · rw [List.mem_singleton] at hx; subst hx; exact hd
theorem IsL.nil_ : IsL [] := fun x hx => by simp at hx
section
variable {w : World} {ops : Array Oper} {rest : List Oper} {o : Oper} {a : Act} {Q : Exit → Act → World → Prop} {K : Act → World → Prop}
/-- 's = append(s, d)' for digests: the new element lies in a block of its own. -/
theorem wpList_pushD (hgd : o.guard = none) (s x : Operand) (ho : o.op = .call { callee := .builtin .append, args := #[s, x], argTypes := #[28, 28] })
    (base : Nat) (v : Value) (n : Nat) (l : List (List Nat)) (d : List Nat) (hown : w.ownsRow base 37 32 v n (bytesV l.flatten)) (hs : a.eval s = v) (g : Nat) (hg : Blk w g 37 (arrK .u8 d)) (hd : IsD d)
    (hx : a.eval x = .slice (some ⟨g, 0, none⟩) 1 1) (hn : n ≤ 1000000) (hbase : base ≤ w.heap.size)
    (h : ∀ v' w', w'.ownsRow base 37 32 v' (n + 1) (bytesV (l ++ [d]).flatten) → w.grownBy w' v.ownBlock → wpList Try.prog ops Q rest (a.put o.dst v') w') : wpList Try.prog ops Q (o :: rest) a w :=
  wpList_append_cells hgd s x 28 ho base 37 (.agg (arrK .u8 z32)) 32 32 (by kernel_rfl) info_dig (by show (arrK .u8 z32).size = 32; exact len32 z32_length) (by omega) v n (bytesV l.flatten) hown hs (some ⟨g, 0, none⟩) 1 1 (bytesV d) hx (by rw [bytesV_length, hd.1])
    (by have := cells_blk hg; rwa [arrK_bytesV] at this) (bytesV_one _) (by unfold maxLen; omega) (by omega) hbase fun v' w' h1 h2 _ => h v' w' (by rwa [flat_snoc] at h1) h2
theorem step_pushD {E : Prop} (hgd : o.guard = none) (s x : Operand) (ho : o.op = .call { callee := .builtin .append, args := #[s, x], argTypes := #[28, 28] })
    (base : Nat) (v : Value) (n : Nat) (l : List (List Nat)) (d : List Nat) (hown : w.ownsRow base 37 32 v n (bytesV l.flatten)) (hs : a.eval s = v) (g : Nat) (hg : Blk w g 37 (arrK .u8 d)) (hd : IsD d)
    (hx : a.eval x = .slice (some ⟨g, 0, none⟩) 1 1) (hn : n ≤ 1000000) (hbase : base ≤ w.heap.size)
    (h : ∀ v' w', w'.ownsRow base 37 32 v' (n + 1) (bytesV (l ++ [d]).flatten) → w.grownBy w' v.ownBlock → K (a.put o.dst v') w') : if Region.wanted o (yielded ops a.tmps) = true then Oper.wp Try.prog o a w K Q else E :=
  step_append_cells hgd s x 28 ho base 37 (.agg (arrK .u8 z32)) 32 32 (by kernel_rfl) info_dig (by show (arrK .u8 z32).size = 32; exact len32 z32_length) (by omega) v n (bytesV l.flatten) hown hs (some ⟨g, 0, none⟩) 1 1 (bytesV d) hx (by rw [bytesV_length, hd.1])
    (by have := cells_blk hg; rwa [arrK_bytesV] at this) (bytesV_one _) (by unfold maxLen; omega) (by omega) hbase fun v' w' h1 h2 _ => h v' w' (by rwa [flat_snoc] at h1) h2
/-- 's = append(s, p...)' for digests. -/
theorem step_addD {E : Prop} (hgd : o.guard = none) (s x : Operand) (ho : o.op = .call { callee := .builtin .append, args := #[s, x], argTypes := #[28, 28] })
    (base : Nat) (v : Value) (n : Nat) (l : List (List Nat)) (hown : w.ownsRow base 37 32 v n (bytesV l.flatten)) (hs : a.eval s = v) (A : Option Addr) (m c : Nat) (p : List (List Nat)) (hp : p.length = m) (hP : IsL p) (hA : Cells w A (bytesV p.flatten))
    (hx : a.eval x = .slice A m c) (hn : n + m ≤ 1000000) (hbase : base ≤ w.heap.size)
    (h : ∀ v' w', w'.ownsRow base 37 32 v' (n + m) (bytesV (l ++ p).flatten) → w.grownBy w' v.ownBlock → K (a.put o.dst v') w') : if Region.wanted o (yielded ops a.tmps) = true then Oper.wp Try.prog o a w K Q else E :=
  step_append_cells hgd s x 28 ho base 37 (.agg (arrK .u8 z32)) 32 32 (by kernel_rfl) info_dig (by show (arrK .u8 z32).size = 32; exact len32 z32_length) (by omega) v n (bytesV l.flatten) hown hs A m c (bytesV p.flatten) hx (by rw [bytesV_length, hP.flat_length, hp])
    hA (bytesV_one _) (by unfold maxLen; omega) (by omega) hbase fun v' w' h1 h2 _ => h v' w' (by rwa [← bytesV_append, ← List.flatten_append] at h1) h2
theorem wpList_addD (hgd : o.guard = none) (s x : Operand) (ho : o.op = .call { callee := .builtin .append, args := #[s, x], argTypes := #[28, 28] })
    (base : Nat) (v : Value) (n : Nat) (l : List (List Nat)) (hown : w.ownsRow base 37 32 v n (bytesV l.flatten)) (hs : a.eval s = v) (A : Option Addr) (m c : Nat) (p : List (List Nat)) (hp : p.length = m) (hP : IsL p) (hA : Cells w A (bytesV p.flatten))
    (hx : a.eval x = .slice A m c) (hn : n + m ≤ 1000000) (hbase : base ≤ w.heap.size)
    (h : ∀ v' w', w'.ownsRow base 37 32 v' (n + m) (bytesV (l ++ p).flatten) → w.grownBy w' v.ownBlock → wpList Try.prog ops Q rest (a.put o.dst v') w') : wpList Try.prog ops Q (o :: rest) a w :=
  wpList_append_cells hgd s x 28 ho base 37 (.agg (arrK .u8 z32)) 32 32 (by kernel_rfl) info_dig (by show (arrK .u8 z32).size = 32; exact len32 z32_length) (by omega) v n (bytesV l.flatten) hown hs A m c (bytesV p.flatten) hx (by rw [bytesV_length, hP.flat_length, hp])
    hA (bytesV_one _) (by unfold maxLen; omega) (by omega) hbase fun v' w' h1 h2 _ => h v' w' (by rwa [← bytesV_append, ← List.flatten_append] at h1) h2
end
theorem ownD_nil (w : World) (base : Nat) : w.ownsRow base 37 32 (.slice none 0 0) 0 (bytesV ([] : List (List Nat)).flatten) := by
  rw [show bytesV ([] : List (List Nat)).flatten = [] by unfold bytesV; rfl]
  exact World.ownsRow_nil _ _ _ _
theorem ownD_empty (w : World) (base : Nat) (hb : base ≤ w.heap.size) : (w.alloc (.cells #[] 37)).ownsRow base 37 32 (.slice (some ⟨w.heap.size, 0, none⟩) 0 0) 0 (bytesV ([] : List (List Nat)).flatten) := by
  rw [show bytesV ([] : List (List Nat)).flatten = [] by unfold bytesV; rfl]
  exact World.ownsRow_lit (size := 32) w #[] 0 hb (Nat.zero_le _) rfl
/-- The two numbers of an element. -/
def elemD (x y : Nat) : List Nat := x :: y :: List.replicate 30 0
theorem elemD_isD {x y : Nat} (hx : x < 256) (hy : y < 256) : IsD (elemD x y) := ⟨by simp [elemD], fun j => by
  unfold elemD
  rw [List.getD_eq_getElem?_getD]
  match j with
  | 0 => simpa using hx
  | 1 => simpa using hy
  | j + 2 =>
    rw [List.getElem?_cons_succ, List.getElem?_cons_succ, List.getElem?_replicate]
    split <;> decide⟩
set_option maxRecDepth 100000 in
set_option maxHeartbeats 4000000 in
theorem digestsOf_any (A : Option Addr) (n c : Nat) (b : List Nat) (w : World) (hA : Cells w A (bytesV b)) (hn : b.length = n) (h8 : ByteL b) (hnm : n ≤ maxLen) :
    Calls Try.prog 33 #[.slice A n c] w fun e w' => ∃ A' m c', ∃ l : List (List Nat), e = .returned (.slice A' m c') ∧ l.length = m ∧ m ≤ 24 ∧ m ≤ c' ∧ c' ≤ maxLen ∧ IsL l ∧ Cells w' A' (bytesV l.flatten) ∧ Below w.heap.size w w' := by
  have HA := Lib.hid hA
  have Hn := Lib.hid hn
  have H8 := Lib.hid h8
  unfold maxLen at hnm
  clear hA hn h8
  go_enter Try.func33, Try.ntmps33
  go_wp2_with (fail)
  go_loopw [3, 4] (fun v i wr => ∃ (k : Nat) (A' : Option Addr) (c' : Nat) (l : List (List Nat)), k ≤ 24 ∧ k ≤ n ∧ i = .int .i64 k ∧ v = .slice A' k c' ∧ Hid (l.length = k) ∧ Hid (IsL l) ∧ Hid (wr.ownsRow w.heap.size 37 32 (.slice A' k c') k (bytesV l.flatten)) ∧ Hid (Below w.heap.size w wr)) (fun _ i _ => 24 - (intOf i).toNat)
  case atStart => exact ⟨0, _, _, [], by omega, by omega, rfl, rfl, rfl, IsL.nil_, ownD_empty w _ (Nat.le_refl _), (Below.refl _ _).alloc (Nat.le_refl _) _⟩
  case round =>
    obtain ⟨k, A', c', l, hk, hkn, rfl, rfl, Hl, HL, Ho, hb⟩ := hrel
    by_cases hlk : k < 24 ∧ k < n
    · obtain ⟨hk1, hk2⟩ := hlk
      have d1 : decide ((k : Int) < (n : Int)) = true := by simp; omega
      have d2 : decide (k < n) = true := by simp; omega
      have d3 : decide ((k : Int) < 24) = true := by simp; omega
      have hkI : (k : Int) < (n : Int) := by omega
      have hkI2 : (k : Int) < 24 := by omega
      obtain ⟨ba, bo, rfl, hbl, hcell⟩ := Cells.addr HA.out (by rw [bytesV_length, Hn.out]; omega)
      have ec := (hb.out.cell (p := ⟨ba, bo + k, none⟩) hbl).trans (hcell k _ (bytesV_get (by rw [Hn.out]; exact hk2)))
      have hb8 := H8.out k
      generalize b.getD k 0 = x at *
      have hx4 : (x : Int).tmod 4 = ((x % 4 : Nat) : Int) := by rw [Int.tmod_eq_emod_of_nonneg (by omega)]; omega
      have hx5 : (x : Int) % 4 = ((x % 4 : Nat) : Int) := by omega
      have hk8 : IntKind.u8.wrap ((k : Int) / 8) = ((k / 8 : Nat) : Int) := by rw [IntKind.wrap_u8]; omega
      have De := Lib.hid (elemD_isD (x := x % 4) (y := k / 8) (by omega) (by omega))
      obtain ⟨xr, hxr⟩ : ∃ y, x % 4 = y := ⟨_, rfl⟩
      obtain ⟨kr, hkr⟩ : ∃ y, k / 8 = y := ⟨_, rfl⟩
      rw [hxr] at hx4 hx5 De
      rw [hkr] at hk8 De
      have hxw : IntKind.u8.wrap (xr : Int) = (xr : Int) := by rw [IntKind.wrap_u8]; omega
      clear hcell hxr hkr
      go_wp2_with (at_builtin
                   refine wpList_pushD rfl (.tmp 16) (.tmp 26) rfl w.heap.size (.slice A' k c') k l (elemD xr kr) (Ho.out.alloc _) rfl wr.heap.size (Blk.new wr 37 (arrK .u8 (elemD xr kr))) De.out rfl (by omega) (by have := hb.out.size; simp; omega) ?_
                   intro v2 w2 hown2 hg2
                   have hb2 := Lib.hid (below_grown (hb.out.alloc hb.out.size _) hg2 (by have := hb.out.size; simp; omega) (own_base Ho.out))
                   obtain ⟨A3, c3, rfl, -, -, -⟩ := own_form hown2
                   have Hown2 := Lib.hid hown2
                   clear hown2 hg2)
      go_roundw
      case rel => exact ⟨k + 1, A3, c3, l ++ [elemD xr kr], by omega, by omega, by go_num, rfl, by show _ = _; simp [Hl.out], HL.out.snoc De.out, Hown2.out, hb2.out⟩
      case measure => simp [intOf]; omega
    · by_cases hk2 : k < n
      · have d1 : decide ((k : Int) < (n : Int)) = true := by simp; omega
        have d2 : decide (k < n) = true := by simp; omega
        have d3 : decide ((k : Int) < 24) = false := by simp; omega
        go_wp2_with (fail)
        go_ret
        obtain ⟨A2, c2, hv, h1, h2, -⟩ := own_form Ho.out
        cases hv
        exact ⟨A', k, c', l, rfl, Hl.out, hk, h1, h2, HL.out, Cells.own Ho.out, hb.out⟩
      · have d1 : decide ((k : Int) < (n : Int)) = false := by simp; omega
        have d2 : decide (k < n) = false := by simp; omega
        go_wp2_with (fail)
        go_ret
        obtain ⟨A2, c2, hv, h1, h2, -⟩ := own_form Ho.out
        cases hv
        exact ⟨A', k, c', l, rfl, Hl.out, hk, h1, h2, HL.out, Cells.own Ho.out, hb.out⟩
end Go.Proofs.Ytcijhakofoklcaa
