/- The walks of the reference's Count, Pattern and Breaks (fixtures). -/
import Derived.Test.YtpmkebejfnflfaaFRf1
import Derived.Test.YtpmkebejfnflfaaFCirF
namespace Go.Proofs.Ytpmkebejfnflfaa
open Go.RowKit Go.Shelf Go.Lib
set_option linter.unusedVariables false
set_option linter.unusedSimpArgs false
namespace Fix
theorem len_in {ls : List (List Mt)} {l : List Mt} (h : l ∈ ls) : l.length ≤ ls.flatten.length := by
  obtain ⟨s, t, rfl⟩ := List.append_of_mem h
  simp only [List.flatten_append, List.flatten_cons, List.length_append]
  omega
theorem count_le {α : Type} [BEq α] [LawfulBEq α] (a : α) (l : List α) : l.count a ≤ l.length := List.count_le_length
theorem flat_count {ls : List (List Mt)} {k j : Nat} {l : List Mt} {x y : Mt} (hk : ls[k]? = some l) (hj : l[j]? = some y) :
    ((ls.take k).flatten ++ l.take (j + 1)).count x = ((ls.take k).flatten ++ l.take j).count x + (if y = x then 1 else 0) := by
  rw [take_snoc hj, List.count_append, List.count_append, List.count_append, List.count_singleton]
  have : (y == x) = decide (y = x) := by rw [Bool.eq_iff_iff, beq_iff_eq, decide_eq_true_eq]
  rw [this]
  by_cases h : y = x <;> simp [h]
  omega
end Fix
set_option maxRecDepth 100000 in
set_option maxHeartbeats 8000000 in
theorem count_any (A : Option Addr) (n c : Nat) (ls : List (List (Int × Int))) (a b : Int) (w : World) (hl : ls.length = n) (hn : n ≤ 1000000) (hC : RoundsC w A ls) (hs : ls.flatten.length ≤ 1000000) :
    Calls Try.prog 38 #[.agg #[.slice A n c], .agg #[.int .i64 a, .int .i64 b]] w fun e w' => e = .returned (.int .i64 (ls.flatten.count (a, b) : Nat)) ∧ Below w.heap.size w w' := by
  have HC := Lib.hid hC
  have Hl := Lib.hid hl
  have Hs := Lib.hid hs
  have Hll := Lib.hid (fun l (h : l ∈ ls) => Nat.le_trans (Fix.len_in h) hs)
  clear hC hl hs
  obtain ⟨R, hR⟩ : ∃ R, ls.flatten.count (a, b) = R := ⟨_, rfl⟩
  have HR := Lib.hid hR
  rw [hR]
  clear hR
  go_enter Try.func38, Try.ntmps38
  go_upto_region 1 with (fail)
  generalize hge : World.alloc _ _ = w0
  have H0 := Lib.hid (show Blk w0 w.heap.size 26 #[.slice A n c] by subst hge; exact (Blk.new w _ _).alloc _)
  have H0b := Lib.hid (show Blk w0 (w.heap.size + 1) 51 #[.int .i64 a, .int .i64 b] by
    subst hge
    have := Blk.new (w.alloc (.cells #[.slice A n c] 26)) 51 #[.int .i64 a, .int .i64 b]
    rwa [show (w.alloc (.cells #[.slice A n c] 26)).heap.size = w.heap.size + 1 by simp] at this)
  have HB0 := Lib.hid (show Below w.heap.size w w0 by subst hge; exact ((Below.refl _ _).alloc (Nat.le_refl _) _).alloc (by simp) _)
  clear hge
  go_wp2_with (fail)
  go_loopw [6, 5] (fun i s W => ∃ k t : Nat, k ≤ n ∧ i = .int .i64 k ∧ s = .int .i64 t ∧ t ≤ 1000000 ∧ Hid (t = (ls.take k).flatten.count (a, b)) ∧ Hid (Below w0.heap.size w0 W)) (fun i _ _ => n - (intOf i).toNat)
  case atStart => exact ⟨0, 0, Nat.zero_le _, rfl, rfl, by omega, Lib.hid (by simp), Below.refl _ _⟩
  case round =>
    obtain ⟨wk, rfl⟩ : ∃ wk : World, wk = wr := ⟨_, rfl⟩
    obtain ⟨k, t, hk, rfl, rfl, ht, hcnt, hB⟩ := hrel
    have q0 : wk.cell? ⟨w.heap.size, 0, none⟩ = some (.slice A n c) := (H0.out.below hB.out).cell 0
    by_cases hlt : k < n
    · obtain ⟨l, hx⟩ := getElem?_lt (l := ls) (k := k) (by rw [Hl.out]; exact hlt)
      obtain ⟨b1, off1, A', c', rfl, hb, hcell, hlc, hcm', hI⟩ := ((HC.out.below HB0.out).below hB.out).at_ hx
      have hll := Hll.out l (List.mem_of_getElem? hx)
      obtain ⟨m, hm⟩ : ∃ m, m = l.length := ⟨_, rfl⟩
      rw [← hm] at hcell hlc hll
      have Hm := Lib.hid hm
      have Hx := Lib.hid hx
      have HI := Lib.hid hI
      have Hk0 := Lib.hid q0
      have Hcell := Lib.hid hcell
      unfold maxLen at hcm'
      clear hx hm hI
      go_wp2_with (fail)
      go_loopw [7, 5] (fun i s W => ∃ j u : Nat, j ≤ m ∧ i = .int .i64 j ∧ s = .int .i64 u ∧ u ≤ 1000000 ∧ Hid (u = ((ls.take k).flatten ++ l.take j).count (a, b)) ∧ Hid (Below wk.heap.size wk W)) (fun i _ _ => m - (intOf i).toNat)
      case atStart => exact ⟨0, t, Nat.zero_le _, rfl, rfl, ht, Lib.hid (by rw [hcnt.out]; simp), Below.refl _ _⟩
      case round =>
        obtain ⟨wj, rfl⟩ : ∃ wj : World, wj = wr := ⟨_, rfl⟩
        obtain ⟨j, u, hj, rfl, rfl, hu, hcu, hBj⟩ := hrel
        clear q0 hcell
        have q0 : wj.cell? ⟨w.heap.size, 0, none⟩ = some (.slice (some ⟨b1, off1, none⟩) n c) := (hBj.out.cell (World.block_lt_of_cell? wk _ Hk0.out)).trans Hk0.out
        have q1 : wj.cell? ⟨b1, off1 + k, none⟩ = some (.slice A' m c') := (hBj.out.cell hb).trans Hcell.out
        by_cases hjl : j < m
        · obtain ⟨⟨x, y⟩, hxy⟩ := getElem?_lt (l := l) (k := j) (by rw [← Hm.out]; exact hjl)
          obtain ⟨b2, off2, rfl, hb2, hcs⟩ := HI.out.at_ (by rw [← Hm.out]; omega)
          have hc1 := (hBj.out.cell (p := ⟨b2, off2 + j * 2, none⟩) hb2).trans (hcs j _ hxy).1
          have hc2 := (hBj.out.cell (p := ⟨b2, off2 + j * 2 + 1, none⟩) hb2).trans (hcs j _ hxy).2
          have m1 : wj.cell? ⟨w.heap.size + 1, 0, none⟩ = some (.int .i64 a) := ((H0b.out.below hB.out).below hBj.out).cell 0
          have m2 : wj.cell? ⟨w.heap.size + 1, 1, none⟩ = some (.int .i64 b) := ((H0b.out.below hB.out).below hBj.out).cell 1
          have Hfc := Lib.hid (Fix.flat_count (x := (a, b)) Hx.out hxy)
          have hub : ((ls.take k).flatten ++ l.take (j + 1)).count (a, b) ≤ 1000000 := by
            refine Nat.le_trans (Fix.count_le _ _) ?_
            have h1 := Fix.len_in (ls := [(ls.take k).flatten, l]) (l := l) (by simp)
            have h2 : (ls.take (k + 1)).flatten.length ≤ ls.flatten.length := by
              conv => rhs; rw [← List.take_append_drop (k + 1) ls, List.flatten_append, List.length_append]
              omega
            rw [take_snoc Hx.out, List.flatten_append, List.length_append] at h2
            simp only [List.flatten_cons, List.flatten_nil, List.append_nil] at h2
            have := Hs.out
            rw [List.length_append, List.length_take]
            omega
          have HE := run_eqI x y a b
          clear hcs hxy
          by_cases he : (x, y) = (a, b)
          · rw [decide_eq_true he] at HE
            have hf := Hfc.out
            rw [if_pos he, ← hcu.out] at hf
            rw [hf] at hub
            have Hf := Lib.hid hf
            clear hf he
            go_wp2_with (fail)
            go_quiet (fail)
            go_wp2_with (fail)
            go_roundw
            case rel => exact ⟨j + 1, u + 1, by omega, by go_num, by go_num, hub, Lib.hid Hf.out.symm, below_drewN hBj.out _⟩
            case measure => simp [intOf]; omega
          · rw [decide_eq_false he] at HE
            have hf := Hfc.out
            rw [if_neg he, ← hcu.out, Nat.add_zero] at hf
            have Hf := Lib.hid hf
            clear hf he hub
            go_wp2_with (fail)
            go_quiet (fail)
            go_wp2_with (fail)
            go_roundw
            case rel => exact ⟨j + 1, u, by omega, by go_num, rfl, hu, Lib.hid Hf.out.symm, below_drewN hBj.out _⟩
            case measure => simp [intOf]; omega
        · obtain rfl : m = j := by omega
          have hend : u = (ls.take (k + 1)).flatten.count (a, b) := by
            have htl : l.take m = l := List.take_of_length_le (by rw [← Hm.out]; exact Nat.le_refl _)
            rw [hcu.out, htl, take_snoc Hx.out, List.flatten_append]
            simp
          have Hend := Lib.hid hend
          clear hend
          go_wp2_with (fail)
          go_roundw
          case rel => exact ⟨k + 1, u, by omega, by go_num, rfl, hu, Hend, below_of hB.out hBj.out hB.out.size⟩
          case measure => simp [intOf]; omega
    · obtain rfl : n = k := by omega
      have hfin : t = R := by
        rw [← HR.out, hcnt.out, List.take_of_length_le (by rw [Hl.out]; exact Nat.le_refl _)]
      subst hfin
      go_wp2_with (fail)
      go_ret
      exact ⟨rfl, below_of HB0.out hB.out HB0.out.size⟩
end Go.Proofs.Ytpmkebejfnflfaa
