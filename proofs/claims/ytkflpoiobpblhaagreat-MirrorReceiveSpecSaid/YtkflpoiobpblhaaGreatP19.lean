/- Walks and plain laws that the statement rests on: Path. -/
import Derived.Great.BuildSlice
import Derived.Shelf.SlicesQ.Reverse
import Derived.Test.YtkflpoiobpblhaaGreatP00
import Derived.Test.YtkflpoiobpblhaaGreatP17
import Derived.Test.YtkflpoiobpblhaaGreatP18
import Derived.Test.YtkflpoiobpblhaaGreatPS
namespace Go.Proofs.YtkflpoiobpblhaaGreat
open Go.RowKit
open Go.Sort (HoldsK putRowK holdsK_ahead holdsK_putRowK get_flatK size_flatK)
theorem run_oneD (d : List Nat) (hd : IsD d) (w : World) : (Instr.buildSlice 30 1 #[(0, .agg (arrK .u8 d))]).run Tryz.prog w = .ok (.slice (some ⟨w.heap.size, 0, none⟩) 1 1) (w.alloc (.cells (arrK .u8 d) 29)) := by
 obtain ⟨ie, hie, h2⟩ := Option.map_eq_some_iff.1 info_dig
 obtain ⟨hz, hs, -⟩ : ie.zero = some (.agg (arrK .u8 z32)) ∧ ie.size = 32 ∧ ie.bytes = 32 := by simpa using h2
 have hf := Great.fill_whole (s := 32) (by omega) [.agg (arrK .u8 d)] ((Array.range (1 * ie.size)).map ((Value.agg (arrK .u8 z32)).cells[· % (Value.agg (arrK .u8 z32)).cells.size]!)) (fun v hv => by
  rw [List.mem_singleton] at hv; subst hv
  show (arrK .u8 d).size = 32
  exact len32 hd.1) (by rw [hs]; simp)
 refine run_buildSlice w 30 29 1 _ _ ie _ (by kernel_rfl) hie hz (by rw [hs]; decide) (by rw [hs]; decide) ?_
 rw [hs] at hf ⊢
 rw [show ([Value.agg (arrK .u8 d)].flatMap fun v => v.cells.toList).toArray = arrK .u8 d by simp [Value.cells]] at hf
 exact hf
section
variable {w : World} {ops : Array Oper} {rest : List Oper} {o : Oper} {a : Act} {Q : Exit → Act → World → Prop} {K : Act → World → Prop}
theorem step_oneD {E : Prop} (hgd : o.guard = none) (x : Operand) (ho : o.op = .buildSlice 30 1 #[(0, x)]) (d : List Nat) (hd : IsD d) (hx : a.eval x = .agg (arrK .u8 d))
    (h : K (a.put o.dst (.slice (some ⟨w.heap.size, 0, none⟩) 1 1)) (w.alloc (.cells (arrK .u8 d) 29))) : if Region.wanted o (yielded ops a.tmps) = true then Oper.wp Tryz.prog o a w K Q else E := by
 have hw : Region.wanted o (yielded ops a.tmps) = true := by simp [Region.wanted, hgd]
 rw [if_pos hw]
 unfold Oper.wp execOp
 simp only [ho, List.map_toArray, List.map_cons, List.map_nil, hx, Sem.run_bind, run_oneD d hd w, Result.andThen_ok]
 exact h
theorem wpList_oneD (hgd : o.guard = none) (x : Operand) (ho : o.op = .buildSlice 30 1 #[(0, x)]) (d : List Nat) (hd : IsD d) (hx : a.eval x = .agg (arrK .u8 d))
    (h : wpList Tryz.prog ops Q rest (a.put o.dst (.slice (some ⟨w.heap.size, 0, none⟩) 1 1)) (w.alloc (.cells (arrK .u8 d) 29))) : wpList Tryz.prog ops Q (o :: rest) a w := by
 refine wpList_plain hgd fun _ hK => ?_
 unfold Oper.wp execOp
 simp only [ho, List.map_toArray, List.map_cons, List.map_nil, hx, Sem.run_bind, run_oneD d hd w, Result.andThen_ok]
 exact hK _ _ h
end
def encD (d : List Nat) : List Value := (bytesV d ++ List.replicate 32 (Value.int .u8 0)).take 32
theorem encD_length (d : List Nat) : (encD d).length = 32 := by
 unfold encD
 rw [List.length_take, List.length_append, List.length_replicate]
 omega
theorem encD_isD {d : List Nat} (h : IsD d) : encD d = bytesV d := by
 unfold encD
 rw [List.take_append_of_le_length (by rw [bytesV_length, h.1]; exact Nat.le_refl _), List.take_of_length_le (by rw [bytesV_length, h.1]; exact Nat.le_refl _)]
theorem encD_one (d : List Nat) : ∀ v ∈ encD d, v.oneCell' = true := by
 intro v hv
 have := List.mem_of_mem_take hv
 rcases List.mem_append.1 this with h | h
 · exact bytesV_one _ v h
 · rw [List.mem_replicate] at h; rw [h.2]; rfl
theorem flat_cell : ∀ (l : List (List Nat)), IsL l → ∀ t, t < l.length * 32 → (bytesV l.flatten)[t]? = some ((encD (l.toArray)[t / 32]!)[t % 32]!)
 | [], _, t, h => by simp at h
 | d :: l, hL, t, h => by
   have hd := hL d (by simp)
   rw [List.flatten_cons, bytesV_append]
   by_cases ht : t < 32
   · rw [List.getElem?_append_left (by rw [bytesV_length, hd.1]; exact ht), show t / 32 = 0 by omega, show t % 32 = t by omega]
     rw [show ((d :: l).toArray)[0]! = d by simp, encD_isD hd]
     have hl : t < (bytesV d).length := by rw [bytesV_length, hd.1]; exact ht
     rw [List.getElem?_eq_getElem hl, getElem!_pos _ t hl]
   · rw [List.getElem?_append_right (by rw [bytesV_length, hd.1]; omega), bytesV_length, hd.1]
     have ih := flat_cell l (fun x hx => hL x (by simp [hx])) (t - 32) (by simp at h; omega)
     rw [ih]
     have e1 : t / 32 = (t - 32) / 32 + 1 := by omega
     have e2 : t % 32 = (t - 32) % 32 := by omega
     rw [e1, e2]
     congr 3
     simp
theorem reverse_any (g m c base : Nat) (l : List (List Nat)) (w : World) (hown : w.ownsRow base 29 32 (.slice (some ⟨g, 0, none⟩) m c) m (bytesV l.flatten)) (hl : l.length = m) (hL : IsL l) (hm : m ≤ 1000000) :
    Calls Tryz.prog 97 #[.slice (some ⟨g, 0, none⟩) m c] w fun e w' => e = .returned (.tuple #[]) ∧ Cells w' (some ⟨g, 0, none⟩) (bytesV l.reverse.flatten) ∧ w.grownBy w' (some g) := by
 have hlt : g < w.heap.size := (hown.lt g rfl).2
 have hH : HoldsK encD 32 w g 0 l.toArray := by
  intro t ht
  rw [size_flatK] at ht
  have ht' : t < l.length * 32 := by simpa using ht
  rw [get_flatK _ _ _ _ ht, Nat.zero_add]
  refine ⟨?_, hown.frozenAt t⟩
  rw [hown.cellAt t (by rw [← hl]; exact ht'), flat_cell l hL t ht']
  rfl
 have hc := AnyQ.slices_Reverse Tryz.revD 32 (Tryz.isAgg29) (Tryz.sizeOf29) encD encD_length encD_one g 0 c l.toArray w hH (by simp; omega)
 have hsz : l.toArray.size = m := by simp [hl]
 rw [hsz] at hc
 refine hc.mono ?_
 rintro e w' ⟨rfl, k, rfl⟩
 have hLr : IsL l.reverse := fun d hd => hL d (List.mem_reverse.1 hd)
 refine ⟨rfl, ?_, ?_⟩
 · have hp := holdsK_putRowK (enc := encD) (k := 32) (Sort.ahead w k) g 0 l.toArray l.toArray.reverse (show HoldsK encD 32 (Sort.ahead w k) g 0 l.toArray from hH) (by simp)
   refine .inr ⟨g, 0, rfl, by unfold putRowK; rw [Go.Sort.size_putRow]; exact hlt, fun j u hu => ?_⟩
   have hj : j < l.reverse.length * 32 := by
    have := (List.getElem?_eq_some_iff.1 hu).1
    rw [bytesV_length, hLr.flat_length] at this
    exact this
   rw [flat_cell l.reverse hLr j hj] at hu
   have h2 := (hp j (by rw [size_flatK]; simpa using hj)).1
   rw [get_flatK _ _ _ _ (by simpa using hj)] at h2
   rw [h2, ← hu]
   simp
 · refine ⟨rfl, rfl, rfl, by unfold putRowK; rw [Go.Sort.size_putRow]; exact Nat.le_refl _, fun b hb hne => ?_⟩
   have hbg : b ≠ g := fun e => hne (by rw [e])
   show (w.heap.modify g _)[b]? = _
   rw [Array.getElem?_modify, if_neg (Ne.symm hbg)]
theorem reverse_none (A : Option Addr) (c : Nat) (w : World) :
    Calls Tryz.prog 97 #[.slice A 0 c] w fun e w' => e = .returned (.tuple #[]) ∧ w' = w := AnyQ.slices_Reverse_empty Tryz.revD A c w
set_option linter.unusedSimpArgs false in
set_option maxRecDepth 100000 in
set_option maxHeartbeats 4000000 in
theorem rpath_any : ∀ (m : Nat) (l : List (List Nat)) (at_ : Nat) (A : Option Addr) (c : Nat) (w : World), l.length = m → IsL l → at_ < m → m ≤ c → m ≤ 1000000 → Cells w A (bytesV l.flatten) →
    Calls Tryz.prog 103 #[.slice A m c, .int .i64 at_] w fun e w' => ∃ A' q c', e = .returned (.slice A' q c') ∧ (pathS l at_).length = q ∧ w'.ownsRow w.heap.size 29 32 (.slice A' q c') q (bytesV (pathS l at_).flatten) ∧ Below w.heap.size w w' := by
 intro m
 induction m using Nat.strongRecOn with
 | _ m ih =>
 intro l at_ A c w hl hL hat hmc hm hA
 have IH := Lib.hid ih
 have Hl := Lib.hid hl
 have HL := Lib.hid hL
 have HA := Lib.hid hA
 clear ih hl hL hA
 by_cases h1 : m = 1
 · have hq1 : ((m : Int) == 1) = true := by simp; omega
   have hp := Lib.hid (pathS_one (l := l) at_ (by rw [Hl.out]; omega))
   clear h1
   go_enter Tryz.func103, Tryz.ntmps103
   go_wp2_with (fail)
   go_ret
   refine ⟨_, 0, _, rfl, by rw [hp.out]; rfl, ?_, (Below.refl _ _).alloc (Nat.le_refl _) _⟩
   rw [hp.out]
   exact ownD_empty w _ (Nat.le_refl _)
 have h2 : 2 ≤ m := by omega
 have hq1 : ((m : Int) == 1) = false := by simp; omega
 have hk1 := half_lt h2
 have hk2 := half_pos m
 have HH := Lib.hid (fun W => rhalf_any m W h2 (by omega))
 obtain ⟨b, off, rfl, hb, hcell⟩ := Cells.addr HA.out (by rw [bytesV_length, HL.out.flat_length, Hl.out]; omega)
 clear hcell h1
 have plo := Lib.hid (fun h => pathS_lo (l := l) (at_ := at_) (by rw [Hl.out]; exact h2) h)
 have phi := Lib.hid (fun h => pathS_hi (l := l) (at_ := at_) (by rw [Hl.out]; exact h2) h)
 rw [Hl.out] at plo phi
 generalize halfN m = k at *
 have C1 := Lib.hid (show Cells w (some ⟨b, off, none⟩) (bytesV (l.take k).flatten) by
  rw [HL.out.flat_take k]
  have := HA.out.take_ (k * 32)
  rwa [show (bytesV l.flatten).take (k * 32) = bytesV (l.flatten.take (k * 32)) by unfold bytesV; rw [List.map_take]] at this)
 have C2 := Lib.hid (show Cells w (some ⟨b, off + k * 32, none⟩) (bytesV (l.drop k).flatten) by
  rw [HL.out.flat_drop k, bytesV_drop]
  exact HA.out.drop_ (k * 32))
 have L1 := Lib.hid (show (l.take k).length = k by rw [List.length_take, Hl.out]; omega)
 have L2 := Lib.hid (show (l.drop k).length = m - k by rw [List.length_drop, Hl.out])
 have T1 := Lib.hid (fun W h => rtree_any k (l.take k) (some ⟨b, off, none⟩) c W L1.out (HL.out.take k) (by omega) (by omega) h)
 have T2 := Lib.hid (fun W h => rtree_any (m - k) (l.drop k) (some ⟨b, off + k * 32, none⟩) (c - k) W L2.out (HL.out.drop k) (by omega) (by omega) h)
 have hkm : (k : Int) ≤ (m : Int) := by omega
 have hkc : (k : Int) ≤ (c : Int) := by omega
 have hmc' : (m : Int) ≤ (c : Int) := by omega
 have hck : ¬ c = k := by omega
 have hck2 : (c == k) = false := by simp; omega
 clear HA
 by_cases hk : at_ < k
 · have hdk : decide ((at_ : Int) < (k : Int)) = true := by simp; omega
   have hdk2 : decide (at_ < k) = true := by simp; omega
   have P1 := Lib.hid (fun W h => IH.out k hk1 (l.take k) at_ (some ⟨b, off, none⟩) c W L1.out (HL.out.take k) hk (by omega) (by omega) h)
   have HP := Lib.hid (plo.out hk)
   have Dt := Lib.hid (treeS_isD (l.drop k))
   have hpl := Lib.hid (show (pathS (l.take k) at_).length ≤ 1000000 by rw [pathS_length k _ _ L1.out]; have := dirsS_lt k at_ hk2; omega)
   clear plo phi hk
   go_enter Tryz.func103, Tryz.ntmps103
   go_wp2_with (fail)
   refine (HH.out _).mono ?_
   rintro e w' ⟨rfl, rfl⟩
   go_wp2_with (fail)
   refine wp_region_held_drew (S := fun W => Below w.heap.size w W) (by kernel_rfl) (below_drewN (Below.refl _ _) 1) (fun Hd => ?_)
   replace Hd : Below w.heap.size w w.drew := Hd
   generalize World.drew w = wd at *
   refine tq 0 rfl Hd ?_
   simp only [la, Act.put]
   refine tq 1 rfl Hd ?_
   simp only [la, Act.put]
   refine tq 2 rfl Hd ?_
   simp only [la, Act.put]
   refine tq 3 rfl Hd ?_
   simp only [la, Act.put]
   refine tq 5 rfl Hd ?_
   simp only [la, Act.put]
   refine tq 6 rfl Hd ?_
   simp only [la, Act.put]
   refine tq 7 rfl Hd ?_
   simp only [la, Act.put]
   refine ty 4 rfl (fun K hK => ?_)
   go_simp
   refine (P1.out _ (C1.out.below Hd)).mono ?_
   rintro e w3 ⟨A3, q3, c3, rfl, hq3, hown3, hb3⟩
   have hb3' : Below w.heap.size w w3 := below_of Hd hb3 Hd.size
   have Hown3 := Lib.hid (own_mono hown3 Hd.size)
   have Hq3 := Lib.hid hq3
   clear hown3 hq3 hb3
   go_wp2_with (fail)
   refine hK.out _ _ hb3' fun _ => ?_
   clear hK K
   try simp only [la, Act.put]
   refine ty 8 rfl (fun K hK => ?_)
   go_simp
   refine (T2.out _ (C2.out.below hb3')).mono ?_
   rintro e w4 ⟨rfl, hb4⟩
   have hb4' : Below w.heap.size w w4 := below_of hb3' hb4 hb3'.size
   have Hown4 := Lib.hid (own_below Hown3.out hb4)
   go_wp2_with (fail)
   refine hK.out _ _ hb4' fun _ => ?_
   clear hK K
   try simp only [la, Act.put]
   refine ty 9 rfl (fun K hK => ?_)
   refine step_oneD (by rfl) _ (by rfl) _ Dt.out (by rfl) ?_
   have hbA : Below w.heap.size w (w4.alloc (.cells (arrK .u8 (treeS (l.drop k))) 29)) := hb4'.alloc hb4'.size _
   have HD := Lib.hid (Blk.new w4 29 (arrK .u8 (treeS (l.drop k))))
   have Hown5 := Lib.hid (Hown4.out.alloc (.cells (arrK .u8 (treeS (l.drop k))) 29))
   generalize World.alloc _ _ = w5 at *
   refine hK.out _ _ hbA fun _ => ?_
   clear hK K
   try simp only [la, Act.put]
   refine ty 10 rfl (fun K hK => ?_)
   refine step_pushD (by rfl) (.tmp 20) (.tmp 25) (by rfl) w.heap.size (.slice A3 q3 c3) q3 (pathS (l.take k) at_) (treeS (l.drop k)) Hown5.out (by rfl) w4.heap.size HD.out Dt.out (by rfl) (by rw [← Hq3.out]; exact hpl.out) hbA.size ?_
   intro v6 w6 hown6 hg6
   obtain ⟨A6, c6, rfl, -, -, -⟩ := own_form hown6
   have hb6 : Below w.heap.size w w6 := below_grown hbA hg6 hbA.size (own_base Hown5.out)
   have Hown6 := Lib.hid hown6
   clear hown6 hg6
   refine hK.out _ _ hb6 fun _ => ?_
   clear hK K
   try simp only [la, Act.put]
   refine tq 11 rfl hb6 ?_
   simp only [la, Act.put]
   refine td ?_ _
   go_wp2_with (fail)
   go_ret
   refine ⟨A6, q3 + 1, c6, rfl, ?_, ?_, hb6⟩
   · rw [HP.out, List.length_append, Hq3.out]; rfl
   · rw [HP.out]; exact Hown6.out
 · have hdk : decide ((at_ : Int) < (k : Int)) = false := by simp; omega
   have hdk2 : decide (at_ < k) = false := by simp; omega
   have P1 := Lib.hid (fun W h => IH.out (m - k) (by omega) (l.drop k) (at_ - k) (some ⟨b, off + k * 32, none⟩) (c - k) W L2.out (HL.out.drop k) (by omega) (by omega) (by omega) h)
   have HP := Lib.hid (phi.out hk)
   have Dt := Lib.hid (treeS_isD (l.take k))
   have hpl := Lib.hid (show (pathS (l.drop k) (at_ - k)).length ≤ 1000000 by rw [pathS_length (m - k) _ _ L2.out]; have := dirsS_lt (m - k) (at_ - k) (by omega); omega)
   have s1 : (at_ : Int) - (k : Int) = ((at_ - k : Nat) : Int) := by omega
   have s3 : IntKind.i64.wrap ((at_ - k : Nat) : Int) = ((at_ - k : Nat) : Int) := IntWalk.i64_in _ (by omega)
   clear plo phi hk
   go_enter Tryz.func103, Tryz.ntmps103
   go_wp2_with (fail)
   refine (HH.out _).mono ?_
   rintro e w' ⟨rfl, rfl⟩
   go_wp2_with (fail)
   refine wp_region_held_drew (S := fun W => Below w.heap.size w W) (by kernel_rfl) (below_drewN (Below.refl _ _) 1) (fun Hd => ?_)
   replace Hd : Below w.heap.size w w.drew := Hd
   generalize World.drew w = wd at *
   refine tq 0 rfl Hd ?_
   simp only [la, Act.put]
   refine tq 1 rfl Hd ?_
   simp only [la, Act.put]
   refine tq 2 rfl Hd ?_
   simp only [la, Act.put]
   refine tq 3 rfl Hd ?_
   simp only [la, Act.put]
   refine tq 4 rfl Hd ?_
   simp only [la, Act.put]
   refine tq 5 rfl Hd ?_
   simp only [la, Act.put]
   refine tq 7 rfl Hd ?_
   simp only [la, Act.put]
   refine tq 8 rfl Hd ?_
   simp only [la, Act.put]
   refine tq 9 rfl Hd ?_
   simp only [la, Act.put]
   refine ty 6 rfl (fun K hK => ?_)
   go_simp
   refine (P1.out _ (C2.out.below Hd)).mono ?_
   rintro e w3 ⟨A3, q3, c3, rfl, hq3, hown3, hb3⟩
   have hb3' : Below w.heap.size w w3 := below_of Hd hb3 Hd.size
   have Hown3 := Lib.hid (own_mono hown3 Hd.size)
   have Hq3 := Lib.hid hq3
   clear hown3 hq3 hb3
   go_wp2_with (fail)
   refine hK.out _ _ hb3' fun _ => ?_
   clear hK K
   try simp only [la, Act.put]
   refine ty 10 rfl (fun K hK => ?_)
   go_simp
   refine (T1.out _ (C1.out.below hb3')).mono ?_
   rintro e w4 ⟨rfl, hb4⟩
   have hb4' : Below w.heap.size w w4 := below_of hb3' hb4 hb3'.size
   have Hown4 := Lib.hid (own_below Hown3.out hb4)
   go_wp2_with (fail)
   refine hK.out _ _ hb4' fun _ => ?_
   clear hK K
   try simp only [la, Act.put]
   refine ty 11 rfl (fun K hK => ?_)
   refine step_oneD (by rfl) _ (by rfl) _ Dt.out (by rfl) ?_
   have hbA : Below w.heap.size w (w4.alloc (.cells (arrK .u8 (treeS (l.take k))) 29)) := hb4'.alloc hb4'.size _
   have HD := Lib.hid (Blk.new w4 29 (arrK .u8 (treeS (l.take k))))
   have Hown5 := Lib.hid (Hown4.out.alloc (.cells (arrK .u8 (treeS (l.take k))) 29))
   generalize World.alloc _ _ = w5 at *
   refine hK.out _ _ hbA fun _ => ?_
   clear hK K
   try simp only [la, Act.put]
   refine ty 12 rfl (fun K hK => ?_)
   refine step_pushD (by rfl) (.tmp 33) (.tmp 38) (by rfl) w.heap.size (.slice A3 q3 c3) q3 (pathS (l.drop k) (at_ - k)) (treeS (l.take k)) Hown5.out (by rfl) w4.heap.size HD.out Dt.out (by rfl) (by rw [← Hq3.out]; exact hpl.out) hbA.size ?_
   intro v6 w6 hown6 hg6
   obtain ⟨A6, c6, rfl, -, -, -⟩ := own_form hown6
   have hb6 : Below w.heap.size w w6 := below_grown hbA hg6 hbA.size (own_base Hown5.out)
   have Hown6 := Lib.hid hown6
   clear hown6 hg6
   refine hK.out _ _ hb6 fun _ => ?_
   clear hK K
   try simp only [la, Act.put]
   refine tq 13 rfl hb6 ?_
   simp only [la, Act.put]
   refine td ?_ _
   go_wp2_with (fail)
   go_ret
   refine ⟨A6, q3 + 1, c6, rfl, ?_, ?_, hb6⟩
   · rw [HP.out, List.length_append, Hq3.out]; rfl
   · rw [HP.out]; exact Hown6.out
end Go.Proofs.YtkflpoiobpblhaaGreat
