/- Walks and plain laws that the statement rests on: Climb. -/
import Derived.Laws.NewBlocks
import Derived.Test.YtkflpoiobpblhaaGreatP00
import Derived.Test.YtkflpoiobpblhaaGreatP13
import Derived.Test.YtkflpoiobpblhaaGreatPS
namespace Go.Proofs.YtkflpoiobpblhaaGreat
open Go.RowKit
def boolsV (l : List Bool) : List Value := l.map Value.bool
theorem boolsV_snoc (l : List Bool) (b : Bool) : boolsV l ++ [.bool b] = boolsV (l ++ [b]) := by simp [boolsV]
attribute [irreducible] boolsV
theorem range_at {w : World} {b off : Nat} {l : List (List Nat)} (hL : IsL l) (h : Cells w (some ⟨b, off, none⟩) (bytesV l.flatten)) {k : Nat} {d : List Nat} (hk : l[k]? = some d) :
    w.rangeAt b (off + k * 32) (d.map fun (n : Nat) => Value.int .u8 (n : Int)) := by
 have h1 := (h.cut (k * 32) 32)
 have e : ((bytesV l.flatten).drop (k * 32)).take 32 = bytesV d := by
  rw [← bytesV_drop, ← hL.flat_get hk]
  unfold bytesV
  rw [List.map_take]
 rw [e] at h1
 exact range_cells h1
theorem ret_row2 {P : Program} {fn : Func} {R : Ending → World → Prop} {a : Act} {w : World} {p q : Tmp} {ty : TypeId} {u : Value} (h : fn.results = #[.cell p ty, .tmp q]) (g : Nat) (t : TypeId) (cs : Array Value) (d : TypeDesc)
    (hp : a.tmps.getD p undef = .pointer (some ⟨g, 0, none⟩)) (hq : a.tmps.getD q undef = u) (hg : Blk w g t cs) (hu : P.underlying ty = some d) (hd : (match d with | .struct _ | .array _ _ => true | _ => false) = true) (hi : (P.info? ty).map (·.size) = some cs.size)
    (hdf : a.defers = []) (hR : R (.returned (.tuple #[.agg cs, u])) w) : bodyPost P fn R .ret a w := by
 refine bodyPost_ret (v := .tuple #[.agg cs, u]) ?_ hdf hR
 have hp' : a.tmps[p]?.getD undef = .pointer (some ⟨g, 0, none⟩) := by simpa using hp
 have hq' : a.tmps[q]?.getD undef = u := by simpa using hq
 simp [results, h, hp', hq', asAddr, run_loadVar_row w g t ty cs (0, 0) d hg hu hd hi]
set_option maxRecDepth 100000 in
set_option maxHeartbeats 4000000 in
theorem climb_bad (d : List Nat) (at_ n : Int) (A : Option Addr) (m c : Nat) (w : World) (hd : IsD d) (hb : ¬ (1 ≤ n ∧ n ≤ 1099511627776 ∧ 0 ≤ at_ ∧ at_ < n)) :
    Calls Tryz.prog 78 #[.agg (arrK .u8 d), .int .i64 at_, .int .i64 n, .slice A m c] w fun e w' => e = .returned (.tuple #[.agg (arrK .u8 z32), .int .i64 1]) ∧ Below w.heap.size w w' := by
 have Hb := Lib.hid hb
 have Hd := Lib.hid hd
 clear hb hd
 have h : n < 1 ∨ (1 ≤ n ∧ 1099511627776 < n) ∨ (1 ≤ n ∧ n ≤ 1099511627776 ∧ at_ < 0) ∨ (1 ≤ n ∧ n ≤ 1099511627776 ∧ 0 ≤ at_ ∧ n ≤ at_) := by have := Hb.out; omega
 rcases h with h1 | ⟨h1, h2⟩ | ⟨h1, h2, h3⟩ | ⟨h1, h2, h3, h4⟩
 all_goals
  go_enter Tryz.func78, Tryz.ntmps78
  go_wp2_with (first
   | (refine wpList_load_blk rfl 29 (.tmp 8) rfl (w.heap.size + 1) rfl 29 (arrK .u8 z32) (.array 32 5) (blk_two w (arrK .u8 d) (arrK .u8 z32) 29 29).2 (by kernel_rfl) rfl (by kernel_rfl) ?_)
   | (refine wpList_store_same rfl 29 (.tmp 8) (.tmp 29) rfl (w.heap.size + 1) (arrK .u8 z32) rfl rfl 29 (blk_two w (arrK .u8 d) (arrK .u8 z32) 29 29).2 (by kernel_rfl) (arrK_all _ _) ?_))
  exact ret_row2 rfl (w.heap.size + 1) 29 (arrK .u8 z32) (.array 32 5) rfl rfl (blk_two w (arrK .u8 d) (arrK .u8 z32) 29 29).2 (by kernel_rfl) rfl (by kernel_rfl) rfl ⟨rfl, ((Below.refl _ _).alloc (Nat.le_refl _) _).alloc (by simp) _⟩
set_option maxRecDepth 100000 in
set_option maxHeartbeats 4000000 in
theorem climb_good (d : List Nat) (at0 n0 : Nat) (A : Option Addr) (m c : Nat) (p : List (List Nat)) (w : World) (hd : IsD d) (h1 : 1 ≤ n0) (h2 : n0 ≤ 1099511627776) (h3 : at0 < n0) (hp : p.length = m) (hP : IsL p) (hmc : m ≤ c) (hcm : c ≤ maxLen) (hA : Cells w A (bytesV p.flatten)) :
    Calls Tryz.prog 78 #[.agg (arrK .u8 d), .int .i64 at0, .int .i64 n0, .slice A m c] w fun e w' =>
     (m = (dirsS at0 n0).length → e = .returned (.tuple #[.agg (arrK .u8 (climbS d at0 n0 p)), .int .i64 0])) ∧ (m ≠ (dirsS at0 n0).length → e = .returned (.tuple #[.agg (arrK .u8 z32), .int .i64 1])) ∧ Below w.heap.size w w' := by
 have Hd := Lib.hid hd
 have Hp := Lib.hid hp
 have HP := Lib.hid hP
 have HA := Lib.hid hA
 clear hd hp hP hA
 unfold maxLen at hcm
 have h1I : (1 : Int) ≤ (n0 : Int) := by omega
 have h2I : (n0 : Int) ≤ 1099511627776 := by omega
 have h3I : (at0 : Int) < (n0 : Int) := by omega
 have q1 : decide ((n0 : Int) < 1) = false := by simp; omega
 have q2 : decide ((1099511627776 : Int) < (n0 : Int)) = false := by simp; omega
 have q3 : decide ((at0 : Int) < 0) = false := by simp
 have q4 : decide ((n0 : Int) ≤ (at0 : Int)) = false := by simp; omega
 have q5 : decide (n0 ≤ at0) = false := by simp; omega
 have q6 : decide (n0 < 1) = false := by simp; omega
 have q7 : decide (1099511627776 < n0) = false := by simp; omega
 go_enter Tryz.func78, Tryz.ntmps78
 go_wp2_with (fail)
 generalize hge : World.alloc _ _ = w1
 have HX := Lib.hid (show Blk w1 w.heap.size 29 (arrK .u8 d) by subst hge; exact (blk_two w (arrK .u8 d) (arrK .u8 z32) 29 29).1)
 have HR := Lib.hid (show Blk w1 (w.heap.size + 1) 29 (arrK .u8 z32) by subst hge; exact (blk_two w (arrK .u8 d) (arrK .u8 z32) 29 29).2)
 have HB := Lib.hid (al2 hge)
 clear hge
 obtain ⟨s, hs⟩ : ∃ s, w.heap.size = s := ⟨_, rfl⟩
 have Hs := Lib.hid hs
 rw [hs] at HX HR HB
 rw [hs]
 clear hs
 go_loopw [10, 1, 2] (fun v x y wr => ∃ (at_ n j : Nat) (acc : List Bool) (A' : Option Addr) (c' : Nat), Hid (dirsS at0 n0 = acc ++ dirsS at_ n) ∧ Hid (acc.length = j) ∧ x = .int .i64 at_ ∧ y = .int .i64 n ∧ v = .slice A' j c' ∧ 1 ≤ n ∧ n ≤ n0 ∧ at_ < n ∧ j + n ≤ n0 ∧ Hid (wr.ownsRow w1.heap.size 4 1 (.slice A' j c') j (boolsV acc)) ∧ Hid (Below w1.heap.size w1 wr)) (fun _ _ y _ => (intOf y).toNat)
 case atStart => exact ⟨at0, n0, 0, [], none, 0, rfl, rfl, rfl, rfl, rfl, by omega, by omega, by omega, by omega, by
  show World.ownsRow _ _ _ _ _ _ _
  rw [show boolsV [] = [] by unfold boolsV; rfl]
  exact World.ownsRow_nil _ _ _ _, Below.refl _ _⟩
 case round =>
  obtain ⟨at_, n, j, acc, A', c', Hdir, Hacc, rfl, rfl, rfl, hn1, hn0, hat, hjn, Ho, hb⟩ := hrel
  by_cases hlt : 2 ≤ n
  · have hdn : decide ((1 : Int) < (n : Int)) = true := by simp; omega
    have hdn2 : decide (1 < n) = true := by simp; omega
    have hnI : (n : Int) ≤ 1099511627776 := by omega
    have hk1 := half_lt hlt
    have hk2 := half_pos n
    have HH := Lib.hid (fun W => half_any n W hlt (by omega))
    by_cases hk : at_ < halfN n
    · have hdir := dirsS_lo hlt hk
      generalize halfN n = k at *
      have Hd2 := Lib.hid (show dirsS at0 n0 = (acc ++ [true]) ++ dirsS at_ k by rw [Hdir.out, hdir]; simp)
      clear hdir Hdir
      have hdk : decide ((at_ : Int) < (k : Int)) = true := by simp; omega
      have hdk2 : decide (at_ < k) = true := by simp; omega
      go_wp2_with (first
       | (go_at_call 92; refine (HH.out _).mono ?_; rintro e w' ⟨rfl, rfl⟩)
       | (at_builtin
          refine push1 rfl (.tmp 34) (.tmp 38) 102 rfl w1.heap.size 4 (.bool false) 1 (by kernel_rfl) (by kernel_rfl) rfl (.slice A' j c') j (boolsV acc) (.bool true) Ho.out rfl rfl rfl (by unfold maxLen; omega) (by omega) hb.out.size ?_
          intro v2 w2 hown2 hg2 _
          have hb2 := Lib.hid (below_grown hb.out hg2 hb.out.size (own_base Ho.out))
          obtain ⟨A3, c3, rfl, -, -, -⟩ := own_form hown2
          rw [boolsV_snoc] at hown2
          have Hown2 := Lib.hid hown2
          clear hown2 hg2))
      go_roundw
      case rel => exact ⟨at_, k, j + 1, acc ++ [true], A3, c3, Hd2.out, by show _ = _; simp [Hacc.out], rfl, rfl, rfl, by omega, by omega, by omega, by omega, Hown2.out, hb2.out⟩
      case measure => simp [intOf]; omega
    · have hdir := dirsS_hi hlt hk
      generalize halfN n = k at *
      have Hd2 := Lib.hid (show dirsS at0 n0 = (acc ++ [false]) ++ dirsS (at_ - k) (n - k) by rw [Hdir.out, hdir]; simp)
      clear hdir Hdir
      have hdk : decide ((at_ : Int) < (k : Int)) = false := by simp; omega
      have hdk2 : decide (at_ < k) = false := by simp; omega
      have s1 : (at_ : Int) - (k : Int) = ((at_ - k : Nat) : Int) := by omega
      have s2 : (n : Int) - (k : Int) = ((n - k : Nat) : Int) := by omega
      have s3 : IntKind.i64.wrap ((at_ - k : Nat) : Int) = ((at_ - k : Nat) : Int) := IntWalk.i64_in _ (by omega)
      have s4 : IntKind.i64.wrap ((n - k : Nat) : Int) = ((n - k : Nat) : Int) := IntWalk.i64_in _ (by omega)
      go_wp2_with (first
       | (go_at_call 92; refine (HH.out _).mono ?_; rintro e w' ⟨rfl, rfl⟩)
       | (at_builtin
          refine push1 rfl (.tmp 34) (.tmp 38) 102 rfl w1.heap.size 4 (.bool false) 1 (by kernel_rfl) (by kernel_rfl) rfl (.slice A' j c') j (boolsV acc) (.bool false) Ho.out rfl rfl rfl (by unfold maxLen; omega) (by omega) hb.out.size ?_
          intro v2 w2 hown2 hg2 _
          have hb2 := Lib.hid (below_grown hb.out hg2 hb.out.size (own_base Ho.out))
          obtain ⟨A3, c3, rfl, -, -, -⟩ := own_form hown2
          rw [boolsV_snoc] at hown2
          have Hown2 := Lib.hid hown2
          clear hown2 hg2))
      go_roundw
      case rel => exact ⟨at_ - k, n - k, j + 1, acc ++ [false], A3, c3, Hd2.out, by show _ = _; simp [Hacc.out], rfl, rfl, rfl, by omega, by omega, by omega, by omega, Hown2.out, hb2.out⟩
      case measure => simp [intOf]; omega
  · have hdn : decide ((1 : Int) < (n : Int)) = false := by simp; omega
    have hdn2 : decide (1 < n) = false := by simp; omega
    have Hdirs := Lib.hid (show dirsS at0 n0 = acc by rw [Hdir.out, dirsS_one _ _ (by omega)]; simp)
    have HRr := Lib.hid (HR.out.below hb.out)
    have HBr := Lib.hid (HB.out.trans (hb.out.mono (by have := HB.out.size; have := Hs.out; omega)))
    have HXr := Lib.hid (HX.out.below hb.out)
    by_cases hmj : m = j
    · subst hmj
      have hq : ((m : Int) != (m : Int)) = false := by simp
      have hq2 : (m != m) = false := by simp
      have hmI : (m : Int) ≤ 1099511627776 := by omega
      have ll := Lib.hid (leafS_isD d).1
      go_wp2_with (first
       | (go_at_call 91; refine (leaf_any d _ Hd.out).mono ?_; rintro e w2 ⟨rfl, hb2⟩)
       | (refine wpList_load_blk rfl 29 (.tmp 4) rfl s rfl 29 (arrK .u8 d) (.array 32 5) HXr.out (by kernel_rfl) rfl (info32 Hd.out.1) ?_)
       | (refine wpList_put_blk rfl 29 (.tmp 8) (.tmp 57) rfl (s + 1) (arrK .u8 (leafS d)) rfl rfl 29 (arrK .u8 z32) (HRr.out.below hb2) (info32 ll.out) (by rw [len32 ll.out, len32 z32_length]) (arrK_all _ _) ?_
          intro w3 HX3 hg3 hz3
          have hg13 := Lib.hid (grown_trans (grown_of_below hb2 (some (s + 1))) hg3)
          have HX3 := Lib.hid HX3
          clear hg3 hz3 hb2))
      have hsz1 : s + 1 < w1.heap.size := HR.out.lt
      have hown3 := Ho.out.kept hg13.out (own_ne Ho.out hsz1)
      have Hown3 := Lib.hid hown3
      have HB3 := Lib.hid (below_grown HBr.out hg13.out (by have := HBr.out.size; have := Hs.out; omega) (by simp))
      have lacc := Lib.hid (show acc.reverse.length = m by rw [List.length_reverse, Hacc.out])
      have Hres := Lib.hid (show climbF (leafS d) (acc.reverse.take m) (p.take m) = climbS d at0 n0 p by
       rw [List.take_of_length_le (by rw [List.length_reverse, Hacc.out]; exact Nat.le_refl _), List.take_of_length_le (by rw [Hp.out]; exact Nat.le_refl _), ← Hdirs.out]
       unfold climbS; rfl)
      have hsz3 : s + 1 < w3.heap.size := HX3.out.lt
      clear hown3 HRr HBr HXr Hdir
      go_loopw [60] (fun i wr => ∃ k : Nat, k ≤ m ∧ i = .int .i64 k ∧ Hid (Blk wr (s + 1) 29 (arrK .u8 (climbF (leafS d) (acc.reverse.take k) (p.take k)))) ∧ Hid (w3.grownBy wr (some (s + 1)))) (fun i _ => m - (intOf i).toNat)
      case atStart => exact ⟨0, by omega, rfl, by
       show Blk _ _ _ _
       rw [List.take_zero, List.take_zero, show climbF (leafS d) [] [] = leafS d by unfold climbF; rfl]; exact HX3.out, World.grownBy.refl _ _⟩
      case round =>
       obtain ⟨k, hk, rfl, HXr, hg2⟩ := hrel
       by_cases hlk : k < m
       · have hdk : decide ((k : Int) < (m : Int)) = true := by simp; omega
         have hdk2 : decide (k < m) = true := by simp; omega
         obtain ⟨o, ho⟩ := getElem?_lt (l := p) (k := k) (by rw [Hp.out]; exact hlk)
         obtain ⟨bb, hbb⟩ := getElem?_lt (l := acc.reverse) (k := k) (by rw [lacc.out]; exact hlk)
         have Hpo := Lib.hid ho
         have Do := Lib.hid (HP.out o (List.mem_of_getElem? ho))
         obtain ⟨x, hx⟩ : ∃ x, climbF (leafS d) (acc.reverse.take k) (p.take k) = x := ⟨_, rfl⟩
         have Dx := Lib.hid (show IsD x by rw [← hx]; exact climbF_isD _ _ _ (leafS_isD d))
         rw [hx] at HXr
         have Hx := Lib.hid hx
         have HBk := Lib.hid (below_grown HB3.out hg2.out (by have := HB3.out.size; have := Hs.out; omega) (by simp))
         obtain ⟨pb, po, hA, -, -⟩ := Cells.addr HA.out (by rw [bytesV_length, HP.out.flat_length, Hp.out]; omega)
         have hcr := HA.out.below (show Below w.heap.size w wr by rw [Hs.out]; exact HBk.out)
         rw [hA] at hcr
         have hro := Lib.hid (range_at HP.out hcr ho)
         have HA' := Lib.hid hA
         obtain ⟨g, cap, hv, hgb, hgl3⟩ := Hown3.out.form (by omega)
         injection hv with hA2 _ hc2
         have hgs : g ≠ s + 1 := by omega
         have hgl : g < wr.heap.size := Nat.lt_of_lt_of_le hgl3 hg2.out.size
         have hbk := hbb
         rw [List.getElem?_reverse (by rw [Hacc.out]; exact hlk), Hacc.out] at hbk
         have hbv : (boolsV acc)[m - 1 - k]? = some (.bool bb) := by unfold boolsV; rw [List.getElem?_map, hbk]; rfl
         have ho3 := Hown3.out
         rw [hA2, hc2] at ho3
         have ec := Lib.hid ((World.cell?_of_block (a := ⟨g, m - 1 - k, none⟩) (hg2.out.block g hgl3 (by simp; omega))).trans ((ho3.cellAt (m - 1 - k) (by omega)).trans hbv))
         have hk1 : acc.reverse[k]? = some bb := hbb
         have i1 : (m : Int) - 1 - (k : Int) = ((m - 1 - k : Nat) : Int) := by omega
         have i2 : ((m - 1 - k : Nat) : Int) < (m : Int) := by omega
         have i3 : IntKind.i64.wrap ((m - 1 - k : Nat) : Int) = ((m - 1 - k : Nat) : Int) := IntWalk.i64_in _ (by omega)
         have hkI : (k : Int) < (m : Int) := by omega
         subst hA2
         subst hc2
         subst hA
         clear ho hbb hx hcr hbk hbv ho3 hlk
         cases bb
         · have Hnext := Lib.hid (show climbF (leafS d) (acc.reverse.take (k + 1)) (p.take (k + 1)) = nodeS o x by
             rw [take_snoc hk1, take_snoc Hpo.out, climbF_snoc _ _ _ _ _ (by rw [List.length_take, List.length_take, List.length_reverse, Hacc.out, Hp.out]), Hx.out]; unfold climbStep; rfl)
           have lt := Lib.hid (nodeS_isD o x).1
           clear hk1
           go_wp2_with (first
            | (go_at_call 93; refine (node_any o x _ Do.out Dx.out).mono ?_; rintro e w6 ⟨rfl, hb6⟩; have HX6 := Lib.hid (HX5.out.below hb6); have hg6 := Lib.hid (grown_trans hg5.out (grown_of_below hb6 (some (s + 1)))); clear hb6)
            | (refine wpList_put_blk rfl 29 (.tmp 8) (.tmp 78) rfl (s + 1) (arrK .u8 (nodeS o x)) rfl rfl 29 (arrK .u8 x) HX6.out (info32 lt.out) (by rw [len32 lt.out, len32 Dx.out.1]) (arrK_all _ _) ?_
               intro w7 HX7 hg7 hz7
               have HX7 := Lib.hid HX7
               have hg7 := Lib.hid (grown_trans hg6.out hg7)
               clear hz7)
            | (refine wpList_load_blk rfl 29 (.tmp 8) rfl (s + 1) rfl 29 (arrK .u8 x) (.array 32 5) HX5.out (by kernel_rfl) rfl (info32 Dx.out.1) ?_)
            | (refine wpList_load_blk rfl 29 (.tmp 13) rfl wr.heap.size rfl 29 (arrK .u8 o) (.array 32 5) HO5.out (by kernel_rfl) rfl (info32 Do.out.1) ?_)
            | (refine wpList_put_blk rfl 29 (.tmp 13) (.tmp 64) rfl wr.heap.size (arrK .u8 o) rfl rfl 29 (arrK .u8 z32) (Blk.new wr 29 (arrK .u8 z32)) (info32 Do.out.1) (by rw [len32 Do.out.1, len32 z32_length]) (arrK_all _ _) ?_
               intro w5 HO5 hg5 hz5
               have hb5 : Below wr.heap.size wr w5 := below_grown ((Below.refl wr.heap.size wr).alloc (Nat.le_refl _) (.cells (arrK .u8 z32) 29)) hg5 (by simp) (by simp)
               have HO5 := Lib.hid HO5
               have HX5 := Lib.hid (HXr.out.below hb5)
               have e5 := (hb5.cell (p := ⟨g, m - 1 - k, none⟩) hgl).trans ec.out
               have hg5 := Lib.hid (grown_of_below hb5 (some (s + 1)))
               clear hz5 hb5)
            | (refine wpList_load_mid rfl 29 (.tmp 63) rfl pb (po + k * 32) rfl (o.map fun (n : Nat) => Value.int .u8 (n : Int)) (.array 32 5) hro.out (by kernel_rfl) rfl (dV_info Do.out.1) ?_))
           go_roundw
           case rel => exact ⟨k + 1, by omega, by go_num, by
            show Blk _ _ _ _
            rw [Hnext.out]; exact HX7.out, grown_trans hg2.out hg7.out⟩
           case measure => simp [intOf]; omega
         · have Hnext := Lib.hid (show climbF (leafS d) (acc.reverse.take (k + 1)) (p.take (k + 1)) = nodeS x o by
             rw [take_snoc hk1, take_snoc Hpo.out, climbF_snoc _ _ _ _ _ (by rw [List.length_take, List.length_take, List.length_reverse, Hacc.out, Hp.out]), Hx.out]; unfold climbStep; rfl)
           have lt := Lib.hid (nodeS_isD x o).1
           clear hk1
           go_wp2_with (first
            | (go_at_call 93; refine (node_any x o _ Dx.out Do.out).mono ?_; rintro e w6 ⟨rfl, hb6⟩; have HX6 := Lib.hid (HX5.out.below hb6); have hg6 := Lib.hid (grown_trans hg5.out (grown_of_below hb6 (some (s + 1)))); clear hb6)
            | (refine wpList_put_blk rfl 29 (.tmp 8) (.tmp 75) rfl (s + 1) (arrK .u8 (nodeS x o)) rfl rfl 29 (arrK .u8 x) HX6.out (info32 lt.out) (by rw [len32 lt.out, len32 Dx.out.1]) (arrK_all _ _) ?_
               intro w7 HX7 hg7 hz7
               have HX7 := Lib.hid HX7
               have hg7 := Lib.hid (grown_trans hg6.out hg7)
               clear hz7)
            | (refine wpList_load_blk rfl 29 (.tmp 8) rfl (s + 1) rfl 29 (arrK .u8 x) (.array 32 5) HX5.out (by kernel_rfl) rfl (info32 Dx.out.1) ?_)
            | (refine wpList_load_blk rfl 29 (.tmp 13) rfl wr.heap.size rfl 29 (arrK .u8 o) (.array 32 5) HO5.out (by kernel_rfl) rfl (info32 Do.out.1) ?_)
            | (refine wpList_put_blk rfl 29 (.tmp 13) (.tmp 64) rfl wr.heap.size (arrK .u8 o) rfl rfl 29 (arrK .u8 z32) (Blk.new wr 29 (arrK .u8 z32)) (info32 Do.out.1) (by rw [len32 Do.out.1, len32 z32_length]) (arrK_all _ _) ?_
               intro w5 HO5 hg5 hz5
               have hb5 : Below wr.heap.size wr w5 := below_grown ((Below.refl wr.heap.size wr).alloc (Nat.le_refl _) (.cells (arrK .u8 z32) 29)) hg5 (by simp) (by simp)
               have HO5 := Lib.hid HO5
               have HX5 := Lib.hid (HXr.out.below hb5)
               have e5 := (hb5.cell (p := ⟨g, m - 1 - k, none⟩) hgl).trans ec.out
               have hg5 := Lib.hid (grown_of_below hb5 (some (s + 1)))
               clear hz5 hb5)
            | (refine wpList_load_mid rfl 29 (.tmp 63) rfl pb (po + k * 32) rfl (o.map fun (n : Nat) => Value.int .u8 (n : Int)) (.array 32 5) hro.out (by kernel_rfl) rfl (dV_info Do.out.1) ?_))
           go_roundw
           case rel => exact ⟨k + 1, by omega, by go_num, by
            show Blk _ _ _ _
            rw [Hnext.out]; exact HX7.out, grown_trans hg2.out hg7.out⟩
           case measure => simp [intOf]; omega
       · have hkm : Hid (k = m) := by show k = m; omega
         have hdk : decide ((k : Int) < (m : Int)) = false := by simp; omega
         have hdk2 : decide (k < m) = false := by simp; omega
         have HXf := Lib.hid (show Blk wr (s + 1) 29 (arrK .u8 (climbS d at0 n0 p)) by have := HXr.out; rw [hkm.out, Hres.out] at this; exact this)
         have HBf := Lib.hid (below_grown HB3.out hg2.out (by have := HB3.out.size; have := Hs.out; omega) (by simp))
         have lf := Lib.hid (climbS_isD d at0 n0 p).1
         have heq := Lib.hid (show m = (dirsS at0 n0).length by rw [Hdirs.out, Hacc.out])
         clear HXr
         go_wp2_with (first
          | (refine wpList_load_blk rfl 29 (.tmp 8) rfl (s + 1) rfl 29 (arrK .u8 (climbS d at0 n0 p)) (.array 32 5) HXf.out (by kernel_rfl) rfl (info32 lf.out) ?_)
          | (refine wpList_store_same rfl 29 (.tmp 8) (.tmp 80) rfl (s + 1) (arrK .u8 (climbS d at0 n0 p)) rfl rfl 29 HXf.out (info32 lf.out) (arrK_all _ _) ?_))
         refine ret_row2 rfl (s + 1) 29 (arrK .u8 (climbS d at0 n0 p)) (.array 32 5) rfl rfl HXf.out (by kernel_rfl) rfl (info32 lf.out) rfl ⟨fun _ => rfl, fun h => absurd heq.out h, ?_⟩
         rw [Hs.out]; exact HBf.out
    · have hq : ((m : Int) != (j : Int)) = true := by simp; omega
      have hq2 : (m != j) = true := by simp; omega
      have hne := Lib.hid (show m ≠ (dirsS at0 n0).length by rw [Hdirs.out, Hacc.out]; exact hmj)
      go_wp2_with (first
       | (refine wpList_load_blk rfl 29 (.tmp 8) rfl (s + 1) rfl 29 (arrK .u8 z32) (.array 32 5) HRr.out (by kernel_rfl) rfl (by kernel_rfl) ?_)
       | (refine wpList_store_same rfl 29 (.tmp 8) (.tmp 55) rfl (s + 1) (arrK .u8 z32) rfl rfl 29 HRr.out (by kernel_rfl) (arrK_all _ _) ?_))
      refine ret_row2 rfl (s + 1) 29 (arrK .u8 z32) (.array 32 5) rfl rfl HRr.out (by kernel_rfl) rfl (by kernel_rfl) rfl ⟨fun h => absurd h hne.out, fun _ => rfl, ?_⟩
      rw [Hs.out]; exact HBr.out
end Go.Proofs.YtkflpoiobpblhaaGreat
