/- The chapter's sane. -/
import Derived.Test.YtcijhakofoklcaaClimb
import Derived.Laws.EntriesVeiled
namespace Go.Proofs.Ytcijhakofoklcaa
open Go.RowKit
theorem climb_any (d : List Nat) (at_ n : Int) (A : Option Addr) (m c : Nat) (p : List (List Nat)) (w : World) (hd : IsD d) (hp : p.length = m) (hP : IsL p) (hmc : m ≤ c) (hcm : c ≤ maxLen) (hA : Cells w A (bytesV p.flatten)) :
    Calls Try.prog 53 #[.agg (arrK .u8 d), .int .i64 at_, .int .i64 n, .slice A m c] w fun e w' =>
      e = .returned (.tuple #[.agg (arrK .u8 (climbR d at_ n p)), .int .i64 (errArg (okClimb at_ n m))]) ∧ Below w.heap.size w w' := by
  by_cases hb : 1 ≤ n ∧ n ≤ 1099511627776 ∧ 0 ≤ at_ ∧ at_ < n
  · obtain ⟨h1, h2, h3, h4⟩ := hb
    obtain ⟨n0, rfl⟩ := Int.eq_ofNat_of_zero_le (show 0 ≤ n by omega)
    obtain ⟨a0, rfl⟩ := Int.eq_ofNat_of_zero_le h3
    refine (climb_good d a0 n0 A m c p w hd (by omega) (by omega) (by omega) hp hP hmc hcm hA).mono ?_
    rintro e w' ⟨g1, g2, g3⟩
    refine ⟨?_, g3⟩
    have hall : decide ((1 : Int) ≤ (n0 : Int) ∧ (n0 : Int) ≤ 1099511627776 ∧ 0 ≤ (a0 : Int) ∧ (a0 : Int) < (n0 : Int)) = true := decide_eq_true ⟨h1, h2, h3, h4⟩
    by_cases hm : m = (dirsS a0 n0).length
    · rw [g1 hm]
      have hok : okClimb a0 n0 m = true := by unfold okClimb; rw [hall]; simp [hm]
      unfold climbR
      rw [hp, hok]
      unfold errArg; rfl
    · rw [g2 hm]
      have hok : okClimb a0 n0 m = false := by unfold okClimb; rw [hall]; simp [hm]
      unfold climbR
      rw [hp, hok]
      unfold errArg; rfl
  · refine (climb_bad d at_ n A m c w hd hb).mono ?_
    rintro e w' ⟨g1, g3⟩
    refine ⟨?_, g3⟩
    have hok : okClimb at_ n m = false := by unfold okClimb; rw [decide_eq_false hb]; rfl
    rw [g1]
    unfold climbR
    rw [hp, hok]
    unfold errArg; rfl
theorem path_none (at_ : Int) (A : Option Addr) (m c : Nat) (w : World) (h : at_ < 0 ∨ (m : Int) ≤ at_) :
    Calls Try.prog 43 #[.slice A m c, .int .i64 at_] w fun e w' => e = .returned (.tuple #[.slice none 0 0, .int .i64 1]) ∧ w = w' := by
  have h' : at_ < 0 ∨ (0 ≤ at_ ∧ (m : Int) ≤ at_) := by omega
  clear h
  rcases h' with h | ⟨h0, h⟩
  · go_enter Try.func43, Try.ntmps43
    go_wp2_with (fail)
    go_ret2
    exact ⟨rfl, rfl⟩
  · go_enter Try.func43, Try.ntmps43
    go_wp2_with (fail)
    go_ret2
    exact ⟨rfl, rfl⟩
theorem grow_none (n : Int) (A : Option Addr) (m c : Nat) (w : World) (h : n < 1 ∨ (m : Int) < n) :
    Calls Try.prog 34 #[.slice A m c, .int .i64 n] w fun e w' => e = .returned (.tuple #[.slice none 0 0, .int .i64 1]) ∧ Below w.heap.size w w' := by
  have h' : n < 1 ∨ (1 ≤ n ∧ (m : Int) < n) := by omega
  clear h
  rcases h' with h | ⟨h0, h⟩
  all_goals
    go_enter Try.func34, Try.ntmps34
    go_wp2_with (fail)
    refine bodyPost_ret_by (v := .tuple #[.slice none 0 0, .int .i64 1]) ?_ rfl ⟨rfl, ?_⟩
    · simp [results, asAddr, go_sem]
    · exact ((Below.refl _ _).alloc (Nat.le_refl _) _)
/-- Two cells, as results. -/
theorem ret_rows2 {P : Program} {fn : Func} {R : Ending → World → Prop} {a : Act} {w : World} {p q : Tmp} {ty : TypeId} (h : fn.results = #[.cell p ty, .cell q ty]) (g g2 : Nat) (t t2 : TypeId) (cs cs2 : Array Value) (d : TypeDesc)
    (hp : a.tmps.getD p undef = .pointer (some ⟨g, 0, none⟩)) (hq : a.tmps.getD q undef = .pointer (some ⟨g2, 0, none⟩)) (hg : Blk w g t cs) (hg2 : Blk w g2 t2 cs2) (hu : P.underlying ty = some d) (hd : (match d with | .struct _ | .array _ _ => true | _ => false) = true)
    (hi : (P.info? ty).map (·.size) = some cs.size) (hi2 : (P.info? ty).map (·.size) = some cs2.size) (hdf : a.defers = []) (hR : R (.returned (.tuple #[.agg cs, .agg cs2])) w) : bodyPost P fn R .ret a w := by
  refine bodyPost_ret (v := .tuple #[.agg cs, .agg cs2]) ?_ hdf hR
  have hp' : a.tmps[p]?.getD undef = .pointer (some ⟨g, 0, none⟩) := by simpa using hp
  have hq' : a.tmps[q]?.getD undef = .pointer (some ⟨g2, 0, none⟩) := by simpa using hq
  simp [results, h, hp', hq', asAddr, run_loadVar_row w g t ty cs (0, 0) d hg hu hd hi, run_loadVar_row w g2 t2 ty cs2 (0, 0) d hg2 hu hd hi2]
theorem blk_setCells_far {g g' : Nat} {t : TypeId} {cs : Array Value} (hne : g ≠ g') : ∀ (l : List Value) (o : Nat) (w : World), Blk w g t cs → Blk (w.setCells g' o l) g t cs
  | [], _, _, h => h
  | v :: l, o, w, h => blk_setCells_far hne l (o + 1) _ (h.far (by simpa using hne) v)
theorem range_blk {w : World} {g : Nat} {t : TypeId} {d : List Nat} (h : Blk w g t (arrK .u8 d)) : w.rangeAt g 0 (d.map fun (n : Nat) => Value.int .u8 (n : Int)) := rangeAt_arr h
theorem there32 {w : World} {g : Nat} {t : TypeId} {cs : Array Value} (h : Blk w g t cs) (hs : cs.size = 32) : w.there g 0 32 := by
  have := there_blk h
  rwa [hs] at this
set_option linter.unusedSimpArgs false in
set_option maxRecDepth 100000 in
set_option maxHeartbeats 4000000 in
theorem both_whole (n : Int) (a : List Nat) (B T O : Nat) (w : World) (ha : IsD a) (hB : Blk w B 37 (arrK .u8 a)) :
    Calls Try.prog 68 #[.int .i64 n, .int .i64 n, .bool true, .pointer (some ⟨B, 0, none⟩), .pointer (some ⟨T, 0, none⟩), .pointer (some ⟨O, 0, none⟩)] w fun e w' =>
      e = .returned (.tuple #[.agg (arrK .u8 a), .agg (arrK .u8 a)]) ∧ Below w.heap.size w w' := by
  have Ha := Lib.hid ha
  have HB := Lib.hid hB
  have hq : (n == n) = true := by simp
  clear ha hB
  go_enter Try.func68, Try.ntmps68
  go_wp2_with (fail)
  generalize hge : World.alloc _ _ = w1
  have H1 := Lib.hid (show Blk w1 w.heap.size 37 (arrK .u8 z32) by subst hge; exact (blk_two w (arrK .u8 z32) (arrK .u8 z32) 37 37).1)
  have H2 := Lib.hid (show Blk w1 (w.heap.size + 1) 37 (arrK .u8 z32) by subst hge; exact (blk_two w (arrK .u8 z32) (arrK .u8 z32) 37 37).2)
  have HBw := Lib.hid (show Below w.heap.size w w1 by subst hge; exact ((Below.refl _ _).alloc (Nat.le_refl _) _).alloc (by simp) _)
  have HB1 := HB.out.below HBw.out
  have hBlt := HB.out.lt
  clear hge
  have hne1 : B ≠ w.heap.size := by omega
  have hne2 : B ≠ w.heap.size + 1 := by omega
  refine wp_region_held (S := fun W => Blk W B 37 (arrK .u8 a)) (by kernel_rfl) ?_
  refine wpAnyH_take (i := 0) rfl (by kernel_rfl) (by kernel_rfl) (by kernel_rfl) (fun _ _ _ h => h) (yieldsIf_load_mid rfl _ _ rfl _ _ rfl (a.map fun (n : Nat) => Value.int .u8 (n : Int)) (.array 32 5) (fun W hW => range_blk hW) (by kernel_rfl) rfl (dV_info Ha.out.1)) (HB1.drewN 1) ?_
  simp only [List.getElem_toArray, List.getElem_cons_zero, List.getElem_cons_succ, Act.put, List.setIfInBounds_toArray, List.set_cons_zero, List.set_cons_succ]
  refine wpAnyH_take (i := 1) rfl (by kernel_rfl) (by kernel_rfl) (by kernel_rfl) (fun _ _ _ h => h) (yieldsIf_load_mid rfl _ _ rfl _ _ rfl (a.map fun (n : Nat) => Value.int .u8 (n : Int)) (.array 32 5) (fun W hW => range_blk hW) (by kernel_rfl) rfl (dV_info Ha.out.1)) (HB1.drewN 1) ?_
  simp only [List.getElem_toArray, List.getElem_cons_zero, List.getElem_cons_succ, Act.put, List.setIfInBounds_toArray, List.set_cons_zero, List.set_cons_succ]
  refine wpAnyH_ready (rs := [2]) (by kernel_rfl) (by simp) (AllReadyH.cons rfl (fun K hK => ?_) AllReadyH.nil)
  refine step_put_blk rfl _ _ _ rfl _ (arrK .u8 a) rfl rfl _ _ (H1.out.drewN 1) (info32 Ha.out.1) (by rw [len32 Ha.out.1, len32 z32_length]) (arrK_all _ _) ?_
  intro w2 HD2 hg2 hz2
  refine hK.out _ _ ((HB1.drewN 1).grown hg2 (by simpa using hne1)) fun _ => ?_
  clear hK
  simp only [List.getElem_toArray, List.getElem_cons_zero, List.getElem_cons_succ, Act.put, List.setIfInBounds_toArray, List.set_cons_zero, List.set_cons_succ]
  refine wpAnyH_ready (rs := [3]) (by kernel_rfl) (by simp) (AllReadyH.cons rfl (fun K hK => ?_) AllReadyH.nil)
  refine step_put_blk rfl _ _ _ rfl _ (arrK .u8 a) rfl rfl _ _ ((H2.out.drewN 1).grown hg2 (by simp)) (info32 Ha.out.1) (by rw [len32 Ha.out.1, len32 z32_length]) (arrK_all _ _) ?_
  intro w3 HD3 hg3 hz3
  refine hK.out _ _ (((HB1.drewN 1).grown hg2 (by simpa using hne1)).grown hg3 (by simpa using hne2)) fun _ => ?_
  clear hK
  simp only [List.getElem_toArray, List.getElem_cons_zero, List.getElem_cons_succ, Act.put, List.setIfInBounds_toArray, List.set_cons_zero, List.set_cons_succ]
  refine wpAnyH_done (by kernel_rfl) ?_ _
  have HD2' := HD2.grown hg3 (by simp)
  have hb1 : Below w.heap.size w w1.drew := HBw.out.trans (((Drawn.refl w1).drewN 1).below _)
  have hb2 := below_grown hb1 hg2 hb1.size (by simp)
  have hb3 := below_grown hb2 hg3 hb2.size (by simp)
  clear hg2 hg3 hz2 hz3 HD2
  go_wp2_with (fail)
  exact ret_rows2 rfl w.heap.size (w.heap.size + 1) 37 37 (arrK .u8 a) (arrK .u8 a) (.array 32 5) rfl rfl HD2' HD3 (by kernel_rfl) rfl (info32 Ha.out.1) (info32 Ha.out.1) rfl ⟨rfl, hb3⟩
theorem wpList_load_blk_g {P : Program} {w : World} {ops : Array Oper} {rest : List Oper} {o : Oper} {a : Act} {Q : Exit → Act → World → Prop} (ty : TypeId) (x : Operand) (ho : o.op = .load ty x) (hw : Region.wanted o (yielded ops a.tmps) = true)
    (g : Nat) (hx : a.eval x = .pointer (some ⟨g, 0, none⟩)) (t : TypeId) (cs : Array Value) (d : TypeDesc) (hg : Blk w g t cs)
    (hu : P.underlying ty = some d) (hd : (match d with | .struct _ | .array _ _ => true | _ => false) = true) (hi : (P.info? ty).map (·.size) = some cs.size)
    (h : wpList P ops Q rest (a.put o.dst (.agg cs)) w) : wpList P ops Q (o :: rest) a w :=
  wpList_step fun _ hK => by rw [if_pos hw]; exact wp_load_row ty x ho g hx t cs (0, 0) d hg hu hd hi (hK _ _ h)
set_option maxRecDepth 100000 in
set_option maxHeartbeats 4000000 in
/-- Grew at one and one: the two digests are equal. -/
theorem grew_one (a b : List Nat) (w : World) (ha : IsD a) (hb : IsD b) :
    Calls Try.prog 38 #[.agg (arrK .u8 a), .agg (arrK .u8 b), .int .i64 1, .int .i64 1, .slice none 0 0] w fun e w' => e = .returned (.bool (decide (a = b))) ∧ Below w.heap.size w w' := by
  have Ha := Lib.hid ha
  have Hb := Lib.hid hb
  clear ha hb
  obtain ⟨r, hr⟩ : ∃ r, decide (a = b) = r := ⟨_, rfl⟩
  rw [hr]
  have Hr := Lib.hid hr
  clear hr
  go_enter Try.func38, Try.ntmps38
  go_wp2_with (fail)
  generalize hge : World.alloc _ _ = w1
  have hB1 : Blk w1 w.heap.size 37 (arrK .u8 a) := by subst hge; exact ((((((Blk.new w 37 (arrK .u8 a)).alloc _).alloc _).alloc _).alloc _).alloc _)
  have hB2 : Blk w1 (w.heap.size + 1) 37 (arrK .u8 b) := by
    subst hge
    exact (((((blk_two w (arrK .u8 a) (arrK .u8 b) 37 37).2.alloc _).alloc _).alloc _).alloc _)
  have hB3 : Blk w1 (w.heap.size + 1 + 1) 28 #[.slice none 0 0] := by
    subst hge
    exact ((((blk_three w (arrK .u8 a) (arrK .u8 b) #[.slice none 0 0] 37 37 28).2.2.1.alloc _).alloc _).alloc _)
  have hB4 : Blk w1 (w.heap.size + 1 + 1 + 1) 4 #[.bool true] := by
    subst hge
    exact (((blk_four w (arrK .u8 a) (arrK .u8 b) #[.slice none 0 0] #[.bool true] 37 37 28 4).2.2.2.1.alloc _).alloc _)
  have hBw : Below w.heap.size w w1 := by
    subst hge
    exact (((((((Below.refl _ _).alloc (Nat.le_refl _) _).alloc (by simp) _).alloc (by simp; omega) _).alloc (by simp; omega) _).alloc (by simp; omega) _).alloc (by simp; omega) _)
  clear hge
  refine (both_whole 1 a _ _ _ w1 Ha.out hB1).mono ?_
  rintro e w2 ⟨rfl, hb2⟩
  have hB12 := hB1.below hb2
  have hB22 := hB2.below hb2
  have hB32 := hB3.below hb2
  have hB42 := hB4.below hb2
  have hBw2 := hBw.trans (hb2.mono hBw.size)
  have hE1 : ∀ W, (Op.equalIn 10000 37 (.agg (arrK .u8 a)) (.agg (arrK .u8 a))).run Try.prog W = .ok true W := fun W => by
    have := run_eqD Ha.out Ha.out W
    simpa using this
  have hE2 : ∀ W, (Op.equalIn 10000 37 (.agg (arrK .u8 a)) (.agg (arrK .u8 b))).run Try.prog W = .ok r W := fun W => by
    have := run_eqD Ha.out Hb.out W
    rwa [Hr.out] at this
  have HB12 := Lib.hid hB12; have HB22 := Lib.hid hB22; have HB32 := Lib.hid hB32; have HB42 := Lib.hid hB42; have HBw2 := Lib.hid hBw2
  have l4 := hB42.lt
  clear hb2 hB1 hB2 hB3 hB4 hBw hB12 hB22 hB32 hB42 hBw2
  go_wp2_with (first
    | (refine wpList_load_blk_g 37 (.tmp 5) (by rfl) (by kernel_rfl) w.heap.size rfl 37 (arrK .u8 a) (.array 32 5) HB13.out (by kernel_rfl) rfl (info32 Ha.out.1) ?_)
    | (refine wpList_load_blk_g 37 (.tmp 6) (by rfl) (by kernel_rfl) (w.heap.size + 1) rfl 37 (arrK .u8 b) (.array 32 5) HB23.out (by kernel_rfl) rfl (info32 Hb.out.1) ?_)
    | (refine wpList_load_blk_g 37 (.tmp 14) (by rfl) (by kernel_rfl) w2.heap.size rfl 37 (arrK .u8 a) (.array 32 5) HX3.out (by kernel_rfl) rfl (info32 Ha.out.1) ?_)
    | (refine wpList_load_blk_g 37 (.tmp 15) (by rfl) (by kernel_rfl) (w2.heap.size + 1) rfl 37 (arrK .u8 a) (.array 32 5) HY3.out (by kernel_rfl) rfl (info32 Ha.out.1) ?_)
    | (refine wpList_put_blk rfl 37 (.tmp 15) (.tmp 35) rfl (w2.heap.size + 1) (arrK .u8 a) rfl rfl 37 (arrK .u8 z32) HY.out (info32 Ha.out.1) (by rw [len32 Ha.out.1, len32 z32_length]) (arrK_all _ _) ?_
       intro w4 HY4 hg4 hz4
       have HX3 := Lib.hid (HX.out.grown hg4 (by simp)); have HY3 := Lib.hid HY4
       have hb4 := below_grown hb3.out hg4 hb3.out.size (by simp)
       have HB13 := Lib.hid (HB12.out.below hb4); have HB23 := Lib.hid (HB22.out.below hb4)
       have e30 := (HB32.out.below hb4).cell 0; have e4 := (HB42.out.below hb4).cell 0
       have e30' : w4.cell? ⟨w.heap.size + 1 + 1, 0, none⟩ = some (.slice none 0 0) := e30
       have e4' : w4.cell? ⟨w.heap.size + 1 + 1 + 1, 0, none⟩ = some (.bool true) := e4
       have HBf := Lib.hid (HBw2.out.trans (hb4.mono HBw2.out.size))
       clear hg4 hz4 hb4 e30 e4 HY4)
    | (refine wpList_put_blk rfl 37 (.tmp 14) (.tmp 34) rfl w2.heap.size (arrK .u8 a) rfl rfl 37 (arrK .u8 z32) (blk_two w2 (arrK .u8 z32) (arrK .u8 z32) 37 37).1 (info32 Ha.out.1) (by rw [len32 Ha.out.1, len32 z32_length]) (arrK_all _ _) ?_
       intro w3 HX3' hg3 hz3
       have HX := Lib.hid HX3'
       have HY := Lib.hid ((blk_two w2 (arrK .u8 z32) (arrK .u8 z32) 37 37).2.grown hg3 (by simp))
       have hb3 := Lib.hid (show Below w2.heap.size w2 w3 from below_grown (((Below.refl w2.heap.size w2).alloc (Nat.le_refl _) (.cells (arrK .u8 z32) 37)).alloc (by simp) (.cells (arrK .u8 z32) 37)) hg3 (by simp; omega) (by simp))
       clear hg3 hz3 HX3'))
  go_ret
  exact ⟨rfl, HBf.out⟩
theorem sha_abc : sha [97, 98, 99] = sha [97, 98, 99] ∧ (sha [97, 98, 99]).getD 0 0 = 58 ∧ (sha [97, 98, 99]).getD 1 0 = 152 ∧ (sha [97, 98, 99]).getD 2 0 = 93 ∧ (sha [97, 98, 99]).getD 3 0 = 167 := by
  have h : (sha [97, 98, 99]).take 4 = [58, 152, 93, 167] := by decide +kernel
  have hg : ∀ k, k < 4 → (sha [97, 98, 99]).getD k 0 = [58, 152, 93, 167].getD k 0 := fun k hk => by
    rw [← h, List.getD_eq_getElem?_getD, List.getD_eq_getElem?_getD, List.getElem?_take, if_pos hk]
  exact ⟨rfl, hg 0 (by decide), hg 1 (by decide), hg 2 (by decide), hg 3 (by decide)⟩
theorem sha_nil : (sha []).getD 0 0 = 167 ∧ (sha []).getD 1 0 = 255 ∧ (sha []).getD 2 0 = 198 ∧ (sha []).getD 3 0 = 248 := by
  have h : (sha []).take 4 = [167, 255, 198, 248] := by decide +kernel
  have hg : ∀ k, k < 4 → (sha []).getD k 0 = [167, 255, 198, 248].getD k 0 := fun k hk => by
    rw [← h, List.getD_eq_getElem?_getD, List.getD_eq_getElem?_getD, List.getElem?_take, if_pos hk]
  exact ⟨hg 0 (by decide), hg 1 (by decide), hg 2 (by decide), hg 3 (by decide)⟩
end Go.Proofs.Ytcijhakofoklcaa
