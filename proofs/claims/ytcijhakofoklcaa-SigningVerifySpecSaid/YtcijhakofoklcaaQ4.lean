/- The statement SigningVerifySpecSaid: for every public key, number, message and signature, Verify agrees with the reference; no condition beside the row's own. -/
import Derived.Test.YtcijhakofoklcaaSigR7
import Derived.Test.YtcijhakofoklcaaRow5
import Derived.ChangeMaps5
import Derived.BigGuardPart
namespace Go.Proofs.Ytcijhakofoklcaa
open Go.RowKit Go.WideShapes Go.ChangeShapes Go.ChangeAt
set_option linter.unusedSimpArgs false in
set_option maxRecDepth 100000 in
set_option maxHeartbeats 4000000 in
theorem short_any (i : Int) (Ao Ac Ap : Option Addr) (no co nc cc q cp : Nat) (w : World) :
    Calls Try.prog 20 #[.agg #[.int .i64 i, .slice Ao no co, .slice Ac nc cc, .slice Ap q cp]] w fun e w' => e = .returned (.bool (decide (no ≤ 100 ∧ nc ≤ 100 ∧ q ≤ 20))) ∧ Below w.heap.size w w' := by
  go_enter Try.func20, Try.ntmps20
  go_wp2_with (fail)
  all_goals
    go_ret
    exact ⟨ret_bool (by first | (simp only [decide_eq_decide, false_eq_decide_iff]; omega) | (simp; omega) | (rw [eq_comm, decide_eq_true_eq]; omega) | (rw [eq_comm, decide_eq_false_iff_not]; omega)), (Below.refl _ _).alloc (Nat.le_refl _) _⟩
theorem ver_same (root : List Nat) (n i : Int) (A : Option Addr) (k c : Nat) (msg : List Nat) (Ao Ac Ap : Option Addr) (no co nc cc q cp : Nat) (o cl p : List (List Nat)) (w : World) (hr : IsD root) (hA : Cells w A (bytesV msg)) (hm : msg.length = k) (h8 : ByteL msg) (ho : o.length = no) (hc : cl.length = nc) (hp : p.length = q) (hqc : q ≤ cp) (hcm : cp ≤ maxLen)
    (hAo : Cells w Ao (bytesV o.flatten)) (hAc : Cells w Ac (bytesV cl.flatten)) (hAp : Cells w Ap (bytesV p.flatten)) (hO : IsL o) (hC : IsL cl) (hP : IsL p) :
    ∃ b : Bool, (∀ W, Below w.heap.size w W → Calls Try.prog 21 #[.agg (arrK .u8 root), .int .i64 n, .slice A k c, .agg #[.int .i64 i, .slice Ao no co, .slice Ac nc cc, .slice Ap q cp]] W fun e w' => e = .returned (.bool b) ∧ Below W.heap.size W w') ∧
      (∀ W, Below w.heap.size w W → Calls Try.prog 22 #[.agg (arrK .u8 root), .int .i64 n, .slice A k c, .agg #[.int .i64 i, .slice Ao no co, .slice Ac nc cc, .slice Ap q cp]] W fun e w' => e = .returned (.bool b) ∧ Below W.heap.size W w') := by
  by_cases hg : 1 ≤ n ∧ n ≤ 4096 ∧ 0 ≤ i ∧ i < n ∧ no = 64 ∧ nc = 64 ∧ k ≤ 65536
  · obtain ⟨h1, h2, h3, h4, rfl, rfl, h7⟩ := hg
    obtain ⟨n0, rfl⟩ := Int.eq_ofNat_of_zero_le (show 0 ≤ n by omega)
    obtain ⟨i0, rfl⟩ := Int.eq_ofNat_of_zero_le h3
    exact ⟨verS root n0 i0 msg o cl p,
      fun W hW => Verify_good root n0 i0 msg A k c o cl p Ao Ac Ap co cc q cp W hr (by omega) (by omega) (by omega) (hA.below hW) hm h7 h8 ho hc hp hO hC hP (hAo.below hW) (hAc.below hW) (hAp.below hW) hqc hcm,
      fun W hW => rVerify_good root n0 i0 msg A k c o cl p Ao Ac Ap co cc q cp W hr (by omega) (by omega) (by omega) (hA.below hW) hm h7 h8 ho hc hp hO hC hP (hAo.below hW) (hAc.below hW) (hAp.below hW) hqc hcm⟩
  · exact ⟨false, fun W _ => Verify_bad root n i A k c Ao Ac Ap no co nc cc q cp W hg, fun W _ => rVerify_bad root n i A k c Ao Ac Ap no co nc cc q cp W hg⟩
set_option linter.unusedSimpArgs false in
set_option maxRecDepth 100000 in
set_option maxHeartbeats 4000000 in
theorem SigningVerifySpec_short (root : List Nat) (n i : Int) (A : Option Addr) (k c : Nat) (Ao Ac Ap : Option Addr) (no co nc cc q cp : Nat) (w : World) (h1 : (300 : Int) < (k : Int)) (h2 : (k : Int) ≤ 65536) :
    Calls Try.prog 4 #[.agg (arrK .u8 root), .int .i64 n, .slice A k c, .agg #[.int .i64 i, .slice Ao no co, .slice Ac nc cc, .slice Ap q cp]] w (Fine w) := by
  go_enter Try.func4, Try.ntmps4
  go_wp2_with (fail)
  generalize hge : World.alloc _ _ = w0
  have HRt := Lib.hid (show Blk w0 w.heap.size 37 (arrK .u8 root) by subst hge; exact (blk_two w (arrK .u8 root) #[.int .i64 i, .slice Ao no co, .slice Ac nc cc, .slice Ap q cp] 37 30).1)
  have HS := Lib.hid (show Blk w0 (w.heap.size + 1) 30 #[.int .i64 i, .slice Ao no co, .slice Ac nc cc, .slice Ap q cp] by subst hge; exact (blk_two w (arrK .u8 root) #[.int .i64 i, .slice Ao no co, .slice Ac nc cc, .slice Ap q cp] 37 30).2)
  have HB := Lib.hid (show Below w.heap.size w w0 by subst hge; exact below_two (Below.refl _ _) (Nat.le_refl _) _ _)
  clear hge
  refine (ssane_any w0).mono ?_
  rintro e w1 ⟨rfl, hb1⟩
  have HRt1 := Lib.hid (HRt.out.below hb1)
  have HS1 := Lib.hid (HS.out.below hb1)
  have HB1 := Lib.hid (below_of HB.out hb1 HB.out.size)
  have k0 := HS1.out.cellv (i := 0) rfl
  have k1 := HS1.out.cellv (i := 1) rfl
  have k2 := HS1.out.cellv (i := 2) rfl
  have k3 := HS1.out.cellv (i := 3) rfl
  clear hb1
  go_wp2_with (fail)
  go_ret
  exact ⟨rfl, HB1.out⟩
set_option linter.unusedSimpArgs false in
set_option maxRecDepth 100000 in
set_option maxHeartbeats 4000000 in
theorem SigningVerifySpec_rest (root : List Nat) (n i : Int) (A : Option Addr) (k c : Nat) (msg : List Nat) (Ao Ac Ap : Option Addr) (no co nc cc q cp : Nat) (o cl p : List (List Nat)) (w : World) (hk : (k : Int) ≤ 300 ∨ ((300 : Int) < (k : Int) ∧ (65536 : Int) < (k : Int))) (hr : IsD root) (hA : Cells w A (bytesV msg)) (hm : msg.length = k) (h8 : ByteL msg) (ho : o.length = no) (hc : cl.length = nc) (hp : p.length = q) (hqc : q ≤ cp) (hcm : cp ≤ maxLen)
    (hAo : Cells w Ao (bytesV o.flatten)) (hAc : Cells w Ac (bytesV cl.flatten)) (hAp : Cells w Ap (bytesV p.flatten)) (hO : IsL o) (hC : IsL cl) (hP : IsL p) :
    Calls Try.prog 4 #[.agg (arrK .u8 root), .int .i64 n, .slice A k c, .agg #[.int .i64 i, .slice Ao no co, .slice Ac nc cc, .slice Ap q cp]] w (Fine w) := by
  obtain ⟨b, hV1, hV2⟩ := ver_same root n i A k c msg Ao Ac Ap no co nc cc q cp o cl p w hr hA hm h8 ho hc hp hqc hcm hAo hAc hAp hO hC hP
  have HV1 := Lib.hid hV1
  have HV2 := Lib.hid hV2
  have Hr := Lib.hid hr
  have HSh := Lib.hid (fun W => short_any i Ao Ac Ap no co nc cc q cp W)
  clear hV1 hV2 hr hA hm h8 ho hc hp hqc hcm hAo hAc hAp hO hC hP
  generalize decide (no ≤ 100 ∧ nc ≤ 100 ∧ q ≤ 20) = s at *
  have hb1 : (b == b) = true := by simp
  rcases hk with hk | ⟨hk, hk2⟩
  all_goals
    go_enter Try.func4, Try.ntmps4
    go_wp2_with (fail)
    generalize hge : World.alloc _ _ = w0
    have HRt := Lib.hid (show Blk w0 w.heap.size 37 (arrK .u8 root) by subst hge; exact (blk_two w (arrK .u8 root) #[.int .i64 i, .slice Ao no co, .slice Ac nc cc, .slice Ap q cp] 37 30).1)
    have HS := Lib.hid (show Blk w0 (w.heap.size + 1) 30 #[.int .i64 i, .slice Ao no co, .slice Ac nc cc, .slice Ap q cp] by subst hge; exact (blk_two w (arrK .u8 root) #[.int .i64 i, .slice Ao no co, .slice Ac nc cc, .slice Ap q cp] 37 30).2)
    have HB := Lib.hid (show Below w.heap.size w w0 by subst hge; exact below_two (Below.refl _ _) (Nat.le_refl _) _ _)
    clear hge
    refine (ssane_any w0).mono ?_
    rintro e w1 ⟨rfl, hb1⟩
    have HRt1 := Lib.hid (HRt.out.below hb1)
    have HS1 := Lib.hid (HS.out.below hb1)
    have HB1 := Lib.hid (below_of HB.out hb1 HB.out.size)
    have k0 := HS1.out.cellv (i := 0) rfl
    have k1 := HS1.out.cellv (i := 1) rfl
    have k2 := HS1.out.cellv (i := 2) rfl
    have k3 := HS1.out.cellv (i := 3) rfl
    clear hb1
    go_wp2_with (fail)
    refine (HSh.out w1).mono ?_
    rintro e w2 ⟨rfl, hb2⟩
    have HRt2 := Lib.hid (HRt1.out.below hb2)
    have HS2 := Lib.hid (HS1.out.below hb2)
    have HB2 := Lib.hid (below_of HB1.out hb2 HB1.out.size)
    clear k0 k1 k2 k3 hb2
    have ltS := HS2.out.lt
    have k0 := HS2.out.cellv (i := 0) rfl
    have k1 := HS2.out.cellv (i := 1) rfl
    have k2 := HS2.out.cellv (i := 2) rfl
    have k3 := HS2.out.cellv (i := 3) rfl
    cases s with
    | false =>
    go_wp2_with (fail)
    go_ret
    exact ⟨rfl, HB2.out⟩
    | true =>
    go_upto_region 5 with (fail)
    refine wp_region_held_drew (S := fun W => Below w2.heap.size w2 W) (by kernel_rfl) (below_drewN (Below.refl _ _) 1) (fun Hd => ?_)
    have Hd : Below w2.heap.size w2 w2.drew := below_drewN (Below.refl _ _) 1
    have Zd : w2.heap.size ≤ w2.drew.heap.size := Nat.le_refl _
    generalize World.drew w2 = wd at *
    refine wpAnyH_take (i := 0) (v := .agg (arrK .u8 root)) rfl (by kernel_rfl) (by kernel_rfl) (by kernel_rfl) (fun _ _ _ h => h) (yields_load_blk (by rfl) _ _ rfl ((w.heap.size)) rfl 37 (arrK .u8 root) (.array 32 5) (fun W hW => HRt2.out.below hW) (by kernel_rfl) rfl (info32 Hr.out.1)) Hd ?_
    try simp only [List.getElem_toArray, List.getElem_cons_zero, List.getElem_cons_succ, Act.put, List.setIfInBounds_toArray, List.set_cons_zero, List.set_cons_succ]
    refine wpAnyH_take (i := 1) (v := ?_) rfl (by kernel_rfl) (by kernel_rfl) (by kernel_rfl) (fun _ _ _ h => h) (Or.inl ⟨by rfl, ?_⟩) Hd ?_
    rotate_left
    · intro wS hSw
      go_simp
      try with_reducible rfl
    try simp only [List.getElem_toArray, List.getElem_cons_zero, List.getElem_cons_succ, Act.put, List.setIfInBounds_toArray, List.set_cons_zero, List.set_cons_succ]
    refine wpAnyH_take (i := 2) (v := ?_) rfl (by kernel_rfl) (by kernel_rfl) (by kernel_rfl) (fun _ _ _ h => h) (Or.inl ⟨by rfl, ?_⟩) Hd ?_
    rotate_left
    · intro wS hSw
      go_simp
      try with_reducible rfl
    try simp only [List.getElem_toArray, List.getElem_cons_zero, List.getElem_cons_succ, Act.put, List.setIfInBounds_toArray, List.set_cons_zero, List.set_cons_succ]
    refine wpAnyH_take (i := 3) (v := ?_) rfl (by kernel_rfl) (by kernel_rfl) (by kernel_rfl) (fun _ _ _ h => h) (Or.inl ⟨by rfl, ?_⟩) Hd ?_
    rotate_left
    · intro wS hSw
      have c0 := (hSw.cell (p := ⟨w.heap.size + 1, 0, none⟩) ltS).trans k0
      have c1 := (hSw.cell (p := ⟨w.heap.size + 1, 1, none⟩) ltS).trans k1
      have c2 := (hSw.cell (p := ⟨w.heap.size + 1, 2, none⟩) ltS).trans k2
      have c3 := (hSw.cell (p := ⟨w.heap.size + 1, 3, none⟩) ltS).trans k3
      go_simp
      try with_reducible rfl
    try simp only [List.getElem_toArray, List.getElem_cons_zero, List.getElem_cons_succ, Act.put, List.setIfInBounds_toArray, List.set_cons_zero, List.set_cons_succ]
    refine wpAnyH_take (i := 5) (v := .agg (arrK .u8 root)) rfl (by kernel_rfl) (by kernel_rfl) (by kernel_rfl) (fun _ _ _ h => h) (yields_load_blk (by rfl) _ _ rfl ((w.heap.size)) rfl 37 (arrK .u8 root) (.array 32 5) (fun W hW => HRt2.out.below hW) (by kernel_rfl) rfl (info32 Hr.out.1)) Hd ?_
    try simp only [List.getElem_toArray, List.getElem_cons_zero, List.getElem_cons_succ, Act.put, List.setIfInBounds_toArray, List.set_cons_zero, List.set_cons_succ]
    refine wpAnyH_take (i := 6) (v := ?_) rfl (by kernel_rfl) (by kernel_rfl) (by kernel_rfl) (fun _ _ _ h => h) (Or.inl ⟨by rfl, ?_⟩) Hd ?_
    rotate_left
    · intro wS hSw
      go_simp
      try with_reducible rfl
    try simp only [List.getElem_toArray, List.getElem_cons_zero, List.getElem_cons_succ, Act.put, List.setIfInBounds_toArray, List.set_cons_zero, List.set_cons_succ]
    refine wpAnyH_take (i := 7) (v := ?_) rfl (by kernel_rfl) (by kernel_rfl) (by kernel_rfl) (fun _ _ _ h => h) (Or.inl ⟨by rfl, ?_⟩) Hd ?_
    rotate_left
    · intro wS hSw
      go_simp
      try with_reducible rfl
    try simp only [List.getElem_toArray, List.getElem_cons_zero, List.getElem_cons_succ, Act.put, List.setIfInBounds_toArray, List.set_cons_zero, List.set_cons_succ]
    refine wpAnyH_take (i := 8) (v := ?_) rfl (by kernel_rfl) (by kernel_rfl) (by kernel_rfl) (fun _ _ _ h => h) (Or.inl ⟨by rfl, ?_⟩) Hd ?_
    rotate_left
    · intro wS hSw
      have c0 := (hSw.cell (p := ⟨w.heap.size + 1, 0, none⟩) ltS).trans k0
      have c1 := (hSw.cell (p := ⟨w.heap.size + 1, 1, none⟩) ltS).trans k1
      have c2 := (hSw.cell (p := ⟨w.heap.size + 1, 2, none⟩) ltS).trans k2
      have c3 := (hSw.cell (p := ⟨w.heap.size + 1, 3, none⟩) ltS).trans k3
      go_simp
      try with_reducible rfl
    try simp only [List.getElem_toArray, List.getElem_cons_zero, List.getElem_cons_succ, Act.put, List.setIfInBounds_toArray, List.set_cons_zero, List.set_cons_succ]
    refine wpAnyH_ready (rs := [4]) (by kernel_rfl) (by simp) (AllReadyH.cons rfl (fun K hK => ?_) AllReadyH.nil)
    go_simp
    refine (HV1.out _ (below_of HB2.out Hd HB2.out.size)).mono ?_
    rintro e w1_ ⟨rfl, hb1⟩
    have Hb1 : Below w2.heap.size w2 w1_ := below_of Hd hb1 Hd.size
    have Zb1 : w2.heap.size ≤ w1_.heap.size := Nat.le_trans Zd hb1.size
    go_wp2_with (fail)
    refine hK.out _ _ Hb1 fun _ => ?_
    clear hK K
    try simp only [List.getElem_toArray, List.getElem_cons_zero, List.getElem_cons_succ, Act.put, List.setIfInBounds_toArray, List.set_cons_zero, List.set_cons_succ]
    refine wpAnyH_ready (rs := [9]) (by kernel_rfl) (by simp) (AllReadyH.cons rfl (fun K hK => ?_) AllReadyH.nil)
    go_simp
    refine (HV2.out _ (below_of HB2.out Hb1 HB2.out.size)).mono ?_
    rintro e w2_ ⟨rfl, hb2⟩
    have Hb2 : Below w2.heap.size w2 w2_ := below_of Hb1 hb2 Hb1.size
    have Zb2 : w2.heap.size ≤ w2_.heap.size := Nat.le_trans Zb1 hb2.size
    go_wp2_with (fail)
    refine hK.out _ _ Hb2 fun _ => ?_
    clear hK K
    try simp only [List.getElem_toArray, List.getElem_cons_zero, List.getElem_cons_succ, Act.put, List.setIfInBounds_toArray, List.set_cons_zero, List.set_cons_succ]
    refine wpAnyH_take (i := 10) (v := ?_) rfl (by kernel_rfl) (by kernel_rfl) (by kernel_rfl) (fun _ _ _ h => h) (Or.inl ⟨by rfl, ?_⟩) Hb2 ?_
    rotate_left
    · intro wS hSw
      go_simp
      try with_reducible rfl
    try simp only [List.getElem_toArray, List.getElem_cons_zero, List.getElem_cons_succ, Act.put, List.setIfInBounds_toArray, List.set_cons_zero, List.set_cons_succ]
    refine wpAnyH_take (i := 11) (v := ?_) rfl (by kernel_rfl) (by kernel_rfl) (by kernel_rfl) (fun _ _ _ h => h) (Or.inl ⟨by rfl, ?_⟩) Hb2 ?_
    rotate_left
    · intro wS hSw
      go_simp
      try with_reducible rfl
    try simp only [List.getElem_toArray, List.getElem_cons_zero, List.getElem_cons_succ, Act.put, List.setIfInBounds_toArray, List.set_cons_zero, List.set_cons_succ]
    refine wpAnyH_done (by kernel_rfl) ?_ _
    go_wp2_with (fail)
    go_ret
    exact ⟨ret_bool (by simp), below_of HB2.out Hb2 HB2.out.size⟩
theorem SigningVerifySpec_walk (w : World) (root : List Nat) (hr : IsD root) (n : Int) (_wn : (Lit.int .i64 n).wf = true) (A : Option Addr) (k c : Nat) (xs : List Int) (hl : xs.length = k) (_hnc : k ≤ c) (_hcm : c ≤ maxLen) (hA : Cells w A (xs.map (Value.int .u8))) (hw : ∀ x ∈ xs, (Lit.int .u8 x).wf = true)
    (i : Int) (Ao : Option Addr) (no co : Nat) (Ac : Option Addr) (nc cc : Nat) (Ap : Option Addr) (q cp : Nat) (o cl p : List (List Nat)) (_wi : (Lit.int .i64 i).wf = true) (ho : o.length = no) (hc : cl.length = nc) (hp : p.length = q) (hqc : q ≤ cp) (hqm : cp ≤ maxLen)
    (hAo : Cells w Ao (bytesV o.flatten)) (hAc : Cells w Ac (bytesV cl.flatten)) (hAp : Cells w Ap (bytesV p.flatten)) (hO : IsL o) (hC : IsL cl) (hP : IsL p) :
    Calls Try.prog 4 #[.agg (arrK .u8 root), .int .i64 n, .slice A k c, .agg #[.int .i64 i, .slice Ao no co, .slice Ac nc cc, .slice Ap q cp]] w (Fine w) := by
  obtain ⟨msg, hml, hm8, hM⟩ := open_bytes hA hw
  by_cases h1 : 300 < k ∧ k ≤ 65536
  · exact SigningVerifySpec_short root n i A k c Ao Ac Ap no co nc cc q cp w (by omega) (by omega)
  · exact SigningVerifySpec_rest root n i A k c msg Ao Ac Ap no co nc cc q cp o cl p w (by omega) hr hM (hml.trans hl) hm8 ho hc hp hqc hqm hAo hAc hAp hO hC hP
-- the row
theorem signingVerifySpec_own : ownKnob Try.prog.godebug = none := by kernel_rfl
theorem signingVerifySpec_laidOut : laidOutB Try.prog = true := by kernel_rfl
theorem signingVerifySpec_readable : (Try.f4.params.toList.all fun t => Try.prog.readableRec t && decide (t < Try.prog.types.size)) = true := by kernel_rfl
set_option maxRecDepth 100000 in
theorem signingVerifySpec_lifted (os : Os) (started : os.Started) (H : Type) (enc : TypeId × Value → H) :
    ReturnsInHanded {} Try.checked os 4 .any (Rows.signingVerifySpecSpec.pre6 enc Try.prog Try.f4 Rows.signingVerifySpecRow.domain false) (Rows.signingVerifySpecSpec.post enc Try.prog Try.f4 false true false false) := by
  refine returnsInHanded_of_change (C := Try.checked) signingVerifySpec_own started (by kernel_rfl) Try.func4
    (ChangeSpec.witness6 (enc := enc) (C := Try.checked) false ⟨#[], #[.agg (List.replicate 32 (Value.int .u8 0)).toArray, .int .i64 0, .slice none 0 0, .agg #[.int .i64 0, .slice none 0 0, .slice none 0 0, .slice none 0 0]], []⟩ 8 (by kernel_rfl) (by kernel_rfl) (by kernel_rfl) (by kernel_rfl)) ?_
  intro W base args ds gs before hval0 hW hcnd _
  have hval : ∀ (j : Nat) t v, Try.f4.params[j]? = some t → args[j]? = some v → Value.okWide Try.prog W .any base t v := hval0
  have hW' := hW
  obtain ⟨p, q, hA0, hV, rfl, hfz, hnd⟩ := hW
  have hA : DataW.TrodAll enc Try.prog W 0 (fun _ => true) true Try.f4.params.toList args.toList ds p := hA0
  rw [Try.params4] at hA hval
  obtain ⟨v0, vs0, d0, ds0, p0, q0, hargs, rfl, rfl, h0, r0⟩ := trodAll_cons hA
  obtain ⟨v1, vs1, d1, ds1, p1, q1, rfl, rfl, rfl, h1, r1⟩ := trodAll_cons r0
  obtain ⟨v2, vs2, d2, ds2, p2, q2, rfl, rfl, rfl, h2, r2⟩ := trodAll_cons r1
  obtain ⟨v3, vs3, d3, ds3, p3, q3, rfl, rfl, rfl, h3, r3⟩ := trodAll_cons r2
  obtain ⟨rfl, rfl, rfl⟩ := trodAll_nil r3
  obtain rfl : args = #[v0, v1, v2, v3] := by cases args; simp_all
  obtain ⟨rfl, rfl⟩ := trodVars_none hV
  obtain ⟨D0, rfl, k0⟩ := open_digest (hval 0 37 v0 rfl rfl)
  obtain ⟨a1, rfl, rfl, rfl, w1⟩ := open_int Try.underlying3 (hval 1 3 v1 rfl rfl) h1
  obtain ⟨A2, n2, c2, xs2, rfl, l2, nc2, cm2, g2, w2⟩ := open_intslice Try.underlying22 Try.underlying5 (by kernel_rfl) (hval 2 22 v2 rfl rfl) h2
  obtain ⟨i3, Ao3, no3, co3, Ac3, nc3, cc3, Ap3, q3, cp3, o3, cl3, pl3, rfl, wi3, ho3, hc3, hp3, hq3, hm3, gO3, gC3, gP3, kO3, kC3, kP3⟩ := open_sig (hval 3 30 v3 rfl rfl) h3
  refine (SigningVerifySpec_walk W D0 k0 a1 w1 A2 n2 c2 xs2 l2 nc2 cm2 g2 w2 i3 Ao3 no3 co3 Ac3 nc3 cc3 Ap3 q3 cp3 o3 cl3 pl3 wi3 ho3 hc3 hp3 hq3 hm3 gO3 gC3 gP3 kO3 kC3 kP3).mono fun e W' ⟨he, hb⟩ => ?_
  subst he
  simp only [List.append_nil] at hW'
  refine ⟨_, rfl, law_post signingVerifySpec_laidOut ?_ (by kernel_rfl) Try.underlying4 rfl hW' rfl rfl rfl hb⟩
  intro t ht
  have hr := List.all_eq_true.1 signingVerifySpec_readable t ht
  rw [Bool.and_eq_true] at hr
  exact ⟨hr.1, of_decide_eq_true hr.2⟩
theorem signingVerifySpec_over : Rows.signingVerifySpecRow.holds Try.pinned (OpenSpec.ofChange Rows.signingVerifySpecSpec) :=
  OpenClaim.holds_of_wide 4 Try.f4 rfl rfl rfl rfl rfl rfl rfl ⟨rfl, rfl, rfl, rfl, rfl⟩ rfl rfl rfl rfl rfl (by kernel_rfl) Try.func4 (by kernel_rfl)
    (of_decide_eq_true (by kernel_rfl)) (by unfold Func.isWrapper; rw [if_neg (of_decide_eq_false (by kernel_rfl))]; exact ⟨rfl, rfl⟩)
    (fun os started H enc _ => signingVerifySpec_lifted os started H enc)
theorem signingVerifySpec_proved : Rows.SigningVerifySpecSaid := signingVerifySpec_over
#print axioms signingVerifySpec_proved
end Go.Proofs.Ytcijhakofoklcaa
