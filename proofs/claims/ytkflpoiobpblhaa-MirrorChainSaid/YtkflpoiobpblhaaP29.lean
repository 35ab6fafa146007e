/- Walks and plain laws that the statement rests on: Sig7. -/
import Derived.Laws.EntriesVeiled
import Derived.Test.YtkflpoiobpblhaaP00
import Derived.Test.YtkflpoiobpblhaaP28
namespace Go.Proofs.Ytkflpoiobpblhaa
open Go.RowKit
theorem getD_of {l : List (List Nat)} {j : Nat} (h : j < l.length) : l[j]? = some (l.getD j z32) := by simp [h]
set_option linter.unusedSimpArgs false in
set_option maxRecDepth 100000 in
set_option maxHeartbeats 4000000 in
theorem verH_any (X S : Nat) (x : List Bool) (o c : List (List Nat)) (Ao Ac : Option Addr) (co cc : Nat) (si sp : Value) (j : Nat) (b : Bool) (w : World) (hX : Blk w X 100 (arrB x)) (hS : Blk w S 36 #[si, .slice Ao 64 co, .slice Ac 64 cc, sp]) (hx : x.length = 64)
    (ho : o.length = 64) (hc : c.length = 64) (hO : IsL o) (hC : IsL c) (hAo : Cells w Ao (bytesV o.flatten)) (hAc : Cells w Ac (bytesV c.flatten)) (hj : j < 64) :
    Calls Try.prog 53 #[.int .i64 j, .bool b, .pointer (some ⟨X, 0, none⟩), .pointer (some ⟨S, 0, none⟩)] w fun e w' => e = .returned (.agg (arrK .u8 (verF x o c j b))) ∧ Below w.heap.size w w' := by
  have q0 : ∀ obj : Obj, (w.alloc obj).cell? ⟨X, j, none⟩ = some (.bool (x.getD j false)) := fun obj => (hX.alloc obj).cellv (arrB_get (by rw [hx]; exact hj))
  have q1 : ∀ obj : Obj, (w.alloc obj).cell? ⟨S, 1, none⟩ = some (.slice Ao 64 co) := fun obj => (hS.alloc obj).cellv rfl
  have q2 : ∀ obj : Obj, (w.alloc obj).cell? ⟨S, 2, none⟩ = some (.slice Ac 64 cc) := fun obj => (hS.alloc obj).cellv rfl
  obtain ⟨ob, oo, rfl, -, -⟩ := Cells.addr hAo (by rw [bytesV_length, hO.flat_length, ho]; omega)
  obtain ⟨cb, cO, rfl, -, -⟩ := Cells.addr hAc (by rw [bytesV_length, hC.flat_length, hc]; omega)
  have hjI : (j : Int) < 64 := by omega
  by_cases hyb : x.getD j false = b
  · have hv : verF x o c j b = hashS (o.getD j z32) := by rw [verF_eq, if_pos (by simpa using hyb)]
    rw [hv]
    have D1 := Lib.hid (getD_isD hO j)
    have R1 := Lib.hid (fun obj : Obj => range_at hO (hAo.alloc obj) (getD_of (l := o) (j := j) (by rw [ho]; exact hj)))
    generalize o.getD j z32 = d at *
    generalize x.getD j false = y at *
    have lt := Lib.hid (hashS_isD d).1
    subst hyb
    clear hv hX hS hAo hAc hO hC ho hc hx
    go_enter Try.func53, Try.ntmps53
    go_wp2_with (
      (refine wpList_load_mid rfl 28 (.tmp 15) rfl ob (oo + j * 32) rfl (d.map fun (n : Nat) => Value.int .u8 (n : Int)) (.array 32 5) (R1.out _) (by kernel_rfl) rfl (dV_info D1.out.1) ?_))
    generalize hge : World.alloc _ _ = w1
    have HR := Lib.hid (show Blk w1 w.heap.size 28 (arrK .u8 z32) by subst hge; exact Blk.new w _ _)
    have HB := Lib.hid (show Below w.heap.size w w1 by subst hge; exact (Below.refl _ _).alloc (Nat.le_refl _) _)
    clear hge
    refine (open_any d w1 D1.out).mono ?_
    rintro e w5 ⟨rfl, hb5⟩
    have HR5 := Lib.hid (HR.out.below hb5)
    have HB5 := Lib.hid (HB.out.trans (hb5.mono HB.out.size))
    clear hb5
    go_wp2_with (
      (refine wpList_put_blk rfl 28 (.tmp 6) (.tmp 17) rfl w.heap.size (arrK .u8 (hashS d)) rfl rfl 28 (arrK .u8 z32) HR5.out (info32 lt.out) (by rw [len32 lt.out, len32 z32_length]) (arrK_all _ _) ?_
       intro w6 HD6 hg6 hz6
       have HD6 := Lib.hid HD6
       have HB6 := below_grown HB5.out hg6 HB5.out.size (by simp)
       clear hg6 hz6))
    exact ret_row rfl w.heap.size 28 (arrK .u8 (hashS d)) (.array 32 5) rfl HD6.out (by kernel_rfl) rfl (info32 lt.out) rfl ⟨rfl, HB6⟩
  · have hv : verF x o c j b = c.getD j z32 := by rw [verF_eq, if_neg (by simpa using hyb)]
    rw [hv]
    have D1 := Lib.hid (getD_isD hC j)
    have R1 := Lib.hid (fun obj : Obj => range_at hC (hAc.alloc obj) (getD_of (l := c) (j := j) (by rw [hc]; exact hj)))
    generalize c.getD j z32 = d at *
    generalize x.getD j false = y at *
    have hq : (y == b) = false := by simpa using hyb
    clear hv hX hS hAo hAc hO hC ho hc hx hyb
    go_enter Try.func53, Try.ntmps53
    go_wp2_with (first
      | (refine wpList_put_blk rfl 28 (.tmp 6) (.tmp 22) rfl w.heap.size (arrK .u8 d) rfl rfl 28 (arrK .u8 z32) (Blk.new w 28 (arrK .u8 z32)) (info32 D1.out.1) (by rw [len32 D1.out.1, len32 z32_length]) (arrK_all _ _) ?_
         intro w6 HD6 hg6 hz6
         have HD6 := Lib.hid HD6
         have HB6 := below_grown ((Below.refl w.heap.size w).alloc (Nat.le_refl _) (.cells (arrK .u8 z32) 28)) hg6 (by simp) (by simp)
         clear hg6 hz6)
      | (refine wpList_load_mid rfl 28 (.tmp 21) rfl cb (cO + j * 32) rfl (d.map fun (n : Nat) => Value.int .u8 (n : Int)) (.array 32 5) (R1.out _) (by kernel_rfl) rfl (dV_info D1.out.1) ?_))
    exact ret_row rfl w.heap.size 28 (arrK .u8 d) (.array 32 5) rfl HD6.out (by kernel_rfl) rfl (info32 D1.out.1) rfl ⟨rfl, HB6⟩
set_option linter.unusedSimpArgs false in
set_option maxRecDepth 100000 in
set_option maxHeartbeats 4000000 in
theorem Verify_bad (root : List Nat) (n at_ : Int) (A : Option Addr) (k c : Nat) (Ao Ac Ap : Option Addr) (no co nc cc q cp : Nat) (w : World) (hb : ¬ (1 ≤ n ∧ n ≤ 4096 ∧ 0 ≤ at_ ∧ at_ < n ∧ no = 64 ∧ nc = 64 ∧ k ≤ 65536)) :
    Calls Try.prog 32 #[.agg (arrK .u8 root), .int .i64 n, .slice A k c, .agg #[.int .i64 at_, .slice Ao no co, .slice Ac nc cc, .slice Ap q cp]] w fun e w' => e = .returned (.bool false) ∧ Below w.heap.size w w' := by
  have Hb := Lib.hid hb
  clear hb
  go_enter Try.func32, Try.ntmps32
  go_wp2_with (fail)
  all_goals first
    | (exfalso; have := Hb.out; omega)
    | (go_ret; exact ⟨rfl, ((Below.refl _ _).alloc (Nat.le_refl _) _).alloc (by simp) _⟩)
set_option linter.unusedSimpArgs false in
set_option maxRecDepth 100000 in
set_option maxHeartbeats 4000000 in
theorem Verify_good (root : List Nat) (n at_ : Nat) (msg : List Nat) (A : Option Addr) (k c : Nat) (o cl p : List (List Nat)) (Ao Ac Ap : Option Addr) (co cc q cp : Nat) (w : World) (hr : IsD root) (h1 : 1 ≤ n) (h2 : n ≤ 4096) (h3 : at_ < n) (hA : Cells w A (bytesV msg)) (hm : msg.length = k) (hk : k ≤ 65536) (h8 : ByteL msg)
    (ho : o.length = 64) (hc : cl.length = 64) (hp : p.length = q) (hO : IsL o) (hC : IsL cl) (hP : IsL p) (hAo : Cells w Ao (bytesV o.flatten)) (hAc : Cells w Ac (bytesV cl.flatten)) (hAp : Cells w Ap (bytesV p.flatten)) (hqc : q ≤ cp) (hcm : cp ≤ maxLen) :
    Calls Try.prog 32 #[.agg (arrK .u8 root), .int .i64 n, .slice A k c, .agg #[.int .i64 at_, .slice Ao 64 co, .slice Ac 64 cc, .slice Ap q cp]] w fun e w' => e = .returned (.bool (verS root n at_ msg o cl p)) ∧ Below w.heap.size w w' := by
  have HA := Lib.hid hA
  have Hm := Lib.hid hm
  have Hm8 := Lib.hid h8
  have Hrt := Lib.hid hr
  have HO := Lib.hid hO
  have HCL := Lib.hid hC
  have HAo := Lib.hid hAo
  have HAc := Lib.hid hAc
  have HAp := Lib.hid hAp
  have Hlo := Lib.hid ho
  have Hlc := Lib.hid hc
  obtain ⟨x, hx⟩ : ∃ x, bitL (msgS root at_ msg) 64 = x := ⟨_, rfl⟩
  have Hlx := Lib.hid (show x.length = 64 by rw [← hx, bitL_length])
  have HSg := Lib.hid (fun W h => signed_any root at_ msg A k c W hr (by omega) h hm (by omega) h8)
  rw [hx] at HSg
  obtain ⟨dd, hdd⟩ : ∃ dd, climbR (pubS (verF x o cl)) at_ n p = dd := ⟨_, rfl⟩
  have Ddd := Lib.hid (show IsD dd by rw [← hdd]; exact climbR_isD _ _ _ _)
  have HCc := Lib.hid (fun W h => climb_any (pubS (verF x o cl)) at_ n Ap q cp p W (pubS_isD _) hp hP hqc hcm h)
  rw [hdd] at HCc
  have hver : verS root n at_ msg o cl p = (okClimb at_ n q && decide (dd = root)) := by
    unfold verS
    rw [Int.toNat_natCast, hx, hdd, hp, ho, hc, hm, decide_eq_true (by omega), Bool.true_and]
  rw [hver]
  have h1I : (1 : Int) ≤ (n : Int) := by omega
  have h2I : (n : Int) ≤ 4096 := by omega
  have h3I : (at_ : Int) < (n : Int) := by omega
  have hkI : (k : Int) ≤ 65536 := by omega
  clear hA hm h8 hr hO hC hP hAo hAc hAp ho hc hx hdd hver
  generalize okClimb (at_ : Int) (n : Int) q = ok at *
  go_enter Try.func32, Try.ntmps32
  go_wp2_with (
    (refine wpList_load_blk rfl 28 (.tmp 4) rfl w.heap.size rfl 28 (arrK .u8 root) (.array 32 5) (blk_two w (arrK .u8 root) #[.int .i64 at_, .slice Ao 64 co, .slice Ac 64 cc, .slice Ap q cp] 28 36).1 (by kernel_rfl) rfl (info32 Hrt.out.1) ?_))
  generalize hge : World.alloc _ _ = w1
  have HRt := Lib.hid (show Blk w1 w.heap.size 28 (arrK .u8 root) by subst hge; exact (blk_two w (arrK .u8 root) #[.int .i64 at_, .slice Ao 64 co, .slice Ac 64 cc, .slice Ap q cp] 28 36).1)
  have HS := Lib.hid (show Blk w1 (w.heap.size + 1) 36 #[.int .i64 at_, .slice Ao 64 co, .slice Ac 64 cc, .slice Ap q cp] by subst hge; exact (blk_two w (arrK .u8 root) #[.int .i64 at_, .slice Ao 64 co, .slice Ac 64 cc, .slice Ap q cp] 28 36).2)
  have HB := Lib.hid (show Below w.heap.size w w1 by subst hge; exact ((Below.refl _ _).alloc (Nat.le_refl _) _).alloc (by simp) _)
  have oB : w.heap.size < w1.heap.size := HRt.out.lt
  have oS : w.heap.size + 1 < w1.heap.size := HS.out.lt
  clear hge
  refine (HSg.out w1 (HA.out.below HB.out)).mono ?_
  rintro e w2 ⟨rfl, hb2⟩
  have HRt2 := Lib.hid (HRt.out.below hb2)
  have HS2 := Lib.hid (HS.out.below hb2)
  have HB2 := Lib.hid (below_of HB.out hb2 HB.out.size)
  have hz2 : w1.heap.size ≤ w2.heap.size := hb2.size
  clear hb2
  go_upto_region 5 with (
    (refine wpList_put_blk rfl 100 (.tmp 9) (.tmp 51) rfl w2.heap.size (arrB x) rfl rfl 100 (arrB z64) (Blk.new w2 100 (arrB z64)) (infoB Hlx.out) (by rw [arrB_size, arrB_size, Hlx.out]; rfl) (arrB_all _) ?_
     intro w5 HX5 hg5 hz5
     have hb5 : Below w2.heap.size w2 w5 := below_grown ((Below.refl w2.heap.size w2).alloc (Nat.le_refl _) (.cells (arrB z64) 100)) hg5 (by simp) (by simp)
     have HX5 := Lib.hid HX5
     have HRt5 := Lib.hid (HRt2.out.below hb5)
     have HS5 := Lib.hid (HS2.out.below hb5)
     have HB5 := Lib.hid (below_of HB2.out hb5 HB2.out.size)
     have hz5' : w1.heap.size ≤ w5.heap.size := Nat.le_trans hz2 hb5.size
     clear hg5 hz5 hb5))
  obtain ⟨X, hXe⟩ : ∃ X, w2.heap.size = X := ⟨_, rfl⟩
  rw [hXe] at HX5 hz2 ⊢
  have loX : w1.heap.size ≤ X := hz2
  clear hXe hz2
  have HV := Lib.hid (fun (W : World) (j : Nat) (b : Bool) (hW : Below w.heap.size w W) (hX : Blk W X 100 (arrB x)) (hS : Blk W (w.heap.size + 1) 36 #[.int .i64 at_, .slice Ao 64 co, .slice Ac 64 cc, .slice Ap q cp]) (hj : j < 64) => verH_any X (w.heap.size + 1) x o cl Ao Ac co cc (.int .i64 at_) (.slice Ap q cp) j b W hX hS Hlx.out Hlo.out Hlc.out HO.out HCL.out (HAo.out.below hW) (HAc.out.below hW) hj)
  cases ok with
  | false =>
    rw [errArg_false] at HCc
    have Hver := Lib.hid (show false = (false && decide (dd = root)) from rfl)
    refine wp_region_held_drew (S := fun W => Below w.heap.size w W ∧ Blk W (w.heap.size + 1) 36 #[.int .i64 at_, .slice Ao 64 co, .slice Ac 64 cc, .slice Ap q cp]) (by kernel_rfl) (⟨below_drewN HB5.out 1, HS5.out⟩) (fun Hd => ?_)
    have Hd : Below w.heap.size w w5.drew := below_drewN HB5.out 1
    have Zd : w1.heap.size ≤ w5.drew.heap.size := hz5'
    have fB : Blk w5.drew w.heap.size 28 (arrK .u8 root) := HRt5.out
    have fS : Blk w5.drew (w.heap.size + 1) 36 #[.int .i64 at_, .slice Ao 64 co, .slice Ac 64 cc, .slice Ap q cp] := HS5.out
    have fX : Blk w5.drew X 100 (arrB x) := HX5.out
    generalize World.drew w5 = wd at *
    refine wpAnyH_take (i := 0) (v := ?_) rfl (by kernel_rfl) (by kernel_rfl) (by kernel_rfl) (fun _ _ _ h => h) (Or.inl ⟨by rfl, ?_⟩) ⟨Hd, fS⟩ ?_
    rotate_left
    · intro w hSw
      go_simp
      try with_reducible rfl
    try simp only [la0, la1, la2, Act.put, la3, la4, la5]
    refine wpAnyH_take (i := 2) (v := ?_) rfl (by kernel_rfl) (by kernel_rfl) (by kernel_rfl) (fun _ _ _ h => h) (Or.inl ⟨by rfl, ?_⟩) ⟨Hd, fS⟩ ?_
    rotate_left
    · intro w hSw
      go_simp
      try with_reducible rfl
    try simp only [la0, la1, la2, Act.put, la3, la4, la5]
    refine wpAnyH_take (i := 3) (v := ?_) rfl (by kernel_rfl) (by kernel_rfl) (by kernel_rfl) (fun _ _ _ h => h) (Or.inl ⟨by rfl, ?_⟩) ⟨Hd, fS⟩ ?_
    rotate_left
    · intro w hSw
      have q0 := Blk.cellv hSw.2 (i := 0) rfl
      go_simp
      try with_reducible rfl
    try simp only [la0, la1, la2, Act.put, la3, la4, la5]
    refine wpAnyH_take (i := 4) (v := ?_) rfl (by kernel_rfl) (by kernel_rfl) (by kernel_rfl) (fun _ _ _ h => h) (Or.inl ⟨by rfl, ?_⟩) ⟨Hd, fS⟩ ?_
    rotate_left
    · intro w hSw
      go_simp
      try with_reducible rfl
    try simp only [la0, la1, la2, Act.put, la3, la4, la5]
    refine wpAnyH_take (i := 5) (v := ?_) rfl (by kernel_rfl) (by kernel_rfl) (by kernel_rfl) (fun _ _ _ h => h) (Or.inl ⟨by rfl, ?_⟩) ⟨Hd, fS⟩ ?_
    rotate_left
    · intro w hSw
      go_simp
      try with_reducible rfl
    try simp only [la0, la1, la2, Act.put, la3, la4, la5]
    refine wpAnyH_take (i := 6) (v := ?_) rfl (by kernel_rfl) (by kernel_rfl) (by kernel_rfl) (fun _ _ _ h => h) (Or.inl ⟨by rfl, ?_⟩) ⟨Hd, fS⟩ ?_
    rotate_left
    · intro w hSw
      have q3 := Blk.cellv hSw.2 (i := 3) rfl
      go_simp
      try with_reducible rfl
    try simp only [la0, la1, la2, Act.put, la3, la4, la5]
    refine wpAnyH_ready (rs := [1, 11]) (by kernel_rfl) (by simp) (AllReadyH.cons rfl (fun K hK => ?_) (AllReadyH.cons rfl (fun K hK => ?_) AllReadyH.nil))
    · go_simp
      refine (public_of 53 #[] #[.pointer (some ⟨X, 0, none⟩), .pointer (some ⟨w.heap.size + 1, 0, none⟩)] (verF x o cl) _ (enters_of Try.func53 (by kernel_rfl) rfl) (fun W j b hW hj => HV.out W j b (below_of Hd hW Hd.size) (fX.below hW) (fS.below hW) hj) (fun j b _ => verF_isD x HCL.out j b)).mono ?_
      rintro e w1_ ⟨rfl, hb1⟩
      have fB1 := fB.below hb1
      have fS1 := fS.below hb1
      have fX1 := fX.below hb1
      have Hb1 : Below w.heap.size w w1_ := below_of Hd hb1 Hd.size
      have Zb1 : w1.heap.size ≤ w1_.heap.size := Nat.le_trans Zd hb1.size
      go_wp2_with (fail)
      refine hK.out _ _ ⟨Hb1, fS1⟩ fun _ => ?_
      clear hK K
      try simp only [la0, la1, la2, Act.put, la3, la4, la5]
      refine wpAnyH_ready (rs := [7, 11]) (by kernel_rfl) (by simp) (AllReadyH.cons rfl (fun K hK => ?_) (AllReadyH.cons rfl (fun K hK => ?_) AllReadyH.nil))
      · go_simp
        refine (HCc.out _ (HAp.out.below Hb1)).mono ?_
        rintro e w2_ ⟨rfl, hb2⟩
        have fB2 := fB1.below hb2
        have fS2 := fS1.below hb2
        have fX2 := fX1.below hb2
        have Hb2 : Below w.heap.size w w2_ := below_of Hb1 hb2 Hb1.size
        have Zb2 : w1.heap.size ≤ w2_.heap.size := Nat.le_trans Zb1 hb2.size
        go_wp2_with (fail)
        refine hK.out _ _ ⟨Hb2, fS2⟩ fun _ => ?_
        clear hK K
        try simp only [la0, la1, la2, Act.put, la3, la4, la5]
        refine wpAnyH_take (i := 8) (v := ?_) rfl (by kernel_rfl) (by kernel_rfl) (by kernel_rfl) (fun _ _ _ h => h) (Or.inl ⟨by rfl, ?_⟩) ⟨Hb2, fS2⟩ ?_
        rotate_left
        · intro w hSw
          go_simp
          try with_reducible rfl
        try simp only [la0, la1, la2, Act.put, la3, la4, la5]
        refine wpAnyH_take (i := 9) (v := ?_) rfl (by kernel_rfl) (by kernel_rfl) (by kernel_rfl) (fun _ _ _ h => h) (Or.inl ⟨by rfl, ?_⟩) ⟨Hb2, fS2⟩ ?_
        rotate_left
        · intro w hSw
          go_simp
          try with_reducible rfl
        try simp only [la0, la1, la2, Act.put, la3, la4, la5]
        refine wpAnyH_take (i := 10) (v := ?_) rfl (by kernel_rfl) (by kernel_rfl) (by kernel_rfl) (fun _ _ _ h => h) (Or.inl ⟨by rfl, ?_⟩) ⟨Hb2, fS2⟩ ?_
        rotate_left
        · intro w hSw
          go_simp
          try with_reducible rfl
        try simp only [la0, la1, la2, Act.put, la3, la4, la5]
        refine wpAnyH_ready (rs := [11]) (by kernel_rfl) (by simp) (AllReadyH.cons rfl (fun K hK => ?_) AllReadyH.nil)
        go_simp
        generalize hge : World.alloc _ _ = w3_
        have fD3 : Blk w3_ w2_.heap.size 28 (arrK .u8 z32) := by subst hge; exact Blk.new _ _ _
        have hb3 : Below w2_.heap.size w2_ w3_ := by subst hge; exact (Below.refl _ _).alloc (Nat.le_refl _) _
        clear hge
        have fB3 := fB2.below hb3
        have fS3 := fS2.below hb3
        have fX3 := fX2.below hb3
        have ltXD3 := fX2.lt
        have loD3 : w1.heap.size ≤ w2_.heap.size := Zb2
        have Hb3 : Below w.heap.size w w3_ := below_of Hb2 hb3 Hb2.size
        have Zb3 : w1.heap.size ≤ w3_.heap.size := Nat.le_trans Zb2 hb3.size
        refine hK.out _ _ ⟨Hb3, fS3⟩ fun _ => ?_
        clear hK K
        try simp only [la0, la1, la2, Act.put, la3, la4, la5]
        refine wpAnyH_ready (rs := [12]) (by kernel_rfl) (by simp) (AllReadyH.cons rfl (fun K hK => ?_) AllReadyH.nil)
        refine step_put_blk (by rfl) _ _ _ (by rfl) (w2_.heap.size) (arrK .u8 (dd)) (by rfl) (by rfl) _ _ fD3 (info32 Ddd.out.1) (by rw [len32 Ddd.out.1, len32 z32_length]) (arrK_all _ _) ?_
        intro w4_ fD4 hg4 hz4
        have neB4 := fB3.lt
        have fB4 := fB3.grown hg4 (by first | (simp; done) | (simp; omega))
        have neS4 := fS3.lt
        have fS4 := fS3.grown hg4 (by first | (simp; done) | (simp; omega))
        have neX4 := fX3.lt
        have fX4 := fX3.grown hg4 (by first | (simp; done) | (simp; omega))
        have Hb4 : Below w.heap.size w w4_ := below_grown Hb3 hg4 Hb3.size (by first | (simp; done) | (simp; omega))
        have Zb4 : w1.heap.size ≤ w4_.heap.size := Nat.le_trans Zb3 hg4.size
        refine hK.out _ _ ⟨Hb4, fS4⟩ fun _ => ?_
        clear hK K
        try simp only [la0, la1, la2, Act.put, la3, la4, la5]
        refine wpAnyH_take (i := 13) (v := ?_) rfl (by kernel_rfl) (by kernel_rfl) (by kernel_rfl) (fun _ _ _ h => h) (Or.inl ⟨by rfl, ?_⟩) ⟨Hb4, fS4⟩ ?_
        rotate_left
        · intro w hSw
          go_simp
          try with_reducible rfl
        try simp only [la0, la1, la2, Act.put, la3, la4, la5]
        refine wpAnyH_done (by kernel_rfl) ?_ _
        go_wp2_with (fail)
        go_ret
        exact ⟨ret_bool Hver.out, Hb4⟩
      · go_simp
        generalize hge : World.alloc _ _ = w2_
        have fD2 : Blk w2_ w1_.heap.size 28 (arrK .u8 z32) := by subst hge; exact Blk.new _ _ _
        have hb2 : Below w1_.heap.size w1_ w2_ := by subst hge; exact (Below.refl _ _).alloc (Nat.le_refl _) _
        clear hge
        have fB2 := fB1.below hb2
        have fS2 := fS1.below hb2
        have fX2 := fX1.below hb2
        have ltXD2 := fX1.lt
        have loD2 : w1.heap.size ≤ w1_.heap.size := Zb1
        have Hb2 : Below w.heap.size w w2_ := below_of Hb1 hb2 Hb1.size
        have Zb2 : w1.heap.size ≤ w2_.heap.size := Nat.le_trans Zb1 hb2.size
        refine hK.out _ _ ⟨Hb2, fS2⟩ fun _ => ?_
        clear hK K
        try simp only [la0, la1, la2, Act.put, la3, la4, la5]
        refine wpAnyH_ready (rs := [7]) (by kernel_rfl) (by simp) (AllReadyH.cons rfl (fun K hK => ?_) AllReadyH.nil)
        go_simp
        refine (HCc.out _ (HAp.out.below Hb2)).mono ?_
        rintro e w3_ ⟨rfl, hb3⟩
        have fB3 := fB2.below hb3
        have fS3 := fS2.below hb3
        have fX3 := fX2.below hb3
        have fD3 := fD2.below hb3
        have Hb3 : Below w.heap.size w w3_ := below_of Hb2 hb3 Hb2.size
        have Zb3 : w1.heap.size ≤ w3_.heap.size := Nat.le_trans Zb2 hb3.size
        go_wp2_with (fail)
        refine hK.out _ _ ⟨Hb3, fS3⟩ fun _ => ?_
        clear hK K
        try simp only [la0, la1, la2, Act.put, la3, la4, la5]
        refine wpAnyH_take (i := 8) (v := ?_) rfl (by kernel_rfl) (by kernel_rfl) (by kernel_rfl) (fun _ _ _ h => h) (Or.inl ⟨by rfl, ?_⟩) ⟨Hb3, fS3⟩ ?_
        rotate_left
        · intro w hSw
          go_simp
          try with_reducible rfl
        try simp only [la0, la1, la2, Act.put, la3, la4, la5]
        refine wpAnyH_take (i := 9) (v := ?_) rfl (by kernel_rfl) (by kernel_rfl) (by kernel_rfl) (fun _ _ _ h => h) (Or.inl ⟨by rfl, ?_⟩) ⟨Hb3, fS3⟩ ?_
        rotate_left
        · intro w hSw
          go_simp
          try with_reducible rfl
        try simp only [la0, la1, la2, Act.put, la3, la4, la5]
        refine wpAnyH_take (i := 10) (v := ?_) rfl (by kernel_rfl) (by kernel_rfl) (by kernel_rfl) (fun _ _ _ h => h) (Or.inl ⟨by rfl, ?_⟩) ⟨Hb3, fS3⟩ ?_
        rotate_left
        · intro w hSw
          go_simp
          try with_reducible rfl
        try simp only [la0, la1, la2, Act.put, la3, la4, la5]
        refine wpAnyH_ready (rs := [12]) (by kernel_rfl) (by simp) (AllReadyH.cons rfl (fun K hK => ?_) AllReadyH.nil)
        refine step_put_blk (by rfl) _ _ _ (by rfl) (w1_.heap.size) (arrK .u8 (dd)) (by rfl) (by rfl) _ _ fD3 (info32 Ddd.out.1) (by rw [len32 Ddd.out.1, len32 z32_length]) (arrK_all _ _) ?_
        intro w4_ fD4 hg4 hz4
        have neB4 := fB3.lt
        have fB4 := fB3.grown hg4 (by first | (simp; done) | (simp; omega))
        have neS4 := fS3.lt
        have fS4 := fS3.grown hg4 (by first | (simp; done) | (simp; omega))
        have neX4 := fX3.lt
        have fX4 := fX3.grown hg4 (by first | (simp; done) | (simp; omega))
        have Hb4 : Below w.heap.size w w4_ := below_grown Hb3 hg4 Hb3.size (by first | (simp; done) | (simp; omega))
        have Zb4 : w1.heap.size ≤ w4_.heap.size := Nat.le_trans Zb3 hg4.size
        refine hK.out _ _ ⟨Hb4, fS4⟩ fun _ => ?_
        clear hK K
        try simp only [la0, la1, la2, Act.put, la3, la4, la5]
        refine wpAnyH_take (i := 13) (v := ?_) rfl (by kernel_rfl) (by kernel_rfl) (by kernel_rfl) (fun _ _ _ h => h) (Or.inl ⟨by rfl, ?_⟩) ⟨Hb4, fS4⟩ ?_
        rotate_left
        · intro w hSw
          go_simp
          try with_reducible rfl
        try simp only [la0, la1, la2, Act.put, la3, la4, la5]
        refine wpAnyH_done (by kernel_rfl) ?_ _
        go_wp2_with (fail)
        go_ret
        exact ⟨ret_bool Hver.out, Hb4⟩
    · go_simp
      generalize hge : World.alloc _ _ = w1_
      have fD1 : Blk w1_ wd.heap.size 28 (arrK .u8 z32) := by subst hge; exact Blk.new _ _ _
      have hb1 : Below wd.heap.size wd w1_ := by subst hge; exact (Below.refl _ _).alloc (Nat.le_refl _) _
      clear hge
      have fB1 := fB.below hb1
      have fS1 := fS.below hb1
      have fX1 := fX.below hb1
      have ltXD1 := fX.lt
      have loD1 : w1.heap.size ≤ wd.heap.size := Zd
      have Hb1 : Below w.heap.size w w1_ := below_of Hd hb1 Hd.size
      have Zb1 : w1.heap.size ≤ w1_.heap.size := Nat.le_trans Zd hb1.size
      refine hK.out _ _ ⟨Hb1, fS1⟩ fun _ => ?_
      clear hK K
      try simp only [la0, la1, la2, Act.put, la3, la4, la5]
      refine wpAnyH_ready (rs := [1]) (by kernel_rfl) (by simp) (AllReadyH.cons rfl (fun K hK => ?_) AllReadyH.nil)
      go_simp
      refine (public_of 53 #[] #[.pointer (some ⟨X, 0, none⟩), .pointer (some ⟨w.heap.size + 1, 0, none⟩)] (verF x o cl) _ (enters_of Try.func53 (by kernel_rfl) rfl) (fun W j b hW hj => HV.out W j b (below_of Hb1 hW Hb1.size) (fX1.below hW) (fS1.below hW) hj) (fun j b _ => verF_isD x HCL.out j b)).mono ?_
      rintro e w2_ ⟨rfl, hb2⟩
      have fB2 := fB1.below hb2
      have fS2 := fS1.below hb2
      have fX2 := fX1.below hb2
      have fD2 := fD1.below hb2
      have Hb2 : Below w.heap.size w w2_ := below_of Hb1 hb2 Hb1.size
      have Zb2 : w1.heap.size ≤ w2_.heap.size := Nat.le_trans Zb1 hb2.size
      go_wp2_with (fail)
      refine hK.out _ _ ⟨Hb2, fS2⟩ fun _ => ?_
      clear hK K
      try simp only [la0, la1, la2, Act.put, la3, la4, la5]
      refine wpAnyH_ready (rs := [7]) (by kernel_rfl) (by simp) (AllReadyH.cons rfl (fun K hK => ?_) AllReadyH.nil)
      go_simp
      refine (HCc.out _ (HAp.out.below Hb2)).mono ?_
      rintro e w3_ ⟨rfl, hb3⟩
      have fB3 := fB2.below hb3
      have fS3 := fS2.below hb3
      have fX3 := fX2.below hb3
      have fD3 := fD2.below hb3
      have Hb3 : Below w.heap.size w w3_ := below_of Hb2 hb3 Hb2.size
      have Zb3 : w1.heap.size ≤ w3_.heap.size := Nat.le_trans Zb2 hb3.size
      go_wp2_with (fail)
      refine hK.out _ _ ⟨Hb3, fS3⟩ fun _ => ?_
      clear hK K
      try simp only [la0, la1, la2, Act.put, la3, la4, la5]
      refine wpAnyH_take (i := 8) (v := ?_) rfl (by kernel_rfl) (by kernel_rfl) (by kernel_rfl) (fun _ _ _ h => h) (Or.inl ⟨by rfl, ?_⟩) ⟨Hb3, fS3⟩ ?_
      rotate_left
      · intro w hSw
        go_simp
        try with_reducible rfl
      try simp only [la0, la1, la2, Act.put, la3, la4, la5]
      refine wpAnyH_take (i := 9) (v := ?_) rfl (by kernel_rfl) (by kernel_rfl) (by kernel_rfl) (fun _ _ _ h => h) (Or.inl ⟨by rfl, ?_⟩) ⟨Hb3, fS3⟩ ?_
      rotate_left
      · intro w hSw
        go_simp
        try with_reducible rfl
      try simp only [la0, la1, la2, Act.put, la3, la4, la5]
      refine wpAnyH_take (i := 10) (v := ?_) rfl (by kernel_rfl) (by kernel_rfl) (by kernel_rfl) (fun _ _ _ h => h) (Or.inl ⟨by rfl, ?_⟩) ⟨Hb3, fS3⟩ ?_
      rotate_left
      · intro w hSw
        go_simp
        try with_reducible rfl
      try simp only [la0, la1, la2, Act.put, la3, la4, la5]
      refine wpAnyH_ready (rs := [12]) (by kernel_rfl) (by simp) (AllReadyH.cons rfl (fun K hK => ?_) AllReadyH.nil)
      refine step_put_blk (by rfl) _ _ _ (by rfl) (wd.heap.size) (arrK .u8 (dd)) (by rfl) (by rfl) _ _ fD3 (info32 Ddd.out.1) (by rw [len32 Ddd.out.1, len32 z32_length]) (arrK_all _ _) ?_
      intro w4_ fD4 hg4 hz4
      have neB4 := fB3.lt
      have fB4 := fB3.grown hg4 (by first | (simp; done) | (simp; omega))
      have neS4 := fS3.lt
      have fS4 := fS3.grown hg4 (by first | (simp; done) | (simp; omega))
      have neX4 := fX3.lt
      have fX4 := fX3.grown hg4 (by first | (simp; done) | (simp; omega))
      have Hb4 : Below w.heap.size w w4_ := below_grown Hb3 hg4 Hb3.size (by first | (simp; done) | (simp; omega))
      have Zb4 : w1.heap.size ≤ w4_.heap.size := Nat.le_trans Zb3 hg4.size
      refine hK.out _ _ ⟨Hb4, fS4⟩ fun _ => ?_
      clear hK K
      try simp only [la0, la1, la2, Act.put, la3, la4, la5]
      refine wpAnyH_take (i := 13) (v := ?_) rfl (by kernel_rfl) (by kernel_rfl) (by kernel_rfl) (fun _ _ _ h => h) (Or.inl ⟨by rfl, ?_⟩) ⟨Hb4, fS4⟩ ?_
      rotate_left
      · intro w hSw
        go_simp
        try with_reducible rfl
      try simp only [la0, la1, la2, Act.put, la3, la4, la5]
      refine wpAnyH_done (by kernel_rfl) ?_ _
      go_wp2_with (fail)
      go_ret
      exact ⟨ret_bool Hver.out, Hb4⟩
  | true =>
    rw [errArg_true] at HCc
    obtain ⟨r, hr⟩ : ∃ r, decide (dd = root) = r := ⟨_, rfl⟩
    have Hver := Lib.hid (show r = (true && decide (dd = root)) by rw [hr]; rfl)
    have hEq : ∀ W, (Op.equalIn 10000 28 (.agg (arrK .u8 dd)) (.agg (arrK .u8 root))).run Try.prog W = .ok r W := fun W => by
      have := run_eqD Ddd.out Hrt.out W
      rwa [hr] at this
    clear hr
    refine wp_region_held_drew (S := fun W => Below w.heap.size w W ∧ Blk W (w.heap.size + 1) 36 #[.int .i64 at_, .slice Ao 64 co, .slice Ac 64 cc, .slice Ap q cp]) (by kernel_rfl) (⟨below_drewN HB5.out 1, HS5.out⟩) (fun Hd => ?_)
    have Hd : Below w.heap.size w w5.drew := below_drewN HB5.out 1
    have Zd : w1.heap.size ≤ w5.drew.heap.size := hz5'
    have fB : Blk w5.drew w.heap.size 28 (arrK .u8 root) := HRt5.out
    have fS : Blk w5.drew (w.heap.size + 1) 36 #[.int .i64 at_, .slice Ao 64 co, .slice Ac 64 cc, .slice Ap q cp] := HS5.out
    have fX : Blk w5.drew X 100 (arrB x) := HX5.out
    generalize World.drew w5 = wd at *
    refine wpAnyH_take (i := 0) (v := ?_) rfl (by kernel_rfl) (by kernel_rfl) (by kernel_rfl) (fun _ _ _ h => h) (Or.inl ⟨by rfl, ?_⟩) ⟨Hd, fS⟩ ?_
    rotate_left
    · intro w hSw
      go_simp
      try with_reducible rfl
    try simp only [la0, la1, la2, Act.put, la3, la4, la5]
    refine wpAnyH_take (i := 2) (v := ?_) rfl (by kernel_rfl) (by kernel_rfl) (by kernel_rfl) (fun _ _ _ h => h) (Or.inl ⟨by rfl, ?_⟩) ⟨Hd, fS⟩ ?_
    rotate_left
    · intro w hSw
      go_simp
      try with_reducible rfl
    try simp only [la0, la1, la2, Act.put, la3, la4, la5]
    refine wpAnyH_take (i := 3) (v := ?_) rfl (by kernel_rfl) (by kernel_rfl) (by kernel_rfl) (fun _ _ _ h => h) (Or.inl ⟨by rfl, ?_⟩) ⟨Hd, fS⟩ ?_
    rotate_left
    · intro w hSw
      have q0 := Blk.cellv hSw.2 (i := 0) rfl
      go_simp
      try with_reducible rfl
    try simp only [la0, la1, la2, Act.put, la3, la4, la5]
    refine wpAnyH_take (i := 4) (v := ?_) rfl (by kernel_rfl) (by kernel_rfl) (by kernel_rfl) (fun _ _ _ h => h) (Or.inl ⟨by rfl, ?_⟩) ⟨Hd, fS⟩ ?_
    rotate_left
    · intro w hSw
      go_simp
      try with_reducible rfl
    try simp only [la0, la1, la2, Act.put, la3, la4, la5]
    refine wpAnyH_take (i := 5) (v := ?_) rfl (by kernel_rfl) (by kernel_rfl) (by kernel_rfl) (fun _ _ _ h => h) (Or.inl ⟨by rfl, ?_⟩) ⟨Hd, fS⟩ ?_
    rotate_left
    · intro w hSw
      go_simp
      try with_reducible rfl
    try simp only [la0, la1, la2, Act.put, la3, la4, la5]
    refine wpAnyH_take (i := 6) (v := ?_) rfl (by kernel_rfl) (by kernel_rfl) (by kernel_rfl) (fun _ _ _ h => h) (Or.inl ⟨by rfl, ?_⟩) ⟨Hd, fS⟩ ?_
    rotate_left
    · intro w hSw
      have q3 := Blk.cellv hSw.2 (i := 3) rfl
      go_simp
      try with_reducible rfl
    try simp only [la0, la1, la2, Act.put, la3, la4, la5]
    refine wpAnyH_ready (rs := [1, 11]) (by kernel_rfl) (by simp) (AllReadyH.cons rfl (fun K hK => ?_) (AllReadyH.cons rfl (fun K hK => ?_) AllReadyH.nil))
    · go_simp
      refine (public_of 53 #[] #[.pointer (some ⟨X, 0, none⟩), .pointer (some ⟨w.heap.size + 1, 0, none⟩)] (verF x o cl) _ (enters_of Try.func53 (by kernel_rfl) rfl) (fun W j b hW hj => HV.out W j b (below_of Hd hW Hd.size) (fX.below hW) (fS.below hW) hj) (fun j b _ => verF_isD x HCL.out j b)).mono ?_
      rintro e w1_ ⟨rfl, hb1⟩
      have fB1 := fB.below hb1
      have fS1 := fS.below hb1
      have fX1 := fX.below hb1
      have Hb1 : Below w.heap.size w w1_ := below_of Hd hb1 Hd.size
      have Zb1 : w1.heap.size ≤ w1_.heap.size := Nat.le_trans Zd hb1.size
      go_wp2_with (fail)
      refine hK.out _ _ ⟨Hb1, fS1⟩ fun _ => ?_
      clear hK K
      try simp only [la0, la1, la2, Act.put, la3, la4, la5]
      refine wpAnyH_ready (rs := [7, 11]) (by kernel_rfl) (by simp) (AllReadyH.cons rfl (fun K hK => ?_) (AllReadyH.cons rfl (fun K hK => ?_) AllReadyH.nil))
      · go_simp
        refine (HCc.out _ (HAp.out.below Hb1)).mono ?_
        rintro e w2_ ⟨rfl, hb2⟩
        have fB2 := fB1.below hb2
        have fS2 := fS1.below hb2
        have fX2 := fX1.below hb2
        have Hb2 : Below w.heap.size w w2_ := below_of Hb1 hb2 Hb1.size
        have Zb2 : w1.heap.size ≤ w2_.heap.size := Nat.le_trans Zb1 hb2.size
        go_wp2_with (fail)
        refine hK.out _ _ ⟨Hb2, fS2⟩ fun _ => ?_
        clear hK K
        try simp only [la0, la1, la2, Act.put, la3, la4, la5]
        refine wpAnyH_take (i := 8) (v := ?_) rfl (by kernel_rfl) (by kernel_rfl) (by kernel_rfl) (fun _ _ _ h => h) (Or.inl ⟨by rfl, ?_⟩) ⟨Hb2, fS2⟩ ?_
        rotate_left
        · intro w hSw
          go_simp
          try with_reducible rfl
        try simp only [la0, la1, la2, Act.put, la3, la4, la5]
        refine wpAnyH_take (i := 9) (v := ?_) rfl (by kernel_rfl) (by kernel_rfl) (by kernel_rfl) (fun _ _ _ h => h) (Or.inl ⟨by rfl, ?_⟩) ⟨Hb2, fS2⟩ ?_
        rotate_left
        · intro w hSw
          go_simp
          try with_reducible rfl
        try simp only [la0, la1, la2, Act.put, la3, la4, la5]
        refine wpAnyH_take (i := 10) (v := ?_) rfl (by kernel_rfl) (by kernel_rfl) (by kernel_rfl) (fun _ _ _ h => h) (Or.inl ⟨by rfl, ?_⟩) ⟨Hb2, fS2⟩ ?_
        rotate_left
        · intro w hSw
          go_simp
          try with_reducible rfl
        try simp only [la0, la1, la2, Act.put, la3, la4, la5]
        refine wpAnyH_ready (rs := [11]) (by kernel_rfl) (by simp) (AllReadyH.cons rfl (fun K hK => ?_) AllReadyH.nil)
        go_simp
        generalize hge : World.alloc _ _ = w3_
        have fD3 : Blk w3_ w2_.heap.size 28 (arrK .u8 z32) := by subst hge; exact Blk.new _ _ _
        have hb3 : Below w2_.heap.size w2_ w3_ := by subst hge; exact (Below.refl _ _).alloc (Nat.le_refl _) _
        clear hge
        have fB3 := fB2.below hb3
        have fS3 := fS2.below hb3
        have fX3 := fX2.below hb3
        have ltXD3 := fX2.lt
        have loD3 : w1.heap.size ≤ w2_.heap.size := Zb2
        have Hb3 : Below w.heap.size w w3_ := below_of Hb2 hb3 Hb2.size
        have Zb3 : w1.heap.size ≤ w3_.heap.size := Nat.le_trans Zb2 hb3.size
        refine hK.out _ _ ⟨Hb3, fS3⟩ fun _ => ?_
        clear hK K
        try simp only [la0, la1, la2, Act.put, la3, la4, la5]
        refine wpAnyH_ready (rs := [12]) (by kernel_rfl) (by simp) (AllReadyH.cons rfl (fun K hK => ?_) AllReadyH.nil)
        refine step_put_blk (by rfl) _ _ _ (by rfl) (w2_.heap.size) (arrK .u8 (dd)) (by rfl) (by rfl) _ _ fD3 (info32 Ddd.out.1) (by rw [len32 Ddd.out.1, len32 z32_length]) (arrK_all _ _) ?_
        intro w4_ fD4 hg4 hz4
        have neB4 := fB3.lt
        have fB4 := fB3.grown hg4 (by first | (simp; done) | (simp; omega))
        have neS4 := fS3.lt
        have fS4 := fS3.grown hg4 (by first | (simp; done) | (simp; omega))
        have neX4 := fX3.lt
        have fX4 := fX3.grown hg4 (by first | (simp; done) | (simp; omega))
        have Hb4 : Below w.heap.size w w4_ := below_grown Hb3 hg4 Hb3.size (by first | (simp; done) | (simp; omega))
        have Zb4 : w1.heap.size ≤ w4_.heap.size := Nat.le_trans Zb3 hg4.size
        refine hK.out _ _ ⟨Hb4, fS4⟩ fun _ => ?_
        clear hK K
        try simp only [la0, la1, la2, Act.put, la3, la4, la5]
        refine wpAnyH_take (i := 13) (v := ?_) rfl (by kernel_rfl) (by kernel_rfl) (by kernel_rfl) (fun _ _ _ h => h) (Or.inl ⟨by rfl, ?_⟩) ⟨Hb4, fS4⟩ ?_
        rotate_left
        · intro w hSw
          go_simp
          try with_reducible rfl
        try simp only [la0, la1, la2, Act.put, la3, la4, la5]
        refine wpAnyH_done (by kernel_rfl) ?_ _
        have HDf := Lib.hid fD4
        have HBf := Lib.hid fB4
        have HWf := Lib.hid Hb4
        go_wp2_with (first
          | (refine wpList_load_blk_g 28 (.tmp 11) (by rfl) (by kernel_rfl) (w2_.heap.size) rfl 28 (arrK .u8 dd) (.array 32 5) HDf.out (by kernel_rfl) rfl (info32 Ddd.out.1) ?_)
          | (refine wpList_load_blk_g 28 (.tmp 4) (by rfl) (by kernel_rfl) w.heap.size rfl 28 (arrK .u8 root) (.array 32 5) HBf.out (by kernel_rfl) rfl (info32 Hrt.out.1) ?_))
        go_ret
        exact ⟨ret_bool Hver.out, HWf.out⟩
      · go_simp
        generalize hge : World.alloc _ _ = w2_
        have fD2 : Blk w2_ w1_.heap.size 28 (arrK .u8 z32) := by subst hge; exact Blk.new _ _ _
        have hb2 : Below w1_.heap.size w1_ w2_ := by subst hge; exact (Below.refl _ _).alloc (Nat.le_refl _) _
        clear hge
        have fB2 := fB1.below hb2
        have fS2 := fS1.below hb2
        have fX2 := fX1.below hb2
        have ltXD2 := fX1.lt
        have loD2 : w1.heap.size ≤ w1_.heap.size := Zb1
        have Hb2 : Below w.heap.size w w2_ := below_of Hb1 hb2 Hb1.size
        have Zb2 : w1.heap.size ≤ w2_.heap.size := Nat.le_trans Zb1 hb2.size
        refine hK.out _ _ ⟨Hb2, fS2⟩ fun _ => ?_
        clear hK K
        try simp only [la0, la1, la2, Act.put, la3, la4, la5]
        refine wpAnyH_ready (rs := [7]) (by kernel_rfl) (by simp) (AllReadyH.cons rfl (fun K hK => ?_) AllReadyH.nil)
        go_simp
        refine (HCc.out _ (HAp.out.below Hb2)).mono ?_
        rintro e w3_ ⟨rfl, hb3⟩
        have fB3 := fB2.below hb3
        have fS3 := fS2.below hb3
        have fX3 := fX2.below hb3
        have fD3 := fD2.below hb3
        have Hb3 : Below w.heap.size w w3_ := below_of Hb2 hb3 Hb2.size
        have Zb3 : w1.heap.size ≤ w3_.heap.size := Nat.le_trans Zb2 hb3.size
        go_wp2_with (fail)
        refine hK.out _ _ ⟨Hb3, fS3⟩ fun _ => ?_
        clear hK K
        try simp only [la0, la1, la2, Act.put, la3, la4, la5]
        refine wpAnyH_take (i := 8) (v := ?_) rfl (by kernel_rfl) (by kernel_rfl) (by kernel_rfl) (fun _ _ _ h => h) (Or.inl ⟨by rfl, ?_⟩) ⟨Hb3, fS3⟩ ?_
        rotate_left
        · intro w hSw
          go_simp
          try with_reducible rfl
        try simp only [la0, la1, la2, Act.put, la3, la4, la5]
        refine wpAnyH_take (i := 9) (v := ?_) rfl (by kernel_rfl) (by kernel_rfl) (by kernel_rfl) (fun _ _ _ h => h) (Or.inl ⟨by rfl, ?_⟩) ⟨Hb3, fS3⟩ ?_
        rotate_left
        · intro w hSw
          go_simp
          try with_reducible rfl
        try simp only [la0, la1, la2, Act.put, la3, la4, la5]
        refine wpAnyH_take (i := 10) (v := ?_) rfl (by kernel_rfl) (by kernel_rfl) (by kernel_rfl) (fun _ _ _ h => h) (Or.inl ⟨by rfl, ?_⟩) ⟨Hb3, fS3⟩ ?_
        rotate_left
        · intro w hSw
          go_simp
          try with_reducible rfl
        try simp only [la0, la1, la2, Act.put, la3, la4, la5]
        refine wpAnyH_ready (rs := [12]) (by kernel_rfl) (by simp) (AllReadyH.cons rfl (fun K hK => ?_) AllReadyH.nil)
        refine step_put_blk (by rfl) _ _ _ (by rfl) (w1_.heap.size) (arrK .u8 (dd)) (by rfl) (by rfl) _ _ fD3 (info32 Ddd.out.1) (by rw [len32 Ddd.out.1, len32 z32_length]) (arrK_all _ _) ?_
        intro w4_ fD4 hg4 hz4
        have neB4 := fB3.lt
        have fB4 := fB3.grown hg4 (by first | (simp; done) | (simp; omega))
        have neS4 := fS3.lt
        have fS4 := fS3.grown hg4 (by first | (simp; done) | (simp; omega))
        have neX4 := fX3.lt
        have fX4 := fX3.grown hg4 (by first | (simp; done) | (simp; omega))
        have Hb4 : Below w.heap.size w w4_ := below_grown Hb3 hg4 Hb3.size (by first | (simp; done) | (simp; omega))
        have Zb4 : w1.heap.size ≤ w4_.heap.size := Nat.le_trans Zb3 hg4.size
        refine hK.out _ _ ⟨Hb4, fS4⟩ fun _ => ?_
        clear hK K
        try simp only [la0, la1, la2, Act.put, la3, la4, la5]
        refine wpAnyH_take (i := 13) (v := ?_) rfl (by kernel_rfl) (by kernel_rfl) (by kernel_rfl) (fun _ _ _ h => h) (Or.inl ⟨by rfl, ?_⟩) ⟨Hb4, fS4⟩ ?_
        rotate_left
        · intro w hSw
          go_simp
          try with_reducible rfl
        try simp only [la0, la1, la2, Act.put, la3, la4, la5]
        refine wpAnyH_done (by kernel_rfl) ?_ _
        have HDf := Lib.hid fD4
        have HBf := Lib.hid fB4
        have HWf := Lib.hid Hb4
        go_wp2_with (first
          | (refine wpList_load_blk_g 28 (.tmp 11) (by rfl) (by kernel_rfl) (w1_.heap.size) rfl 28 (arrK .u8 dd) (.array 32 5) HDf.out (by kernel_rfl) rfl (info32 Ddd.out.1) ?_)
          | (refine wpList_load_blk_g 28 (.tmp 4) (by rfl) (by kernel_rfl) w.heap.size rfl 28 (arrK .u8 root) (.array 32 5) HBf.out (by kernel_rfl) rfl (info32 Hrt.out.1) ?_))
        go_ret
        exact ⟨ret_bool Hver.out, HWf.out⟩
    · go_simp
      generalize hge : World.alloc _ _ = w1_
      have fD1 : Blk w1_ wd.heap.size 28 (arrK .u8 z32) := by subst hge; exact Blk.new _ _ _
      have hb1 : Below wd.heap.size wd w1_ := by subst hge; exact (Below.refl _ _).alloc (Nat.le_refl _) _
      clear hge
      have fB1 := fB.below hb1
      have fS1 := fS.below hb1
      have fX1 := fX.below hb1
      have ltXD1 := fX.lt
      have loD1 : w1.heap.size ≤ wd.heap.size := Zd
      have Hb1 : Below w.heap.size w w1_ := below_of Hd hb1 Hd.size
      have Zb1 : w1.heap.size ≤ w1_.heap.size := Nat.le_trans Zd hb1.size
      refine hK.out _ _ ⟨Hb1, fS1⟩ fun _ => ?_
      clear hK K
      try simp only [la0, la1, la2, Act.put, la3, la4, la5]
      refine wpAnyH_ready (rs := [1]) (by kernel_rfl) (by simp) (AllReadyH.cons rfl (fun K hK => ?_) AllReadyH.nil)
      go_simp
      refine (public_of 53 #[] #[.pointer (some ⟨X, 0, none⟩), .pointer (some ⟨w.heap.size + 1, 0, none⟩)] (verF x o cl) _ (enters_of Try.func53 (by kernel_rfl) rfl) (fun W j b hW hj => HV.out W j b (below_of Hb1 hW Hb1.size) (fX1.below hW) (fS1.below hW) hj) (fun j b _ => verF_isD x HCL.out j b)).mono ?_
      rintro e w2_ ⟨rfl, hb2⟩
      have fB2 := fB1.below hb2
      have fS2 := fS1.below hb2
      have fX2 := fX1.below hb2
      have fD2 := fD1.below hb2
      have Hb2 : Below w.heap.size w w2_ := below_of Hb1 hb2 Hb1.size
      have Zb2 : w1.heap.size ≤ w2_.heap.size := Nat.le_trans Zb1 hb2.size
      go_wp2_with (fail)
      refine hK.out _ _ ⟨Hb2, fS2⟩ fun _ => ?_
      clear hK K
      try simp only [la0, la1, la2, Act.put, la3, la4, la5]
      refine wpAnyH_ready (rs := [7]) (by kernel_rfl) (by simp) (AllReadyH.cons rfl (fun K hK => ?_) AllReadyH.nil)
      go_simp
      refine (HCc.out _ (HAp.out.below Hb2)).mono ?_
      rintro e w3_ ⟨rfl, hb3⟩
      have fB3 := fB2.below hb3
      have fS3 := fS2.below hb3
      have fX3 := fX2.below hb3
      have fD3 := fD2.below hb3
      have Hb3 : Below w.heap.size w w3_ := below_of Hb2 hb3 Hb2.size
      have Zb3 : w1.heap.size ≤ w3_.heap.size := Nat.le_trans Zb2 hb3.size
      go_wp2_with (fail)
      refine hK.out _ _ ⟨Hb3, fS3⟩ fun _ => ?_
      clear hK K
      try simp only [la0, la1, la2, Act.put, la3, la4, la5]
      refine wpAnyH_take (i := 8) (v := ?_) rfl (by kernel_rfl) (by kernel_rfl) (by kernel_rfl) (fun _ _ _ h => h) (Or.inl ⟨by rfl, ?_⟩) ⟨Hb3, fS3⟩ ?_
      rotate_left
      · intro w hSw
        go_simp
        try with_reducible rfl
      try simp only [la0, la1, la2, Act.put, la3, la4, la5]
      refine wpAnyH_take (i := 9) (v := ?_) rfl (by kernel_rfl) (by kernel_rfl) (by kernel_rfl) (fun _ _ _ h => h) (Or.inl ⟨by rfl, ?_⟩) ⟨Hb3, fS3⟩ ?_
      rotate_left
      · intro w hSw
        go_simp
        try with_reducible rfl
      try simp only [la0, la1, la2, Act.put, la3, la4, la5]
      refine wpAnyH_take (i := 10) (v := ?_) rfl (by kernel_rfl) (by kernel_rfl) (by kernel_rfl) (fun _ _ _ h => h) (Or.inl ⟨by rfl, ?_⟩) ⟨Hb3, fS3⟩ ?_
      rotate_left
      · intro w hSw
        go_simp
        try with_reducible rfl
      try simp only [la0, la1, la2, Act.put, la3, la4, la5]
      refine wpAnyH_ready (rs := [12]) (by kernel_rfl) (by simp) (AllReadyH.cons rfl (fun K hK => ?_) AllReadyH.nil)
      refine step_put_blk (by rfl) _ _ _ (by rfl) (wd.heap.size) (arrK .u8 (dd)) (by rfl) (by rfl) _ _ fD3 (info32 Ddd.out.1) (by rw [len32 Ddd.out.1, len32 z32_length]) (arrK_all _ _) ?_
      intro w4_ fD4 hg4 hz4
      have neB4 := fB3.lt
      have fB4 := fB3.grown hg4 (by first | (simp; done) | (simp; omega))
      have neS4 := fS3.lt
      have fS4 := fS3.grown hg4 (by first | (simp; done) | (simp; omega))
      have neX4 := fX3.lt
      have fX4 := fX3.grown hg4 (by first | (simp; done) | (simp; omega))
      have Hb4 : Below w.heap.size w w4_ := below_grown Hb3 hg4 Hb3.size (by first | (simp; done) | (simp; omega))
      have Zb4 : w1.heap.size ≤ w4_.heap.size := Nat.le_trans Zb3 hg4.size
      refine hK.out _ _ ⟨Hb4, fS4⟩ fun _ => ?_
      clear hK K
      try simp only [la0, la1, la2, Act.put, la3, la4, la5]
      refine wpAnyH_take (i := 13) (v := ?_) rfl (by kernel_rfl) (by kernel_rfl) (by kernel_rfl) (fun _ _ _ h => h) (Or.inl ⟨by rfl, ?_⟩) ⟨Hb4, fS4⟩ ?_
      rotate_left
      · intro w hSw
        go_simp
        try with_reducible rfl
      try simp only [la0, la1, la2, Act.put, la3, la4, la5]
      refine wpAnyH_done (by kernel_rfl) ?_ _
      have HDf := Lib.hid fD4
      have HBf := Lib.hid fB4
      have HWf := Lib.hid Hb4
      go_wp2_with (first
        | (refine wpList_load_blk_g 28 (.tmp 11) (by rfl) (by kernel_rfl) (wd.heap.size) rfl 28 (arrK .u8 dd) (.array 32 5) HDf.out (by kernel_rfl) rfl (info32 Ddd.out.1) ?_)
        | (refine wpList_load_blk_g 28 (.tmp 4) (by rfl) (by kernel_rfl) w.heap.size rfl 28 (arrK .u8 root) (.array 32 5) HBf.out (by kernel_rfl) rfl (info32 Hrt.out.1) ?_))
      go_ret
      exact ⟨ret_bool Hver.out, HWf.out⟩
end Go.Proofs.Ytkflpoiobpblhaa
