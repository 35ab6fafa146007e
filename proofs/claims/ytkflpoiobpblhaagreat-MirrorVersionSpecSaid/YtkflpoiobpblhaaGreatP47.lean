/- Walks and plain laws that the statement rests on: SigR5. -/
import Derived.Test.YtkflpoiobpblhaaGreatP00
import Derived.Test.YtkflpoiobpblhaaGreatP29
import Derived.Test.YtkflpoiobpblhaaGreatP46
import Derived.Test.YtkflpoiobpblhaaGreatPS
namespace Go.Proofs.YtkflpoiobpblhaaGreat
open Go.RowKit
def NoB (cs : Array Value) : Prop := ∀ (i : Nat) (y : Bool), cs[i]? ≠ some (.bool y)
theorem nob_key {A : Option Addr} {n c : Nat} {a b : Int} : NoB #[.slice A n c, .int .i64 a, .int .i64 b] := fun i y => by
 match i with
 | 0 => simp
 | 1 => simp
 | 2 => simp
 | i + 3 => simp
theorem nob_sig {A B C : Option Addr} {n c m d p q : Nat} {a : Int} : NoB #[.int .i64 a, .slice A n c, .slice B m d, .slice C p q] := fun i y => by
 match i with
 | 0 => simp
 | 1 => simp
 | 2 => simp
 | 3 => simp
 | i + 4 => simp
theorem Cells.offB {w w' : World} {A : Option Addr} {l : List Bool} {g : Nat} {t : TypeId} {cs : Array Value} (h : Cells w A (l.map Value.bool)) (hg : w.grownBy w' (some g)) (hB : Blk w g t cs) (hno : NoB cs) : Cells w' A (l.map Value.bool) := by
 cases l with
 | nil => exact .inl rfl
 | cons y l =>
   obtain ⟨b, off, rfl, hlt, hc⟩ := h.addr (by simp)
   have h0 := hc 0 (.bool y) (by simp)
   have hne : b ≠ g := fun e => by
    subst e
    rw [Nat.add_zero, hB.cell] at h0
    exact hno off _ h0
   exact h.grown hg (fun b' off' hA e => by injection hA with hA; injection hA with h1 _; injection e with e; omega)
theorem Cells.grownV {w w' : World} {A : Option Addr} {l : List Value} {ob size n : Nat} {e : TypeId} {v : Value} {xs : List Value} (h : Cells w A l) (hg : w.grownBy w' v.ownBlock) (ha : l = [] ∨ ∀ b off, A = some ⟨b, off, none⟩ → b < ob) (ho : w.ownsRow ob e size v n xs) : Cells w' A l := by
 rcases ha with rfl | ha
 · exact .inl rfl
 · exact h.grown hg (fun b off hA e => absurd (own_base ho _ e.symm) (Nat.not_le.2 (ha b off hA)))
theorem cellsV_lt {w : World} {A : Option Addr} {l : List Value} {ob : Nat} (h : Cells w A l) (hz : w.heap.size ≤ ob) : l = [] ∨ ∀ b off, A = some ⟨b, off, none⟩ → b < ob := by
 cases l with
 | nil => exact .inl rfl
 | cons y l =>
   obtain ⟨b, off, rfl, hlt, -⟩ := h.addr (by simp)
   exact .inr fun b' off' hA => by injection hA with hA; injection hA with h1 _; omega
theorem cellsB_get {w : World} {b off k : Nat} {x : List Bool} {y : Bool} (h : Cells w (some ⟨b, off, none⟩) (x.map Value.bool)) (hk : k < x.length) (hy : x.getD k false = y) : w.cell? ⟨b, off + k, none⟩ = some (.bool y) := by
 obtain ⟨b', off', e, -, hc⟩ := h.addr (by rw [List.length_map]; omega)
 injection e with e; injection e with e1 e2
 subst e1 e2
 refine hc k _ ?_
 obtain ⟨a, ha⟩ := getElem?_lt hk
 rw [List.getD_eq_getElem?_getD, ha] at hy
 rw [List.getElem?_map, ha, ← hy]; rfl
theorem bn_t : bn true = 1 := rfl
theorem bn_f : bn false = 0 := rfl
theorem keyF_t (s : List Nat) (i j : Nat) : keyF s i j (!true) = hashS (secS s i j 0) := by rw [keyF_eq]; rfl
theorem keyF_f (s : List Nat) (i j : Nat) : keyF s i j (!false) = hashS (secS s i j 1) := by rw [keyF_eq]; rfl
set_option linter.unusedSimpArgs false in
set_option maxRecDepth 100000 in
set_option maxHeartbeats 4000000 in
theorem rSign_bad (A : Option Addr) (n c : Nat) (m u : Int) (B : Option Addr) (k d : Nat) (w : World) (h : okKey n m u = false ∨ (okKey n m u = true ∧ k ≤ 65536 ∧ u = m)) :
    Calls Tryz.prog 35 #[.agg #[.slice A n c, .int .i64 m, .int .i64 u], .slice B k d] w fun e w' => e = .returned (.tuple #[.agg #[.slice none 0 0, .int .i64 0, .int .i64 0], .agg #[.int .i64 0, .slice none 0 0, .slice none 0 0, .slice none 0 0], .int .i64 40]) ∧ Below w.heap.size w w' := by
 rcases h with h | ⟨h, hk, rfl⟩
 · have HV := Lib.hid (fun W => rvalid_any A n c m u W)
   rw [h] at HV
   clear h
   go_enter Tryz.func35, Tryz.ntmps35
   go_wp2_with (fail)
   generalize hge : World.alloc _ _ = w1
   have hall : Blk w1 w.heap.size 24 #[.slice A n c, .int .i64 m, .int .i64 u] ∧ Blk w1 (w.heap.size + 1) 24 #[.slice none 0 0, .int .i64 0, .int .i64 0] ∧ Blk w1 (w.heap.size + 1 + 1) 32 #[.int .i64 0, .slice none 0 0, .slice none 0 0, .slice none 0 0] ∧ Below w.heap.size w w1 := by
    subst hge
    exact blk_three w _ _ _ 24 24 32
   have H1 := Lib.hid hall.1; have HR := Lib.hid hall.2.1; have HS := Lib.hid hall.2.2.1; have HB := Lib.hid hall.2.2.2
   have oR : w.heap.size + 1 < w1.heap.size := HR.out.lt
   have oS : w.heap.size + 1 + 1 < w1.heap.size := HS.out.lt
   clear hge hall
   have q0 := H1.out.cellv (i := 0) rfl
   have q1 := H1.out.cellv (i := 1) rfl
   have q2 := H1.out.cellv (i := 2) rfl
   go_wp2_with (fail)
   refine (HV.out w1).mono ?_
   rintro e w2 ⟨rfl, hb2⟩
   have HK2 := Lib.hid (H1.out.below hb2)
   have HR2 := Lib.hid (HR.out.below hb2)
   have HS2 := Lib.hid (HS.out.below hb2)
   have HB2 := Lib.hid (below_of HB.out hb2 HB.out.size)
   have hz2 : w1.heap.size ≤ w2.heap.size := hb2.size
   clear hb2 q0 q1 q2
   go_wp2_with (first
    | (refine wpList_put_blk rfl 24 (.tmp 4) (.tmp 16) rfl (w.heap.size + 1) #[.slice none 0 0, .int .i64 0, .int .i64 0] rfl rfl 24 #[.slice none 0 0, .int .i64 0, .int .i64 0] HR2.out (by kernel_rfl) (by rfl) (by simp [Value.oneCell']) ?_; intro w3 HR3 hg3 hz3; have HS3 := Lib.hid (HS2.out.grown hg3 (by simp)); have HB3 := Lib.hid (below_grown HB2.out hg3 HB2.out.size (by simp)); have HR3 := Lib.hid HR3; clear hg3)
    | (refine wpList_put_blk rfl 32 (.tmp 5) (.tmp 17) rfl (w.heap.size + 1 + 1) #[.int .i64 0, .slice none 0 0, .slice none 0 0, .slice none 0 0] rfl rfl 32 #[.int .i64 0, .slice none 0 0, .slice none 0 0, .slice none 0 0] HS3.out (by kernel_rfl) (by rfl) (by simp [Value.oneCell']) ?_; intro w4 HS4 hg4 hz4; have HR4 := Lib.hid (HR3.out.grown hg4 (by simp)); have HB4 := Lib.hid (below_grown HB3.out hg4 HB3.out.size (by simp; omega)); have HS4 := Lib.hid HS4; clear hg4))
   exact ret_row3 rfl (w.heap.size + 1) (w.heap.size + 1 + 1) 24 32 #[.slice none 0 0, .int .i64 0, .int .i64 0] #[.int .i64 0, .slice none 0 0, .slice none 0 0, .slice none 0 0] _ _ rfl rfl rfl HR4.out HS4.out Tryz.underlying24 Tryz.underlying32 rfl rfl (by kernel_rfl) (by kernel_rfl) rfl ⟨rfl, HB4.out⟩
 · have HV := Lib.hid (fun W => rvalid_any A n c u u W)
   rw [h] at HV
   have hkI : (k : Int) ≤ 65536 := by omega
   clear h
   go_enter Tryz.func35, Tryz.ntmps35
   go_wp2_with (fail)
   generalize hge : World.alloc _ _ = w1
   have hall : Blk w1 w.heap.size 24 #[.slice A n c, .int .i64 u, .int .i64 u] ∧ Blk w1 (w.heap.size + 1) 24 #[.slice none 0 0, .int .i64 0, .int .i64 0] ∧ Blk w1 (w.heap.size + 1 + 1) 32 #[.int .i64 0, .slice none 0 0, .slice none 0 0, .slice none 0 0] ∧ Below w.heap.size w w1 := by
    subst hge
    exact blk_three w _ _ _ 24 24 32
   have H1 := Lib.hid hall.1; have HR := Lib.hid hall.2.1; have HS := Lib.hid hall.2.2.1; have HB := Lib.hid hall.2.2.2
   have oR : w.heap.size + 1 < w1.heap.size := HR.out.lt
   have oS : w.heap.size + 1 + 1 < w1.heap.size := HS.out.lt
   clear hge hall
   have q0 := H1.out.cellv (i := 0) rfl
   have q1 := H1.out.cellv (i := 1) rfl
   have q2 := H1.out.cellv (i := 2) rfl
   go_wp2_with (fail)
   refine (HV.out w1).mono ?_
   rintro e w2 ⟨rfl, hb2⟩
   have HK2 := Lib.hid (H1.out.below hb2)
   have HR2 := Lib.hid (HR.out.below hb2)
   have HS2 := Lib.hid (HS.out.below hb2)
   have HB2 := Lib.hid (below_of HB.out hb2 HB.out.size)
   have hz2 : w1.heap.size ≤ w2.heap.size := hb2.size
   clear hb2 q0 q1 q2
   have q1 := HK2.out.cellv (i := 1) rfl
   have q2 := HK2.out.cellv (i := 2) rfl
   go_wp2_with (first
    | (refine wpList_put_blk rfl 24 (.tmp 4) (.tmp 28) rfl (w.heap.size + 1) #[.slice none 0 0, .int .i64 0, .int .i64 0] rfl rfl 24 #[.slice none 0 0, .int .i64 0, .int .i64 0] HR2.out (by kernel_rfl) (by rfl) (by simp [Value.oneCell']) ?_; intro w3 HR3 hg3 hz3; have HS3 := Lib.hid (HS2.out.grown hg3 (by simp)); have HB3 := Lib.hid (below_grown HB2.out hg3 HB2.out.size (by simp)); have HR3 := Lib.hid HR3; clear hg3)
    | (refine wpList_put_blk rfl 32 (.tmp 5) (.tmp 29) rfl (w.heap.size + 1 + 1) #[.int .i64 0, .slice none 0 0, .slice none 0 0, .slice none 0 0] rfl rfl 32 #[.int .i64 0, .slice none 0 0, .slice none 0 0, .slice none 0 0] HS3.out (by kernel_rfl) (by rfl) (by simp [Value.oneCell']) ?_; intro w4 HS4 hg4 hz4; have HR4 := Lib.hid (HR3.out.grown hg4 (by simp)); have HB4 := Lib.hid (below_grown HB3.out hg4 HB3.out.size (by simp; omega)); have HS4 := Lib.hid HS4; clear hg4))
   exact ret_row3 rfl (w.heap.size + 1) (w.heap.size + 1 + 1) 24 32 #[.slice none 0 0, .int .i64 0, .int .i64 0] #[.int .i64 0, .slice none 0 0, .slice none 0 0, .slice none 0 0] _ _ rfl rfl rfl HR4.out HS4.out Tryz.underlying24 Tryz.underlying32 rfl rfl (by kernel_rfl) (by kernel_rfl) rfl ⟨rfl, HB4.out⟩
set_option linter.unusedSimpArgs false in
set_option maxRecDepth 100000 in
set_option maxHeartbeats 4000000 in
theorem rSign_good (A : Option Addr) (n c m u : Nat) (s : List Nat) (B : Option Addr) (k0 d : Nat) (msg : List Nat) (w : World) (hA : Cells w A (bytesV s)) (hs : s.length = n) (h8 : ByteL s) (hok : okKey n m u = true) (hu : u < m) (hM : Cells w B (bytesV msg)) (hm : msg.length = k0) (hk0 : k0 ≤ 65536) (hm8 : ByteL msg) :
    Calls Tryz.prog 35 #[.agg #[.slice A n c, .int .i64 m, .int .i64 u], .slice B k0 d] w fun e w' => ∃ (Ao : Option Addr) (co : Nat) (Ac : Option Addr) (cc : Nat) (Ap : Option Addr) (q cp : Nat), e = .returned (.tuple #[.agg #[.slice A n c, .int .i64 m, .int .i64 ((u : Int) + 1)], .agg #[.int .i64 u, .slice Ao 64 co, .slice Ac 64 cc, .slice Ap q cp], .int .i64 0]) ∧
     (pathR (pubL s m) u).length = q ∧ q ≤ cp ∧ cp ≤ maxLen ∧ 64 ≤ co ∧ co ≤ maxLen ∧ 64 ≤ cc ∧ cc ≤ maxLen ∧ Cells w' Ao (bytesV (openL s u (bitL (msgS (treeS (pubL s m)) u msg) 64) 64).flatten) ∧ Cells w' Ac (bytesV (closL s u (bitL (msgS (treeS (pubL s m)) u msg) 64) 64).flatten) ∧ Cells w' Ap (bytesV (pathR (pubL s m) u).flatten) ∧ (∀ l, NewA w.heap.size Ao l) ∧ (∀ l, NewA w.heap.size Ac l) ∧ NewA w.heap.size Ap (pathR (pubL s m) u).flatten ∧ Below w.heap.size w w' := by
 obtain ⟨hn1, hn64, hm1, hm4096, hu0, hum⟩ := okKey_true hok
 have HV := Lib.hid (fun W => rvalid_any A n c m u W)
 rw [hok] at HV
 have HA := Lib.hid hA
 have Hs := Lib.hid hs
 have Hs8 := Lib.hid h8
 have HM := Lib.hid hM
 have hn : n ≤ 1000 := by omega
 have hm4 : m ≤ 4096 := by omega
 have hu64 : u < 65536 := by omega
 have HBi := Lib.hid (fun W h => rBits_good (treeS (pubL s m)) u msg B k0 d W (treeS_isD _) (by omega) h hm (by omega) hm8)
 obtain ⟨x, hx⟩ : ∃ x, bitL (msgS (treeS (pubL s m)) u msg) 64 = x := ⟨_, rfl⟩
 have Hlx := Lib.hid (show x.length = 64 by rw [← hx, bitL_length])
 rw [hx] at HBi ⊢
 have hkI : (k0 : Int) ≤ 65536 := by omega
 have hne : ((u : Int) == (m : Int)) = false := by simp; omega
 have hne2 : (u == m) = false := by simp; omega
 clear hA hs h8 hM hm hm8 hok hx hn1 hn64 hm1 hm4096 hu0 hum
 go_enter Tryz.func35, Tryz.ntmps35
 go_wp2_with (fail)
 generalize hge : World.alloc _ _ = w1
 have hall : Blk w1 w.heap.size 24 #[.slice A n c, .int .i64 m, .int .i64 u] ∧ Blk w1 (w.heap.size + 1) 24 #[.slice none 0 0, .int .i64 0, .int .i64 0] ∧ Blk w1 (w.heap.size + 1 + 1) 32 #[.int .i64 0, .slice none 0 0, .slice none 0 0, .slice none 0 0] ∧ Below w.heap.size w w1 := by
  subst hge
  exact blk_three w _ _ _ 24 24 32
 have H1 := Lib.hid hall.1; have HR := Lib.hid hall.2.1; have HS := Lib.hid hall.2.2.1; have HB := Lib.hid hall.2.2.2
 have oR : w.heap.size + 1 < w1.heap.size := HR.out.lt
 have oS : w.heap.size + 1 + 1 < w1.heap.size := HS.out.lt
 clear hge hall
 have q0 := H1.out.cellv (i := 0) rfl
 have q1 := H1.out.cellv (i := 1) rfl
 have q2 := H1.out.cellv (i := 2) rfl
 go_wp2_with (fail)
 refine (HV.out w1).mono ?_
 rintro e w2 ⟨rfl, hb2⟩
 have HK2 := Lib.hid (H1.out.below hb2)
 have HR2 := Lib.hid (HR.out.below hb2)
 have HS2 := Lib.hid (HS.out.below hb2)
 have HB2 := Lib.hid (below_of HB.out hb2 HB.out.size)
 have hz2 : w1.heap.size ≤ w2.heap.size := hb2.size
 clear hb2 q0 q1 q2
 have q0 := HK2.out.cellv (i := 0) rfl
 have q1 := HK2.out.cellv (i := 1) rfl
 have q2 := HK2.out.cellv (i := 2) rfl
 go_wp2_with (fail)
 refine (rkeys_any A n c m u s w2 (HA.out.below HB2.out) Hs.out hn Hs8.out hm4).mono ?_
 rintro e w3 ⟨A3, c3, rfl, hc3, hm3, hC3, hb3⟩
 have HK3 := Lib.hid (HK2.out.below hb3)
 have HR3 := Lib.hid (HR2.out.below hb3)
 have HS3 := Lib.hid (HS2.out.below hb3)
 have HB3 := Lib.hid (below_of HB2.out hb3 HB2.out.size)
 have hz3 : w1.heap.size ≤ w3.heap.size := Nat.le_trans hz2 hb3.size
 have HL3 := Lib.hid hC3
 have hc3 := Lib.hid hc3
 clear hb3 q0 q1 q2 hC3 hm3
 have q2 := HK3.out.cellv (i := 2) rfl
 go_upto_region 9 with (fail)
 generalize hge : World.alloc _ _ = w8
 have HT8 := Lib.hid (show Blk w8 w3.heap.size 32 #[.int .i64 u, .slice none 0 0, .slice none 0 0, .slice none 0 0] by subst hge; exact Blk.new w3 _ _)
 have hb8 := al1 hge
 have HK8 := Lib.hid (HK3.out.below hb8)
 have HR8 := Lib.hid (HR3.out.below hb8)
 have HS8 := Lib.hid (HS3.out.below hb8)
 have HL8 := Lib.hid (HL3.out.below hb8)
 have HB8 := Lib.hid (below_of HB3.out hb8 HB3.out.size)
 clear hge hb8 q2
 obtain ⟨E, hE⟩ : ∃ E, w3.heap.size = E := ⟨_, rfl⟩
 rw [hE] at HT8 ⊢
 have oEs : w.heap.size + 1 + 1 < E := by rw [← hE]; exact HS3.out.lt
 clear hE
 have oT : E < w8.heap.size := HT8.out.lt
 have oK : w.heap.size < w8.heap.size := HK8.out.lt
 have oR : w.heap.size + 1 < w8.heap.size := HR8.out.lt
 have oS : w.heap.size + 1 + 1 < w8.heap.size := HS8.out.lt
 refine wp_region_held_drew (S := fun W => Below w.heap.size w W ∧ Blk W w.heap.size 24 #[.slice A n c, .int .i64 m, .int .i64 u]) (by kernel_rfl) (⟨below_drewN HB8.out 1, HK8.out⟩) (fun Hd => ?_)
 have Hd : Below w.heap.size w w8.drew := below_drewN HB8.out 1
 have Zd : w8.heap.size ≤ w8.drew.heap.size := Nat.le_refl _
 have fK : Blk w8.drew w.heap.size 24 #[.slice A n c, .int .i64 m, .int .i64 u] := HK8.out
 have fR : Blk w8.drew (w.heap.size + 1) 24 #[.slice none 0 0, .int .i64 0, .int .i64 0] := HR8.out
 have fS : Blk w8.drew (w.heap.size + 1 + 1) 32 #[.int .i64 0, .slice none 0 0, .slice none 0 0, .slice none 0 0] := HS8.out
 have fT : Blk w8.drew E 32 #[.int .i64 u, .slice none 0 0, .slice none 0 0, .slice none 0 0] := HT8.out
 have fl : Cells w8.drew A3 (bytesV (pubL s m).flatten) := HL8.out
 generalize World.drew w8 = wd at *
 refine tq 0 rfl ⟨Hd, fK⟩ ?_
 refine tq 2 rfl ⟨Hd, fK⟩ ?_
 try simp only [la, Act.put]
 refine ts 3 rfl ⟨Hd, fK⟩ (fun wS hSw => by
  have q2 := Blk.cellv hSw.2 (i := 2) rfl
  go_simp
  try with_reducible rfl) ?_
 refine tq 4 rfl ⟨Hd, fK⟩ ?_
 try simp only [la, Act.put]
 refine ty 1 rfl (fun K hK => ?_)
 go_simp
 refine (rtree_any m (pubL s m) A3 c3 _ (pubL_length s m) (pubL_isL s m) hc3.out (by omega) fl).mono ?_
 rintro e w1_ ⟨rfl, hb1⟩
 have fK1 := fK.below hb1
 have fR1 := fR.below hb1
 have fS1 := fS.below hb1
 have fT1 := fT.below hb1
 have fl1 := fl.below hb1
 have Hb1 := below_of Hd hb1 Hd.size
 have Zb1 := Nat.le_trans Zd hb1.size
 go_wp2_with (fail)
 refine hK.out _ _ ⟨Hb1, fK1⟩ fun _ => ?_
 clear hK K
 try simp only [la, Act.put]
 refine ty 5 rfl (fun K hK => ?_)
 go_simp
 refine (HBi.out _ (HM.out.below Hb1)).mono ?_
 rintro e w2_ ⟨Ab, cb, rfl, fx2, hb2⟩
 have fK2 := fK1.below hb2
 have fR2 := fR1.below hb2
 have fS2 := fS1.below hb2
 have fT2 := fT1.below hb2
 have fl2 := fl1.below hb2
 have Hb2 := below_of Hb1 hb2 Hb1.size
 have Zb2 := Nat.le_trans Zb1 hb2.size
 go_wp2_with (fail)
 refine hK.out _ _ ⟨Hb2, fK2⟩ fun _ => ?_
 clear hK K
 try simp only [la, Act.put]
 refine tq 6 rfl ⟨Hb2, fK2⟩ ?_
 try simp only [la, Act.put]
 refine td ?_ _
 go_wp2_with (fail)
 obtain ⟨w9, hw9⟩ : ∃ w9, w9 = w2_ := ⟨_, rfl⟩
 subst hw9
 have HK9 := Lib.hid fK2
 have HR9 := Lib.hid fR2
 have HS9 := Lib.hid fS2
 have HT9 := Lib.hid fT2
 have HL9 := Lib.hid fl2
 have hX9 := fx2
 have HB9 := Lib.hid Hb2
 have hz9 := Zb2
 have oK9 : w.heap.size < w9.heap.size := Nat.lt_of_lt_of_le oK hz9
 have oR9 : w.heap.size + 1 < w9.heap.size := Nat.lt_of_lt_of_le oR hz9
 have oS9 : w.heap.size + 1 + 1 < w9.heap.size := Nat.lt_of_lt_of_le oS hz9
 have oT9 : E < w9.heap.size := Nat.lt_of_lt_of_le oT hz9
 have hzw9 : w.heap.size ≤ w9.heap.size := Nat.le_of_lt oK9
 have apL9 := Lib.hid (cells_lt HL9.out (Nat.le_refl _))
 obtain ⟨Bb, Bo, rfl, -, -⟩ := hX9.addr (by rw [List.length_map, Hlx.out]; omega)
 have apX9 := Lib.hid (cellsV_lt hX9 (Nat.le_refl _))
 have HV9 := Lib.hid hX9
 clear hX9
 go_loopw [10] (fun i wr => ∃ (k : Nat) (Ao : Option Addr) (co : Nat) (Ac : Option Addr) (cc : Nat), k ≤ 64 ∧ i = .int .i64 k ∧ Hid (Blk wr w.heap.size 24 #[.slice A n c, .int .i64 m, .int .i64 u]) ∧ Hid (Blk wr (w.heap.size + 1) 24 #[.slice none 0 0, .int .i64 0, .int .i64 0]) ∧ Hid (Blk wr (w.heap.size + 1 + 1) 32 #[.int .i64 0, .slice none 0 0, .slice none 0 0, .slice none 0 0]) ∧ Hid (Blk wr E 32 #[.int .i64 u, .slice Ao k co, .slice Ac k cc, .slice none 0 0]) ∧ Hid (Cells wr A3 (bytesV (pubL s m).flatten)) ∧ Hid (Cells wr (some ⟨Bb, Bo, none⟩) (x.map Value.bool)) ∧
     Hid (wr.ownsRow w9.heap.size 29 32 (.slice Ao k co) k (bytesV (openL s u x k).flatten)) ∧ Hid (wr.ownsRow w9.heap.size 29 32 (.slice Ac k cc) k (bytesV (closL s u x k).flatten)) ∧ Hid (Apart2 (.slice Ao k co) (.slice Ac k cc)) ∧ Hid (Below w.heap.size w wr) ∧ w9.heap.size ≤ wr.heap.size) (fun i _ => 64 - (intOf i).toNat)
 case atStart => exact ⟨0, none, 0, none, 0, by omega, rfl, HK9.out, HR9.out, HS9.out, HT9.out, HL9.out, HV9.out, (show World.ownsRow _ _ _ _ _ _ _ by rw [openL_zero]; exact ownD_nil _ _), (show World.ownsRow _ _ _ _ _ _ _ by rw [closL_zero]; exact ownD_nil _ _), apart2_none _, HB9.out, Nat.le_refl _⟩
 case round =>
  obtain ⟨k, Ao, co, Ac, cc, hk64, rfl, hrK, hrR, hrS, hrT, hrL, hrV, hrW, hrC, hrX, hrB, hrz⟩ := hrel
  by_cases hk : k < 64
  · have hdk : decide ((k : Int) < 64) = true := by simp; omega
    obtain ⟨y, hy⟩ : ∃ y, x.getD k false = y := ⟨_, rfl⟩
    have e1 := cellsB_get hrV.out (by rw [Hlx.out]; exact hk) hy
    have Hy := Lib.hid hy
    have hkI : (k : Int) < 64 := by omega
    clear hy
    have hb2 := fun b : Bool => show bn b < 2 by cases b <;> decide
    have hbw := fun b : Bool => show IntKind.i64.wrap (1 - ((bn b : Nat) : Int)) = ((bn (!b) : Nat) : Int) by cases b <;> rfl
    go_upto_if 48 with (fail)
    go_cut [11] (fun s11 wx => s11 = .int .i64 ((bn y : Nat) : Int) ∧ wr = wx)
    case first =>
     cases y with
     | true =>
       go_wp2_with (fail)
       go_meet
       exact ⟨rfl, rfl⟩
     | false =>
       go_wp2_with (fail)
       go_meet
       exact ⟨rfl, rfl⟩
    case rest =>
     obtain ⟨rfl, rfl⟩ := hcut
     clear e1
     go_upto_region 16 with (fail)
     go_cut [50] (fun _ wx => ∃ (Ao' : Option Addr) (co' : Nat), Blk wx w.heap.size 24 #[.slice A n c, .int .i64 m, .int .i64 u] ∧ Blk wx (w.heap.size + 1) 24 #[.slice none 0 0, .int .i64 0, .int .i64 0] ∧ Blk wx (w.heap.size + 1 + 1) 32 #[.int .i64 0, .slice none 0 0, .slice none 0 0, .slice none 0 0] ∧ Blk wx E 32 #[.int .i64 u, .slice Ao' (k + 1) co', .slice Ac k cc, .slice none 0 0] ∧ Cells wx A3 (bytesV (pubL s m).flatten) ∧ Cells wx (some ⟨Bb, Bo, none⟩) (x.map Value.bool) ∧
      wx.ownsRow w9.heap.size 29 32 (.slice Ao' (k + 1) co') (k + 1) (bytesV (openL s u x (k + 1)).flatten) ∧ wx.ownsRow w9.heap.size 29 32 (.slice Ac k cc) k (bytesV (closL s u x k).flatten) ∧ Apart2 (.slice Ao' (k + 1) co') (.slice Ac k cc) ∧ Below w.heap.size w wx ∧ w9.heap.size ≤ wx.heap.size)
     case first =>
      refine wp_region_held_drew (S := fun W => Below w.heap.size w W ∧ Blk W w.heap.size 24 #[.slice A n c, .int .i64 m, .int .i64 u]) (by kernel_rfl) (⟨below_drewN hrB.out 1, hrK.out⟩) (fun Hd => ?_)
      have Hd : Below w.heap.size w wr.drew := below_drewN hrB.out 1
      have Zd : w9.heap.size ≤ wr.drew.heap.size := hrz
      have fK : Blk wr.drew w.heap.size 24 #[.slice A n c, .int .i64 m, .int .i64 u] := hrK.out
      have fR : Blk wr.drew (w.heap.size + 1) 24 #[.slice none 0 0, .int .i64 0, .int .i64 0] := hrR.out
      have fS : Blk wr.drew (w.heap.size + 1 + 1) 32 #[.int .i64 0, .slice none 0 0, .slice none 0 0, .slice none 0 0] := hrS.out
      have fT : Blk wr.drew E 32 #[.int .i64 u, .slice Ao k co, .slice Ac k cc, .slice none 0 0] := hrT.out
      have fl : Cells wr.drew A3 (bytesV (pubL s m).flatten) := hrL.out
      have fx : Cells wr.drew (some ⟨Bb, Bo, none⟩) (x.map Value.bool) := hrV.out
      have fo : wr.drew.ownsRow (w9.heap.size) 29 32 (.slice Ao k co) (k) (bytesV (openL s u x k).flatten) := hrW.out
      have fc : wr.drew.ownsRow (w9.heap.size) 29 32 (.slice Ac k cc) k (bytesV (closL s u x k).flatten) := hrC.out
      have apo0 := hrX.out
      generalize World.drew wr = wd at *
      refine tq 0 rfl ⟨Hd, fK⟩ ?_
      try simp only [la, Act.put]
      refine ts 2 rfl ⟨Hd, fK⟩ (fun wS hSw => by
       have q0 := Blk.cellv hSw.2 (i := 0) rfl
       have q1 := Blk.cellv hSw.2 (i := 1) rfl
       have q2 := Blk.cellv hSw.2 (i := 2) rfl
       go_simp
       try with_reducible rfl) ?_
      refine tq 3 rfl ⟨Hd, fK⟩ ?_
      try simp only [la, Act.put]
      refine ts 4 rfl ⟨Hd, fK⟩ (fun wS hSw => by
       have q2 := Blk.cellv hSw.2 (i := 2) rfl
       go_simp
       try with_reducible rfl) ?_
      refine tq 5 rfl ⟨Hd, fK⟩ ?_
      try simp only [la, Act.put]
      refine tq 6 rfl ⟨Hd, fK⟩ ?_
      try simp only [la, Act.put]
      refine tz 1 7 rfl rfl (fun K hK => ?_) (fun K hK => ?_)
      · have ql := fT.cellv (i := 1) rfl
        go_simp
        first | with_reducible rfl | skip
        refine hK.out _ _ ⟨Hd, fK⟩ fun _ => ?_
        clear hK K
        try simp only [la, Act.put]
        refine ty 7 rfl (fun K hK => ?_)
        go_simp
        refine (rsecret_any A n c m u s u k (bn y) _ (HA.out.below Hd) Hs.out hn Hs8.out hu64 hk (hb2 _)).mono ?_
        rintro e w1_ ⟨rfl, hb1⟩
        have fK1 := fK.below hb1
        have fR1 := fR.below hb1
        have fS1 := fS.below hb1
        have fT1 := fT.below hb1
        have fl1 := fl.below hb1
        have fx1 := fx.below hb1
        have fo1 := own_below fo hb1
        have fc1 := own_below fc hb1
        have Hb1 := below_of Hd hb1 Hd.size
        have Zb1 := Nat.le_trans Zd hb1.size
        go_wp2_with (fail)
        refine hK.out _ _ ⟨Hb1, fK1⟩ fun _ => ?_
        clear hK K
        try simp only [la, Act.put]
        refine ty 8 rfl (fun K hK => ?_)
        refine step_oneD (by rfl) _ (by rfl) (secS s u k (bn y)) (secS_isD s u k (bn y)) (by rfl) ?_
        generalize hge : World.alloc _ _ = w2_
        have fb2 : Blk w2_ w1_.heap.size 29 (arrK .u8 (secS s u k (bn y))) := by subst hge; exact Blk.new _ _ _
        have hb2 := al1 hge
        clear hge
        have fK2 := fK1.below hb2
        have fR2 := fR1.below hb2
        have fS2 := fS1.below hb2
        have fT2 := fT1.below hb2
        have fl2 := fl1.below hb2
        have fx2 := fx1.below hb2
        have fo2 := own_below fo1 hb2
        have fc2 := own_below fc1 hb2
        have apob2 := apart_new fo1
        have apcb2 := apart_new fc1
        have lob2 : w9.heap.size ≤ w1_.heap.size := Zb1
        have Hb2 := below_of Hb1 hb2 Hb1.size
        have Zb2 := Nat.le_trans Zb1 hb2.size
        refine hK.out _ _ ⟨Hb2, fK2⟩ fun _ => ?_
        clear hK K
        try simp only [la, Act.put]
        refine ty 9 rfl (fun K hK => ?_)
        refine step_pushDs (by rfl) (.tmp 50) (.tmp 57) (by rfl) (w9.heap.size) (.slice Ao k co) (k) (openL s u x k) (secS s u k (bn y)) fo2 (by rfl) (w1_.heap.size) fb2 (secS_isD s u k (bn y)) (by rfl) (by omega) Zb2 ?_
        intro v3 w3_ fo3 hg3 st3
        have apob3 := apart_sits st3 apob2 fb2.lt
        have fK3 := fK2.grown hg3 (fun e => absurd (own_base fo2 _ e.symm) (Nat.not_le.2 oK9))
        have fR3 := fR2.grown hg3 (fun e => absurd (own_base fo2 _ e.symm) (Nat.not_le.2 oR9))
        have fS3 := fS2.grown hg3 (fun e => absurd (own_base fo2 _ e.symm) (Nat.not_le.2 oS9))
        have fT3 := fT2.grown hg3 (fun e => absurd (own_base fo2 _ e.symm) (Nat.not_le.2 oT9))
        have fl3 := fl2.grownB hg3 apL9.out fo2
        have fx3 := fx2.grownV hg3 apX9.out fo2
        have fc3 := fc2.kept hg3 (apart2_kept apo0)
        have aoo3 := apart2_sits st3 apo0 fc2
        have fb3 := fb2.grown hg3 (fun e => apob2 e.symm)
        have Hb3 := below_grown Hb2 hg3 Hb2.size (fun k hk => Nat.le_trans hzw9 (own_base fo2 k hk))
        have Zb3 := Nat.le_trans Zb2 hg3.size
        obtain ⟨A3, c3, rfl, le3, lm3, -⟩ := own_form fo3
        refine hK.out _ _ ⟨Hb3, fK3⟩ fun _ => ?_
        clear hK K
        refine tq 10 rfl ⟨Hb3, fK3⟩ ?_
        try simp only [la, Act.put]
        refine ty 11 rfl (fun K hK => ?_)
        refine step_put_cell (by rfl) _ _ _ (by rfl) (E) 1 ((.slice A3 (k + 1) c3)) (by rfl) (by rfl) _ _ fT3 (by simp) (by kernel_rfl) (by rfl) ?_
        intro w4_ fT4 hg4 hz4
        have neK4 := fK3.lt
        have fK4 := fK3.gx hg4
        have neR4 := fR3.lt
        have fR4 := fR3.gx hg4
        have neS4 := fS3.lt
        have fS4 := fS3.gx hg4
        have fl4 := fl3.off8 hg4 fT3 (by first | exact no8_sig | exact no8_key)
        have fx4 := fx3.offB hg4 fT3 (by first | exact no8_sig | exact no8_key | exact nob_sig | exact nob_key)
        have fc4 := fc3.kept hg4 (.inr (fun e => absurd (own_base fc3 _ e) (Nat.not_le.2 oT9)))
        have neb4 := fb3.lt
        have fb4 := fb3.gx hg4
        have fo4 := fo3.kept hg4 (.inr (fun e => absurd (own_base fo3 _ e) (Nat.not_le.2 oT9)))
        have Hb4 := bgx Hb3 hg4 Hb3.size
        have Zb4 := Nat.le_trans Zb3 hg4.size
        refine hK.out _ _ ⟨Hb4, fK4⟩ fun _ => ?_
        clear hK K
        try simp only [la, Act.put]
        refine td ?_ _
        go_wp2_with (fail)
        go_meet
        exact ⟨A3, c3, fK4, fR4, fS4, fT4, fl4, fx4, (show World.ownsRow _ _ _ _ _ _ _ by rw [openL_succ, Hy.out]; exact fo4), fc4, aoo3, Hb4, Zb4⟩
      · go_simp
        refine (rsecret_any A n c m u s u k (bn y) _ (HA.out.below Hd) Hs.out hn Hs8.out hu64 hk (hb2 _)).mono ?_
        rintro e w1_ ⟨rfl, hb1⟩
        have fK1 := fK.below hb1
        have fR1 := fR.below hb1
        have fS1 := fS.below hb1
        have fT1 := fT.below hb1
        have fl1 := fl.below hb1
        have fx1 := fx.below hb1
        have fo1 := own_below fo hb1
        have fc1 := own_below fc hb1
        have Hb1 := below_of Hd hb1 Hd.size
        have Zb1 := Nat.le_trans Zd hb1.size
        go_wp2_with (fail)
        refine hK.out _ _ ⟨Hb1, fK1⟩ fun _ => ?_
        clear hK K
        try simp only [la, Act.put]
        refine tz 1 8 rfl rfl (fun K hK => ?_) (fun K hK => ?_)
        · have ql := fT1.cellv (i := 1) rfl
          go_simp
          first | with_reducible rfl | skip
          refine hK.out _ _ ⟨Hb1, fK1⟩ fun _ => ?_
          clear hK K
          try simp only [la, Act.put]
          refine ty 8 rfl (fun K hK => ?_)
          refine step_oneD (by rfl) _ (by rfl) (secS s u k (bn y)) (secS_isD s u k (bn y)) (by rfl) ?_
          generalize hge : World.alloc _ _ = w2_
          have fb2 : Blk w2_ w1_.heap.size 29 (arrK .u8 (secS s u k (bn y))) := by subst hge; exact Blk.new _ _ _
          have hb2 := al1 hge
          clear hge
          have fK2 := fK1.below hb2
          have fR2 := fR1.below hb2
          have fS2 := fS1.below hb2
          have fT2 := fT1.below hb2
          have fl2 := fl1.below hb2
          have fx2 := fx1.below hb2
          have fo2 := own_below fo1 hb2
          have fc2 := own_below fc1 hb2
          have apob2 := apart_new fo1
          have apcb2 := apart_new fc1
          have lob2 : w9.heap.size ≤ w1_.heap.size := Zb1
          have Hb2 := below_of Hb1 hb2 Hb1.size
          have Zb2 := Nat.le_trans Zb1 hb2.size
          refine hK.out _ _ ⟨Hb2, fK2⟩ fun _ => ?_
          clear hK K
          try simp only [la, Act.put]
          refine ty 9 rfl (fun K hK => ?_)
          refine step_pushDs (by rfl) (.tmp 50) (.tmp 57) (by rfl) (w9.heap.size) (.slice Ao k co) (k) (openL s u x k) (secS s u k (bn y)) fo2 (by rfl) (w1_.heap.size) fb2 (secS_isD s u k (bn y)) (by rfl) (by omega) Zb2 ?_
          intro v3 w3_ fo3 hg3 st3
          have apob3 := apart_sits st3 apob2 fb2.lt
          have fK3 := fK2.grown hg3 (fun e => absurd (own_base fo2 _ e.symm) (Nat.not_le.2 oK9))
          have fR3 := fR2.grown hg3 (fun e => absurd (own_base fo2 _ e.symm) (Nat.not_le.2 oR9))
          have fS3 := fS2.grown hg3 (fun e => absurd (own_base fo2 _ e.symm) (Nat.not_le.2 oS9))
          have fT3 := fT2.grown hg3 (fun e => absurd (own_base fo2 _ e.symm) (Nat.not_le.2 oT9))
          have fl3 := fl2.grownB hg3 apL9.out fo2
          have fx3 := fx2.grownV hg3 apX9.out fo2
          have fc3 := fc2.kept hg3 (apart2_kept apo0)
          have aoo3 := apart2_sits st3 apo0 fc2
          have fb3 := fb2.grown hg3 (fun e => apob2 e.symm)
          have Hb3 := below_grown Hb2 hg3 Hb2.size (fun k hk => Nat.le_trans hzw9 (own_base fo2 k hk))
          have Zb3 := Nat.le_trans Zb2 hg3.size
          obtain ⟨A3, c3, rfl, le3, lm3, -⟩ := own_form fo3
          refine hK.out _ _ ⟨Hb3, fK3⟩ fun _ => ?_
          clear hK K
          refine tq 10 rfl ⟨Hb3, fK3⟩ ?_
          try simp only [la, Act.put]
          refine ty 11 rfl (fun K hK => ?_)
          refine step_put_cell (by rfl) _ _ _ (by rfl) (E) 1 ((.slice A3 (k + 1) c3)) (by rfl) (by rfl) _ _ fT3 (by simp) (by kernel_rfl) (by rfl) ?_
          intro w4_ fT4 hg4 hz4
          have neK4 := fK3.lt
          have fK4 := fK3.gx hg4
          have neR4 := fR3.lt
          have fR4 := fR3.gx hg4
          have neS4 := fS3.lt
          have fS4 := fS3.gx hg4
          have fl4 := fl3.off8 hg4 fT3 (by first | exact no8_sig | exact no8_key)
          have fx4 := fx3.offB hg4 fT3 (by first | exact no8_sig | exact no8_key | exact nob_sig | exact nob_key)
          have fc4 := fc3.kept hg4 (.inr (fun e => absurd (own_base fc3 _ e) (Nat.not_le.2 oT9)))
          have neb4 := fb3.lt
          have fb4 := fb3.gx hg4
          have fo4 := fo3.kept hg4 (.inr (fun e => absurd (own_base fo3 _ e) (Nat.not_le.2 oT9)))
          have Hb4 := bgx Hb3 hg4 Hb3.size
          have Zb4 := Nat.le_trans Zb3 hg4.size
          refine hK.out _ _ ⟨Hb4, fK4⟩ fun _ => ?_
          clear hK K
          try simp only [la, Act.put]
          refine td ?_ _
          go_wp2_with (fail)
          go_meet
          exact ⟨A3, c3, fK4, fR4, fS4, fT4, fl4, fx4, (show World.ownsRow _ _ _ _ _ _ _ by rw [openL_succ, Hy.out]; exact fo4), fc4, aoo3, Hb4, Zb4⟩
        · refine step_oneD (by rfl) _ (by rfl) (secS s u k (bn y)) (secS_isD s u k (bn y)) (by rfl) ?_
          generalize hge : World.alloc _ _ = w2_
          have fb2 : Blk w2_ w1_.heap.size 29 (arrK .u8 (secS s u k (bn y))) := by subst hge; exact Blk.new _ _ _
          have hb2 := al1 hge
          clear hge
          have fK2 := fK1.below hb2
          have fR2 := fR1.below hb2
          have fS2 := fS1.below hb2
          have fT2 := fT1.below hb2
          have fl2 := fl1.below hb2
          have fx2 := fx1.below hb2
          have fo2 := own_below fo1 hb2
          have fc2 := own_below fc1 hb2
          have apob2 := apart_new fo1
          have apcb2 := apart_new fc1
          have lob2 : w9.heap.size ≤ w1_.heap.size := Zb1
          have Hb2 := below_of Hb1 hb2 Hb1.size
          have Zb2 := Nat.le_trans Zb1 hb2.size
          refine hK.out _ _ ⟨Hb2, fK2⟩ fun _ => ?_
          clear hK K
          try simp only [la, Act.put]
          refine ty 1 rfl (fun K hK => ?_)
          have ql := fT2.cellv (i := 1) rfl
          go_simp
          first | with_reducible rfl | skip
          refine hK.out _ _ ⟨Hb2, fK2⟩ fun _ => ?_
          clear hK K
          try simp only [la, Act.put]
          refine ty 9 rfl (fun K hK => ?_)
          refine step_pushDs (by rfl) (.tmp 50) (.tmp 57) (by rfl) (w9.heap.size) (.slice Ao k co) (k) (openL s u x k) (secS s u k (bn y)) fo2 (by rfl) (w1_.heap.size) fb2 (secS_isD s u k (bn y)) (by rfl) (by omega) Zb2 ?_
          intro v3 w3_ fo3 hg3 st3
          have apob3 := apart_sits st3 apob2 fb2.lt
          have fK3 := fK2.grown hg3 (fun e => absurd (own_base fo2 _ e.symm) (Nat.not_le.2 oK9))
          have fR3 := fR2.grown hg3 (fun e => absurd (own_base fo2 _ e.symm) (Nat.not_le.2 oR9))
          have fS3 := fS2.grown hg3 (fun e => absurd (own_base fo2 _ e.symm) (Nat.not_le.2 oS9))
          have fT3 := fT2.grown hg3 (fun e => absurd (own_base fo2 _ e.symm) (Nat.not_le.2 oT9))
          have fl3 := fl2.grownB hg3 apL9.out fo2
          have fx3 := fx2.grownV hg3 apX9.out fo2
          have fc3 := fc2.kept hg3 (apart2_kept apo0)
          have aoo3 := apart2_sits st3 apo0 fc2
          have fb3 := fb2.grown hg3 (fun e => apob2 e.symm)
          have Hb3 := below_grown Hb2 hg3 Hb2.size (fun k hk => Nat.le_trans hzw9 (own_base fo2 k hk))
          have Zb3 := Nat.le_trans Zb2 hg3.size
          obtain ⟨A3, c3, rfl, le3, lm3, -⟩ := own_form fo3
          refine hK.out _ _ ⟨Hb3, fK3⟩ fun _ => ?_
          clear hK K
          try simp only [la, Act.put]
          refine tq 10 rfl ⟨Hb3, fK3⟩ ?_
          try simp only [la, Act.put]
          refine ty 11 rfl (fun K hK => ?_)
          refine step_put_cell (by rfl) _ _ _ (by rfl) (E) 1 ((.slice A3 (k + 1) c3)) (by rfl) (by rfl) _ _ fT3 (by simp) (by kernel_rfl) (by rfl) ?_
          intro w4_ fT4 hg4 hz4
          have neK4 := fK3.lt
          have fK4 := fK3.gx hg4
          have neR4 := fR3.lt
          have fR4 := fR3.gx hg4
          have neS4 := fS3.lt
          have fS4 := fS3.gx hg4
          have fl4 := fl3.off8 hg4 fT3 (by first | exact no8_sig | exact no8_key)
          have fx4 := fx3.offB hg4 fT3 (by first | exact no8_sig | exact no8_key | exact nob_sig | exact nob_key)
          have fc4 := fc3.kept hg4 (.inr (fun e => absurd (own_base fc3 _ e) (Nat.not_le.2 oT9)))
          have neb4 := fb3.lt
          have fb4 := fb3.gx hg4
          have fo4 := fo3.kept hg4 (.inr (fun e => absurd (own_base fo3 _ e) (Nat.not_le.2 oT9)))
          have Hb4 := bgx Hb3 hg4 Hb3.size
          have Zb4 := Nat.le_trans Zb3 hg4.size
          refine hK.out _ _ ⟨Hb4, fK4⟩ fun _ => ?_
          clear hK K
          try simp only [la, Act.put]
          refine td ?_ _
          go_wp2_with (fail)
          go_meet
          exact ⟨A3, c3, fK4, fR4, fS4, fT4, fl4, fx4, (show World.ownsRow _ _ _ _ _ _ _ by rw [openL_succ, Hy.out]; exact fo4), fc4, aoo3, Hb4, Zb4⟩
     case rest =>
      obtain ⟨Ao, co, hqK, hqR, hqS, hqT, hqL, hqV, hqW, hqC, hqX, hqB, hqz⟩ := hcut
      have hqK := Lib.hid hqK
      have hqR := Lib.hid hqR
      have hqS := Lib.hid hqS
      have hqT := Lib.hid hqT
      have hqL := Lib.hid hqL
      have hqV := Lib.hid hqV
      have hqW := Lib.hid hqW
      have hqC := Lib.hid hqC
      have hqX := Lib.hid hqX
      have hqB := Lib.hid hqB
      clear hrK hrR hrS hrT hrL hrV hrW hrC hrX hrB hrz
      go_wp2_with (fail)
      refine wp_region_held_drew (S := fun W => Below w.heap.size w W ∧ Blk W w.heap.size 24 #[.slice A n c, .int .i64 m, .int .i64 u]) (by kernel_rfl) (⟨below_drewN hqB.out 1, hqK.out⟩) (fun Hd => ?_)
      have Hd : Below w.heap.size w wc.drew := below_drewN hqB.out 1
      have Zd : w9.heap.size ≤ wc.drew.heap.size := hqz
      have fK : Blk wc.drew w.heap.size 24 #[.slice A n c, .int .i64 m, .int .i64 u] := hqK.out
      have fR : Blk wc.drew (w.heap.size + 1) 24 #[.slice none 0 0, .int .i64 0, .int .i64 0] := hqR.out
      have fS : Blk wc.drew (w.heap.size + 1 + 1) 32 #[.int .i64 0, .slice none 0 0, .slice none 0 0, .slice none 0 0] := hqS.out
      have fT : Blk wc.drew E 32 #[.int .i64 u, .slice Ao (k + 1) co, .slice Ac k cc, .slice none 0 0] := hqT.out
      have fl : Cells wc.drew A3 (bytesV (pubL s m).flatten) := hqL.out
      have fx : Cells wc.drew (some ⟨Bb, Bo, none⟩) (x.map Value.bool) := hqV.out
      have fo : wc.drew.ownsRow (w9.heap.size) 29 32 (.slice Ao (k + 1) co) (k + 1) (bytesV (openL s u x (k + 1)).flatten) := hqW.out
      have fc : wc.drew.ownsRow (w9.heap.size) 29 32 (.slice Ac k cc) k (bytesV (closL s u x k).flatten) := hqC.out
      have apo0 := hqX.out
      generalize World.drew wc = wd at *
      refine tq 0 rfl ⟨Hd, fK⟩ ?_
      refine ts 2 rfl ⟨Hd, fK⟩ (fun wS hSw => by
       have q0 := Blk.cellv hSw.2 (i := 0) rfl
       have q1 := Blk.cellv hSw.2 (i := 1) rfl
       have q2 := Blk.cellv hSw.2 (i := 2) rfl
       go_simp
       try with_reducible rfl) ?_
      try simp only [la, Act.put]
      refine tq 3 rfl ⟨Hd, fK⟩ ?_
      refine ts 4 rfl ⟨Hd, fK⟩ (fun wS hSw => by
       have q2 := Blk.cellv hSw.2 (i := 2) rfl
       go_simp
       try with_reducible rfl) ?_
      try simp only [la, Act.put]
      refine tq 5 rfl ⟨Hd, fK⟩ ?_
      refine tq 6 rfl ⟨Hd, fK⟩ ?_
      try simp only [la, Act.put]
      refine ts 7 rfl ⟨Hd, fK⟩ (fun wS hSw => by
       have e9 := hbw y
       go_simp
       try with_reducible rfl) ?_
      try simp only [la, Act.put]
      refine tz 1 8 rfl rfl (fun K hK => ?_) (fun K hK => ?_)
      · have ql := fT.cellv (i := 2) rfl
        go_simp
        first | with_reducible rfl | skip
        refine hK.out _ _ ⟨Hd, fK⟩ fun _ => ?_
        clear hK K
        try simp only [la, Act.put]
        refine ty 8 rfl (fun K hK => ?_)
        go_simp
        refine (rsecret_any A n c m u s u k (bn (!y)) _ (HA.out.below Hd) Hs.out hn Hs8.out hu64 hk (hb2 _)).mono ?_
        rintro e w1_ ⟨rfl, hb1⟩
        have fK1 := fK.below hb1
        have fR1 := fR.below hb1
        have fS1 := fS.below hb1
        have fT1 := fT.below hb1
        have fl1 := fl.below hb1
        have fx1 := fx.below hb1
        have fo1 := own_below fo hb1
        have fc1 := own_below fc hb1
        have Hb1 := below_of Hd hb1 Hd.size
        have Zb1 := Nat.le_trans Zd hb1.size
        go_wp2_with (fail)
        refine hK.out _ _ ⟨Hb1, fK1⟩ fun _ => ?_
        clear hK K
        try simp only [la, Act.put]
        refine ty 9 rfl (fun K hK => ?_)
        go_simp
        refine (rhash_any (secS s u k (bn (!y))) _ (secS_isD s u k (bn (!y)))).mono ?_
        rintro e w2_ ⟨rfl, hb2⟩
        have fK2 := fK1.below hb2
        have fR2 := fR1.below hb2
        have fS2 := fS1.below hb2
        have fT2 := fT1.below hb2
        have fl2 := fl1.below hb2
        have fx2 := fx1.below hb2
        have fo2 := own_below fo1 hb2
        have fc2 := own_below fc1 hb2
        have Hb2 := below_of Hb1 hb2 Hb1.size
        have Zb2 := Nat.le_trans Zb1 hb2.size
        go_wp2_with (fail)
        refine hK.out _ _ ⟨Hb2, fK2⟩ fun _ => ?_
        clear hK K
        try simp only [la, Act.put]
        refine ty 10 rfl (fun K hK => ?_)
        refine step_oneD (by rfl) _ (by rfl) (hashS (secS s u k (bn (!y)))) (hashS_isD (secS s u k (bn (!y)))) (by rfl) ?_
        generalize hge : World.alloc _ _ = w3_
        have fb3 : Blk w3_ w2_.heap.size 29 (arrK .u8 (hashS (secS s u k (bn (!y))))) := by subst hge; exact Blk.new _ _ _
        have hb3 := al1 hge
        clear hge
        have fK3 := fK2.below hb3
        have fR3 := fR2.below hb3
        have fS3 := fS2.below hb3
        have fT3 := fT2.below hb3
        have fl3 := fl2.below hb3
        have fx3 := fx2.below hb3
        have fo3 := own_below fo2 hb3
        have fc3 := own_below fc2 hb3
        have apob3 := apart_new fo2
        have apcb3 := apart_new fc2
        have lob3 : w9.heap.size ≤ w2_.heap.size := Zb2
        have Hb3 := below_of Hb2 hb3 Hb2.size
        have Zb3 := Nat.le_trans Zb2 hb3.size
        refine hK.out _ _ ⟨Hb3, fK3⟩ fun _ => ?_
        clear hK K
        try simp only [la, Act.put]
        refine ty 11 rfl (fun K hK => ?_)
        refine step_pushDs (by rfl) (.tmp 61) (.tmp 70) (by rfl) (w9.heap.size) (.slice Ac k cc) (k) (closL s u x k) (hashS (secS s u k (bn (!y)))) fc3 (by rfl) (w2_.heap.size) fb3 (hashS_isD (secS s u k (bn (!y)))) (by rfl) (by omega) Zb3 ?_
        intro v4 w4_ fc4 hg4 st4
        have apcb4 := apart_sits st4 apcb3 fb3.lt
        have fK4 := fK3.grown hg4 (fun e => absurd (own_base fc3 _ e.symm) (Nat.not_le.2 oK9))
        have fR4 := fR3.grown hg4 (fun e => absurd (own_base fc3 _ e.symm) (Nat.not_le.2 oR9))
        have fS4 := fS3.grown hg4 (fun e => absurd (own_base fc3 _ e.symm) (Nat.not_le.2 oS9))
        have fT4 := fT3.grown hg4 (fun e => absurd (own_base fc3 _ e.symm) (Nat.not_le.2 oT9))
        have fl4 := fl3.grownB hg4 apL9.out fc3
        have fx4 := fx3.grownV hg4 apX9.out fc3
        have fo4 := fo3.kept hg4 (apart2_kept (apart2_symm apo0))
        have aoc4 := apart2_sits st4 (apart2_symm apo0) fo3
        have fb4 := fb3.grown hg4 (fun e => apcb3 e.symm)
        have Hb4 := below_grown Hb3 hg4 Hb3.size (fun k hk => Nat.le_trans hzw9 (own_base fc3 k hk))
        have Zb4 := Nat.le_trans Zb3 hg4.size
        obtain ⟨A4, c4, rfl, le4, lm4, -⟩ := own_form fc4
        refine hK.out _ _ ⟨Hb4, fK4⟩ fun _ => ?_
        clear hK K
        try simp only [la, Act.put]
        refine tq 12 rfl ⟨Hb4, fK4⟩ ?_
        try simp only [la, Act.put]
        refine ty 13 rfl (fun K hK => ?_)
        refine step_put_cell (by rfl) _ _ _ (by rfl) (E) 2 ((.slice A4 (k + 1) c4)) (by rfl) (by rfl) _ _ fT4 (by simp) (by kernel_rfl) (by rfl) ?_
        intro w5_ fT5 hg5 hz5
        have neK5 := fK4.lt
        have fK5 := fK4.gx hg5
        have neR5 := fR4.lt
        have fR5 := fR4.gx hg5
        have neS5 := fS4.lt
        have fS5 := fS4.gx hg5
        have fl5 := fl4.off8 hg5 fT4 (by first | exact no8_sig | exact no8_key)
        have fx5 := fx4.offB hg5 fT4 (by first | exact no8_sig | exact no8_key | exact nob_sig | exact nob_key)
        have fo5 := fo4.kept hg5 (.inr (fun e => absurd (own_base fo4 _ e) (Nat.not_le.2 oT9)))
        have neb5 := fb4.lt
        have fb5 := fb4.gx hg5
        have fc5 := fc4.kept hg5 (.inr (fun e => absurd (own_base fc4 _ e) (Nat.not_le.2 oT9)))
        have Hb5 := bgx Hb4 hg5 Hb4.size
        have Zb5 := Nat.le_trans Zb4 hg5.size
        refine hK.out _ _ ⟨Hb5, fK5⟩ fun _ => ?_
        clear hK K
        try simp only [la, Act.put]
        refine td ?_ _
        go_wp2_with (fail)
        go_roundw
        case rel => exact ⟨k + 1, Ao, co, A4, c4, by omega, by go_num, fK5, fR5, fS5, fT5, fl5, fx5, fo5, (show World.ownsRow _ _ _ _ _ _ _ by rw [closL_succ, Hy.out, keyF_eq]; exact fc5), (apart2_symm aoc4), Hb5, Zb5⟩
        case measure => simp [intOf]; omega
      · go_simp
        refine (rsecret_any A n c m u s u k (bn (!y)) _ (HA.out.below Hd) Hs.out hn Hs8.out hu64 hk (hb2 _)).mono ?_
        rintro e w1_ ⟨rfl, hb1⟩
        have fK1 := fK.below hb1
        have fR1 := fR.below hb1
        have fS1 := fS.below hb1
        have fT1 := fT.below hb1
        have fl1 := fl.below hb1
        have fx1 := fx.below hb1
        have fo1 := own_below fo hb1
        have fc1 := own_below fc hb1
        have Hb1 := below_of Hd hb1 Hd.size
        have Zb1 := Nat.le_trans Zd hb1.size
        go_wp2_with (fail)
        refine hK.out _ _ ⟨Hb1, fK1⟩ fun _ => ?_
        clear hK K
        try simp only [la, Act.put]
        refine tz 1 9 rfl rfl (fun K hK => ?_) (fun K hK => ?_)
        · have ql := fT1.cellv (i := 2) rfl
          go_simp
          first | with_reducible rfl | skip
          refine hK.out _ _ ⟨Hb1, fK1⟩ fun _ => ?_
          clear hK K
          try simp only [la, Act.put]
          refine ty 9 rfl (fun K hK => ?_)
          go_simp
          refine (rhash_any (secS s u k (bn (!y))) _ (secS_isD s u k (bn (!y)))).mono ?_
          rintro e w2_ ⟨rfl, hb2⟩
          have fK2 := fK1.below hb2
          have fR2 := fR1.below hb2
          have fS2 := fS1.below hb2
          have fT2 := fT1.below hb2
          have fl2 := fl1.below hb2
          have fx2 := fx1.below hb2
          have fo2 := own_below fo1 hb2
          have fc2 := own_below fc1 hb2
          have Hb2 := below_of Hb1 hb2 Hb1.size
          have Zb2 := Nat.le_trans Zb1 hb2.size
          go_wp2_with (fail)
          refine hK.out _ _ ⟨Hb2, fK2⟩ fun _ => ?_
          clear hK K
          try simp only [la, Act.put]
          refine ty 10 rfl (fun K hK => ?_)
          refine step_oneD (by rfl) _ (by rfl) (hashS (secS s u k (bn (!y)))) (hashS_isD (secS s u k (bn (!y)))) (by rfl) ?_
          generalize hge : World.alloc _ _ = w3_
          have fb3 : Blk w3_ w2_.heap.size 29 (arrK .u8 (hashS (secS s u k (bn (!y))))) := by subst hge; exact Blk.new _ _ _
          have hb3 := al1 hge
          clear hge
          have fK3 := fK2.below hb3
          have fR3 := fR2.below hb3
          have fS3 := fS2.below hb3
          have fT3 := fT2.below hb3
          have fl3 := fl2.below hb3
          have fx3 := fx2.below hb3
          have fo3 := own_below fo2 hb3
          have fc3 := own_below fc2 hb3
          have apob3 := apart_new fo2
          have apcb3 := apart_new fc2
          have lob3 : w9.heap.size ≤ w2_.heap.size := Zb2
          have Hb3 := below_of Hb2 hb3 Hb2.size
          have Zb3 := Nat.le_trans Zb2 hb3.size
          refine hK.out _ _ ⟨Hb3, fK3⟩ fun _ => ?_
          clear hK K
          try simp only [la, Act.put]
          refine ty 11 rfl (fun K hK => ?_)
          refine step_pushDs (by rfl) (.tmp 61) (.tmp 70) (by rfl) (w9.heap.size) (.slice Ac k cc) (k) (closL s u x k) (hashS (secS s u k (bn (!y)))) fc3 (by rfl) (w2_.heap.size) fb3 (hashS_isD (secS s u k (bn (!y)))) (by rfl) (by omega) Zb3 ?_
          intro v4 w4_ fc4 hg4 st4
          have apcb4 := apart_sits st4 apcb3 fb3.lt
          have fK4 := fK3.grown hg4 (fun e => absurd (own_base fc3 _ e.symm) (Nat.not_le.2 oK9))
          have fR4 := fR3.grown hg4 (fun e => absurd (own_base fc3 _ e.symm) (Nat.not_le.2 oR9))
          have fS4 := fS3.grown hg4 (fun e => absurd (own_base fc3 _ e.symm) (Nat.not_le.2 oS9))
          have fT4 := fT3.grown hg4 (fun e => absurd (own_base fc3 _ e.symm) (Nat.not_le.2 oT9))
          have fl4 := fl3.grownB hg4 apL9.out fc3
          have fx4 := fx3.grownV hg4 apX9.out fc3
          have fo4 := fo3.kept hg4 (apart2_kept (apart2_symm apo0))
          have aoc4 := apart2_sits st4 (apart2_symm apo0) fo3
          have fb4 := fb3.grown hg4 (fun e => apcb3 e.symm)
          have Hb4 := below_grown Hb3 hg4 Hb3.size (fun k hk => Nat.le_trans hzw9 (own_base fc3 k hk))
          have Zb4 := Nat.le_trans Zb3 hg4.size
          obtain ⟨A4, c4, rfl, le4, lm4, -⟩ := own_form fc4
          refine hK.out _ _ ⟨Hb4, fK4⟩ fun _ => ?_
          clear hK K
          refine tq 12 rfl ⟨Hb4, fK4⟩ ?_
          try simp only [la, Act.put]
          refine ty 13 rfl (fun K hK => ?_)
          refine step_put_cell (by rfl) _ _ _ (by rfl) (E) 2 ((.slice A4 (k + 1) c4)) (by rfl) (by rfl) _ _ fT4 (by simp) (by kernel_rfl) (by rfl) ?_
          intro w5_ fT5 hg5 hz5
          have neK5 := fK4.lt
          have fK5 := fK4.gx hg5
          have neR5 := fR4.lt
          have fR5 := fR4.gx hg5
          have neS5 := fS4.lt
          have fS5 := fS4.gx hg5
          have fl5 := fl4.off8 hg5 fT4 (by first | exact no8_sig | exact no8_key)
          have fx5 := fx4.offB hg5 fT4 (by first | exact no8_sig | exact no8_key | exact nob_sig | exact nob_key)
          have fo5 := fo4.kept hg5 (.inr (fun e => absurd (own_base fo4 _ e) (Nat.not_le.2 oT9)))
          have neb5 := fb4.lt
          have fb5 := fb4.gx hg5
          have fc5 := fc4.kept hg5 (.inr (fun e => absurd (own_base fc4 _ e) (Nat.not_le.2 oT9)))
          have Hb5 := bgx Hb4 hg5 Hb4.size
          have Zb5 := Nat.le_trans Zb4 hg5.size
          refine hK.out _ _ ⟨Hb5, fK5⟩ fun _ => ?_
          clear hK K
          try simp only [la, Act.put]
          refine td ?_ _
          go_wp2_with (fail)
          go_roundw
          case rel => exact ⟨k + 1, Ao, co, A4, c4, by omega, by go_num, fK5, fR5, fS5, fT5, fl5, fx5, fo5, (show World.ownsRow _ _ _ _ _ _ _ by rw [closL_succ, Hy.out, keyF_eq]; exact fc5), (apart2_symm aoc4), Hb5, Zb5⟩
          case measure => simp [intOf]; omega
        · go_simp
          refine (rhash_any (secS s u k (bn (!y))) _ (secS_isD s u k (bn (!y)))).mono ?_
          rintro e w2_ ⟨rfl, hb2⟩
          have fK2 := fK1.below hb2
          have fR2 := fR1.below hb2
          have fS2 := fS1.below hb2
          have fT2 := fT1.below hb2
          have fl2 := fl1.below hb2
          have fx2 := fx1.below hb2
          have fo2 := own_below fo1 hb2
          have fc2 := own_below fc1 hb2
          have Hb2 := below_of Hb1 hb2 Hb1.size
          have Zb2 := Nat.le_trans Zb1 hb2.size
          go_wp2_with (fail)
          refine hK.out _ _ ⟨Hb2, fK2⟩ fun _ => ?_
          clear hK K
          try simp only [la, Act.put]
          refine tz 1 10 rfl rfl (fun K hK => ?_) (fun K hK => ?_)
          · have ql := fT2.cellv (i := 2) rfl
            go_simp
            first | with_reducible rfl | skip
            refine hK.out _ _ ⟨Hb2, fK2⟩ fun _ => ?_
            clear hK K
            try simp only [la, Act.put]
            refine ty 10 rfl (fun K hK => ?_)
            refine step_oneD (by rfl) _ (by rfl) (hashS (secS s u k (bn (!y)))) (hashS_isD (secS s u k (bn (!y)))) (by rfl) ?_
            generalize hge : World.alloc _ _ = w3_
            have fb3 : Blk w3_ w2_.heap.size 29 (arrK .u8 (hashS (secS s u k (bn (!y))))) := by subst hge; exact Blk.new _ _ _
            have hb3 := al1 hge
            clear hge
            have fK3 := fK2.below hb3
            have fR3 := fR2.below hb3
            have fS3 := fS2.below hb3
            have fT3 := fT2.below hb3
            have fl3 := fl2.below hb3
            have fx3 := fx2.below hb3
            have fo3 := own_below fo2 hb3
            have fc3 := own_below fc2 hb3
            have apob3 := apart_new fo2
            have apcb3 := apart_new fc2
            have lob3 : w9.heap.size ≤ w2_.heap.size := Zb2
            have Hb3 := below_of Hb2 hb3 Hb2.size
            have Zb3 := Nat.le_trans Zb2 hb3.size
            refine hK.out _ _ ⟨Hb3, fK3⟩ fun _ => ?_
            clear hK K
            try simp only [la, Act.put]
            refine ty 11 rfl (fun K hK => ?_)
            refine step_pushDs (by rfl) (.tmp 61) (.tmp 70) (by rfl) (w9.heap.size) (.slice Ac k cc) (k) (closL s u x k) (hashS (secS s u k (bn (!y)))) fc3 (by rfl) (w2_.heap.size) fb3 (hashS_isD (secS s u k (bn (!y)))) (by rfl) (by omega) Zb3 ?_
            intro v4 w4_ fc4 hg4 st4
            have apcb4 := apart_sits st4 apcb3 fb3.lt
            have fK4 := fK3.grown hg4 (fun e => absurd (own_base fc3 _ e.symm) (Nat.not_le.2 oK9))
            have fR4 := fR3.grown hg4 (fun e => absurd (own_base fc3 _ e.symm) (Nat.not_le.2 oR9))
            have fS4 := fS3.grown hg4 (fun e => absurd (own_base fc3 _ e.symm) (Nat.not_le.2 oS9))
            have fT4 := fT3.grown hg4 (fun e => absurd (own_base fc3 _ e.symm) (Nat.not_le.2 oT9))
            have fl4 := fl3.grownB hg4 apL9.out fc3
            have fx4 := fx3.grownV hg4 apX9.out fc3
            have fo4 := fo3.kept hg4 (apart2_kept (apart2_symm apo0))
            have aoc4 := apart2_sits st4 (apart2_symm apo0) fo3
            have fb4 := fb3.grown hg4 (fun e => apcb3 e.symm)
            have Hb4 := below_grown Hb3 hg4 Hb3.size (fun k hk => Nat.le_trans hzw9 (own_base fc3 k hk))
            have Zb4 := Nat.le_trans Zb3 hg4.size
            obtain ⟨A4, c4, rfl, le4, lm4, -⟩ := own_form fc4
            refine hK.out _ _ ⟨Hb4, fK4⟩ fun _ => ?_
            clear hK K
            refine tq 12 rfl ⟨Hb4, fK4⟩ ?_
            try simp only [la, Act.put]
            refine ty 13 rfl (fun K hK => ?_)
            refine step_put_cell (by rfl) _ _ _ (by rfl) (E) 2 ((.slice A4 (k + 1) c4)) (by rfl) (by rfl) _ _ fT4 (by simp) (by kernel_rfl) (by rfl) ?_
            intro w5_ fT5 hg5 hz5
            have neK5 := fK4.lt
            have fK5 := fK4.gx hg5
            have neR5 := fR4.lt
            have fR5 := fR4.gx hg5
            have neS5 := fS4.lt
            have fS5 := fS4.gx hg5
            have fl5 := fl4.off8 hg5 fT4 (by first | exact no8_sig | exact no8_key)
            have fx5 := fx4.offB hg5 fT4 (by first | exact no8_sig | exact no8_key | exact nob_sig | exact nob_key)
            have fo5 := fo4.kept hg5 (.inr (fun e => absurd (own_base fo4 _ e) (Nat.not_le.2 oT9)))
            have neb5 := fb4.lt
            have fb5 := fb4.gx hg5
            have fc5 := fc4.kept hg5 (.inr (fun e => absurd (own_base fc4 _ e) (Nat.not_le.2 oT9)))
            have Hb5 := bgx Hb4 hg5 Hb4.size
            have Zb5 := Nat.le_trans Zb4 hg5.size
            refine hK.out _ _ ⟨Hb5, fK5⟩ fun _ => ?_
            clear hK K
            try simp only [la, Act.put]
            refine td ?_ _
            go_wp2_with (fail)
            go_roundw
            case rel => exact ⟨k + 1, Ao, co, A4, c4, by omega, by go_num, fK5, fR5, fS5, fT5, fl5, fx5, fo5, (show World.ownsRow _ _ _ _ _ _ _ by rw [closL_succ, Hy.out, keyF_eq]; exact fc5), (apart2_symm aoc4), Hb5, Zb5⟩
            case measure => simp [intOf]; omega
          · refine step_oneD (by rfl) _ (by rfl) (hashS (secS s u k (bn (!y)))) (hashS_isD (secS s u k (bn (!y)))) (by rfl) ?_
            generalize hge : World.alloc _ _ = w3_
            have fb3 : Blk w3_ w2_.heap.size 29 (arrK .u8 (hashS (secS s u k (bn (!y))))) := by subst hge; exact Blk.new _ _ _
            have hb3 := al1 hge
            clear hge
            have fK3 := fK2.below hb3
            have fR3 := fR2.below hb3
            have fS3 := fS2.below hb3
            have fT3 := fT2.below hb3
            have fl3 := fl2.below hb3
            have fx3 := fx2.below hb3
            have fo3 := own_below fo2 hb3
            have fc3 := own_below fc2 hb3
            have apob3 := apart_new fo2
            have apcb3 := apart_new fc2
            have lob3 : w9.heap.size ≤ w2_.heap.size := Zb2
            have Hb3 := below_of Hb2 hb3 Hb2.size
            have Zb3 := Nat.le_trans Zb2 hb3.size
            refine hK.out _ _ ⟨Hb3, fK3⟩ fun _ => ?_
            clear hK K
            try simp only [la, Act.put]
            refine ty 1 rfl (fun K hK => ?_)
            have ql := fT3.cellv (i := 2) rfl
            go_simp
            first | with_reducible rfl | skip
            refine hK.out _ _ ⟨Hb3, fK3⟩ fun _ => ?_
            clear hK K
            try simp only [la, Act.put]
            refine ty 11 rfl (fun K hK => ?_)
            refine step_pushDs (by rfl) (.tmp 61) (.tmp 70) (by rfl) (w9.heap.size) (.slice Ac k cc) (k) (closL s u x k) (hashS (secS s u k (bn (!y)))) fc3 (by rfl) (w2_.heap.size) fb3 (hashS_isD (secS s u k (bn (!y)))) (by rfl) (by omega) Zb3 ?_
            intro v4 w4_ fc4 hg4 st4
            have apcb4 := apart_sits st4 apcb3 fb3.lt
            have fK4 := fK3.grown hg4 (fun e => absurd (own_base fc3 _ e.symm) (Nat.not_le.2 oK9))
            have fR4 := fR3.grown hg4 (fun e => absurd (own_base fc3 _ e.symm) (Nat.not_le.2 oR9))
            have fS4 := fS3.grown hg4 (fun e => absurd (own_base fc3 _ e.symm) (Nat.not_le.2 oS9))
            have fT4 := fT3.grown hg4 (fun e => absurd (own_base fc3 _ e.symm) (Nat.not_le.2 oT9))
            have fl4 := fl3.grownB hg4 apL9.out fc3
            have fx4 := fx3.grownV hg4 apX9.out fc3
            have fo4 := fo3.kept hg4 (apart2_kept (apart2_symm apo0))
            have aoc4 := apart2_sits st4 (apart2_symm apo0) fo3
            have fb4 := fb3.grown hg4 (fun e => apcb3 e.symm)
            have Hb4 := below_grown Hb3 hg4 Hb3.size (fun k hk => Nat.le_trans hzw9 (own_base fc3 k hk))
            have Zb4 := Nat.le_trans Zb3 hg4.size
            obtain ⟨A4, c4, rfl, le4, lm4, -⟩ := own_form fc4
            refine hK.out _ _ ⟨Hb4, fK4⟩ fun _ => ?_
            clear hK K
            try simp only [la, Act.put]
            refine tq 12 rfl ⟨Hb4, fK4⟩ ?_
            try simp only [la, Act.put]
            refine ty 13 rfl (fun K hK => ?_)
            refine step_put_cell (by rfl) _ _ _ (by rfl) (E) 2 ((.slice A4 (k + 1) c4)) (by rfl) (by rfl) _ _ fT4 (by simp) (by kernel_rfl) (by rfl) ?_
            intro w5_ fT5 hg5 hz5
            have neK5 := fK4.lt
            have fK5 := fK4.gx hg5
            have neR5 := fR4.lt
            have fR5 := fR4.gx hg5
            have neS5 := fS4.lt
            have fS5 := fS4.gx hg5
            have fl5 := fl4.off8 hg5 fT4 (by first | exact no8_sig | exact no8_key)
            have fx5 := fx4.offB hg5 fT4 (by first | exact no8_sig | exact no8_key | exact nob_sig | exact nob_key)
            have fo5 := fo4.kept hg5 (.inr (fun e => absurd (own_base fo4 _ e) (Nat.not_le.2 oT9)))
            have neb5 := fb4.lt
            have fb5 := fb4.gx hg5
            have fc5 := fc4.kept hg5 (.inr (fun e => absurd (own_base fc4 _ e) (Nat.not_le.2 oT9)))
            have Hb5 := bgx Hb4 hg5 Hb4.size
            have Zb5 := Nat.le_trans Zb4 hg5.size
            refine hK.out _ _ ⟨Hb5, fK5⟩ fun _ => ?_
            clear hK K
            try simp only [la, Act.put]
            refine td ?_ _
            go_wp2_with (fail)
            go_roundw
            case rel => exact ⟨k + 1, Ao, co, A4, c4, by omega, by go_num, fK5, fR5, fS5, fT5, fl5, fx5, fo5, (show World.ownsRow _ _ _ _ _ _ _ by rw [closL_succ, Hy.out, keyF_eq]; exact fc5), (apart2_symm aoc4), Hb5, Zb5⟩
            case measure => simp [intOf]; omega
  · obtain rfl : k = 64 := by omega
    obtain ⟨A7, c7, hv7, lo1, lo2, -⟩ := own_form hrW.out
    cases hv7
    obtain ⟨A8, c8, hv8, lc1, lc2, -⟩ := own_form hrC.out
    cases hv8
    have lo1 := Lib.hid lo1
    have lo2 := Lib.hid lo2
    have lc1 := Lib.hid lc1
    have lc2 := Lib.hid lc2
    have q2 := hrK.out.cellv (i := 2) rfl
    go_wp2_with (fail)
    refine (rpath_out (pubL s m) u m A3 c3 wr (pubL_length s m) (pubL_isL s m) hc3.out (by omega) hrL.out).mono ?_
    rintro e w5 ⟨Ap, q, cp, rfl, hpq, hqc, hcp, hP5, hN5, hb5⟩
    have HN5 := Lib.hid (hN5.mono hrB.out.size)
    clear hN5
    have HK5 := Lib.hid (hrK.out.below hb5)
    have HR5 := Lib.hid (hrR.out.below hb5)
    have HS5 := Lib.hid (hrS.out.below hb5)
    have HT5 := Lib.hid (hrT.out.below hb5)
    have HO5 := Lib.hid (own_below hrW.out hb5)
    have HC5 := Lib.hid (own_below hrC.out hb5)
    have HP5 := Lib.hid hP5
    have HB5 := Lib.hid (below_of hrB.out hb5 hrB.out.size)
    have hz5 : w9.heap.size ≤ w5.heap.size := Nat.le_trans hrz hb5.size
    have hzr : wr.heap.size ≤ w5.heap.size := hb5.size
    have Hpq := Lib.hid hpq
    have Hqc := Lib.hid hqc
    have Hcp := Lib.hid hcp
    clear hb5 hP5 hpq hqc hcp q2
    have g3 := HT5.out.frozen 3
    have p3 := HT5.out.cellv (i := 3) rfl
    go_upto_region 19 with (fail)
    generalize hge : World.setCell _ _ _ = w5s
    have hg6 : w5.grownBy w5s (some E) := by subst hge; exact grown_setOne _
    have HTs := Lib.hid (show Blk w5s E 32 #[.int .i64 u, .slice Ao 64 co, .slice Ac 64 cc, .slice Ap q cp] by subst hge; have := HT5.out.set_ 3 (.slice Ap q cp); exact this)
    have HKs := Lib.hid (HK5.out.grown hg6 (by simp; omega))
    have HRs := Lib.hid (HR5.out.grown hg6 (by simp; omega))
    have HSs := Lib.hid (HS5.out.grown hg6 (by simp; omega))
    have HPs := Lib.hid (HP5.out.off8 hg6 HT5.out no8_sig)
    have HOs := Lib.hid (HO5.out.kept hg6 (.inr (fun e => absurd (own_base HO5.out _ e) (Nat.not_le.2 oT9))))
    have HCs := Lib.hid (HC5.out.kept hg6 (.inr (fun e => absurd (own_base HC5.out _ e) (Nat.not_le.2 oT9))))
    have HBs := Lib.hid (below_grown HB5.out hg6 HB5.out.size (by simp; omega))
    have hzs : w5.heap.size ≤ w5s.heap.size := hg6.size
    clear hge hg6 g3 p3
    have q0 := HKs.out.cellv (i := 0) rfl
    have q1 := HKs.out.cellv (i := 1) rfl
    have q2 := HKs.out.cellv (i := 2) rfl
    go_upto_region 20 with (fail)
    generalize hge : World.alloc _ _ = w6
    have HX6 := Lib.hid (show Blk w6 w5s.heap.size 24 #[.slice A n c, .int .i64 m, .int .i64 u] by subst hge; exact Blk.new w5s _ _)
    have hb6 := al1 hge
    have HT6 := Lib.hid (HTs.out.below hb6)
    have HR6 := Lib.hid (HRs.out.below hb6)
    have HS6 := Lib.hid (HSs.out.below hb6)
    have HP6 := Lib.hid (HPs.out.below hb6)
    have HO6 := Lib.hid (own_below HOs.out hb6)
    have HC6 := Lib.hid (own_below HCs.out hb6)
    have HB6 := Lib.hid (below_of HBs.out hb6 HBs.out.size)
    have hz6' : w5.heap.size < w6.heap.size := Nat.lt_of_le_of_lt hzs HX6.out.lt
    clear hge hb6 q0 q1 q2
    have hxz : wr.heap.size ≤ w5s.heap.size := Nat.le_trans hzr hzs
    obtain ⟨X, hX⟩ : ∃ X, w5s.heap.size = X := ⟨_, rfl⟩
    rw [hX] at HX6 hxz ⊢
    have hX6 : X < w6.heap.size := HX6.out.lt
    clear hX
    have q2 := HX6.out.cellv (i := 2) rfl
    have g2 := HX6.out.frozen 2
    go_upto_region 21 with (fail)
    generalize hge : World.setCell _ _ _ = wf
    have hgf : w6.grownBy wf (some X) := by subst hge; exact grown_setOne _
    have hfX := Lib.hid (show Blk wf X 24 #[.slice A n c, .int .i64 m, .int .i64 ((u : Int) + 1)] by subst hge; have := HX6.out.set_ 2 (.int .i64 ((u : Int) + 1)); exact this)
    have hfR := Lib.hid (HR6.out.grown hgf (by simp; omega))
    have hfS := Lib.hid (HS6.out.grown hgf (by simp; omega))
    have hfT := Lib.hid (HT6.out.grown hgf (by simp; omega))
    have hfP := Lib.hid (HP6.out.off8 hgf HX6.out no8_key)
    have hfO := Lib.hid (HO6.out.kept hgf (.inr (fun e => by have := (hrW.out.lt _ e).2; omega)))
    have hfC := Lib.hid (HC6.out.kept hgf (.inr (fun e => by have := (hrC.out.lt _ e).2; omega)))
    have hfB := Lib.hid (below_grown HB6.out hgf HB6.out.size (by simp; omega))
    have hfz : w9.heap.size ≤ wf.heap.size := Nat.le_trans (by omega) hgf.size
    clear hge hgf q2 g2
    refine wp_region_held_drew (S := fun W => Below w.heap.size w W ∧ Blk W X 24 #[.slice A n c, .int .i64 m, .int .i64 ((u : Int) + 1)] ∧ Blk W E 32 #[.int .i64 u, .slice Ao 64 co, .slice Ac 64 cc, .slice Ap q cp]) (by kernel_rfl) (⟨below_drewN hfB.out 1, hfX.out, hfT.out⟩) (fun Hd => ?_)
    have Hd : Below w.heap.size w wf.drew := below_drewN hfB.out 1
    have Zd : w9.heap.size ≤ wf.drew.heap.size := hfz
    have fX : Blk wf.drew X 24 #[.slice A n c, .int .i64 m, .int .i64 ((u : Int) + 1)] := hfX.out
    have fR : Blk wf.drew (w.heap.size + 1) 24 #[.slice none 0 0, .int .i64 0, .int .i64 0] := hfR.out
    have fS : Blk wf.drew (w.heap.size + 1 + 1) 32 #[.int .i64 0, .slice none 0 0, .slice none 0 0, .slice none 0 0] := hfS.out
    have fT : Blk wf.drew E 32 #[.int .i64 u, .slice Ao 64 co, .slice Ac 64 cc, .slice Ap q cp] := hfT.out
    have fp : Cells wf.drew Ap (bytesV (pathR (pubL s m) u).flatten) := hfP.out
    have fo : wf.drew.ownsRow (w9.heap.size) 29 32 (.slice Ao 64 co) 64 (bytesV (openL s u x 64).flatten) := hfO.out
    have fc : wf.drew.ownsRow (w9.heap.size) 29 32 (.slice Ac 64 cc) 64 (bytesV (closL s u x 64).flatten) := hfC.out
    generalize World.drew wf = wd at *
    refine ts 0 rfl ⟨Hd, fX, fT⟩ (fun wS hSw => by
     have q0 := Blk.cellv hSw.2.1 (i := 0) rfl
     have q1 := Blk.cellv hSw.2.1 (i := 1) rfl
     have q2 := Blk.cellv hSw.2.1 (i := 2) rfl
     go_simp
     try with_reducible rfl) ?_
    refine ts 1 rfl ⟨Hd, fX, fT⟩ (fun wS hSw => by
     have q0 := Blk.cellv hSw.2.2 (i := 0) rfl
     have q1 := Blk.cellv hSw.2.2 (i := 1) rfl
     have q2 := Blk.cellv hSw.2.2 (i := 2) rfl
     have q3 := Blk.cellv hSw.2.2 (i := 3) rfl
     go_simp
     try with_reducible rfl) ?_
    try simp only [la, Act.put]
    refine ty 2 rfl (fun K hK => ?_)
    refine step_put_blk (by rfl) _ _ _ (by rfl) (w.heap.size + 1) (#[.slice A n c, .int .i64 m, .int .i64 ((u : Int) + 1)]) (by rfl) (by rfl) _ _ fR (by kernel_rfl) (by rfl) (by simp [Value.oneCell']) ?_
    intro w1_ fR1 hg1 hz1
    have neX1 := fX.lt
    have fX1 := fX.gx hg1
    have neS1 := fS.lt
    have fS1 := fS.gx hg1
    have neT1 := fT.lt
    have fT1 := fT.gx hg1
    have fp1 := fp.off8 hg1 fR (by first | exact no8_sig | exact no8_key)
    have fo1 := fo.kept hg1 (.inr (fun e => absurd (own_base fo _ e) (Nat.not_le.2 oR9)))
    have fc1 := fc.kept hg1 (.inr (fun e => absurd (own_base fc _ e) (Nat.not_le.2 oR9)))
    have Hb1 := bgx Hd hg1 Hd.size
    have Zb1 := Nat.le_trans Zd hg1.size
    refine hK.out _ _ ⟨Hb1, fX1, fT1⟩ fun _ => ?_
    clear hK K
    try simp only [la, Act.put]
    refine ty 3 rfl (fun K hK => ?_)
    refine step_put_blk (by rfl) _ _ _ (by rfl) (w.heap.size + 1 + 1) (#[.int .i64 u, .slice Ao 64 co, .slice Ac 64 cc, .slice Ap q cp]) (by rfl) (by rfl) _ _ fS1 (by kernel_rfl) (by rfl) (by simp [Value.oneCell']) ?_
    intro w2_ fS2 hg2 hz2
    have neR2 := fR1.lt
    have fR2 := fR1.gx hg2
    have neX2 := fX1.lt
    have fX2 := fX1.gx hg2
    have neT2 := fT1.lt
    have fT2 := fT1.gx hg2
    have fp2 := fp1.off8 hg2 fS1 (by first | exact no8_sig | exact no8_key)
    have fo2 := fo1.kept hg2 (.inr (fun e => absurd (own_base fo1 _ e) (Nat.not_le.2 oS9)))
    have fc2 := fc1.kept hg2 (.inr (fun e => absurd (own_base fc1 _ e) (Nat.not_le.2 oS9)))
    have Hb2 := bgx Hb1 hg2 Hb1.size
    have Zb2 := Nat.le_trans Zb1 hg2.size
    refine hK.out _ _ ⟨Hb2, fX2, fT2⟩ fun _ => ?_
    clear hK K
    try simp only [la, Act.put]
    refine tq 4 rfl ⟨Hb2, fX2, fT2⟩ ?_
    try simp only [la, Act.put]
    refine td ?_ _
    go_wp2_with (fail)
    exact ret_row3 rfl (w.heap.size + 1) (w.heap.size + 1 + 1) 24 32 #[.slice A n c, .int .i64 m, .int .i64 ((u : Int) + 1)] #[.int .i64 u, .slice Ao 64 co, .slice Ac 64 cc, .slice Ap q cp] _ _ rfl rfl rfl fR2 fS2 Tryz.underlying24 Tryz.underlying32 rfl rfl (by kernel_rfl) (by kernel_rfl) rfl ⟨Ao, co, Ac, cc, Ap, q, cp, rfl, Hpq.out, Hqc.out, Hcp.out, lo1.out, lo2.out, lc1.out, lc2.out, Cells.own fo2, Cells.own fc2, fp2, fun _ => (NewA.own fo2).mono (by omega), fun _ => (NewA.own fc2).mono (by omega), HN5.out, Hb2⟩
end Go.Proofs.YtkflpoiobpblhaaGreat
