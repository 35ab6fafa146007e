/- Walks and plain laws that the statement rests on: MR4, MR5. -/
import Derived.Test.YtkflpoiobpblhaaGreatP00
import Derived.Test.YtkflpoiobpblhaaGreatP27
import Derived.Test.YtkflpoiobpblhaaGreatP30
import Derived.Test.YtkflpoiobpblhaaGreatP48
import Derived.Test.YtkflpoiobpblhaaGreatP50
import Derived.Test.YtkflpoiobpblhaaGreatP51
import Derived.Test.YtkflpoiobpblhaaGreatPS
import Derived.Test.YtkflpoiobpblhaaGreatP44
set_option maxRecDepth 100000
set_option maxHeartbeats 16000000
set_option linter.unusedVariables false
set_option linter.unusedSimpArgs false
namespace Go.Proofs.YtkflpoiobpblhaaGreat
open Go.RowKit
theorem rsverify_any (root : List Nat) (n : Int) (msg : List Nat) (A : Option Addr) (k c : Nat) (g : Mir.Sg) (s0 s1 s2 s3 : Value) (w : World) (hr : IsD root) (hA : Cells w A (bytesV msg)) (hm : msg.length = k) (h8 : ByteL msg) (hg : SigC w g s0 s1 s2 s3) :
    Calls Tryz.prog 40 #[.agg (arrK .u8 root), .int .i64 n, .slice A k c, .agg #[s0, s1, s2, s3]] w fun e w' => e = .returned (.bool (Mir.sgOk root n msg g)) ∧ Below w.heap.size w w' := by
 obtain ⟨Ao, co, Ac, cc, Ap, cp, rfl, rfl, rfl, rfl, ho, hc, hp, iO, iC, iP, a1, a2, a3, a4, a5, a6⟩ := hg
 unfold Mir.sgOk
 by_cases h : 1 ≤ n ∧ n ≤ 4096 ∧ 0 ≤ g.i ∧ g.i < n ∧ g.o.length = 64 ∧ g.c.length = 64 ∧ msg.length ≤ 65536
 · rw [if_pos h]
   obtain ⟨h1, h2, h3, h4, h5, h6, h7⟩ := h
   obtain ⟨m, rfl⟩ := Int.eq_ofNat_of_zero_le (show 0 ≤ n by omega)
   obtain ⟨i, hi⟩ := Int.eq_ofNat_of_zero_le h3
   rw [hi, h5, h6]
   exact rVerify_good root m i msg A k c g.o g.c g.p Ao Ac Ap co cc g.p.length cp w hr (by omega) (by omega) (by omega) hA hm (by omega) h8 h5 h6 rfl iO iC iP ho hc hp a5 a6
 rw [if_neg h]
 exact rVerify_bad root n g.i A k c Ao Ac Ap g.o.length co g.c.length cc g.p.length cp w (by rw [hm] at h; exact h)
theorem rmverify_any (root : List Nat) (n : Int) (v : Mir.Ve) (V : Array Value) (w : World) (hr : IsD root) (hV : VerC w v V) (hl : v.ch.length ≤ 1000000) (hs : ∀ x ∈ v.ch, x.1.2.length ≤ 900000) :
    Calls Tryz.prog 15 #[.agg (arrK .u8 root), .int .i64 n, .agg V] w fun e w' => e = .returned (.int .i64 (Mir.verE root n v)) ∧ Below w.heap.size w w' := by
 obtain ⟨A, c, s0, s1, s2, s3, rfl, hst, hC, hlc, hcm, hg⟩ := hV
 obtain ⟨no, st, ch, g⟩ := v
 simp only [] at hst hC hlc hg hl hs ⊢
 obtain ⟨i0, hi0⟩ : ∃ i, s0 = .int .i64 i ∧ i = g.i := by
  obtain ⟨Ao, co, Ac, cc, Ap, cp, h0, -⟩ := hg
  exact ⟨_, h0, rfl⟩
 obtain ⟨rfl, hig⟩ := hi0
 have h0 := Mir.verA_0 no st (.slice A ch.length c) (.int .i64 i0) s1 s2 s3
 have hhi := Mir.verA_hi hst.1 no (.slice A ch.length c) (.int .i64 i0) s1 s2 s3
 have h33 := hhi 0
 have h34 := hhi 1
 have h35 := hhi 2
 have h36 := hhi 3
 have h37 := hhi 4
 have iV := θ (infoVer hst.1 no (.slice A ch.length c) (.int .i64 i0) s1 s2 s3)
 have Hr := θ hr
 have HC := θ hC
 have Hg := θ hg
 obtain ⟨R, hR⟩ := exq (Mir.verE root n ⟨no, st, ch, g⟩)
 have HR := θ hR
 rw [hR]
 unfold Mir.verE at hR
 simp only [] at hR
 have HMs := θ (fun (A' : Option Addr) W (hno : 0 ≤ no ∧ no < 9223372036854775808) (h1 : ch.length ≤ 70000) (hC : ChangesC W A ch) (h2 : ∀ x ∈ ch, x.1.1.size ≤ 64) => by
  have := rmessage_any no.toNat st A ch.length c ch (.int .i64 i0) s1 s2 s3 W hst rfl h1 (by omega) hC (fun x hx => ⟨h2 x hx, hs x hx⟩)
  rwa [Int.toNat_of_nonneg hno.1] at this)
 have HVa := θ (fun W h => rchanges_any A ch.length c ch W rfl hl h)
 obtain ⟨V, hVe⟩ := exq (Mir.verA no st (.slice A ch.length c) (.int .i64 i0) s1 s2 s3)
 rw [hVe] at h0 h33 h34 h35 h36 h37 iV HMs ⊢
 have oV := θ (show V.size = 38 by rw [← hVe]; exact Mir.verA_size hst.1 ..)
 have Hst := θ hst
 have Hig := θ hig
 clear hhi hVe hr hC hg hs hst hig
 by_cases hn1 : no < 1
 · rw [if_pos (Or.inl hn1)] at hR
   subst hR
   have d1 : decide (no < 1) = true := by simpa using hn1
   go_enter Tryz.func15, Tryz.ntmps15
   go_upto_region 1 with fail
   generalize hge2 : World.alloc (World.alloc _ _) _ = w1
   have HX := θ (show Blk w1 w.heap.size 29 (arrK .u8 root) by subst hge2; exact (blk_two w (arrK .u8 root) V 29 34).1)
   have HV := θ (show Blk w1 (w.heap.size + 1) 34 V by subst hge2; exact (blk_two w (arrK .u8 root) V 29 34).2)
   have HB := θ (al2 hge2)
   have y0 : w1.cell? ⟨w.heap.size + 1, 0, none⟩ = some (.int .i64 no) := (HV.out.cell 0).trans h0
   have y33 : w1.cell? ⟨w.heap.size + 1, 33, none⟩ = some (.slice A ch.length c) := (HV.out.cell 33).trans h33
   clear hge2
   go_wp2_with fail
   go_ret
   exact ⟨rfl, HB.out⟩
 by_cases hn2 : 4096 < no
 · rw [if_pos (Or.inr hn2)] at hR
   subst hR
   have d1 : decide (no < 1) = false := by simpa using hn1
   have d2 : decide (4096 < no) = true := by simpa using hn2
   go_enter Tryz.func15, Tryz.ntmps15
   go_upto_region 1 with fail
   generalize hge2 : World.alloc (World.alloc _ _) _ = w1
   have HX := θ (show Blk w1 w.heap.size 29 (arrK .u8 root) by subst hge2; exact (blk_two w (arrK .u8 root) V 29 34).1)
   have HV := θ (show Blk w1 (w.heap.size + 1) 34 V by subst hge2; exact (blk_two w (arrK .u8 root) V 29 34).2)
   have HB := θ (al2 hge2)
   have y0 : w1.cell? ⟨w.heap.size + 1, 0, none⟩ = some (.int .i64 no) := (HV.out.cell 0).trans h0
   have y33 : w1.cell? ⟨w.heap.size + 1, 33, none⟩ = some (.slice A ch.length c) := (HV.out.cell 33).trans h33
   clear hge2
   go_wp2_with fail
   go_ret
   exact ⟨rfl, HB.out⟩
 rw [if_neg (by omega)] at hR
 have d1 : decide (no < 1) = false := by simpa using hn1
 have d2 : decide (4096 < no) = false := by simpa using hn2
 have hno : 0 ≤ no ∧ no < 9223372036854775808 := by omega
 have e1 : IntKind.i64.wrap (no - 1) = no - 1 := by rw [IntKind.wrap_i64]; omega
 obtain ⟨ok, hok⟩ := exq (Mir.chOk ch)
 rw [hok] at hR HVa
 go_enter Tryz.func15, Tryz.ntmps15
 go_upto_region 1 with fail
 generalize hge2 : World.alloc (World.alloc _ _) _ = w1
 have HX := θ (show Blk w1 w.heap.size 29 (arrK .u8 root) by subst hge2; exact (blk_two w (arrK .u8 root) V 29 34).1)
 have HV := θ (show Blk w1 (w.heap.size + 1) 34 V by subst hge2; exact (blk_two w (arrK .u8 root) V 29 34).2)
 have HB := θ (al2 hge2)
 have y0 : w1.cell? ⟨w.heap.size + 1, 0, none⟩ = some (.int .i64 no) := (HV.out.cell 0).trans h0
 have y33 : w1.cell? ⟨w.heap.size + 1, 33, none⟩ = some (.slice A ch.length c) := (HV.out.cell 33).trans h33
 clear hge2
 go_wp2_with fail
 refine (HVa.out _ (HC.out.below HB.out)).mono ?_
 rintro e w2 ⟨rfl, hb2⟩
 have HX2 := θ (HX.out.below hb2)
 have HV2 := θ (HV.out.below hb2)
 have HB2 := θ (bo HB hb2)
 have HC2 := θ (HC.out.below HB2.out)
 have Hg2 := θ (Hg.out.below HB2.out)
 have z0 : w2.cell? ⟨w.heap.size + 1, 0, none⟩ = some (.int .i64 no) := (HV2.out.cell 0).trans h0
 have z34 : w2.cell? ⟨w.heap.size + 1, 34, none⟩ = some (.int .i64 i0) := (HV2.out.cell 34).trans h34
 have z35 : w2.cell? ⟨w.heap.size + 1, 35, none⟩ = some s1 := (HV2.out.cell 35).trans h35
 have z36 : w2.cell? ⟨w.heap.size + 1, 36, none⟩ = some s2 := (HV2.out.cell 36).trans h36
 have z37 : w2.cell? ⟨w.heap.size + 1, 37, none⟩ = some s3 := (HV2.out.cell 37).trans h37
 have ltV : w.heap.size + 1 < w2.heap.size := HV2.out.lt
 clear hb2 y0 y33
 cases ok with
 | false =>
   rw [if_pos rfl] at hR
   subst hR
   go_wp2_with fail
   go_ret
   exact ⟨rfl, HB2.out⟩
 | true =>
 rw [if_neg (by simp)] at hR
 obtain ⟨hle, hsm⟩ := chOk_size hok
 have Hle := θ (show ch.length ≤ 70000 by omega)
 have Hsm := θ hsm
 clear hle hsm hok
 by_cases hi : i0 = no - 1
 · have d3 : (i0 != no - 1) = false := by simp [hi]
   have d4 : decide (i0 = no - 1) = true := by simp [hi]
   have Hi := θ hi
   obtain ⟨b9, hb9⟩ := exq (Mir.sgOk root n (Mir.mesS no.toNat st ch) g)
   have HSv := θ (fun (A9 : Option Addr) (c9 : Nat) W (h9 : Cells W A9 (bytesV (Mir.mesS no.toNat st ch))) hg => rsverify_any root n (Mir.mesS no.toNat st ch) A9 72 c9 g (.int .i64 i0) s1 s2 s3 W Hr.out h9 (mesS_length _ _ _ Hst.out) (mesS_byte _ _ _ Hst.out) hg)
   clear hi
   go_upto_region 5 with fail
   refine wp_region_held_drew (S := fun W => Below w2.heap.size w2 W) (by kernel_rfl) (below_drewN (Below.refl _ _) 1) (fun Hd => ?_)
   have Hd : Below w2.heap.size w2 w2.drew := below_drewN (Below.refl _ _) 1
   generalize World.drew w2 = wd at *
   refine tq 0 rfl Hd ?_
   refine tq 1 rfl Hd ?_
   try simp only [la, Act.put]
   refine ts 2 rfl Hd (fun wS hSw => by
    have c34 := (hSw.cell (p := ⟨w.heap.size + 1, 34, none⟩) ltV).trans z34
    go_simp
    try with_reducible rfl) ?_
   refine tq 3 rfl Hd ?_
   try simp only [la, Act.put]
   refine ts 4 rfl Hd (fun wS hSw => by
    have c0 := (hSw.cell (p := ⟨w.heap.size + 1, 0, none⟩) ltV).trans z0
    go_simp
    try with_reducible rfl) ?_
   refine tq 5 rfl Hd ?_
   try simp only [la, Act.put]
   refine tq 6 rfl Hd ?_
   refine tq 7 rfl Hd ?_
   try simp only [la, Act.put]
   refine tg 8 (.agg (arrK .u8 root)) rfl (yields_load_blk (by rfl) _ _ rfl (w.heap.size) rfl 29 (arrK .u8 root) (.array 32 5) (fun W hW => HX2.out.below hW) (by kernel_rfl) rfl (info32 Hr.out.1)) Hd ?_
   refine tq 9 rfl Hd ?_
   try simp only [la, Act.put]
   refine tg 10 (.agg V) rfl (yields_load_blk (by rfl) _ _ rfl (w.heap.size + 1) rfl 34 V _ (fun W hW => HV2.out.below hW) Tryz.underlying34 rfl iV.out) Hd ?_
   refine tq 12 rfl Hd ?_
   try simp only [la, Act.put]
   refine ts 13 rfl Hd (fun wS hSw => by
    have c34 := (hSw.cell (p := ⟨w.heap.size + 1, 34, none⟩) ltV).trans z34
    have c35 := (hSw.cell (p := ⟨w.heap.size + 1, 35, none⟩) ltV).trans z35
    have c36 := (hSw.cell (p := ⟨w.heap.size + 1, 36, none⟩) ltV).trans z36
    have c37 := (hSw.cell (p := ⟨w.heap.size + 1, 37, none⟩) ltV).trans z37
    go_simp
    try with_reducible rfl) ?_
   try simp only [la, Act.put]
   refine ty 11 rfl (fun K hK => ?_)
   go_simp
   refine (HMs.out none _ hno Hle.out (HC2.out.below Hd) Hsm.out).mono ?_
   rintro e w1_ ⟨A9, c9, rfl, hk9, hm9, hc9, hb1⟩
   have Hb1 := below_of Hd hb1 Hd.size
   go_wp2_with fail
   refine hK.out _ _ Hb1 fun _ => ?_
   clear hK K
   try simp only [la, Act.put]
   refine ty 14 rfl (fun K hK => ?_)
   go_simp
   refine (HSv.out A9 c9 _ hc9 (Hg2.out.below Hb1)).mono ?_
   rintro e w2_ ⟨rfl, hb2⟩
   rw [hb9]
   have Hd : Below w2.heap.size w2 w2_ := below_of Hb1 hb2 Hb1.size
   go_wp2_with fail
   refine hK.out _ _ Hd fun _ => ?_
   clear hK K
   try simp only [la, Act.put]
   cases b9 with
   | false =>
     rw [if_pos (Or.inr hb9)] at hR
     subst hR
     refine tq 15 rfl Hd ?_
     try simp only [la, Act.put]
     refine tq 16 rfl Hd ?_
     try simp only [la, Act.put]
     refine td ?_ _
     go_wp2_with fail
     go_ret
     exact ⟨rfl, bo HB2 Hd⟩
   | true =>
     rw [if_neg (by rintro (h | h); exact h (Hig.out ▸ Hi.out); exact absurd (hb9.symm.trans h) (by simp))] at hR
     subst hR
     refine tq 15 rfl Hd ?_
     try simp only [la, Act.put]
     refine tq 16 rfl Hd ?_
     try simp only [la, Act.put]
     refine td ?_ _
     go_wp2_with fail
     go_ret
     exact ⟨rfl, bo HB2 Hd⟩
 have d3 : (i0 != no - 1) = true := by simp [hi]
 have d4 : decide (i0 = no - 1) = false := by simp [hi]
 rw [if_pos (Or.inl (by rw [← Hig.out]; exact hi))] at hR
 subst hR
 clear hi
 go_upto_region 5 with fail
 refine wp_region_held_drew (S := fun W => Below w2.heap.size w2 W) (by kernel_rfl) (below_drewN (Below.refl _ _) 1) (fun Hd => ?_)
 have Hd : Below w2.heap.size w2 w2.drew := below_drewN (Below.refl _ _) 1
 generalize World.drew w2 = wd at *
 refine tq 0 rfl Hd ?_
 try simp only [la, Act.put]
 refine tq 1 rfl Hd ?_
 refine ts 2 rfl Hd (fun wS hSw => by
  have c34 := (hSw.cell (p := ⟨w.heap.size + 1, 34, none⟩) ltV).trans z34
  go_simp
  try with_reducible rfl) ?_
 try simp only [la, Act.put]
 refine tq 3 rfl Hd ?_
 refine ts 4 rfl Hd (fun wS hSw => by
  have c0 := (hSw.cell (p := ⟨w.heap.size + 1, 0, none⟩) ltV).trans z0
  go_simp
  try with_reducible rfl) ?_
 try simp only [la, Act.put]
 refine tq 5 rfl Hd ?_
 refine tq 6 rfl Hd ?_
 try simp only [la, Act.put]
 refine tq 7 rfl Hd ?_
 refine tn 8 rfl Hd ?_
 try simp only [la, Act.put]
 refine tn 9 rfl Hd ?_
 refine tn 10 rfl Hd ?_
 try simp only [la, Act.put]
 refine tn 11 rfl Hd ?_
 refine tn 12 rfl Hd ?_
 try simp only [la, Act.put]
 refine tn 13 rfl Hd ?_
 refine tn 14 rfl Hd ?_
 try simp only [la, Act.put]
 refine tn 15 rfl Hd ?_
 refine tq 16 rfl Hd ?_
 try simp only [la, Act.put]
 refine td ?_ _
 go_wp2_with fail
 go_ret
 exact ⟨rfl, bo HB2 Hd⟩
theorem rstate_any (A : Option Addr) (n c : Nat) (l : List Mir.It) (w : World) (hl : l.length = n) (hn : n ≤ 1000000) (hC : ItemsC w A l) (hs : ∀ x ∈ l, x.2.length ≤ 900000) :
    Calls Tryz.prog 33 #[.slice A n c] w fun e w' => e = .returned (.tuple #[.agg (arrK .u8 (Mir.stS l)), .int .i64 (Mir.itE l)]) ∧ Below w.heap.size w w' := by
 have HC := θ hC
 have Hl := θ hl
 have Hs := θ hs
 have HCk := θ (fun W h => rcheck_any A n c l W hl hn h)
 obtain ⟨E, hE⟩ := exq (Mir.itE l)
 obtain ⟨S, hS⟩ := exq (Mir.stS l)
 have HS := θ (show S = if E = 0 then treeS (l.map Mir.itLeaf) else z32 by rw [← hS, ← hE]; rfl)
 have HE := θ hE
 rw [hE] at HCk
 rw [hE, hS]
 clear hC hl hs hE hS
 go_enter Tryz.func33, Tryz.ntmps33
 go_wp2_with fail
 generalize hge : World.alloc _ _ = w1
 have HR1 := θ (show Blk w1 w.heap.size 29 (arrK .u8 z32) by subst hge; exact Blk.new w _ _)
 have HB1 := θ (al1 hge)
 clear hge
 refine (HCk.out w1 (HC.out.below HB1.out)).mono ?_
 rintro e w2 ⟨rfl, hb2⟩
 have HR2 := θ (HR1.out.below hb2)
 have HB2 := θ (bo HB1 hb2)
 clear hb2 HR1 HB1 HCk
 by_cases h0 : E = 0
 rotate_left
 · have d0 : decide (E = 0) = false := by simpa using h0
   have b0 : (E != 0) = true := by simpa using h0
   have hs : S = z32 := by rw [HS.out, if_neg h0]
   subst hs
   have bD := θ (show Tryz.prog.built 29 [] = some (arrK .u8 z32) by kernel_rfl)
   go_wp2_with (first
    | (refine wpList_built rfl 29 #[] rfl [] (by simp) (arrK .u8 z32) bD.out ?_)
    | (refine wpList_store_same rfl 29 (.tmp 2) (.tmp 12) rfl w.heap.size (arrK .u8 z32) rfl rfl 29 HR2.out (info32 z32_length) (arrK_all _ _) ?_))
   exact ret_row2 rfl w.heap.size 29 (arrK .u8 z32) (.array 32 5) rfl rfl HR2.out (by kernel_rfl) rfl (info32 z32_length) rfl ⟨rfl, HB2.out⟩
 subst h0
 have hs : S = treeS (l.map Mir.itLeaf) := by rw [HS.out, if_pos rfl]
 have Hs' := θ hs
 clear hs HS
 have hz := Mir.itE_zero HE.out
 have Hnm := θ (fun x (hx : x ∈ l) => Mir.incS_name hz.2 (List.mem_map.2 ⟨x, hx, rfl⟩))
 have hn6 : n ≤ 65536 := by rw [← Hl.out]; exact hz.1
 clear hz
 go_wp2_with fail
 generalize hge : World.alloc _ _ = w3
 have hb3 := al1 hge
 have HO3 := θ (show w3.ownsRow (w.heap.size + 1) 29 32 (.slice (some ⟨w2.heap.size, 0, none⟩) 0 0) 0 (bytesV ([] : List (List Nat)).flatten) by subst hge; exact ownD_empty w2 _ HR2.out.lt)
 have HR3 := θ (HR2.out.below hb3)
 have HB3 := θ (bo HB2 hb3)
 have oB : w.heap.size + 1 ≤ w3.heap.size := HR3.out.lt
 clear hge hb3 HR2 HB2
 go_loopw [5, 6] (fun v i wr => ∃ (k : Nat) (A' : Option Addr) (c' : Nat), k ≤ n ∧ i = .int .i64 k ∧ v = .slice A' k c' ∧ Hid (wr.ownsRow (w.heap.size + 1) 29 32 (.slice A' k c') k (bytesV (Mir.itLeavesK l k).flatten)) ∧ Hid (Blk wr w.heap.size 29 (arrK .u8 z32)) ∧ w.heap.size + 1 ≤ wr.heap.size ∧ Hid (Below w.heap.size w wr)) (fun _ i _ => n - (intOf i).toNat)
 case atStart => exact ⟨0, some ⟨w2.heap.size, 0, none⟩, 0, by omega, rfl, rfl, HO3, HR3, oB, HB3⟩
 obtain ⟨wk, rfl⟩ : ∃ wk : World, wk = wr := ⟨_, rfl⟩
 obtain ⟨k, A', c', hkm, rfl, rfl, hown, hR, hz, hB⟩ := hrel
 by_cases hlt : k < n
 · obtain ⟨⟨s, dat⟩, hx⟩ := getElem?_lt (l := l) (k := k) (by rw [Hl.out]; exact hlt)
   obtain ⟨b, off, rfl, hb, hcs⟩ := (HC.out.below hB.out).at_ (by rw [Hl.out]; omega)
   obtain ⟨D, cd, hc1, hc2, hcd, hcm, hcD, h8⟩ := hcs k _ hx
   have hsz := Hs.out _ (List.mem_of_getElem? hx)
   have hnm := Hnm.out _ (List.mem_of_getElem? hx)
   have HL := θ (Mir.itLeavesK_succ hx)
   simp only [] at hc1 hc2 hcd hcD h8 hsz hnm
   obtain ⟨md, hmd⟩ := exq dat.length
   rw [hmd] at hc2 hcd hsz
   rw [Mir.bytesI_eq] at hcD
   have Hmd := θ hmd
   have HD := θ hcD
   have hw : IntKind.u8.wrap (s.size : Int) = ((s.size % 256 : Nat) : Int) := by rw [IntKind.wrap_u8]; omega
   obtain ⟨z, hz⟩ := exq (s.size % 256)
   rw [hz] at hw
   have hlf : Mir.itLeaf (s, dat) = tagS (strL Mir.itemT) ([z] ++ strL s ++ dat) := by
    unfold Mir.itLeaf
    simp only [hz]
   have dD := θ (show IsD (Mir.itLeaf (s, dat)) by rw [hlf]; exact tagS_isD _ _)
   obtain ⟨lf, hl⟩ := exq (Mir.itLeaf (s, dat))
   rw [hl] at hlf dD HL
   have HT := θ (fun A N c W (hN : ([z] ++ strL s ++ dat).length = N) h => rtagged_any ⟨#[105, 116, 101, 109]⟩ A N c ([z] ++ strL s ++ dat) W h hN (by rw [← hN, List.length_append, List.length_append, strL_length, hmd]; simp; omega)
    ((ByteL.append (byteL_of (by intro b hb; simp at hb; rcases hb with rfl; omega)) (strL_byte s)).append (byteL_of h8)) (by decide))
   rw [show tagS (strL ⟨#[105, 116, 101, 109]⟩) ([z] ++ strL s ++ dat) = lf from hlf.symm] at HT
   have ltb : b < wk.heap.size := hb
   clear hmd hcD h8 hx hcs hcd hcm hz hlf hl
   go_upto_region 8 with fail
   refine wp_region_held_drew (S := fun W => Below wk.heap.size wk W) (by kernel_rfl) (below_drewN (Below.refl _ _) 1) (fun Hd => ?_)
   have Hd : Below wk.heap.size wk wk.drew := below_drewN (Below.refl _ _) 1
   generalize World.drew wk = wd at *
   refine tq 0 rfl Hd ?_
   refine tq 1 rfl Hd ?_
   try simp only [la, Act.put]
   refine tq 2 rfl Hd ?_
   refine tq 3 rfl Hd ?_
   try simp only [la, Act.put]
   refine ts 4 rfl Hd (fun wS hSw => by
    have c0 := (hSw.cell (p := ⟨b, off + k * 2, none⟩) ltb).trans hc1
    go_simp
    try with_reducible rfl) ?_
   refine tq 5 rfl Hd ?_
   try simp only [la, Act.put]
   refine tq 6 rfl Hd ?_
   refine tq 8 rfl Hd ?_
   try simp only [la, Act.put]
   refine tq 9 rfl Hd ?_
   refine tq 10 rfl Hd ?_
   try simp only [la, Act.put]
   refine tq 11 rfl Hd ?_
   refine ts 12 rfl Hd (fun wS hSw => by
    have c0 := (hSw.cell (p := ⟨b, off + k * 2, none⟩) ltb).trans hc1
    go_simp
    try with_reducible rfl) ?_
   try simp only [la, Act.put]
   refine ty 7 rfl (fun K hK => ?_)
   go_simp
   generalize hge : World.alloc _ _ = w4
   have hO4 : Own8 w4 wd.heap.size (.slice (some ⟨wd.heap.size, 0, none⟩) 1 1) [z] := Own8.new (Nat.le_refl _) [z] rfl (by omega) hge
   have Hb4q := al1 hge
   have Hb4 := below_of Hd Hb4q Hd.size
   clear Hb4q
   have hz4 : wd.heap.size ≤ w4.heap.size := by subst hge; simp
   have hdk := Hd.size
   clear hge
   refine hK.out _ _ Hb4 fun _ => ?_
   clear hK K
   try simp only [la, Act.put]
   refine ty 13 rfl (fun K hK => ?_)
   refine stS (by rfl) (.tmp 28) (.tmp 33) (by rfl) hO4 (by rfl) (by rfl) (by simp; omega) hz4 ?_
   intro v5 w5 hO5 hg5
   have Hb5 := below_grown Hb4 hg5 Hb4.size (fun g e => Nat.le_trans hdk (hO4.lt g e))
   have hz5 := Nat.le_trans hz4 hg5.size
   refine hK.out _ _ Hb5 fun _ => ?_
   clear hK K
   try simp only [la, Act.put]
   refine tq 14 rfl Hb5 ?_
   try simp only [la, Act.put]
   refine td ?_ _
   obtain ⟨A5, c5, rfl, -, -, -⟩ := hO5.form
   have HO5 := θ hO5
   have u1 : w5.cell? ⟨b, off + k * 2 + 1, none⟩ = some (.slice D md cd) := cellkM Hb5 hc2
   clear hO5 hO4 hg5 Hd Hb4
   go_wp2_with (
    (at_builtin
     refine app8 rfl (.tmp 36) (.tmp 41) rfl HO5.out rfl rfl Hmd.out (HD.out.below Hb5) (by rw [List.length_append, strL_length]; simp; omega) hz5 ?_
     intro v6 w6 hO6 hg6
     have Hb6 := θ (below_grown Hb5 hg6 Hb5.size (fun g e => Nat.le_trans hdk (HO5.out.lt g e)))
     obtain ⟨A6, c6, rfl, -, -, hC6⟩ := hO6.form
     have HC6 := θ hC6
     clear hg6 hO6 hC6))
   refine (HT.out A6 _ c6 w6 (by simp) HC6.out).mono ?_
   rintro e w7 ⟨rfl, hb7⟩
   have hb7k := bo Hb6 hb7
   have Hown2 := θ (own_below hown.out hb7k)
   have HR2 := θ (hR.out.below hb7k)
   have HB2 := θ (bo hB hb7k)
   have hz2 : w.heap.size + 1 ≤ w7.heap.size := Nat.le_trans hz hb7k.size
   clear hb7 hb7k Hb5 Hb6 HC6 HT hown hR hB hz hc1 hc2 u1 HO5 hz4 hz5 hdk
   go_wp2_with (first
    | (at_builtin
       refine wpList_pushD rfl (.tmp 35) (.tmp 44) rfl (w.heap.size + 1) (.slice A' k c') k (Mir.itLeavesK l k) lf (own_below Hown2.out hb3.out) rfl w7.heap.size HD3.out dD.out rfl (by omega) (Nat.le_trans hz2 hb3.out.size) ?_
       intro v8 w8 hown8 hg8
       have HR8 := θ ((HR2.out.below hb3.out).grown hg8 (fun e => absurd (own_base Hown2.out _ e.symm) (by omega)))
       have HB8 := θ (below_grown (below_of HB2.out hb3.out HB2.out.size) hg8 (Nat.le_trans HB2.out.size hb3.out.size) (fun k hk => Nat.le_trans (Nat.le_succ _) (own_base Hown2.out k hk)))
       have hz8 : w.heap.size + 1 ≤ w8.heap.size := Nat.le_trans (Nat.le_trans hz2 hb3.out.size) hg8.size
       obtain ⟨A8, c8, rfl, -, -, -⟩ := own_form hown8
       have Hown8 := θ hown8
       clear hown8 hg8)
    | (refine wpList_oneD rfl (.tmp 43) rfl lf dD.out rfl ?_
       generalize hge3 : World.alloc _ _ = w3'
       have HD3 := θ (show Blk w3' w7.heap.size 29 (arrK .u8 lf) by subst hge3; exact Blk.new _ _ _)
       have hb3 := θ (al1 hge3)
       clear hge3))
   go_roundw
   case rel => exact ⟨k + 1, A8, c8, by omega, by go_num, rfl, (show World.ownsRow _ _ _ _ _ _ _ by rw [HL.out]; exact Hown8.out), HR8.out, hz8, HB8.out⟩
   case measure => simp [intOf]; omega
 obtain rfl : k = n := by omega
 have eL : Mir.itLeavesK l k = l.map Mir.itLeaf := by rw [← Hl.out]; exact Mir.itLeavesK_all l
 rw [eL] at hown
 obtain ⟨A2, c2, hv, hkc, hkm2, -⟩ := own_form hown.out
 cases hv
 have iL : IsL (l.map Mir.itLeaf) := fun d hd => by
  obtain ⟨x, -, rfl⟩ := List.mem_map.1 hd
  exact tagS_isD _ _
 have TR := θ (rtree_any k (l.map Mir.itLeaf) A' c' wk (by rw [List.length_map, Hl.out]) iL hkc (by omega) (Cells.own hown.out))
 have Dt := θ (treeS_isD (l.map Mir.itLeaf))
 clear eL hown iL
 rw [← Hs'.out] at TR Dt
 go_wp2_with fail
 refine TR.out.mono ?_
 rintro e w4 ⟨rfl, hb4⟩
 have HR4 := θ (hR.out.below hb4)
 have HB4 := θ (bo hB hb4)
 clear hb4
 go_wp2_with (
  (refine wpList_put_blk rfl 29 (.tmp 2) (.tmp 47) rfl w.heap.size (arrK .u8 S) rfl rfl 29 (arrK .u8 z32) HR4.out (info32 Dt.out.1) (by rw [len32 Dt.out.1, len32 z32_length]) (arrK_all _ _) ?_
   intro w5 HZ hg5 hz5
   have HD5 := θ HZ
   have HB5 := below_grown HB4.out hg5 HB4.out.size (by simp)
   clear hg5 hz5 HZ))
 exact ret_row2 rfl w.heap.size 29 (arrK .u8 S) (.array 32 5) rfl rfl HD5.out (by kernel_rfl) rfl (info32 Dt.out.1) rfl ⟨rfl, HB5⟩
end Go.Proofs.YtkflpoiobpblhaaGreat
