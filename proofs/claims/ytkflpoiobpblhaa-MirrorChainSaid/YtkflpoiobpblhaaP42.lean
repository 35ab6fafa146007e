/- Walks and plain laws that the statement rests on: MVsn. -/
import Derived.Deep.RegionHeld3
import Derived.Test.YtkflpoiobpblhaaP00
import Derived.Test.YtkflpoiobpblhaaP21
import Derived.Test.YtkflpoiobpblhaaP30
import Derived.Test.YtkflpoiobpblhaaP40
import Derived.Test.YtkflpoiobpblhaaP41
namespace Go.Proofs.Ytkflpoiobpblhaa
open Go.RowKit
set_option linter.unusedVariables false
set_option linter.unusedSimpArgs false
theorem setCells_four (w : World) (b o : Nat) (v0 v1 v2 v3 : Value) : w.setCells b o [v0, v1, v2, v3] = (((w.setCell ⟨b, o, none⟩ v0).setCell ⟨b, o + 1, none⟩ v1).setCell ⟨b, o + 2, none⟩ v2).setCell ⟨b, o + 3, none⟩ v3 := rfl
theorem step_put_four {P : Program} {w : World} {ops : Array Oper} {o : Oper} {a : Act} {Q : Exit → Act → World → Prop} {K : Act → World → Prop} {E : Prop} (hgd : o.guard = none) (ty : TypeId) (x y : Operand) (ho : o.op = .store ty x y) (b off : Nat) (v0 v1 v2 v3 : Value) (hx : a.eval x = .pointer (some ⟨b, off, none⟩)) (hy : a.eval y = .agg #[v0, v1, v2, v3])
    (t : TypeId) (cs : Array Value) (hg : Blk w b t cs) (hs : off + 4 ≤ cs.size) (hi : (P.info? ty).map (·.size) = some 4) (h1 : (#[v0, v1, v2, v3] : Array Value).all (·.oneCell') = true)
    (h : ∀ w', Blk w' b t ((((cs.setIfInBounds off v0).setIfInBounds (off + 1) v1).setIfInBounds (off + 2) v2).setIfInBounds (off + 3) v3) → w.grownBy w' (some b) → w'.heap.size = w.heap.size → K (a.put o.dst undef) w') : if Region.wanted o (yielded ops a.tmps) = true then Oper.wp P o a w K Q else E := by
  have hw : Region.wanted o (yielded ops a.tmps) = true := by simp [Region.wanted, hgd]
  rw [if_pos hw]
  refine wp_store_mid ty x y ho b off #[v0, v1, v2, v3] hx hy (fun j hj => ⟨by rw [hg.cell]; have hj : j < 4 := hj; rw [Array.getElem?_eq_getElem (by omega)]; rfl, hg.frozen _⟩) hi h1 ?_
  rw [setCells_four]
  refine h _ ((((hg.set_ off v0).set_ (off + 1) v1).set_ (off + 2) v2).set_ (off + 3) v3) ?_ ?_
  · exact grown_trans (grown_trans (grown_trans (grown_setOne v0) (grown_setOne v1)) (grown_setOne v2)) (grown_setOne v3)
  · rw [size_setCell, size_setCell, size_setCell, size_setCell]
theorem Cells.grownN {w w' : World} {A : Option Addr} {l : List Nat} {B g : Nat} (h : Cells w A (bytesV l)) (hN : NewA B A l) (hg : w.grownBy w' (some g)) (hgB : g < B) : Cells w' A (bytesV l) := by
  rcases hN with rfl | hN
  · exact .inl (by unfold bytesV; rfl)
  · exact h.grown hg (fun b off hA e => by injection e with e; have := hN b off hA; omega)
theorem Cells.off4 {w w' : World} {A : Option Addr} {l : List Nat} {g : Nat} {t : TypeId} {cs cs' : Array Value} (h : Cells w A (bytesV l)) (hg : w.grownBy w' (some g)) (hB : Blk w g t cs) (hB' : Blk w' g t cs') (hno : ∀ (i : Nat) (y : Int), cs[i]? = some (.int .u8 y) → cs'[i]? = cs[i]?) : Cells w' A (bytesV l) := by
  by_cases h0 : l = []
  · subst h0; exact .inl (by unfold bytesV; rfl)
  · obtain ⟨b, off, rfl, hlt, hc⟩ := h.addr (by rw [bytesV_length]; exact List.length_pos_iff.2 h0)
    by_cases hbg : b = g
    · subst hbg
      refine .inr ⟨b, off, rfl, hB'.lt, fun j u hu => ?_⟩
      have h1 := hc j u hu
      rw [hB.cell] at h1
      rw [hB'.cell]
      have hj : j < l.length := by have := (List.getElem?_eq_some_iff.1 hu).1; rwa [bytesV_length] at this
      rw [bytesV_get hj] at hu
      injection hu with hu
      subst hu
      rw [hno _ _ h1, h1]
    · exact h.grown hg (fun b' off' hA e => by injection hA with hA; injection hA with h1 _; injection e with e; omega)
theorem ver_no4 {st : List Nat} (h : st.length = 32) (no : Int) (A : Option Addr) (n c : Nat) (v0 v1 v2 v3 : Value) (i : Nat) (y : Int) (hi : (Mir.verA no st (.slice A n c) (.int .i64 0) (.slice none 0 0) (.slice none 0 0) (.slice none 0 0))[i]? = some (.int .u8 y)) :
    (((((Mir.verA no st (.slice A n c) (.int .i64 0) (.slice none 0 0) (.slice none 0 0) (.slice none 0 0)).setIfInBounds 34 v0).setIfInBounds (34 + 1) v1).setIfInBounds (34 + 2) v2).setIfInBounds (34 + 3) v3)[i]? = (Mir.verA no st (.slice A n c) (.int .i64 0) (.slice none 0 0) (.slice none 0 0) (.slice none 0 0))[i]? := by
  have hh := Mir.verA_hi h no (.slice A n c) (.int .i64 0) (.slice none 0 0) (.slice none 0 0) (.slice none 0 0)
  have n0 : i ≠ 34 := fun e => by subst e; have := hh 1; rw [hi] at this; simp at this
  have n1 : i ≠ 35 := fun e => by subst e; have := hh 2; rw [hi] at this; simp at this
  have n2 : i ≠ 36 := fun e => by subst e; have := hh 3; rw [hi] at this; simp at this
  have n3 : i ≠ 37 := fun e => by subst e; have := hh 4; rw [hi] at this; simp at this
  rw [Array.getElem?_setIfInBounds_ne (by omega), Array.getElem?_setIfInBounds_ne (by omega), Array.getElem?_setIfInBounds_ne (by omega), Array.getElem?_setIfInBounds_ne (by omega)]
namespace Mir
def vsnE (n : Nat) (m u : Int) (k : Nat) (its : List It) (cs : List Ch) : Int :=
  if okKey n m u = false then 40 else if u ≠ k then 450 else if itE its ≠ 0 then itE its else if chOk cs = false then 430 else if u = m then 40 else 0
def vsnV (s : List Nat) (m u : Nat) (its : List It) (cs : List Ch) : Ve :=
  ⟨(u : Int) + 1, stS its, cs, ⟨u, openL s u (bitL (msgS (treeS (pubL s m)) u (mesS (u + 1) (stS its) cs)) 64) 64, closL s u (bitL (msgS (treeS (pubL s m)) u (mesS (u + 1) (stS its) cs)) 64) 64, pathR (pubL s m) u⟩⟩
theorem verA_sig {st : List Nat} (h : st.length = 32) (no : Int) (C a b c d v0 v1 v2 v3 : Value) : ((((verA no st C a b c d).setIfInBounds 34 v0).setIfInBounds (34 + 1) v1).setIfInBounds (34 + 2) v2).setIfInBounds (34 + 3) v3 = verA no st C v0 v1 v2 v3 := by
  obtain ⟨a0, a1, a2, a3, a4, a5, a6, a7, a8, a9, a10, a11, a12, a13, a14, a15, a16, a17, a18, a19, a20, a21, a22, a23, a24, a25, a26, a27, a28, a29, a30, a31, rfl⟩ := list32 h
  kernel_rfl
end Mir
theorem built_ver (no : Int) (d : List Nat) (h : d.length = 32) (A : Option Addr) (n c : Nat) : Try.prog.built 38 [(0, .int .i64 no), (1, .agg (arrK .u8 d)), (2, .slice A n c)] = some (Mir.verA no d (.slice A n c) (.int .i64 0) (.slice none 0 0) (.slice none 0 0) (.slice none 0 0)) := by
  obtain ⟨a0, a1, a2, a3, a4, a5, a6, a7, a8, a9, a10, a11, a12, a13, a14, a15, a16, a17, a18, a19, a20, a21, a22, a23, a24, a25, a26, a27, a28, a29, a30, a31, rfl⟩ := list32 h
  kernel_rfl
def VerN (B : Nat) (C : Option Addr) (cc : Nat) (w : World) (v : Mir.Ve) (V : Array Value) : Prop :=
  ∃ (Ao : Option Addr) (co n1 : Nat) (Ac : Option Addr) (cq n2 : Nat) (Ap : Option Addr) (cp n3 : Nat), V = Mir.verA v.no v.st (.slice C v.ch.length cc) (.int .i64 v.sg.i) (.slice Ao n1 co) (.slice Ac n2 cq) (.slice Ap n3 cp) ∧ IsD v.st ∧ v.ch.length ≤ cc ∧ cc ≤ maxLen ∧
    SigC w v.sg (.int .i64 v.sg.i) (.slice Ao n1 co) (.slice Ac n2 cq) (.slice Ap n3 cp) ∧ NewA B Ao v.sg.o.flatten ∧ NewA B Ac v.sg.c.flatten ∧ NewA B Ap v.sg.p.flatten
theorem VerN.ver {B : Nat} {C : Option Addr} {cc : Nat} {w : World} {v : Mir.Ve} {V : Array Value} (h : VerN B C cc w v V) (hC : ChangesC w C v.ch) : VerC w v V := by
  obtain ⟨Ao, co, n1, Ac, cq, n2, Ap, cp, n3, e, hd, h1, h2, hs, -⟩ := h
  exact ⟨C, cc, _, _, _, _, e, hd, hC, h1, h2, hs⟩
theorem blk_threeC (w : World) (a b c : Array Value) (ta tb tc : TypeId) (w1 : World) (h : ((w.alloc (.cells a ta)).alloc (.cells b tb)).alloc (.cells c tc) = w1) :
    Blk w1 w.heap.size ta a ∧ Blk w1 (w.heap.size + 1) tb b ∧ Blk w1 (w.heap.size + 2) tc c ∧ Below w.heap.size w w1 ∧ w.heap.size + 3 ≤ w1.heap.size := by
  subst h
  have e1 : (w.alloc (.cells a ta)).heap.size = w.heap.size + 1 := by simp
  have e2 : ((w.alloc (.cells a ta)).alloc (.cells b tb)).heap.size = w.heap.size + 2 := by simp
  have h1 := Blk.new w ta a
  have h2 := Blk.new (w.alloc (.cells a ta)) tb b
  have h3 := Blk.new ((w.alloc (.cells a ta)).alloc (.cells b tb)) tc c
  rw [e1] at h2
  rw [e2] at h3
  exact ⟨(h1.alloc _).alloc _, h2.alloc _, h3, (((Below.refl _ _).alloc (Nat.le_refl _) _).alloc (by simp) _).alloc (by simp; omega) _, by simp⟩
set_option maxRecDepth 100000 in
set_option maxHeartbeats 4000000 in
theorem mversion_any (A B I C : Option Addr) (n c k d ni ci mc cc : Nat) (m u : Int) (s : List Nat) (its : List Mir.It) (cs : List Mir.Ch) (w : World) (hA : Cells w A (bytesV s)) (hs : s.length = n) (h8 : ByteL s) (hI : ItemsC w I its) (hni : its.length = ni) (hC : ChangesC w C cs) (hmc : cs.length = mc)
    (hk : k ≤ 1000000) (hni2 : ni ≤ 1000000) (hsi : ∀ x ∈ its, x.2.length ≤ 900000) (hmc2 : mc ≤ 1000000) (hsc : ∀ x ∈ cs, x.1.2.length ≤ 900000) (hcc : mc ≤ cc) (hccm : cc ≤ maxLen) :
    Calls Try.prog 12 #[.agg #[.slice A n c, .int .i64 m, .int .i64 u], .slice B k d, .slice I ni ci, .slice C mc cc] w fun e w' => ∃ V' K', e = .returned (.tuple #[.agg V', .agg K', .int .i64 (Mir.vsnE n m u k its cs)]) ∧
      ((Mir.vsnE n m u k its cs = 0 ∧ K' = #[.slice A n c, .int .i64 m, .int .i64 (u + 1)] ∧ VerC w' (Mir.vsnV s m.toNat u.toNat its cs) V' ∧ VerN w.heap.size C cc w' (Mir.vsnV s m.toNat u.toNat its cs) V') ∨ (Mir.vsnE n m u k its cs ≠ 0 ∧ K' = ZK ∧ V' = Mir.ver0)) ∧ Below w.heap.size w w' := by
  have HP := Lib.hid (fun W h => Public_any A n c m u s W h hs h8)
  have HSt := Lib.hid (fun W h => State_any I ni ci its W hni hni2 h hsi)
  have HCv := Lib.hid (fun W h => mvalid_any C mc cc cs W hmc hmc2 h)
  have HA := Lib.hid hA
  have HI := Lib.hid hI
  have HC := Lib.hid hC
  have Hs := Lib.hid hs
  have H8 := Lib.hid h8
  have Hmc := Lib.hid hmc
  have Hsc := Lib.hid hsc
  have Hcc := Lib.hid (And.intro hcc hccm)
  obtain ⟨R, hR⟩ : ∃ R, Mir.vsnE n m u k its cs = R := ⟨_, rfl⟩
  rw [hR]
  obtain ⟨P, hP⟩ : ∃ P, pubR n m u s = P := ⟨_, rfl⟩
  have HPd := Lib.hid (show IsD P by rw [← hP]; exact pubR_isD n m u s)
  obtain ⟨ok, hok⟩ : ∃ b, okKey n m u = b := ⟨_, rfl⟩
  obtain ⟨E, hE⟩ : ∃ E, Mir.itE its = E := ⟨_, rfl⟩
  obtain ⟨S, hS⟩ : ∃ S, Mir.stS its = S := ⟨_, rfl⟩
  obtain ⟨cv, hcv⟩ : ∃ b, Mir.chOk cs = b := ⟨_, rfl⟩
  have HSd := Lib.hid (show IsD S by
    rw [← hS]; unfold Mir.stS
    by_cases h : Mir.itE its = 0
    · rw [if_pos h]; exact treeS_isD _
    · rw [if_neg h]; exact z32_isD)
  rw [hP, hok] at HP
  rw [hE, hS] at HSt
  rw [hcv] at HCv
  have HR : Hid (R = if ok = false then 40 else if u ≠ k then 450 else if E ≠ 0 then E else if cv = false then 430 else if u = m then 40 else 0) := Lib.hid (by rw [← hR, ← hok, ← hE, ← hcv]; rfl)
  have HS := Lib.hid hS
  have Hok := Lib.hid hok
  have Hcv := Lib.hid hcv
  clear hA hs h8 hI hni hC hmc hsi hsc hcc hccm hR hP hok hE hS hcv
  obtain ⟨Z, hZ⟩ : ∃ Z, Mir.ver0 = Z := ⟨_, rfl⟩
  have HZ := Lib.hid hZ
  have iZ := Lib.hid (show (Try.prog.info? 38).map (·.size) = some Z.size by rw [← hZ, Mir.ver0_size]; kernel_rfl)
  have zZ := Lib.hid (show Z.size = 38 by rw [← hZ]; exact Mir.ver0_size)
  have aZ := Lib.hid (show Z.all (·.oneCell') = true by rw [← hZ]; exact Mir.verA_all rfl rfl rfl rfl rfl)
  clear hZ
  cases ok with
  | false =>
    have HR2 : Hid (R = 40) := Lib.hid (by rw [HR.out]; rfl)
    clear HR
    go_enter Try.func12, Try.ntmps12
    go_upto_region 1 with (fail)
    generalize hge : World.alloc (World.alloc (World.alloc _ _) _) _ = w1
    have b3 : Blk w1 w.heap.size 41 #[.slice A n c, .int .i64 m, .int .i64 u] ∧ Blk w1 (w.heap.size + 1) 38 Z ∧ Blk w1 (w.heap.size + 2) 41 ZK ∧ Below w.heap.size w w1 ∧ w.heap.size + 3 ≤ w1.heap.size := by
      rw [← HZ.out]
      exact blk_threeC w _ _ _ _ _ _ w1 hge
    have HKk := Lib.hid b3.1
    have HV := Lib.hid b3.2.1
    have HZk := Lib.hid b3.2.2.1
    have HB := Lib.hid b3.2.2.2.1
    have hz1 := b3.2.2.2.2
    clear hge b3
    have k0 : w1.cell? ⟨w.heap.size, 0, none⟩ = some (.slice A n c) := HKk.out.cell 0
    have k1 : w1.cell? ⟨w.heap.size, 1, none⟩ = some (.int .i64 m) := HKk.out.cell 1
    have k2 : w1.cell? ⟨w.heap.size, 2, none⟩ = some (.int .i64 u) := HKk.out.cell 2
    go_wp2_with (fail)
    refine (HP.out w1 (HA.out.below HB.out)).mono ?_
    rintro e w2 ⟨rfl, hb2⟩
    have HK2 := Lib.hid (HKk.out.below hb2)
    have HV2 := Lib.hid (HV.out.below hb2)
    have HZ2 := Lib.hid (HZk.out.below hb2)
    have HB2 := Lib.hid (below_of HB.out hb2 HB.out.size)
    have hz2 := Nat.le_trans hz1 hb2.size
    clear hb2 k0 k1 k2 HKk HV HZk HB hz1
    go_wp2_with (
      (refine wpList_put_blk rfl 28 (.tmp 11) (.tmp 18) rfl w2.heap.size (arrK .u8 P) rfl rfl 28 (arrK .u8 z32) (Blk.new w2 28 (arrK .u8 z32)) (info32 HPd.out.1) (by rw [len32 HPd.out.1, len32 z32_length]) (arrK_all _ _) ?_
       intro w3 h3 hg3 hze3
       have hb3 := (Below.refl w2.heap.size w2).alloc (Nat.le_refl _) (.cells (arrK .u8 z32) 28)
       have hz3 : w.heap.size + 3 ≤ w3.heap.size := Nat.le_trans (Nat.le_trans hz2 hb3.size) hg3.size
       have HK3 := Lib.hid ((HK2.out.below hb3).grown hg3 (fun e => by injection e with e; omega))
       have HV3 := Lib.hid ((HV2.out.below hb3).grown hg3 (fun e => by injection e with e; omega))
       have HZ3 := Lib.hid ((HZ2.out.below hb3).grown hg3 (fun e => by injection e with e; omega))
       have HB3 := Lib.hid (below_grown (below_of HB2.out hb3 HB2.out.size) hg3 (Nat.le_trans HB2.out.size hb3.size) (fun k hk => by cases hk; exact HB2.out.size))
       have c2 : w3.cell? ⟨w.heap.size, 2, none⟩ = some (.int .i64 u) := HK3.out.cell 2
       clear h3 hg3 hze3 hb3))
    go_upto_region 3 with (fail)
    refine wp_region_held_drew (S := fun W => Below w.heap.size w W ∧ Blk W (w.heap.size + 1) 38 Z ∧ Blk W (w.heap.size + 2) 41 ZK) (by kernel_rfl) (⟨below_drewN HB3.out 1, HV3.out, HZ3.out⟩) (fun Hd => ?_)
    have Hd : Below w.heap.size w w3.drew := below_drewN HB3.out 1
    have Zd : w.heap.size ≤ w3.drew.heap.size := HB3.out.size
    have fV : Blk w3.drew (w.heap.size + 1) 38 Z := HV3.out
    have fK : Blk w3.drew (w.heap.size + 2) 41 ZK := HZ3.out
    generalize World.drew w3 = wd at *
    refine wpAnyH_take (i := 0) (v := .agg (Z)) rfl (by kernel_rfl) (by kernel_rfl) (by kernel_rfl) (fun _ _ _ h => h) (yields_load_blk (by rfl) _ _ rfl ((w.heap.size + 1)) rfl 38 (Z) _ (fun W hW => hW.2.1) Try.underlying38 rfl iZ.out) ⟨Hd, fV, fK⟩ ?_
    try simp only [la0, la1, la2, Act.put, la3, la4, la5]
    refine wpAnyH_take (i := 1) (v := .agg (ZK)) rfl (by kernel_rfl) (by kernel_rfl) (by kernel_rfl) (fun _ _ _ h => h) (yields_load_blk (by rfl) _ _ rfl ((w.heap.size + 2)) rfl 41 (ZK) _ (fun W hW => hW.2.2) Try.underlying41 rfl (by kernel_rfl)) ⟨Hd, fV, fK⟩ ?_
    try simp only [la0, la1, la2, Act.put, la3, la4, la5]
    refine wpAnyH_take (i := 2) (v := ?_) rfl (by kernel_rfl) (by kernel_rfl) (by kernel_rfl) (fun _ _ _ h => h) (Or.inl ⟨by rfl, ?_⟩) ⟨Hd, fV, fK⟩ ?_
    rotate_left
    · intro wS hSw
      go_simp
      try with_reducible rfl
    try simp only [la0, la1, la2, Act.put, la3, la4, la5]
    refine wpAnyH_ready (rs := [3]) (by kernel_rfl) (by simp) (AllReadyH.cons rfl (fun K hK => ?_) AllReadyH.nil)
    refine step_put_blk (by rfl) _ _ _ (by rfl) ((w.heap.size + 1)) (Z) (by rfl) (by rfl) _ _ fV iZ.out rfl aZ.out ?_
    intro w1_ fV1 hg1 hz1
    have neK1 := fK.lt
    have fK1 := fK.grown hg1 (by first | (simp; done) | (simp; omega))
    have Hb1 : Below w.heap.size w w1_ := below_grown Hd hg1 Hd.size (by first | (simp; done) | (simp; omega))
    have Zb1 : w.heap.size ≤ w1_.heap.size := Nat.le_trans Zd hg1.size
    refine hK.out _ _ ⟨Hb1, fV1, fK1⟩ fun _ => ?_
    clear hK K
    try simp only [la0, la1, la2, Act.put, la3, la4, la5]
    refine wpAnyH_ready (rs := [4]) (by kernel_rfl) (by simp) (AllReadyH.cons rfl (fun K hK => ?_) AllReadyH.nil)
    refine step_put_blk (by rfl) _ _ _ (by rfl) ((w.heap.size + 2)) (ZK) (by rfl) (by rfl) _ _ fK1 (by kernel_rfl) rfl (by kernel_rfl) ?_
    intro w2_ fK2 hg2 hz2
    have neV2 := fV1.lt
    have fV2 := fV1.grown hg2 (by first | (simp; done) | (simp; omega))
    have Hb2 : Below w.heap.size w w2_ := below_grown Hb1 hg2 Hb1.size (by first | (simp; done) | (simp; omega))
    have Zb2 : w.heap.size ≤ w2_.heap.size := Nat.le_trans Zb1 hg2.size
    refine hK.out _ _ ⟨Hb2, fV2, fK2⟩ fun _ => ?_
    clear hK K
    try simp only [la0, la1, la2, Act.put, la3, la4, la5]
    refine wpAnyH_take (i := 5) (v := ?_) rfl (by kernel_rfl) (by kernel_rfl) (by kernel_rfl) (fun _ _ _ h => h) (Or.inl ⟨by rfl, ?_⟩) ⟨Hb2, fV2, fK2⟩ ?_
    rotate_left
    · intro wS hSw
      go_simp
      try with_reducible rfl
    try simp only [la0, la1, la2, Act.put, la3, la4, la5]
    refine wpAnyH_done (by kernel_rfl) ?_ _
    go_wp2_with (fail)
    exact ret_row3 (u := .int .i64 (40)) rfl (w.heap.size + 1) (w.heap.size + 2) 38 41 Z ZK _ _ rfl rfl rfl fV2 fK2 Try.underlying38 Try.underlying41 rfl rfl iZ.out (by kernel_rfl) rfl ⟨Z, ZK, by rw [HR2.out], .inr ⟨by rw [HR2.out]; omega, rfl, HZ.out.symm⟩, Hb2⟩
  | true =>
    by_cases hu : u = k
    · have du : (u == (k : Int)) = true := by simpa using hu
      have Hu := Lib.hid hu
      by_cases hE : E = 0
      · subst hE
        cases cv with
        | false =>
          have HR2 : Hid (R = 430) := Lib.hid (by rw [HR.out]; rw [if_neg (by simp), if_neg (by simp [Hu.out]), if_neg (by simp), if_pos rfl])
          clear HR
          clear hu
          go_enter Try.func12, Try.ntmps12
          go_upto_region 1 with (fail)
          generalize hge : World.alloc (World.alloc (World.alloc _ _) _) _ = w1
          have b3 : Blk w1 w.heap.size 41 #[.slice A n c, .int .i64 m, .int .i64 u] ∧ Blk w1 (w.heap.size + 1) 38 Z ∧ Blk w1 (w.heap.size + 2) 41 ZK ∧ Below w.heap.size w w1 ∧ w.heap.size + 3 ≤ w1.heap.size := by
            rw [← HZ.out]
            exact blk_threeC w _ _ _ _ _ _ w1 hge
          have HKk := Lib.hid b3.1
          have HV := Lib.hid b3.2.1
          have HZk := Lib.hid b3.2.2.1
          have HB := Lib.hid b3.2.2.2.1
          have hz1 := b3.2.2.2.2
          clear hge b3
          have k0 : w1.cell? ⟨w.heap.size, 0, none⟩ = some (.slice A n c) := HKk.out.cell 0
          have k1 : w1.cell? ⟨w.heap.size, 1, none⟩ = some (.int .i64 m) := HKk.out.cell 1
          have k2 : w1.cell? ⟨w.heap.size, 2, none⟩ = some (.int .i64 u) := HKk.out.cell 2
          go_wp2_with (fail)
          refine (HP.out w1 (HA.out.below HB.out)).mono ?_
          rintro e w2 ⟨rfl, hb2⟩
          have HK2 := Lib.hid (HKk.out.below hb2)
          have HV2 := Lib.hid (HV.out.below hb2)
          have HZ2 := Lib.hid (HZk.out.below hb2)
          have HB2 := Lib.hid (below_of HB.out hb2 HB.out.size)
          have hz2 := Nat.le_trans hz1 hb2.size
          clear hb2 k0 k1 k2 HKk HV HZk HB hz1
          go_wp2_with (
            (refine wpList_put_blk rfl 28 (.tmp 11) (.tmp 18) rfl w2.heap.size (arrK .u8 P) rfl rfl 28 (arrK .u8 z32) (Blk.new w2 28 (arrK .u8 z32)) (info32 HPd.out.1) (by rw [len32 HPd.out.1, len32 z32_length]) (arrK_all _ _) ?_
             intro w3 h3 hg3 hze3
             have hb3 := (Below.refl w2.heap.size w2).alloc (Nat.le_refl _) (.cells (arrK .u8 z32) 28)
             have hz3 : w.heap.size + 3 ≤ w3.heap.size := Nat.le_trans (Nat.le_trans hz2 hb3.size) hg3.size
             have HK3 := Lib.hid ((HK2.out.below hb3).grown hg3 (fun e => by injection e with e; omega))
             have HV3 := Lib.hid ((HV2.out.below hb3).grown hg3 (fun e => by injection e with e; omega))
             have HZ3 := Lib.hid ((HZ2.out.below hb3).grown hg3 (fun e => by injection e with e; omega))
             have HB3 := Lib.hid (below_grown (below_of HB2.out hb3 HB2.out.size) hg3 (Nat.le_trans HB2.out.size hb3.size) (fun k hk => by cases hk; exact HB2.out.size))
             have c2 : w3.cell? ⟨w.heap.size, 2, none⟩ = some (.int .i64 u) := HK3.out.cell 2
             clear h3 hg3 hze3 hb3))
          go_wp2_with (fail)
          refine (HSt.out w3 (HI.out.below HB3.out)).mono ?_
          rintro e w4 ⟨rfl, hb4⟩
          have HK4 := Lib.hid (HK3.out.below hb4)
          have HV4 := Lib.hid (HV3.out.below hb4)
          have HZ4 := Lib.hid (HZ3.out.below hb4)
          have HB4 := Lib.hid (below_of HB3.out hb4 HB3.out.size)
          have hz4 := Nat.le_trans hz3 hb4.size
          clear hb4 c2 HK3 HV3 HZ3 HB3 hz3
          go_wp2_with (
            (refine wpList_put_blk rfl 28 (.tmp 13) (.tmp 35) rfl w4.heap.size (arrK .u8 S) rfl rfl 28 (arrK .u8 z32) (Blk.new w4 28 (arrK .u8 z32)) (info32 HSd.out.1) (by rw [len32 HSd.out.1, len32 z32_length]) (arrK_all _ _) ?_
             intro w5 h5 hg5 hze5
             have hb5 := (Below.refl w4.heap.size w4).alloc (Nat.le_refl _) (.cells (arrK .u8 z32) 28)
             have hz5 : w.heap.size + 3 ≤ w5.heap.size := Nat.le_trans (Nat.le_trans hz4 hb5.size) hg5.size
             have HK5 := Lib.hid ((HK4.out.below hb5).grown hg5 (fun e => by injection e with e; omega))
             have HV5 := Lib.hid ((HV4.out.below hb5).grown hg5 (fun e => by injection e with e; omega))
             have HZ5 := Lib.hid ((HZ4.out.below hb5).grown hg5 (fun e => by injection e with e; omega))
             have HB5 := Lib.hid (below_grown (below_of HB4.out hb5 HB4.out.size) hg5 (Nat.le_trans HB4.out.size hb5.size) (fun k hk => by cases hk; exact HB4.out.size))
             have HS5 := Lib.hid h5
             have hzS : w.heap.size + 3 ≤ w4.heap.size := hz4
             clear h5 hg5 hze5 hb5))
          go_wp2_with (fail)
          refine (HCv.out w5 (HC.out.below HB5.out)).mono ?_
          rintro e w6 ⟨rfl, hb6⟩
          have HK6 := Lib.hid (HK5.out.below hb6)
          have HV6 := Lib.hid (HV5.out.below hb6)
          have HZ6 := Lib.hid (HZ5.out.below hb6)
          have HS6 := Lib.hid (HS5.out.below hb6)
          have HB6 := Lib.hid (below_of HB5.out hb6 HB5.out.size)
          have hz6 := Nat.le_trans hz5 hb6.size
          clear hb6 HK5 HV5 HZ5 HB5 HS5 hz5
          go_upto_region 10 with (fail)
          refine wp_region_held_drew (S := fun W => Below w.heap.size w W ∧ Blk W (w.heap.size + 1) 38 Z ∧ Blk W (w.heap.size + 2) 41 ZK) (by kernel_rfl) (⟨below_drewN HB6.out 1, HV6.out, HZ6.out⟩) (fun Hd => ?_)
          have Hd : Below w.heap.size w w6.drew := below_drewN HB6.out 1
          have Zd : w.heap.size ≤ w6.drew.heap.size := HB6.out.size
          have fV : Blk w6.drew (w.heap.size + 1) 38 Z := HV6.out
          have fK : Blk w6.drew (w.heap.size + 2) 41 ZK := HZ6.out
          generalize World.drew w6 = wd at *
          refine wpAnyH_take (i := 0) (v := .agg (Z)) rfl (by kernel_rfl) (by kernel_rfl) (by kernel_rfl) (fun _ _ _ h => h) (yields_load_blk (by rfl) _ _ rfl ((w.heap.size + 1)) rfl 38 (Z) _ (fun W hW => hW.2.1) Try.underlying38 rfl iZ.out) ⟨Hd, fV, fK⟩ ?_
          try simp only [la0, la1, la2, Act.put, la3, la4, la5]
          refine wpAnyH_take (i := 1) (v := .agg (ZK)) rfl (by kernel_rfl) (by kernel_rfl) (by kernel_rfl) (fun _ _ _ h => h) (yields_load_blk (by rfl) _ _ rfl ((w.heap.size + 2)) rfl 41 (ZK) _ (fun W hW => hW.2.2) Try.underlying41 rfl (by kernel_rfl)) ⟨Hd, fV, fK⟩ ?_
          try simp only [la0, la1, la2, Act.put, la3, la4, la5]
          refine wpAnyH_ready (rs := [2]) (by kernel_rfl) (by simp) (AllReadyH.cons rfl (fun K hK => ?_) AllReadyH.nil)
          refine step_put_blk (by rfl) _ _ _ (by rfl) ((w.heap.size + 1)) (Z) (by rfl) (by rfl) _ _ fV iZ.out rfl aZ.out ?_
          intro w1_ fV1 hg1 hz1
          have neK1 := fK.lt
          have fK1 := fK.grown hg1 (by first | (simp; done) | (simp; omega))
          have Hb1 : Below w.heap.size w w1_ := below_grown Hd hg1 Hd.size (by first | (simp; done) | (simp; omega))
          have Zb1 : w.heap.size ≤ w1_.heap.size := Nat.le_trans Zd hg1.size
          refine hK.out _ _ ⟨Hb1, fV1, fK1⟩ fun _ => ?_
          clear hK K
          try simp only [la0, la1, la2, Act.put, la3, la4, la5]
          refine wpAnyH_ready (rs := [3]) (by kernel_rfl) (by simp) (AllReadyH.cons rfl (fun K hK => ?_) AllReadyH.nil)
          refine step_put_blk (by rfl) _ _ _ (by rfl) ((w.heap.size + 2)) (ZK) (by rfl) (by rfl) _ _ fK1 (by kernel_rfl) rfl (by kernel_rfl) ?_
          intro w2_ fK2 hg2 hz2
          have neV2 := fV1.lt
          have fV2 := fV1.grown hg2 (by first | (simp; done) | (simp; omega))
          have Hb2 : Below w.heap.size w w2_ := below_grown Hb1 hg2 Hb1.size (by first | (simp; done) | (simp; omega))
          have Zb2 : w.heap.size ≤ w2_.heap.size := Nat.le_trans Zb1 hg2.size
          refine hK.out _ _ ⟨Hb2, fV2, fK2⟩ fun _ => ?_
          clear hK K
          try simp only [la0, la1, la2, Act.put, la3, la4, la5]
          refine wpAnyH_take (i := 4) (v := ?_) rfl (by kernel_rfl) (by kernel_rfl) (by kernel_rfl) (fun _ _ _ h => h) (Or.inl ⟨by rfl, ?_⟩) ⟨Hb2, fV2, fK2⟩ ?_
          rotate_left
          · intro wS hSw
            go_simp
            try with_reducible rfl
          try simp only [la0, la1, la2, Act.put, la3, la4, la5]
          refine wpAnyH_done (by kernel_rfl) ?_ _
          go_wp2_with (fail)
          exact ret_row3 (u := .int .i64 (430)) rfl (w.heap.size + 1) (w.heap.size + 2) 38 41 Z ZK _ _ rfl rfl rfl fV2 fK2 Try.underlying38 Try.underlying41 rfl rfl iZ.out (by kernel_rfl) rfl ⟨Z, ZK, by rw [HR2.out], .inr ⟨by rw [HR2.out]; omega, rfl, HZ.out.symm⟩, Hb2⟩
        | true =>
          by_cases hum : u = m
          · have HR2 : Hid (R = 40) := Lib.hid (by rw [HR.out]; rw [if_neg (by simp), if_neg (by simp [Hu.out]), if_neg (by simp), if_neg (by simp), if_pos hum])
            clear HR
            have Hum := Lib.hid hum
            clear hum
            obtain ⟨-, -, hm1, hm4, hk0, hkm⟩ := okKey_true Hok.out
            obtain ⟨m0, hm0⟩ := Int.eq_ofNat_of_zero_le (show 0 ≤ m by omega)
            subst hm0
            subst hu
            obtain ⟨hle, hsm⟩ := chOk_size Hcv.out
            have HMs := Lib.hid (fun W h => message_any (k + 1) S C mc cc cs (.int .i64 0) (.slice none 0 0) (.slice none 0 0) (.slice none 0 0) W HSd.out Hmc.out (by rw [← Hmc.out]; omega) (by omega) h (fun x hx => ⟨hsm x hx, Hsc.out x hx⟩))
            rw [show ((k + 1 : Nat) : Int) = (k : Int) + 1 from rfl] at HMs
            have hbv := built_ver ((k : Int) + 1) S HSd.out.1 C mc cc
            obtain ⟨W0, hW0⟩ : ∃ x, Mir.verA ((k : Int) + 1) S (.slice C mc cc) (.int .i64 0) (.slice none 0 0) (.slice none 0 0) (.slice none 0 0) = x := ⟨_, rfl⟩
            have hno4 := ver_no4 HSd.out.1 ((k : Int) + 1) C mc cc
            rw [hW0] at HMs hbv hno4
            have Hno4 := Lib.hid hno4
            have Hbv := Lib.hid hbv
            have HW0 := Lib.hid hW0
            have zW := Lib.hid (show W0.size = 38 by rw [← hW0]; exact Mir.verA_size HSd.out.1 ..)
            have iW := Lib.hid (show (Try.prog.info? 38).map (·.size) = some W0.size by rw [zW.out]; kernel_rfl)
            have aW := Lib.hid (show W0.all (·.oneCell') = true by rw [← hW0]; exact Mir.verA_all rfl rfl rfl rfl rfl)
            clear hbv hW0 hle hsm hno4
            go_enter Try.func12, Try.ntmps12
            go_upto_region 1 with (fail)
            generalize hge : World.alloc (World.alloc (World.alloc _ _) _) _ = w1
            have b3 : Blk w1 w.heap.size 41 #[.slice A n c, .int .i64 (m0 : Int), .int .i64 (k : Int)] ∧ Blk w1 (w.heap.size + 1) 38 Z ∧ Blk w1 (w.heap.size + 2) 41 ZK ∧ Below w.heap.size w w1 ∧ w.heap.size + 3 ≤ w1.heap.size := by
              rw [← HZ.out]
              exact blk_threeC w _ _ _ _ _ _ w1 hge
            have HKk := Lib.hid b3.1
            have HV := Lib.hid b3.2.1
            have HZk := Lib.hid b3.2.2.1
            have HB := Lib.hid b3.2.2.2.1
            have hz1 := b3.2.2.2.2
            clear hge b3
            have k0 : w1.cell? ⟨w.heap.size, 0, none⟩ = some (.slice A n c) := HKk.out.cell 0
            have k1 : w1.cell? ⟨w.heap.size, 1, none⟩ = some (.int .i64 (m0 : Int)) := HKk.out.cell 1
            have k2 : w1.cell? ⟨w.heap.size, 2, none⟩ = some (.int .i64 (k : Int)) := HKk.out.cell 2
            go_wp2_with (fail)
            refine (HP.out w1 (HA.out.below HB.out)).mono ?_
            rintro e w2 ⟨rfl, hb2⟩
            have HK2 := Lib.hid (HKk.out.below hb2)
            have HV2 := Lib.hid (HV.out.below hb2)
            have HZ2 := Lib.hid (HZk.out.below hb2)
            have HB2 := Lib.hid (below_of HB.out hb2 HB.out.size)
            have hz2 := Nat.le_trans hz1 hb2.size
            clear hb2 k0 k1 k2 HKk HV HZk HB hz1
            go_wp2_with (
              (refine wpList_put_blk rfl 28 (.tmp 11) (.tmp 18) rfl w2.heap.size (arrK .u8 P) rfl rfl 28 (arrK .u8 z32) (Blk.new w2 28 (arrK .u8 z32)) (info32 HPd.out.1) (by rw [len32 HPd.out.1, len32 z32_length]) (arrK_all _ _) ?_
               intro w3 h3 hg3 hze3
               have hb3 := (Below.refl w2.heap.size w2).alloc (Nat.le_refl _) (.cells (arrK .u8 z32) 28)
               have hz3 : w.heap.size + 3 ≤ w3.heap.size := Nat.le_trans (Nat.le_trans hz2 hb3.size) hg3.size
               have HK3 := Lib.hid ((HK2.out.below hb3).grown hg3 (fun e => by injection e with e; omega))
               have HV3 := Lib.hid ((HV2.out.below hb3).grown hg3 (fun e => by injection e with e; omega))
               have HZ3 := Lib.hid ((HZ2.out.below hb3).grown hg3 (fun e => by injection e with e; omega))
               have HB3 := Lib.hid (below_grown (below_of HB2.out hb3 HB2.out.size) hg3 (Nat.le_trans HB2.out.size hb3.size) (fun k hk => by cases hk; exact HB2.out.size))
               have c2 : w3.cell? ⟨w.heap.size, 2, none⟩ = some (.int .i64 (k : Int)) := HK3.out.cell 2
               clear h3 hg3 hze3 hb3))
            go_wp2_with (fail)
            refine (HSt.out w3 (HI.out.below HB3.out)).mono ?_
            rintro e w4 ⟨rfl, hb4⟩
            have HK4 := Lib.hid (HK3.out.below hb4)
            have HV4 := Lib.hid (HV3.out.below hb4)
            have HZ4 := Lib.hid (HZ3.out.below hb4)
            have HB4 := Lib.hid (below_of HB3.out hb4 HB3.out.size)
            have hz4 := Nat.le_trans hz3 hb4.size
            clear hb4 c2 HK3 HV3 HZ3 HB3 hz3
            go_wp2_with (
              (refine wpList_put_blk rfl 28 (.tmp 13) (.tmp 35) rfl w4.heap.size (arrK .u8 S) rfl rfl 28 (arrK .u8 z32) (Blk.new w4 28 (arrK .u8 z32)) (info32 HSd.out.1) (by rw [len32 HSd.out.1, len32 z32_length]) (arrK_all _ _) ?_
               intro w5 h5 hg5 hze5
               have hb5 := (Below.refl w4.heap.size w4).alloc (Nat.le_refl _) (.cells (arrK .u8 z32) 28)
               have hz5 : w.heap.size + 3 ≤ w5.heap.size := Nat.le_trans (Nat.le_trans hz4 hb5.size) hg5.size
               have HK5 := Lib.hid ((HK4.out.below hb5).grown hg5 (fun e => by injection e with e; omega))
               have HV5 := Lib.hid ((HV4.out.below hb5).grown hg5 (fun e => by injection e with e; omega))
               have HZ5 := Lib.hid ((HZ4.out.below hb5).grown hg5 (fun e => by injection e with e; omega))
               have HB5 := Lib.hid (below_grown (below_of HB4.out hb5 HB4.out.size) hg5 (Nat.le_trans HB4.out.size hb5.size) (fun k hk => by cases hk; exact HB4.out.size))
               have HS5 := Lib.hid h5
               have hzS : w.heap.size + 3 ≤ w4.heap.size := hz4
               clear h5 hg5 hze5 hb5))
            go_wp2_with (fail)
            refine (HCv.out w5 (HC.out.below HB5.out)).mono ?_
            rintro e w6 ⟨rfl, hb6⟩
            have HK6 := Lib.hid (HK5.out.below hb6)
            have HV6 := Lib.hid (HV5.out.below hb6)
            have HZ6 := Lib.hid (HZ5.out.below hb6)
            have HS6 := Lib.hid (HS5.out.below hb6)
            have HB6 := Lib.hid (below_of HB5.out hb6 HB5.out.size)
            have hz6 := Nat.le_trans hz5 hb6.size
            clear hb6 HK5 HV5 HZ5 HB5 HS5 hz5
            go_wp2_with (first
              | (refine wpList_put_blk rfl 38 (.tmp 14) (.tmp 52) rfl w6.heap.size W0 rfl rfl 38 Mir.ver0 (Blk.new w6 38 Mir.ver0) iW.out (by rw [Mir.ver0_size, zW.out]) aW.out ?_
                 intro w7 h7 hg7 hze7
                 have hb7 := (Below.refl w6.heap.size w6).alloc (Nat.le_refl _) (.cells Mir.ver0 38)
                 have hz7 : w.heap.size + 3 ≤ w7.heap.size := Nat.le_trans (Nat.le_trans hz6 hb7.size) hg7.size
                 have HK7 := Lib.hid ((HK6.out.below hb7).grown hg7 (fun e => by injection e with e; omega))
                 have HV7 := Lib.hid ((HV6.out.below hb7).grown hg7 (fun e => by injection e with e; omega))
                 have HZ7 := Lib.hid ((HZ6.out.below hb7).grown hg7 (fun e => by injection e with e; omega))
                 have HB7 := Lib.hid (below_grown (below_of HB6.out hb7 HB6.out.size) hg7 (Nat.le_trans HB6.out.size hb7.size) (fun k hk => by cases hk; exact HB6.out.size))
                 have HW7 := Lib.hid h7
                 have hzW : w.heap.size + 3 ≤ w6.heap.size := hz6
                 clear h7 hg7 hze7 hb7)
              | (refine wpList_load_blk rfl 28 (.tmp 13) rfl w4.heap.size rfl 28 (arrK .u8 S) (.array 32 5) HS6.out (by kernel_rfl) rfl (info32 HSd.out.1) ?_
                 refine wpList_moved rfl (.tmp 3) rfl ?_
                 refine wpList_built rfl 38 #[(0, .tmp 49), (1, .tmp 50), (2, .tmp 51)] rfl [(0, .int .i64 ((k : Int) + 1)), (1, .agg (arrK .u8 S)), (2, .slice C mc cc)] (by simp [Act.put, Act.eval]) W0 Hbv.out ?_))
            obtain ⟨X14, hX14⟩ : ∃ x, w6.heap.size = x := ⟨_, rfl⟩
            rw [hX14] at HW7 hzW ⊢
            clear hX14
            go_upto_region 12 with (fail)
            refine wp_region_held_drew (S := fun W => Below w.heap.size w W ∧ Blk W w.heap.size 41 #[.slice A n c, .int .i64 (m0 : Int), .int .i64 (k : Int)]) (by kernel_rfl) (⟨below_drewN HB7.out 1, HK7.out⟩) (fun Hd => ?_)
            have Hd : Below w.heap.size w w7.drew := below_drewN HB7.out 1
            have Zd : w.heap.size ≤ w7.drew.heap.size := HB7.out.size
            have fK : Blk w7.drew w.heap.size 41 #[.slice A n c, .int .i64 (m0 : Int), .int .i64 (k : Int)] := HK7.out
            have fV : Blk w7.drew (w.heap.size + 1) 38 Z := HV7.out
            have fZ : Blk w7.drew (w.heap.size + 2) 41 ZK := HZ7.out
            have fW : Blk w7.drew X14 38 W0 := HW7.out
            generalize World.drew w7 = wd at *
            refine wpAnyH_take (i := 0) (v := .agg (#[.slice A n c, .int .i64 (m0 : Int), .int .i64 (k : Int)])) rfl (by kernel_rfl) (by kernel_rfl) (by kernel_rfl) (fun _ _ _ h => h) (yields_load_blk (by rfl) _ _ rfl (w.heap.size) rfl 41 (#[.slice A n c, .int .i64 (m0 : Int), .int .i64 (k : Int)]) _ (fun W hW => hW.2) Try.underlying41 rfl (by kernel_rfl)) ⟨Hd, fK⟩ ?_
            try simp only [la0, la1, la2, Act.put, la3, la4, la5]
            refine wpAnyH_ready (rs := [1]) (by kernel_rfl) (by simp) (AllReadyH.cons rfl (fun K hK => ?_) AllReadyH.nil)
            refine step_load_blk (by rfl) _ _ (by rfl) (X14) (by rfl) _ (W0) _ fW Try.underlying38 rfl iW.out ?_
            refine hK.out _ _ ⟨Hd, fK⟩ fun _ => ?_
            clear hK K
            try simp only [la0, la1, la2, Act.put, la3, la4, la5]
            refine wpAnyH_ready (rs := [2]) (by kernel_rfl) (by simp) (AllReadyH.cons rfl (fun K hK => ?_) AllReadyH.nil)
            go_simp
            refine (HMs.out _ (HC.out.below Hd)).mono ?_
            rintro e w1_ ⟨A9, c9, rfl, hk9, hm9, hc9, hb1⟩
            have fK1 := fK.below hb1
            have fV1 := fV.below hb1
            have fZ1 := fZ.below hb1
            have fW1 := fW.below hb1
            have Hb1 : Below w.heap.size w w1_ := below_of Hd hb1 Hd.size
            have Zb1 : w.heap.size ≤ w1_.heap.size := Nat.le_trans Zd hb1.size
            go_wp2_with (fail)
            refine hK.out _ _ ⟨Hb1, fK1⟩ fun _ => ?_
            clear hK K
            try simp only [la0, la1, la2, Act.put, la3, la4, la5]
            refine wpAnyH_ready (rs := [3]) (by kernel_rfl) (by simp) (AllReadyH.cons rfl (fun K hK => ?_) AllReadyH.nil)
            go_simp
            refine (Sign_bad A n c _ _ A9 72 c9 _ (.inr ⟨Hok.out, by omega, Hum.out⟩)).mono ?_
            rintro e w2_ ⟨rfl, hb2⟩
            have fK2 := fK1.below hb2
            have fV2 := fV1.below hb2
            have fZ2 := fZ1.below hb2
            have fW2 := fW1.below hb2
            have fm2 := hc9.below hb2
            have Hb2 : Below w.heap.size w w2_ := below_of Hb1 hb2 Hb1.size
            have Zb2 : w.heap.size ≤ w2_.heap.size := Nat.le_trans Zb1 hb2.size
            go_wp2_with (fail)
            refine hK.out _ _ ⟨Hb2, fK2⟩ fun _ => ?_
            clear hK K
            try simp only [la0, la1, la2, Act.put, la3, la4, la5]
            refine wpAnyH_take (i := 4) (v := ?_) rfl (by kernel_rfl) (by kernel_rfl) (by kernel_rfl) (fun _ _ _ h => h) (Or.inl ⟨by rfl, ?_⟩) ⟨Hb2, fK2⟩ ?_
            rotate_left
            · intro wS hSw
              go_simp
              try with_reducible rfl
            try simp only [la0, la1, la2, Act.put, la3, la4, la5]
            refine wpAnyH_take (i := 5) (v := ?_) rfl (by kernel_rfl) (by kernel_rfl) (by kernel_rfl) (fun _ _ _ h => h) (Or.inl ⟨by rfl, ?_⟩) ⟨Hb2, fK2⟩ ?_
            rotate_left
            · intro wS hSw
              go_simp
              try with_reducible rfl
            try simp only [la0, la1, la2, Act.put, la3, la4, la5]
            refine wpAnyH_take (i := 6) (v := ?_) rfl (by kernel_rfl) (by kernel_rfl) (by kernel_rfl) (fun _ _ _ h => h) (Or.inl ⟨by rfl, ?_⟩) ⟨Hb2, fK2⟩ ?_
            rotate_left
            · intro wS hSw
              go_simp
              try with_reducible rfl
            try simp only [la0, la1, la2, Act.put, la3, la4, la5]
            refine wpAnyH_take (i := 7) (v := ?_) rfl (by kernel_rfl) (by kernel_rfl) (by kernel_rfl) (fun _ _ _ h => h) (Or.inl ⟨by rfl, ?_⟩) ⟨Hb2, fK2⟩ ?_
            rotate_left
            · intro wS hSw
              go_simp
              try with_reducible rfl
            try simp only [la0, la1, la2, Act.put, la3, la4, la5]
            refine wpAnyH_ready (rs := [8]) (by kernel_rfl) (by simp) (AllReadyH.cons rfl (fun K hK => ?_) AllReadyH.nil)
            refine step_put_blk (by rfl) _ _ _ (by rfl) ((w.heap.size + 2)) (ZK) (by rfl) (by rfl) _ _ fZ2 (by kernel_rfl) rfl (by kernel_rfl) ?_
            intro w3_ fZ3 hg3 hz3
            have neK3 := fK2.lt
            have fK3 := fK2.grown hg3 (by first | (simp; done) | (simp; omega))
            have neV3 := fV2.lt
            have fV3 := fV2.grown hg3 (by first | (simp; done) | (simp; omega))
            have neW3 := fW2.lt
            have fW3 := fW2.grown hg3 (by first | (simp; done) | (simp; omega))
            have fm3 := fm2.off8 hg3 fZ2 (by first | exact no8_sig | exact no8_key)
            have Hb3 : Below w.heap.size w w3_ := below_grown Hb2 hg3 Hb2.size (by first | (simp; done) | (simp; omega))
            have Zb3 : w.heap.size ≤ w3_.heap.size := Nat.le_trans Zb2 hg3.size
            refine hK.out _ _ ⟨Hb3, fK3⟩ fun _ => ?_
            clear hK K
            try simp only [la0, la1, la2, Act.put, la3, la4, la5]
            refine wpAnyH_take (i := 9) (v := ?_) rfl (by kernel_rfl) (by kernel_rfl) (by kernel_rfl) (fun _ _ _ h => h) (Or.inl ⟨by rfl, ?_⟩) ⟨Hb3, fK3⟩ ?_
            rotate_left
            · intro wS hSw
              go_simp
              try with_reducible rfl
            try simp only [la0, la1, la2, Act.put, la3, la4, la5]
            refine wpAnyH_ready (rs := [10]) (by kernel_rfl) (by simp) (AllReadyH.cons rfl (fun K hK => ?_) AllReadyH.nil)
            refine step_put_four (by rfl) _ _ _ (by rfl) (X14) 34 (.int .i64 0) (.slice none 0 0) (.slice none 0 0) (.slice none 0 0) (by rfl) (by rfl) _ _ fW3 (by rw [zW.out]; omega) (by kernel_rfl) (by kernel_rfl) ?_
            intro w4_ fW4 hg4 hz4
            have neZ4 := fZ3.lt
            have fZ4 := fZ3.grown hg4 (by first | (simp; done) | (simp; omega))
            have neK4 := fK3.lt
            have fK4 := fK3.grown hg4 (by first | (simp; done) | (simp; omega))
            have neV4 := fV3.lt
            have fV4 := fV3.grown hg4 (by first | (simp; done) | (simp; omega))
            have fm4 := Cells.off4 fm3 hg4 fW3 fW4 (Hno4.out _ _ _ _)
            have Hb4 : Below w.heap.size w w4_ := below_grown Hb3 hg4 Hb3.size (by first | (simp; done) | (simp; omega))
            have Zb4 : w.heap.size ≤ w4_.heap.size := Nat.le_trans Zb3 hg4.size
            refine hK.out _ _ ⟨Hb4, fK4⟩ fun _ => ?_
            clear hK K
            try simp only [la0, la1, la2, Act.put, la3, la4, la5]
            refine wpAnyH_take (i := 11) (v := ?_) rfl (by kernel_rfl) (by kernel_rfl) (by kernel_rfl) (fun _ _ _ h => h) (Or.inl ⟨by rfl, ?_⟩) ⟨Hb4, fK4⟩ ?_
            rotate_left
            · intro wS hSw
              go_simp
              try with_reducible rfl
            try simp only [la0, la1, la2, Act.put, la3, la4, la5]
            refine wpAnyH_done (by kernel_rfl) ?_ _
            have HVE := Lib.hid fV4
            have HZE := Lib.hid fZ4
            have HBE := Lib.hid Hb4
            go_wp2_with (first
              | (refine wpList_load_blk rfl 38 (.tmp 8) rfl (w.heap.size + 1) rfl 38 Z _ HVE.out Try.underlying38 rfl iZ.out ?_)
              | (refine wpList_store_same rfl 38 (.tmp 8) (.tmp 64) rfl (w.heap.size + 1) Z rfl rfl 38 HVE.out iZ.out aZ.out ?_)
              | (refine wpList_store_same rfl 41 (.tmp 9) (.tmp 65) rfl (w.heap.size + 2) ZK rfl rfl 41 HZE.out (by kernel_rfl) (by kernel_rfl) ?_))
            exact ret_row3 (u := .int .i64 40) rfl (w.heap.size + 1) (w.heap.size + 2) 38 41 Z ZK _ _ rfl rfl rfl HVE.out HZE.out Try.underlying38 Try.underlying41 rfl rfl iZ.out (by kernel_rfl) rfl ⟨Z, ZK, by rw [HR2.out], .inr ⟨by rw [HR2.out]; omega, rfl, HZ.out.symm⟩, HBE.out⟩
          · have HR2 : Hid (R = 0) := Lib.hid (by rw [HR.out]; rw [if_neg (by simp), if_neg (by simp [Hu.out]), if_neg (by simp), if_neg (by simp), if_neg hum])
            clear HR
            obtain ⟨-, -, hm1, hm4, hk0, hkm⟩ := okKey_true Hok.out
            obtain ⟨m0, hm0⟩ := Int.eq_ofNat_of_zero_le (show 0 ≤ m by omega)
            subst hm0
            subst hu
            obtain ⟨hle, hsm⟩ := chOk_size Hcv.out
            have HMs := Lib.hid (fun W h => message_any (k + 1) S C mc cc cs (.int .i64 0) (.slice none 0 0) (.slice none 0 0) (.slice none 0 0) W HSd.out Hmc.out (by rw [← Hmc.out]; omega) (by omega) h (fun x hx => ⟨hsm x hx, Hsc.out x hx⟩))
            rw [show ((k + 1 : Nat) : Int) = (k : Int) + 1 from rfl] at HMs
            have hbv := built_ver ((k : Int) + 1) S HSd.out.1 C mc cc
            obtain ⟨W0, hW0⟩ : ∃ x, Mir.verA ((k : Int) + 1) S (.slice C mc cc) (.int .i64 0) (.slice none 0 0) (.slice none 0 0) (.slice none 0 0) = x := ⟨_, rfl⟩
            have hno4 := ver_no4 HSd.out.1 ((k : Int) + 1) C mc cc
            rw [hW0] at HMs hbv hno4
            have Hno4 := Lib.hid hno4
            have Hbv := Lib.hid hbv
            have HW0 := Lib.hid hW0
            have zW := Lib.hid (show W0.size = 38 by rw [← hW0]; exact Mir.verA_size HSd.out.1 ..)
            have iW := Lib.hid (show (Try.prog.info? 38).map (·.size) = some W0.size by rw [zW.out]; kernel_rfl)
            have aW := Lib.hid (show W0.all (·.oneCell') = true by rw [← hW0]; exact Mir.verA_all rfl rfl rfl rfl rfl)
            clear hbv hW0 hle hsm hno4
            have hkm2 : k < m0 := by omega
            clear hum
            go_enter Try.func12, Try.ntmps12
            go_upto_region 1 with (fail)
            generalize hge : World.alloc (World.alloc (World.alloc _ _) _) _ = w1
            have b3 : Blk w1 w.heap.size 41 #[.slice A n c, .int .i64 (m0 : Int), .int .i64 (k : Int)] ∧ Blk w1 (w.heap.size + 1) 38 Z ∧ Blk w1 (w.heap.size + 2) 41 ZK ∧ Below w.heap.size w w1 ∧ w.heap.size + 3 ≤ w1.heap.size := by
              rw [← HZ.out]
              exact blk_threeC w _ _ _ _ _ _ w1 hge
            have HKk := Lib.hid b3.1
            have HV := Lib.hid b3.2.1
            have HZk := Lib.hid b3.2.2.1
            have HB := Lib.hid b3.2.2.2.1
            have hz1 := b3.2.2.2.2
            clear hge b3
            have k0 : w1.cell? ⟨w.heap.size, 0, none⟩ = some (.slice A n c) := HKk.out.cell 0
            have k1 : w1.cell? ⟨w.heap.size, 1, none⟩ = some (.int .i64 (m0 : Int)) := HKk.out.cell 1
            have k2 : w1.cell? ⟨w.heap.size, 2, none⟩ = some (.int .i64 (k : Int)) := HKk.out.cell 2
            go_wp2_with (fail)
            refine (HP.out w1 (HA.out.below HB.out)).mono ?_
            rintro e w2 ⟨rfl, hb2⟩
            have HK2 := Lib.hid (HKk.out.below hb2)
            have HV2 := Lib.hid (HV.out.below hb2)
            have HZ2 := Lib.hid (HZk.out.below hb2)
            have HB2 := Lib.hid (below_of HB.out hb2 HB.out.size)
            have hz2 := Nat.le_trans hz1 hb2.size
            clear hb2 k0 k1 k2 HKk HV HZk HB hz1
            go_wp2_with (
              (refine wpList_put_blk rfl 28 (.tmp 11) (.tmp 18) rfl w2.heap.size (arrK .u8 P) rfl rfl 28 (arrK .u8 z32) (Blk.new w2 28 (arrK .u8 z32)) (info32 HPd.out.1) (by rw [len32 HPd.out.1, len32 z32_length]) (arrK_all _ _) ?_
               intro w3 h3 hg3 hze3
               have hb3 := (Below.refl w2.heap.size w2).alloc (Nat.le_refl _) (.cells (arrK .u8 z32) 28)
               have hz3 : w.heap.size + 3 ≤ w3.heap.size := Nat.le_trans (Nat.le_trans hz2 hb3.size) hg3.size
               have HK3 := Lib.hid ((HK2.out.below hb3).grown hg3 (fun e => by injection e with e; omega))
               have HV3 := Lib.hid ((HV2.out.below hb3).grown hg3 (fun e => by injection e with e; omega))
               have HZ3 := Lib.hid ((HZ2.out.below hb3).grown hg3 (fun e => by injection e with e; omega))
               have HB3 := Lib.hid (below_grown (below_of HB2.out hb3 HB2.out.size) hg3 (Nat.le_trans HB2.out.size hb3.size) (fun k hk => by cases hk; exact HB2.out.size))
               have c2 : w3.cell? ⟨w.heap.size, 2, none⟩ = some (.int .i64 (k : Int)) := HK3.out.cell 2
               clear h3 hg3 hze3 hb3))
            go_wp2_with (fail)
            refine (HSt.out w3 (HI.out.below HB3.out)).mono ?_
            rintro e w4 ⟨rfl, hb4⟩
            have HK4 := Lib.hid (HK3.out.below hb4)
            have HV4 := Lib.hid (HV3.out.below hb4)
            have HZ4 := Lib.hid (HZ3.out.below hb4)
            have HB4 := Lib.hid (below_of HB3.out hb4 HB3.out.size)
            have hz4 := Nat.le_trans hz3 hb4.size
            clear hb4 c2 HK3 HV3 HZ3 HB3 hz3
            go_wp2_with (
              (refine wpList_put_blk rfl 28 (.tmp 13) (.tmp 35) rfl w4.heap.size (arrK .u8 S) rfl rfl 28 (arrK .u8 z32) (Blk.new w4 28 (arrK .u8 z32)) (info32 HSd.out.1) (by rw [len32 HSd.out.1, len32 z32_length]) (arrK_all _ _) ?_
               intro w5 h5 hg5 hze5
               have hb5 := (Below.refl w4.heap.size w4).alloc (Nat.le_refl _) (.cells (arrK .u8 z32) 28)
               have hz5 : w.heap.size + 3 ≤ w5.heap.size := Nat.le_trans (Nat.le_trans hz4 hb5.size) hg5.size
               have HK5 := Lib.hid ((HK4.out.below hb5).grown hg5 (fun e => by injection e with e; omega))
               have HV5 := Lib.hid ((HV4.out.below hb5).grown hg5 (fun e => by injection e with e; omega))
               have HZ5 := Lib.hid ((HZ4.out.below hb5).grown hg5 (fun e => by injection e with e; omega))
               have HB5 := Lib.hid (below_grown (below_of HB4.out hb5 HB4.out.size) hg5 (Nat.le_trans HB4.out.size hb5.size) (fun k hk => by cases hk; exact HB4.out.size))
               have HS5 := Lib.hid h5
               have hzS : w.heap.size + 3 ≤ w4.heap.size := hz4
               clear h5 hg5 hze5 hb5))
            go_wp2_with (fail)
            refine (HCv.out w5 (HC.out.below HB5.out)).mono ?_
            rintro e w6 ⟨rfl, hb6⟩
            have HK6 := Lib.hid (HK5.out.below hb6)
            have HV6 := Lib.hid (HV5.out.below hb6)
            have HZ6 := Lib.hid (HZ5.out.below hb6)
            have HS6 := Lib.hid (HS5.out.below hb6)
            have HB6 := Lib.hid (below_of HB5.out hb6 HB5.out.size)
            have hz6 := Nat.le_trans hz5 hb6.size
            clear hb6 HK5 HV5 HZ5 HB5 HS5 hz5
            go_wp2_with (first
              | (refine wpList_put_blk rfl 38 (.tmp 14) (.tmp 52) rfl w6.heap.size W0 rfl rfl 38 Mir.ver0 (Blk.new w6 38 Mir.ver0) iW.out (by rw [Mir.ver0_size, zW.out]) aW.out ?_
                 intro w7 h7 hg7 hze7
                 have hb7 := (Below.refl w6.heap.size w6).alloc (Nat.le_refl _) (.cells Mir.ver0 38)
                 have hz7 : w.heap.size + 3 ≤ w7.heap.size := Nat.le_trans (Nat.le_trans hz6 hb7.size) hg7.size
                 have HK7 := Lib.hid ((HK6.out.below hb7).grown hg7 (fun e => by injection e with e; omega))
                 have HV7 := Lib.hid ((HV6.out.below hb7).grown hg7 (fun e => by injection e with e; omega))
                 have HZ7 := Lib.hid ((HZ6.out.below hb7).grown hg7 (fun e => by injection e with e; omega))
                 have HB7 := Lib.hid (below_grown (below_of HB6.out hb7 HB6.out.size) hg7 (Nat.le_trans HB6.out.size hb7.size) (fun k hk => by cases hk; exact HB6.out.size))
                 have HW7 := Lib.hid h7
                 have hzW : w.heap.size + 3 ≤ w6.heap.size := hz6
                 clear h7 hg7 hze7 hb7)
              | (refine wpList_load_blk rfl 28 (.tmp 13) rfl w4.heap.size rfl 28 (arrK .u8 S) (.array 32 5) HS6.out (by kernel_rfl) rfl (info32 HSd.out.1) ?_
                 refine wpList_moved rfl (.tmp 3) rfl ?_
                 refine wpList_built rfl 38 #[(0, .tmp 49), (1, .tmp 50), (2, .tmp 51)] rfl [(0, .int .i64 ((k : Int) + 1)), (1, .agg (arrK .u8 S)), (2, .slice C mc cc)] (by simp [Act.put, Act.eval]) W0 Hbv.out ?_))
            obtain ⟨X14, hX14⟩ : ∃ x, w6.heap.size = x := ⟨_, rfl⟩
            rw [hX14] at HW7 hzW ⊢
            clear hX14
            go_upto_region 12 with (fail)
            refine wp_region_held_drew (S := fun W => Below w.heap.size w W ∧ Blk W w.heap.size 41 #[.slice A n c, .int .i64 (m0 : Int), .int .i64 (k : Int)]) (by kernel_rfl) (⟨below_drewN HB7.out 1, HK7.out⟩) (fun Hd => ?_)
            have Hd : Below w.heap.size w w7.drew := below_drewN HB7.out 1
            have Zd : w.heap.size ≤ w7.drew.heap.size := HB7.out.size
            have fK : Blk w7.drew w.heap.size 41 #[.slice A n c, .int .i64 (m0 : Int), .int .i64 (k : Int)] := HK7.out
            have fV : Blk w7.drew (w.heap.size + 1) 38 Z := HV7.out
            have fZ : Blk w7.drew (w.heap.size + 2) 41 ZK := HZ7.out
            have fW : Blk w7.drew X14 38 W0 := HW7.out
            generalize World.drew w7 = wd at *
            refine wpAnyH_take (i := 0) (v := .agg (#[.slice A n c, .int .i64 (m0 : Int), .int .i64 (k : Int)])) rfl (by kernel_rfl) (by kernel_rfl) (by kernel_rfl) (fun _ _ _ h => h) (yields_load_blk (by rfl) _ _ rfl (w.heap.size) rfl 41 (#[.slice A n c, .int .i64 (m0 : Int), .int .i64 (k : Int)]) _ (fun W hW => hW.2) Try.underlying41 rfl (by kernel_rfl)) ⟨Hd, fK⟩ ?_
            try simp only [la0, la1, la2, Act.put, la3, la4, la5]
            refine wpAnyH_ready (rs := [1]) (by kernel_rfl) (by simp) (AllReadyH.cons rfl (fun K hK => ?_) AllReadyH.nil)
            refine step_load_blk (by rfl) _ _ (by rfl) (X14) (by rfl) _ (W0) _ fW Try.underlying38 rfl iW.out ?_
            refine hK.out _ _ ⟨Hd, fK⟩ fun _ => ?_
            clear hK K
            try simp only [la0, la1, la2, Act.put, la3, la4, la5]
            refine wpAnyH_ready (rs := [2]) (by kernel_rfl) (by simp) (AllReadyH.cons rfl (fun K hK => ?_) AllReadyH.nil)
            go_simp
            refine (HMs.out _ (HC.out.below Hd)).mono ?_
            rintro e w1_ ⟨A9, c9, rfl, hk9, hm9, hc9, hb1⟩
            have fK1 := fK.below hb1
            have fV1 := fV.below hb1
            have fZ1 := fZ.below hb1
            have fW1 := fW.below hb1
            have Hb1 : Below w.heap.size w w1_ := below_of Hd hb1 Hd.size
            have Zb1 : w.heap.size ≤ w1_.heap.size := Nat.le_trans Zd hb1.size
            go_wp2_with (fail)
            refine hK.out _ _ ⟨Hb1, fK1⟩ fun _ => ?_
            clear hK K
            try simp only [la0, la1, la2, Act.put, la3, la4, la5]
            refine wpAnyH_ready (rs := [3]) (by kernel_rfl) (by simp) (AllReadyH.cons rfl (fun K hK => ?_) AllReadyH.nil)
            go_simp
            have hNB : w.heap.size + 2 < w1_.heap.size := fZ1.lt
            refine (Sign_good A n c m0 k s A9 72 c9 (Mir.mesS (k + 1) S cs) _ (HA.out.below Hb1) Hs.out H8.out Hok.out (by omega) hc9 (mesS_length _ _ _ HSd.out) (by omega) (mesS_byte _ _ _ HSd.out)).mono ?_
            rintro e w2_ ⟨Ao, co, Ac, cq, Ap, qp, cp, rfl, hpl, hp1, hp2, ho1, ho2, hq1, hq2, hCo, hCc, hCp, hNo, hNc, hNp, hb2⟩
            have HNo := Lib.hid hNo
            have HNc := Lib.hid hNc
            have HNp := Lib.hid hNp
            clear hNo hNc hNp
            obtain ⟨OL, hOL⟩ : ∃ x, openL s k (bitL (msgS (treeS (pubL s m0)) k (Mir.mesS (k + 1) S cs)) 64) 64 = x := ⟨_, rfl⟩
            obtain ⟨CL, hCL⟩ : ∃ x, closL s k (bitL (msgS (treeS (pubL s m0)) k (Mir.mesS (k + 1) S cs)) 64) 64 = x := ⟨_, rfl⟩
            rw [hOL] at hCo
            rw [hCL] at hCc
            have HOL := Lib.hid hOL
            have HCL := Lib.hid hCL
            clear hOL hCL
            have fK2 := fK1.below hb2
            have fV2 := fV1.below hb2
            have fZ2 := fZ1.below hb2
            have fW2 := fW1.below hb2
            have fm2 := hc9.below hb2
            have Hb2 : Below w.heap.size w w2_ := below_of Hb1 hb2 Hb1.size
            have Zb2 : w.heap.size ≤ w2_.heap.size := Nat.le_trans Zb1 hb2.size
            go_wp2_with (fail)
            refine hK.out _ _ ⟨Hb2, fK2⟩ fun _ => ?_
            clear hK K
            try simp only [la0, la1, la2, Act.put, la3, la4, la5]
            refine wpAnyH_take (i := 4) (v := ?_) rfl (by kernel_rfl) (by kernel_rfl) (by kernel_rfl) (fun _ _ _ h => h) (Or.inl ⟨by rfl, ?_⟩) ⟨Hb2, fK2⟩ ?_
            rotate_left
            · intro wS hSw
              go_simp
              try with_reducible rfl
            try simp only [la0, la1, la2, Act.put, la3, la4, la5]
            refine wpAnyH_take (i := 5) (v := ?_) rfl (by kernel_rfl) (by kernel_rfl) (by kernel_rfl) (fun _ _ _ h => h) (Or.inl ⟨by rfl, ?_⟩) ⟨Hb2, fK2⟩ ?_
            rotate_left
            · intro wS hSw
              go_simp
              try with_reducible rfl
            try simp only [la0, la1, la2, Act.put, la3, la4, la5]
            refine wpAnyH_take (i := 6) (v := ?_) rfl (by kernel_rfl) (by kernel_rfl) (by kernel_rfl) (fun _ _ _ h => h) (Or.inl ⟨by rfl, ?_⟩) ⟨Hb2, fK2⟩ ?_
            rotate_left
            · intro wS hSw
              go_simp
              try with_reducible rfl
            try simp only [la0, la1, la2, Act.put, la3, la4, la5]
            refine wpAnyH_take (i := 7) (v := ?_) rfl (by kernel_rfl) (by kernel_rfl) (by kernel_rfl) (fun _ _ _ h => h) (Or.inl ⟨by rfl, ?_⟩) ⟨Hb2, fK2⟩ ?_
            rotate_left
            · intro wS hSw
              go_simp
              try with_reducible rfl
            try simp only [la0, la1, la2, Act.put, la3, la4, la5]
            refine wpAnyH_ready (rs := [8]) (by kernel_rfl) (by simp) (AllReadyH.cons rfl (fun K hK => ?_) AllReadyH.nil)
            refine step_put_blk (by rfl) _ _ _ (by rfl) ((w.heap.size + 2)) (#[.slice A n c, .int .i64 (m0 : Int), .int .i64 ((k : Int) + 1)]) (by rfl) (by rfl) _ _ fZ2 (by kernel_rfl) rfl (by kernel_rfl) ?_
            intro w3_ fZ3 hg3 hz3
            have neK3 := fK2.lt
            have fK3 := fK2.grown hg3 (by first | (simp; done) | (simp; omega))
            have neV3 := fV2.lt
            have fV3 := fV2.grown hg3 (by first | (simp; done) | (simp; omega))
            have neW3 := fW2.lt
            have fW3 := fW2.grown hg3 (by first | (simp; done) | (simp; omega))
            have fm3 := fm2.off8 hg3 fZ2 (by first | exact no8_sig | exact no8_key)
            have fo3 := Cells.grownN hCo (HNo.out _) hg3 (by omega)
            have fc3 := Cells.grownN hCc (HNc.out _) hg3 (by omega)
            have fp3 := Cells.grownN hCp (HNp.out) hg3 (by omega)
            have Hb3 : Below w.heap.size w w3_ := below_grown Hb2 hg3 Hb2.size (by first | (simp; done) | (simp; omega))
            have Zb3 : w.heap.size ≤ w3_.heap.size := Nat.le_trans Zb2 hg3.size
            refine hK.out _ _ ⟨Hb3, fK3⟩ fun _ => ?_
            clear hK K
            try simp only [la0, la1, la2, Act.put, la3, la4, la5]
            refine wpAnyH_take (i := 9) (v := ?_) rfl (by kernel_rfl) (by kernel_rfl) (by kernel_rfl) (fun _ _ _ h => h) (Or.inl ⟨by rfl, ?_⟩) ⟨Hb3, fK3⟩ ?_
            rotate_left
            · intro wS hSw
              go_simp
              try with_reducible rfl
            try simp only [la0, la1, la2, Act.put, la3, la4, la5]
            refine wpAnyH_ready (rs := [10]) (by kernel_rfl) (by simp) (AllReadyH.cons rfl (fun K hK => ?_) AllReadyH.nil)
            refine step_put_four (by rfl) _ _ _ (by rfl) (X14) 34 (.int .i64 (k : Int)) (.slice Ao 64 co) (.slice Ac 64 cq) (.slice Ap qp cp) (by rfl) (by rfl) _ _ fW3 (by rw [zW.out]; omega) (by kernel_rfl) (by kernel_rfl) ?_
            intro w4_ fW4 hg4 hz4
            have neZ4 := fZ3.lt
            have fZ4 := fZ3.grown hg4 (by first | (simp; done) | (simp; omega))
            have neK4 := fK3.lt
            have fK4 := fK3.grown hg4 (by first | (simp; done) | (simp; omega))
            have neV4 := fV3.lt
            have fV4 := fV3.grown hg4 (by first | (simp; done) | (simp; omega))
            have fm4 := Cells.off4 fm3 hg4 fW3 fW4 (Hno4.out _ _ _ _)
            have fo4 := Cells.off4 fo3 hg4 fW3 fW4 (Hno4.out _ _ _ _)
            have fc4 := Cells.off4 fc3 hg4 fW3 fW4 (Hno4.out _ _ _ _)
            have fp4 := Cells.off4 fp3 hg4 fW3 fW4 (Hno4.out _ _ _ _)
            have Hb4 : Below w.heap.size w w4_ := below_grown Hb3 hg4 Hb3.size (by first | (simp; done) | (simp; omega))
            have Zb4 : w.heap.size ≤ w4_.heap.size := Nat.le_trans Zb3 hg4.size
            refine hK.out _ _ ⟨Hb4, fK4⟩ fun _ => ?_
            clear hK K
            try simp only [la0, la1, la2, Act.put, la3, la4, la5]
            refine wpAnyH_take (i := 11) (v := ?_) rfl (by kernel_rfl) (by kernel_rfl) (by kernel_rfl) (fun _ _ _ h => h) (Or.inl ⟨by rfl, ?_⟩) ⟨Hb4, fK4⟩ ?_
            rotate_left
            · intro wS hSw
              go_simp
              try with_reducible rfl
            try simp only [la0, la1, la2, Act.put, la3, la4, la5]
            refine wpAnyH_done (by kernel_rfl) ?_ _
            obtain ⟨V9, hV9⟩ : ∃ x, Mir.verA ((k : Int) + 1) S (.slice C mc cc) (.int .i64 (k : Int)) (.slice Ao 64 co) (.slice Ac 64 cq) (.slice Ap qp cp) = x := ⟨_, rfl⟩
            have hn9 : ((((W0.setIfInBounds 34 (.int .i64 (k : Int))).setIfInBounds (34 + 1) (.slice Ao 64 co)).setIfInBounds (34 + 2) (.slice Ac 64 cq)).setIfInBounds (34 + 3) (.slice Ap qp cp)) = V9 := by rw [← HW0.out, ← hV9]; exact Mir.verA_sig HSd.out.1 ..
            have HWE := Lib.hid (show Blk w4_ X14 38 V9 from hn9 ▸ fW4)
            have HVE := Lib.hid fV4
            have HZE := Lib.hid fZ4
            have HBE := Lib.hid Hb4
            have HoE := Lib.hid fo4
            have HcE := Lib.hid fc4
            have HpE := Lib.hid fp4
            have zV9 := Lib.hid (show V9.size = 38 by rw [← hV9]; exact Mir.verA_size HSd.out.1 ..)
            have iV9 := Lib.hid (show (Try.prog.info? 38).map (·.size) = some V9.size by rw [zV9.out]; kernel_rfl)
            have aV9 := Lib.hid (show V9.all (·.oneCell') = true by rw [← hV9]; exact Mir.verA_all rfl rfl rfl rfl rfl)
            have HV9 := Lib.hid hV9
            clear hn9 hV9
            obtain ⟨wE, hwE⟩ : ∃ x, w4_ = x := ⟨_, rfl⟩
            rw [hwE] at HWE HVE HZE HBE HoE HcE HpE ⊢
            clear hwE
            go_upto_region 15 with (fail)
            refine wp_region_held_drew (S := fun W => Below w.heap.size w W ∧ Blk W X14 38 V9 ∧ Blk W (w.heap.size + 2) 41 #[.slice A n c, .int .i64 (m0 : Int), .int .i64 ((k : Int) + 1)]) (by kernel_rfl) (⟨below_drewN HBE.out 1, HWE.out, HZE.out⟩) (fun Hd => ?_)
            have Hd : Below w.heap.size w wE.drew := below_drewN HBE.out 1
            have Zd : w.heap.size ≤ wE.drew.heap.size := HBE.out.size
            have gW : Blk wE.drew X14 38 V9 := HWE.out
            have gV : Blk wE.drew (w.heap.size + 1) 38 Z := HVE.out
            have gZ : Blk wE.drew (w.heap.size + 2) 41 #[.slice A n c, .int .i64 (m0 : Int), .int .i64 ((k : Int) + 1)] := HZE.out
            have go_ : Cells wE.drew Ao (bytesV OL.flatten) := HoE.out
            have gc_ : Cells wE.drew Ac (bytesV CL.flatten) := HcE.out
            have gp_ : Cells wE.drew Ap (bytesV (pathR (pubL s m0) k).flatten) := HpE.out
            generalize World.drew wE = wd at *
            refine wpAnyH_take (i := 0) (v := .agg (V9)) rfl (by kernel_rfl) (by kernel_rfl) (by kernel_rfl) (fun _ _ _ h => h) (yields_load_blk (by rfl) _ _ rfl (X14) rfl 38 (V9) _ (fun W hW => hW.2.1) Try.underlying38 rfl iV9.out) ⟨Hd, gW, gZ⟩ ?_
            try simp only [la0, la1, la2, Act.put, la3, la4, la5]
            refine wpAnyH_take (i := 1) (v := .agg (#[.slice A n c, .int .i64 (m0 : Int), .int .i64 ((k : Int) + 1)])) rfl (by kernel_rfl) (by kernel_rfl) (by kernel_rfl) (fun _ _ _ h => h) (yields_load_blk (by rfl) _ _ rfl ((w.heap.size + 2)) rfl 41 (#[.slice A n c, .int .i64 (m0 : Int), .int .i64 ((k : Int) + 1)]) _ (fun W hW => hW.2.2) Try.underlying41 rfl (by kernel_rfl)) ⟨Hd, gW, gZ⟩ ?_
            try simp only [la0, la1, la2, Act.put, la3, la4, la5]
            refine wpAnyH_ready (rs := [2]) (by kernel_rfl) (by simp) (AllReadyH.cons rfl (fun K hK => ?_) AllReadyH.nil)
            refine step_put_blk (by rfl) _ _ _ (by rfl) ((w.heap.size + 1)) (V9) (by rfl) (by rfl) _ _ gV iV9.out (by rw [zZ.out, zV9.out]) aV9.out ?_
            intro w1_ fV1 hg1 hz1
            have neW1 := gW.lt
            have fW1 := gW.grown hg1 (by first | (simp; done) | (simp; omega))
            have neZ1 := gZ.lt
            have fZ1 := gZ.grown hg1 (by first | (simp; done) | (simp; omega))
            have fo1 := Cells.grownN go_ (HNo.out _) hg1 (by omega)
            have fc1 := Cells.grownN gc_ (HNc.out _) hg1 (by omega)
            have fp1 := Cells.grownN gp_ (HNp.out) hg1 (by omega)
            have Hb1 : Below w.heap.size w w1_ := below_grown Hd hg1 Hd.size (by first | (simp; done) | (simp; omega))
            have Zb1 : w.heap.size ≤ w1_.heap.size := Nat.le_trans Zd hg1.size
            refine hK.out _ _ ⟨Hb1, fW1, fZ1⟩ fun _ => ?_
            clear hK K
            try simp only [la0, la1, la2, Act.put, la3, la4, la5]
            refine wpAnyH_ready (rs := [3]) (by kernel_rfl) (by simp) (AllReadyH.cons rfl (fun K hK => ?_) AllReadyH.nil)
            refine step_put_blk (by rfl) _ _ _ (by rfl) ((w.heap.size + 2)) (#[.slice A n c, .int .i64 (m0 : Int), .int .i64 ((k : Int) + 1)]) (by rfl) (by rfl) _ _ fZ1 (by kernel_rfl) rfl (by kernel_rfl) ?_
            intro w2_ fZ2 hg2 hz2
            have neV2 := fV1.lt
            have fV2 := fV1.grown hg2 (by first | (simp; done) | (simp; omega))
            have neW2 := fW1.lt
            have fW2 := fW1.grown hg2 (by first | (simp; done) | (simp; omega))
            have fo2 := Cells.grownN fo1 (HNo.out _) hg2 (by omega)
            have fc2 := Cells.grownN fc1 (HNc.out _) hg2 (by omega)
            have fp2 := Cells.grownN fp1 (HNp.out) hg2 (by omega)
            have Hb2 : Below w.heap.size w w2_ := below_grown Hb1 hg2 Hb1.size (by first | (simp; done) | (simp; omega))
            have Zb2 : w.heap.size ≤ w2_.heap.size := Nat.le_trans Zb1 hg2.size
            refine hK.out _ _ ⟨Hb2, fW2, fZ2⟩ fun _ => ?_
            clear hK K
            try simp only [la0, la1, la2, Act.put, la3, la4, la5]
            refine wpAnyH_take (i := 4) (v := ?_) rfl (by kernel_rfl) (by kernel_rfl) (by kernel_rfl) (fun _ _ _ h => h) (Or.inl ⟨by rfl, ?_⟩) ⟨Hb2, fW2, fZ2⟩ ?_
            rotate_left
            · intro wS hSw
              go_simp
              try with_reducible rfl
            try simp only [la0, la1, la2, Act.put, la3, la4, la5]
            refine wpAnyH_done (by kernel_rfl) ?_ _
            go_wp2_with (fail)
            have hVerN : VerN w.heap.size C cc w2_ (Mir.vsnV s m0 k its cs) V9 := by
              refine ⟨Ao, co, 64, Ac, cq, 64, Ap, cp, qp, ?_, ?_, ?_, Hcc.out.2, ⟨Ao, co, Ac, cq, Ap, cp, rfl, ?_, ?_, ?_, ?_, ?_, ?_, openL_isL _ _ _ _, closL_isL _ _ _ _, pathR_isL _ _, ?_, ho2, ?_, hq2, ?_, hp2⟩, (HNo.out _).mono (by omega), (HNc.out _).mono (by omega), HNp.out.mono (by omega)⟩
              · show V9 = Mir.verA ((k : Int) + 1) (Mir.stS its) (.slice C cs.length cc) _ _ _ _
                rw [← HV9.out, HS.out, Hmc.out]
                rfl
              · show IsD (Mir.stS its)
                rw [HS.out]; exact HSd.out
              · show cs.length ≤ cc
                rw [Hmc.out]; exact Hcc.out.1
              · show Value.slice Ao 64 co = .slice Ao (openL s k _ 64).length co
                rw [openL_length]
              · show Value.slice Ac 64 cq = .slice Ac (closL s k _ 64).length cq
                rw [closL_length]
              · show Value.slice Ap qp cp = .slice Ap (pathR (pubL s m0) k).length cp
                rw [hpl]
              · show Cells _ _ (bytesV (openL s k (bitL (msgS (treeS (pubL s m0)) k (Mir.mesS (k + 1) (Mir.stS its) cs)) 64) 64).flatten)
                rw [HS.out, HOL.out]; exact fo2
              · show Cells _ _ (bytesV (closL s k (bitL (msgS (treeS (pubL s m0)) k (Mir.mesS (k + 1) (Mir.stS its) cs)) 64) 64).flatten)
                rw [HS.out, HCL.out]; exact fc2
              · exact fp2
              · show (openL s k _ 64).length ≤ co
                rw [openL_length]; exact ho1
              · show (closL s k _ 64).length ≤ cq
                rw [closL_length]; exact hq1
              · show (pathR (pubL s m0) k).length ≤ cp
                rw [hpl]; exact hp1
            have hVer : VerC w2_ (Mir.vsnV s m0 k its cs) V9 := hVerN.ver (HC.out.below Hb2)
            exact ret_row3 (u := .int .i64 0) rfl (w.heap.size + 1) (w.heap.size + 2) 38 41 V9 #[.slice A n c, .int .i64 (m0 : Int), .int .i64 ((k : Int) + 1)] _ _ rfl rfl rfl fV2 fZ2 Try.underlying38 Try.underlying41 rfl rfl iV9.out (by kernel_rfl) rfl ⟨V9, #[.slice A n c, .int .i64 (m0 : Int), .int .i64 ((k : Int) + 1)], by rw [HR2.out], .inl ⟨HR2.out, rfl, hVer, hVerN⟩, Hb2⟩
      · have dE : decide (E = 0) = false := by simpa using hE
        have hEn := Lib.hid hE
        have HR2 : Hid (R = E) := Lib.hid (by rw [HR.out]; rw [if_neg (by simp), if_neg (by simp [Hu.out]), if_pos hE])
        clear HR
        clear hu
        go_enter Try.func12, Try.ntmps12
        go_upto_region 1 with (fail)
        generalize hge : World.alloc (World.alloc (World.alloc _ _) _) _ = w1
        have b3 : Blk w1 w.heap.size 41 #[.slice A n c, .int .i64 m, .int .i64 u] ∧ Blk w1 (w.heap.size + 1) 38 Z ∧ Blk w1 (w.heap.size + 2) 41 ZK ∧ Below w.heap.size w w1 ∧ w.heap.size + 3 ≤ w1.heap.size := by
          rw [← HZ.out]
          exact blk_threeC w _ _ _ _ _ _ w1 hge
        have HKk := Lib.hid b3.1
        have HV := Lib.hid b3.2.1
        have HZk := Lib.hid b3.2.2.1
        have HB := Lib.hid b3.2.2.2.1
        have hz1 := b3.2.2.2.2
        clear hge b3
        have k0 : w1.cell? ⟨w.heap.size, 0, none⟩ = some (.slice A n c) := HKk.out.cell 0
        have k1 : w1.cell? ⟨w.heap.size, 1, none⟩ = some (.int .i64 m) := HKk.out.cell 1
        have k2 : w1.cell? ⟨w.heap.size, 2, none⟩ = some (.int .i64 u) := HKk.out.cell 2
        go_wp2_with (fail)
        refine (HP.out w1 (HA.out.below HB.out)).mono ?_
        rintro e w2 ⟨rfl, hb2⟩
        have HK2 := Lib.hid (HKk.out.below hb2)
        have HV2 := Lib.hid (HV.out.below hb2)
        have HZ2 := Lib.hid (HZk.out.below hb2)
        have HB2 := Lib.hid (below_of HB.out hb2 HB.out.size)
        have hz2 := Nat.le_trans hz1 hb2.size
        clear hb2 k0 k1 k2 HKk HV HZk HB hz1
        go_wp2_with (
          (refine wpList_put_blk rfl 28 (.tmp 11) (.tmp 18) rfl w2.heap.size (arrK .u8 P) rfl rfl 28 (arrK .u8 z32) (Blk.new w2 28 (arrK .u8 z32)) (info32 HPd.out.1) (by rw [len32 HPd.out.1, len32 z32_length]) (arrK_all _ _) ?_
           intro w3 h3 hg3 hze3
           have hb3 := (Below.refl w2.heap.size w2).alloc (Nat.le_refl _) (.cells (arrK .u8 z32) 28)
           have hz3 : w.heap.size + 3 ≤ w3.heap.size := Nat.le_trans (Nat.le_trans hz2 hb3.size) hg3.size
           have HK3 := Lib.hid ((HK2.out.below hb3).grown hg3 (fun e => by injection e with e; omega))
           have HV3 := Lib.hid ((HV2.out.below hb3).grown hg3 (fun e => by injection e with e; omega))
           have HZ3 := Lib.hid ((HZ2.out.below hb3).grown hg3 (fun e => by injection e with e; omega))
           have HB3 := Lib.hid (below_grown (below_of HB2.out hb3 HB2.out.size) hg3 (Nat.le_trans HB2.out.size hb3.size) (fun k hk => by cases hk; exact HB2.out.size))
           have c2 : w3.cell? ⟨w.heap.size, 2, none⟩ = some (.int .i64 u) := HK3.out.cell 2
           clear h3 hg3 hze3 hb3))
        go_wp2_with (fail)
        refine (HSt.out w3 (HI.out.below HB3.out)).mono ?_
        rintro e w4 ⟨rfl, hb4⟩
        have HK4 := Lib.hid (HK3.out.below hb4)
        have HV4 := Lib.hid (HV3.out.below hb4)
        have HZ4 := Lib.hid (HZ3.out.below hb4)
        have HB4 := Lib.hid (below_of HB3.out hb4 HB3.out.size)
        have hz4 := Nat.le_trans hz3 hb4.size
        clear hb4 c2 HK3 HV3 HZ3 HB3 hz3
        go_wp2_with (
          (refine wpList_put_blk rfl 28 (.tmp 13) (.tmp 35) rfl w4.heap.size (arrK .u8 S) rfl rfl 28 (arrK .u8 z32) (Blk.new w4 28 (arrK .u8 z32)) (info32 HSd.out.1) (by rw [len32 HSd.out.1, len32 z32_length]) (arrK_all _ _) ?_
           intro w5 h5 hg5 hze5
           have hb5 := (Below.refl w4.heap.size w4).alloc (Nat.le_refl _) (.cells (arrK .u8 z32) 28)
           have hz5 : w.heap.size + 3 ≤ w5.heap.size := Nat.le_trans (Nat.le_trans hz4 hb5.size) hg5.size
           have HK5 := Lib.hid ((HK4.out.below hb5).grown hg5 (fun e => by injection e with e; omega))
           have HV5 := Lib.hid ((HV4.out.below hb5).grown hg5 (fun e => by injection e with e; omega))
           have HZ5 := Lib.hid ((HZ4.out.below hb5).grown hg5 (fun e => by injection e with e; omega))
           have HB5 := Lib.hid (below_grown (below_of HB4.out hb5 HB4.out.size) hg5 (Nat.le_trans HB4.out.size hb5.size) (fun k hk => by cases hk; exact HB4.out.size))
           have HS5 := Lib.hid h5
           have hzS : w.heap.size + 3 ≤ w4.heap.size := hz4
           clear h5 hg5 hze5 hb5))
        go_upto_region 8 with (fail)
        refine wp_region_held_drew (S := fun W => Below w.heap.size w W ∧ Blk W (w.heap.size + 1) 38 Z ∧ Blk W (w.heap.size + 2) 41 ZK) (by kernel_rfl) (⟨below_drewN HB5.out 1, HV5.out, HZ5.out⟩) (fun Hd => ?_)
        have Hd : Below w.heap.size w w5.drew := below_drewN HB5.out 1
        have Zd : w.heap.size ≤ w5.drew.heap.size := HB5.out.size
        have fV : Blk w5.drew (w.heap.size + 1) 38 Z := HV5.out
        have fK : Blk w5.drew (w.heap.size + 2) 41 ZK := HZ5.out
        generalize World.drew w5 = wd at *
        refine wpAnyH_take (i := 0) (v := .agg (Z)) rfl (by kernel_rfl) (by kernel_rfl) (by kernel_rfl) (fun _ _ _ h => h) (yields_load_blk (by rfl) _ _ rfl ((w.heap.size + 1)) rfl 38 (Z) _ (fun W hW => hW.2.1) Try.underlying38 rfl iZ.out) ⟨Hd, fV, fK⟩ ?_
        try simp only [la0, la1, la2, Act.put, la3, la4, la5]
        refine wpAnyH_take (i := 1) (v := .agg (ZK)) rfl (by kernel_rfl) (by kernel_rfl) (by kernel_rfl) (fun _ _ _ h => h) (yields_load_blk (by rfl) _ _ rfl ((w.heap.size + 2)) rfl 41 (ZK) _ (fun W hW => hW.2.2) Try.underlying41 rfl (by kernel_rfl)) ⟨Hd, fV, fK⟩ ?_
        try simp only [la0, la1, la2, Act.put, la3, la4, la5]
        refine wpAnyH_take (i := 2) (v := ?_) rfl (by kernel_rfl) (by kernel_rfl) (by kernel_rfl) (fun _ _ _ h => h) (Or.inl ⟨by rfl, ?_⟩) ⟨Hd, fV, fK⟩ ?_
        rotate_left
        · intro wS hSw
          go_simp
          try with_reducible rfl
        try simp only [la0, la1, la2, Act.put, la3, la4, la5]
        refine wpAnyH_ready (rs := [3]) (by kernel_rfl) (by simp) (AllReadyH.cons rfl (fun K hK => ?_) AllReadyH.nil)
        refine step_put_blk (by rfl) _ _ _ (by rfl) ((w.heap.size + 1)) (Z) (by rfl) (by rfl) _ _ fV iZ.out rfl aZ.out ?_
        intro w1_ fV1 hg1 hz1
        have neK1 := fK.lt
        have fK1 := fK.grown hg1 (by first | (simp; done) | (simp; omega))
        have Hb1 : Below w.heap.size w w1_ := below_grown Hd hg1 Hd.size (by first | (simp; done) | (simp; omega))
        have Zb1 : w.heap.size ≤ w1_.heap.size := Nat.le_trans Zd hg1.size
        refine hK.out _ _ ⟨Hb1, fV1, fK1⟩ fun _ => ?_
        clear hK K
        try simp only [la0, la1, la2, Act.put, la3, la4, la5]
        refine wpAnyH_ready (rs := [4]) (by kernel_rfl) (by simp) (AllReadyH.cons rfl (fun K hK => ?_) AllReadyH.nil)
        refine step_put_blk (by rfl) _ _ _ (by rfl) ((w.heap.size + 2)) (ZK) (by rfl) (by rfl) _ _ fK1 (by kernel_rfl) rfl (by kernel_rfl) ?_
        intro w2_ fK2 hg2 hz2
        have neV2 := fV1.lt
        have fV2 := fV1.grown hg2 (by first | (simp; done) | (simp; omega))
        have Hb2 : Below w.heap.size w w2_ := below_grown Hb1 hg2 Hb1.size (by first | (simp; done) | (simp; omega))
        have Zb2 : w.heap.size ≤ w2_.heap.size := Nat.le_trans Zb1 hg2.size
        refine hK.out _ _ ⟨Hb2, fV2, fK2⟩ fun _ => ?_
        clear hK K
        try simp only [la0, la1, la2, Act.put, la3, la4, la5]
        refine wpAnyH_take (i := 5) (v := ?_) rfl (by kernel_rfl) (by kernel_rfl) (by kernel_rfl) (fun _ _ _ h => h) (Or.inl ⟨by rfl, ?_⟩) ⟨Hb2, fV2, fK2⟩ ?_
        rotate_left
        · intro wS hSw
          go_simp
          try with_reducible rfl
        try simp only [la0, la1, la2, Act.put, la3, la4, la5]
        refine wpAnyH_done (by kernel_rfl) ?_ _
        go_wp2_with (fail)
        exact ret_row3 (u := .int .i64 (E)) rfl (w.heap.size + 1) (w.heap.size + 2) 38 41 Z ZK _ _ rfl rfl rfl fV2 fK2 Try.underlying38 Try.underlying41 rfl rfl iZ.out (by kernel_rfl) rfl ⟨Z, ZK, by rw [HR2.out], .inr ⟨by rw [HR2.out]; exact hEn.out, rfl, HZ.out.symm⟩, Hb2⟩
    · have du : (u == (k : Int)) = false := by simpa using hu
      have HR2 : Hid (R = 450) := Lib.hid (by rw [HR.out]; rw [if_neg (by simp), if_pos hu])
      clear HR
      go_enter Try.func12, Try.ntmps12
      go_upto_region 1 with (fail)
      generalize hge : World.alloc (World.alloc (World.alloc _ _) _) _ = w1
      have b3 : Blk w1 w.heap.size 41 #[.slice A n c, .int .i64 m, .int .i64 u] ∧ Blk w1 (w.heap.size + 1) 38 Z ∧ Blk w1 (w.heap.size + 2) 41 ZK ∧ Below w.heap.size w w1 ∧ w.heap.size + 3 ≤ w1.heap.size := by
        rw [← HZ.out]
        exact blk_threeC w _ _ _ _ _ _ w1 hge
      have HKk := Lib.hid b3.1
      have HV := Lib.hid b3.2.1
      have HZk := Lib.hid b3.2.2.1
      have HB := Lib.hid b3.2.2.2.1
      have hz1 := b3.2.2.2.2
      clear hge b3
      have k0 : w1.cell? ⟨w.heap.size, 0, none⟩ = some (.slice A n c) := HKk.out.cell 0
      have k1 : w1.cell? ⟨w.heap.size, 1, none⟩ = some (.int .i64 m) := HKk.out.cell 1
      have k2 : w1.cell? ⟨w.heap.size, 2, none⟩ = some (.int .i64 u) := HKk.out.cell 2
      go_wp2_with (fail)
      refine (HP.out w1 (HA.out.below HB.out)).mono ?_
      rintro e w2 ⟨rfl, hb2⟩
      have HK2 := Lib.hid (HKk.out.below hb2)
      have HV2 := Lib.hid (HV.out.below hb2)
      have HZ2 := Lib.hid (HZk.out.below hb2)
      have HB2 := Lib.hid (below_of HB.out hb2 HB.out.size)
      have hz2 := Nat.le_trans hz1 hb2.size
      clear hb2 k0 k1 k2 HKk HV HZk HB hz1
      go_wp2_with (
        (refine wpList_put_blk rfl 28 (.tmp 11) (.tmp 18) rfl w2.heap.size (arrK .u8 P) rfl rfl 28 (arrK .u8 z32) (Blk.new w2 28 (arrK .u8 z32)) (info32 HPd.out.1) (by rw [len32 HPd.out.1, len32 z32_length]) (arrK_all _ _) ?_
         intro w3 h3 hg3 hze3
         have hb3 := (Below.refl w2.heap.size w2).alloc (Nat.le_refl _) (.cells (arrK .u8 z32) 28)
         have hz3 : w.heap.size + 3 ≤ w3.heap.size := Nat.le_trans (Nat.le_trans hz2 hb3.size) hg3.size
         have HK3 := Lib.hid ((HK2.out.below hb3).grown hg3 (fun e => by injection e with e; omega))
         have HV3 := Lib.hid ((HV2.out.below hb3).grown hg3 (fun e => by injection e with e; omega))
         have HZ3 := Lib.hid ((HZ2.out.below hb3).grown hg3 (fun e => by injection e with e; omega))
         have HB3 := Lib.hid (below_grown (below_of HB2.out hb3 HB2.out.size) hg3 (Nat.le_trans HB2.out.size hb3.size) (fun k hk => by cases hk; exact HB2.out.size))
         have c2 : w3.cell? ⟨w.heap.size, 2, none⟩ = some (.int .i64 u) := HK3.out.cell 2
         clear h3 hg3 hze3 hb3))
      go_upto_region 5 with (fail)
      refine wp_region_held_drew (S := fun W => Below w.heap.size w W ∧ Blk W (w.heap.size + 1) 38 Z ∧ Blk W (w.heap.size + 2) 41 ZK) (by kernel_rfl) (⟨below_drewN HB3.out 1, HV3.out, HZ3.out⟩) (fun Hd => ?_)
      have Hd : Below w.heap.size w w3.drew := below_drewN HB3.out 1
      have Zd : w.heap.size ≤ w3.drew.heap.size := HB3.out.size
      have fV : Blk w3.drew (w.heap.size + 1) 38 Z := HV3.out
      have fK : Blk w3.drew (w.heap.size + 2) 41 ZK := HZ3.out
      generalize World.drew w3 = wd at *
      refine wpAnyH_take (i := 0) (v := .agg (Z)) rfl (by kernel_rfl) (by kernel_rfl) (by kernel_rfl) (fun _ _ _ h => h) (yields_load_blk (by rfl) _ _ rfl ((w.heap.size + 1)) rfl 38 (Z) _ (fun W hW => hW.2.1) Try.underlying38 rfl iZ.out) ⟨Hd, fV, fK⟩ ?_
      try simp only [la0, la1, la2, Act.put, la3, la4, la5]
      refine wpAnyH_take (i := 1) (v := .agg (ZK)) rfl (by kernel_rfl) (by kernel_rfl) (by kernel_rfl) (fun _ _ _ h => h) (yields_load_blk (by rfl) _ _ rfl ((w.heap.size + 2)) rfl 41 (ZK) _ (fun W hW => hW.2.2) Try.underlying41 rfl (by kernel_rfl)) ⟨Hd, fV, fK⟩ ?_
      try simp only [la0, la1, la2, Act.put, la3, la4, la5]
      refine wpAnyH_ready (rs := [2]) (by kernel_rfl) (by simp) (AllReadyH.cons rfl (fun K hK => ?_) AllReadyH.nil)
      refine step_put_blk (by rfl) _ _ _ (by rfl) ((w.heap.size + 1)) (Z) (by rfl) (by rfl) _ _ fV iZ.out rfl aZ.out ?_
      intro w1_ fV1 hg1 hz1
      have neK1 := fK.lt
      have fK1 := fK.grown hg1 (by first | (simp; done) | (simp; omega))
      have Hb1 : Below w.heap.size w w1_ := below_grown Hd hg1 Hd.size (by first | (simp; done) | (simp; omega))
      have Zb1 : w.heap.size ≤ w1_.heap.size := Nat.le_trans Zd hg1.size
      refine hK.out _ _ ⟨Hb1, fV1, fK1⟩ fun _ => ?_
      clear hK K
      try simp only [la0, la1, la2, Act.put, la3, la4, la5]
      refine wpAnyH_ready (rs := [3]) (by kernel_rfl) (by simp) (AllReadyH.cons rfl (fun K hK => ?_) AllReadyH.nil)
      refine step_put_blk (by rfl) _ _ _ (by rfl) ((w.heap.size + 2)) (ZK) (by rfl) (by rfl) _ _ fK1 (by kernel_rfl) rfl (by kernel_rfl) ?_
      intro w2_ fK2 hg2 hz2
      have neV2 := fV1.lt
      have fV2 := fV1.grown hg2 (by first | (simp; done) | (simp; omega))
      have Hb2 : Below w.heap.size w w2_ := below_grown Hb1 hg2 Hb1.size (by first | (simp; done) | (simp; omega))
      have Zb2 : w.heap.size ≤ w2_.heap.size := Nat.le_trans Zb1 hg2.size
      refine hK.out _ _ ⟨Hb2, fV2, fK2⟩ fun _ => ?_
      clear hK K
      try simp only [la0, la1, la2, Act.put, la3, la4, la5]
      refine wpAnyH_take (i := 4) (v := ?_) rfl (by kernel_rfl) (by kernel_rfl) (by kernel_rfl) (fun _ _ _ h => h) (Or.inl ⟨by rfl, ?_⟩) ⟨Hb2, fV2, fK2⟩ ?_
      rotate_left
      · intro wS hSw
        go_simp
        try with_reducible rfl
      try simp only [la0, la1, la2, Act.put, la3, la4, la5]
      refine wpAnyH_done (by kernel_rfl) ?_ _
      go_wp2_with (fail)
      exact ret_row3 (u := .int .i64 (450)) rfl (w.heap.size + 1) (w.heap.size + 2) 38 41 Z ZK _ _ rfl rfl rfl fV2 fK2 Try.underlying38 Try.underlying41 rfl rfl iZ.out (by kernel_rfl) rfl ⟨Z, ZK, by rw [HR2.out], .inr ⟨by rw [HR2.out]; omega, rfl, HZ.out.symm⟩, Hb2⟩
end Go.Proofs.Ytkflpoiobpblhaa
