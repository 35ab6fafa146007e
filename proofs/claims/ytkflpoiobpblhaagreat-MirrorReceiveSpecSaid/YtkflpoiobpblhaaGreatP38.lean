/- Walks and plain laws that the statement rests on: MVsn, MCc. -/
import Derived.Deep.RegionHeld3
import Derived.Test.YtkflpoiobpblhaaGreatP00
import Derived.Test.YtkflpoiobpblhaaGreatP22
import Derived.Test.YtkflpoiobpblhaaGreatP24
import Derived.Test.YtkflpoiobpblhaaGreatP29
import Derived.Test.YtkflpoiobpblhaaGreatP37
import Derived.Test.YtkflpoiobpblhaaGreatPS
namespace Go.Proofs.YtkflpoiobpblhaaGreat
open Go.RowKit
set_option linter.unusedVariables false
set_option linter.unusedSimpArgs false
theorem setCells_four (w : World) (b o : Nat) (v0 v1 v2 v3 : Value) : w.setCells b o [v0, v1, v2, v3] = (((w.setCell ⟨b, o, none⟩ v0).setCell ⟨b, o + 1, none⟩ v1).setCell ⟨b, o + 2, none⟩ v2).setCell ⟨b, o + 3, none⟩ v3 := rfl
theorem step_put_four {P : Program} {w : World} {ops : Array Oper} {o : Oper} {a : Act} {Q : Exit → Act → World → Prop} {K : Act → World → Prop} {E : Prop} (hgd : o.guard = none) (ty : TypeId) (x y : Operand) (ho : o.op = .store ty x y) (b off : Nat) (v0 v1 v2 v3 : Value) (hx : a.eval x = .pointer (some ⟨b, off, none⟩)) (hy : a.eval y = .agg #[v0, v1, v2, v3])
    (t : TypeId) (cs : Array Value) (hg : Blk w b t cs) (hs : off + 4 ≤ cs.size) (hi : (P.info? ty).map (·.size) = some 4) (h1 : (#[v0, v1, v2, v3] : Array Value).all (·.oneCell') = true)
    (h : ∀ w', Blk w' b t ((((cs.setIfInBounds off v0).setIfInBounds (off + 1) v1).setIfInBounds (off + 2) v2).setIfInBounds (off + 3) v3) → w.grownBy w' (some b) → w'.heap.size = w.heap.size → K (a.put o.dst undef) w') : if Region.wanted o (yielded ops a.tmps) = true then Oper.wp P o a w K Q else E := by
 have hw : Region.wanted o (yielded ops a.tmps) = true := by simp [Region.wanted, hgd]
 rw [if_pos hw]
 refine wp_store_mid ty x y ho b off #[v0, v1, v2, v3] hx hy (fun j hj => ⟨by rw [hg.cell]; have hj : j < 4 := hj; rw [Array.getElem?_eq_getElem (by omega)]; rfl, hg.frozen _⟩) hi h1 ?_
 rw [setCells_four]
 refine h _ ((((hg.set_ off v0).set_ (off + 1) v1).set_ (off + 2) v2).set_ (off + 3) v3) ?_ ?_
 · exact grown_trans (grown_trans (grown_trans (grown_setOne v0) (grown_setOne v1)) (grown_setOne v2)) (grown_setOne v3)
 · rw [size_setCell, size_setCell, size_setCell, size_setCell]
theorem Cells.grownN {w w' : World} {A : Option Addr} {l : List Nat} {B g : Nat} (h : Cells w A (bytesV l)) (hN : NewA B A l) (hg : w.grownBy w' (some g)) (hgB : g < B) : Cells w' A (bytesV l) := by
 rcases hN with rfl | hN
 · exact .inl (by unfold bytesV; rfl)
 · exact h.grown hg (fun b off hA e => by injection e with e; have := hN b off hA; omega)
theorem Cells.off4 {w w' : World} {A : Option Addr} {l : List Nat} {g : Nat} {t : TypeId} {cs cs' : Array Value} (h : Cells w A (bytesV l)) (hg : w.grownBy w' (some g)) (hB : Blk w g t cs) (hB' : Blk w' g t cs') (hno : ∀ (i : Nat) (y : Int), cs[i]? = some (.int .u8 y) → cs'[i]? = cs[i]?) : Cells w' A (bytesV l) := by
 by_cases h0 : l = []
 · subst h0; exact .inl (by unfold bytesV; rfl)
 · obtain ⟨b, off, rfl, hlt, hc⟩ := h.addr (by rw [bytesV_length]; exact List.length_pos_iff.2 h0)
   by_cases hbg : b = g
   · subst hbg
     refine .inr ⟨b, off, rfl, hB'.lt, fun j u hu => ?_⟩
     have h1 := hc j u hu
     rw [hB.cell] at h1
     rw [hB'.cell]
     have hj : j < l.length := by have := (List.getElem?_eq_some_iff.1 hu).1; rwa [bytesV_length] at this
     rw [bytesV_get hj] at hu
     injection hu with hu
     subst hu
     rw [hno _ _ h1, h1]
   · exact h.grown hg (fun b' off' hA e => by injection hA with hA; injection hA with h1 _; injection e with e; omega)
theorem ver_no4 {st : List Nat} (h : st.length = 32) (no : Int) (A : Option Addr) (n c : Nat) (v0 v1 v2 v3 : Value) (i : Nat) (y : Int) (hi : (Mir.verA no st (.slice A n c) (.int .i64 0) (.slice none 0 0) (.slice none 0 0) (.slice none 0 0))[i]? = some (.int .u8 y)) :
    (((((Mir.verA no st (.slice A n c) (.int .i64 0) (.slice none 0 0) (.slice none 0 0) (.slice none 0 0)).setIfInBounds 34 v0).setIfInBounds (34 + 1) v1).setIfInBounds (34 + 2) v2).setIfInBounds (34 + 3) v3)[i]? = (Mir.verA no st (.slice A n c) (.int .i64 0) (.slice none 0 0) (.slice none 0 0) (.slice none 0 0))[i]? := by
 have hh := Mir.verA_hi h no (.slice A n c) (.int .i64 0) (.slice none 0 0) (.slice none 0 0) (.slice none 0 0)
 have n0 : i ≠ 34 := fun e => by subst e; have := hh 1; rw [hi] at this; simp at this
 have n1 : i ≠ 35 := fun e => by subst e; have := hh 2; rw [hi] at this; simp at this
 have n2 : i ≠ 36 := fun e => by subst e; have := hh 3; rw [hi] at this; simp at this
 have n3 : i ≠ 37 := fun e => by subst e; have := hh 4; rw [hi] at this; simp at this
 rw [Array.getElem?_setIfInBounds_ne (by omega), Array.getElem?_setIfInBounds_ne (by omega), Array.getElem?_setIfInBounds_ne (by omega), Array.getElem?_setIfInBounds_ne (by omega)]
namespace Mir
def vsnE (n : Nat) (m u : Int) (k : Nat) (its : List It) (cs : List Ch) : Int :=
 if okKey n m u = false then 40 else if u ≠ k then 450 else if itE its ≠ 0 then itE its else if chOk cs = false then 430 else if u = m then 40 else 0
def vsnV (s : List Nat) (m u : Nat) (its : List It) (cs : List Ch) : Ve :=
 ⟨(u : Int) + 1, stS its, cs, ⟨u, openL s u (bitL (msgS (treeS (pubL s m)) u (mesS (u + 1) (stS its) cs)) 64) 64, closL s u (bitL (msgS (treeS (pubL s m)) u (mesS (u + 1) (stS its) cs)) 64) 64, pathR (pubL s m) u⟩⟩
theorem verA_sig {st : List Nat} (h : st.length = 32) (no : Int) (C a b c d v0 v1 v2 v3 : Value) : ((((verA no st C a b c d).setIfInBounds 34 v0).setIfInBounds (34 + 1) v1).setIfInBounds (34 + 2) v2).setIfInBounds (34 + 3) v3 = verA no st C v0 v1 v2 v3 := by
 obtain ⟨a0, a1, a2, a3, a4, a5, a6, a7, a8, a9, a10, a11, a12, a13, a14, a15, a16, a17, a18, a19, a20, a21, a22, a23, a24, a25, a26, a27, a28, a29, a30, a31, rfl⟩ := list32 h
 kernel_rfl
end Mir
theorem built_ver (no : Int) (d : List Nat) (h : d.length = 32) (A : Option Addr) (n c : Nat) : Tryz.prog.built 34 [(0, .int .i64 no), (1, .agg (arrK .u8 d)), (2, .slice A n c)] = some (Mir.verA no d (.slice A n c) (.int .i64 0) (.slice none 0 0) (.slice none 0 0) (.slice none 0 0)) := by
 obtain ⟨a0, a1, a2, a3, a4, a5, a6, a7, a8, a9, a10, a11, a12, a13, a14, a15, a16, a17, a18, a19, a20, a21, a22, a23, a24, a25, a26, a27, a28, a29, a30, a31, rfl⟩ := list32 h
 kernel_rfl
theorem below_put {w w' : World} {o : Obj} (h : (w.alloc o).grownBy w' (some w.heap.size)) : Below w.heap.size w w' := below_grown ((Below.refl _ _).alloc (Nat.le_refl _) _) h (by simp) (fun k hk => by cases hk; exact Nat.le_refl _)
def SgN (B : Nat) (w : World) (g : Mir.Sg) (Sx : Array Value) : Prop :=
 ∃ (Ao : Option Addr) (co : Nat) (Ac : Option Addr) (cc : Nat) (Ap : Option Addr) (cp : Nat), Sx = #[.int .i64 g.i, .slice Ao g.o.length co, .slice Ac g.c.length cc, .slice Ap g.p.length cp] ∧
  (Cells w Ao (bytesV g.o.flatten) ∧ Cells w Ac (bytesV g.c.flatten) ∧ Cells w Ap (bytesV g.p.flatten)) ∧ (NewA B Ao g.o.flatten ∧ NewA B Ac g.c.flatten ∧ NewA B Ap g.p.flatten) ∧
  IsL g.o ∧ IsL g.c ∧ IsL g.p ∧ g.o.length ≤ co ∧ co ≤ maxLen ∧ g.c.length ≤ cc ∧ cc ≤ maxLen ∧ g.p.length ≤ cp ∧ cp ≤ maxLen
section
variable {B : Nat} {w w' : World} {g : Mir.Sg} {Sx : Array Value}
theorem SgN.map (h : SgN B w g Sx) (f : ∀ (A : Option Addr) (l : List Nat), Cells w A (bytesV l) → NewA B A l → Cells w' A (bytesV l)) : SgN B w' g Sx := by
 obtain ⟨Ao, co, Ac, cc, Ap, cp, e, ⟨a, b, c⟩, ⟨x, y, z⟩, r⟩ := h
 exact ⟨Ao, co, Ac, cc, Ap, cp, e, ⟨f _ _ a x, f _ _ b y, f _ _ c z⟩, ⟨x, y, z⟩, r⟩
theorem SgN.below (h : SgN B w g Sx) (hb : Below w.heap.size w w') : SgN B w' g Sx := h.map fun _ _ c _ => c.below hb
theorem SgN.off {x : Nat} {t : TypeId} {cs : Array Value} (h : SgN B w g Sx) (hg : w.grownBy w' (some x)) (hB : Blk w x t cs) (hno : NoU8 cs) : SgN B w' g Sx := h.map fun _ _ c _ => c.off8 hg hB hno
theorem SgN.old {x : Nat} (h : SgN B w g Sx) (hg : w.grownBy w' (some x)) (hx : x < B) : SgN B w' g Sx := h.map fun _ _ c n => c.grownN n hg hx
theorem SgN.mono {B' : Nat} (h : SgN B w g Sx) (hb : B' ≤ B) : SgN B' w g Sx := by
 obtain ⟨Ao, co, Ac, cc, Ap, cp, e, a, ⟨x, y, z⟩, r⟩ := h
 exact ⟨Ao, co, Ac, cc, Ap, cp, e, a, ⟨x.mono hb, y.mono hb, z.mono hb⟩, r⟩
theorem SgN.zero (B : Nat) (w : World) : SgN B w ⟨0, [], [], []⟩ #[.int .i64 0, .slice none 0 0, .slice none 0 0, .slice none 0 0] :=
 ⟨none, 0, none, 0, none, 0, rfl, ⟨.inl (by unfold bytesV; rfl), .inl (by unfold bytesV; rfl), .inl (by unfold bytesV; rfl)⟩, ⟨.inl rfl, .inl rfl, .inl rfl⟩, by intro d hd; simp at hd, by intro d hd; simp at hd, by intro d hd; simp at hd, by simp, by unfold maxLen; omega, by simp, by unfold maxLen; omega, by simp, by unfold maxLen; omega⟩
end
theorem SgN.form {B : Nat} {w : World} {g : Mir.Sg} {Sx : Array Value} (h : SgN B w g Sx) : ∃ (a : Int) (A1 : Option Addr × Nat × Nat) (A2 : Option Addr × Nat × Nat) (A3 : Option Addr × Nat × Nat), Sx = #[.int .i64 a, .slice A1.1 A1.2.1 A1.2.2, .slice A2.1 A2.2.1 A2.2.2, .slice A3.1 A3.2.1 A3.2.2] := by
 obtain ⟨Ao, co, Ac, cc, Ap, cp, e, -⟩ := h
 exact ⟨_, (Ao, _, co), (Ac, _, cc), (Ap, _, cp), e⟩
theorem SgN.sig {B : Nat} {w : World} {g : Mir.Sg} {s0 s1 s2 s3 : Value} (h : SgN B w g #[s0, s1, s2, s3]) : SigC w g s0 s1 s2 s3 := by
 obtain ⟨Ao, co, Ac, cc, Ap, cp, e, ⟨a, b, c⟩, -, i1, i2, i3, r⟩ := h
 injection e with e
 injection e with e0 e
 injection e with e1 e
 injection e with e2 e
 injection e with e3 e
 exact ⟨Ao, co, Ac, cc, Ap, cp, e0, e1, e2, e3, a, b, c, i1, i2, i3, r⟩
theorem SgN.of {B : Nat} {w' : World} {s : List Nat} {m k : Nat} {x : List Bool} {Ao Ac Ap : Option Addr} {co cc q cp : Nat} (h1 : (pathR (pubL s m) k).length = q) (h2 : q ≤ cp) (h3 : cp ≤ maxLen) (h4 : 64 ≤ co) (h5 : co ≤ maxLen) (h6 : 64 ≤ cc) (h7 : cc ≤ maxLen)
    (c1 : Cells w' Ao (bytesV (openL s k x 64).flatten)) (c2 : Cells w' Ac (bytesV (closL s k x 64).flatten)) (c3 : Cells w' Ap (bytesV (pathR (pubL s m) k).flatten)) (n1 : ∀ l, NewA B Ao l) (n2 : ∀ l, NewA B Ac l) (n3 : NewA B Ap (pathR (pubL s m) k).flatten) :
    SgN B w' ⟨k, openL s k x 64, closL s k x 64, pathR (pubL s m) k⟩ #[.int .i64 k, .slice Ao 64 co, .slice Ac 64 cc, .slice Ap q cp] := by
 refine ⟨Ao, co, Ac, cc, Ap, cp, ?_, ⟨c1, c2, c3⟩, ⟨n1 _, n2 _, n3⟩, openL_isL _ _ _ _, closL_isL _ _ _ _, pathR_isL _ _, ?_, h5, ?_, h7, ?_, h3⟩
 · show #[Value.int .i64 (k : Int), .slice Ao 64 co, .slice Ac 64 cc, .slice Ap q cp] = #[.int .i64 (k : Int), .slice Ao (openL s k _ 64).length co, .slice Ac (closL s k _ 64).length cc, .slice Ap (pathR (pubL s m) k).length cp]
   rw [openL_length, closL_length, h1]
 · show (openL s k _ 64).length ≤ co
   rw [openL_length]; exact h4
 · show (closL s k _ 64).length ≤ cc
   rw [closL_length]; exact h6
 · show (pathR (pubL s m) k).length ≤ cp
   rw [h1]; exact h2
theorem sign_any (A : Option Addr) (n c m k : Nat) (s : List Nat) (Bm : Option Addr) (d : Nat) (msg : List Nat) (w : World) (hA : Cells w A (bytesV s)) (hs : s.length = n) (h8 : ByteL s) (hok : okKey n m k = true) (hM : Cells w Bm (bytesV msg)) (hm : msg.length = 72) (hm8 : ByteL msg) :
    Calls Tryz.prog 30 #[.agg #[.slice A n c, .int .i64 m, .int .i64 k], .slice Bm 72 d] w fun e w' => ∃ Sx, e = .returned (.tuple #[.agg (if k = m then ZK else #[.slice A n c, .int .i64 m, .int .i64 ((k : Int) + 1)]), .agg Sx, .int .i64 (if k = m then 40 else 0)]) ∧
     SgN w.heap.size w' (if k = m then ⟨0, [], [], []⟩ else ⟨k, openL s k (bitL (msgS (treeS (pubL s m)) k msg) 64) 64, closL s k (bitL (msgS (treeS (pubL s m)) k msg) 64) 64, pathR (pubL s m) k⟩) Sx ∧ Below w.heap.size w w' := by
 have ho := okKey_true hok
 by_cases hk : k = m
 · rw [if_pos hk, if_pos hk, if_pos hk]
   refine (Sign_bad A n c m k Bm 72 d w (.inr ⟨hok, by omega, by rw [hk]⟩)).mono ?_
   rintro e w' ⟨rfl, hb⟩
   exact ⟨_, rfl, SgN.zero _ _, hb⟩
 · rw [if_neg hk, if_neg hk, if_neg hk]
   refine (Sign_good A n c m k s Bm 72 d msg w hA hs h8 hok (by omega) hM hm (by omega) hm8).mono ?_
   rintro e w' ⟨Ao, co, Ac, cc, Ap, q, cp, rfl, h1, h2, h3, h4, h5, h6, h7, c1, c2, c3, n1, n2, n3, hb⟩
   exact ⟨_, rfl, SgN.of h1 h2 h3 h4 h5 h6 h7 c1 c2 c3 n1 n2 n3, hb⟩
def VerN (B : Nat) (C : Option Addr) (cc : Nat) (w : World) (v : Mir.Ve) (V : Array Value) : Prop :=
 ∃ (Ao : Option Addr) (co n1 : Nat) (Ac : Option Addr) (cq n2 : Nat) (Ap : Option Addr) (cp n3 : Nat), V = Mir.verA v.no v.st (.slice C v.ch.length cc) (.int .i64 v.sg.i) (.slice Ao n1 co) (.slice Ac n2 cq) (.slice Ap n3 cp) ∧ IsD v.st ∧ v.ch.length ≤ cc ∧ cc ≤ maxLen ∧
  SigC w v.sg (.int .i64 v.sg.i) (.slice Ao n1 co) (.slice Ac n2 cq) (.slice Ap n3 cp) ∧ NewA B Ao v.sg.o.flatten ∧ NewA B Ac v.sg.c.flatten ∧ NewA B Ap v.sg.p.flatten
theorem VerN.ver {B : Nat} {C : Option Addr} {cc : Nat} {w : World} {v : Mir.Ve} {V : Array Value} (h : VerN B C cc w v V) (hC : ChangesC w C v.ch) : VerC w v V := by
 obtain ⟨Ao, co, n1, Ac, cq, n2, Ap, cp, n3, e, hd, h1, h2, hs, -⟩ := h
 exact ⟨C, cc, _, _, _, _, e, hd, hC, h1, h2, hs⟩
theorem blk_threeC (w : World) (a b c : Array Value) (ta tb tc : TypeId) (w1 : World) (h : ((w.alloc (.cells a ta)).alloc (.cells b tb)).alloc (.cells c tc) = w1) :
    Blk w1 w.heap.size ta a ∧ Blk w1 (w.heap.size + 1) tb b ∧ Blk w1 (w.heap.size + 2) tc c ∧ Below w.heap.size w w1 ∧ w.heap.size + 3 ≤ w1.heap.size := by
 subst h
 have e1 : (w.alloc (.cells a ta)).heap.size = w.heap.size + 1 := by simp
 have e2 : ((w.alloc (.cells a ta)).alloc (.cells b tb)).heap.size = w.heap.size + 2 := by simp
 have h1 := Blk.new w ta a
 have h2 := Blk.new (w.alloc (.cells a ta)) tb b
 have h3 := Blk.new ((w.alloc (.cells a ta)).alloc (.cells b tb)) tc c
 rw [e1] at h2
 rw [e2] at h3
 exact ⟨(h1.alloc _).alloc _, h2.alloc _, h3, (((Below.refl _ _).alloc (Nat.le_refl _) _).alloc (by simp) _).alloc (by simp; omega) _, by simp⟩
set_option maxRecDepth 100000 in
set_option maxHeartbeats 4000000 in
theorem mversion_any (A B I C : Option Addr) (n c k d ni ci mc cc : Nat) (m u : Int) (s : List Nat) (its : List Mir.It) (cs : List Mir.Ch) (w : World) (hA : Cells w A (bytesV s)) (hs : s.length = n) (h8 : ByteL s) (hI : ItemsC w I its) (hni : its.length = ni) (hC : ChangesC w C cs) (hmc : cs.length = mc)
    (hk : k ≤ 1000000) (hni2 : ni ≤ 1000000) (hsi : ∀ x ∈ its, x.2.length ≤ 900000) (hmc2 : mc ≤ 1000000) (hsc : ∀ x ∈ cs, x.1.2.length ≤ 900000) (hcc : mc ≤ cc) (hccm : cc ≤ maxLen) :
    Calls Tryz.prog 10 #[.agg #[.slice A n c, .int .i64 m, .int .i64 u], .slice B k d, .slice I ni ci, .slice C mc cc] w fun e w' => ∃ V' K', e = .returned (.tuple #[.agg V', .agg K', .int .i64 (Mir.vsnE n m u k its cs)]) ∧
     ((Mir.vsnE n m u k its cs = 0 ∧ K' = #[.slice A n c, .int .i64 m, .int .i64 (u + 1)] ∧ VerC w' (Mir.vsnV s m.toNat u.toNat its cs) V' ∧ VerN w.heap.size C cc w' (Mir.vsnV s m.toNat u.toNat its cs) V') ∨ (Mir.vsnE n m u k its cs ≠ 0 ∧ K' = ZK ∧ V' = Mir.ver0)) ∧ Below w.heap.size w w' := by
 have HP := Lib.hid (fun W h => Public_any A n c m u s W h hs h8)
 have HSt := Lib.hid (fun W h => State_any I ni ci its W hni hni2 h hsi)
 have HCv := Lib.hid (fun W h => mvalid_any C mc cc cs W hmc hmc2 h)
 have HA := Lib.hid hA
 have HI := Lib.hid hI
 have HC := Lib.hid hC
 have Hs := Lib.hid hs
 have H8 := Lib.hid h8
 have Hmc := Lib.hid hmc
 have Hsc := Lib.hid hsc
 have Hcc := Lib.hid (And.intro hcc hccm)
 obtain ⟨R, hR⟩ : ∃ R, Mir.vsnE n m u k its cs = R := ⟨_, rfl⟩
 rw [hR]
 obtain ⟨P, hP⟩ : ∃ P, pubR n m u s = P := ⟨_, rfl⟩
 have HPd := Lib.hid (show IsD P by rw [← hP]; exact pubR_isD n m u s)
 obtain ⟨ok, hok⟩ : ∃ b, okKey n m u = b := ⟨_, rfl⟩
 obtain ⟨E, hE⟩ : ∃ E, Mir.itE its = E := ⟨_, rfl⟩
 obtain ⟨S, hS⟩ : ∃ S, Mir.stS its = S := ⟨_, rfl⟩
 obtain ⟨cv, hcv⟩ : ∃ b, Mir.chOk cs = b := ⟨_, rfl⟩
 have HSd := Lib.hid (show IsD S by
  rw [← hS]; unfold Mir.stS
  by_cases h : Mir.itE its = 0
  · rw [if_pos h]; exact treeS_isD _
  · rw [if_neg h]; exact z32_isD)
 rw [hP, hok] at HP
 rw [hE, hS] at HSt
 rw [hcv] at HCv
 have HR : Hid (R = if ok = false then 40 else if u ≠ k then 450 else if E ≠ 0 then E else if cv = false then 430 else if u = m then 40 else 0) := Lib.hid (by rw [← hR, ← hok, ← hE, ← hcv]; rfl)
 have HS := Lib.hid hS
 have Hok := Lib.hid hok
 have Hcv := Lib.hid hcv
 clear hA hs h8 hI hni hC hmc hsi hsc hcc hccm hR hP hok hE hS hcv
 obtain ⟨Z, hZ⟩ : ∃ Z, Mir.ver0 = Z := ⟨_, rfl⟩
 have HZ := Lib.hid hZ
 have iZ := Lib.hid (show (Tryz.prog.info? 34).map (·.size) = some Z.size by rw [← hZ, Mir.ver0_size]; kernel_rfl)
 have zZ := Lib.hid (show Z.size = 38 by rw [← hZ]; exact Mir.ver0_size)
 have aZ := Lib.hid (show Z.all (·.oneCell') = true by rw [← hZ]; exact Mir.verA_all rfl rfl rfl rfl rfl)
 have bK := Lib.hid (show Tryz.prog.built 24 [] = some ZK by kernel_rfl)
 clear hZ
 go_enter Tryz.func10, Tryz.ntmps10
 go_upto_region 1 with (fail)
 generalize hge : World.alloc (World.alloc (World.alloc _ _) _) _ = w1
 have b3 : Blk w1 w.heap.size 24 #[.slice A n c, .int .i64 m, .int .i64 u] ∧ Blk w1 (w.heap.size + 1) 34 Z ∧ Blk w1 (w.heap.size + 2) 24 ZK ∧ Below w.heap.size w w1 ∧ w.heap.size + 3 ≤ w1.heap.size := by
  rw [← HZ.out]
  exact blk_threeC w _ _ _ _ _ _ w1 hge
 have HK1 := Lib.hid b3.1
 have HV1 := Lib.hid b3.2.1
 have HZ1 := Lib.hid b3.2.2.1
 have HB1 := Lib.hid b3.2.2.2.1
 have hz1 := b3.2.2.2.2
 clear hge b3
 have k0 : w1.cell? ⟨w.heap.size, 0, none⟩ = some (.slice A n c) := HK1.out.cell 0
 have k1 : w1.cell? ⟨w.heap.size, 1, none⟩ = some (.int .i64 m) := HK1.out.cell 1
 have k2 : w1.cell? ⟨w.heap.size, 2, none⟩ = some (.int .i64 u) := HK1.out.cell 2
 go_wp2_with (fail)
 refine (HP.out w1 (HA.out.below HB1.out)).mono ?_
 rintro e w2 ⟨rfl, hb2⟩
 have HK2 := Lib.hid (HK1.out.below hb2)
 have HV2 := Lib.hid (HV1.out.below hb2)
 have HZ2 := Lib.hid (HZ1.out.below hb2)
 have HB2 := Lib.hid (below_of HB1.out hb2 HB1.out.size)
 have hz2 := Nat.le_trans hz1 hb2.size
 clear HK1 HV1 HZ1 HB1 hz1
 clear hb2 k0 k1 k2
 go_upto_region 2 with (
  (refine wpList_put_blk rfl 29 (.tmp 11) (.tmp 18) rfl w2.heap.size (arrK .u8 P) rfl rfl 29 (arrK .u8 z32) (by exact Blk.new _ _ _) (info32 HPd.out.1) (by rw [len32 HPd.out.1, len32 z32_length]) (arrK_all _ _) ?_
   intro w3 HQ hg hz
   have hb3 := Lib.hid (below_put hg)
   have HQs := Lib.hid HQ
   clear HQ hg hz))
 have HK3 := Lib.hid (HK2.out.below hb3.out)
 have HV3 := Lib.hid (HV2.out.below hb3.out)
 have HZ3 := Lib.hid (HZ2.out.below hb3.out)
 have HB3 := Lib.hid (below_of HB2.out hb3.out HB2.out.size)
 have hz3 := Nat.le_trans hz2 hb3.out.size
 clear HK2 HV2 HZ2 HB2 hz2
 clear HQs hb3
 cases ok with
 | false =>
   rw [show errKey false = 40 from rfl]
   have HR2 : Hid (R = 40) := Lib.hid (by rw [HR.out]; rfl)
   go_upto_region 3 with (fail)
   refine wp_region_held_drew (S := fun W => Below w.heap.size w W ∧ Blk W (w.heap.size + 1) 34 Z ∧ Blk W (w.heap.size + 2) 24 ZK) (by kernel_rfl) (⟨below_drewN HB3.out 1, HV3.out, HZ3.out⟩) (fun Hd => ?_)
   have Hd : Below w.heap.size w w3.drew := below_drewN HB3.out 1
   have Zd : w.heap.size ≤ w3.drew.heap.size := HB3.out.size
   have fV : Blk w3.drew (w.heap.size + 1) 34 Z := HV3.out
   have fK : Blk w3.drew (w.heap.size + 2) 24 ZK := HZ3.out
   generalize World.drew w3 = wd at *
   refine tg 0 (.agg (Z)) rfl (yields_load_blk (by rfl) _ _ rfl ((w.heap.size + 1)) rfl 34 (Z) _ (fun W hW => hW.2.1) Tryz.underlying34 rfl iZ.out) ⟨Hd, fV, fK⟩ ?_
   refine tg 1 (.agg (ZK)) rfl (yields_load_blk (by rfl) _ _ rfl ((w.heap.size + 2)) rfl 24 (ZK) _ (fun W hW => hW.2.2) Tryz.underlying24 rfl (by kernel_rfl)) ⟨Hd, fV, fK⟩ ?_
   try simp only [la, Act.put]
   refine tq 2 rfl ⟨Hd, fV, fK⟩ ?_
   try simp only [la, Act.put]
   refine ty 3 rfl (fun K hK => ?_)
   refine step_put_blk (by rfl) _ _ _ (by rfl) ((w.heap.size + 1)) (Z) (by rfl) (by rfl) _ _ fV iZ.out rfl aZ.out ?_
   intro w1_ fV1 hg1 hz1
   have neK1 := fK.lt
   have fK1 := fK.gx hg1
   have Hb1 := bgx Hd hg1 Hd.size
   have Zb1 := Nat.le_trans Zd hg1.size
   refine hK.out _ _ ⟨Hb1, fV1, fK1⟩ fun _ => ?_
   clear hK K
   try simp only [la, Act.put]
   refine ty 4 rfl (fun K hK => ?_)
   refine step_put_blk (by rfl) _ _ _ (by rfl) ((w.heap.size + 2)) (ZK) (by rfl) (by rfl) _ _ fK1 (by kernel_rfl) rfl (by kernel_rfl) ?_
   intro w2_ fK2 hg2 hz2
   have neV2 := fV1.lt
   have fV2 := fV1.gx hg2
   have Hb2 := bgx Hb1 hg2 Hb1.size
   have Zb2 := Nat.le_trans Zb1 hg2.size
   refine hK.out _ _ ⟨Hb2, fV2, fK2⟩ fun _ => ?_
   clear hK K
   refine tq 5 rfl ⟨Hb2, fV2, fK2⟩ ?_
   try simp only [la, Act.put]
   refine td ?_ _
   go_wp2_with (fail)
   exact ret_row3 (u := .int .i64 (40)) rfl (w.heap.size + 1) (w.heap.size + 2) 34 24 Z ZK _ _ rfl rfl rfl fV2 fK2 Tryz.underlying34 Tryz.underlying24 rfl rfl iZ.out (by kernel_rfl) rfl ⟨Z, ZK, by rw [HR2.out], .inr ⟨by rw [HR2.out]; omega, rfl, HZ.out.symm⟩, Hb2⟩
 | true =>
 rw [show errKey true = 0 from rfl]
 have c2 : w3.cell? ⟨w.heap.size, 2, none⟩ = some (.int .i64 u) := HK3.out.cell 2
 by_cases hu : u = (k : Int)
 rotate_left
 · have HR2 : Hid (R = 450) := Lib.hid (by rw [HR.out, if_neg (by simp), if_pos hu])
   have du : (u == (k : Int)) = false := by simpa using hu
   have du2 : (u != (k : Int)) = true := by simpa using hu
   go_upto_region 5 with (fail)
   refine wp_region_held_drew (S := fun W => Below w.heap.size w W ∧ Blk W (w.heap.size + 1) 34 Z ∧ Blk W (w.heap.size + 2) 24 ZK) (by kernel_rfl) (⟨below_drewN HB3.out 1, HV3.out, HZ3.out⟩) (fun Hd => ?_)
   have Hd : Below w.heap.size w w3.drew := below_drewN HB3.out 1
   have Zd : w.heap.size ≤ w3.drew.heap.size := HB3.out.size
   have fV : Blk w3.drew (w.heap.size + 1) 34 Z := HV3.out
   have fK : Blk w3.drew (w.heap.size + 2) 24 ZK := HZ3.out
   generalize World.drew w3 = wd at *
   refine tg 0 (.agg (Z)) rfl (yields_load_blk (by rfl) _ _ rfl ((w.heap.size + 1)) rfl 34 (Z) _ (fun W hW => hW.2.1) Tryz.underlying34 rfl iZ.out) ⟨Hd, fV, fK⟩ ?_
   refine tg 1 (.agg (ZK)) rfl (yields_load_blk (by rfl) _ _ rfl ((w.heap.size + 2)) rfl 24 (ZK) _ (fun W hW => hW.2.2) Tryz.underlying24 rfl (by kernel_rfl)) ⟨Hd, fV, fK⟩ ?_
   try simp only [la, Act.put]
   refine ty 2 rfl (fun K hK => ?_)
   refine step_put_blk (by rfl) _ _ _ (by rfl) ((w.heap.size + 1)) (Z) (by rfl) (by rfl) _ _ fV iZ.out rfl aZ.out ?_
   intro w1_ fV1 hg1 hz1
   have neK1 := fK.lt
   have fK1 := fK.gx hg1
   have Hb1 := bgx Hd hg1 Hd.size
   have Zb1 := Nat.le_trans Zd hg1.size
   refine hK.out _ _ ⟨Hb1, fV1, fK1⟩ fun _ => ?_
   clear hK K
   try simp only [la, Act.put]
   refine ty 3 rfl (fun K hK => ?_)
   refine step_put_blk (by rfl) _ _ _ (by rfl) ((w.heap.size + 2)) (ZK) (by rfl) (by rfl) _ _ fK1 (by kernel_rfl) rfl (by kernel_rfl) ?_
   intro w2_ fK2 hg2 hz2
   have neV2 := fV1.lt
   have fV2 := fV1.gx hg2
   have Hb2 := bgx Hb1 hg2 Hb1.size
   have Zb2 := Nat.le_trans Zb1 hg2.size
   refine hK.out _ _ ⟨Hb2, fV2, fK2⟩ fun _ => ?_
   clear hK K
   try simp only [la, Act.put]
   refine tq 4 rfl ⟨Hb2, fV2, fK2⟩ ?_
   try simp only [la, Act.put]
   refine td ?_ _
   go_wp2_with (fail)
   exact ret_row3 (u := .int .i64 (450)) rfl (w.heap.size + 1) (w.heap.size + 2) 34 24 Z ZK _ _ rfl rfl rfl fV2 fK2 Tryz.underlying34 Tryz.underlying24 rfl rfl iZ.out (by kernel_rfl) rfl ⟨Z, ZK, by rw [HR2.out], .inr ⟨by rw [HR2.out]; omega, rfl, HZ.out.symm⟩, Hb2⟩
 subst hu
 have du : ((k : Int) == (k : Int)) = true := by simp
 have du2 : ((k : Int) != (k : Int)) = false := by simp
 go_wp2_with (fail)
 refine (HSt.out w3 (HI.out.below HB3.out)).mono ?_
 rintro e w4 ⟨rfl, hb4⟩
 have HK4 := Lib.hid (HK3.out.below hb4)
 have HV4 := Lib.hid (HV3.out.below hb4)
 have HZ4 := Lib.hid (HZ3.out.below hb4)
 have HB4 := Lib.hid (below_of HB3.out hb4 HB3.out.size)
 have hz4 := Nat.le_trans hz3 hb4.size
 clear HK3 HV3 HZ3 HB3 hz3
 clear hb4 c2 du du2
 go_upto_region 7 with (
  (refine wpList_put_blk rfl 29 (.tmp 13) (.tmp 35) rfl w4.heap.size (arrK .u8 S) rfl rfl 29 (arrK .u8 z32) (by exact Blk.new _ _ _) (info32 HSd.out.1) (by rw [len32 HSd.out.1, len32 z32_length]) (arrK_all _ _) ?_
   intro w5 HQ hg hz
   have hb5 := Lib.hid (below_put hg)
   have HQs := Lib.hid HQ
   clear HQ hg hz))
 have HK5 := Lib.hid (HK4.out.below hb5.out)
 have HV5 := Lib.hid (HV4.out.below hb5.out)
 have HZ5 := Lib.hid (HZ4.out.below hb5.out)
 have HB5 := Lib.hid (below_of HB4.out hb5.out HB4.out.size)
 have hz5 := Nat.le_trans hz4 hb5.out.size
 clear HK4 HV4 HZ4 HB4
 clear hb5
 have HT5 := Lib.hid HQs.out
 have hzt := hz4
 obtain ⟨t, ht⟩ : ∃ t, w4.heap.size = t := ⟨_, rfl⟩
 rw [ht] at HT5 hzt ⊢
 clear HQs hz4 ht
 by_cases hE : E = 0
 rotate_left
 · have HR2 : Hid (R = E) := Lib.hid (by rw [HR.out, if_neg (by simp), if_neg (by simp), if_pos hE])
   have dE : decide (E = 0) = false := by simpa using hE
   have dE2 : (E != 0) = true := by simpa using hE
   have hEn := Lib.hid hE
   go_upto_region 8 with (fail)
   refine wp_region_held_drew (S := fun W => Below w.heap.size w W ∧ Blk W (w.heap.size + 1) 34 Z ∧ Blk W (w.heap.size + 2) 24 ZK) (by kernel_rfl) (⟨below_drewN HB5.out 1, HV5.out, HZ5.out⟩) (fun Hd => ?_)
   have Hd : Below w.heap.size w w5.drew := below_drewN HB5.out 1
   have Zd : w.heap.size ≤ w5.drew.heap.size := HB5.out.size
   have fV : Blk w5.drew (w.heap.size + 1) 34 Z := HV5.out
   have fK : Blk w5.drew (w.heap.size + 2) 24 ZK := HZ5.out
   generalize World.drew w5 = wd at *
   refine tg 0 (.agg (Z)) rfl (yields_load_blk (by rfl) _ _ rfl ((w.heap.size + 1)) rfl 34 (Z) _ (fun W hW => hW.2.1) Tryz.underlying34 rfl iZ.out) ⟨Hd, fV, fK⟩ ?_
   try simp only [la, Act.put]
   refine tg 1 (.agg (ZK)) rfl (yields_load_blk (by rfl) _ _ rfl ((w.heap.size + 2)) rfl 24 (ZK) _ (fun W hW => hW.2.2) Tryz.underlying24 rfl (by kernel_rfl)) ⟨Hd, fV, fK⟩ ?_
   refine tq 2 rfl ⟨Hd, fV, fK⟩ ?_
   try simp only [la, Act.put]
   refine ty 3 rfl (fun K hK => ?_)
   refine step_put_blk (by rfl) _ _ _ (by rfl) ((w.heap.size + 1)) (Z) (by rfl) (by rfl) _ _ fV iZ.out rfl aZ.out ?_
   intro w1_ fV1 hg1 hz1
   have neK1 := fK.lt
   have fK1 := fK.gx hg1
   have Hb1 := bgx Hd hg1 Hd.size
   have Zb1 := Nat.le_trans Zd hg1.size
   refine hK.out _ _ ⟨Hb1, fV1, fK1⟩ fun _ => ?_
   clear hK K
   try simp only [la, Act.put]
   refine ty 4 rfl (fun K hK => ?_)
   refine step_put_blk (by rfl) _ _ _ (by rfl) ((w.heap.size + 2)) (ZK) (by rfl) (by rfl) _ _ fK1 (by kernel_rfl) rfl (by kernel_rfl) ?_
   intro w2_ fK2 hg2 hz2
   have neV2 := fV1.lt
   have fV2 := fV1.gx hg2
   have Hb2 := bgx Hb1 hg2 Hb1.size
   have Zb2 := Nat.le_trans Zb1 hg2.size
   refine hK.out _ _ ⟨Hb2, fV2, fK2⟩ fun _ => ?_
   clear hK K
   try simp only [la, Act.put]
   refine tq 5 rfl ⟨Hb2, fV2, fK2⟩ ?_
   try simp only [la, Act.put]
   refine td ?_ _
   go_wp2_with (fail)
   exact ret_row3 (u := .int .i64 (E)) rfl (w.heap.size + 1) (w.heap.size + 2) 34 24 Z ZK _ _ rfl rfl rfl fV2 fK2 Tryz.underlying34 Tryz.underlying24 rfl rfl iZ.out (by kernel_rfl) rfl ⟨Z, ZK, by rw [HR2.out], .inr ⟨by rw [HR2.out]; exact hEn.out, rfl, HZ.out.symm⟩, Hb2⟩
 subst hE
 go_wp2_with (fail)
 refine (HCv.out w5 (HC.out.below HB5.out)).mono ?_
 rintro e w6 ⟨rfl, hb6⟩
 have HK6 := Lib.hid (HK5.out.below hb6)
 have HV6 := Lib.hid (HV5.out.below hb6)
 have HZ6 := Lib.hid (HZ5.out.below hb6)
 have HB6 := Lib.hid (below_of HB5.out hb6 HB5.out.size)
 have hz6 := Nat.le_trans hz5 hb6.size
 clear HK5 HV5 HZ5 HB5 hz5
 have HT6 := Lib.hid (HT5.out.below hb6)
 clear hb6 HT5
 cases cv with
 | false =>
   have HR2 : Hid (R = 430) := Lib.hid (by rw [HR.out, if_neg (by simp), if_neg (by simp), if_neg (by simp), if_pos rfl])
   go_upto_region 10 with (fail)
   refine wp_region_held_drew (S := fun W => Below w.heap.size w W ∧ Blk W (w.heap.size + 1) 34 Z ∧ Blk W (w.heap.size + 2) 24 ZK) (by kernel_rfl) (⟨below_drewN HB6.out 1, HV6.out, HZ6.out⟩) (fun Hd => ?_)
   have Hd : Below w.heap.size w w6.drew := below_drewN HB6.out 1
   have Zd : w.heap.size ≤ w6.drew.heap.size := HB6.out.size
   have fV : Blk w6.drew (w.heap.size + 1) 34 Z := HV6.out
   have fK : Blk w6.drew (w.heap.size + 2) 24 ZK := HZ6.out
   generalize World.drew w6 = wd at *
   refine tg 0 (.agg (Z)) rfl (yields_load_blk (by rfl) _ _ rfl ((w.heap.size + 1)) rfl 34 (Z) _ (fun W hW => hW.2.1) Tryz.underlying34 rfl iZ.out) ⟨Hd, fV, fK⟩ ?_
   try simp only [la, Act.put]
   refine tg 1 (.agg (ZK)) rfl (yields_load_blk (by rfl) _ _ rfl ((w.heap.size + 2)) rfl 24 (ZK) _ (fun W hW => hW.2.2) Tryz.underlying24 rfl (by kernel_rfl)) ⟨Hd, fV, fK⟩ ?_
   try simp only [la, Act.put]
   refine ty 2 rfl (fun K hK => ?_)
   refine step_put_blk (by rfl) _ _ _ (by rfl) ((w.heap.size + 1)) (Z) (by rfl) (by rfl) _ _ fV iZ.out rfl aZ.out ?_
   intro w1_ fV1 hg1 hz1
   have neK1 := fK.lt
   have fK1 := fK.gx hg1
   have Hb1 := bgx Hd hg1 Hd.size
   have Zb1 := Nat.le_trans Zd hg1.size
   refine hK.out _ _ ⟨Hb1, fV1, fK1⟩ fun _ => ?_
   clear hK K
   try simp only [la, Act.put]
   refine ty 3 rfl (fun K hK => ?_)
   refine step_put_blk (by rfl) _ _ _ (by rfl) ((w.heap.size + 2)) (ZK) (by rfl) (by rfl) _ _ fK1 (by kernel_rfl) rfl (by kernel_rfl) ?_
   intro w2_ fK2 hg2 hz2
   have neV2 := fV1.lt
   have fV2 := fV1.gx hg2
   have Hb2 := bgx Hb1 hg2 Hb1.size
   have Zb2 := Nat.le_trans Zb1 hg2.size
   refine hK.out _ _ ⟨Hb2, fV2, fK2⟩ fun _ => ?_
   clear hK K
   refine tq 4 rfl ⟨Hb2, fV2, fK2⟩ ?_
   try simp only [la, Act.put]
   refine td ?_ _
   go_wp2_with (fail)
   exact ret_row3 (u := .int .i64 (430)) rfl (w.heap.size + 1) (w.heap.size + 2) 34 24 Z ZK _ _ rfl rfl rfl fV2 fK2 Tryz.underlying34 Tryz.underlying24 rfl rfl iZ.out (by kernel_rfl) rfl ⟨Z, ZK, by rw [HR2.out], .inr ⟨by rw [HR2.out]; omega, rfl, HZ.out.symm⟩, Hb2⟩
 | true =>
 obtain ⟨hle, hsm⟩ := chOk_size Hcv.out
 rw [Hmc.out] at hle
 have ho := okKey_true Hok.out
 obtain ⟨m0, rfl⟩ := Int.eq_ofNat_of_zero_le (show 0 ≤ m by omega)
 have HM := Lib.hid (fun W h => message_any (k + 1) S C mc cc cs (.int .i64 0) (.slice none 0 0) (.slice none 0 0) (.slice none 0 0) W HSd.out Hmc.out (by omega) (by omega) h (fun x hx => ⟨hsm x hx, Hsc.out x hx⟩))
 have HSg := Lib.hid (fun A9 c9 W h1 h2 => sign_any A n c m0 k s A9 c9 (Mir.mesS (k + 1) S cs) W h1 Hs.out H8.out Hok.out h2 (mesS_length _ _ _ HSd.out) (mesS_byte _ _ _ HSd.out))
 obtain ⟨Kx, hKx⟩ : ∃ K, (if k = m0 then ZK else (#[.slice A n c, .int .i64 m0, .int .i64 ((k : Int) + 1)] : Array Value)) = K := ⟨_, rfl⟩
 obtain ⟨ev, hev⟩ : ∃ e : Int, (if k = m0 then 40 else 0) = e := ⟨_, rfl⟩
 obtain ⟨g, hg⟩ : ∃ g, (if k = m0 then (⟨0, [], [], []⟩ : Mir.Sg) else ⟨k, openL s k (bitL (msgS (treeS (pubL s m0)) k (Mir.mesS (k + 1) S cs)) 64) 64, closL s k (bitL (msgS (treeS (pubL s m0)) k (Mir.mesS (k + 1) S cs)) 64) 64, pathR (pubL s m0) k⟩) = g := ⟨_, rfl⟩
 rw [hKx, hev, hg] at HSg
 have hKc : ∃ A' n' c' a b, Kx = #[.slice A' n' c', .int .i64 a, .int .i64 b] := by
  rw [← hKx]; split
  · exact ⟨_, _, _, _, _, rfl⟩
  · exact ⟨_, _, _, _, _, rfl⟩
 obtain ⟨KA, Kn, Kc, Ka, Kb, hKe⟩ := hKc
 have HKe := Lib.hid hKe
 have hr : R = ev := by rw [HR.out, if_neg (by simp), if_neg (by simp), if_neg (by simp), if_neg (by simp), ← hev]; by_cases h : k = m0 <;> simp [h]; omega
 have Hcase := Lib.hid (And.intro hKx (And.intro hev hg))
 subst hr
 obtain ⟨V, hV⟩ : ∃ V, Mir.verA ((k : Int) + 1) S (.slice C mc cc) (.int .i64 0) (.slice none 0 0) (.slice none 0 0) (.slice none 0 0) = V := ⟨_, rfl⟩
 have iV := Lib.hid (show (Tryz.prog.info? 34).map (·.size) = some V.size by rw [← hV]; exact infoVer HSd.out.1 ..)
 have zV := Lib.hid (show V.size = 38 by rw [← hV]; exact Mir.verA_size HSd.out.1 ..)
 have aV := Lib.hid (show V.all (·.oneCell') = true by rw [← hV]; exact Mir.verA_all rfl rfl rfl rfl rfl)
 have bV := Lib.hid (show Tryz.prog.built 34 [(0, .int .i64 ((k : Int) + 1)), (1, .agg (arrK .u8 S)), (2, .slice C mc cc)] = some V by rw [← hV]; exact built_ver _ S HSd.out.1 C mc cc)
 have hno4 := ver_no4 HSd.out.1 ((k : Int) + 1) C mc cc
 rw [hV] at hno4
 have Hno4 := Lib.hid hno4
 have HMv := Lib.hid (fun W h => by have := HM.out W h; rw [show (((k + 1 : Nat) : Int)) = (k : Int) + 1 from rfl, hV] at this; exact this)
 have HVe := Lib.hid hV
 have ewr : IntKind.i64.wrap ((k : Int) + 1) = (k : Int) + 1 := IntWalk.i64_in _ (by omega)
 clear hKx hev hg hKe hV HM hsm hle ho hno4
 go_upto_region 12 with (first
  | (refine wpList_load_blk rfl 29 (.tmp 13) rfl t rfl 29 (arrK .u8 S) (.array 32 5) HT6.out (by kernel_rfl) rfl (info32 HSd.out.1) ?_
     refine wpList_moved rfl (.tmp 3) rfl ?_
     refine wpList_built rfl 34 #[(0, .tmp 49), (1, .tmp 50), (2, .tmp 51)] rfl [(0, .int .i64 ((k : Int) + 1)), (1, .agg (arrK .u8 S)), (2, .slice C mc cc)] (by simp [Act.put, Act.eval]) V bV.out ?_)
  | (refine wpList_put_blk rfl 34 (.tmp 14) (.tmp 52) rfl w6.heap.size V rfl rfl 34 Z (HZ.out ▸ Blk.new w6 34 Mir.ver0) iV.out (by rw [zZ.out, zV.out]) aV.out ?_
     intro w7 HQ hg hz
     have hb7 := Lib.hid (below_put hg)
     have HX7 := Lib.hid HQ
     clear HQ hg hz))
 have HK7 := Lib.hid (HK6.out.below hb7.out)
 have HV7 := Lib.hid (HV6.out.below hb7.out)
 have HZ7 := Lib.hid (HZ6.out.below hb7.out)
 have HB7 := Lib.hid (below_of HB6.out hb7.out HB6.out.size)
 have hz7 := Nat.le_trans hz6 hb7.out.size
 clear HK6 HV6 HZ6 HB6 hz6
 have hx6 : w.heap.size + 3 ≤ w6.heap.size := by have := HT6.out.lt; omega
 obtain ⟨x, hx⟩ : ∃ t, w6.heap.size = t := ⟨_, rfl⟩
 rw [hx] at HX7 hx6 ⊢
 clear hb7 hx HT6
 refine wp_region_held_drew (S := fun W => Below w.heap.size w W ∧ Blk W w.heap.size 24 #[.slice A n c, .int .i64 (m0 : Int), .int .i64 (k : Int)]) (by kernel_rfl) (⟨below_drewN HB7.out 1, HK7.out⟩) (fun Hd => ?_)
 have Hd : Below w.heap.size w w7.drew := below_drewN HB7.out 1
 have Zd : w.heap.size ≤ w7.drew.heap.size := HB7.out.size
 have fK : Blk w7.drew w.heap.size 24 #[.slice A n c, .int .i64 (m0 : Int), .int .i64 (k : Int)] := HK7.out
 have fV : Blk w7.drew (w.heap.size + 1) 34 Z := HV7.out
 have fZ : Blk w7.drew (w.heap.size + 2) 24 ZK := HZ7.out
 have fW : Blk w7.drew x 34 V := HX7.out
 generalize World.drew w7 = wd at *
 refine tg 0 (.agg (#[.slice A n c, .int .i64 (m0 : Int), .int .i64 (k : Int)])) rfl (yields_load_blk (by rfl) _ _ rfl (w.heap.size) rfl 24 (#[.slice A n c, .int .i64 (m0 : Int), .int .i64 (k : Int)]) _ (fun W hW => hW.2) Tryz.underlying24 rfl (by kernel_rfl)) ⟨Hd, fK⟩ ?_
 try simp only [la, Act.put]
 refine ty 1 rfl (fun K hK => ?_)
 refine step_load_blk (by rfl) _ _ (by rfl) (x) (by rfl) _ (V) _ fW Tryz.underlying34 rfl iV.out ?_
 refine hK.out _ _ ⟨Hd, fK⟩ fun _ => ?_
 clear hK K
 try simp only [la, Act.put]
 refine ty 2 rfl (fun K hK => ?_)
 go_simp
 refine (HMv.out _ (HC.out.below Hd)).mono ?_
 rintro e w1_ ⟨A9, c9, rfl, hk9, hm9, hc9, hb1⟩
 have fK1 := fK.below hb1
 have fV1 := fV.below hb1
 have fZ1 := fZ.below hb1
 have fW1 := fW.below hb1
 have Hb1 := below_of Hd hb1 Hd.size
 have Zb1 := Nat.le_trans Zd hb1.size
 go_wp2_with (fail)
 refine hK.out _ _ ⟨Hb1, fK1⟩ fun _ => ?_
 clear hK K
 try simp only [la, Act.put]
 refine ty 3 rfl (fun K hK => ?_)
 go_simp
 have hNB : w.heap.size + 2 < w1_.heap.size := fZ1.lt
 have hNX : x < w1_.heap.size := fW1.lt
 refine (HSg.out A9 c9 _ (HA.out.below Hb1) hc9).mono ?_
 rintro e w2_ ⟨Sx, rfl, ⟨Ao, co, Ac, cq, Ap, cp, rfl, ⟨hCo, hCc, hCp⟩, hNn, hr8⟩, hb2⟩
 have HNn := Lib.hid hNn
 have Hr8 := Lib.hid hr8
 clear hNn hr8
 have fK2 := fK1.below hb2
 have fV2 := fV1.below hb2
 have fZ2 := fZ1.below hb2
 have fW2 := fW1.below hb2
 have fm2 := hc9.below hb2
 have Hb2 := below_of Hb1 hb2 Hb1.size
 have Zb2 := Nat.le_trans Zb1 hb2.size
 go_wp2_with (fail)
 refine hK.out _ _ ⟨Hb2, fK2⟩ fun _ => ?_
 clear hK K
 try simp only [la, Act.put]
 refine tq 4 rfl ⟨Hb2, fK2⟩ ?_
 refine tq 5 rfl ⟨Hb2, fK2⟩ ?_
 try simp only [la, Act.put]
 refine tq 6 rfl ⟨Hb2, fK2⟩ ?_
 refine tq 7 rfl ⟨Hb2, fK2⟩ ?_
 try simp only [la, Act.put]
 refine ty 8 rfl (fun K hK => ?_)
 refine step_put_blk (by rfl) _ _ _ (by rfl) ((w.heap.size + 2)) (Kx) (by rfl) (by rfl) _ _ fZ2 (by rw [HKe.out]; kernel_rfl) (by rw [HKe.out]; rfl) (by rw [HKe.out]; simp [Value.oneCell']) ?_
 intro w3_ fZ3 hg3 hz3
 have neK3 := fK2.lt
 have fK3 := fK2.gx hg3
 have neV3 := fV2.lt
 have fV3 := fV2.gx hg3
 have neW3 := fW2.lt
 have fW3 := fW2.gx hg3
 have fm3 := fm2.off8 hg3 fZ2 (by first | exact no8_sig | exact no8_key)
 have fo3 := Cells.grownN hCo HNn.out.1 hg3 (by omega)
 have fc3 := Cells.grownN hCc HNn.out.2.1 hg3 (by omega)
 have fp3 := Cells.grownN hCp HNn.out.2.2 hg3 (by omega)
 have Hb3 := bgx Hb2 hg3 Hb2.size
 have Zb3 := Nat.le_trans Zb2 hg3.size
 refine hK.out _ _ ⟨Hb3, fK3⟩ fun _ => ?_
 clear hK K
 refine tq 9 rfl ⟨Hb3, fK3⟩ ?_
 try simp only [la, Act.put]
 refine ty 10 rfl (fun K hK => ?_)
 refine step_put_four (by rfl) _ _ _ (by rfl) (x) 34 (.int .i64 g.i) (.slice Ao g.o.length co) (.slice Ac g.c.length cq) (.slice Ap g.p.length cp) (by rfl) (by rfl) _ _ fW3 (by rw [zV.out]; omega) (by kernel_rfl) (by kernel_rfl) ?_
 intro w4_ fW4 hg4 hz4
 have neZ4 := fZ3.lt
 have fZ4 := fZ3.gx hg4
 have neK4 := fK3.lt
 have fK4 := fK3.gx hg4
 have neV4 := fV3.lt
 have fV4 := fV3.gx hg4
 have fm4 := Cells.off4 fm3 hg4 fW3 fW4 (Hno4.out _ _ _ _)
 have fo4 := Cells.off4 fo3 hg4 fW3 fW4 (Hno4.out _ _ _ _)
 have fc4 := Cells.off4 fc3 hg4 fW3 fW4 (Hno4.out _ _ _ _)
 have fp4 := Cells.off4 fp3 hg4 fW3 fW4 (Hno4.out _ _ _ _)
 have Hb4 := bgx Hb3 hg4 Hb3.size
 have Zb4 := Nat.le_trans Zb3 hg4.size
 refine hK.out _ _ ⟨Hb4, fK4⟩ fun _ => ?_
 clear hK K
 refine tq 11 rfl ⟨Hb4, fK4⟩ ?_
 try simp only [la, Act.put]
 refine td ?_ _
 obtain ⟨V9, hV9⟩ : ∃ z, Mir.verA ((k : Int) + 1) S (.slice C mc cc) (.int .i64 g.i) (.slice Ao g.o.length co) (.slice Ac g.c.length cq) (.slice Ap g.p.length cp) = z := ⟨_, rfl⟩
 have hVV := Mir.verA_sig HSd.out.1 ((k : Int) + 1) (.slice C mc cc) (.int .i64 0) (.slice none 0 0) (.slice none 0 0) (.slice none 0 0) (.int .i64 g.i) (.slice Ao g.o.length co) (.slice Ac g.c.length cq) (.slice Ap g.p.length cp)
 rw [HVe.out, hV9] at hVV
 have HWE := Lib.hid (show Blk w4_ x 34 V9 from hVV ▸ fW4)
 have HVE := Lib.hid fV4
 have HZE := Lib.hid fZ4
 have HBE := Lib.hid Hb4
 have HoE := Lib.hid fo4
 have HcE := Lib.hid fc4
 have HpE := Lib.hid fp4
 have zV9 := Lib.hid (show V9.size = 38 by rw [← hV9]; exact Mir.verA_size HSd.out.1 ..)
 have iV9 := Lib.hid (show (Tryz.prog.info? 34).map (·.size) = some V9.size by rw [zV9.out]; kernel_rfl)
 have aV9 := Lib.hid (show V9.all (·.oneCell') = true by rw [← hV9]; exact Mir.verA_all rfl rfl rfl rfl rfl)
 have HV9 := Lib.hid hV9
 clear hVV hV9
 obtain ⟨wE, hwE⟩ : ∃ z, w4_ = z := ⟨_, rfl⟩
 rw [hwE] at HWE HVE HZE HBE HoE HcE HpE ⊢
 clear hwE
 by_cases hk0 : k = m0
 · have HR2 : Hid (R = 40) := Lib.hid (by rw [← Hcase.out.2.1, if_pos hk0])
   have hk1 : ZK = Kx := by rw [← Hcase.out.1, if_pos hk0]
   have HZE := Lib.hid (show Blk wE (w.heap.size + 2) 24 ZK from hk1 ▸ HZE.out)
   have dE : decide (R = 0) = false := by rw [HR2.out]; rfl
   have dE2 : (R != 0) = true := by rw [HR2.out]; rfl
   go_wp2_with (first
    | (refine wpList_load_blk rfl 34 (.tmp 8) rfl (w.heap.size + 1) rfl 34 Z _ HVE.out Tryz.underlying34 rfl iZ.out ?_)
    | (refine wpList_store_same rfl 34 (.tmp 8) (.tmp 64) rfl (w.heap.size + 1) Z rfl rfl 34 HVE.out iZ.out aZ.out ?_)
    | (refine wpList_store_same rfl 24 (.tmp 9) (.tmp 65) rfl (w.heap.size + 2) ZK rfl rfl 24 HZE.out (by kernel_rfl) (by kernel_rfl) ?_))
   exact ret_row3 (u := .int .i64 R) rfl (w.heap.size + 1) (w.heap.size + 2) 34 24 Z ZK _ _ rfl rfl rfl HVE.out HZE.out Tryz.underlying34 Tryz.underlying24 rfl rfl iZ.out (by kernel_rfl) rfl ⟨Z, ZK, rfl, .inr ⟨by rw [HR2.out]; omega, rfl, HZ.out.symm⟩, HBE.out⟩
 have HR2 : Hid (R = 0) := Lib.hid (by rw [← Hcase.out.2.1, if_neg hk0])
 have dE : decide (R = 0) = true := by rw [HR2.out]; rfl
 have dE2 : (R != 0) = false := by rw [HR2.out]; rfl
 obtain rfl : #[.slice A n c, .int .i64 (m0 : Int), .int .i64 ((k : Int) + 1)] = Kx := by rw [← Hcase.out.1, if_neg hk0]
 have Hg := Lib.hid (show (⟨k, openL s k (bitL (msgS (treeS (pubL s m0)) k (Mir.mesS (k + 1) S cs)) 64) 64, closL s k (bitL (msgS (treeS (pubL s m0)) k (Mir.mesS (k + 1) S cs)) 64) 64, pathR (pubL s m0) k⟩ : Mir.Sg) = g by rw [← Hcase.out.2.2, if_neg hk0])
 clear HR Hcase
 go_upto_region 15 with (fail)
 refine wp_region_held_drew (S := fun W => Below w.heap.size w W ∧ Blk W x 34 V9 ∧ Blk W (w.heap.size + 2) 24 #[.slice A n c, .int .i64 (m0 : Int), .int .i64 ((k : Int) + 1)]) (by kernel_rfl) (⟨below_drewN HBE.out 1, HWE.out, HZE.out⟩) (fun Hd => ?_)
 have Hd : Below w.heap.size w wE.drew := below_drewN HBE.out 1
 have Zd : w.heap.size ≤ wE.drew.heap.size := HBE.out.size
 have gW : Blk wE.drew x 34 V9 := HWE.out
 have gV : Blk wE.drew (w.heap.size + 1) 34 Z := HVE.out
 have gZ : Blk wE.drew (w.heap.size + 2) 24 #[.slice A n c, .int .i64 (m0 : Int), .int .i64 ((k : Int) + 1)] := HZE.out
 have go_ : Cells wE.drew Ao (bytesV g.o.flatten) := HoE.out
 have gc_ : Cells wE.drew Ac (bytesV g.c.flatten) := HcE.out
 have gp_ : Cells wE.drew Ap (bytesV g.p.flatten) := HpE.out
 generalize World.drew wE = wd at *
 refine tg 0 (.agg (V9)) rfl (yields_load_blk (by rfl) _ _ rfl (x) rfl 34 (V9) _ (fun W hW => hW.2.1) Tryz.underlying34 rfl iV9.out) ⟨Hd, gW, gZ⟩ ?_
 refine tg 1 (.agg (#[.slice A n c, .int .i64 (m0 : Int), .int .i64 ((k : Int) + 1)])) rfl (yields_load_blk (by rfl) _ _ rfl ((w.heap.size + 2)) rfl 24 (#[.slice A n c, .int .i64 (m0 : Int), .int .i64 ((k : Int) + 1)]) _ (fun W hW => hW.2.2) Tryz.underlying24 rfl (by kernel_rfl)) ⟨Hd, gW, gZ⟩ ?_
 try simp only [la, Act.put]
 refine ty 2 rfl (fun K hK => ?_)
 refine step_put_blk (by rfl) _ _ _ (by rfl) ((w.heap.size + 1)) (V9) (by rfl) (by rfl) _ _ gV iV9.out (by rw [zZ.out, zV9.out]) aV9.out ?_
 intro w1_ fV1 hg1 hz1
 have neW1 := gW.lt
 have fW1 := gW.gx hg1
 have neZ1 := gZ.lt
 have fZ1 := gZ.gx hg1
 have fo1 := Cells.grownN go_ HNn.out.1 hg1 (by omega)
 have fc1 := Cells.grownN gc_ HNn.out.2.1 hg1 (by omega)
 have fp1 := Cells.grownN gp_ HNn.out.2.2 hg1 (by omega)
 have Hb1 := bgx Hd hg1 Hd.size
 have Zb1 := Nat.le_trans Zd hg1.size
 refine hK.out _ _ ⟨Hb1, fW1, fZ1⟩ fun _ => ?_
 clear hK K
 try simp only [la, Act.put]
 refine ty 3 rfl (fun K hK => ?_)
 refine step_put_blk (by rfl) _ _ _ (by rfl) ((w.heap.size + 2)) (#[.slice A n c, .int .i64 (m0 : Int), .int .i64 ((k : Int) + 1)]) (by rfl) (by rfl) _ _ fZ1 (by kernel_rfl) rfl (by kernel_rfl) ?_
 intro w2_ fZ2 hg2 hz2
 have neV2 := fV1.lt
 have fV2 := fV1.gx hg2
 have neW2 := fW1.lt
 have fW2 := fW1.gx hg2
 have fo2 := Cells.grownN fo1 HNn.out.1 hg2 (by omega)
 have fc2 := Cells.grownN fc1 HNn.out.2.1 hg2 (by omega)
 have fp2 := Cells.grownN fp1 HNn.out.2.2 hg2 (by omega)
 have Hb2 := bgx Hb1 hg2 Hb1.size
 have Zb2 := Nat.le_trans Zb1 hg2.size
 refine hK.out _ _ ⟨Hb2, fW2, fZ2⟩ fun _ => ?_
 clear hK K
 try simp only [la, Act.put]
 refine tq 4 rfl ⟨Hb2, fW2, fZ2⟩ ?_
 try simp only [la, Act.put]
 refine td ?_ _
 go_wp2_with (fail)
 have hSig : SgN w.heap.size w2_ g #[.int .i64 g.i, .slice Ao g.o.length co, .slice Ac g.c.length cq, .slice Ap g.p.length cp] := ⟨Ao, co, Ac, cq, Ap, cp, rfl, ⟨fo2, fc2, fp2⟩, ⟨HNn.out.1.mono (by omega), HNn.out.2.1.mono (by omega), HNn.out.2.2.mono (by omega)⟩, Hr8.out⟩
 have hVerN : VerN w.heap.size C cc w2_ (Mir.vsnV s m0 k its cs) V9 := by
  unfold Mir.vsnV
  rw [HS.out, Hg.out]
  refine ⟨Ao, co, g.o.length, Ac, cq, g.c.length, Ap, cp, g.p.length, HV9.out.symm.trans (by show _ = Mir.verA ((k : Int) + 1) S (.slice C cs.length cc) _ _ _ _; rw [Hmc.out]), HSd.out, (by show cs.length ≤ cc; rw [Hmc.out]; exact Hcc.out.1), Hcc.out.2, hSig.sig, HNn.out.1.mono (by omega), HNn.out.2.1.mono (by omega), HNn.out.2.2.mono (by omega)⟩
 have hVer : VerC w2_ (Mir.vsnV s m0 k its cs) V9 := hVerN.ver (HC.out.below Hb2)
 exact ret_row3 (u := .int .i64 0) rfl (w.heap.size + 1) (w.heap.size + 2) 34 24 V9 #[.slice A n c, .int .i64 (m0 : Int), .int .i64 ((k : Int) + 1)] _ _ rfl rfl rfl fV2 fZ2 Tryz.underlying34 Tryz.underlying24 rfl rfl iV9.out (by kernel_rfl) rfl ⟨V9, #[.slice A n c, .int .i64 (m0 : Int), .int .i64 ((k : Int) + 1)], by rw [HR2.out], .inl ⟨HR2.out, rfl, hVer, hVerN⟩, Hb2⟩
end Go.Proofs.YtkflpoiobpblhaaGreat
namespace Go.Proofs.YtkflpoiobpblhaaGreat
open Go.RowKit Go.Shelf
set_option linter.unusedVariables false
set_option linter.unusedSimpArgs false
def Tryz.growV_ren : Go.Shelf.Ren := ⟨fun | 4 => 83 | n => n, fun | 22 => 25 | 25 => 34 | 3 => 3 | 4 => 4 | 9 => 9 | 20 => 20 | 0 => 0 | n => n, fun | n => n⟩
theorem Tryz.growV : Go.Proofs.Lays8.n4 Tryz.prog Tryz.growV_ren := {
 mixed := by kernel_rfl
 f4 := ⟨Tryz.f83.name, by decide, Tryz.func83.trans (congrArg some (by kernel_rfl))⟩
 t0 := Tryz.underlying0
 a0 := Tryz.isAgg0
 z0 := Tryz.sizeOf0
 v0 := Tryz.zeroValue0
 t3 := Tryz.underlying3
 a3 := Tryz.isAgg3
 z3 := Tryz.sizeOf3
 v3 := Tryz.zeroValue3
 t4 := Tryz.underlying4
 a4 := Tryz.isAgg4
 z4 := Tryz.sizeOf4
 v4 := Tryz.zeroValue4
 t9 := Tryz.underlying9
 a9 := Tryz.isAgg9
 z9 := Tryz.sizeOf9
 v9 := Tryz.zeroValue9
 t20 := Tryz.underlying20
 a20 := Tryz.isAgg20
 z20 := Tryz.sizeOf20
 v20 := Tryz.zeroValue20
 t22 := Tryz.underlying25
 a22 := Tryz.isAgg25
 z22 := Tryz.sizeOf25
 v22 := Tryz.zeroValue25 }
theorem grow_nilV (n : Nat) (w : World) (hb : n ≤ 1000000000) :
    Calls Tryz.prog 83 #[.slice none 0 0, .int .i64 n] w fun e w' =>
     ∃ A c, e = .returned (.slice A 0 c) ∧ n ≤ c ∧ w'.ownsRow w.heap.size 34 38 (.slice A 0 c) 0 [] ∧ Below w.heap.size w w' := by
 rcases Nat.eq_zero_or_pos n with rfl | hn
 · refine (Any8.slices_Grow_room Tryz.growV none 0 0 0 w (by omega) (by omega) (by omega) (by omega)).mono ?_
   rintro e w' ⟨rfl, rfl⟩
   exact ⟨none, 0, rfl, by omega, World.ownsRow_nil _ _ _ _, Below.refl _ _⟩
 · obtain ⟨i0, hi0, hz0, hz1, hz2⟩ := info_parts (P := Tryz.prog) (e := 34) (z := .agg Mir.ver0) (size := 38) (bytes := 144) (by kernel_rfl)
   refine (Any8.slices_Grow_grow Tryz.growV i0 (.agg Mir.ver0) hi0 hz0 (by omega) none 0 0 n [] w (by omega) (by omega) (by rw [hz2]; omega) (by omega) (by simp) (fun _ => rfl) (fun a h => by cases h)).mono ?_
   rintro e w' ⟨rfl, rfl⟩
   have hge := grownCap_ge w (0 + n) 0 34
   refine ⟨_, _, rfl, Nat.le_trans (by omega) hge, ?_, ?_⟩
   · refine ⟨rfl, .inr ⟨_, _, _, rfl, Nat.le_refl _, heap_alloc_new w.drew _, Nat.zero_le _, grownCap_le_maxLen _ _ _ _ (by unfold maxLen; omega), ?_, rfl⟩⟩
     rw [Array.size_append, Array.size_append, size_zeroCells, size_zeroCells, show (Value.agg Mir.ver0).cells.size = 38 from Mir.ver0_size]
     have hge2 : 0 + n ≤ grownCap w (0 + n) 0 (Tryz.growV_ren.t 25) := hge
     show 0 + (0 + n - 0) * 38 + (grownCap w (0 + n) 0 (Tryz.growV_ren.t 25) - (0 + n)) * 38 = grownCap w (0 + n) 0 (Tryz.growV_ren.t 25) * 38
     omega
   · exact (below_drewN (Below.refl _ _) 1).alloc (Nat.le_refl _) _
set_option maxRecDepth 100000 in
set_option maxHeartbeats 4000000 in
theorem concat3V (b n1 c1 n2 c2 n3 c3 : Nat) (A1 A2 A3 : Option Addr) (cs1 cs2 cs3 : List Value) (w : World) (f1 : w.cell? ⟨b, 0, none⟩ = some (.slice A1 n1 c1)) (f2 : w.cell? ⟨b, 1, none⟩ = some (.slice A2 n2 c2)) (f3 : w.cell? ⟨b, 2, none⟩ = some (.slice A3 n3 c3))
    (h1 : Cells w A1 cs1) (h2 : Cells w A2 cs2) (h3 : Cells w A3 cs3) (l1 : cs1.length = n1 * 38) (l2 : cs2.length = n2 * 38) (l3 : cs3.length = n3 * 38) (o1 : ∀ u ∈ cs1, u.oneCell' = true) (o2 : ∀ u ∈ cs2, u.oneCell' = true) (o3 : ∀ u ∈ cs3, u.oneCell' = true) (b1 : n1 ≤ 100000) (b2 : n2 ≤ 100000) (b3 : n3 ≤ 100000) (hb : b < w.heap.size) :
    Calls Tryz.prog 44 #[.slice (some ⟨b, 0, none⟩) 3 3] w fun e w' =>
     ∃ A c, e = .returned (.slice A (n1 + n2 + n3) c) ∧ w'.ownsRow w.heap.size 34 38 (.slice A (n1 + n2 + n3) c) (n1 + n2 + n3) (cs1 ++ cs2 ++ cs3) ∧ Below w.heap.size w w' := by
 have F1 := Lib.hid f1; have F2 := Lib.hid f2; have F3 := Lib.hid f3; have H1 := Lib.hid h1; have H2 := Lib.hid h2; have H3 := Lib.hid h3; have O1 := Lib.hid o1; have O2 := Lib.hid o2; have O3 := Lib.hid o3
 clear f1 f2 f3 h1 h2 h3 o1 o2 o3
 go_enter Tryz.func44, Tryz.ntmps44
 go_wp2_with (fail)
 go_loopw [3, 11] (fun s i wr => ∃ k : Nat, k ≤ 3 ∧ i = .int .i64 k ∧ s = .int .i64 (pick4 0 n1 (n1 + n2) (n1 + n2 + n3) k : Nat) ∧ wr = w) (fun _ i _ => 3 - (intOf i).toNat)
 case atStart => exact ⟨0, by omega, rfl, rfl, rfl⟩
 case round =>
  obtain ⟨k, hk, rfl, rfl, rfl⟩ := hrel
  by_cases hlk : k < 3
  · have hc : ∃ A n c, wr.cell? ⟨b, k, none⟩ = some (.slice A n c) ∧ n ≤ 100000 ∧ pick4 0 n1 (n1 + n2) (n1 + n2 + n3) (k + 1) = pick4 0 n1 (n1 + n2) (n1 + n2 + n3) k + n ∧ pick4 0 n1 (n1 + n2) (n1 + n2 + n3) k ≤ 200000 := by
      match k, hlk with
      | 0, _ => exact ⟨A1, n1, c1, F1.out, b1, by simp [pick4], by simp [pick4]⟩
      | 1, _ => exact ⟨A2, n2, c2, F2.out, b2, by simp [pick4], by simp [pick4]; omega⟩
      | 2, _ => exact ⟨A3, n3, c3, F3.out, b3, by simp [pick4], by simp [pick4]; omega⟩
    obtain ⟨A, n, c, f, hn, hs, hp⟩ := hc
    have Hs := Lib.hid hs
    clear hs
    generalize pick4 0 n1 (n1 + n2) (n1 + n2 + n3) k = s at *
    have hdk : decide ((k : Int) < 3) = true := by simp; omega
    have hdn : decide ((s : Int) + (n : Int) < 0) = false := by simp; omega
    go_wp2_with (fail)
    go_roundw
    case rel => exact ⟨k + 1, by omega, by go_num, by rw [Hs.out]; go_num, trivial⟩
    case measure => simp [intOf]; omega
  · have hk2 : k = 3 := by omega
    have hdk : decide ((k : Int) < 3) = false := by simp; omega
    have hs : Hid (pick4 0 n1 (n1 + n2) (n1 + n2 + n3) k = n1 + n2 + n3) := by show _ = _; rw [hk2]; rfl
    clear hk2
    generalize pick4 0 n1 (n1 + n2) (n1 + n2 + n3) k = s at *
    go_wp2_with (fail)
    refine (grow_nilV s wr (by rw [hs.out]; omega)).mono ?_
    rintro e w' ⟨A, c, rfl, hcap, hown, hbl⟩
    go_wp2_with (fail)
    obtain ⟨w0, rfl⟩ : ∃ w0 : World, w0 = wr := ⟨_, rfl⟩
    go_loopw [6, 27] (fun v i wr => ∃ k : Nat, k ≤ 3 ∧ i = .int .i64 k ∧ ∃ A c, v = .slice A (pick4 0 n1 (n1 + n2) (n1 + n2 + n3) k) c ∧ Hid (wr.ownsRow w0.heap.size 34 38 (.slice A (pick4 0 n1 (n1 + n2) (n1 + n2 + n3) k) c) (pick4 0 n1 (n1 + n2) (n1 + n2 + n3) k) (pick4 [] cs1 (cs1 ++ cs2) (cs1 ++ cs2 ++ cs3) k)) ∧ Below w0.heap.size w0 wr) (fun _ i _ => 3 - (intOf i).toNat)
    case atStart => exact ⟨0, by omega, rfl, A, c, rfl, hown, hbl⟩
    case round =>
     obtain ⟨k, hk, rfl, A, c, rfl, hown, hbl⟩ := hrel
     by_cases hlk : k < 3
     · have hc : ∃ A n c cs, wr.cell? ⟨b, k, none⟩ = some (.slice A n c) ∧ n ≤ 100000 ∧ pick4 0 n1 (n1 + n2) (n1 + n2 + n3) (k + 1) = pick4 0 n1 (n1 + n2) (n1 + n2 + n3) k + n ∧ pick4 0 n1 (n1 + n2) (n1 + n2 + n3) k ≤ 200000 ∧ pick4 [] cs1 (cs1 ++ cs2) (cs1 ++ cs2 ++ cs3) (k + 1) = pick4 [] cs1 (cs1 ++ cs2) (cs1 ++ cs2 ++ cs3) k ++ cs ∧ Cells wr A cs ∧ cs.length = n * 38 ∧ ∀ u ∈ cs, u.oneCell' = true := by
         match k, hlk with
         | 0, _ => exact ⟨A1, n1, c1, cs1, (hbl.cell (p := ⟨b, 0, none⟩) hb).trans F1.out, b1, by simp [pick4], by simp [pick4], by simp [pick4], H1.out.below hbl, l1, O1.out⟩
         | 1, _ => exact ⟨A2, n2, c2, cs2, (hbl.cell (p := ⟨b, 1, none⟩) hb).trans F2.out, b2, by simp [pick4], by simp [pick4]; omega, by simp [pick4], H2.out.below hbl, l2, O2.out⟩
         | 2, _ => exact ⟨A3, n3, c3, cs3, (hbl.cell (p := ⟨b, 2, none⟩) hb).trans F3.out, b3, by simp [pick4], by simp [pick4]; omega, by simp [pick4], H3.out.below hbl, l3, O3.out⟩
       obtain ⟨A', n, c', cs, f, hn, hs, hp, hcs, hcl, hlen, h1c⟩ := hc
       have Hs := Lib.hid hs; have Hcs := Lib.hid hcs; have Hcl := Lib.hid hcl; have H1c := Lib.hid h1c; have Hlen := Lib.hid hlen
       clear hs hcs hcl h1c hlen
       generalize pick4 0 n1 (n1 + n2) (n1 + n2 + n3) k = s at *
       obtain ⟨v0, hv0⟩ : ∃ v0, v0 = Value.slice A' n c' := ⟨_, rfl⟩
       rw [← hv0] at f
       have Hv := Lib.hid hv0
       clear hv0
       generalize pick4 [] cs1 (cs1 ++ cs2) (cs1 ++ cs2 ++ cs3) k = xs at *
       have hdk : decide ((k : Int) < 3) = true := by simp; omega
       go_wp2_with (at_builtin; refine wpList_append_cells rfl (.tmp 31) (.tmp 32) 25 rfl w0.heap.size 34 (.agg Mir.ver0) 38 144 (by kernel_rfl) (by kernel_rfl) Mir.ver0_size (by omega) (.slice A s c) s xs hown.out rfl A' n c' cs Hv.out (by rw [Hlen.out]) Hcl.out H1c.out (by unfold maxLen; omega) (by omega) hbl.size ?_; intro v' w' hown' hgr hsits; obtain ⟨A'', c'', rfl, -, -, -⟩ := own_form hown'; have hbl' := Lib.hid (below_grown hbl hgr hbl.size (fun k hk => (hown.out.lt k hk).1)); have Hown' := Lib.hid hown'; clear hown' hgr hsits)
       go_roundw
       case rel => exact ⟨k + 1, by omega, by go_num, A'', c'', by rw [Hs.out], by show World.ownsRow _ _ _ _ _ _ _; rw [Hs.out, Hcs.out]; exact Hown'.out, hbl'.out⟩
       case measure => simp [intOf]; omega
     · have hk2 : k = 3 := by omega
       have hdk : decide ((k : Int) < 3) = false := by simp; omega
       have hs2 : Hid (pick4 0 n1 (n1 + n2) (n1 + n2 + n3) k = n1 + n2 + n3) := by show _ = _; rw [hk2]; rfl
       have hcs2 : Hid (pick4 [] cs1 (cs1 ++ cs2) (cs1 ++ cs2 ++ cs3) k = cs1 ++ cs2 ++ cs3) := by show _ = _; rw [hk2]; rfl
       clear hk2
       generalize pick4 0 n1 (n1 + n2) (n1 + n2 + n3) k = s2 at *
       generalize pick4 [] cs1 (cs1 ++ cs2) (cs1 ++ cs2 ++ cs3) k = xs at *
       go_wp2_with (fail)
       go_ret
       have h := hs2.out
       subst h
       have h2 := hcs2.out
       subst h2
       exact ⟨A, c, rfl, hown.out, hbl⟩
end Go.Proofs.YtkflpoiobpblhaaGreat
