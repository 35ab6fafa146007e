/- Walks and plain laws that the statement rests on: Sig8. -/
import Derived.Laws.EntriesVeiled
import Derived.Test.YtkflpoiobpblhaaGreatP00
import Derived.Test.YtkflpoiobpblhaaGreatP28
import Derived.Test.YtkflpoiobpblhaaGreatPS
namespace Go.Proofs.YtkflpoiobpblhaaGreat
open Go.RowKit
def NoU8 (cs : Array Value) : Prop := ∀ (i : Nat) (y : Int), cs[i]? ≠ some (.int .u8 y)
theorem no8_key {A : Option Addr} {n c : Nat} {a b : Int} : NoU8 #[.slice A n c, .int .i64 a, .int .i64 b] := fun i y => by
 match i with
 | 0 => simp
 | 1 => simp
 | 2 => simp
 | i + 3 => simp
theorem no8_sig {A B C : Option Addr} {n c m d p q : Nat} {a : Int} : NoU8 #[.int .i64 a, .slice A n c, .slice B m d, .slice C p q] := fun i y => by
 match i with
 | 0 => simp
 | 1 => simp
 | 2 => simp
 | 3 => simp
 | i + 4 => simp
theorem Cells.off8 {w w' : World} {A : Option Addr} {l : List Nat} {g : Nat} {t : TypeId} {cs : Array Value} (h : Cells w A (bytesV l)) (hg : w.grownBy w' (some g)) (hB : Blk w g t cs) (hno : NoU8 cs) : Cells w' A (bytesV l) := by
 cases l with
 | nil => exact .inl (by unfold bytesV; rfl)
 | cons y l =>
   obtain ⟨b, off, rfl, hlt, hc⟩ := h.addr (by rw [bytesV_length]; simp)
   have h0 := hc 0 _ (bytesV_get (b := y :: l) (k := 0) (by simp))
   have hne : b ≠ g := fun e => by
    subst e
    rw [Nat.add_zero, hB.cell] at h0
    exact hno off _ h0
   exact h.grown hg (fun b' off' hA e => by injection hA with hA; injection hA with h1 _; injection e with e; omega)
theorem Cells.grownB {w w' : World} {A : Option Addr} {l : List Nat} {ob size n : Nat} {e : TypeId} {v : Value} {xs : List Value} (h : Cells w A (bytesV l)) (hg : w.grownBy w' v.ownBlock) (ha : l = [] ∨ ∀ b off, A = some ⟨b, off, none⟩ → b < ob) (ho : w.ownsRow ob e size v n xs) : Cells w' A (bytesV l) := by
 rcases ha with rfl | ha
 · exact .inl (by unfold bytesV; rfl)
 · exact h.grown hg (fun b off hA e => absurd (own_base ho _ e.symm) (Nat.not_le.2 (ha b off hA)))
theorem cells_lt {w : World} {A : Option Addr} {l : List Nat} {ob : Nat} (h : Cells w A (bytesV l)) (hz : w.heap.size ≤ ob) : l = [] ∨ ∀ b off, A = some ⟨b, off, none⟩ → b < ob := by
 cases l with
 | nil => exact .inl rfl
 | cons y l =>
   obtain ⟨b, off, rfl, hlt, -⟩ := h.addr (by rw [bytesV_length]; simp)
   exact .inr fun b' off' hA => by injection hA with hA; injection hA with h1 _; omega
theorem openL_zero (s : List Nat) (i : Nat) (x : List Bool) : openL s i x 0 = [] := List.eq_nil_of_length_eq_zero (openL_length s i x 0)
theorem closL_zero (s : List Nat) (i : Nat) (x : List Bool) : closL s i x 0 = [] := List.eq_nil_of_length_eq_zero (closL_length s i x 0)
def Apart2 (v v' : Value) : Prop := ∀ b, v.ownBlock = some b → v'.ownBlock ≠ some b
theorem apart2_symm {v v' : Value} (h : Apart2 v v') : Apart2 v' v := fun b h1 h2 => h b h2 h1
theorem apart2_none (v : Value) : Apart2 (.slice none 0 0) v := fun b h => by simp [Value.ownBlock] at h
theorem apart2_kept {v v' : Value} (h : Apart2 v v') : v'.ownBlock = none ∨ v'.ownBlock ≠ v.ownBlock := by
 cases hv : v'.ownBlock with
 | none => exact .inl rfl
 | some b => exact .inr fun e => h b e.symm hv
theorem apart2_sits {v v2 v' : Value} {w : World} {base : Nat} {e : TypeId} {size n : Nat} {xs : List Value} (hs : Sits v v2 w) (h : Apart2 v v') (ho : w.ownsRow base e size v' n xs) : Apart2 v2 v' := by
 intro b hb hb'
 rcases hs with e | ⟨g, e, hg⟩
 · rw [e] at hb; exact h b hb hb'
 · rw [e] at hb
   injection hb with hb
   have := (ho.lt b hb').2
   omega
theorem ret_row3 {P : Program} {fn : Func} {R : Ending → World → Prop} {a : Act} {w : World} {p q r : Tmp} {ty ty2 : TypeId} {u : Value} (h : fn.results = #[.cell p ty, .cell q ty2, .tmp r]) (g g2 : Nat) (t t2 : TypeId) (cs cs2 : Array Value) (d d2 : TypeDesc)
    (hp : a.tmps.getD p undef = .pointer (some ⟨g, 0, none⟩)) (hq : a.tmps.getD q undef = .pointer (some ⟨g2, 0, none⟩)) (hr : a.tmps.getD r undef = u) (hg : Blk w g t cs) (hg2 : Blk w g2 t2 cs2) (hu : P.underlying ty = some d) (hu2 : P.underlying ty2 = some d2)
    (hd : (match d with | .struct _ | .array _ _ => true | _ => false) = true) (hd2 : (match d2 with | .struct _ | .array _ _ => true | _ => false) = true)
    (hi : (P.info? ty).map (·.size) = some cs.size) (hi2 : (P.info? ty2).map (·.size) = some cs2.size) (hdf : a.defers = []) (hR : R (.returned (.tuple #[.agg cs, .agg cs2, u])) w) : bodyPost P fn R .ret a w := by
 refine bodyPost_ret (v := .tuple #[.agg cs, .agg cs2, u]) ?_ hdf hR
 have hp' : a.tmps[p]?.getD undef = .pointer (some ⟨g, 0, none⟩) := by simpa using hp
 have hq' : a.tmps[q]?.getD undef = .pointer (some ⟨g2, 0, none⟩) := by simpa using hq
 have hr' : a.tmps[r]?.getD undef = u := by simpa using hr
 simp [results, h, hp', hq', hr', asAddr, run_loadVar_row w g t ty cs (0, 0) d hg hu hd hi, run_loadVar_row w g2 t2 ty2 cs2 (0, 0) d2 hg2 hu2 hd2 hi2]
theorem run_idxB (x : List Bool) (k : Nat) (y : Bool) (hx : x.length = 64) (hk : k < 64) (hy : x.getD k false = y) (W : World) : (Instr.index 97 (.agg (arrB x)) (.int .i64 (k : Int))).run Tryz.prog W = .ok (.bool y) W := by
 have h0 : (0 : Int) ≤ (k : Int) ∧ (k : Int) < 64 := by omega
 have e := arrB_get (l := x) (j := k) (by rw [hx]; exact hk)
 rw [hy] at e
 simp [Instr.index, run_underlying Tryz.underlying97, asIntOf, h0, go_sem, e]
 intro; omega
def ZK : Array Value := #[.slice none 0 0, .int .i64 0, .int .i64 0]
set_option linter.unusedSimpArgs false in
set_option maxRecDepth 100000 in
set_option maxHeartbeats 4000000 in
theorem Sign_bad (A : Option Addr) (n c : Nat) (m u : Int) (B : Option Addr) (k d : Nat) (w : World) (h : okKey n m u = false ∨ (okKey n m u = true ∧ k ≤ 65536 ∧ u = m)) :
    Calls Tryz.prog 30 #[.agg #[.slice A n c, .int .i64 m, .int .i64 u], .slice B k d] w fun e w' => e = .returned (.tuple #[.agg #[.slice none 0 0, .int .i64 0, .int .i64 0], .agg #[.int .i64 0, .slice none 0 0, .slice none 0 0, .slice none 0 0], .int .i64 40]) ∧ Below w.heap.size w w' := by
 rcases h with h | ⟨h, hk, rfl⟩
 · have HV := Lib.hid (fun W => valid_any A n c m u W)
   rw [h] at HV
   clear h
   go_enter Tryz.func30, Tryz.ntmps30
   go_wp2_with (fail)
   generalize hge : World.alloc _ _ = w1
   have hall : Blk w1 w.heap.size 24 #[.slice A n c, .int .i64 m, .int .i64 u] ∧ Blk w1 (w.heap.size + 1) 24 #[.slice none 0 0, .int .i64 0, .int .i64 0] ∧ Blk w1 (w.heap.size + 1 + 1) 32 #[.int .i64 0, .slice none 0 0, .slice none 0 0, .slice none 0 0] ∧ Below w.heap.size w w1 := by
    subst hge
    exact blk_three w _ _ _ 24 24 32
   have H1 := Lib.hid hall.1; have HR := Lib.hid hall.2.1; have HS := Lib.hid hall.2.2.1; have HB := Lib.hid hall.2.2.2
   have oR : w.heap.size + 1 < w1.heap.size := HR.out.lt
   have oS : w.heap.size + 1 + 1 < w1.heap.size := HS.out.lt
   clear hge hall
   refine (HV.out w1).mono ?_
   rintro e w2 ⟨rfl, hb2⟩
   have HK2 := Lib.hid (H1.out.below hb2)
   have HR2 := Lib.hid (HR.out.below hb2)
   have HS2 := Lib.hid (HS.out.below hb2)
   have HB2 := Lib.hid (below_of HB.out hb2 HB.out.size)
   have hz2 : w1.heap.size ≤ w2.heap.size := hb2.size
   clear hb2
   go_wp2_with (fail)
   refine wp_region_held_drew (S := fun W => Below w.heap.size w W ∧ Blk W (w.heap.size + 1) 24 #[.slice none 0 0, .int .i64 0, .int .i64 0] ∧ Blk W (w.heap.size + 1 + 1) 32 #[.int .i64 0, .slice none 0 0, .slice none 0 0, .slice none 0 0]) (by kernel_rfl) (⟨below_drewN HB2.out 1, HR2.out, HS2.out⟩) (fun Hd => ?_)
   have Hd : Below w.heap.size w w2.drew := below_drewN HB2.out 1
   have Zd : w1.heap.size ≤ w2.drew.heap.size := hz2
   have fR : Blk w2.drew (w.heap.size + 1) 24 #[.slice none 0 0, .int .i64 0, .int .i64 0] := HR2.out
   have fS : Blk w2.drew (w.heap.size + 1 + 1) 32 #[.int .i64 0, .slice none 0 0, .slice none 0 0, .slice none 0 0] := HS2.out
   generalize World.drew w2 = wd at *
   refine ts 0 rfl ⟨Hd, fR, fS⟩ (fun w hSw => by
    have q0 := Blk.cellv hSw.2.1 (i := 0) rfl
    have q1 := Blk.cellv hSw.2.1 (i := 1) rfl
    have q2 := Blk.cellv hSw.2.1 (i := 2) rfl
    go_simp
    try with_reducible rfl) ?_
   refine ts 1 rfl ⟨Hd, fR, fS⟩ (fun w hSw => by
    have q0 := Blk.cellv hSw.2.2 (i := 0) rfl
    have q1 := Blk.cellv hSw.2.2 (i := 1) rfl
    have q2 := Blk.cellv hSw.2.2 (i := 2) rfl
    have q3 := Blk.cellv hSw.2.2 (i := 3) rfl
    go_simp
    try with_reducible rfl) ?_
   try simp only [la, Act.put]
   refine ty 2 rfl (fun K hK => ?_)
   refine step_put_blk (by rfl) _ _ _ (by rfl) (w.heap.size + 1) (#[.slice none 0 0, .int .i64 0, .int .i64 0]) (by rfl) (by rfl) _ _ fR (by kernel_rfl) (by rfl) (by simp [Value.oneCell']) ?_
   intro w1_ fR1 hg1 hz1
   have neS1 := fS.lt
   have fS1 := fS.gx hg1
   have Hb1 := bgx Hd hg1 Hd.size
   have Zb1 := Nat.le_trans Zd hg1.size
   refine hK.out _ _ ⟨Hb1, fR1, fS1⟩ fun _ => ?_
   clear hK K
   try simp only [la, Act.put]
   refine ty 3 rfl (fun K hK => ?_)
   refine step_put_blk (by rfl) _ _ _ (by rfl) (w.heap.size + 1 + 1) (#[.int .i64 0, .slice none 0 0, .slice none 0 0, .slice none 0 0]) (by rfl) (by rfl) _ _ fS1 (by kernel_rfl) (by rfl) (by simp [Value.oneCell']) ?_
   intro w2_ fS2 hg2 hz2
   have neR2 := fR1.lt
   have fR2 := fR1.gx hg2
   have Hb2 := bgx Hb1 hg2 Hb1.size
   have Zb2 := Nat.le_trans Zb1 hg2.size
   refine hK.out _ _ ⟨Hb2, fR2, fS2⟩ fun _ => ?_
   clear hK K
   try simp only [la, Act.put]
   refine tq 4 rfl ⟨Hb2, fR2, fS2⟩ ?_
   try simp only [la, Act.put]
   refine td ?_ _
   go_wp2_with (fail)
   exact ret_row3 rfl (w.heap.size + 1) (w.heap.size + 1 + 1) 24 32 #[.slice none 0 0, .int .i64 0, .int .i64 0] #[.int .i64 0, .slice none 0 0, .slice none 0 0, .slice none 0 0] _ _ rfl rfl rfl fR2 fS2 Tryz.underlying24 Tryz.underlying32 rfl rfl (by kernel_rfl) (by kernel_rfl) rfl ⟨rfl, Hb2⟩
 · have HV := Lib.hid (fun W => valid_any A n c u u W)
   rw [h] at HV
   have hkI : (k : Int) ≤ 65536 := by omega
   clear h
   go_enter Tryz.func30, Tryz.ntmps30
   go_wp2_with (fail)
   generalize hge : World.alloc _ _ = w1
   have hall : Blk w1 w.heap.size 24 #[.slice A n c, .int .i64 u, .int .i64 u] ∧ Blk w1 (w.heap.size + 1) 24 #[.slice none 0 0, .int .i64 0, .int .i64 0] ∧ Blk w1 (w.heap.size + 1 + 1) 32 #[.int .i64 0, .slice none 0 0, .slice none 0 0, .slice none 0 0] ∧ Below w.heap.size w w1 := by
    subst hge
    exact blk_three w _ _ _ 24 24 32
   have H1 := Lib.hid hall.1; have HR := Lib.hid hall.2.1; have HS := Lib.hid hall.2.2.1; have HB := Lib.hid hall.2.2.2
   have oR : w.heap.size + 1 < w1.heap.size := HR.out.lt
   have oS : w.heap.size + 1 + 1 < w1.heap.size := HS.out.lt
   clear hge hall
   refine (HV.out w1).mono ?_
   rintro e w2 ⟨rfl, hb2⟩
   have HK2 := Lib.hid (H1.out.below hb2)
   have HR2 := Lib.hid (HR.out.below hb2)
   have HS2 := Lib.hid (HS.out.below hb2)
   have HB2 := Lib.hid (below_of HB.out hb2 HB.out.size)
   have hz2 : w1.heap.size ≤ w2.heap.size := hb2.size
   clear hb2
   have q1 := HK2.out.cellv (i := 1) rfl
   have q2 := HK2.out.cellv (i := 2) rfl
   go_wp2_with (fail)
   clear q1 q2
   refine wp_region_held_drew (S := fun W => Below w.heap.size w W ∧ Blk W (w.heap.size + 1) 24 #[.slice none 0 0, .int .i64 0, .int .i64 0] ∧ Blk W (w.heap.size + 1 + 1) 32 #[.int .i64 0, .slice none 0 0, .slice none 0 0, .slice none 0 0]) (by kernel_rfl) (⟨below_drewN HB2.out 1, HR2.out, HS2.out⟩) (fun Hd => ?_)
   have Hd : Below w.heap.size w w2.drew := below_drewN HB2.out 1
   have Zd : w1.heap.size ≤ w2.drew.heap.size := hz2
   have fR : Blk w2.drew (w.heap.size + 1) 24 #[.slice none 0 0, .int .i64 0, .int .i64 0] := HR2.out
   have fS : Blk w2.drew (w.heap.size + 1 + 1) 32 #[.int .i64 0, .slice none 0 0, .slice none 0 0, .slice none 0 0] := HS2.out
   generalize World.drew w2 = wd at *
   refine ts 0 rfl ⟨Hd, fR, fS⟩ (fun w hSw => by
    have q0 := Blk.cellv hSw.2.1 (i := 0) rfl
    have q1 := Blk.cellv hSw.2.1 (i := 1) rfl
    have q2 := Blk.cellv hSw.2.1 (i := 2) rfl
    go_simp
    try with_reducible rfl) ?_
   try simp only [la, Act.put]
   refine ts 1 rfl ⟨Hd, fR, fS⟩ (fun w hSw => by
    have q0 := Blk.cellv hSw.2.2 (i := 0) rfl
    have q1 := Blk.cellv hSw.2.2 (i := 1) rfl
    have q2 := Blk.cellv hSw.2.2 (i := 2) rfl
    have q3 := Blk.cellv hSw.2.2 (i := 3) rfl
    go_simp
    try with_reducible rfl) ?_
   try simp only [la, Act.put]
   refine ty 2 rfl (fun K hK => ?_)
   refine step_put_blk (by rfl) _ _ _ (by rfl) (w.heap.size + 1) (#[.slice none 0 0, .int .i64 0, .int .i64 0]) (by rfl) (by rfl) _ _ fR (by kernel_rfl) (by rfl) (by simp [Value.oneCell']) ?_
   intro w1_ fR1 hg1 hz1
   have neS1 := fS.lt
   have fS1 := fS.gx hg1
   have Hb1 := bgx Hd hg1 Hd.size
   have Zb1 := Nat.le_trans Zd hg1.size
   refine hK.out _ _ ⟨Hb1, fR1, fS1⟩ fun _ => ?_
   clear hK K
   try simp only [la, Act.put]
   refine ty 3 rfl (fun K hK => ?_)
   refine step_put_blk (by rfl) _ _ _ (by rfl) (w.heap.size + 1 + 1) (#[.int .i64 0, .slice none 0 0, .slice none 0 0, .slice none 0 0]) (by rfl) (by rfl) _ _ fS1 (by kernel_rfl) (by rfl) (by simp [Value.oneCell']) ?_
   intro w2_ fS2 hg2 hz2
   have neR2 := fR1.lt
   have fR2 := fR1.gx hg2
   have Hb2 := bgx Hb1 hg2 Hb1.size
   have Zb2 := Nat.le_trans Zb1 hg2.size
   refine hK.out _ _ ⟨Hb2, fR2, fS2⟩ fun _ => ?_
   clear hK K
   refine tq 4 rfl ⟨Hb2, fR2, fS2⟩ ?_
   try simp only [la, Act.put]
   refine td ?_ _
   go_wp2_with (fail)
   exact ret_row3 rfl (w.heap.size + 1) (w.heap.size + 1 + 1) 24 32 #[.slice none 0 0, .int .i64 0, .int .i64 0] #[.int .i64 0, .slice none 0 0, .slice none 0 0, .slice none 0 0] _ _ rfl rfl rfl fR2 fS2 Tryz.underlying24 Tryz.underlying32 rfl rfl (by kernel_rfl) (by kernel_rfl) rfl ⟨rfl, Hb2⟩
set_option linter.unusedSimpArgs false in
set_option maxRecDepth 100000 in
set_option maxHeartbeats 4000000 in
theorem Sign_good (A : Option Addr) (n c m u : Nat) (s : List Nat) (B : Option Addr) (k0 d : Nat) (msg : List Nat) (w : World) (hA : Cells w A (bytesV s)) (hs : s.length = n) (h8 : ByteL s) (hok : okKey n m u = true) (hu : u < m) (hM : Cells w B (bytesV msg)) (hm : msg.length = k0) (hk0 : k0 ≤ 65536) (hm8 : ByteL msg) :
    Calls Tryz.prog 30 #[.agg #[.slice A n c, .int .i64 m, .int .i64 u], .slice B k0 d] w fun e w' => ∃ (Ao : Option Addr) (co : Nat) (Ac : Option Addr) (cc : Nat) (Ap : Option Addr) (q cp : Nat), e = .returned (.tuple #[.agg #[.slice A n c, .int .i64 m, .int .i64 ((u : Int) + 1)], .agg #[.int .i64 u, .slice Ao 64 co, .slice Ac 64 cc, .slice Ap q cp], .int .i64 0]) ∧
     (pathR (pubL s m) u).length = q ∧ q ≤ cp ∧ cp ≤ maxLen ∧ 64 ≤ co ∧ co ≤ maxLen ∧ 64 ≤ cc ∧ cc ≤ maxLen ∧ Cells w' Ao (bytesV (openL s u (bitL (msgS (treeS (pubL s m)) u msg) 64) 64).flatten) ∧ Cells w' Ac (bytesV (closL s u (bitL (msgS (treeS (pubL s m)) u msg) 64) 64).flatten) ∧ Cells w' Ap (bytesV (pathR (pubL s m) u).flatten) ∧ (∀ l, NewA w.heap.size Ao l) ∧ (∀ l, NewA w.heap.size Ac l) ∧ NewA w.heap.size Ap (pathR (pubL s m) u).flatten ∧ Below w.heap.size w w' := by
 obtain ⟨hn1, hn64, hm1, hm4096, hu0, hum⟩ := okKey_true hok
 have HV := Lib.hid (fun W => valid_any A n c m u W)
 rw [hok] at HV
 have HA := Lib.hid hA
 have Hs := Lib.hid hs
 have Hs8 := Lib.hid h8
 have HM := Lib.hid hM
 have hn : n ≤ 1000 := by omega
 have hm4 : m ≤ 4096 := by omega
 have hu64 : u < 65536 := by omega
 have HSg := Lib.hid (fun W h => signed_any (treeS (pubL s m)) u msg B k0 d W (treeS_isD _) hu64 h hm (by omega) hm8)
 obtain ⟨x, hx⟩ : ∃ x, bitL (msgS (treeS (pubL s m)) u msg) 64 = x := ⟨_, rfl⟩
 have Hlx := Lib.hid (show x.length = 64 by rw [← hx, bitL_length])
 rw [hx] at HSg ⊢
 have hkI : (k0 : Int) ≤ 65536 := by omega
 have hne : ((u : Int) == (m : Int)) = false := by simp; omega
 have hne2 : (u == m) = false := by simp; omega
 clear hA hs h8 hM hm hm8 hok hx hn1 hn64 hm1 hm4096 hu0 hum
 go_enter Tryz.func30, Tryz.ntmps30
 go_wp2_with (fail)
 generalize hge : World.alloc _ _ = w1
 have hall : Blk w1 w.heap.size 24 #[.slice A n c, .int .i64 m, .int .i64 u] ∧ Blk w1 (w.heap.size + 1) 24 #[.slice none 0 0, .int .i64 0, .int .i64 0] ∧ Blk w1 (w.heap.size + 1 + 1) 32 #[.int .i64 0, .slice none 0 0, .slice none 0 0, .slice none 0 0] ∧ Below w.heap.size w w1 := by
  subst hge
  exact blk_three w _ _ _ 24 24 32
 have H1 := Lib.hid hall.1; have HR := Lib.hid hall.2.1; have HS := Lib.hid hall.2.2.1; have HB := Lib.hid hall.2.2.2
 have oR : w.heap.size + 1 < w1.heap.size := HR.out.lt
 have oS : w.heap.size + 1 + 1 < w1.heap.size := HS.out.lt
 clear hge hall
 refine (HV.out w1).mono ?_
 rintro e w2 ⟨rfl, hb2⟩
 have HK2 := Lib.hid (H1.out.below hb2)
 have HR2 := Lib.hid (HR.out.below hb2)
 have HS2 := Lib.hid (HS.out.below hb2)
 have HB2 := Lib.hid (below_of HB.out hb2 HB.out.size)
 have hz2 : w1.heap.size ≤ w2.heap.size := hb2.size
 clear hb2
 have q0 := HK2.out.cellv (i := 0) rfl
 have q1 := HK2.out.cellv (i := 1) rfl
 have q2 := HK2.out.cellv (i := 2) rfl
 go_wp2_with (fail)
 refine (publics_any A n c m u s w2 (HA.out.below HB2.out) Hs.out hn Hs8.out hm4).mono ?_
 rintro e w3 ⟨A3, c3, rfl, hc3, hm3, hC3, hb3⟩
 have HK3 := Lib.hid (HK2.out.below hb3)
 have HR3 := Lib.hid (HR2.out.below hb3)
 have HS3 := Lib.hid (HS2.out.below hb3)
 have HB3 := Lib.hid (below_of HB2.out hb3 HB2.out.size)
 have hz3 : w1.heap.size ≤ w3.heap.size := Nat.le_trans hz2 hb3.size
 have HL3 := Lib.hid hC3
 have hm3' := Lib.hid hm3
 clear hb3 q0 q1 q2 hC3 hm3
 have q2 := HK3.out.cellv (i := 2) rfl
 have g0 := HS3.out.frozen 0
 have p0 := HS3.out.cellv (i := 0) rfl
 go_wp2_with (fail)
 generalize hge : World.setCell _ _ _ = w4
 have hg4 : w3.grownBy w4 (some (w.heap.size + 1 + 1)) := by subst hge; exact grown_setOne _
 have HS4 := Lib.hid (show Blk w4 (w.heap.size + 1 + 1) 32 #[.int .i64 u, .slice none 0 0, .slice none 0 0, .slice none 0 0] by subst hge; have := HS3.out.set_ 0 (.int .i64 u); exact this)
 have HK4 := Lib.hid (HK3.out.grown hg4 (by simp; omega))
 have HR4 := Lib.hid (HR3.out.grown hg4 (by simp))
 have HL4 := Lib.hid (HL3.out.off8 hg4 HS3.out no8_sig)
 have HB4 := Lib.hid (below_grown HB3.out hg4 HB3.out.size (by simp; omega))
 have hz4 : w1.heap.size ≤ w4.heap.size := Nat.le_trans hz3 hg4.size
 clear hge hg4 q2 g0 p0
 refine (path_any (pubL s m) u m A3 c3 w4 (pubL_length s m) (pubL_isL s m) hc3 hm3'.out (by omega) HL4.out).mono ?_
 rintro e w5 ⟨Ap, q, cp, rfl, hpq, hqc, hcp, hP5, hN5, hb5⟩
 have HN5 := Lib.hid (hN5.mono HB4.out.size)
 clear hN5
 have e1 : errArg (okPath (pubL s m) (u : Int)) = 0 := by unfold okPath; rw [pubL_length, decide_eq_true (by omega), errArg_true]
 have HS5 := Lib.hid (HS4.out.below hb5)
 have HK5 := Lib.hid (HK4.out.below hb5)
 have HR5 := Lib.hid (HR4.out.below hb5)
 have HL5 := Lib.hid (HL4.out.below hb5)
 have HP5 := Lib.hid hP5
 have HB5 := Lib.hid (below_of HB4.out hb5 HB4.out.size)
 have hz5 : w1.heap.size ≤ w5.heap.size := Nat.le_trans hz4 hb5.size
 have Hpq := Lib.hid hpq
 have Hqc := Lib.hid hqc
 have Hcp := Lib.hid hcp
 clear hb5 hP5 hpq hqc hcp
 have q0 := HK5.out.cellv (i := 0) rfl
 have p0 := HS5.out.cellv (i := 0) rfl
 have p3 := HS5.out.cellv (i := 3) rfl
 have g3 := HS5.out.frozen 3
 go_upto_region 11 with (fail)
 generalize hge : World.alloc _ _ = w8
 have hg6 : w5.grownBy (w5.setCell ⟨w.heap.size + 1 + 1, 3, none⟩ (.slice Ap q cp)) (some (w.heap.size + 1 + 1)) := grown_setOne _
 have HS8 := Lib.hid (show Blk w8 (w.heap.size + 1 + 1) 32 #[.int .i64 u, .slice none 0 0, .slice none 0 0, .slice Ap q cp] by subst hge; have := (HS5.out.set_ 3 (.slice Ap q cp)).alloc (.cells #[.slice A n c, .int .i64 u] 95); exact this)
 have HK8 := Lib.hid (show Blk w8 w.heap.size 24 #[.slice A n c, .int .i64 m, .int .i64 u] by subst hge; exact (HK5.out.grown hg6 (by simp; omega)).alloc _)
 have HR8 := Lib.hid (show Blk w8 (w.heap.size + 1) 24 #[.slice none 0 0, .int .i64 0, .int .i64 0] by subst hge; exact (HR5.out.grown hg6 (by simp)).alloc _)
 have HL8 := Lib.hid (show Cells w8 A3 (bytesV (pubL s m).flatten) by subst hge; exact (HL5.out.off8 hg6 HS5.out no8_sig).alloc _)
 have HP8 := Lib.hid (show Cells w8 Ap (bytesV (pathR (pubL s m) u).flatten) by subst hge; exact (HP5.out.off8 hg6 HS5.out no8_sig).alloc _)
 have HB8 := Lib.hid (show Below w.heap.size w w8 by subst hge; exact (below_grown HB5.out hg6 HB5.out.size (by simp; omega)).alloc (by simp only [size_setCell]; exact HB5.out.size) _)
 have HO8 := Lib.hid (show Blk w8 w5.heap.size 95 #[.slice A n c, .int .i64 u] by
  subst hge
  have := Blk.new (w5.setCell ⟨w.heap.size + 1 + 1, 3, none⟩ (.slice Ap q cp)) 95 #[.slice A n c, .int .i64 u]
  rwa [size_setCell] at this)
 have hz8 : w1.heap.size ≤ w8.heap.size := by have := HO8.out.lt; omega
 have apP := Lib.hid (cells_lt HP8.out (Nat.le_refl _))
 clear hge hg6 q0 p0 p3 g3
 obtain ⟨E, hE⟩ : ∃ E, w5.heap.size = E := ⟨_, rfl⟩
 rw [hE] at HO8 ⊢
 have oEs : w.heap.size + 1 + 1 < E := by rw [← hE]; exact HS5.out.lt
 clear hE
 have oO : E < w8.heap.size := HO8.out.lt
 have oK : w.heap.size < w8.heap.size := HK8.out.lt
 have oR : w.heap.size + 1 < w8.heap.size := HR8.out.lt
 have oS : w.heap.size + 1 + 1 < w8.heap.size := HS8.out.lt
 refine wp_region_held_drew (S := fun W => Below w.heap.size w W ∧ Blk W (w.heap.size + 1 + 1) 32 #[.int .i64 u, .slice none 0 0, .slice none 0 0, .slice Ap q cp]) (by kernel_rfl) (⟨below_drewN HB8.out 1, HS8.out⟩) (fun Hd => ?_)
 have Hd : Below w.heap.size w w8.drew := below_drewN HB8.out 1
 have Zd : w8.heap.size ≤ w8.drew.heap.size := Nat.le_refl _
 have fK : Blk w8.drew w.heap.size 24 #[.slice A n c, .int .i64 m, .int .i64 u] := HK8.out
 have fR : Blk w8.drew (w.heap.size + 1) 24 #[.slice none 0 0, .int .i64 0, .int .i64 0] := HR8.out
 have fS : Blk w8.drew (w.heap.size + 1 + 1) 32 #[.int .i64 u, .slice none 0 0, .slice none 0 0, .slice Ap q cp] := HS8.out
 have fO : Blk w8.drew E 95 #[.slice A n c, .int .i64 u] := HO8.out
 have fl : Cells w8.drew A3 (bytesV (pubL s m).flatten) := HL8.out
 have fp : Cells w8.drew Ap (bytesV (pathR (pubL s m) u).flatten) := HP8.out
 generalize World.drew w8 = wd at *
 refine tq 0 rfl ⟨Hd, fS⟩ ?_
 refine tq 2 rfl ⟨Hd, fS⟩ ?_
 try simp only [la, Act.put]
 refine ts 3 rfl ⟨Hd, fS⟩ (fun w hSw => by
  have q0 := Blk.cellv hSw.2 (i := 0) rfl
  go_simp
  try with_reducible rfl) ?_
 refine tq 4 rfl ⟨Hd, fS⟩ ?_
 try simp only [la, Act.put]
 refine tq 6 rfl ⟨Hd, fS⟩ ?_
 try simp only [la, Act.put]
 refine ty 1 rfl (fun K hK => ?_)
 go_simp
 refine (tree_any m (pubL s m) A3 c3 _ (pubL_length s m) (pubL_isL s m) hc3 (by omega) fl).mono ?_
 rintro e w1_ ⟨rfl, hb1⟩
 have fK1 := fK.below hb1
 have fR1 := fR.below hb1
 have fS1 := fS.below hb1
 have fO1 := fO.below hb1
 have fl1 := fl.below hb1
 have fp1 := fp.below hb1
 have Hb1 := below_of Hd hb1 Hd.size
 have Zb1 := Nat.le_trans Zd hb1.size
 go_wp2_with (fail)
 refine hK.out _ _ ⟨Hb1, fS1⟩ fun _ => ?_
 clear hK K
 try simp only [la, Act.put]
 refine ty 5 rfl (fun K hK => ?_)
 go_simp
 refine (HSg.out _ (HM.out.below Hb1)).mono ?_
 rintro e w2_ ⟨rfl, hb2⟩
 have fK2 := fK1.below hb2
 have fR2 := fR1.below hb2
 have fS2 := fS1.below hb2
 have fO2 := fO1.below hb2
 have fl2 := fl1.below hb2
 have fp2 := fp1.below hb2
 have Hb2 := below_of Hb1 hb2 Hb1.size
 have Zb2 := Nat.le_trans Zb1 hb2.size
 go_wp2_with (fail)
 refine hK.out _ _ ⟨Hb2, fS2⟩ fun _ => ?_
 clear hK K
 try simp only [la, Act.put]
 refine td ?_ _
 go_wp2_with (fail)
 obtain ⟨w9, hw9⟩ : ∃ w9, w9 = w2_ := ⟨_, rfl⟩
 subst hw9
 have HK9 := Lib.hid fK2
 have HR9 := Lib.hid fR2
 have HS9 := Lib.hid fS2
 have HO9 := Lib.hid fO2
 have HP9 := Lib.hid fp2
 have HB9 := Lib.hid Hb2
 have hz9 := Zb2
 have oK9 : w.heap.size < w9.heap.size := Nat.lt_of_lt_of_le oK hz9
 have oR9 : w.heap.size + 1 < w9.heap.size := Nat.lt_of_lt_of_le oR hz9
 have oS9 : w.heap.size + 1 + 1 < w9.heap.size := Nat.lt_of_lt_of_le oS hz9
 have oO9 : E < w9.heap.size := Nat.lt_of_lt_of_le oO hz9
 have hzw9 : w.heap.size ≤ w9.heap.size := Nat.le_of_lt oK9
 have apP9 := Lib.hid (apP.out.imp id (fun h b off hA => Nat.lt_of_lt_of_le (h b off hA) hz9))
 go_loopw [55] (fun i wr => ∃ (k : Nat) (Ao : Option Addr) (co : Nat) (Ac : Option Addr) (cc : Nat), k ≤ 64 ∧ i = .int .i64 k ∧ Hid (Blk wr w.heap.size 24 #[.slice A n c, .int .i64 m, .int .i64 u]) ∧ Hid (Blk wr (w.heap.size + 1) 24 #[.slice none 0 0, .int .i64 0, .int .i64 0]) ∧ Hid (Blk wr (w.heap.size + 1 + 1) 32 #[.int .i64 u, .slice Ao k co, .slice Ac k cc, .slice Ap q cp]) ∧ Hid (Blk wr E 95 #[.slice A n c, .int .i64 u]) ∧ Hid (Cells wr Ap (bytesV (pathR (pubL s m) u).flatten)) ∧
     Hid (wr.ownsRow w9.heap.size 29 32 (.slice Ao k co) k (bytesV (openL s u x k).flatten)) ∧ Hid (wr.ownsRow w9.heap.size 29 32 (.slice Ac k cc) k (bytesV (closL s u x k).flatten)) ∧ Hid (Apart2 (.slice Ao k co) (.slice Ac k cc)) ∧ Hid (Below w.heap.size w wr) ∧ w9.heap.size ≤ wr.heap.size) (fun i _ => 64 - (intOf i).toNat)
 case atStart => exact ⟨0, none, 0, none, 0, by omega, rfl, HK9.out, HR9.out, HS9.out, HO9.out, HP9.out, (show World.ownsRow _ _ _ _ _ _ _ by rw [openL_zero]; exact ownD_nil _ _), (show World.ownsRow _ _ _ _ _ _ _ by rw [closL_zero]; exact ownD_nil _ _), apart2_none _, HB9.out, Nat.le_refl _⟩
 case round =>
  obtain ⟨k, Ao, co, Ac, cc, hk64, rfl, hrK, hrR, hrS, hrO, hrP, hrW, hrC, hrX, hrB, hrz⟩ := hrel
  by_cases hk : k < 64
  · have hdk : decide ((k : Int) < 64) = true := by simp; omega
    obtain ⟨y, hy⟩ : ∃ y, x.getD k false = y := ⟨_, rfl⟩
    have Hy := Lib.hid hy
    have hidx := fun (W : World) => run_idxB x k y Hlx.out hk hy W
    have hkI : (k : Int) < 64 := by omega
    clear hy
    go_upto_region 14 with (fail)
    clear hidx
    go_cut [60] (fun _ wx => ∃ (Ao' : Option Addr) (co' : Nat), Blk wx w.heap.size 24 #[.slice A n c, .int .i64 m, .int .i64 u] ∧ Blk wx (w.heap.size + 1) 24 #[.slice none 0 0, .int .i64 0, .int .i64 0] ∧ Blk wx (w.heap.size + 1 + 1) 32 #[.int .i64 u, .slice Ao' (k + 1) co', .slice Ac k cc, .slice Ap q cp] ∧ Blk wx E 95 #[.slice A n c, .int .i64 u] ∧ Cells wx Ap (bytesV (pathR (pubL s m) u).flatten) ∧
     wx.ownsRow w9.heap.size 29 32 (.slice Ao' (k + 1) co') (k + 1) (bytesV (openL s u x (k + 1)).flatten) ∧ wx.ownsRow w9.heap.size 29 32 (.slice Ac k cc) k (bytesV (closL s u x k).flatten) ∧ Apart2 (.slice Ao' (k + 1) co') (.slice Ac k cc) ∧ Below w.heap.size w wx ∧ w9.heap.size ≤ wx.heap.size)
    case first =>
     refine wp_region_held_drew (S := fun W => Below w.heap.size w W ∧ Blk W E 95 #[.slice A n c, .int .i64 u]) (by kernel_rfl) (⟨below_drewN hrB.out 1, hrO.out⟩) (fun Hd => ?_)
     have Hd : Below w.heap.size w wr.drew := below_drewN hrB.out 1
     have Zd : w9.heap.size ≤ wr.drew.heap.size := hrz
     have fK : Blk wr.drew w.heap.size 24 #[.slice A n c, .int .i64 m, .int .i64 u] := hrK.out
     have fR : Blk wr.drew (w.heap.size + 1) 24 #[.slice none 0 0, .int .i64 0, .int .i64 0] := hrR.out
     have fS : Blk wr.drew (w.heap.size + 1 + 1) 32 #[.int .i64 u, .slice Ao k co, .slice Ac k cc, .slice Ap q cp] := hrS.out
     have fO : Blk wr.drew E 95 #[.slice A n c, .int .i64 u] := hrO.out
     have fp : Cells wr.drew Ap (bytesV (pathR (pubL s m) u).flatten) := hrP.out
     have fo : wr.drew.ownsRow (w9.heap.size) 29 32 (.slice Ao k co) (k) (bytesV (openL s u x k).flatten) := hrW.out
     have fc : wr.drew.ownsRow (w9.heap.size) 29 32 (.slice Ac k cc) k (bytesV (closL s u x k).flatten) := hrC.out
     have apo0 := hrX.out
     generalize World.drew wr = wd at *
     refine tq 0 rfl ⟨Hd, fO⟩ ?_
     try simp only [la, Act.put]
     refine ts 2 rfl ⟨Hd, fO⟩ (fun w hSw => by
      have q0 := Blk.cellv hSw.2 (i := 0) rfl
      have q1 := Blk.cellv hSw.2 (i := 1) rfl
      go_simp
      try with_reducible rfl) ?_
     refine tq 3 rfl ⟨Hd, fO⟩ ?_
     try simp only [la, Act.put]
     refine tq 4 rfl ⟨Hd, fO⟩ ?_
     try simp only [la, Act.put]
     refine tz 1 5 rfl rfl (fun K hK => ?_) (fun K hK => ?_)
     · have ql := fS.cellv (i := 1) rfl
       go_simp
       first | with_reducible rfl | skip
       refine hK.out _ _ ⟨Hd, fO⟩ fun _ => ?_
       clear hK K
       try simp only [la, Act.put]
       refine ty 5 rfl (fun K hK => ?_)
       go_simp
       refine (secret_any A n c s u k y _ (HA.out.below Hd) Hs.out hn Hs8.out hu64 hk).mono ?_
       rintro e w1_ ⟨rfl, hb1⟩
       have fK1 := fK.below hb1
       have fR1 := fR.below hb1
       have fS1 := fS.below hb1
       have fO1 := fO.below hb1
       have fp1 := fp.below hb1
       have fo1 := own_below fo hb1
       have fc1 := own_below fc hb1
       have Hb1 := below_of Hd hb1 Hd.size
       have Zb1 := Nat.le_trans Zd hb1.size
       go_wp2_with (fail)
       refine hK.out _ _ ⟨Hb1, fO1⟩ fun _ => ?_
       clear hK K
       try simp only [la, Act.put]
       refine ty 6 rfl (fun K hK => ?_)
       refine step_oneD (by rfl) _ (by rfl) (secS s u k (bn y)) (secS_isD s u k (bn y)) (by rfl) ?_
       generalize hge : World.alloc _ _ = w2_
       have fb2 : Blk w2_ w1_.heap.size 29 (arrK .u8 (secS s u k (bn y))) := by subst hge; exact Blk.new _ _ _
       have hb2 := al1 hge
       clear hge
       have fK2 := fK1.below hb2
       have fR2 := fR1.below hb2
       have fS2 := fS1.below hb2
       have fO2 := fO1.below hb2
       have fp2 := fp1.below hb2
       have fo2 := own_below fo1 hb2
       have fc2 := own_below fc1 hb2
       have apob2 := apart_new fo1
       have apcb2 := apart_new fc1
       have lob2 : w9.heap.size ≤ w1_.heap.size := Zb1
       have Hb2 := below_of Hb1 hb2 Hb1.size
       have Zb2 := Nat.le_trans Zb1 hb2.size
       refine hK.out _ _ ⟨Hb2, fO2⟩ fun _ => ?_
       clear hK K
       try simp only [la, Act.put]
       refine ty 7 rfl (fun K hK => ?_)
       refine step_pushDs (by rfl) (.tmp 60) (.tmp 65) (by rfl) (w9.heap.size) (.slice Ao k co) (k) (openL s u x k) (secS s u k (bn y)) fo2 (by rfl) (w1_.heap.size) fb2 (secS_isD s u k (bn y)) (by rfl) (by omega) Zb2 ?_
       intro v3 w3_ fo3 hg3 st3
       have apob3 := apart_sits st3 apob2 fb2.lt
       have fK3 := fK2.grown hg3 (fun e => absurd (own_base fo2 _ e.symm) (Nat.not_le.2 oK9))
       have fR3 := fR2.grown hg3 (fun e => absurd (own_base fo2 _ e.symm) (Nat.not_le.2 oR9))
       have fS3 := fS2.grown hg3 (fun e => absurd (own_base fo2 _ e.symm) (Nat.not_le.2 oS9))
       have fO3 := fO2.grown hg3 (fun e => absurd (own_base fo2 _ e.symm) (Nat.not_le.2 oO9))
       have fp3 := fp2.grownB hg3 apP9.out fo2
       have fc3 := fc2.kept hg3 (apart2_kept apo0)
       have aoo3 := apart2_sits st3 apo0 fc2
       have fb3 := fb2.grown hg3 (fun e => apob2 e.symm)
       have Hb3 := below_grown Hb2 hg3 Hb2.size (fun k hk => Nat.le_trans hzw9 (own_base fo2 k hk))
       have Zb3 := Nat.le_trans Zb2 hg3.size
       obtain ⟨A3, c3, rfl, le3, lm3, -⟩ := own_form fo3
       refine hK.out _ _ ⟨Hb3, fO3⟩ fun _ => ?_
       clear hK K
       refine tq 8 rfl ⟨Hb3, fO3⟩ ?_
       try simp only [la, Act.put]
       refine ty 9 rfl (fun K hK => ?_)
       refine step_put_cell (by rfl) _ _ _ (by rfl) (w.heap.size + 1 + 1) 1 ((.slice A3 (k + 1) c3)) (by rfl) (by rfl) _ _ fS3 (by simp) (by kernel_rfl) (by rfl) ?_
       intro w4_ fS4 hg4 hz4
       have neK4 := fK3.lt
       have fK4 := fK3.gx hg4
       have neR4 := fR3.lt
       have fR4 := fR3.gx hg4
       have neO4 := fO3.lt
       have fO4 := fO3.gx hg4
       have fp4 := fp3.off8 hg4 fS3 (by first | exact no8_sig | exact no8_key)
       have fc4 := fc3.kept hg4 (.inr (fun e => absurd (own_base fc3 _ e) (Nat.not_le.2 oS9)))
       have neb4 := fb3.lt
       have fb4 := fb3.gx hg4
       have fo4 := fo3.kept hg4 (.inr (fun e => absurd (own_base fo3 _ e) (Nat.not_le.2 oS9)))
       have Hb4 := bgx Hb3 hg4 Hb3.size
       have Zb4 := Nat.le_trans Zb3 hg4.size
       refine hK.out _ _ ⟨Hb4, fO4⟩ fun _ => ?_
       clear hK K
       try simp only [la, Act.put]
       refine td ?_ _
       go_wp2_with (fail)
       go_meet
       exact ⟨A3, c3, fK4, fR4, fS4, fO4, fp4, (show World.ownsRow _ _ _ _ _ _ _ by rw [openL_succ, Hy.out]; exact fo4), fc4, aoo3, Hb4, Zb4⟩
     · go_simp
       refine (secret_any A n c s u k y _ (HA.out.below Hd) Hs.out hn Hs8.out hu64 hk).mono ?_
       rintro e w1_ ⟨rfl, hb1⟩
       have fK1 := fK.below hb1
       have fR1 := fR.below hb1
       have fS1 := fS.below hb1
       have fO1 := fO.below hb1
       have fp1 := fp.below hb1
       have fo1 := own_below fo hb1
       have fc1 := own_below fc hb1
       have Hb1 := below_of Hd hb1 Hd.size
       have Zb1 := Nat.le_trans Zd hb1.size
       go_wp2_with (fail)
       refine hK.out _ _ ⟨Hb1, fO1⟩ fun _ => ?_
       clear hK K
       try simp only [la, Act.put]
       refine tz 1 6 rfl rfl (fun K hK => ?_) (fun K hK => ?_)
       · have ql := fS1.cellv (i := 1) rfl
         go_simp
         first | with_reducible rfl | skip
         refine hK.out _ _ ⟨Hb1, fO1⟩ fun _ => ?_
         clear hK K
         try simp only [la, Act.put]
         refine ty 6 rfl (fun K hK => ?_)
         refine step_oneD (by rfl) _ (by rfl) (secS s u k (bn y)) (secS_isD s u k (bn y)) (by rfl) ?_
         generalize hge : World.alloc _ _ = w2_
         have fb2 : Blk w2_ w1_.heap.size 29 (arrK .u8 (secS s u k (bn y))) := by subst hge; exact Blk.new _ _ _
         have hb2 := al1 hge
         clear hge
         have fK2 := fK1.below hb2
         have fR2 := fR1.below hb2
         have fS2 := fS1.below hb2
         have fO2 := fO1.below hb2
         have fp2 := fp1.below hb2
         have fo2 := own_below fo1 hb2
         have fc2 := own_below fc1 hb2
         have apob2 := apart_new fo1
         have apcb2 := apart_new fc1
         have lob2 : w9.heap.size ≤ w1_.heap.size := Zb1
         have Hb2 := below_of Hb1 hb2 Hb1.size
         have Zb2 := Nat.le_trans Zb1 hb2.size
         refine hK.out _ _ ⟨Hb2, fO2⟩ fun _ => ?_
         clear hK K
         try simp only [la, Act.put]
         refine ty 7 rfl (fun K hK => ?_)
         refine step_pushDs (by rfl) (.tmp 60) (.tmp 65) (by rfl) (w9.heap.size) (.slice Ao k co) (k) (openL s u x k) (secS s u k (bn y)) fo2 (by rfl) (w1_.heap.size) fb2 (secS_isD s u k (bn y)) (by rfl) (by omega) Zb2 ?_
         intro v3 w3_ fo3 hg3 st3
         have apob3 := apart_sits st3 apob2 fb2.lt
         have fK3 := fK2.grown hg3 (fun e => absurd (own_base fo2 _ e.symm) (Nat.not_le.2 oK9))
         have fR3 := fR2.grown hg3 (fun e => absurd (own_base fo2 _ e.symm) (Nat.not_le.2 oR9))
         have fS3 := fS2.grown hg3 (fun e => absurd (own_base fo2 _ e.symm) (Nat.not_le.2 oS9))
         have fO3 := fO2.grown hg3 (fun e => absurd (own_base fo2 _ e.symm) (Nat.not_le.2 oO9))
         have fp3 := fp2.grownB hg3 apP9.out fo2
         have fc3 := fc2.kept hg3 (apart2_kept apo0)
         have aoo3 := apart2_sits st3 apo0 fc2
         have fb3 := fb2.grown hg3 (fun e => apob2 e.symm)
         have Hb3 := below_grown Hb2 hg3 Hb2.size (fun k hk => Nat.le_trans hzw9 (own_base fo2 k hk))
         have Zb3 := Nat.le_trans Zb2 hg3.size
         obtain ⟨A3, c3, rfl, le3, lm3, -⟩ := own_form fo3
         refine hK.out _ _ ⟨Hb3, fO3⟩ fun _ => ?_
         clear hK K
         refine tq 8 rfl ⟨Hb3, fO3⟩ ?_
         try simp only [la, Act.put]
         refine ty 9 rfl (fun K hK => ?_)
         refine step_put_cell (by rfl) _ _ _ (by rfl) (w.heap.size + 1 + 1) 1 ((.slice A3 (k + 1) c3)) (by rfl) (by rfl) _ _ fS3 (by simp) (by kernel_rfl) (by rfl) ?_
         intro w4_ fS4 hg4 hz4
         have neK4 := fK3.lt
         have fK4 := fK3.gx hg4
         have neR4 := fR3.lt
         have fR4 := fR3.gx hg4
         have neO4 := fO3.lt
         have fO4 := fO3.gx hg4
         have fp4 := fp3.off8 hg4 fS3 (by first | exact no8_sig | exact no8_key)
         have fc4 := fc3.kept hg4 (.inr (fun e => absurd (own_base fc3 _ e) (Nat.not_le.2 oS9)))
         have neb4 := fb3.lt
         have fb4 := fb3.gx hg4
         have fo4 := fo3.kept hg4 (.inr (fun e => absurd (own_base fo3 _ e) (Nat.not_le.2 oS9)))
         have Hb4 := bgx Hb3 hg4 Hb3.size
         have Zb4 := Nat.le_trans Zb3 hg4.size
         refine hK.out _ _ ⟨Hb4, fO4⟩ fun _ => ?_
         clear hK K
         try simp only [la, Act.put]
         refine td ?_ _
         go_wp2_with (fail)
         go_meet
         exact ⟨A3, c3, fK4, fR4, fS4, fO4, fp4, (show World.ownsRow _ _ _ _ _ _ _ by rw [openL_succ, Hy.out]; exact fo4), fc4, aoo3, Hb4, Zb4⟩
       · refine step_oneD (by rfl) _ (by rfl) (secS s u k (bn y)) (secS_isD s u k (bn y)) (by rfl) ?_
         generalize hge : World.alloc _ _ = w2_
         have fb2 : Blk w2_ w1_.heap.size 29 (arrK .u8 (secS s u k (bn y))) := by subst hge; exact Blk.new _ _ _
         have hb2 := al1 hge
         clear hge
         have fK2 := fK1.below hb2
         have fR2 := fR1.below hb2
         have fS2 := fS1.below hb2
         have fO2 := fO1.below hb2
         have fp2 := fp1.below hb2
         have fo2 := own_below fo1 hb2
         have fc2 := own_below fc1 hb2
         have apob2 := apart_new fo1
         have apcb2 := apart_new fc1
         have lob2 : w9.heap.size ≤ w1_.heap.size := Zb1
         have Hb2 := below_of Hb1 hb2 Hb1.size
         have Zb2 := Nat.le_trans Zb1 hb2.size
         refine hK.out _ _ ⟨Hb2, fO2⟩ fun _ => ?_
         clear hK K
         try simp only [la, Act.put]
         refine ty 1 rfl (fun K hK => ?_)
         have ql := fS2.cellv (i := 1) rfl
         go_simp
         first | with_reducible rfl | skip
         refine hK.out _ _ ⟨Hb2, fO2⟩ fun _ => ?_
         clear hK K
         try simp only [la, Act.put]
         refine ty 7 rfl (fun K hK => ?_)
         refine step_pushDs (by rfl) (.tmp 60) (.tmp 65) (by rfl) (w9.heap.size) (.slice Ao k co) (k) (openL s u x k) (secS s u k (bn y)) fo2 (by rfl) (w1_.heap.size) fb2 (secS_isD s u k (bn y)) (by rfl) (by omega) Zb2 ?_
         intro v3 w3_ fo3 hg3 st3
         have apob3 := apart_sits st3 apob2 fb2.lt
         have fK3 := fK2.grown hg3 (fun e => absurd (own_base fo2 _ e.symm) (Nat.not_le.2 oK9))
         have fR3 := fR2.grown hg3 (fun e => absurd (own_base fo2 _ e.symm) (Nat.not_le.2 oR9))
         have fS3 := fS2.grown hg3 (fun e => absurd (own_base fo2 _ e.symm) (Nat.not_le.2 oS9))
         have fO3 := fO2.grown hg3 (fun e => absurd (own_base fo2 _ e.symm) (Nat.not_le.2 oO9))
         have fp3 := fp2.grownB hg3 apP9.out fo2
         have fc3 := fc2.kept hg3 (apart2_kept apo0)
         have aoo3 := apart2_sits st3 apo0 fc2
         have fb3 := fb2.grown hg3 (fun e => apob2 e.symm)
         have Hb3 := below_grown Hb2 hg3 Hb2.size (fun k hk => Nat.le_trans hzw9 (own_base fo2 k hk))
         have Zb3 := Nat.le_trans Zb2 hg3.size
         obtain ⟨A3, c3, rfl, le3, lm3, -⟩ := own_form fo3
         refine hK.out _ _ ⟨Hb3, fO3⟩ fun _ => ?_
         clear hK K
         try simp only [la, Act.put]
         refine tq 8 rfl ⟨Hb3, fO3⟩ ?_
         try simp only [la, Act.put]
         refine ty 9 rfl (fun K hK => ?_)
         refine step_put_cell (by rfl) _ _ _ (by rfl) (w.heap.size + 1 + 1) 1 ((.slice A3 (k + 1) c3)) (by rfl) (by rfl) _ _ fS3 (by simp) (by kernel_rfl) (by rfl) ?_
         intro w4_ fS4 hg4 hz4
         have neK4 := fK3.lt
         have fK4 := fK3.gx hg4
         have neR4 := fR3.lt
         have fR4 := fR3.gx hg4
         have neO4 := fO3.lt
         have fO4 := fO3.gx hg4
         have fp4 := fp3.off8 hg4 fS3 (by first | exact no8_sig | exact no8_key)
         have fc4 := fc3.kept hg4 (.inr (fun e => absurd (own_base fc3 _ e) (Nat.not_le.2 oS9)))
         have neb4 := fb3.lt
         have fb4 := fb3.gx hg4
         have fo4 := fo3.kept hg4 (.inr (fun e => absurd (own_base fo3 _ e) (Nat.not_le.2 oS9)))
         have Hb4 := bgx Hb3 hg4 Hb3.size
         have Zb4 := Nat.le_trans Zb3 hg4.size
         refine hK.out _ _ ⟨Hb4, fO4⟩ fun _ => ?_
         clear hK K
         try simp only [la, Act.put]
         refine td ?_ _
         go_wp2_with (fail)
         go_meet
         exact ⟨A3, c3, fK4, fR4, fS4, fO4, fp4, (show World.ownsRow _ _ _ _ _ _ _ by rw [openL_succ, Hy.out]; exact fo4), fc4, aoo3, Hb4, Zb4⟩
    case rest =>
     obtain ⟨Ao, co, hqK, hqR, hqS, hqO, hqP, hqW, hqC, hqX, hqB, hqz⟩ := hcut
     have hqK := Lib.hid hqK
     have hqR := Lib.hid hqR
     have hqS := Lib.hid hqS
     have hqO := Lib.hid hqO
     have hqP := Lib.hid hqP
     have hqW := Lib.hid hqW
     have hqC := Lib.hid hqC
     have hqX := Lib.hid hqX
     have hqB := Lib.hid hqB
     clear hrK hrR hrS hrO hrP hrW hrC hrX hrB hrz
     go_wp2_with (fail)
     refine wp_region_held_drew (S := fun W => Below w.heap.size w W ∧ Blk W E 95 #[.slice A n c, .int .i64 u]) (by kernel_rfl) (⟨below_drewN hqB.out 1, hqO.out⟩) (fun Hd => ?_)
     have Hd : Below w.heap.size w wc.drew := below_drewN hqB.out 1
     have Zd : w9.heap.size ≤ wc.drew.heap.size := hqz
     have fK : Blk wc.drew w.heap.size 24 #[.slice A n c, .int .i64 m, .int .i64 u] := hqK.out
     have fR : Blk wc.drew (w.heap.size + 1) 24 #[.slice none 0 0, .int .i64 0, .int .i64 0] := hqR.out
     have fS : Blk wc.drew (w.heap.size + 1 + 1) 32 #[.int .i64 u, .slice Ao (k + 1) co, .slice Ac k cc, .slice Ap q cp] := hqS.out
     have fO : Blk wc.drew E 95 #[.slice A n c, .int .i64 u] := hqO.out
     have fp : Cells wc.drew Ap (bytesV (pathR (pubL s m) u).flatten) := hqP.out
     have fo : wc.drew.ownsRow (w9.heap.size) 29 32 (.slice Ao (k + 1) co) (k + 1) (bytesV (openL s u x (k + 1)).flatten) := hqW.out
     have fc : wc.drew.ownsRow (w9.heap.size) 29 32 (.slice Ac k cc) k (bytesV (closL s u x k).flatten) := hqC.out
     have apo0 := hqX.out
     generalize World.drew wc = wd at *
     refine tq 0 rfl ⟨Hd, fO⟩ ?_
     refine ts 2 rfl ⟨Hd, fO⟩ (fun w hSw => by
      have q0 := Blk.cellv hSw.2 (i := 0) rfl
      have q1 := Blk.cellv hSw.2 (i := 1) rfl
      go_simp
      try with_reducible rfl) ?_
     try simp only [la, Act.put]
     refine tq 3 rfl ⟨Hd, fO⟩ ?_
     refine tq 4 rfl ⟨Hd, fO⟩ ?_
     try simp only [la, Act.put]
     refine tq 5 rfl ⟨Hd, fO⟩ ?_
     try simp only [la, Act.put]
     refine tz 1 6 rfl rfl (fun K hK => ?_) (fun K hK => ?_)
     · have ql := fS.cellv (i := 2) rfl
       go_simp
       first | with_reducible rfl | skip
       refine hK.out _ _ ⟨Hd, fO⟩ fun _ => ?_
       clear hK K
       try simp only [la, Act.put]
       refine ty 6 rfl (fun K hK => ?_)
       go_simp
       refine (hash_any A n c s u k (!y) _ (HA.out.below Hd) Hs.out hn Hs8.out hu64 hk).mono ?_
       rintro e w1_ ⟨rfl, hb1⟩
       have fK1 := fK.below hb1
       have fR1 := fR.below hb1
       have fS1 := fS.below hb1
       have fO1 := fO.below hb1
       have fp1 := fp.below hb1
       have fo1 := own_below fo hb1
       have fc1 := own_below fc hb1
       have Hb1 := below_of Hd hb1 Hd.size
       have Zb1 := Nat.le_trans Zd hb1.size
       go_wp2_with (fail)
       refine hK.out _ _ ⟨Hb1, fO1⟩ fun _ => ?_
       clear hK K
       try simp only [la, Act.put]
       refine ty 7 rfl (fun K hK => ?_)
       refine step_oneD (by rfl) _ (by rfl) (keyF s u k (!y)) (keyF_isD s u k (!y)) (by rfl) ?_
       generalize hge : World.alloc _ _ = w2_
       have fb2 : Blk w2_ w1_.heap.size 29 (arrK .u8 (keyF s u k (!y))) := by subst hge; exact Blk.new _ _ _
       have hb2 := al1 hge
       clear hge
       have fK2 := fK1.below hb2
       have fR2 := fR1.below hb2
       have fS2 := fS1.below hb2
       have fO2 := fO1.below hb2
       have fp2 := fp1.below hb2
       have fo2 := own_below fo1 hb2
       have fc2 := own_below fc1 hb2
       have apob2 := apart_new fo1
       have apcb2 := apart_new fc1
       have lob2 : w9.heap.size ≤ w1_.heap.size := Zb1
       have Hb2 := below_of Hb1 hb2 Hb1.size
       have Zb2 := Nat.le_trans Zb1 hb2.size
       refine hK.out _ _ ⟨Hb2, fO2⟩ fun _ => ?_
       clear hK K
       try simp only [la, Act.put]
       refine ty 8 rfl (fun K hK => ?_)
       refine step_pushDs (by rfl) (.tmp 69) (.tmp 75) (by rfl) (w9.heap.size) (.slice Ac k cc) (k) (closL s u x k) (keyF s u k (!y)) fc2 (by rfl) (w1_.heap.size) fb2 (keyF_isD s u k (!y)) (by rfl) (by omega) Zb2 ?_
       intro v3 w3_ fc3 hg3 st3
       have apcb3 := apart_sits st3 apcb2 fb2.lt
       have fK3 := fK2.grown hg3 (fun e => absurd (own_base fc2 _ e.symm) (Nat.not_le.2 oK9))
       have fR3 := fR2.grown hg3 (fun e => absurd (own_base fc2 _ e.symm) (Nat.not_le.2 oR9))
       have fS3 := fS2.grown hg3 (fun e => absurd (own_base fc2 _ e.symm) (Nat.not_le.2 oS9))
       have fO3 := fO2.grown hg3 (fun e => absurd (own_base fc2 _ e.symm) (Nat.not_le.2 oO9))
       have fp3 := fp2.grownB hg3 apP9.out fc2
       have fo3 := fo2.kept hg3 (apart2_kept (apart2_symm apo0))
       have aoc3 := apart2_sits st3 (apart2_symm apo0) fo2
       have fb3 := fb2.grown hg3 (fun e => apcb2 e.symm)
       have Hb3 := below_grown Hb2 hg3 Hb2.size (fun k hk => Nat.le_trans hzw9 (own_base fc2 k hk))
       have Zb3 := Nat.le_trans Zb2 hg3.size
       obtain ⟨A3, c3, rfl, le3, lm3, -⟩ := own_form fc3
       refine hK.out _ _ ⟨Hb3, fO3⟩ fun _ => ?_
       clear hK K
       refine tq 9 rfl ⟨Hb3, fO3⟩ ?_
       try simp only [la, Act.put]
       refine ty 10 rfl (fun K hK => ?_)
       refine step_put_cell (by rfl) _ _ _ (by rfl) (w.heap.size + 1 + 1) 2 ((.slice A3 (k + 1) c3)) (by rfl) (by rfl) _ _ fS3 (by simp) (by kernel_rfl) (by rfl) ?_
       intro w4_ fS4 hg4 hz4
       have neK4 := fK3.lt
       have fK4 := fK3.gx hg4
       have neR4 := fR3.lt
       have fR4 := fR3.gx hg4
       have neO4 := fO3.lt
       have fO4 := fO3.gx hg4
       have fp4 := fp3.off8 hg4 fS3 (by first | exact no8_sig | exact no8_key)
       have fo4 := fo3.kept hg4 (.inr (fun e => absurd (own_base fo3 _ e) (Nat.not_le.2 oS9)))
       have neb4 := fb3.lt
       have fb4 := fb3.gx hg4
       have fc4 := fc3.kept hg4 (.inr (fun e => absurd (own_base fc3 _ e) (Nat.not_le.2 oS9)))
       have Hb4 := bgx Hb3 hg4 Hb3.size
       have Zb4 := Nat.le_trans Zb3 hg4.size
       refine hK.out _ _ ⟨Hb4, fO4⟩ fun _ => ?_
       clear hK K
       try simp only [la, Act.put]
       refine td ?_ _
       go_wp2_with (fail)
       go_roundw
       case rel => exact ⟨k + 1, Ao, co, A3, c3, by omega, by go_num, fK4, fR4, fS4, fO4, fp4, fo4, (show World.ownsRow _ _ _ _ _ _ _ by rw [closL_succ, Hy.out]; exact fc4), (apart2_symm aoc3), Hb4, Zb4⟩
       case measure => simp [intOf]; omega
     · go_simp
       refine (hash_any A n c s u k (!y) _ (HA.out.below Hd) Hs.out hn Hs8.out hu64 hk).mono ?_
       rintro e w1_ ⟨rfl, hb1⟩
       have fK1 := fK.below hb1
       have fR1 := fR.below hb1
       have fS1 := fS.below hb1
       have fO1 := fO.below hb1
       have fp1 := fp.below hb1
       have fo1 := own_below fo hb1
       have fc1 := own_below fc hb1
       have Hb1 := below_of Hd hb1 Hd.size
       have Zb1 := Nat.le_trans Zd hb1.size
       go_wp2_with (fail)
       refine hK.out _ _ ⟨Hb1, fO1⟩ fun _ => ?_
       clear hK K
       try simp only [la, Act.put]
       refine tz 1 7 rfl rfl (fun K hK => ?_) (fun K hK => ?_)
       · have ql := fS1.cellv (i := 2) rfl
         go_simp
         first | with_reducible rfl | skip
         refine hK.out _ _ ⟨Hb1, fO1⟩ fun _ => ?_
         clear hK K
         try simp only [la, Act.put]
         refine ty 7 rfl (fun K hK => ?_)
         refine step_oneD (by rfl) _ (by rfl) (keyF s u k (!y)) (keyF_isD s u k (!y)) (by rfl) ?_
         generalize hge : World.alloc _ _ = w2_
         have fb2 : Blk w2_ w1_.heap.size 29 (arrK .u8 (keyF s u k (!y))) := by subst hge; exact Blk.new _ _ _
         have hb2 := al1 hge
         clear hge
         have fK2 := fK1.below hb2
         have fR2 := fR1.below hb2
         have fS2 := fS1.below hb2
         have fO2 := fO1.below hb2
         have fp2 := fp1.below hb2
         have fo2 := own_below fo1 hb2
         have fc2 := own_below fc1 hb2
         have apob2 := apart_new fo1
         have apcb2 := apart_new fc1
         have lob2 : w9.heap.size ≤ w1_.heap.size := Zb1
         have Hb2 := below_of Hb1 hb2 Hb1.size
         have Zb2 := Nat.le_trans Zb1 hb2.size
         refine hK.out _ _ ⟨Hb2, fO2⟩ fun _ => ?_
         clear hK K
         try simp only [la, Act.put]
         refine ty 8 rfl (fun K hK => ?_)
         refine step_pushDs (by rfl) (.tmp 69) (.tmp 75) (by rfl) (w9.heap.size) (.slice Ac k cc) (k) (closL s u x k) (keyF s u k (!y)) fc2 (by rfl) (w1_.heap.size) fb2 (keyF_isD s u k (!y)) (by rfl) (by omega) Zb2 ?_
         intro v3 w3_ fc3 hg3 st3
         have apcb3 := apart_sits st3 apcb2 fb2.lt
         have fK3 := fK2.grown hg3 (fun e => absurd (own_base fc2 _ e.symm) (Nat.not_le.2 oK9))
         have fR3 := fR2.grown hg3 (fun e => absurd (own_base fc2 _ e.symm) (Nat.not_le.2 oR9))
         have fS3 := fS2.grown hg3 (fun e => absurd (own_base fc2 _ e.symm) (Nat.not_le.2 oS9))
         have fO3 := fO2.grown hg3 (fun e => absurd (own_base fc2 _ e.symm) (Nat.not_le.2 oO9))
         have fp3 := fp2.grownB hg3 apP9.out fc2
         have fo3 := fo2.kept hg3 (apart2_kept (apart2_symm apo0))
         have aoc3 := apart2_sits st3 (apart2_symm apo0) fo2
         have fb3 := fb2.grown hg3 (fun e => apcb2 e.symm)
         have Hb3 := below_grown Hb2 hg3 Hb2.size (fun k hk => Nat.le_trans hzw9 (own_base fc2 k hk))
         have Zb3 := Nat.le_trans Zb2 hg3.size
         obtain ⟨A3, c3, rfl, le3, lm3, -⟩ := own_form fc3
         refine hK.out _ _ ⟨Hb3, fO3⟩ fun _ => ?_
         clear hK K
         refine tq 9 rfl ⟨Hb3, fO3⟩ ?_
         try simp only [la, Act.put]
         refine ty 10 rfl (fun K hK => ?_)
         refine step_put_cell (by rfl) _ _ _ (by rfl) (w.heap.size + 1 + 1) 2 ((.slice A3 (k + 1) c3)) (by rfl) (by rfl) _ _ fS3 (by simp) (by kernel_rfl) (by rfl) ?_
         intro w4_ fS4 hg4 hz4
         have neK4 := fK3.lt
         have fK4 := fK3.gx hg4
         have neR4 := fR3.lt
         have fR4 := fR3.gx hg4
         have neO4 := fO3.lt
         have fO4 := fO3.gx hg4
         have fp4 := fp3.off8 hg4 fS3 (by first | exact no8_sig | exact no8_key)
         have fo4 := fo3.kept hg4 (.inr (fun e => absurd (own_base fo3 _ e) (Nat.not_le.2 oS9)))
         have neb4 := fb3.lt
         have fb4 := fb3.gx hg4
         have fc4 := fc3.kept hg4 (.inr (fun e => absurd (own_base fc3 _ e) (Nat.not_le.2 oS9)))
         have Hb4 := bgx Hb3 hg4 Hb3.size
         have Zb4 := Nat.le_trans Zb3 hg4.size
         refine hK.out _ _ ⟨Hb4, fO4⟩ fun _ => ?_
         clear hK K
         try simp only [la, Act.put]
         refine td ?_ _
         go_wp2_with (fail)
         go_roundw
         case rel => exact ⟨k + 1, Ao, co, A3, c3, by omega, by go_num, fK4, fR4, fS4, fO4, fp4, fo4, (show World.ownsRow _ _ _ _ _ _ _ by rw [closL_succ, Hy.out]; exact fc4), (apart2_symm aoc3), Hb4, Zb4⟩
         case measure => simp [intOf]; omega
       · refine step_oneD (by rfl) _ (by rfl) (keyF s u k (!y)) (keyF_isD s u k (!y)) (by rfl) ?_
         generalize hge : World.alloc _ _ = w2_
         have fb2 : Blk w2_ w1_.heap.size 29 (arrK .u8 (keyF s u k (!y))) := by subst hge; exact Blk.new _ _ _
         have hb2 := al1 hge
         clear hge
         have fK2 := fK1.below hb2
         have fR2 := fR1.below hb2
         have fS2 := fS1.below hb2
         have fO2 := fO1.below hb2
         have fp2 := fp1.below hb2
         have fo2 := own_below fo1 hb2
         have fc2 := own_below fc1 hb2
         have apob2 := apart_new fo1
         have apcb2 := apart_new fc1
         have lob2 : w9.heap.size ≤ w1_.heap.size := Zb1
         have Hb2 := below_of Hb1 hb2 Hb1.size
         have Zb2 := Nat.le_trans Zb1 hb2.size
         refine hK.out _ _ ⟨Hb2, fO2⟩ fun _ => ?_
         clear hK K
         try simp only [la, Act.put]
         refine ty 1 rfl (fun K hK => ?_)
         have ql := fS2.cellv (i := 2) rfl
         go_simp
         first | with_reducible rfl | skip
         refine hK.out _ _ ⟨Hb2, fO2⟩ fun _ => ?_
         clear hK K
         try simp only [la, Act.put]
         refine ty 8 rfl (fun K hK => ?_)
         refine step_pushDs (by rfl) (.tmp 69) (.tmp 75) (by rfl) (w9.heap.size) (.slice Ac k cc) (k) (closL s u x k) (keyF s u k (!y)) fc2 (by rfl) (w1_.heap.size) fb2 (keyF_isD s u k (!y)) (by rfl) (by omega) Zb2 ?_
         intro v3 w3_ fc3 hg3 st3
         have apcb3 := apart_sits st3 apcb2 fb2.lt
         have fK3 := fK2.grown hg3 (fun e => absurd (own_base fc2 _ e.symm) (Nat.not_le.2 oK9))
         have fR3 := fR2.grown hg3 (fun e => absurd (own_base fc2 _ e.symm) (Nat.not_le.2 oR9))
         have fS3 := fS2.grown hg3 (fun e => absurd (own_base fc2 _ e.symm) (Nat.not_le.2 oS9))
         have fO3 := fO2.grown hg3 (fun e => absurd (own_base fc2 _ e.symm) (Nat.not_le.2 oO9))
         have fp3 := fp2.grownB hg3 apP9.out fc2
         have fo3 := fo2.kept hg3 (apart2_kept (apart2_symm apo0))
         have aoc3 := apart2_sits st3 (apart2_symm apo0) fo2
         have fb3 := fb2.grown hg3 (fun e => apcb2 e.symm)
         have Hb3 := below_grown Hb2 hg3 Hb2.size (fun k hk => Nat.le_trans hzw9 (own_base fc2 k hk))
         have Zb3 := Nat.le_trans Zb2 hg3.size
         obtain ⟨A3, c3, rfl, le3, lm3, -⟩ := own_form fc3
         refine hK.out _ _ ⟨Hb3, fO3⟩ fun _ => ?_
         clear hK K
         try simp only [la, Act.put]
         refine tq 9 rfl ⟨Hb3, fO3⟩ ?_
         try simp only [la, Act.put]
         refine ty 10 rfl (fun K hK => ?_)
         refine step_put_cell (by rfl) _ _ _ (by rfl) (w.heap.size + 1 + 1) 2 ((.slice A3 (k + 1) c3)) (by rfl) (by rfl) _ _ fS3 (by simp) (by kernel_rfl) (by rfl) ?_
         intro w4_ fS4 hg4 hz4
         have neK4 := fK3.lt
         have fK4 := fK3.gx hg4
         have neR4 := fR3.lt
         have fR4 := fR3.gx hg4
         have neO4 := fO3.lt
         have fO4 := fO3.gx hg4
         have fp4 := fp3.off8 hg4 fS3 (by first | exact no8_sig | exact no8_key)
         have fo4 := fo3.kept hg4 (.inr (fun e => absurd (own_base fo3 _ e) (Nat.not_le.2 oS9)))
         have neb4 := fb3.lt
         have fb4 := fb3.gx hg4
         have fc4 := fc3.kept hg4 (.inr (fun e => absurd (own_base fc3 _ e) (Nat.not_le.2 oS9)))
         have Hb4 := bgx Hb3 hg4 Hb3.size
         have Zb4 := Nat.le_trans Zb3 hg4.size
         refine hK.out _ _ ⟨Hb4, fO4⟩ fun _ => ?_
         clear hK K
         try simp only [la, Act.put]
         refine td ?_ _
         go_wp2_with (fail)
         go_roundw
         case rel => exact ⟨k + 1, Ao, co, A3, c3, by omega, by go_num, fK4, fR4, fS4, fO4, fp4, fo4, (show World.ownsRow _ _ _ _ _ _ _ by rw [closL_succ, Hy.out]; exact fc4), (apart2_symm aoc3), Hb4, Zb4⟩
         case measure => simp [intOf]; omega
  · obtain rfl : k = 64 := by omega
    obtain ⟨A7, c7, hv7, lo1, lo2, -⟩ := own_form hrW.out
    cases hv7
    obtain ⟨A8, c8, hv8, lc1, lc2, -⟩ := own_form hrC.out
    cases hv8
    have lo1 := Lib.hid lo1
    have lo2 := Lib.hid lo2
    have lc1 := Lib.hid lc1
    have lc2 := Lib.hid lc2
    have q2 := hrK.out.cellv (i := 2) rfl
    have g2 := hrK.out.frozen 2
    go_upto_region 18 with (fail)
    generalize hge : World.setCell _ _ _ = wf
    have hgf : wr.grownBy wf (some w.heap.size) := by subst hge; exact grown_setOne _
    have hfK := Lib.hid (show Blk wf w.heap.size 24 #[.slice A n c, .int .i64 m, .int .i64 ((u : Int) + 1)] by subst hge; have := hrK.out.set_ 2 (.int .i64 ((u : Int) + 1)); exact this)
    have hfR := Lib.hid (hrR.out.grown hgf (by simp))
    have hfS := Lib.hid (hrS.out.grown hgf (by simp; omega))
    have hfP := Lib.hid (hrP.out.off8 hgf hrK.out no8_key)
    have hfO := Lib.hid (hrW.out.kept hgf (.inr (fun e => absurd (own_base hrW.out _ e) (Nat.not_le.2 oK9))))
    have hfC := Lib.hid (hrC.out.kept hgf (.inr (fun e => absurd (own_base hrC.out _ e) (Nat.not_le.2 oK9))))
    have hfB := Lib.hid (below_grown hrB.out hgf hrB.out.size (by simp))
    have hfz : w9.heap.size ≤ wf.heap.size := Nat.le_trans hrz hgf.size
    clear hge hgf q2 g2
    refine wp_region_held_drew (S := fun W => Below w.heap.size w W ∧ Blk W w.heap.size 24 #[.slice A n c, .int .i64 m, .int .i64 ((u : Int) + 1)] ∧ Blk W (w.heap.size + 1 + 1) 32 #[.int .i64 u, .slice Ao 64 co, .slice Ac 64 cc, .slice Ap q cp]) (by kernel_rfl) (⟨below_drewN hfB.out 1, hfK.out, hfS.out⟩) (fun Hd => ?_)
    have Hd : Below w.heap.size w wf.drew := below_drewN hfB.out 1
    have Zd : w9.heap.size ≤ wf.drew.heap.size := hfz
    have fK : Blk wf.drew w.heap.size 24 #[.slice A n c, .int .i64 m, .int .i64 ((u : Int) + 1)] := hfK.out
    have fR : Blk wf.drew (w.heap.size + 1) 24 #[.slice none 0 0, .int .i64 0, .int .i64 0] := hfR.out
    have fS : Blk wf.drew (w.heap.size + 1 + 1) 32 #[.int .i64 u, .slice Ao 64 co, .slice Ac 64 cc, .slice Ap q cp] := hfS.out
    have fp : Cells wf.drew Ap (bytesV (pathR (pubL s m) u).flatten) := hfP.out
    have fo : wf.drew.ownsRow (w9.heap.size) 29 32 (.slice Ao 64 co) 64 (bytesV (openL s u x 64).flatten) := hfO.out
    have fc : wf.drew.ownsRow (w9.heap.size) 29 32 (.slice Ac 64 cc) 64 (bytesV (closL s u x 64).flatten) := hfC.out
    generalize World.drew wf = wd at *
    refine ts 0 rfl ⟨Hd, fK, fS⟩ (fun w hSw => by
     have q0 := Blk.cellv hSw.2.1 (i := 0) rfl
     have q1 := Blk.cellv hSw.2.1 (i := 1) rfl
     have q2 := Blk.cellv hSw.2.1 (i := 2) rfl
     go_simp
     try with_reducible rfl) ?_
    refine ts 1 rfl ⟨Hd, fK, fS⟩ (fun w hSw => by
     have q0 := Blk.cellv hSw.2.2 (i := 0) rfl
     have q1 := Blk.cellv hSw.2.2 (i := 1) rfl
     have q2 := Blk.cellv hSw.2.2 (i := 2) rfl
     have q3 := Blk.cellv hSw.2.2 (i := 3) rfl
     go_simp
     try with_reducible rfl) ?_
    try simp only [la, Act.put]
    refine ty 2 rfl (fun K hK => ?_)
    refine step_put_blk (by rfl) _ _ _ (by rfl) (w.heap.size + 1) (#[.slice A n c, .int .i64 m, .int .i64 ((u : Int) + 1)]) (by rfl) (by rfl) _ _ fR (by kernel_rfl) (by rfl) (by simp [Value.oneCell']) ?_
    intro w1_ fR1 hg1 hz1
    have neK1 := fK.lt
    have fK1 := fK.gx hg1
    have neS1 := fS.lt
    have fS1 := fS.gx hg1
    have fp1 := fp.off8 hg1 fR (by first | exact no8_sig | exact no8_key)
    have fo1 := fo.kept hg1 (.inr (fun e => absurd (own_base fo _ e) (Nat.not_le.2 oR9)))
    have fc1 := fc.kept hg1 (.inr (fun e => absurd (own_base fc _ e) (Nat.not_le.2 oR9)))
    have Hb1 := bgx Hd hg1 Hd.size
    have Zb1 := Nat.le_trans Zd hg1.size
    refine hK.out _ _ ⟨Hb1, fK1, fS1⟩ fun _ => ?_
    clear hK K
    try simp only [la, Act.put]
    refine ty 3 rfl (fun K hK => ?_)
    refine step_put_blk (by rfl) _ _ _ (by rfl) (w.heap.size + 1 + 1) (#[.int .i64 u, .slice Ao 64 co, .slice Ac 64 cc, .slice Ap q cp]) (by rfl) (by rfl) _ _ fS1 (by kernel_rfl) (by rfl) (by simp [Value.oneCell']) ?_
    intro w2_ fS2 hg2 hz2
    have neR2 := fR1.lt
    have fR2 := fR1.gx hg2
    have neK2 := fK1.lt
    have fK2 := fK1.gx hg2
    have fp2 := fp1.off8 hg2 fS1 (by first | exact no8_sig | exact no8_key)
    have fo2 := fo1.kept hg2 (.inr (fun e => absurd (own_base fo1 _ e) (Nat.not_le.2 oS9)))
    have fc2 := fc1.kept hg2 (.inr (fun e => absurd (own_base fc1 _ e) (Nat.not_le.2 oS9)))
    have Hb2 := bgx Hb1 hg2 Hb1.size
    have Zb2 := Nat.le_trans Zb1 hg2.size
    refine hK.out _ _ ⟨Hb2, fK2, fS2⟩ fun _ => ?_
    clear hK K
    try simp only [la, Act.put]
    refine tq 4 rfl ⟨Hb2, fK2, fS2⟩ ?_
    try simp only [la, Act.put]
    refine td ?_ _
    go_wp2_with (fail)
    exact ret_row3 rfl (w.heap.size + 1) (w.heap.size + 1 + 1) 24 32 #[.slice A n c, .int .i64 m, .int .i64 ((u : Int) + 1)] #[.int .i64 u, .slice Ao 64 co, .slice Ac 64 cc, .slice Ap q cp] _ _ rfl rfl rfl fR2 fS2 Tryz.underlying24 Tryz.underlying32 rfl rfl (by kernel_rfl) (by kernel_rfl) rfl ⟨Ao, co, Ac, cc, Ap, q, cp, rfl, Hpq.out, Hqc.out, Hcp.out, lo1.out, lo2.out, lc1.out, lc2.out, Cells.own fo2, Cells.own fc2, fp2, fun l => (NewA.own fo2).mono (by omega), fun l => (NewA.own fc2).mono (by omega), HN5.out, Hb2⟩
end Go.Proofs.YtkflpoiobpblhaaGreat
