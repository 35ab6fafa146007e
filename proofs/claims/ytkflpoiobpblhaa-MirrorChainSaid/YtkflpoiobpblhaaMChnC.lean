/- Mirror: the walk of the laws' chain. -/
import Derived.Deep.RegionHeld3
import Derived.Test.YtkflpoiobpblhaaP44
import Derived.Test.YtkflpoiobpblhaaMCh0C
namespace Go.Proofs.Ytkflpoiobpblhaa
open Go.RowKit
set_option linter.unusedVariables false
set_option linter.unusedSimpArgs false
theorem ret_row12 {P : Program} {fn : Func} {R : Ending → World → Prop} {a : Act} {w : World} {p q r : Tmp} {ty : TypeId} {u v : Value} (h : fn.results = #[.cell p ty, .tmp q, .tmp r]) (g : Nat) (t : TypeId) (cs : Array Value) (d : TypeDesc)
    (hp : a.tmps.getD p undef = .pointer (some ⟨g, 0, none⟩)) (hq : a.tmps.getD q undef = u) (hr : a.tmps.getD r undef = v) (hg : Blk w g t cs) (hu : P.underlying ty = some d) (hd : (match d with | .struct _ | .array _ _ => true | _ => false) = true) (hi : (P.info? ty).map (·.size) = some cs.size)
    (hdf : a.defers = []) (hR : R (.returned (.tuple #[.agg cs, u, v])) w) : bodyPost P fn R .ret a w := by
  refine bodyPost_ret (v := .tuple #[.agg cs, u, v]) ?_ hdf hR
  have hp' : a.tmps[p]?.getD undef = .pointer (some ⟨g, 0, none⟩) := by simpa using hp
  have hq' : a.tmps[q]?.getD undef = u := by simpa using hq
  have hr' : a.tmps[r]?.getD undef = v := by simpa using hr
  simp [results, h, hp', hq', hr', asAddr, run_loadVar_row w g t ty cs (0, 0) d hg hu hd hi]
theorem Cells.lowB {w w' : World} {A : Option Addr} {cs : List Value} {B : Nat} (h : Cells w A cs) (hA : ∀ b off, A = some ⟨b, off, none⟩ → b < B) (hb : Below B w w') : Cells w' A cs := by
  rcases h with rfl | ⟨b, off, rfl, hlt, hc⟩
  · exact .inl rfl
  · exact .inr ⟨b, off, rfl, Nat.lt_of_lt_of_le hlt hb.size, fun j u hu => (hb.cell (p := ⟨b, off + j, none⟩) (hA b off rfl)).trans (hc j u hu)⟩
structure ChnB (w5 : World) (base kb : Nat) (L : Value) (W : World) (l : List Mir.Ve) : Prop where
  r : VersR base kb L W l
  lo : Below kb w5 W
  kb : kb < base
  sz : base ≤ W.heap.size
structure ChnA (w5 : World) (base kb : Nat) (L : Value) (W : World) (l : List Mir.Ve) (v : Mir.Ve) (V : Array Value) : Prop where
  b : ChnB w5 base kb L W l
  v : VerR kb L W v V
  z : V.size = 38
  o : V.all (·.oneCell') = true
section
variable {w5 W W' : World} {base kb : Nat} {L : Value} {l : List Mir.Ve} {v : Mir.Ve} {V : Array Value}
theorem ChnB.below (h : ChnB w5 base kb L W l) (hb : Below W.heap.size W W') : ChnB w5 base kb L W' l :=
  ⟨h.r.below hb, below_of h.lo hb (by have := h.kb; have := h.sz; omega), h.kb, Nat.le_trans h.sz hb.size⟩
theorem ChnB.key (h : ChnB w5 base kb L W l) (hg : W.grownBy W' (some kb)) : ChnB w5 base kb L W' l :=
  ⟨h.r.key hg h.kb, below_grown h.lo hg (by have := h.kb; have := h.sz; omega) (fun k e => by injection e with e; omega), h.kb, Nat.le_trans h.sz hg.size⟩
theorem grown_row {row : Option Nat} (hg : W.grownBy W' row) (hr : ∀ g, row = some g → ¬ g ≠ kb) : W.grownBy W' (some kb) := by
  cases row with
  | none => exact grown_of_below (⟨hg.os, hg.tape, hg.output, hg.size, fun k hk => hg.block k hk (by simp)⟩ : Below W.heap.size W W') _
  | some g => have : g = kb := Classical.byContradiction (hr g rfl); rw [← this]; exact hg
theorem ChnB.grown {row : Option Nat} (h : ChnB w5 base kb L W l) (hg : W.grownBy W' row) (hr : ∀ g, row = some g → ¬ g ≠ kb) : ChnB w5 base kb L W' l := h.key (grown_row hg hr)
theorem ChnA.below (h : ChnA w5 base kb L W l v V) (hb : Below W.heap.size W W') : ChnA w5 base kb L W' l v V := ⟨h.b.below hb, h.v.sam (Sam.of_below hb), h.z, h.o⟩
theorem ChnA.grown {row : Option Nat} (h : ChnA w5 base kb L W l v V) (hg : W.grownBy W' row) (hr : ∀ g, row = some g → ¬ g ≠ kb) : ChnA w5 base kb L W' l v V := ⟨h.b.grown hg hr, h.v.sam (Sam.of_key (grown_row hg hr)), h.z, h.o⟩
theorem ChnA.app (h : ChnA w5 base kb L W l v V) : ∃ xs, W.ownsRow base 38 38 L l.length xs ∧ ∀ L' W', W'.ownsRow base 38 38 L' (l.length + 1) (xs ++ V.toList) → W.grownBy W' L.ownBlock → Sits L L' W → ChnB w5 base kb L' W' (l ++ [v]) := by
  obtain ⟨xs, h1, h2⟩ := h.b.r.push h.v
  have hk := h.b.kb
  have hs := h.b.sz
  exact ⟨xs, h1, fun L' W' ho hg hst => ⟨h2 L' W' ho hg hst, below_grown h.b.lo hg (by omega) (fun k e => by have := (h.b.r.lt k e).1; omega), hk, Nat.le_trans hs hg.size⟩⟩
end
namespace Mir
def prevK (ss : List (List It)) (j : Nat) : List It := (ss.take j).getLastD []
theorem vsK_snoc (s : List Nat) : ∀ (u : Nat) (x : List It) (l : List (List It)) (y : List It), vsK s u x (l ++ [y]) = vsK s u x l ++ [vsnV s 2 (u + l.length) y (diffS (l.getLastD x) y)]
  | u, x, [], y => by simp [vsK]
  | u, x, z :: l, y => by
    have ih := vsK_snoc s (u + 1) z l y
    simp only [List.cons_append, vsK]
    rw [ih, List.getLastD_cons, List.length_cons, show u + 1 + l.length = u + (l.length + 1) by omega]
theorem take_snoc {ss : List (List It)} {j : Nat} {x : List It} (h : ss[j]? = some x) : ss.take (j + 1) = ss.take j ++ [x] := by
  rw [List.take_add_one, h]; rfl
theorem vsK_step (s : List Nat) {ss : List (List It)} {j : Nat} {x : List It} (h : ss[j]? = some x) : vsK s 0 [] (ss.take (j + 1)) = vsK s 0 [] (ss.take j) ++ [vsnV s 2 j x (diffS (prevK ss j) x)] := by
  have hl : (ss.take j).length = j := by
    have := (List.getElem?_eq_some_iff.1 h).1
    rw [List.length_take]; omega
  rw [take_snoc h, vsK_snoc, hl, Nat.zero_add]; rfl
theorem prevK_succ {ss : List (List It)} {j : Nat} {x : List It} (h : ss[j]? = some x) : prevK ss (j + 1) = x := by
  unfold prevK
  rw [take_snoc h]; simp
theorem prevK_ok {ss : List (List It)} {p : List It → Prop} (h : ∀ x ∈ ss, p x) (h0 : p []) (j : Nat) : p (prevK ss j) := by
  unfold prevK
  rcases List.eq_nil_or_concat (ss.take j) with e | ⟨l, y, e⟩
  · rw [e]; exact h0
  · rw [e]
    have : y ∈ ss.take j := by rw [e]; simp
    simpa using h y (List.mem_of_mem_take this)
def okS (x : List It) : Prop := itE x = 0 ∧ x.length ≤ 12 ∧ ∀ y ∈ x, y.2.length ≤ 300
theorem okS_nil : okS [] := ⟨itE_nil, by simp, by simp⟩
end Mir
theorem StatesC.at_ {w : World} {S : Option Addr} {ss : List (List Mir.It)} (h : StatesC w S ss) {k : Nat} {x : List Mir.It} (hx : ss[k]? = some x) :
    ∃ (A : Option Addr) (c : Nat), x.length ≤ c ∧ c ≤ maxLen ∧ ItemsC w A x ∧ ∃ b off, S = some ⟨b, off, none⟩ ∧ b < w.heap.size ∧ w.cell? ⟨b, off + k, none⟩ = some (.slice A x.length c) := by
  obtain ⟨hs, h1, h2, h3⟩ := h
  have hlt := (List.getElem?_eq_some_iff.1 hx).1
  have hh : hs[k]? = some hs[k] := List.getElem?_eq_getElem (by omega)
  obtain ⟨g1, g2, g3⟩ := h2 k _ x hh hx
  exact ⟨_, _, g1, g2, g3, h3 k _ x hh hx⟩
set_option maxRecDepth 100000 in
set_option maxHeartbeats 8000000 in
theorem chain_any (b : Nat) (hb8 : b < 256) (S : Option Addr) (n c : Nat) (ss : List (List Mir.It)) (w : World) (hS : StatesC w S ss) (hn : ss.length = n) (hn2 : n ≤ 2) (hok : ∀ x ∈ ss, Mir.okS x) :
    Calls Try.prog 10 #[.int .u8 (b : Int), .slice S n c] w fun e w' => ∃ A c', e = .returned (.tuple #[.agg (arrK .u8 (Mir.rootK [b])), .slice A n c', .bool true]) ∧ VersC w' A (Mir.vsK [b] 0 [] ss) ∧ n ≤ c' ∧ c' ≤ maxLen ∧ Below w.heap.size w w' := by
  have HS := Lib.hid hS
  have Hn := Lib.hid hn
  have Hok := Lib.hid hok
  have H8 := Lib.hid (show ByteL [b] from byteL_of (by simpa using hb8))
  obtain ⟨P, hP⟩ : ∃ P, Mir.rootK [b] = P := ⟨_, rfl⟩
  have HP := Lib.hid hP
  have HPd := Lib.hid (show IsD P by rw [← hP]; exact treeS_isD _)
  have HPub := Lib.hid (fun (A : Option Addr) (c : Nat) (W : World) h => Public_any A 1 c 2 0 [b] W h rfl H8.out)
  rw [pubR_root (n := 1) (by decide), hP, show okKey 1 2 0 = true by decide, show errKey true = 0 from rfl] at HPub
  have Hc := Lib.hid (fun (W : World) (h : W.heap[w.heap.size + 1]? = some (.cells #[.int .u8 (b : Int)] 5 (0, 0))) => bytes_row' (fr := (0, 0)) [b] h)
  rw [hP]
  clear hP hS hn hok
  go_enter Try.func10, Try.ntmps10
  go_wp2_with (fail)
  generalize hge : World.alloc (World.alloc _ _) _ = w1
  have HD1 := Lib.hid (show Blk w1 w.heap.size 28 (arrK .u8 z32) by subst hge; exact (blk_two w (arrK .u8 z32) _ 28 5).1)
  have hS1 : Cells w1 (some ⟨w.heap.size + 1, 0, none⟩) (bytesV [b]) := Hc.out w1 (by subst hge; exact (blk_two w (arrK .u8 z32) #[.int .u8 (b : Int)] 28 5).2)
  have HB1 := Lib.hid (show Below w.heap.size w w1 by subst hge; exact below_two' (Below.refl _ _) (Nat.le_refl _) _ _)
  have hz1 : w1.heap.size = w.heap.size + 2 := by subst hge; simp
  clear hge
  refine (New_goodN (some ⟨w.heap.size + 1, 0, none⟩) 1 1 2 [b] w1 hS1 rfl (by omega) (by omega) (by unfold maxLen; omega) (by decide)).mono ?_
  rintro e w2 ⟨A2, c2, rfl, hk1, hk2, hS2, hN2, hb2⟩
  have hz2 := hb2.size
  have HB2 := Lib.hid (below_of HB1.out hb2 HB1.out.size)
  have HD2 := Lib.hid (HD1.out.below hb2)
  have HS2 := Lib.hid hS2
  have HN2 := Lib.hid (show ∀ o off, A2 = some ⟨o, off, none⟩ → w.heap.size < o from fun o off e => by have := hN2 o off e; omega)
  clear hb2 hS2 hS1 HB1 HD1 hN2
  go_wp2_with (fail)
  generalize hge : World.alloc _ _ = w3
  have HK3 := Lib.hid (show Blk w3 w2.heap.size 41 #[.slice A2 1 c2, .int .i64 2, .int .i64 0] by subst hge; exact Blk.new _ _ _)
  have hb3 : Below w2.heap.size w2 w3 := by subst hge; exact (Below.refl _ _).alloc (Nat.le_refl _) _
  have HB3 := Lib.hid (below_of HB2.out hb3 HB2.out.size)
  have HS3 := Lib.hid (HS2.out.below hb3)
  have HSlo := Lib.hid (show ∀ o off, A2 = some ⟨o, off, none⟩ → o < w2.heap.size from fun o off e => by
    rcases HS2.out with h | ⟨o', off', e', h, -⟩
    · exact absurd h (by unfold bytesV; simp)
    · rw [e] at e'; injection e' with e'; injection e' with e'; omega)
  have HD3 := Lib.hid (HD2.out.below hb3)
  obtain ⟨kb, hkb⟩ : ∃ k, w2.heap.size = k := ⟨_, rfl⟩
  rw [hkb] at HK3 HSlo ⊢
  have hk3 : kb < w3.heap.size := HK3.out.lt
  have hwk : w.heap.size + 2 ≤ kb := by omega
  clear hge hb3 HS2 HB2 HD2 hkb hz1 hz2
  refine (HPub.out A2 c2 w3 HS3.out).mono ?_
  rintro e w4 ⟨rfl, hb4⟩
  have HB4 := Lib.hid (below_of HB3.out hb4 HB3.out.size)
  have HS4 := Lib.hid (HS3.out.below hb4)
  have HK4 := Lib.hid (HK3.out.below hb4)
  have HD4 := Lib.hid (HD3.out.below hb4)
  have hz4 := hb4.size
  clear hb4 HB3 HS3 HK3 HPub HD3
  go_upto_region 3 with (first
    | (refine wpList_put_blk rfl 28 (.tmp 4) (.tmp 27) rfl w.heap.size (arrK .u8 P) rfl rfl 28 (arrK .u8 z32) HD4.out (info32 HPd.out.1) (by rw [len32 HPd.out.1, len32 z32_length]) (arrK_all _ _) ?_
       intro w5 HZ hg5 hz5
       have HD5 := Lib.hid HZ
       have HB5 := Lib.hid (below_grown HB4.out hg5 HB4.out.size (fun k hk => by injection hk with hk; omega))
       have HS5 := Lib.hid (HS4.out.grown hg5 (fun o off e => by have h1 := HN2.out o off e; intro e2; injection e2 with e2; omega))
       have HK5 := Lib.hid (HK4.out.grown hg5 (by intro e2; injection e2 with e2; omega))
       clear hg5 HZ))
  clear HB4 HS4 HK4 HD4
  go_wp2_with (fail)
  generalize hge : World.alloc _ _ = w6
  have hb6 : Below w5.heap.size w5 w6 := by subst hge; exact (Below.refl _ _).alloc (Nat.le_refl _) _
  have hk6 : kb < w6.heap.size := by have := hb6.size; omega
  have HB6 := Lib.hid (below_of HB5.out hb6 HB5.out.size)
  have HK6 := Lib.hid (HK5.out.below hb6)
  have HL6 := Lib.hid (show Below kb w5 w6 from hb6.mono (by omega))
  clear hge hb6 HK5
  obtain ⟨base, hbase⟩ : ∃ k, w6.heap.size = k := ⟨_, rfl⟩
  rw [hbase] at hk6
  have Hsz := Lib.hid (show base ≤ w6.heap.size by omega)
  clear hbase hz5 hz4 hk3
  have HLow := Lib.hid (fun (W : World) (h : Below kb w5 W) => show Below w.heap.size w W from HB5.out.trans (h.mono (by omega)))
  go_loopw [5, 10, 39] (fun L Bf i W => ∃ j : Nat, j ≤ n ∧ i = .int .i64 (j : Int) ∧ ∃ (Ab : Option Addr) (nb cb : Nat), Bf = .slice Ab nb cb ∧ Hid ((Mir.prevK ss j).length = nb) ∧ Hid (nb ≤ cb ∧ cb ≤ maxLen) ∧ Hid (ItemsC w Ab (Mir.prevK ss j)) ∧ Hid (ChnB w5 base kb L W (Mir.vsK [b] 0 [] (ss.take j))) ∧ Hid (Blk W kb 41 #[.slice A2 1 c2, .int .i64 2, .int .i64 (j : Int)])) (fun _ _ i _ => n - (intOf i).toNat)
  case atStart => exact ⟨0, by omega, rfl, _, _, _, rfl, Lib.hid rfl, Lib.hid ⟨Nat.le_refl _, by unfold maxLen; omega⟩, Lib.hid (ItemsC.nil_ _ _), Lib.hid ⟨VersR.nil_ _ _ _, HL6.out, hk6, Hsz.out⟩, HK6⟩
  case round =>
    obtain ⟨wk, rfl⟩ : ∃ wk : World, wk = wr := ⟨_, rfl⟩
    obtain ⟨j, hj, rfl, Ab, nb, cb, rfl, hnb, hcb, hIb, hC, hK⟩ := hrel
    obtain ⟨ll, hll⟩ : ∃ l, Mir.vsK [b] 0 [] (ss.take j) = l := ⟨_, rfl⟩
    have Hll := Lib.hid hll
    have Hlj := Lib.hid (show ll.length = j by rw [← hll, Mir.vsK_length, List.length_take, Hn.out]; omega)
    rw [hll] at hC
    clear hll
    have HL := Lib.hid hC.out.r.lt
    have hsz := hC.out.sz
    obtain ⟨Al, cl, rfl, hle, hlm⟩ := hC.out.r.form
    have Hcl := Lib.hid (And.intro hle hlm)
    rw [Hlj.out] at hC HL ⊢
    have HBk := Lib.hid (HLow.out wk hC.out.lo)
    have hwz := HBk.out.size
    clear hle hlm
    by_cases hlt : j < n
    · obtain ⟨x, hx⟩ := getElem?_lt (l := ss) (k := j) (by rw [Hn.out]; exact hlt)
      obtain ⟨Ax, cx, hxc, hxm, hIx, bS, oS, rfl, hbS, hcS⟩ := HS.out.at_ hx
      obtain ⟨nx, hnx⟩ : ∃ m, x.length = m := ⟨_, rfl⟩
      rw [hnx] at hcS hxc
      have cc : wk.cell? ⟨bS, oS + j, none⟩ = some (.slice Ax nx cx) := (HBk.out.cell (p := ⟨bS, oS + j, none⟩) hbS).trans hcS
      have o1 := Mir.prevK_ok (p := Mir.okS) Hok.out Mir.okS_nil j
      have o2 := Hok.out x (List.mem_of_getElem? hx)
      have e1 := Mir.diffR_ok o1.1 o2.1
      have HD := Lib.hid (diff_any2 w Ab Ax nb nx cb cx (Mir.prevK ss j) x wk HBk.out hnb.out hnx (by have := o1.2.1; rw [hnb.out] at this; omega) (by have := o2.2.1; omega) hIb.out hIx hcb.out.1 hxc hcb.out.2 hxm)
      rw [e1.1, e1.2] at HD
      obtain ⟨DS, hDS⟩ : ∃ D, Mir.diffS (Mir.prevK ss j) x = D := ⟨_, rfl⟩
      rw [hDS] at HD
      obtain ⟨m, hm⟩ : ∃ m, DS.length = m := ⟨_, rfl⟩
      rw [hm] at HD
      have cD : Mir.chOk DS = true := by rw [← hDS]; exact Mir.chOk_diff o1.1 o2.1 (by have := o1.2.1; have := o2.2.1; omega)
      have sD : ∀ y ∈ DS, y.1.2.length ≤ 300 := by rw [← hDS]; exact Mir.diff_small o1.2.2 o2.2.2
      have mD : m ≤ 24 := by rw [← hm, ← hDS]; have := Mir.diffS_length (Mir.prevK ss j) x; have := o1.2.1; have := o2.2.1; omega
      have eV : Mir.vsnE 1 2 (j : Int) j x DS = 0 := Mir.vsnE_ok (by unfold okKey; simp; omega) rfl o2.1 cD (by omega)
      have eW : Mir.verE P 2 (Mir.vsnV [b] 2 j x DS) = 0 := by rw [← HP.out]; exact Mir.vsn_ver [b] 2 j x DS (by omega) (by omega) cD
      have HV := Lib.hid (fun W C cC h1 h2 h3 (h4 : m ≤ cC) h5 => mversion_any A2 Al Ax C 1 c2 j cl nx cx m cC 2 (j : Int) [b] x DS W h1 rfl H8.out h2 hnx h3 hm (by omega) (by have := o2.2.1; omega) (fun y hy => by have := o2.2.2 y hy; omega) (by omega) (fun y hy => by have := sD y hy; omega) h4 h5)
      rw [eV] at HV
      have HW := Lib.hid (fun V W h => mverify_any P 2 (Mir.vsnV [b] 2 j x DS) V W HPd.out h (show DS.length ≤ 1000000 by omega) (show ∀ y ∈ DS, y.1.2.length ≤ 900000 from fun y hy => by have := sD y hy; omega))
      rw [eW] at HW
      have HIx := Lib.hid hIx
      have Hnx := Lib.hid (And.intro hnx (And.intro hxc hxm))
      have Hx := Lib.hid hx
      have HDS := Lib.hid hDS
      have Hm := Lib.hid hm
      clear hcS o1 o2 e1 hDS hm cD sD eV eW hIx hnx hx hxc hxm
      go_wp2_with (fail)
      refine HD.out.mono ?_
      rintro e w1' ⟨C, cC, hs, rfl, hC1, hC2, hdat, hown, hb1⟩
      have HK1 := Lib.hid (hK.out.below hb1)
      have hz1 := hb1.size
      have HC1 := Lib.hid (hC.out.below hb1)
      have HB1 := Lib.hid (below_of HBk.out hb1 HBk.out.size)
      have Hdat := Lib.hid hdat
      have Hown := Lib.hid hown
      have HcC := Lib.hid (And.intro hC1 hC2)
      have HS1 := Lib.hid (show Cells w1' A2 (bytesV [b]) from HS5.out.lowB HSlo.out HC1.out.lo)
      clear hdat hown hb1 hC1 hC2 HD cc
      go_wp2_with (refine wpList_load_blk rfl 41 (.tmp 7) rfl kb rfl 41 #[.slice A2 1 c2, .int .i64 2, .int .i64 (j : Int)] _ HK1.out Try.underlying41 rfl (by kernel_rfl) ?_)
      refine (HV.out w1' C cC HS1.out (HIx.out.below HB1.out) (Hdat.out.changes HB1.out (Cells.own Hown.out)) HcC.out.1 HcC.out.2).mono ?_
      rintro e w2' ⟨V, K1, rfl, ⟨-, rfl, hV, hVN⟩ | ⟨h, -⟩, hb2⟩
      rotate_left
      · exact absurd rfl h
      have HVC := Lib.hid (show VerC w2' (Mir.vsnV [b] 2 j x DS) V from hV)
      have hVN' : VerN w1'.heap.size C cC w2' (Mir.vsnV [b] 2 j x DS) V := hVN
      have HB2 := Lib.hid (below_of HB1.out hb2 HB1.out.size)
      have hz2 := hb2.size
      have HVR := Lib.hid (show VerR kb (.slice Al j cl) w2' (Mir.vsnV [b] 2 j x DS) V from VerR.mk_ (wb := w) (Wd := w1') (B := wk.heap.size + 1) (B' := w1'.heap.size) (n := m) (cc := cC) (C := C) (hs := hs) (by
        have : (Mir.vsnV [b] 2 j x DS).ch = DS := rfl
        rw [this]; exact Hown.out) hb2 (by
        have : (Mir.vsnV [b] 2 j x DS).ch = DS := rfl
        rw [this]; exact Hdat.out) HB2.out hVN' (by omega) (by omega) (by omega) (fun g e => by have := HL.out g e; omega))
      have HC2 := Lib.hid (HC1.out.below hb2)
      have HK2 := Lib.hid (HK1.out.below hb2)
      clear hV hVN hVN' hb2 HV HC1 HK1 HS1 HB1 Hdat Hown HcC
      obtain ⟨v, hv⟩ : ∃ v, Mir.vsnV [b] 2 j x DS = v := ⟨_, rfl⟩
      rw [hv] at HVC HVR HW
      have Hv := Lib.hid hv
      clear hv
      have aV := Lib.hid HVC.out.all
      have iV := Lib.hid HVC.out.info
      have zV := Lib.hid HVC.out.size
      obtain ⟨K2, hK2⟩ : ∃ K, (#[.slice A2 1 c2, .int .i64 2, .int .i64 ((j : Int) + 1)] : Array Value) = K := ⟨_, rfl⟩
      have HK2e := Lib.hid hK2
      have iK := Lib.hid (show (Try.prog.info? 41).map (·.size) = some K2.size by rw [← hK2]; kernel_rfl)
      have zK := Lib.hid (show K2.size = 3 by rw [← hK2]; rfl)
      have aK := Lib.hid (show K2.all (·.oneCell') = true by rw [← hK2]; kernel_rfl)
      rw [hK2]
      clear hK2
      go_upto_region 11 with (first
        | (refine wpList_put_blk rfl 38 (.tmp 15) (.tmp 55) rfl w2'.heap.size V rfl rfl 38 Mir.ver0 (blk_two w2' Mir.ver0 ZK 38 41).1 iV.out (by rw [Mir.ver0_size, zV.out]) aV.out ?_
           intro w3' HZ hg hz
           have HZV := Lib.hid HZ
           have HZK := Lib.hid ((blk_two w2' Mir.ver0 ZK 38 41).2.grown hg (by simp))
           have hb := Lib.hid (show Below w2'.heap.size w2' w3' from below_grown (below_two' (Below.refl _ _) (Nat.le_refl _) _ _) hg (by simp; omega) (fun k hk => by cases hk; exact Nat.le_refl _))
           clear hg hz HZ)
        | (refine wpList_put_blk rfl 41 (.tmp 16) (.tmp 56) rfl (w2'.heap.size + 1) K2 rfl rfl 41 ZK HZK.out iK.out (by rw [zK.out]; rfl) aK.out ?_
           intro w4' HZ hg hz
           have HX4 := Lib.hid (HZV.out.grown hg (by simp))
           have HY4 := Lib.hid HZ
           have hb' := Lib.hid (show Below w2'.heap.size w2' w4' from below_grown hb.out hg hb.out.size (fun k hk => by cases hk; omega))
           clear hg hz HZ))
      have HVC4 := Lib.hid (HVC.out.below hb'.out)
      have HVR4 := Lib.hid (HVR.out.sam (Sam.of_below hb'.out))
      have HC4 := Lib.hid (HC2.out.below hb'.out)
      have HK4 := Lib.hid (HK2.out.below hb'.out)
      have HB4 := Lib.hid (below_of HB2.out hb'.out HB2.out.size)
      have HP4 := Lib.hid (show Blk w4' w.heap.size 28 (arrK .u8 P) from HD5.out.at_ HC4.out.lo (by omega))
      obtain ⟨X, hX⟩ : ∃ X, w2'.heap.size = X := ⟨_, rfl⟩
      rw [hX] at HX4 HY4 hz2 ⊢
      clear hX HVC HVR HC2 HK2 HB2 hb hb' HZV HZK
      go_wp2_with (first
        | (refine wpList_load_blk_g 28 (.tmp 4) (by rfl) (by kernel_rfl) w.heap.size rfl 28 (arrK .u8 P) (.array 32 5) HP4.out (by kernel_rfl) rfl (info32 HPd.out.1) ?_)
        | (refine wpList_load_blk_g 38 (.tmp 15) (by rfl) (by kernel_rfl) X rfl 38 V _ HX4.out Try.underlying38 rfl iV.out ?_))
      refine (HW.out V w4' HVC4.out).mono ?_
      rintro e w6' ⟨rfl, hb6⟩
      have HX6 := Lib.hid (HX4.out.below hb6)
      have HY6 := Lib.hid (HY4.out.below hb6)
      have HK6' := Lib.hid (HK4.out.below hb6)
      have HA6 := Lib.hid (show ChnA w5 base kb (.slice Al j cl) w6' ll v V from ⟨HC4.out.below hb6, HVR4.out.sam (Sam.of_below hb6), zV.out, aV.out⟩)
      have HB6' := Lib.hid (below_of HB4.out hb6 HB4.out.size)
      have hkX : kb < X := by omega
      have hLX : ∀ g, (Value.slice Al j cl).ownBlock = some g → g < X := fun g e => by have := (HL.out g e).2; omega
      clear hb6 HX4 HY4 HK4 HC4 HVR4 HB4 HVC4 HP4 HW
      go_upto_region 13 with (fail)
      refine wp_region_held_drew (S := fun W => Below w.heap.size w W ∧ Blk W X 38 V ∧ Blk W (X + 1) 41 K2) (by kernel_rfl) (⟨below_drewN HB6'.out 1, HX6.out, HY6.out⟩) (fun Hd => ?_)
      have Hd : Below w.heap.size w w6'.drew := below_drewN HB6'.out 1
      have Zd : base ≤ w6'.drew.heap.size := HA6.out.b.sz
      have fX : Blk w6'.drew X 38 V := HX6.out
      have fY : Blk w6'.drew (X + 1) 41 K2 := HY6.out
      have fK : Blk w6'.drew kb 41 _ := HK6'.out
      have fR : ChnA w5 base kb (.slice Al j cl) w6'.drew ll v V := HA6.out.below (below_drewN (Below.refl _ _) 1)
      generalize World.drew w6' = wd at *
      refine wpAnyH_take (i := 0) (v := ?_) rfl (by kernel_rfl) (by kernel_rfl) (by kernel_rfl) (fun _ _ _ h => h) (Or.inl ⟨by rfl, ?_⟩) ⟨Hd, fX, fY⟩ ?_
      rotate_left
      · intro wS hSw
        go_simp
        try with_reducible rfl
      try simp only [la0, la1, la2, Act.put, la3, la4, la5]
      refine wpAnyH_take (i := 1) (v := .agg (V)) rfl (by kernel_rfl) (by kernel_rfl) (by kernel_rfl) (fun _ _ _ h => h) (yields_load_blk (by rfl) _ _ rfl (X) rfl 38 (V) _ (fun W hW => hW.2.1) Try.underlying38 rfl iV.out) ⟨Hd, fX, fY⟩ ?_
      try simp only [la0, la1, la2, Act.put, la3, la4, la5]
      refine wpAnyH_take (i := 4) (v := .agg (K2)) rfl (by kernel_rfl) (by kernel_rfl) (by kernel_rfl) (fun _ _ _ h => h) (yields_load_blk (by rfl) _ _ rfl ((X + 1)) rfl 41 (K2) _ (fun W hW => hW.2.2) Try.underlying41 rfl iK.out) ⟨Hd, fX, fY⟩ ?_
      try simp only [la0, la1, la2, Act.put, la3, la4, la5]
      refine wpAnyH_take (i := 5) (v := ?_) rfl (by kernel_rfl) (by kernel_rfl) (by kernel_rfl) (fun _ _ _ h => h) (Or.inl ⟨by rfl, ?_⟩) ⟨Hd, fX, fY⟩ ?_
      rotate_left
      · intro wS hSw
        go_simp
        try with_reducible rfl
      try simp only [la0, la1, la2, Act.put, la3, la4, la5]
      refine wpAnyH_ready (rs := [2]) (by kernel_rfl) (by simp) (AllReadyH.cons rfl (fun K hK => ?_) AllReadyH.nil)
      refine step_oneV (by rfl) (.tmp 72) (by rfl) V zV.out (by rfl) ?_
      generalize hge : World.alloc _ _ = w1_
      have fE1 : Blk w1_ wd.heap.size 38 (V) := by subst hge; exact Blk.new _ _ _
      have hb1 : Below wd.heap.size wd w1_ := by subst hge; exact (Below.refl _ _).alloc (Nat.le_refl _) _
      clear hge
      have fX1 := fX.below hb1
      have fY1 := fY.below hb1
      have fK1 := fK.below hb1
      have fR1 := fR.below hb1
      have ltXE1 := fX.lt
      have ltYE1 := fY.lt
      have ltKE1 := fK.lt
      have loE1 : base ≤ wd.heap.size := Zd
      have Hb1 : Below w.heap.size w w1_ := below_of Hd hb1 Hd.size
      have Zb1 : base ≤ w1_.heap.size := Nat.le_trans Zd hb1.size
      refine hK.out _ _ ⟨Hb1, fX1, fY1⟩ fun _ => ?_
      clear hK K
      try simp only [la0, la1, la2, Act.put, la3, la4, la5]
      refine wpAnyH_ready (rs := [3]) (by kernel_rfl) (by simp) (AllReadyH.cons rfl (fun K hK => ?_) AllReadyH.nil)
      obtain ⟨XS, hown2, hpush2⟩ := fR1.app
      rw [Hlj.out] at hown2 hpush2
      refine step_append_cells (by rfl) (.tmp 71) (.tmp 73) 29 (by rfl) base 38 (.agg Mir.ver0) 38 144 (by kernel_rfl) (by kernel_rfl) rfl (by omega) (.slice Al j cl) j XS hown2 (by rfl) (some ⟨wd.heap.size, 0, none⟩) 1 1 V.toList (by rfl) (by rw [Array.length_toList, zV.out]) (cells_blk fE1) (by have := aV.out; rw [Array.all_eq_true'] at this; simpa using this) (by unfold maxLen; omega) (by omega) fR1.b.sz ?_
      intro v2 w2_ o2 hg2 st2
      have fR2 := hpush2 _ _ o2 hg2 st2
      have fX2 := fX1.grown hg2 (fun e => by have := hLX _ e.symm; omega)
      have fY2 := fY1.grown hg2 (fun e => by have := hLX _ e.symm; omega)
      have fK2 := fK1.grown hg2 (fun e => by have := own_base hown2 _ e.symm; omega)
      have Hb2 : Below w.heap.size w w2_ := below_grown Hb1 hg2 Hb1.size (fun k e => by have := own_base hown2 k e; omega)
      have Zb2 : base ≤ w2_.heap.size := fR2.sz
      refine hK.out _ _ ⟨Hb2, fX2, fY2⟩ fun _ => ?_
      clear hK K
      try simp only [la0, la1, la2, Act.put, la3, la4, la5]
      refine wpAnyH_take (i := 6) (v := ?_) rfl (by kernel_rfl) (by kernel_rfl) (by kernel_rfl) (fun _ _ _ h => h) (Or.inl ⟨by rfl, ?_⟩) ⟨Hb2, fX2, fY2⟩ ?_
      rotate_left
      · intro wS hSw
        go_simp
        try with_reducible rfl
      try simp only [la0, la1, la2, Act.put, la3, la4, la5]
      refine wpAnyH_ready (rs := [7]) (by kernel_rfl) (by simp) (AllReadyH.cons rfl (fun K hK => ?_) AllReadyH.nil)
      refine step_put_blk (by rfl) _ _ _ (by rfl) (kb) (K2) (by rfl) (by rfl) _ _ fK2 iK.out (by rw [zK.out]; rfl) aK.out ?_
      intro w3_ fK3 hg3 hz3
      have neX3 := fX2.lt
      have fX3 := fX2.grown hg3 (by first | (simp; done) | (simp; omega))
      have neY3 := fY2.lt
      have fY3 := fY2.grown hg3 (by first | (simp; done) | (simp; omega))
      have fR3 := fR2.grown hg3 (fun g e => by injection e with e; subst e; exact (fun h => h rfl))
      have Hb3 : Below w.heap.size w w3_ := below_grown Hb2 hg3 Hb2.size (by first | (simp; done) | (simp; omega))
      have Zb3 : base ≤ w3_.heap.size := Nat.le_trans Zb2 hg3.size
      refine hK.out _ _ ⟨Hb3, fX3, fY3⟩ fun _ => ?_
      clear hK K
      try simp only [la0, la1, la2, Act.put, la3, la4, la5]
      refine wpAnyH_take (i := 8) (v := ?_) rfl (by kernel_rfl) (by kernel_rfl) (by kernel_rfl) (fun _ _ _ h => h) (Or.inl ⟨by rfl, ?_⟩) ⟨Hb3, fX3, fY3⟩ ?_
      rotate_left
      · intro wS hSw
        go_simp
        try with_reducible rfl
      try simp only [la0, la1, la2, Act.put, la3, la4, la5]
      refine wpAnyH_done (by kernel_rfl) ?_ _
      go_wp2_with (fail)
      go_roundw
      case rel => exact ⟨j + 1, by omega, by go_num, Ax, nx, cx, rfl, Lib.hid (by rw [Mir.prevK_succ Hx.out]; exact Hnx.out.1), Lib.hid Hnx.out.2, Lib.hid (by rw [Mir.prevK_succ Hx.out]; exact HIx.out), Lib.hid (by rw [Mir.vsK_step [b] Hx.out, Hll.out, HDS.out, Hv.out]; exact fR3), Lib.hid (by have := fK3; rw [← HK2e.out] at this; exact this)⟩
      case measure => simp [intOf]; omega
    · obtain rfl : j = n := by omega
      have hP' : Blk wk w.heap.size 28 (arrK .u8 P) := HD5.out.at_ hC.out.lo (by omega)
      go_wp2_with (first
        | (refine wpList_load_blk rfl 28 (.tmp 4) rfl w.heap.size rfl 28 (arrK .u8 P) (.array 32 5) hP' (by kernel_rfl) rfl (info32 HPd.out.1) ?_)
        | (refine wpList_store_same rfl 28 (.tmp 4) (.tmp 78) rfl w.heap.size (arrK .u8 P) rfl rfl 28 hP' (info32 HPd.out.1) (arrK_all _ _) ?_))
      refine ret_row12 rfl w.heap.size 28 (arrK .u8 P) (.array 32 5) rfl rfl rfl hP' (by kernel_rfl) rfl (info32 HPd.out.1) rfl ⟨Al, cl, rfl, ?_, ?_, Hcl.out.2, HBk.out⟩
      · have := hC.out.r.now
        rw [← Hll.out, List.take_of_length_le (by rw [Hn.out]; exact Nat.le_refl _)] at this
        exact this
      · have := Hcl.out.1
        rw [Hlj.out] at this
        exact this
end Go.Proofs.Ytkflpoiobpblhaa
