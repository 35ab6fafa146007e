/- The statement LotsComposeSaid: for every three permutations, Compose is associative, the increasing one has no effect, and each has an inverse; no condition beside the row's own. -/
import Derived.Test.YtbccdjaeopfalaaL3
import Derived.Test.YtbccdjaeopfalaaP4
namespace Go.Proofs.Ytbccdjaeopfalaa
open Go.RowKit Go.WideShapes Go.ChangeShapes Go.ChangeAt

theorem Compose_fine (A B : Option Addr) (n c d : Nat) (p q : List Int) (w : World) (hp : p.length = n) (hq : q.length = n) (_hn : n ≤ 18) (hA : Ints w A p) (hB : Ints w B q) (h1 : isPerm p = true) (h2 : isPerm q = true) :
    Calls Try.prog 20 #[.slice A n c, .slice B n d] w fun e w' => ∃ C f, e = .returned (.tuple #[.slice C n f, .int .i64 0]) ∧ n ≤ f ∧ f ≤ maxLen ∧ Ints w' C (comp p q) ∧ Below w.heap.size w w' :=
  (Compose_good A B n c d p q w hp hq hA hB h1 h2).mono fun e w' ⟨v, he, hown, hb⟩ => by
    obtain ⟨C, f, rfl, h1, h2, -⟩ := own_form hown
    exact ⟨C, f, he, h1, h2, Ints.own hown, hb⟩
theorem blk_ints {w : World} {g : Nat} {e : TypeId} {xs : List Int} (h : Blk w g e (xs.map (Value.int .i64)).toArray) : Ints w (some ⟨g, 0, none⟩) xs :=
  Ints.mk h.lt fun j x hx => by
    rw [Nat.zero_add, h.cell j]
    simp [hx]
theorem set_ints (xs : List Int) (i : Nat) (k : Int) : ((xs.map (Value.int .i64)).toArray).setIfInBounds i (.int .i64 k) = ((xs.set i k).map (Value.int .i64)).toArray := by
  simp
def upTo (n k : Nat) : List Int := (List.range n).map fun (i : Nat) => if i < k then (i : Int) else 0
theorem upTo_length (n k : Nat) : (upTo n k).length = n := by simp [upTo]
theorem upTo_step {n k : Nat} : (upTo n k).set k (k : Int) = upTo n (k + 1) := by
  apply List.ext_getElem
  · simp [upTo]
  · intro j h1 h2
    by_cases e : k = j
    · subst e; simp [upTo]
    · rw [List.getElem_set_ne e]
      simp only [upTo, List.getElem_map, List.getElem_range]
      by_cases h : j < k
      · rw [if_pos h, if_pos (by omega)]
      · rw [if_neg h, if_neg (by omega)]
theorem upTo_zero (n : Nat) : upTo n 0 = List.replicate n 0 := by
  apply List.ext_getElem
  · simp [upTo]
  · intro j h1 h2; simp [upTo]
theorem upTo_full (n : Nat) : upTo n n = iota n := by
  apply List.ext_getElem
  · simp [upTo]
  · intro j h1 h2
    have : j < n := by simpa [upTo] using h1
    simp [upTo, iota, this]

/-- What a round of the filling loop does. -/
theorem rel_fills {w0 wr : World} {S n k i : Nat} {p L : List Int} (hb : Below S w0 wr) (hS : Blk wr S 3 ((upTo n k).map (Value.int .i64)).toArray) (hT : Blk wr (S + 1) 3 (L.map (Value.int .i64)).toArray)
    (hn : p.Nodup) (hB : Back p n k L) (hk : p[k]? = some (i : Int)) (hi : i < n) (hr : ∀ x ∈ p, 0 ≤ x) :
    Below S w0 ((wr.setCell ⟨S, k, none⟩ (.int .i64 (k : Int))).setCell ⟨S + 1, i, none⟩ (.int .i64 (k : Int))) ∧
    Blk ((wr.setCell ⟨S, k, none⟩ (.int .i64 (k : Int))).setCell ⟨S + 1, i, none⟩ (.int .i64 (k : Int))) S 3 ((upTo n (k + 1)).map (Value.int .i64)).toArray ∧
    Blk ((wr.setCell ⟨S, k, none⟩ (.int .i64 (k : Int))).setCell ⟨S + 1, i, none⟩ (.int .i64 (k : Int))) (S + 1) 3 ((L.set i (k : Int)).map (Value.int .i64)).toArray ∧
    Back p n (k + 1) (L.set i (k : Int)) := by
  refine ⟨(hb.setCell (Nat.le_refl _) _).setCell (Nat.le_succ _) _, ?_, ?_, hB.step hn hk hi hr⟩
  · refine Blk.far ?_ (by simp) _
    have := hS.set_ k (.int .i64 (k : Int))
    rwa [set_ints, upTo_step] at this
  · have := (Blk.far hT (p := ⟨S, k, none⟩) (by simp) (.int .i64 (k : Int))).set_ i (.int .i64 (k : Int))
    rwa [set_ints] at this

set_option maxRecDepth 100000 in
set_option maxHeartbeats 8000000 in
theorem LotsCompose_walk (w : World) (n : Int) (_wn : (Lit.int .i64 n).wf = true) (i : Int) (wi : (Lit.int .u64 i).wf = true) (j : Int) (wj : (Lit.int .u64 j).wf = true) (k : Int) (wk : (Lit.int .u64 k).wf = true) :
    Calls Try.prog 8 #[.int .i64 n, .int .u64 i, .int .u64 j, .int .u64 k] w (Fine w) := by
  have hk0 := (bounds_u64 wk).1
  have hj0 := (bounds_u64 wj).1
  have hi0 := (bounds_u64 wi).1
  clear wk wj wi
  obtain ⟨k, rfl⟩ := Int.eq_ofNat_of_zero_le hk0
  obtain ⟨j, rfl⟩ := Int.eq_ofNat_of_zero_le hj0
  obtain ⟨i, rfl⟩ := Int.eq_ofNat_of_zero_le hi0
  clear hk0 hj0 hi0
  by_cases hn : 0 ≤ n ∧ n ≤ 18
  · obtain ⟨n, rfl⟩ := Int.eq_ofNat_of_zero_le hn.1
    have hn18 : n ≤ 18 := by omega
    clear hn
    have hfp : (1 : Int) ≤ (fact n : Int) := by have := fact_pos n; omega
    have hfn : ((fact n : Int) == 0) = false := by simp; have := fact_pos n; omega
    obtain ⟨r1, hr1⟩ : ∃ r, i % fact n = r := ⟨_, rfl⟩
    obtain ⟨r2, hr2⟩ : ∃ r, j % fact n = r := ⟨_, rfl⟩
    obtain ⟨r3, hr3⟩ : ∃ r, k % fact n = r := ⟨_, rfl⟩
    have h1l : r1 < fact n := by rw [← hr1]; exact Nat.mod_lt _ (fact_pos n)
    have h2l : r2 < fact n := by rw [← hr2]; exact Nat.mod_lt _ (fact_pos n)
    have h3l : r3 < fact n := by rw [← hr3]; exact Nat.mod_lt _ (fact_pos n)
    have hm1 : ((i : Int) % (fact n : Int)) = (r1 : Int) := by rw [← Int.natCast_emod, hr1]
    have hm2 : ((j : Int) % (fact n : Int)) = (r2 : Int) := by rw [← Int.natCast_emod, hr2]
    have hm3 : ((k : Int) % (fact n : Int)) = (r3 : Int) := by rw [← Int.natCast_emod, hr3]
    have hfl := fact_le n hn18
    have hb1 : (r1 : Int) ≤ 6402373705728000 := by omega
    have hb2 : (r2 : Int) ≤ 6402373705728000 := by omega
    have hb3 : (r3 : Int) ≤ 6402373705728000 := by omega
    have hq2 : ((n : Int) != (n : Int)) = false := by simp
    have hU1 := Lib.hid (fun (W : World) => Unrank_fine n r1 hn18 h1l W)
    have hU2 := Lib.hid (fun (W : World) => Unrank_fine n r2 hn18 h2l W)
    have hU3 := Lib.hid (fun (W : World) => Unrank_fine n r3 hn18 h3l W)
    have hl1 := unrank_length n r1
    have hl2 := unrank_length n r2
    have hl3 := unrank_length n r3
    have hp1 := unrank_isPerm hn18 h1l
    have hp2 := unrank_isPerm hn18 h2l
    have hp3 := unrank_isPerm hn18 h3l
    generalize unrank n r1 = p at hU1 hl1 hp1
    generalize unrank n r2 = q at hU2 hl2 hp2
    generalize unrank n r3 = r at hU3 hl3 hp3
    have P1 := Lib.hid hp1; have P2 := Lib.hid hp2; have P3 := Lib.hid hp3
    have L1 := Lib.hid hl1; have L2 := Lib.hid hl2; have L3 := Lib.hid hl3
    clear hr1 hr2 hr3 hl1 hl2 hl3 hp1 hp2 hp3
    have hmk : ∀ W : World, (Instr.makeSlice 23 (.int .i64 (n : Int)) (.int .i64 (n : Int))).run Try.prog W = .ok (.slice (some ⟨W.heap.size, 0, none⟩) n n) (W.alloc (.cells (List.replicate n (.int .i64 0)).toArray 3)) :=
      fun W => run_make1 23 3 (.int .i64 0) 8 Try.underlying23 Try.info3 rfl n (by omega) (by omega) W
    have Hmk := Lib.hid hmk
    clear hmk
    go_enter Try.func8, Try.ntmps8
    go_wp2_with (fail)
    refine (sane_any _).mono ?_
    rintro e w1 ⟨rfl, H1⟩
    go_wp2_with (fail)
    refine (Factorial_good n _ hn18).mono ?_
    rintro e w' ⟨rfl, rfl⟩
    go_wp2_with (fail)
    refine (hU1.out _).mono ?_
    rintro e w2 ⟨A2, c2, rfl, hn2, hc2, hI2, hbl2⟩
    have H2 : Below w.heap.size w w2 := below_of H1 hbl2 H1.size
    go_wp2_with (fail)
    refine (hU2.out _).mono ?_
    rintro e w3 ⟨A3, c3, rfl, hn3, hc3, hI3, hbl3⟩
    have H3 : Below w.heap.size w w3 := below_of H2 hbl3 H2.size
    go_wp2_with (fail)
    refine (hU3.out _).mono ?_
    rintro e w4 ⟨A4, c4, rfl, hn4, hc4, hI4, hbl4⟩
    have H4 : Below w.heap.size w w4 := below_of H3 hbl4 H3.size
    have I2 := Lib.hid ((Ints.below hI2 hbl3).below hbl4)
    have I3 := Lib.hid (Ints.below hI3 hbl4)
    have I4 := Lib.hid hI4
    clear hI2 hI3 hI4 hm1 hm2 hm3 hbl2 hbl3 hbl4
    go_wp2_with (fail)
    refine (Compose_fine _ _ _ _ _ p q _ L1.out L2.out hn18 I2.out I3.out P1.out P2.out).mono ?_
    rintro e w5 ⟨A5, c5, rfl, hn5, hc5, hI5, hbl5⟩
    have H5 : Below w.heap.size w w5 := below_of H4 hbl5 H4.size
    have I25 := Lib.hid (Ints.below I2.out hbl5)
    have I35 := Lib.hid (Ints.below I3.out hbl5)
    have I45 := Lib.hid (Ints.below I4.out hbl5)
    go_wp2_with (fail)
    refine (Compose_fine _ _ _ _ _ q r _ L2.out L3.out hn18 I35.out I45.out P2.out P3.out).mono ?_
    rintro e w6 ⟨A6, c6, rfl, hn6, hc6, hI6, hbl6⟩
    have H6 : Below w.heap.size w w6 := below_of H5 hbl6 H5.size
    have I26 := Lib.hid (Ints.below I25.out hbl6)
    have I46 := Lib.hid (Ints.below I45.out hbl6)
    have I56 := Lib.hid (Ints.below hI5 hbl6)
    go_wp2_with (fail)
    refine (Compose_fine _ _ _ _ _ (comp p q) r _ ((comp_length _ _).trans L1.out) L3.out hn18 I56.out I46.out (comp_isPerm L1.out L2.out P1.out P2.out) P3.out).mono ?_
    rintro e w7 ⟨A7, c7, rfl, hn7, hc7, hI7, hbl7⟩
    have H7 : Below w.heap.size w w7 := below_of H6 hbl7 H6.size
    have I27 := Lib.hid (Ints.below I26.out hbl7)
    have I67 := Lib.hid (Ints.below hI6 hbl7)
    go_wp2_with (fail)
    refine (Compose_fine _ _ _ _ _ p (comp q r) _ L1.out ((comp_length _ _).trans L2.out) hn18 I27.out I67.out P1.out (comp_isPerm L2.out L3.out P2.out P3.out)).mono ?_
    rintro e w8 ⟨A8, c8, rfl, hn8, hc8, hI8, hbl8⟩
    have H8 : Below w.heap.size w w8 := below_of H7 hbl8 H7.size
    have I28 := Lib.hid (Ints.below I27.out hbl8)
    have I78 := Lib.hid (Ints.below hI7 hbl8)
    have I88 := Lib.hid hI8
    clear hbl5 hbl6 hbl7 hbl8 hI5 hI6 hI7 hI8 I2 I3 I4 I25 I35 I45 I26 I46 I56 I27 I67
    have hmk := Hmk.out
    go_wp2_with (fail)
    clear hmk
    have Hr := Lib.hid (fun (x : Int) (hx : x ∈ p) => isPerm_range L1.out P1.out hx)
    have Hnd := Lib.hid (isPerm_nodup L1.out P1.out)
    go_loopw [118] (fun c wr => ∃ (t : Nat) (L : List Int), t ≤ n ∧ c = .int .i64 t ∧ Hid (Blk wr w8.heap.size 3 ((upTo n t).map (Value.int .i64)).toArray) ∧ Hid (Blk wr (w8.heap.size + 1) 3 (L.map (Value.int .i64)).toArray) ∧ Hid (Back p n t L) ∧ Below w8.heap.size w8 wr) (fun c _ => n - (intOf c).toNat)
    case atStart =>
      refine ⟨0, List.replicate n 0, by omega, rfl, ?_, ?_, ⟨by simp, by simp⟩, ((Below.refl _ _).alloc (Nat.le_refl _) _).alloc (by simp) _⟩
      · have h := (Blk.new w8 3 ((upTo n 0).map (Value.int .i64)).toArray).alloc (.cells (List.replicate n (.int .i64 0)).toArray 3)
        rw [upTo_zero, List.map_replicate] at h
        show Blk _ _ _ _
        rw [upTo_zero, List.map_replicate]
        simpa using h
      · have h := Blk.new (w8.alloc (.cells (List.replicate n (.int .i64 0)).toArray 3)) 3 (List.replicate n (.int .i64 0)).toArray
        show Blk _ _ _ _
        rw [List.map_replicate]
        simpa using h
    case round =>
      obtain ⟨t, L, ht, rfl, HS, HT, HB, hb⟩ := hrel
      by_cases hlt : t < n
      · obtain ⟨b, off, rfl, hbl, hcl⟩ := I28.out.at_ (k := t) (by rw [L1.out]; exact hlt)
        obtain ⟨x, hx⟩ := getElem?_lt (l := p) (k := t) (by rw [L1.out]; exact hlt)
        obtain ⟨hx0, hx1⟩ := Hr.out x (List.mem_of_getElem? hx)
        obtain ⟨z, rfl⟩ := Int.eq_ofNat_of_zero_le hx0
        have hzn : z < n := by omega
        have e1 : wr.cell? ⟨b, off + t, none⟩ = some (.int .i64 z) := (hb.cell hbl).trans (hcl t _ hx)
        have e2 : wr.cell? ⟨w8.heap.size, t, none⟩ = some (.int .i64 0) := by
          rw [HS.out.cell t]
          simp [upTo, hlt]
        have e3 := HS.out.frozen t
        obtain ⟨y, hy⟩ := getElem?_lt (l := L) (k := z) (by rw [HB.out.1]; exact hzn)
        have e4 : (wr.setCell ⟨w8.heap.size, t, none⟩ (.int .i64 t)).cell? ⟨w8.heap.size + 1, z, none⟩ = some (.int .i64 y) := by
          rw [World.cell?_setCell_other _ _ _ _ (by simp), HT.out.cell z]
          simp [hy]
        have e5 : (wr.setCell ⟨w8.heap.size, t, none⟩ (.int .i64 t)).frozen? ⟨w8.heap.size + 1, z, none⟩ = false := by
          rw [World.frozen?_setCell]; exact HT.out.frozen z
        have Hst := Lib.hid (rel_fills hb HS.out HT.out Hnd.out HB.out hx hzn (fun x hx => (Hr.out x hx).1))
        clear hcl hx hy hx0
        go_wp2_with (fail)
        go_roundw
        case rel => exact ⟨t + 1, L.set z (t : Int), by omega, by go_num, Hst.out.2.1, Hst.out.2.2.1, Hst.out.2.2.2, Hst.out.1⟩
        case measure => simp [intOf]; omega
      · have htn : Hid (t = n) := by show t = n; omega
        have hfull := Lib.hid (show comp p L = iota n ∧ isPerm L = true from Back.full L1.out P1.out (by have := HB.out; rwa [htn.out] at this))
        have hLl := Lib.hid (show L.length = n from HB.out.1)
        have HbS := Lib.hid (show Ints wr (some ⟨w8.heap.size, 0, none⟩) (iota n) by
          have h := blk_ints HS.out
          rwa [htn.out, upTo_full] at h)
        have HbT := Lib.hid (blk_ints HT.out)
        have I29 := Lib.hid (Ints.below I28.out hb)
        have I79 := Lib.hid (Ints.below I78.out hb)
        have I89 := Lib.hid (Ints.below I88.out hb)
        have H9 : Below w.heap.size w wr := below_of H8 hb H8.size
        clear I28 I78 I88 HS HT HB hb
        go_wp2_with (fail)
        refine (Compose_fine _ _ _ _ _ p (iota n) _ L1.out (iota_length n) hn18 I29.out HbS.out P1.out (iota_isPerm hn18)).mono ?_
        rintro e wA ⟨AA, cA, rfl, hnA, hcA, hIA, hblA⟩
        rw [comp_iota L1.out P1.out] at hIA
        have HA : Below w.heap.size w wA := below_of H9 hblA H9.size
        have J2 := Lib.hid (Ints.below I29.out hblA)
        have J7 := Lib.hid (Ints.below I79.out hblA)
        have J8 := Lib.hid (Ints.below I89.out hblA)
        have JS := Lib.hid (Ints.below HbS.out hblA)
        have JT := Lib.hid (Ints.below HbT.out hblA)
        go_wp2_with (fail)
        refine (Compose_fine _ _ _ _ _ p L _ L1.out hLl.out hn18 J2.out JT.out P1.out hfull.out.2).mono ?_
        rintro e wB ⟨AB, cB, rfl, hnB, hcB, hIB, hblB⟩
        rw [hfull.out.1] at hIB
        have HB : Below w.heap.size w wB := below_of HA hblB HA.size
        have K2 := Lib.hid (Ints.below J2.out hblB)
        have K7 := Lib.hid (Ints.below J7.out hblB)
        have K8 := Lib.hid (Ints.below J8.out hblB)
        have KS := Lib.hid (Ints.below JS.out hblB)
        have KA := Lib.hid (Ints.below hIA hblB)
        have KB := Lib.hid hIB
        have Hln := Lib.hid (show n ≤ maxLen by unfold maxLen; omega)
        have Hc1 := Lib.hid (show (comp (comp p q) r).length = n by rw [comp_length, comp_length, L1.out])
        have Hc2 := Lib.hid (show (comp p (comp q r)).length = n by rw [comp_length, L1.out])
        clear hIA hIB hblA hblB
        go_wp2_with (fail)
        refine (Same_all _ _ _ _ _ _ _ _ _ Hc1.out Hc2.out Hln.out K7.out K8.out).mono ?_
        rintro e wC ⟨rfl, hdC⟩
        rw [comp_assoc L1.out L2.out P1.out, same_self]
        have M2 := Lib.hid (Ints.drawn K2.out hdC)
        have MA := Lib.hid (Ints.drawn KA.out hdC)
        have MS := Lib.hid (Ints.drawn KS.out hdC)
        have MB := Lib.hid (Ints.drawn KB.out hdC)
        go_wp2_with (fail)
        refine (Same_all _ _ _ _ _ _ p p _ L1.out L1.out Hln.out MA.out M2.out).mono ?_
        rintro e wD ⟨rfl, hdD⟩
        rw [same_self]
        have NS := Lib.hid (Ints.drawn MS.out hdD)
        have NB := Lib.hid (Ints.drawn MB.out hdD)
        go_wp2_with (fail)
        refine (Same_all _ _ _ _ _ _ (iota n) (iota n) _ (iota_length n) (iota_length n) Hln.out NB.out NS.out).mono ?_
        rintro e wE ⟨rfl, hdE⟩
        rw [same_self]
        go_wp2_with (fail)
        go_ret
        exact ⟨rfl, below_of HB ((hdC.trans hdD).trans hdE |>.below _) HB.size⟩
  · have hno := Lib.hid hn
    have HF := Lib.hid (fun (W : World) => Factorial_bad n W (by have := hno.out; omega))
    clear hn
    go_enter Try.func8, Try.ntmps8
    go_wp2_with (fail)
    refine (sane_any _).mono ?_
    rintro e w1 ⟨rfl, hb1⟩
    go_wp2_with (fail)
    refine (HF.out _).mono ?_
    rintro e w' ⟨rfl, rfl⟩
    go_wp2_with (fail)
    go_ret
    exact ⟨rfl, hb1⟩

theorem lotsCompose_own : ownKnob Try.prog.godebug = none := by kernel_rfl
theorem lotsCompose_laidOut : laidOutB Try.prog = true := by kernel_rfl
theorem lotsCompose_readable : (Try.f8.params.toList.all fun t => Try.prog.readableRec t && decide (t < Try.prog.types.size)) = true := by kernel_rfl
set_option maxRecDepth 100000 in
theorem lotsCompose_lifted (os : Os) (started : os.Started) (H : Type) (enc : TypeId × Value → H) :
    ReturnsInHanded {} Try.checked os 8 .any (Rows.lotsComposeSpec.pre6 enc Try.prog Try.f8 Rows.lotsComposeRow.domain false) (Rows.lotsComposeSpec.post enc Try.prog Try.f8 false true false false) := by
  refine returnsInHanded_of_change (C := Try.checked) lotsCompose_own started (by kernel_rfl) Try.func8
    (ChangeSpec.witness6 (enc := enc) (C := Try.checked) false ⟨#[], #[.int .i64 0, .int .u64 0, .int .u64 0, .int .u64 0], []⟩ 8 (by kernel_rfl) (by kernel_rfl) (by kernel_rfl) (by kernel_rfl)) ?_
  intro W base args ds gs before hval0 hW hcnd _
  have hval : ∀ (j : Nat) t v, Try.f8.params[j]? = some t → args[j]? = some v → Value.okWide Try.prog W .any base t v := hval0
  have hW' := hW
  obtain ⟨p, q, hA0, hV, rfl, hfz, hnd⟩ := hW
  have hA : DataW.TrodAll enc Try.prog W 0 (fun _ => true) true Try.f8.params.toList args.toList ds p := hA0
  rw [Try.params8] at hA hval
  obtain ⟨v0, vs0, d0, ds0, p0, q0, hargs, rfl, rfl, h0, r0⟩ := trodAll_cons hA
  obtain ⟨v1, vs1, d1, ds1, p1, q1, rfl, rfl, rfl, h1, r1⟩ := trodAll_cons r0
  obtain ⟨v2, vs2, d2, ds2, p2, q2, rfl, rfl, rfl, h2, r2⟩ := trodAll_cons r1
  obtain ⟨v3, vs3, d3, ds3, p3, q3, rfl, rfl, rfl, h3, r3⟩ := trodAll_cons r2
  obtain ⟨rfl, rfl, rfl⟩ := trodAll_nil r3
  obtain rfl : args = #[v0, v1, v2, v3] := by cases args; simp_all
  obtain ⟨rfl, rfl⟩ := trodVars_none hV
  obtain ⟨a0, rfl, rfl, rfl, w0⟩ := open_int Try.underlying3 (hval 0 3 v0 rfl rfl) h0
  obtain ⟨a1, rfl, rfl, rfl, w1⟩ := open_int Try.underlying22 (hval 1 22 v1 rfl rfl) h1
  obtain ⟨a2, rfl, rfl, rfl, w2⟩ := open_int Try.underlying22 (hval 2 22 v2 rfl rfl) h2
  obtain ⟨a3, rfl, rfl, rfl, w3⟩ := open_int Try.underlying22 (hval 3 22 v3 rfl rfl) h3
  refine (LotsCompose_walk W a0 w0 a1 w1 a2 w2 a3 w3).mono fun e W' ⟨he, hb⟩ => ?_
  subst he
  simp only [List.append_nil] at hW'
  refine ⟨_, rfl, law_post lotsCompose_laidOut ?_ (by kernel_rfl) Try.underlying4 rfl hW' rfl rfl rfl hb⟩
  intro t ht
  have hr := List.all_eq_true.1 lotsCompose_readable t ht
  rw [Bool.and_eq_true] at hr
  exact ⟨hr.1, of_decide_eq_true hr.2⟩
theorem lotsCompose_over : Rows.lotsComposeRow.holds Try.pinned (OpenSpec.ofChange Rows.lotsComposeSpec) :=
  OpenClaim.holds_of_wide 8 Try.f8 rfl rfl rfl rfl rfl rfl rfl ⟨rfl, rfl, rfl, rfl, rfl⟩ rfl rfl rfl rfl rfl (by kernel_rfl) Try.func8 (by kernel_rfl)
    (of_decide_eq_true (by kernel_rfl)) (by unfold Func.isWrapper; rw [if_neg (of_decide_eq_false (by kernel_rfl))]; exact ⟨rfl, rfl⟩)
    (fun os started H enc _ => lotsCompose_lifted os started H enc)
theorem lotsCompose_proved : Rows.LotsComposeSaid := lotsCompose_over
#print axioms lotsCompose_proved
end Go.Proofs.Ytbccdjaeopfalaa
