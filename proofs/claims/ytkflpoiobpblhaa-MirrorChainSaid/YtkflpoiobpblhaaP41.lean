/- Walks and plain laws that the statement rests on: MBs, MCc, MRf1. -/
import Derived.Test.YtkflpoiobpblhaaP00
import Derived.Test.YtkflpoiobpblhaaP23
import Derived.Test.YtkflpoiobpblhaaP32
import Derived.Test.YtkflpoiobpblhaaP40
namespace Go.Proofs.Ytkflpoiobpblhaa
open Go.RowKit Go.Shelf
set_option linter.unusedVariables false
set_option linter.unusedSimpArgs false
namespace Mir
abbrev IncV (l : List Ve) : Prop := l.Pairwise (fun a b => a.no < b.no)
theorem earlyOk_inc : ∀ (last : Int) (l : List Ve), earlyOk last l = true → (∀ v ∈ l, last < v.no) ∧ IncV l
  | _, [], _ => ⟨by simp, .nil⟩
  | last, v :: l, h => by
    unfold earlyOk at h
    rw [Bool.and_eq_true, decide_eq_true_eq] at h
    obtain ⟨h1, h2⟩ := earlyOk_inc v.no l h.2
    refine ⟨fun u hu => ?_, List.pairwise_cons.2 ⟨h1, h2⟩⟩
    rcases List.mem_cons.1 hu with rfl | hu
    · exact h.1
    · exact Int.lt_trans h.1 (h1 u hu)
theorem incV_at {l : List Ve} (h : IncV l) {i j : Nat} {u v : Ve} (hi : l[i]? = some u) (hj : l[j]? = some v) (hij : i < j) : u.no < v.no := by
  rw [IncV, List.pairwise_iff_getElem] at h
  have h1 := (List.getElem?_eq_some_iff.1 hi)
  have h2 := (List.getElem?_eq_some_iff.1 hj)
  have := h i j h1.1 h2.1 hij
  rw [h1.2, h2.2] at this
  exact this
end Mir
theorem wpList_load_mid_g {P : Program} {w : World} {ops : Array Oper} {rest : List Oper} {o : Oper} {a : Act} {Q : Exit → Act → World → Prop} (ty : TypeId) (x : Operand) (ho : o.op = .load ty x) (hw : Region.wanted o (yielded ops a.tmps) = true)
    (b off : Nat) (hx : a.eval x = .pointer (some ⟨b, off, none⟩)) (cs : List Value) (d : TypeDesc) (hc : w.rangeAt b off cs) (hu : P.underlying ty = some d) (hd : d.isRow = true) (hi : (P.info? ty).map (·.size) = some cs.length)
    (h : wpList P ops Q rest (a.put o.dst (.agg cs.toArray)) w) : wpList P ops Q (o :: rest) a w :=
  wpList_step fun _ hK => by rw [if_pos hw]; exact wp_load_mid ty x ho b off hx cs d hc hu hd hi (hK _ _ h)
set_option maxHeartbeats 4000000 in
theorem vclo_any (v : Mir.Ve) (V : Array Value) (wb : World) (no : Int) (w : World) (hV : VerC wb v V) : Calls Try.prog 36 #[.agg V, .int .i64 no] w fun e w' => e = .returned (.int .i64 (Lib.compareInt v.no no)) ∧ Below w.heap.size w w' := by
  have hcon := fun W' => AnyG.cmp_Compare_int Try.cmpInt v.no no W'
  change ∀ W', Calls Try.prog 37 _ _ _ at hcon
  have H := Lib.hid hcon
  have h0 := hV.c0
  generalize v.no = n at *
  generalize Lib.compareInt n no = r at *
  clear hV hcon
  go_enter Try.func36, Try.ntmps36
  go_upto_region 1 with (fail)
  generalize hge : World.alloc _ _ = w1
  have hb : Below w.heap.size w w1 := by subst hge; exact (Below.refl _ _).alloc (Nat.le_refl _) _
  have hB : Blk w1 w.heap.size 38 V := by subst hge; exact Blk.new w _ _
  have x0 : w1.cell? ⟨w.heap.size, 0, none⟩ = some (.int .i64 n) := (hB.cell 0).trans h0
  clear hge h0
  go_wp2_with (go_at_call 37; refine (H.out _).mono ?_; rintro e w' ⟨rfl, rfl⟩)
  go_ret
  exact ⟨rfl, hb⟩
theorem cmpI_neg {x y : Int} : Lib.compareInt x y < 0 ↔ x < y := by unfold Lib.compareInt; split <;> (try split) <;> omega
theorem cmpI_zero {x y : Int} : Lib.compareInt x y = 0 ↔ x = y := by unfold Lib.compareInt; split <;> (try split) <;> omega
set_option maxRecDepth 100000 in
set_option maxHeartbeats 4000000 in
theorem vsearch_any (A : Option Addr) (n c : Nat) (l : List Mir.Ve) (no : Int) (w : World) (hl : l.length = n) (hn : n ≤ 1000000) (hC : VersC w A l) (hi : Mir.IncV l) :
    Calls Try.prog 35 #[.slice A n c, .int .i64 no, .func (.func 36) #[] #[]] w fun e w' => ∃ (k : Nat) (q : Bool), e = .returned (.tuple #[.int .i64 (k : Int), .bool q]) ∧ k ≤ n ∧ Hid (∀ i u, l[i]? = some u → (i < k ↔ u.no < no)) ∧ Hid (q = true ↔ ∃ u ∈ l, u.no = no) ∧ Below w.heap.size w w' := by
  have eg : ∀ args w, (callFunc 36 args).run Try.prog w = .ok (.enter 36 args) w := enters_of Try.func36 (by kernel_rfl) rfl
  have HC := Lib.hid hC
  have Hl := Lib.hid hl
  have Hi := Lib.hid hi
  clear hC hl hi
  go_enter Try.func35, Try.ntmps35
  go_wp2_with (fail)
  go_loopw [9, 10] (fun i j wr => ∃ lo hi : Nat, i = .int .i64 lo ∧ j = .int .i64 hi ∧ lo ≤ hi ∧ hi ≤ n ∧ Hid (∀ t u, t < lo → l[t]? = some u → u.no < no) ∧ Hid (∀ t u, hi ≤ t → l[t]? = some u → no ≤ u.no) ∧ Hid (Below w.heap.size w wr)) (fun i j _ => (intOf j).toNat - (intOf i).toNat)
  case atStart => exact ⟨0, n, rfl, rfl, Nat.zero_le _, Nat.le_refl _, Lib.hid (fun t u h => by omega), Lib.hid (fun t u h h' => by have := (List.getElem?_eq_some_iff.1 h').1; rw [Hl.out] at this; omega), Lib.hid (Below.refl _ _)⟩
  case round =>
    obtain ⟨wk, rfl⟩ : ∃ wk : World, wk = wr := ⟨_, rfl⟩
    obtain ⟨lo, hi, rfl, rfl, hlh, hin, I1, I2, hB⟩ := hrel
    by_cases hlt : lo < hi
    · obtain ⟨v, hx⟩ := getElem?_lt (l := l) (k := (lo + hi) / 2) (by rw [Hl.out]; omega)
      obtain ⟨b, off, rfl, hb, hcs⟩ := HC.out.at_ (by rw [Hl.out]; omega)
      obtain ⟨V, hV, hr⟩ := hcs _ _ hx
      have HRg := Lib.hid (show wk.rangeAt b (off + (lo + hi) / 2 * 38) V.toList from fun j u hu => cellkM hB.out (hr j u hu))
      have HVi := Lib.hid (show (Try.prog.info? 38).map (·.size) = some V.toList.length by rw [Array.length_toList]; exact hV.info)
      have HF := Lib.hid (fun W => vclo_any v V w no W hV)
      have Hx := Lib.hid hx
      clear hcs hx hr hV
      obtain ⟨cm, hcm⟩ : ∃ c, Lib.compareInt v.no no = c := ⟨_, rfl⟩
      rw [hcm] at HF
      have Hcm := Lib.hid hcm
      clear hcm
      by_cases hyx : cm < 0
      · go_wp2_with (first | (go_at_fn 36; refine (HF.out _).mono ?_; rintro e w2 ⟨rfl, hb2⟩) | (refine wpList_load_mid_g 38 (.tmp 27) rfl rfl b (off + (lo + hi) / 2 * 38) rfl V.toList _ HRg.out Try.underlying38 rfl HVi.out ?_))
        go_roundw
        case rel =>
          refine ⟨(lo + hi) / 2 + 1, hi, by rw [show ((lo : Int) + (hi : Int)) / 2 + 1 = (((lo + hi) / 2 + 1 : Nat) : Int) by omega], rfl, by omega, hin, Lib.hid (fun t u ht hu => ?_), I2, Lib.hid (below_of hB.out hb2 hB.out.size)⟩
          have hm : v.no < no := cmpI_neg.1 (by rw [Hcm.out]; exact hyx)
          rcases Nat.lt_or_eq_of_le (Nat.le_of_lt_succ ht) with h | rfl
          · exact Int.lt_trans (Mir.incV_at Hi.out hu Hx.out h) hm
          · rw [Hx.out] at hu; cases hu; exact hm
        case measure => simp [intOf]; omega
      · go_wp2_with (first | (go_at_fn 36; refine (HF.out _).mono ?_; rintro e w2 ⟨rfl, hb2⟩) | (refine wpList_load_mid_g 38 (.tmp 27) rfl rfl b (off + (lo + hi) / 2 * 38) rfl V.toList _ HRg.out Try.underlying38 rfl HVi.out ?_))
        go_roundw
        case rel =>
          refine ⟨lo, (lo + hi) / 2, rfl, by rw [show ((lo : Int) + (hi : Int)) / 2 = (((lo + hi) / 2 : Nat) : Int) by omega], by omega, by omega, I1, Lib.hid (fun t u ht hu => ?_), Lib.hid (below_of hB.out hb2 hB.out.size)⟩
          have hm : no ≤ v.no := Int.not_lt.1 (fun h => by have := cmpI_neg.2 h; rw [Hcm.out] at this; omega)
          rcases Nat.lt_or_eq_of_le ht with h | rfl
          · exact Int.le_of_lt (Int.lt_of_le_of_lt hm (Mir.incV_at Hi.out Hx.out hu h))
          · rw [Hx.out] at hu; cases hu; exact hm
        case measure => simp [intOf]; omega
    · obtain rfl : hi = lo := by omega
      have hcut : Hid (∀ i u, l[i]? = some u → (i < hi ↔ u.no < no)) := Lib.hid (fun i u hu => ⟨fun h => I1.out i u h hu, fun h => Nat.lt_of_not_le (fun h' => by have := I2.out i u h' hu; omega)⟩)
      by_cases hn2 : hi < n
      · obtain ⟨v, hx⟩ := getElem?_lt (l := l) (k := hi) (by rw [Hl.out]; omega)
        obtain ⟨b, off, rfl, hb, hcs⟩ := HC.out.at_ (by rw [Hl.out]; omega)
        obtain ⟨V, hV, hr⟩ := hcs _ _ hx
        have HRg := Lib.hid (show wk.rangeAt b (off + hi * 38) V.toList from fun j u hu => cellkM hB.out (hr j u hu))
        have HVi := Lib.hid (show (Try.prog.info? 38).map (·.size) = some V.toList.length by rw [Array.length_toList]; exact hV.info)
        have HF := Lib.hid (fun W => vclo_any v V w no W hV)
        have Hx := Lib.hid hx
        clear hcs hx hr hV
        obtain ⟨cm, hcm⟩ : ∃ c, Lib.compareInt v.no no = c := ⟨_, rfl⟩
        rw [hcm] at HF
        have Hcm := Lib.hid hcm
        clear hcm
        by_cases hyx : cm = 0
        · subst hyx
          go_wp2_with (first | (go_at_fn 36; refine (HF.out _).mono ?_; rintro e w2 ⟨rfl, hb2⟩) | (refine wpList_load_mid_g 38 (.tmp 43) rfl rfl b (off + hi * 38) rfl V.toList _ HRg.out Try.underlying38 rfl HVi.out ?_))
          go_ret2
          exact ⟨hi, true, rfl, hin, hcut, Lib.hid ⟨fun _ => ⟨v, List.mem_of_getElem? Hx.out, cmpI_zero.1 Hcm.out⟩, fun _ => rfl⟩, below_of hB.out hb2 hB.out.size⟩
        · have dcm : (cm == 0) = false := by simpa using hyx
          go_wp2_with (first | (go_at_fn 36; refine (HF.out _).mono ?_; rintro e w2 ⟨rfl, hb2⟩) | (refine wpList_load_mid_g 38 (.tmp 43) rfl rfl b (off + hi * 38) rfl V.toList _ HRg.out Try.underlying38 rfl HVi.out ?_))
          go_ret2
          refine ⟨hi, false, rfl, hin, hcut, Lib.hid ⟨fun h => (by cases h), fun ⟨u, hu, he⟩ => ?_⟩, below_of hB.out hb2 hB.out.size⟩
          obtain ⟨t, ht, rfl⟩ := List.getElem_of_mem hu
          have hu' := List.getElem?_eq_getElem ht
          rcases Nat.lt_trichotomy t hi with h | rfl | h
          · have := I1.out t _ h hu'; omega
          · rw [Hx.out] at hu'; cases hu'
            exact absurd (Hcm.out.symm.trans (cmpI_zero.2 he)) hyx
          · have h1 := I2.out hi v (Nat.le_refl _) Hx.out
            have h2 := Mir.incV_at Hi.out Hx.out hu' h
            omega
      · go_wp2_with (fail)
        go_ret2
        refine ⟨hi, false, rfl, hin, hcut, Lib.hid ⟨fun h => (by cases h), fun ⟨u, hu, he⟩ => ?_⟩, hB.out⟩
        obtain ⟨t, ht, rfl⟩ := List.getElem_of_mem hu
        have := I1.out t _ (by rw [Hl.out] at ht; omega) (List.getElem?_eq_getElem ht)
        omega
end Go.Proofs.Ytkflpoiobpblhaa
namespace Go.Proofs.Ytkflpoiobpblhaa
open Go.RowKit Go.Shelf
set_option linter.unusedVariables false
set_option linter.unusedSimpArgs false
def Try.growV_ren : Go.Shelf.Ren := ⟨fun | 4 => 58 | n => n, fun | 22 => 29 | 25 => 38 | 3 => 3 | 4 => 4 | 9 => 9 | 20 => 20 | 0 => 0 | n => n, fun | n => n⟩
theorem Try.growV : Go.Proofs.Lays8.n4 Try.prog Try.growV_ren := {
  mixed := by kernel_rfl
  f4 := ⟨Try.f58.name, by decide, Try.func58.trans (congrArg some (by kernel_rfl))⟩
  t0 := Try.underlying0
  a0 := Try.isAgg0
  z0 := Try.sizeOf0
  v0 := Try.zeroValue0
  t3 := Try.underlying3
  a3 := Try.isAgg3
  z3 := Try.sizeOf3
  v3 := Try.zeroValue3
  t4 := Try.underlying4
  a4 := Try.isAgg4
  z4 := Try.sizeOf4
  v4 := Try.zeroValue4
  t9 := Try.underlying9
  a9 := Try.isAgg9
  z9 := Try.sizeOf9
  v9 := Try.zeroValue9
  t20 := Try.underlying20
  a20 := Try.isAgg20
  z20 := Try.sizeOf20
  v20 := Try.zeroValue20
  t22 := Try.underlying29
  a22 := Try.isAgg29
  z22 := Try.sizeOf29
  v22 := Try.zeroValue29 }
theorem grow_nilV (n : Nat) (w : World) (hb : n ≤ 1000000000) :
    Calls Try.prog 58 #[.slice none 0 0, .int .i64 n] w fun e w' =>
      ∃ A c, e = .returned (.slice A 0 c) ∧ n ≤ c ∧ w'.ownsRow w.heap.size 38 38 (.slice A 0 c) 0 [] ∧ Below w.heap.size w w' := by
  rcases Nat.eq_zero_or_pos n with rfl | hn
  · refine (Any8.slices_Grow_room Try.growV none 0 0 0 w (by omega) (by omega) (by omega) (by omega)).mono ?_
    rintro e w' ⟨rfl, rfl⟩
    exact ⟨none, 0, rfl, by omega, World.ownsRow_nil _ _ _ _, Below.refl _ _⟩
  · obtain ⟨i0, hi0, hz0, hz1, hz2⟩ := info_parts (P := Try.prog) (e := 38) (z := .agg Mir.ver0) (size := 38) (bytes := 144) (by kernel_rfl)
    refine (Any8.slices_Grow_grow Try.growV i0 (.agg Mir.ver0) hi0 hz0 (by omega) none 0 0 n [] w (by omega) (by omega) (by rw [hz2]; omega) (by omega) (by simp) (fun _ => rfl) (fun a h => by cases h)).mono ?_
    rintro e w' ⟨rfl, rfl⟩
    have hge := grownCap_ge w (0 + n) 0 38
    refine ⟨_, _, rfl, Nat.le_trans (by omega) hge, ?_, ?_⟩
    · refine ⟨rfl, .inr ⟨_, _, _, rfl, Nat.le_refl _, heap_alloc_new w.drew _, Nat.zero_le _, grownCap_le_maxLen _ _ _ _ (by unfold maxLen; omega), ?_, rfl⟩⟩
      rw [Array.size_append, Array.size_append, size_zeroCells, size_zeroCells, show (Value.agg Mir.ver0).cells.size = 38 from Mir.ver0_size]
      have hge2 : 0 + n ≤ grownCap w (0 + n) 0 (Try.growV_ren.t 25) := hge
      show 0 + (0 + n - 0) * 38 + (grownCap w (0 + n) 0 (Try.growV_ren.t 25) - (0 + n)) * 38 = grownCap w (0 + n) 0 (Try.growV_ren.t 25) * 38
      omega
    · exact (below_drewN (Below.refl _ _) 1).alloc (Nat.le_refl _) _
set_option maxRecDepth 100000 in
set_option maxHeartbeats 4000000 in
theorem concat3V (b n1 c1 n2 c2 n3 c3 : Nat) (A1 A2 A3 : Option Addr) (cs1 cs2 cs3 : List Value) (w : World) (f1 : w.cell? ⟨b, 0, none⟩ = some (.slice A1 n1 c1)) (f2 : w.cell? ⟨b, 1, none⟩ = some (.slice A2 n2 c2)) (f3 : w.cell? ⟨b, 2, none⟩ = some (.slice A3 n3 c3))
    (h1 : Cells w A1 cs1) (h2 : Cells w A2 cs2) (h3 : Cells w A3 cs3) (l1 : cs1.length = n1 * 38) (l2 : cs2.length = n2 * 38) (l3 : cs3.length = n3 * 38) (o1 : ∀ u ∈ cs1, u.oneCell' = true) (o2 : ∀ u ∈ cs2, u.oneCell' = true) (o3 : ∀ u ∈ cs3, u.oneCell' = true) (b1 : n1 ≤ 100000) (b2 : n2 ≤ 100000) (b3 : n3 ≤ 100000) (hb : b < w.heap.size) :
    Calls Try.prog 38 #[.slice (some ⟨b, 0, none⟩) 3 3] w fun e w' =>
      ∃ A c, e = .returned (.slice A (n1 + n2 + n3) c) ∧ w'.ownsRow w.heap.size 38 38 (.slice A (n1 + n2 + n3) c) (n1 + n2 + n3) (cs1 ++ cs2 ++ cs3) ∧ Below w.heap.size w w' := by
  have F1 := Lib.hid f1; have F2 := Lib.hid f2; have F3 := Lib.hid f3; have H1 := Lib.hid h1; have H2 := Lib.hid h2; have H3 := Lib.hid h3; have O1 := Lib.hid o1; have O2 := Lib.hid o2; have O3 := Lib.hid o3
  clear f1 f2 f3 h1 h2 h3 o1 o2 o3
  go_enter Try.func38, Try.ntmps38
  go_wp2_with (fail)
  go_loopw [3, 11] (fun s i wr => ∃ k : Nat, k ≤ 3 ∧ i = .int .i64 k ∧ s = .int .i64 (pick4 0 n1 (n1 + n2) (n1 + n2 + n3) k : Nat) ∧ wr = w) (fun _ i _ => 3 - (intOf i).toNat)
  case atStart => exact ⟨0, by omega, rfl, rfl, rfl⟩
  case round =>
    obtain ⟨k, hk, rfl, rfl, rfl⟩ := hrel
    by_cases hlk : k < 3
    · have hc : ∃ A n c, wr.cell? ⟨b, k, none⟩ = some (.slice A n c) ∧ n ≤ 100000 ∧ pick4 0 n1 (n1 + n2) (n1 + n2 + n3) (k + 1) = pick4 0 n1 (n1 + n2) (n1 + n2 + n3) k + n ∧ pick4 0 n1 (n1 + n2) (n1 + n2 + n3) k ≤ 200000 := by
        match k, hlk with
        | 0, _ => exact ⟨A1, n1, c1, F1.out, b1, by simp [pick4], by simp [pick4]⟩
        | 1, _ => exact ⟨A2, n2, c2, F2.out, b2, by simp [pick4], by simp [pick4]; omega⟩
        | 2, _ => exact ⟨A3, n3, c3, F3.out, b3, by simp [pick4], by simp [pick4]; omega⟩
      obtain ⟨A, n, c, f, hn, hs, hp⟩ := hc
      have Hs := Lib.hid hs
      clear hs
      generalize pick4 0 n1 (n1 + n2) (n1 + n2 + n3) k = s at *
      have hdk : decide ((k : Int) < 3) = true := by simp; omega
      have hdn : decide ((s : Int) + (n : Int) < 0) = false := by simp; omega
      go_wp2_with (fail)
      go_roundw
      case rel => exact ⟨k + 1, by omega, by go_num, by rw [Hs.out]; go_num, trivial⟩
      case measure => simp [intOf]; omega
    · have hk2 : k = 3 := by omega
      have hdk : decide ((k : Int) < 3) = false := by simp; omega
      have hs : Hid (pick4 0 n1 (n1 + n2) (n1 + n2 + n3) k = n1 + n2 + n3) := by show _ = _; rw [hk2]; rfl
      clear hk2
      generalize pick4 0 n1 (n1 + n2) (n1 + n2 + n3) k = s at *
      go_wp2_with (fail)
      refine (grow_nilV s wr (by rw [hs.out]; omega)).mono ?_
      rintro e w' ⟨A, c, rfl, hcap, hown, hbl⟩
      go_wp2_with (fail)
      obtain ⟨w0, rfl⟩ : ∃ w0 : World, w0 = wr := ⟨_, rfl⟩
      go_loopw [6, 27] (fun v i wr => ∃ k : Nat, k ≤ 3 ∧ i = .int .i64 k ∧ ∃ A c, v = .slice A (pick4 0 n1 (n1 + n2) (n1 + n2 + n3) k) c ∧ Hid (wr.ownsRow w0.heap.size 38 38 (.slice A (pick4 0 n1 (n1 + n2) (n1 + n2 + n3) k) c) (pick4 0 n1 (n1 + n2) (n1 + n2 + n3) k) (pick4 [] cs1 (cs1 ++ cs2) (cs1 ++ cs2 ++ cs3) k)) ∧ Below w0.heap.size w0 wr) (fun _ i _ => 3 - (intOf i).toNat)
      case atStart => exact ⟨0, by omega, rfl, A, c, rfl, hown, hbl⟩
      case round =>
        obtain ⟨k, hk, rfl, A, c, rfl, hown, hbl⟩ := hrel
        by_cases hlk : k < 3
        · have hc : ∃ A n c cs, wr.cell? ⟨b, k, none⟩ = some (.slice A n c) ∧ n ≤ 100000 ∧ pick4 0 n1 (n1 + n2) (n1 + n2 + n3) (k + 1) = pick4 0 n1 (n1 + n2) (n1 + n2 + n3) k + n ∧ pick4 0 n1 (n1 + n2) (n1 + n2 + n3) k ≤ 200000 ∧ pick4 [] cs1 (cs1 ++ cs2) (cs1 ++ cs2 ++ cs3) (k + 1) = pick4 [] cs1 (cs1 ++ cs2) (cs1 ++ cs2 ++ cs3) k ++ cs ∧ Cells wr A cs ∧ cs.length = n * 38 ∧ ∀ u ∈ cs, u.oneCell' = true := by
            match k, hlk with
            | 0, _ => exact ⟨A1, n1, c1, cs1, (hbl.cell (p := ⟨b, 0, none⟩) hb).trans F1.out, b1, by simp [pick4], by simp [pick4], by simp [pick4], H1.out.below hbl, l1, O1.out⟩
            | 1, _ => exact ⟨A2, n2, c2, cs2, (hbl.cell (p := ⟨b, 1, none⟩) hb).trans F2.out, b2, by simp [pick4], by simp [pick4]; omega, by simp [pick4], H2.out.below hbl, l2, O2.out⟩
            | 2, _ => exact ⟨A3, n3, c3, cs3, (hbl.cell (p := ⟨b, 2, none⟩) hb).trans F3.out, b3, by simp [pick4], by simp [pick4]; omega, by simp [pick4], H3.out.below hbl, l3, O3.out⟩
          obtain ⟨A', n, c', cs, f, hn, hs, hp, hcs, hcl, hlen, h1c⟩ := hc
          have Hs := Lib.hid hs; have Hcs := Lib.hid hcs; have Hcl := Lib.hid hcl; have H1c := Lib.hid h1c; have Hlen := Lib.hid hlen
          clear hs hcs hcl h1c hlen
          generalize pick4 0 n1 (n1 + n2) (n1 + n2 + n3) k = s at *
          obtain ⟨v0, hv0⟩ : ∃ v0, v0 = Value.slice A' n c' := ⟨_, rfl⟩
          rw [← hv0] at f
          have Hv := Lib.hid hv0
          clear hv0
          generalize pick4 [] cs1 (cs1 ++ cs2) (cs1 ++ cs2 ++ cs3) k = xs at *
          have hdk : decide ((k : Int) < 3) = true := by simp; omega
          go_wp2_with (at_builtin; refine wpList_append_cells rfl (.tmp 31) (.tmp 32) 29 rfl w0.heap.size 38 (.agg Mir.ver0) 38 144 (by kernel_rfl) (by kernel_rfl) Mir.ver0_size (by omega) (.slice A s c) s xs hown.out rfl A' n c' cs Hv.out (by rw [Hlen.out]) Hcl.out H1c.out (by unfold maxLen; omega) (by omega) hbl.size ?_; intro v' w' hown' hgr hsits; obtain ⟨A'', c'', rfl, -, -, -⟩ := own_form hown'; have hbl' := Lib.hid (below_grown hbl hgr hbl.size (fun k hk => (hown.out.lt k hk).1)); have Hown' := Lib.hid hown'; clear hown' hgr hsits)
          go_roundw
          case rel => exact ⟨k + 1, by omega, by go_num, A'', c'', by rw [Hs.out], by show World.ownsRow _ _ _ _ _ _ _; rw [Hs.out, Hcs.out]; exact Hown'.out, hbl'.out⟩
          case measure => simp [intOf]; omega
        · have hk2 : k = 3 := by omega
          have hdk : decide ((k : Int) < 3) = false := by simp; omega
          have hs2 : Hid (pick4 0 n1 (n1 + n2) (n1 + n2 + n3) k = n1 + n2 + n3) := by show _ = _; rw [hk2]; rfl
          have hcs2 : Hid (pick4 [] cs1 (cs1 ++ cs2) (cs1 ++ cs2 ++ cs3) k = cs1 ++ cs2 ++ cs3) := by show _ = _; rw [hk2]; rfl
          clear hk2
          generalize pick4 0 n1 (n1 + n2) (n1 + n2 + n3) k = s2 at *
          generalize pick4 [] cs1 (cs1 ++ cs2) (cs1 ++ cs2 ++ cs3) k = xs at *
          go_wp2_with (fail)
          go_ret
          have h := hs2.out
          subst h
          have h2 := hcs2.out
          subst h2
          exact ⟨A, c, rfl, hown.out, hbl⟩
end Go.Proofs.Ytkflpoiobpblhaa
namespace Go.Proofs.Ytkflpoiobpblhaa
open Go.RowKit
set_option linter.unusedVariables false
set_option linter.unusedSimpArgs false
namespace Mir
def fewA (x : It) : Bool := decide (x.1.size ≤ 100) && decide (x.2.length ≤ 300)
def fewI (l : List It) : Bool := l.all fewA && decide (l.length ≤ 12)
def fewC (l : List Ch) : Bool := (l.all fun x => fewA x.1) && decide (l.length ≤ 12)
def fewV (v : Ve) : Bool := fewC v.ch && decide (v.sg.o.length ≤ 70) && decide (v.sg.c.length ≤ 70) && decide (v.sg.p.length ≤ 20)
theorem few_at {α : Type} {f : α → Bool} {l : List α} (h : ∀ k x, k < l.length → l[k]? = some x → f x = true) : l.all f = true := List.all_eq_true.2 fun x hx => by
  obtain ⟨k, hk, rfl⟩ := List.getElem_of_mem hx
  exact h k _ hk (List.getElem?_eq_getElem hk)
theorem few_bad {α : Type} {f : α → Bool} {l : List α} {k : Nat} {x : α} (h : l[k]? = some x) (hb : f x = false) : l.all f = false := List.all_eq_false.2 ⟨x, List.mem_of_getElem? h, by rw [hb]; simp⟩
end Mir
set_option maxRecDepth 100000 in
set_option maxHeartbeats 4000000 in
theorem rfew_any (A : Option Addr) (n c : Nat) (l : List Mir.It) (w : World) (hl : l.length = n) (hn : n ≤ 9223372036854775807) (hC : ItemsC w A l) :
    Calls Try.prog 8 #[.slice A n c] w fun e w' => e = .returned (.bool (Mir.fewI l)) ∧ w' = w := by
  have HC := Lib.hid hC
  have Hl := Lib.hid hl
  obtain ⟨R, hR⟩ : ∃ R, Mir.fewI l = R := ⟨_, rfl⟩
  have HR := Lib.hid hR
  rw [hR]
  clear hC hl hR
  go_enter Try.func8, Try.ntmps8
  go_wp2_with (fail)
  go_loopw [3] (fun i wr => ∃ k : Nat, k ≤ n ∧ i = .int .i64 k ∧ wr = w ∧ Hid (∀ j x, j < k → l[j]? = some x → Mir.fewA x = true)) (fun i _ => n - (intOf i).toNat)
  case atStart => exact ⟨0, by omega, rfl, rfl, Lib.hid (fun j x h => by omega)⟩
  case round =>
    obtain ⟨k, hk, rfl, rfl, hg⟩ := hrel
    by_cases hlt : k < n
    · obtain ⟨⟨s, dat⟩, hx⟩ := getElem?_lt (l := l) (k := k) (by rw [Hl.out]; exact hlt)
      obtain ⟨b, off, rfl, hb, hcs⟩ := HC.out.at_ (by rw [Hl.out]; omega)
      obtain ⟨D, cd, hc1, hc2, -⟩ := hcs _ _ hx
      simp only [] at hc1 hc2
      have Hx := Lib.hid hx
      obtain ⟨md, hmd⟩ : ∃ m, dat.length = m := ⟨_, rfl⟩
      rw [hmd] at hc2
      have Hmd := Lib.hid hmd
      obtain ⟨z, hz⟩ : ∃ m, s.size = m := ⟨_, rfl⟩
      have Hz := Lib.hid hz
      clear hcs hx hmd
      by_cases h1 : 100 < z
      · have d1 : decide ((100 : Int) < (s.size : Int)) = true := by simp; omega
        clear hz
        go_wp2_with (fail)
        go_ret
        exact ⟨by rw [← HR.out]; unfold Mir.fewI; rw [Mir.few_bad Hx.out (by unfold Mir.fewA; rw [Hz.out, decide_eq_false (by omega)]; rfl)]; rfl, rfl⟩
      · have d1 : decide ((100 : Int) < (s.size : Int)) = false := by simp; omega
        clear hz
        by_cases h2 : 300 < md
        · have d2 : decide ((300 : Int) < (md : Int)) = true := by simp; omega
          go_wp2_with (fail)
          go_ret
          exact ⟨by rw [← HR.out]; unfold Mir.fewI; rw [Mir.few_bad Hx.out (by unfold Mir.fewA; rw [Hmd.out, decide_eq_false (p := md ≤ 300) (by omega), Bool.and_false])]; rfl, rfl⟩
        · have d2 : decide ((300 : Int) < (md : Int)) = false := by simp; omega
          go_wp2_with (fail)
          go_roundw
          case rel => exact ⟨k + 1, by omega, by go_num, by first | rfl | trivial, Lib.hid (fun j x hj hx => by
            rcases Nat.lt_or_eq_of_le (Nat.le_of_lt_succ hj) with h | rfl
            · exact hg.out j x h hx
            · rw [Hx.out] at hx; cases hx
              unfold Mir.fewA
              rw [Hz.out, Hmd.out, decide_eq_true (by omega), decide_eq_true (by omega)]; rfl)⟩
          case measure => simp [intOf]; omega
    · obtain rfl : k = n := by omega
      go_wp2_with (fail)
      go_ret
      refine ⟨?_, rfl⟩
      rw [← HR.out]
      unfold Mir.fewI
      rw [Mir.few_at (fun j x hj hx => hg.out j x (by rw [← Hl.out]; exact hj) hx), Bool.true_and, Hl.out]
      exact ret_bool (by by_cases h : k ≤ 12 <;> simp [h] <;> omega)
set_option maxRecDepth 100000 in
set_option maxHeartbeats 4000000 in
theorem rfewC_any (A : Option Addr) (n c : Nat) (l : List Mir.Ch) (w : World) (hl : l.length = n) (hn : n ≤ 9223372036854775807) (hC : ChangesC w A l) :
    Calls Try.prog 33 #[.slice A n c] w fun e w' => e = .returned (.bool (Mir.fewC l)) ∧ Below w.heap.size w w' := by
  have HC := Lib.hid hC
  have Hl := Lib.hid hl
  have HF := Lib.hid (fun A x W h => rfew_any A 1 1 [x] W rfl (by omega) h)
  obtain ⟨R, hR⟩ : ∃ R, Mir.fewC l = R := ⟨_, rfl⟩
  have HR := Lib.hid hR
  rw [hR]
  clear hC hl hR
  go_enter Try.func33, Try.ntmps33
  go_wp2_with (fail)
  go_loopw [3] (fun i wr => ∃ k : Nat, k ≤ n ∧ i = .int .i64 k ∧ Hid (Below w.heap.size w wr) ∧ Hid (∀ (j : Nat) (x : Mir.Ch), j < k → l[j]? = some x → Mir.fewA x.1 = true)) (fun i _ => n - (intOf i).toNat)
  case atStart => exact ⟨0, by omega, rfl, Lib.hid (Below.refl _ _), Lib.hid (fun j x h => by omega)⟩
  case round =>
    obtain ⟨wk, rfl⟩ : ∃ v : World, v = wr := ⟨_, rfl⟩
    obtain ⟨k, hk, rfl, hB, hg⟩ := hrel
    by_cases hlt : k < n
    · obtain ⟨⟨⟨s, dat⟩, gon⟩, hx⟩ := getElem?_lt (l := l) (k := k) (by rw [Hl.out]; exact hlt)
      obtain ⟨b, off, rfl, hb, hcs⟩ := (HC.out.below hB.out).at_ (by rw [Hl.out]; omega)
      obtain ⟨D, cd, hc1, hc2, hc3, hcd, hcm, hcD, h8⟩ := hcs _ _ hx
      simp only [] at hc1 hc2 hc3 hcd hcD h8
      have Hx := Lib.hid hx
      have HcD := Lib.hid hcD
      have H8 := Lib.hid h8
      clear hcs hx hcD h8
      go_wp2_with (fail)
      generalize hge : World.alloc _ _ = wx
      have bX : Blk wx wk.heap.size 65 #[.string s, .slice D dat.length cd] := by subst hge; exact Blk.new wk _ _
      have hbX : Below wk.heap.size wk wx := by subst hge; exact (Below.refl _ _).alloc (Nat.le_refl _) _
      clear hge
      have hIt : ItemsC wx (some ⟨wk.heap.size, 0, none⟩) [(s, dat)] := ⟨[(D, cd)], rfl, cells_blk bX, fun i g x e1 e2 => by
        match i with
        | 0 => simp at e1 e2; subst e1; subst e2; exact ⟨hcd, hcm, HcD.out.below hbX, H8.out⟩
        | i + 1 => simp at e2⟩
      refine (HF.out _ _ _ hIt).mono ?_
      rintro e w2 ⟨rfl, rfl⟩
      have hB2 := Lib.hid (below_of hB.out hbX hB.out.size)
      obtain ⟨q, hq⟩ : ∃ q, Mir.fewI [(s, dat)] = q := ⟨_, rfl⟩
      have hqa : Mir.fewA (s, dat) = q := by rw [← hq]; unfold Mir.fewI; simp
      rw [hq]
      have Hqa := Lib.hid hqa
      clear hIt bX hbX hc1 hc2 hc3 hq hqa
      cases q with
      | false =>
        go_wp2_with (fail)
        go_ret
        exact ⟨by rw [← HR.out]; unfold Mir.fewC; rw [Mir.few_bad (f := fun x => Mir.fewA x.1) Hx.out Hqa.out]; rfl, hB2.out⟩
      | true =>
        go_wp2_with (fail)
        go_roundw
        case rel => exact ⟨k + 1, by omega, by go_num, hB2, Lib.hid (fun j x hj hx => by
          rcases Nat.lt_or_eq_of_le (Nat.le_of_lt_succ hj) with h | rfl
          · exact hg.out j x h hx
          · rw [Hx.out] at hx; cases hx; exact Hqa.out)⟩
        case measure => simp [intOf]; omega
    · obtain rfl : k = n := by omega
      go_wp2_with (fail)
      go_ret
      refine ⟨?_, hB.out⟩
      rw [← HR.out]
      unfold Mir.fewC
      rw [Mir.few_at (f := fun x => Mir.fewA x.1) (fun j x hj hx => hg.out j x (by rw [← Hl.out]; exact hj) hx), Bool.true_and, Hl.out]
      exact ret_bool (by by_cases h : k ≤ 12 <;> simp [h] <;> omega)
set_option maxRecDepth 100000 in
set_option maxHeartbeats 4000000 in
theorem rfewV_any (v : Mir.Ve) (V : Array Value) (w : World) (hV : VerC w v V) :
    Calls Try.prog 14 #[.agg V] w fun e w' => e = .returned (.bool (Mir.fewV v)) ∧ Below w.heap.size w w' := by
  obtain ⟨A, c, s0, s1, s2, s3, hVe, hst, hC, hlc, hcm, hg⟩ := hV
  obtain ⟨Ao, co, Ac, cc, Ap, cp, rfl, rfl, rfl, rfl, -⟩ := hg
  have hhi := Mir.verA_hi hst.1 v.no (.slice A v.ch.length c) (.int .i64 v.sg.i) (.slice Ao v.sg.o.length co) (.slice Ac v.sg.c.length cc) (.slice Ap v.sg.p.length cp)
  rw [← hVe] at hhi
  have h33 : V[33]? = some (.slice A v.ch.length c) := hhi 0
  have h35 : V[35]? = some (.slice Ao v.sg.o.length co) := hhi 2
  have h36 : V[36]? = some (.slice Ac v.sg.c.length cc) := hhi 3
  have h37 : V[37]? = some (.slice Ap v.sg.p.length cp) := hhi 4
  have HF := Lib.hid (fun W h => rfewC_any A v.ch.length c v.ch W rfl (by unfold maxLen at hcm; omega) h)
  have HC := Lib.hid hC
  obtain ⟨q, hq⟩ : ∃ q, Mir.fewC v.ch = q := ⟨_, rfl⟩
  have hR : Mir.fewV v = (q && decide (v.sg.o.length ≤ 70) && decide (v.sg.c.length ≤ 70) && decide (v.sg.p.length ≤ 20)) := by unfold Mir.fewV; rw [hq]
  rw [hq] at HF
  rw [hR]
  obtain ⟨n0, hn0⟩ : ∃ n, v.ch.length = n := ⟨_, rfl⟩
  obtain ⟨n1, hn1⟩ : ∃ n, v.sg.o.length = n := ⟨_, rfl⟩
  obtain ⟨n2, hn2⟩ : ∃ n, v.sg.c.length = n := ⟨_, rfl⟩
  obtain ⟨n3, hn3⟩ : ∃ n, v.sg.p.length = n := ⟨_, rfl⟩
  rw [hn0] at h33 HF
  rw [hn1] at h35
  rw [hn2] at h36
  rw [hn3] at h37
  rw [hn1, hn2, hn3]
  clear hVe hst hC hlc hcm hhi hq hR hn0 hn1 hn2 hn3
  have key : ∀ R, R = (q && decide (n1 ≤ 70) && decide (n2 ≤ 70) && decide (n3 ≤ 20)) → Calls Try.prog 14 #[.agg V] w fun e w' => e = .returned (.bool R) ∧ Below w.heap.size w w' := by
    intro R hR
    have HR := Lib.hid hR
    clear hR
    cases q with
    | false =>
      go_enter Try.func14, Try.ntmps14
      go_upto_region 1 with (fail)
      generalize hge : World.alloc _ _ = w1
      have hX0 := (show Blk w1 w.heap.size 38 V by subst hge; exact Blk.new w _ _)
      have HX := Lib.hid hX0
      have HBw := Lib.hid (show Below w.heap.size w w1 by subst hge; exact (Below.refl _ _).alloc (Nat.le_refl _) _)
      have y33 : w1.cell? ⟨w.heap.size, 33, none⟩ = some (.slice A n0 c) := (HX.out.cell 33).trans h33
      clear hge hX0
      go_wp2_with (fail)
      refine (HF.out _ (HC.out.below HBw.out)).mono ?_
      rintro e w2 ⟨rfl, hb2⟩
      have HB2 := Lib.hid (below_of HBw.out hb2 HBw.out.size)
      have z35 : w2.cell? ⟨w.heap.size, 35, none⟩ = some (.slice Ao n1 co) := ((HX.out.below hb2).cell 35).trans h35
      have z36 : w2.cell? ⟨w.heap.size, 36, none⟩ = some (.slice Ac n2 cc) := ((HX.out.below hb2).cell 36).trans h36
      have z37 : w2.cell? ⟨w.heap.size, 37, none⟩ = some (.slice Ap n3 cp) := ((HX.out.below hb2).cell 37).trans h37
      clear hb2 y33
      go_wp2_with (fail)
      go_ret
      exact ⟨ret_bool (by rw [HR.out]; rfl), HB2.out⟩
    | true =>
      by_cases h1 : n1 ≤ 70
      · have d1 : decide ((n1 : Int) ≤ 70) = true := by simp; omega
        by_cases h2 : n2 ≤ 70
        · have d2 : decide ((n2 : Int) ≤ 70) = true := by simp; omega
          by_cases h3 : n3 ≤ 20
          · have d3 : decide ((n3 : Int) ≤ 20) = true := by simp; omega
            go_enter Try.func14, Try.ntmps14
            go_upto_region 1 with (fail)
            generalize hge : World.alloc _ _ = w1
            have hX0 := (show Blk w1 w.heap.size 38 V by subst hge; exact Blk.new w _ _)
            have HX := Lib.hid hX0
            have HBw := Lib.hid (show Below w.heap.size w w1 by subst hge; exact (Below.refl _ _).alloc (Nat.le_refl _) _)
            have y33 : w1.cell? ⟨w.heap.size, 33, none⟩ = some (.slice A n0 c) := (HX.out.cell 33).trans h33
            clear hge hX0
            go_wp2_with (fail)
            refine (HF.out _ (HC.out.below HBw.out)).mono ?_
            rintro e w2 ⟨rfl, hb2⟩
            have HB2 := Lib.hid (below_of HBw.out hb2 HBw.out.size)
            have z35 : w2.cell? ⟨w.heap.size, 35, none⟩ = some (.slice Ao n1 co) := ((HX.out.below hb2).cell 35).trans h35
            have z36 : w2.cell? ⟨w.heap.size, 36, none⟩ = some (.slice Ac n2 cc) := ((HX.out.below hb2).cell 36).trans h36
            have z37 : w2.cell? ⟨w.heap.size, 37, none⟩ = some (.slice Ap n3 cp) := ((HX.out.below hb2).cell 37).trans h37
            clear hb2 y33
            go_wp2_with (fail)
            go_ret
            exact ⟨ret_bool (by rw [HR.out]; simp [h1, h2, h3]), HB2.out⟩
          · have d3 : decide ((n3 : Int) ≤ 20) = false := by simp; omega
            go_enter Try.func14, Try.ntmps14
            go_upto_region 1 with (fail)
            generalize hge : World.alloc _ _ = w1
            have hX0 := (show Blk w1 w.heap.size 38 V by subst hge; exact Blk.new w _ _)
            have HX := Lib.hid hX0
            have HBw := Lib.hid (show Below w.heap.size w w1 by subst hge; exact (Below.refl _ _).alloc (Nat.le_refl _) _)
            have y33 : w1.cell? ⟨w.heap.size, 33, none⟩ = some (.slice A n0 c) := (HX.out.cell 33).trans h33
            clear hge hX0
            go_wp2_with (fail)
            refine (HF.out _ (HC.out.below HBw.out)).mono ?_
            rintro e w2 ⟨rfl, hb2⟩
            have HB2 := Lib.hid (below_of HBw.out hb2 HBw.out.size)
            have z35 : w2.cell? ⟨w.heap.size, 35, none⟩ = some (.slice Ao n1 co) := ((HX.out.below hb2).cell 35).trans h35
            have z36 : w2.cell? ⟨w.heap.size, 36, none⟩ = some (.slice Ac n2 cc) := ((HX.out.below hb2).cell 36).trans h36
            have z37 : w2.cell? ⟨w.heap.size, 37, none⟩ = some (.slice Ap n3 cp) := ((HX.out.below hb2).cell 37).trans h37
            clear hb2 y33
            go_wp2_with (fail)
            go_ret
            exact ⟨ret_bool (by rw [HR.out]; simp; omega), HB2.out⟩
        · have d2 : decide ((n2 : Int) ≤ 70) = false := by simp; omega
          go_enter Try.func14, Try.ntmps14
          go_upto_region 1 with (fail)
          generalize hge : World.alloc _ _ = w1
          have hX0 := (show Blk w1 w.heap.size 38 V by subst hge; exact Blk.new w _ _)
          have HX := Lib.hid hX0
          have HBw := Lib.hid (show Below w.heap.size w w1 by subst hge; exact (Below.refl _ _).alloc (Nat.le_refl _) _)
          have y33 : w1.cell? ⟨w.heap.size, 33, none⟩ = some (.slice A n0 c) := (HX.out.cell 33).trans h33
          clear hge hX0
          go_wp2_with (fail)
          refine (HF.out _ (HC.out.below HBw.out)).mono ?_
          rintro e w2 ⟨rfl, hb2⟩
          have HB2 := Lib.hid (below_of HBw.out hb2 HBw.out.size)
          have z35 : w2.cell? ⟨w.heap.size, 35, none⟩ = some (.slice Ao n1 co) := ((HX.out.below hb2).cell 35).trans h35
          have z36 : w2.cell? ⟨w.heap.size, 36, none⟩ = some (.slice Ac n2 cc) := ((HX.out.below hb2).cell 36).trans h36
          have z37 : w2.cell? ⟨w.heap.size, 37, none⟩ = some (.slice Ap n3 cp) := ((HX.out.below hb2).cell 37).trans h37
          clear hb2 y33
          go_wp2_with (fail)
          go_ret
          exact ⟨ret_bool (by rw [HR.out]; simp; omega), HB2.out⟩
      · have d1 : decide ((n1 : Int) ≤ 70) = false := by simp; omega
        go_enter Try.func14, Try.ntmps14
        go_upto_region 1 with (fail)
        generalize hge : World.alloc _ _ = w1
        have hX0 := (show Blk w1 w.heap.size 38 V by subst hge; exact Blk.new w _ _)
        have HX := Lib.hid hX0
        have HBw := Lib.hid (show Below w.heap.size w w1 by subst hge; exact (Below.refl _ _).alloc (Nat.le_refl _) _)
        have y33 : w1.cell? ⟨w.heap.size, 33, none⟩ = some (.slice A n0 c) := (HX.out.cell 33).trans h33
        clear hge hX0
        go_wp2_with (fail)
        refine (HF.out _ (HC.out.below HBw.out)).mono ?_
        rintro e w2 ⟨rfl, hb2⟩
        have HB2 := Lib.hid (below_of HBw.out hb2 HBw.out.size)
        have z35 : w2.cell? ⟨w.heap.size, 35, none⟩ = some (.slice Ao n1 co) := ((HX.out.below hb2).cell 35).trans h35
        have z36 : w2.cell? ⟨w.heap.size, 36, none⟩ = some (.slice Ac n2 cc) := ((HX.out.below hb2).cell 36).trans h36
        have z37 : w2.cell? ⟨w.heap.size, 37, none⟩ = some (.slice Ap n3 cp) := ((HX.out.below hb2).cell 37).trans h37
        clear hb2 y33
        go_wp2_with (fail)
        go_ret
        exact ⟨ret_bool (by rw [HR.out]; simp; omega), HB2.out⟩
  exact key _ rfl
end Go.Proofs.Ytkflpoiobpblhaa
