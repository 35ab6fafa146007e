/- Walks and plain laws that the statement rests on: MOpF, RA5, RA1, RA2, RAP, RA3, RA4, RA7. -/
import Derived.Deep.CutBlock
import Derived.Deep.DeepCutAuto
import Derived.Deep.RegionHeld3
import Derived.Test.YtkflpoiobpblhaaGreatP00
import Derived.Test.YtkflpoiobpblhaaGreatP22
import Derived.Test.YtkflpoiobpblhaaGreatP25
import Derived.Test.YtkflpoiobpblhaaGreatP34
import Derived.Test.YtkflpoiobpblhaaGreatP36
import Derived.Test.YtkflpoiobpblhaaGreatP37
import Derived.Test.YtkflpoiobpblhaaGreatP38
import Derived.Test.YtkflpoiobpblhaaGreatP39
import Derived.Test.YtkflpoiobpblhaaGreatP40
import Derived.Test.YtkflpoiobpblhaaGreatP43
import Derived.Test.YtkflpoiobpblhaaGreatP45
import Derived.Test.YtkflpoiobpblhaaGreatP50
import Derived.Test.YtkflpoiobpblhaaGreatP52
import Derived.Test.YtkflpoiobpblhaaGreatP54
import Derived.Test.YtkflpoiobpblhaaGreatPS
import Derived.Test.YtkflpoiobpblhaaGreatP44
set_option maxRecDepth 100000
set_option maxHeartbeats 16000000
set_option linter.unusedVariables false
set_option linter.unusedSimpArgs false
namespace Go.Proofs.YtkflpoiobpblhaaGreat
open Go.RowKit Go.WideShapes Go.ChangeShapes Go.ChangeAt
section
variable {H : Type} {enc : TypeId × Value → H} {w : World} {held : Bool}
instance : Inhabited (Mir.Ve × Array Value) := ⟨(Mir.ve0, #[])⟩
theorem open_versions_at {fuel : Nat} {v : Value} {y : DataW H × List MemPlace} (hf : DataW.trod enc Tryz.prog w 0 (fun _ => true) held fuel 25 [v] = some y) :
    ∃ A n c, ∃ l : List Mir.Ve, v = .slice A n c ∧ l.length = n ∧ n ≤ c ∧ c ≤ maxLen ∧ VersC w A l := by
 rcases Go.Deep.open_slice Tryz.underlying25 hf with ⟨hcs, _⟩ | ⟨a, len, cap, m, k, D, Pl, hcs, _, hl, hm, hmm, _, hi⟩
 · simp at hcs
   subst hcs
   exact ⟨none, 0, 0, [], rfl, rfl, Nat.le_refl _, Nat.zero_le _, VersC.nil_ _ _⟩
 simp at hcs
 subst hcs
 have hm' : m = cap := by simpa using hmm
 subst hm'
 rw [show Tryz.prog.cellsOf 34 = 38 by kernel_rfl] at hi
 have each : ∀ i, i < len → ∃ q : Mir.Ve × Array Value, VerC w q.1 q.2 ∧ ∀ j, j < 38 → w.cell? ((a.add (i * 38)).add j) = q.2.toList[j]? := fun i hlt => by
  obtain ⟨cs', h1, h2⟩ := hi i (by omega)
  obtain ⟨x, V, rfl, hV⟩ := open_version_at h2
  obtain ⟨_, _, hc⟩ := World.cells?_some h1
  exact ⟨(x, V), hV, hc⟩
 obtain ⟨f, hf⟩ := Go.Deep.choose_lt each
 refine ⟨some a, len, m, (List.range len).map fun i => (f i).1, rfl, by simp, hl, hm, (List.range len).map fun i => (f i).2, by simp, ?_, fun i x V e1 e2 => ?_⟩
 · obtain ⟨g1, g2⟩ := flat38 ((List.range len).map fun i => (f i).2) (fun V hV => by
     obtain ⟨i, hi', rfl⟩ := List.mem_map.1 hV
     exact (hf i (List.mem_range.1 hi')).1.size)
   rw [List.length_map, List.length_range] at g1
   rcases Nat.eq_zero_or_pos len with rfl | hpos
   · exact .inl rfl
   obtain ⟨b, off, spot⟩ := a
   obtain ⟨u0, hu0⟩ := getElem?_lt (l := (f 0).2.toList) (k := 0) (by rw [Array.length_toList, (hf 0 hpos).1.size]; omega)
   have c0 := ((hf 0 hpos).2 0 (by omega)).trans hu0
   have hspot : spot = none := by simpa [Addr.add] using World.cell?_spot c0
   subst hspot
   refine .inr ⟨b, off, rfl, World.block_lt_of_cell? w _ c0, fun j u hu => ?_⟩
   have hj := (List.getElem?_eq_some_iff.1 hu).1
   rw [g1] at hj
   have hk : j / 38 < len := by omega
   have hr : j % 38 < 38 := Nat.mod_lt _ (by omega)
   have h3 := g2 (j / 38) (f (j / 38)).2 (by simp [hk])
   have h4 := (hf (j / 38) hk).2 (j % 38) hr
   rw [← h3, List.getElem?_take, if_pos hr, List.getElem?_drop, show j / 38 * 38 + j % 38 = j by omega, hu] at h4
   simp only [Go.WideShapes.add_plain] at h4
   rwa [show off + j / 38 * 38 + j % 38 = off + j by omega] at h4
 have hlt : i < len := by
   have := (List.getElem?_eq_some_iff.1 e1).1
   simpa using this
 simp [hlt] at e1 e2
 subst e1; subst e2
 exact (hf i hlt).1
theorem cut36 {l : List Value} (h : l.length = 36) : l = l.take 32 ++ (l.drop 32).take 1 ++ (l.drop 33).take 1 ++ (l.drop 34).take 1 ++ (l.drop 35).take 1 := by
 have e3 : (l.drop 35).take 1 = l.drop 35 := List.take_of_length_le (by rw [List.length_drop]; omega)
 rw [e3, ← List.take_add, ← List.take_add, ← List.take_add, List.take_append_drop]
theorem one_of {cs : List Value} (h : cs.length = 1) : ∃ a, cs = [a] := List.length_eq_one_iff.1 h
theorem open_follower {r : Reach} {b0 : Nat} {v : Value} {d : DataW H} {p : List MemPlace} (hv : Value.okWide Tryz.prog w r b0 48 v) (h : DataW.Trod enc Tryz.prog w 0 (fun _ => true) held 48 v d p) :
    ∃ (x : Mir.Fo) (F : Array Value), v = .agg F ∧ FolC w x F := by
 obtain ⟨cs, rfl, -⟩ := okWide_struct Tryz.underlying48 hv
 obtain ⟨fuel, hf⟩ := h
 have hf : DataW.trod enc Tryz.prog w 0 (fun _ => true) held fuel 48 cs.toList = some (d, p) := by simpa [Value.cells] using hf
 obtain ⟨l, hl⟩ := exq cs.toList
 rw [hl] at hf
 obtain ⟨xs, n, _, -, hl36, hlen, hg⟩ := DataW.trod_struct Tryz.underlying48 hf
 rw [show Tryz.prog.cellsOf 48 = 36 by kernel_rfl] at hl36
 match xs, hlen with
 | [y0, y1, y2, y3, y4], _ =>
 have k0 : DataW.trod enc Tryz.prog w 0 (fun _ => true) held n 29 (l.take 32) = some y0 := by
  have := hg 0 _ rfl
  simpa [show Tryz.prog.cellsOf 29 = 32 by kernel_rfl] using this
 have k1 : DataW.trod enc Tryz.prog w 0 (fun _ => true) held n 3 ((l.drop 32).take 1) = some y1 := by
  have := hg 1 _ rfl
  simpa [show Tryz.prog.cellsOf 3 = 1 by kernel_rfl] using this
 have k2 : DataW.trod enc Tryz.prog w 0 (fun _ => true) held n 3 ((l.drop 33).take 1) = some y2 := by
  have := hg 2 _ rfl
  simpa [show Tryz.prog.cellsOf 3 = 1 by kernel_rfl] using this
 have k3 : DataW.trod enc Tryz.prog w 0 (fun _ => true) held n 26 ((l.drop 34).take 1) = some y3 := by
  have := hg 3 _ rfl
  simpa [show Tryz.prog.cellsOf 26 = 1 by kernel_rfl] using this
 have k4 : DataW.trod enc Tryz.prog w 0 (fun _ => true) held n 25 ((l.drop 35).take 1) = some y4 := by
  have := hg 4 _ rfl
  simpa [show Tryz.prog.cellsOf 25 = 1 by kernel_rfl] using this
 clear hg hf
 have hcut := cut36 hl36
 obtain ⟨many, hmany, -, -⟩ := DataW.trod_int (k := .i64) Tryz.underlying3 k1
 obtain ⟨no, hno, -, -⟩ := DataW.trod_int (k := .i64) Tryz.underlying3 k2
 obtain ⟨st, hst, hj⟩ := trod_dig k0
 have hmid : l.take 32 = bytesV st := by
  apply List.ext_getElem?
  intro j
  by_cases h : j < 32
  · rw [hj j h]
    unfold bytesV
    rw [List.getElem?_map, List.getElem?_eq_getElem (by rw [hst.1]; omega), List.getD_eq_getElem?_getD, List.getElem?_eq_getElem (by rw [hst.1]; omega)]
    rfl
  rw [List.getElem?_eq_none (by simp; omega), List.getElem?_eq_none (by rw [bytesV_length, hst.1]; omega)]
 obtain ⟨vi, hvi⟩ := one_of (cs := (l.drop 34).take 1) (by simp; omega)
 obtain ⟨ve, hve⟩ := one_of (cs := (l.drop 35).take 1) (by simp; omega)
 rw [hvi] at k3
 rw [hve] at k4
 obtain ⟨A, n1, ca, it, rfl, rfl, hca, hcam, hA⟩ := open_items_at k3
 obtain ⟨B, n2, cb, ea, rfl, rfl, hcb, hcbm, hB⟩ := open_versions_at k4
 refine ⟨⟨st, many, no, it, ea⟩, cs, rfl, A, ca, B, cb, ?_, hst, hA, hB, hca, hcam, hcb, hcbm⟩
 apply Array.toList_inj.1
 rw [hl, hcut, hmid, hmany, hno, hvi, hve, ← arrK_bytesV]
 unfold Mir.folA
 simp
end
end Go.Proofs.YtkflpoiobpblhaaGreat
namespace Go.Proofs.YtkflpoiobpblhaaGreat
open Go.RowKit
theorem rfcheck_any (f : Mir.Fo) (F : Array Value) (w : World) (hF : FolC w f F) (hs : Mir.SmF f) :
    Calls Tryz.prog 21 #[.agg F] w fun e w' => e = .returned (.int .i64 (Mir.foE f)) ∧ Below w.heap.size w w' := by
 obtain ⟨A, ca, B, cb, hFe, hd, hA, hB, hca, hcam, hcb, hcbm⟩ := hF
 obtain ⟨pub, many, no, it, ea⟩ := f
 obtain ⟨s1, s2, s3, s4⟩ := hs
 simp only [] at hFe hd hA hB hca hcb s1 s2 s3 s4 ⊢
 obtain ⟨n1, hn1⟩ := exq it.length
 obtain ⟨n2, hn2⟩ := exq ea.length
 rw [hn1] at hFe hca s1
 rw [hn2] at hFe hcb s3
 have hhi := Mir.folA_hi hd.1 many no (.slice A n1 ca) (.slice B n2 cb)
 have hlo0 := fun i (hi : i < 32) => Mir.folA_low hd.1 many no (.slice A n1 ca) (.slice B n2 cb) (i := i) hi
 rw [← hFe] at hhi
 have Hlo := θ (fun i (hi : i < 32) => (show F[i]? = (arrK .u8 pub)[i]? from by rw [hFe]; exact hlo0 i hi))
 clear hlo0
 have h32 : F[32]? = some (.int .i64 many) := hhi 0
 have h33 : F[33]? = some (.int .i64 no) := hhi 1
 have h34 : F[34]? = some (.slice A n1 ca) := hhi 2
 have h35 : F[35]? = some (.slice B n2 cb) := hhi 3
 have HP := θ (fun W h => rcheck_any A n1 ca it W hn1 s1 h)
 have HV := θ (fun (v : Mir.Ve) V W (hm : v ∈ ea) h => rmverify_any pub many v V W hd h (s4 v hm).1 (s4 v hm).2)
 have Hd := θ hd
 have HA := θ hA
 have HB := θ hB
 have Hn1 := θ hn1
 have Hn2 := θ hn2
 obtain ⟨R, hR⟩ := exq (Mir.foE ⟨pub, many, no, it, ea⟩)
 rw [hR]
 have HR : Hid (R = if Mir.manyB many = false then 40 else if no < 0 ∨ 4096 < no then 450 else if Mir.itE it ≠ 0 then Mir.itE it else if no = 0 ∧ 0 < n1 then 430 else if 64 < n2 then 2 else if Mir.earlyOk (no + 1) ea = false then 450 else Mir.verAll pub many ea) := θ (by rw [← hR, ← hn1, ← hn2]; rfl)
 clear hR hFe hhi hA hB hd hn1 hn2 s2 s4 hcam hcbm
 obtain ⟨E, hE⟩ := exq (Mir.itE it)
 rw [hE] at HR HP
 clear hE
 go_enter Tryz.func21, Tryz.ntmps21
 go_upto_region 1 with fail
 generalize hge : World.alloc _ _ = w1
 have HX := θ (show Blk w1 w.heap.size 48 F by subst hge; exact Blk.new w _ _)
 have HBw := θ (al1 hge)
 have y32 : w1.cell? ⟨w.heap.size, 32, none⟩ = some (.int .i64 many) := (HX.out.cell 32).trans h32
 have y33 : w1.cell? ⟨w.heap.size, 33, none⟩ = some (.int .i64 no) := (HX.out.cell 33).trans h33
 have y34 : w1.cell? ⟨w.heap.size, 34, none⟩ = some (.slice A n1 ca) := (HX.out.cell 34).trans h34
 clear hge
 by_cases hm1 : many < 1
 · have d1 : decide (many < 1) = true := decide_eq_true hm1
   have hr : R = 40 := by rw [HR.out, if_pos (by unfold Mir.manyB; rw [decide_eq_false (by omega)]; rfl)]
   go_wp2_with fail
   go_ret
   exact ⟨by first | rfl | (rw [hr]; rfl), HBw.out⟩
 have d1 : decide (many < 1) = false := decide_eq_false hm1
 by_cases hm2 : 4096 < many
 · have d2 : decide (4096 < many) = true := decide_eq_true hm2
   have hr : R = 40 := by rw [HR.out, if_pos (by unfold Mir.manyB; rw [decide_eq_false (p := many ≤ 4096) (by omega), Bool.and_false])]
   go_wp2_with fail
   go_ret
   exact ⟨by first | rfl | (rw [hr]; rfl), HBw.out⟩
 have d2 : decide (4096 < many) = false := decide_eq_false hm2
 by_cases hn1 : no < 0
 · have d3 : decide (no < 0) = true := decide_eq_true hn1
   have hr : R = 450 := by rw [HR.out, if_neg (by unfold Mir.manyB; rw [decide_eq_true (p := 1 ≤ many) (by omega), decide_eq_true (p := many ≤ 4096) (by omega)]; simp), if_pos (Or.inl hn1)]
   go_wp2_with fail
   go_ret
   exact ⟨by first | rfl | (rw [hr]; rfl), HBw.out⟩
 have d3 : decide (no < 0) = false := decide_eq_false hn1
 by_cases hn2 : 4096 < no
 · have d4 : decide (4096 < no) = true := decide_eq_true hn2
   have hr : R = 450 := by rw [HR.out, if_neg (by unfold Mir.manyB; rw [decide_eq_true (p := 1 ≤ many) (by omega), decide_eq_true (p := many ≤ 4096) (by omega)]; simp), if_pos (Or.inr hn2)]
   go_wp2_with fail
   go_ret
   exact ⟨by first | rfl | (rw [hr]; rfl), HBw.out⟩
 have d4 : decide (4096 < no) = false := decide_eq_false hn2
 have HR1 : Hid (R = if E ≠ 0 then E else if no = 0 ∧ 0 < n1 then 430 else if 64 < n2 then 2 else if Mir.earlyOk (no + 1) ea = false then 450 else Mir.verAll pub many ea) := θ (by rw [HR.out, if_neg (by unfold Mir.manyB; rw [decide_eq_true (p := 1 ≤ many) (by omega), decide_eq_true (p := many ≤ 4096) (by omega)]; simp), if_neg (by omega)])
 clear HR
 go_wp2_with fail
 refine (HP.out _ (HA.out.below HBw.out)).mono ?_
 rintro e w2 ⟨rfl, hb2⟩
 have HX2 := θ (HX.out.below hb2)
 have HB2 := θ (bo HBw hb2)
 clear hb2 y32 y33 y34 HX HBw d1 d2 d3 d4
 by_cases hE : E = 0
 rotate_left
 · have dE : decide (E = 0) = false := by simpa using hE
   have dE2 : (E != 0) = true := by simpa using hE
   have hr : R = E := by rw [HR1.out, if_pos hE]
   go_wp2_with fail
   go_ret
   exact ⟨by first | rfl | (rw [hr]; rfl), HB2.out⟩
 subst hE
 have z33_ : w2.cell? ⟨w.heap.size, 33, none⟩ = some (.int .i64 no) := (HX2.out.cell 33).trans h33
 have z34_ : w2.cell? ⟨w.heap.size, 34, none⟩ = some (.slice A n1 ca) := (HX2.out.cell 34).trans h34
 have z35_ : w2.cell? ⟨w.heap.size, 35, none⟩ = some (.slice B n2 cb) := (HX2.out.cell 35).trans h35
 go_upto_region 8 with fail
 go_cut [37] (fun s37 wx => s37 = .bool (decide (no = 0 ∧ 0 < n1)) ∧ w2 = wx)
 case first =>
  by_cases hz : no = 0
  · have dz : decide (no = 0) = true := decide_eq_true hz
    have dz2 : (no == 0) = true := by simpa using hz
    by_cases hl : 0 < n1
    · have dl : ((n1 : Int) != 0) = true := by simp; omega
      have dl2 : decide ((n1 : Int) = 0) = false := decide_eq_false (by omega)
      have dl3 : decide (n1 = 0) = false := decide_eq_false (by omega)
      have dl4 : (n1 != 0) = true := by simp; omega
      go_wp2_with fail
      go_meet
      exact ⟨by rw [decide_eq_true (p := no = 0 ∧ 0 < n1) ⟨hz, hl⟩], rfl⟩
    obtain rfl : n1 = 0 := by omega
    go_wp2_with fail
    go_meet
    exact ⟨by rw [decide_eq_false (p := no = 0 ∧ 0 < 0) (by omega)], rfl⟩
  have dz : decide (no = 0) = false := decide_eq_false hz
  have dz2 : (no == 0) = false := by simpa using hz
  go_wp2_with fail
  go_meet
  exact ⟨by rw [decide_eq_false (p := no = 0 ∧ 0 < n1) (by omega)], rfl⟩
 obtain ⟨rfl, rfl⟩ := hcut
 by_cases hz : no = 0 ∧ 0 < n1
 · have hr : R = 430 := by rw [HR1.out, if_neg (by simp), if_pos hz]
   rw [decide_eq_true hz]
   go_wp2_with fail
   go_ret
   exact ⟨by first | rfl | (rw [hr]; rfl), HB2.out⟩
 rw [decide_eq_false hz]
 by_cases hm : 64 < n2
 · have dm : decide ((64 : Int) < (n2 : Int)) = true := decide_eq_true (by omega)
   have dm' : decide (64 < n2) = true := decide_eq_true hm
   have hr : R = 2 := by rw [HR1.out, if_neg (by simp), if_neg hz, if_pos hm]
   go_wp2_with fail
   go_ret
   exact ⟨by first | rfl | (rw [hr]; rfl), HB2.out⟩
 have dm : decide ((64 : Int) < (n2 : Int)) = false := decide_eq_false (by omega)
 have dm' : decide (64 < n2) = false := decide_eq_false hm
 have HR2 : Hid (R = if Mir.earlyOk (no + 1) ea = false then 450 else Mir.verAll pub many ea) := θ (by rw [HR1.out, if_neg (by simp), if_neg hz, if_neg hm])
 clear HR1 hz
 obtain ⟨ok, hok⟩ := exq (Mir.earlyOk (no + 1) ea)
 rw [hok] at HR2
 have Hok := θ hok
 have ewr : IntKind.i64.wrap (no + 1) = no + 1 := IntWalk.i64_in _ (by omega)
 clear hok
 go_wp2_with fail
 clear z33_ z34_ z35_
 go_loopw [4] (fun i W => ∃ (k : Nat) (last : Int), k ≤ n2 ∧ i = .int .i64 k ∧ Hid (no + 1 ≤ last) ∧ Hid ((k = 0 ∧ last = no + 1) ∨ ∃ u, 0 < k ∧ ea[k - 1]? = some u ∧ u.no = last) ∧ Hid (Mir.earlyOk last (ea.drop k) = ok) ∧ Hid (Blk W w.heap.size 48 F) ∧ Hid (Below w.heap.size w W)) (fun i _ => n2 - (intOf i).toNat)
 case atStart => exact ⟨0, no + 1, by omega, rfl, θ (Int.le_refl _), θ (.inl ⟨rfl, rfl⟩), Hok, HX2, HB2⟩
 obtain ⟨wq, rfl⟩ : ∃ v : World, v = wr := ⟨_, rfl⟩
 obtain ⟨k, last, hk, rfl, hlo, hpv, hrest, hX, hB⟩ := hrel
 have z33_ : wq.cell? ⟨w.heap.size, 33, none⟩ = some (.int .i64 no) := (hX.out.cell 33).trans h33
 have z35_ : wq.cell? ⟨w.heap.size, 35, none⟩ = some (.slice B n2 cb) := (hX.out.cell 35).trans h35
 by_cases hlt : k < n2
 · obtain ⟨v, hv⟩ := getElem?_lt (l := ea) (k := k) (by rw [Hn2.out]; exact hlt)
   obtain ⟨b, off, rfl, hb, hcs⟩ := HB.out.at_ (by rw [Hn2.out]; omega)
   obtain ⟨V, hV, hr⟩ := hcs k v hv
   have x0 : wq.cell? ⟨b, off + k * 38, none⟩ = some (.int .i64 v.no) := cellkM hB.out (hr 0 _ (by have := hV.c0; simpa using this))
   have Hdr := θ (drop_cons hv)
   have Hv := θ hv
   obtain ⟨vn, hvn⟩ := exq v.no
   rw [hvn] at x0
   have Hvn := θ hvn
   have hkI : (k : Int) < (n2 : Int) := by omega
   clear hV hr hv hvn
   have HBad : Hid (vn ≤ last → R = 450) := θ (fun h => by
    have e2 : ok = false := by rw [← hrest.out, Hdr.out, Mir.earlyOk_cons, Hvn.out, decide_eq_false (by omega)]; rfl
    rw [HR2.out, e2]; rfl)
   have HGo : Hid (¬ vn ≤ last → Mir.earlyOk vn (ea.drop (k + 1)) = ok) := θ (fun h => by have := hrest.out; rwa [Hdr.out, Mir.earlyOk_cons, Hvn.out, decide_eq_true (by omega), Bool.true_and] at this)
   have hl0 := hlo.out
   by_cases hv1 : vn ≤ no + 1
   · have dv : decide (vn ≤ no + 1) = true := decide_eq_true hv1
     have hr : R = 450 := HBad.out (by omega)
     clear hcs HBad HGo
     go_upto_region 15 with fail
     go_quiet (fail)
     go_wp2_with fail
     go_ret
     exact ⟨by first | rfl | (rw [hr]; rfl), below_drewN hB.out _⟩
   have dv : decide (vn ≤ no + 1) = false := decide_eq_false hv1
   rcases hpv.out with ⟨hk0, rfl⟩ | ⟨u, hk0, hu, hul⟩
   · have hg := HGo.out hv1
     have dk : decide ((0 : Int) < (k : Int)) = false := decide_eq_false (by omega)
     have dk2 : decide (0 < k) = false := decide_eq_false (by omega)
     clear hcs HBad HGo hk0
     go_upto_region 15 with fail
     go_quiet (fail)
     go_wp2_with fail
     go_roundw
     case rel => exact ⟨k + 1, vn, by omega, by go_num, θ (by omega), θ (.inr ⟨v, by omega, Hv.out, Hvn.out⟩), θ hg, hX, below_drewN hB.out _⟩
     case measure => simp [intOf]; omega
   obtain ⟨k', rfl⟩ : ∃ k', k = k' + 1 := ⟨k - 1, by omega⟩
   rw [Nat.add_sub_cancel] at hu
   obtain ⟨V', hV', hr'⟩ := hcs k' u hu
   have y0 : wq.cell? ⟨b, off + k' * 38, none⟩ = some (.int .i64 last) := cellkM hB.out (hr' 0 _ (by have := hV'.c0; rw [hul] at this; simpa using this))
   have e1 : ((k' + 1 : Nat) : Int) - 1 = (k' : Int) := by omega
   have e2 : (k' : Int) + 1 - 1 = (k' : Int) := by omega
   have e3 : IntKind.i64.wrap (k' : Int) = (k' : Int) := IntWalk.i64_in _ (by omega)
   have hkI2 : (k' : Int) < (n2 : Int) := by omega
   have hkN2 : k' < n2 := by omega
   have dk : decide ((0 : Int) < ((k' + 1 : Nat) : Int)) = true := decide_eq_true (by omega)
   have dk2 : decide ((0 : Int) < (k' : Int) + 1) = true := decide_eq_true (by omega)
   clear hcs hV' hr' hu hul
   by_cases hv2 : vn ≤ last
   · have dl : decide (vn ≤ last) = true := decide_eq_true hv2
     have hr : R = 450 := HBad.out hv2
     clear HBad HGo
     go_upto_region 15 with fail
     go_quiet (fail)
     go_wp2_with fail
     go_ret
     exact ⟨by first | rfl | (rw [hr]; rfl), below_drewN hB.out _⟩
   have dl : decide (vn ≤ last) = false := decide_eq_false hv2
   have hg := HGo.out hv2
   clear HBad HGo
   go_upto_region 15 with fail
   go_quiet (fail)
   go_wp2_with fail
   go_roundw
   case rel => exact ⟨k' + 1 + 1, vn, by omega, by go_num, θ (by omega), θ (.inr ⟨v, by omega, Hv.out, Hvn.out⟩), θ hg, hX, below_drewN hB.out _⟩
   case measure => simp [intOf]; omega
 obtain rfl : k = n2 := by omega
 have eok : ok = true := by rw [← hrest.out, ← Hn2.out, List.drop_length]; rfl
 have HR3 : Hid (R = Mir.verAll pub many ea) := θ (by rw [HR2.out, eok]; rfl)
 clear HR2 eok hrest Hok HX2 HB2 hpv hlo
 go_wp2_with fail
 clear z33_ z35_
 go_loopw [5] (fun i W => ∃ (j : Nat), j ≤ k ∧ i = .int .i64 j ∧ Hid (Mir.verAll pub many (ea.drop j) = R) ∧ Hid (Blk W w.heap.size 48 F) ∧ Hid (Below w.heap.size w W)) (fun i _ => k - (intOf i).toNat)
 case atStart => exact ⟨0, by omega, rfl, θ HR3.out.symm, hX, hB⟩
 obtain ⟨wp, rfl⟩ : ∃ v : World, v = wr := ⟨_, rfl⟩
 clear hX hB HR3
 obtain ⟨j, hj, rfl, hrest, hX, hB⟩ := hrel
 have z35_ : wp.cell? ⟨w.heap.size, 35, none⟩ = some (.slice B k cb) := (hX.out.cell 35).trans h35
 by_cases hlt2 : j < k
 · obtain ⟨v, hv⟩ := getElem?_lt (l := ea) (k := j) (by rw [Hn2.out]; exact hlt2)
   obtain ⟨b, off, rfl, hb, hcs⟩ := HB.out.at_ (by rw [Hn2.out]; omega)
   obtain ⟨V, hV, hr⟩ := hcs j v hv
   have HRg := θ (show wp.rangeAt b (off + j * 38) V.toList from fun i u hu => cellkM hB.out (hr i u hu))
   have HVc := θ (hV.below hB.out)
   have Hdr := θ (drop_cons hv)
   have Hvm := θ (List.mem_of_getElem? hv)
   have hjI : (j : Int) < (k : Int) := by omega
   have Hpr := θ (show wp.rangeAt w.heap.size 0 (pub.map fun (n : Nat) => Value.int .u8 (n : Int)) from fun i u hu => by
    have hi : i < 32 := by have := (List.getElem?_eq_some_iff.1 hu).1; rw [List.length_map, Hd.out.1] at this; exact this
    rw [Nat.zero_add, hX.out.cell i, Hlo.out i hi, ← Array.getElem?_toList, arrK_toList]
    exact hu)
   obtain ⟨Ev, hEv⟩ := exq (Mir.verE pub many v)
   have HVq := θ (fun W h => by have := HV.out v V W Hvm.out h; rw [hEv] at this; exact this)
   have HEv := θ hEv
   clear hcs hV hr hv hEv
   have HPd := θ Hd.out
   go_upto_region 20 with fail
   refine wp_region_held_drew (S := fun W => Below wp.heap.size wp W) (by kernel_rfl) (below_drewN (Below.refl _ _) 1) (fun Hd => ?_)
   have Hd : Below wp.heap.size wp wp.drew := below_drewN (Below.refl _ _) 1
   have Zd : wp.heap.size ≤ wp.drew.heap.size := Nat.le_refl _
   generalize World.drew wp = wd at *
   refine tq 0 rfl Hd ?_
   refine tg 1 (.agg ((pub.map fun (n : Nat) => Value.int .u8 (n : Int)).toArray)) rfl (yieldsIf_load_mid (by rfl) _ _ rfl (w.heap.size) (0) rfl (pub.map fun (n : Nat) => Value.int .u8 (n : Int)) _ (fun W hW => (fun j u hu => cellkM hW (Hpr.out j u hu))) Tryz.underlying29 rfl (dV_info HPd.out.1)) Hd ?_
   try simp only [la, Act.put]
   refine tq 2 rfl Hd ?_
   refine ts 3 rfl Hd (fun wS hSw => by
    have cc := (hSw.cell (p := ⟨w.heap.size, 32, none⟩) hX.out.lt).trans ((hX.out.cell 32).trans h32)
    go_simp
    try with_reducible rfl) ?_
   try simp only [la, Act.put]
   refine tq 4 rfl Hd ?_
   refine ts 5 rfl Hd (fun wS hSw => by
    have cc := (hSw.cell (p := ⟨w.heap.size, 35, none⟩) hX.out.lt).trans ((hX.out.cell 35).trans h35)
    go_simp
    try with_reducible rfl) ?_
   try simp only [la, Act.put]
   refine tq 6 rfl Hd ?_
   refine tq 7 rfl Hd ?_
   try simp only [la, Act.put]
   refine tg 8 (.agg (V)) rfl (yieldsIf_load_mid (by rfl) _ _ rfl (b) ((off + j * 38)) rfl (V.toList) _ (fun W hW => (fun j u hu => cellkM hW (HRg.out j u hu))) Tryz.underlying34 rfl (by rw [Array.length_toList]; exact HVc.out.info)) Hd ?_
   try simp only [la, Act.put]
   refine ty 9 rfl (fun K hK => ?_)
   go_simp
   refine (HVq.out wd (HVc.out.below Hd)).mono ?_
   rintro e w1_ ⟨rfl, hb1⟩
   have Hb1 := below_of Hd hb1 Hd.size
   have Zb1 := Nat.le_trans Zd hb1.size
   go_wp2_with fail
   refine hK.out _ _ Hb1 fun _ => ?_
   clear hK K
   try simp only [la, Act.put]
   refine tq 10 rfl Hb1 ?_
   try simp only [la, Act.put]
   refine td ?_ _
   have hX6 := θ (hX.out.below Hb1)
   have hB6 := θ (bo hB Hb1)
   by_cases hE0 : Ev = 0
   · subst hE0
     go_wp2_with fail
     go_roundw
     case rel => exact ⟨j + 1, by omega, by go_num, θ (by have := hrest.out; rwa [Hdr.out, Mir.verAll_cons, HEv.out, if_neg (by simp)] at this), hX6, hB6⟩
     case measure => simp [intOf]; omega
   have dE : decide (Ev = 0) = false := by simpa using hE0
   have dE2 : (Ev != 0) = true := by simpa using hE0
   go_wp2_with fail
   go_ret
   exact ⟨by rw [← hrest.out, Hdr.out, Mir.verAll_cons, HEv.out, if_pos hE0]; rfl, hB6.out⟩
 obtain rfl : j = k := by omega
 have e0 : R = 0 := by rw [← hrest.out, ← Hn2.out, List.drop_length]; rfl
 go_wp2_with fail
 go_ret
 exact ⟨by rw [e0]; rfl, hB.out⟩
end Go.Proofs.YtkflpoiobpblhaaGreat
namespace Go.Proofs.YtkflpoiobpblhaaGreat
open Go.RowKit Go.Shelf
namespace Mir
def findI (l : List It) (s : ByteArray) : Int := match l.findIdx? (fun y => decide (y.1 = s)) with
 | some k => (k : Int)
 | none => -1
theorem findI_at {l : List It} {s : ByteArray} {k : Nat} {x : It} (hx : l[k]? = some x) (hs : x.1 = s) (h : ∀ j y, j < k → l[j]? = some y → y.1 ≠ s) : findI l s = (k : Int) := by
 have hk := (List.getElem?_eq_some_iff.1 hx).1
 have h0 : l.findIdx? (fun y => decide (y.1 = s)) = some k := by
  rw [List.findIdx?_eq_some_iff_getElem]
  refine ⟨hk, by rw [(List.getElem?_eq_some_iff.1 hx).2]; simpa using hs, fun j hj => ?_⟩
  have := h j l[j] hj (List.getElem?_eq_getElem (by omega))
  simpa using this
 unfold findI
 rw [h0]
theorem findI_no {l : List It} {s : ByteArray} (h : ∀ j y, j < l.length → l[j]? = some y → y.1 ≠ s) : findI l s = -1 := by
 have h0 : l.findIdx? (fun y => decide (y.1 = s)) = none := by
  rw [List.findIdx?_eq_none_iff]
  intro y hy
  obtain ⟨j, hj, rfl⟩ := List.getElem_of_mem hy
  have := h j l[j] hj (List.getElem?_eq_getElem hj)
  simpa using this
 unfold findI
 rw [h0]
theorem findI_cases (l : List It) (s : ByteArray) : (findI l s = -1 ∧ l.find? (fun y => decide (y.1 = s)) = none) ∨ ∃ (k : Nat) (y : It), findI l s = (k : Int) ∧ l[k]? = some y ∧ y.1 = s ∧ l.find? (fun y => decide (y.1 = s)) = some y := by
 cases h : l.findIdx? (fun y => decide (y.1 = s)) with
 | none =>
   refine .inl ⟨by unfold findI; rw [h], ?_⟩
   rw [List.find?_eq_none]
   rw [List.findIdx?_eq_none_iff] at h
   intro y hy
   have := h y hy
   simpa using this
 | some k =>
   have h1 := h
   rw [List.findIdx?_eq_some_iff_getElem] at h1
   obtain ⟨hk, hp, hj⟩ := h1
   refine .inr ⟨k, l[k], by unfold findI; rw [h], List.getElem?_eq_getElem hk, by simpa using hp, ?_⟩
   rw [List.find?_eq_some_iff_getElem]
   exact ⟨hp, k, hk, rfl, fun j hjk => by have := hj j hjk; simpa using this⟩
def hasI (l : List It) (x : It) : Bool := match l.find? (fun y => decide (y.1 = x.1)) with
 | none => false
 | some y => decide (y.2 = x.2)
theorem okC_has (a : List It) (x : Ch) (h : ¬(x.2 = true ∧ x.1.2 ≠ [])) : okC a x = !((x.2 && decide (findI a x.1.1 < 0)) || (!x.2 && hasI a x.1)) := by
 unfold okC hasI
 rcases findI_cases a x.1.1 with ⟨h1, h2⟩ | ⟨k, y, h1, h2, h3, h4⟩
 · rw [h1, h2]; cases x.2 <;> simp
 · rw [h1, h4]
   have hk : decide (((k : Int)) < 0) = false := decide_eq_false (by omega)
   rw [hk]
   cases hx : x.2 with
   | true =>
     have : x.1.2 = [] := by
      by_cases h0 : x.1.2 = []
      · exact h0
      exact absurd ⟨hx, h0⟩ h
     simp [this]
   | false =>
     have : itEq y x.1 = decide (y.2 = x.1.2) := by unfold itEq; rw [decide_eq_true h3, Bool.true_and]
     simp [this]
end Mir
theorem rfind_any (A : Option Addr) (n c : Nat) (l : List Mir.It) (s : ByteArray) (w : World) (hl : l.length = n) (hn : n ≤ 9223372036854775807) (hC : ItemsC w A l) :
    Calls Tryz.prog 112 #[.slice A n c, .string s] w fun e w' => e = .returned (.int .i64 (Mir.findI l s)) ∧ w' = w := by
 have HC := θ hC
 have Hl := θ hl
 obtain ⟨R, hR⟩ := exq (Mir.findI l s)
 have HR := θ hR
 rw [hR]
 clear hC hl hR
 go_enter Tryz.func112, Tryz.ntmps112
 go_wp2_with fail
 go_loopw [5] (fun i wr => ∃ k : Nat, k ≤ n ∧ i = .int .i64 k ∧ wr = w ∧ Hid (∀ j y, j < k → l[j]? = some y → y.1 ≠ s)) (fun i _ => n - (intOf i).toNat)
 case atStart => exact ⟨0, by omega, rfl, rfl, θ (fun j x h => by omega)⟩
 obtain ⟨k, hk, rfl, rfl, hg⟩ := hrel
 by_cases hlt : k < n
 · obtain ⟨⟨s1, dat⟩, hx⟩ := getElem?_lt (l := l) (k := k) (by rw [Hl.out]; exact hlt)
   obtain ⟨b, off, rfl, hb, hcs⟩ := HC.out.at_ (by rw [Hl.out]; omega)
   obtain ⟨D, cd, hc1, hc2, -⟩ := hcs _ _ hx
   simp only [] at hc1 hc2
   have Hx := θ hx
   have gN := name_eq s1 s
   clear hcs hx hc2
   by_cases hs : s1 = s
   · rw [decide_eq_true hs] at gN
     have Hs := θ hs
     clear hs
     go_wp2_with fail
     go_ret
     exact ⟨by rw [← HR.out, Mir.findI_at Hx.out Hs.out hg.out]; rfl, rfl⟩
   rw [decide_eq_false hs] at gN
   have Hs := θ hs
   clear hs
   go_wp2_with fail
   go_roundw
   case rel => exact ⟨k + 1, by omega, by go_num, by first | rfl | trivial, θ (fun j x hj hx => by
    rcases Nat.lt_or_eq_of_le (Nat.le_of_lt_succ hj) with h | rfl
    · exact hg.out j x h hx
    · rw [Hx.out] at hx; cases hx
      exact Hs.out)⟩
   case measure => simp [intOf]; omega
 obtain rfl : k = n := by omega
 go_wp2_with fail
 go_ret
 exact ⟨by rw [← HR.out, Mir.findI_no (fun j x hj hx => hg.out j x (by rw [← Hl.out]; exact hj) hx)]; rfl, rfl⟩
theorem rhas_any (A : Option Addr) (n c : Nat) (l : List Mir.It) (s : ByteArray) (E : Option Addr) (m d : Nat) (dat : List Nat) (w : World) (hl : l.length = n) (hn : n ≤ 1000000) (hC : ItemsC w A l) (hm : dat.length = m) (hD : Cells w E (Mir.bytesI dat)) (h8 : ∀ b ∈ dat, b < 256) (hmd : m ≤ d) (hd : d ≤ maxLen) :
    Calls Tryz.prog 113 #[.slice A n c, .agg #[.string s, .slice E m d]] w fun e w' => e = .returned (.bool (Mir.hasI l (s, dat))) ∧ Below w.heap.size w w' := by
 have HC := θ hC
 have Hl := θ hl
 have HD := θ hD
 have Hm := θ hm
 have HF := θ (fun W h => rfind_any A n c l s W hl (by omega) h)
 obtain ⟨R, hR⟩ := exq (Mir.hasI l (s, dat))
 have HR := θ hR
 rw [hR]
 have hcs := Mir.findI_cases l s
 obtain ⟨ix, hix⟩ := exq (Mir.findI l s)
 rw [hix] at HF hcs
 have Hcs := θ hcs
 clear hC hl hR hD hm hcs hix
 rcases Hcs.out with ⟨rfl, hno⟩ | ⟨k, ⟨s1, dat1⟩, rfl, hx, hs, hf⟩
 · have hr : R = false := by rw [← HR.out]; unfold Mir.hasI; rw [hno]
   subst hr
   clear HR Hcs hno
   go_enter Tryz.func113, Tryz.ntmps113
   go_upto_region 1 with fail
   generalize hge : World.alloc _ _ = w1
   have HX := θ (show Blk w1 w.heap.size 61 #[.string s, .slice E m d] by subst hge; exact Blk.new _ _ _)
   have HB := θ (al1 hge)
   clear hge
   have q0 := HX.out.cellv (i := 0) rfl
   have q1 := HX.out.cellv (i := 1) rfl
   go_wp2_with fail
   refine (HF.out w1 (HC.out.below HB.out)).mono ?_
   rintro e w2 ⟨rfl, hw⟩
   rw [hw]
   clear hw w2
   clear q0 q1
   go_upto_region 2 with fail
   refine wp_region_held_drew (S := fun W => Below w1.heap.size w1 W) (by kernel_rfl) (below_drewN (Below.refl _ _) 1) (fun Hd => ?_)
   have Hd : Below w1.heap.size w1 w1.drew := below_drewN (Below.refl _ _) 1
   have Zd : w1.heap.size ≤ w1.drew.heap.size := Nat.le_refl _
   generalize World.drew w1 = wd at *
   refine tq 0 rfl Hd ?_
   refine tq 1 rfl Hd ?_
   try simp only [la, Act.put]
   refine tq 2 rfl Hd ?_
   refine tn 3 rfl Hd ?_
   try simp only [la, Act.put]
   refine tn 4 rfl Hd ?_
   refine tn 5 rfl Hd ?_
   try simp only [la, Act.put]
   refine tn 6 rfl Hd ?_
   refine tn 7 rfl Hd ?_
   try simp only [la, Act.put]
   refine tn 8 rfl Hd ?_
   refine tn 9 rfl Hd ?_
   try simp only [la, Act.put]
   refine tn 10 rfl Hd ?_
   refine tn 11 rfl Hd ?_
   try simp only [la, Act.put]
   refine tn 12 rfl Hd ?_
   refine tq 13 rfl Hd ?_
   try simp only [la, Act.put]
   refine tq 14 rfl Hd ?_
   try simp only [la, Act.put]
   refine td ?_ _
   go_wp2_with fail
   go_ret
   exact ⟨rfl, bo HB Hd⟩
 have hlt : k < n := by have := (List.getElem?_eq_some_iff.1 hx).1; rw [Hl.out] at this; exact this
 have hkI : (k : Int) < (n : Int) := by omega
 have hk0 : decide ((k : Int) ≥ 0) = true := by simp
 have hk0' : decide ((0 : Int) ≤ (k : Int)) = true := by simp
 obtain ⟨b, off, rfl, hb, hcs⟩ := HC.out.at_ (by rw [Hl.out]; omega)
 obtain ⟨D1, e1, x0, x1, -, -, hD1, h81⟩ := hcs _ _ hx
 simp only [] at x0 x1 hD1 h81
 have HD1 := θ hD1
 have Hse := θ (str_eq h81 h8)
 obtain ⟨S1, hS1⟩ := exq (strOfNums (dat1.map Int.ofNat))
 obtain ⟨S2, hS2⟩ := exq (strOfNums (dat.map Int.ofNat))
 rw [hS1, hS2] at Hse
 have HS1 := θ hS1
 have HS2 := θ hS2
 obtain ⟨m1, hm1⟩ := exq dat1.length
 rw [hm1] at x1
 have Hm1 := θ hm1
 have hr : R = decide (dat1 = dat) := by rw [← HR.out]; unfold Mir.hasI; rw [hf]
 have gD : (S1.toList == S2.toList) = R := by rw [hr, Hse.out]
 have Hb := θ hb
 clear HR Hcs hx hs hf hcs hD1 h81 hS1 hS2 hm1 hr Hse x0 h8
 go_enter Tryz.func113, Tryz.ntmps113
 go_upto_region 1 with fail
 generalize hge : World.alloc _ _ = w1
 have HX := θ (show Blk w1 w.heap.size 61 #[.string s, .slice E m d] by subst hge; exact Blk.new _ _ _)
 have HB := θ (al1 hge)
 clear hge
 have q0 := HX.out.cellv (i := 0) rfl
 have q1 := HX.out.cellv (i := 1) rfl
 go_wp2_with fail
 refine (HF.out w1 (HC.out.below HB.out)).mono ?_
 rintro e w2 ⟨rfl, hw⟩
 rw [hw]
 clear hw w2
 clear q0 q1
 go_upto_region 2 with fail
 refine wp_region_held_drew (S := fun W => Below w1.heap.size w1 W) (by kernel_rfl) (below_drewN (Below.refl _ _) 1) (fun Hd => ?_)
 have Hd : Below w1.heap.size w1 w1.drew := below_drewN (Below.refl _ _) 1
 have Zd : w1.heap.size ≤ w1.drew.heap.size := Nat.le_refl _
 generalize World.drew w1 = wd at *
 refine tq 0 rfl Hd ?_
 try simp only [la, Act.put]
 refine tq 1 rfl Hd ?_
 refine tq 2 rfl Hd ?_
 try simp only [la, Act.put]
 refine tq 3 rfl Hd ?_
 refine tq 4 rfl Hd ?_
 try simp only [la, Act.put]
 refine tq 5 rfl Hd ?_
 refine tq 6 rfl Hd ?_
 try simp only [la, Act.put]
 refine ts 7 rfl Hd (fun wS hSw => by
  have cc := (hSw.cell (p := ⟨b, off + k * 2 + 1, none⟩) (Nat.lt_of_lt_of_le Hb.out HB.out.size)).trans ((HB.out.cell (p := ⟨b, off + k * 2 + 1, none⟩) Hb.out).trans x1)
  go_simp
  try with_reducible rfl) ?_
 refine ts 8 rfl Hd (fun wS hSw => by
  have cv : (convert 22 9 (.slice D1 m1 e1)).run Tryz.prog wS = .ok (.string S1) wS := by
   have := (bytesIn_of ((HD1.out.below HB.out).below hSw)).convert (P := Tryz.prog) (by simp) e1 22 5 9 Tryz.underlying22 Tryz.underlying5 Tryz.underlying9
   rw [HS1.out, Hm1.out] at this
   exact this
  go_simp
  try with_reducible rfl) ?_
 try simp only [la, Act.put]
 refine tq 9 rfl Hd ?_
 refine ts 10 rfl Hd (fun wS hSw => by
  have q1 := Blk.cellv (HX.out.below hSw) (i := 1) rfl
  go_simp
  try with_reducible rfl) ?_
 try simp only [la, Act.put]
 refine ts 11 rfl Hd (fun wS hSw => by
  have cv : (convert 22 9 (.slice E m d)).run Tryz.prog wS = .ok (.string S2) wS := by
   have := (bytesIn_of ((HD.out.below HB.out).below hSw)).convert (P := Tryz.prog) (by simp) d 22 5 9 Tryz.underlying22 Tryz.underlying5 Tryz.underlying9
   rw [HS2.out, Hm.out] at this
   exact this
  go_simp
  try with_reducible rfl) ?_
 refine tq 12 rfl Hd ?_
 try simp only [la, Act.put]
 refine tq 13 rfl Hd ?_
 refine tq 14 rfl Hd ?_
 try simp only [la, Act.put]
 refine td ?_ _
 go_wp2_with fail
 go_ret
 exact ⟨rfl, bo HB Hd⟩
theorem cells_cutG {w : World} {B : Option Addr} {cs : List Value} {k cb sz : Nat} (h : Cells w B cs) (hl : cs.length ≤ cb * sz) : Cells w (if cb = k then B else Option.map (fun x => x.add (k * sz)) B) (cs.drop (k * sz)) := by
 by_cases hc : cb = k
 · rw [List.drop_eq_nil_of_le (by rw [← hc]; exact hl)]
   exact Cells.nil_ _ _
 rw [if_neg hc]
 by_cases h0 : cs = []
 · subst h0
   rw [List.drop_nil]
   exact Cells.nil_ _ _
 obtain ⟨b, off, rfl, -, -⟩ := Cells.addr h (List.length_pos_iff.2 h0)
 have := h.drop_ (k * sz)
 simpa [Addr.add_mid] using this
theorem own_lower {w : World} {base base' : Nat} {e : TypeId} {size : Nat} {v : Value} {n : Nat} {xs : List Value} (h : w.ownsRow base e size v n xs) (hb : base' ≤ base) : w.ownsRow base' e size v n xs :=
 ⟨h.1, h.2.imp id fun ⟨g, cap, cur, a, b, r⟩ => ⟨g, cap, cur, a, Nat.le_trans hb b, r⟩⟩
theorem apart_lit2 {g b n c : Nat} (h : b < g) : Apart (.slice (some ⟨g, 0, none⟩) n c) b := by
 intro e
 simp [Value.ownBlock] at e
 omega
theorem itZ_take (zs : List Mir.Zi) (k : Nat) : (itZ zs).take (k * 2) = itZ (zs.take k) := by
 rcases Nat.lt_or_ge k zs.length with h | h
 · have := itZ_append (zs.take k) (zs.drop k)
   rw [List.take_append_drop] at this
   rw [this, List.take_append_of_le_length (by rw [itZ_length, List.length_take]; omega), List.take_of_length_le (by rw [itZ_length, List.length_take]; omega)]
 rw [List.take_of_length_le (by rw [itZ_length]; omega), List.take_of_length_le h]
theorem itZ_drop (zs : List Mir.Zi) (k : Nat) : (itZ zs).drop (k * 2) = itZ (zs.drop k) := by
 rcases Nat.lt_or_ge k zs.length with h | h
 · have := itZ_append (zs.take k) (zs.drop k)
   rw [List.take_append_drop] at this
   rw [this, List.drop_append_of_le_length (by rw [itZ_length, List.length_take]; omega), show (itZ (zs.take k)).drop (k * 2) = [] from List.drop_eq_nil_of_le (by rw [itZ_length, List.length_take]; omega), List.nil_append]
 rw [List.drop_eq_nil_of_le (by rw [itZ_length]; omega), List.drop_eq_nil_of_le h]; rfl
theorem itZ_one : ∀ (zs : List Mir.Zi), ∀ u ∈ itZ zs, u.oneCell' = true
 | [], u, h => by simp [itZ] at h
 | z :: zs, u, h => by
   simp [itZ] at h
   rcases h with rfl | rfl | h
   · rfl
   · rfl
   exact itZ_one zs u h
theorem rwith_any (A : Option Addr) (n c : Nat) (zs : List Mir.Zi) (s : ByteArray) (D : Option Addr) (m d : Nat) (w : World) (hl : zs.length = n) (hn : n ≤ 2000000) (hnc : n ≤ c) (hcm : c ≤ maxLen) (hA : Cells w A (itZ zs)) :
    Calls Tryz.prog 114 #[.slice A n c, .agg #[.string s, .slice D m d]] w fun e w' => ∃ (k : Nat) (A' : Option Addr) (c' : Nat), e = .returned (.slice A' (n + 1) c') ∧ k ≤ n ∧ (∀ j y, j < k → zs[j]? = some y → Mir.nlt y.1.1 s = true) ∧ (∀ y, zs[k]? = some y → Mir.nlt y.1.1 s = false) ∧
     w'.ownsRow w.heap.size 61 2 (.slice A' (n + 1) c') (n + 1) (itZ (zs.take k) ++ [.string s, .slice D m d] ++ itZ (zs.drop k)) ∧ Below w.heap.size w w' := by
 have HA := θ hA
 have Hl := θ hl
 have Hc := θ (And.intro hnc hcm)
 clear hA hl hcm
 go_enter Tryz.func114, Tryz.ntmps114
 go_upto_region 1 with fail
 generalize hge : World.alloc _ _ = w1
 have HX := θ (show Blk w1 w.heap.size 61 #[.string s, .slice D m d] by subst hge; exact Blk.new _ _ _)
 have HB := θ (al1 hge)
 clear hge
 go_upto_block 0 with fail
 go_cut [5] (fun s5 wx => ∃ k : Nat, k ≤ n ∧ s5 = .int .i64 k ∧ Hid (Below w.heap.size w wx) ∧ Hid (Blk wx w.heap.size 61 #[.string s, .slice D m d]) ∧ Hid (∀ j y, j < k → zs[j]? = some y → Mir.nlt y.1.1 s = true) ∧ Hid (∀ y, zs[k]? = some y → Mir.nlt y.1.1 s = false))
 case first =>
  go_wp2_with fail
  go_loopw [5] (fun i wr => ∃ k : Nat, k ≤ n ∧ i = .int .i64 k ∧ Hid (Below w.heap.size w wr) ∧ Hid (Blk wr w.heap.size 61 #[.string s, .slice D m d]) ∧ Hid (∀ j y, j < k → zs[j]? = some y → Mir.nlt y.1.1 s = true)) (fun i _ => n - (intOf i).toNat)
  case atStart => exact ⟨0, by omega, rfl, HB.out, HX.out, θ (fun j x h => by omega)⟩
  obtain ⟨wk, rfl⟩ : ∃ v : World, v = wr := ⟨_, rfl⟩
  obtain ⟨k, hk, rfl, HBk, HXk, hg⟩ := hrel
  by_cases hlt : k < n
  · obtain ⟨⟨⟨s1, d1⟩, e1⟩, hz⟩ := getElem?_lt (l := zs) (k := k) (by rw [Hl.out]; exact hlt)
    obtain ⟨b, off, rfl, hb, hcs⟩ := Cells.addr HA.out (by rw [itZ_length, Hl.out]; omega)
    have x0 := (HBk.out.cell (p := ⟨b, off + k * 2, none⟩) hb).trans (hcs _ _ (itZ_get zs k _ hz).1)
    simp only [] at x0
    have q0 := HXk.out.cellv (i := 0) rfl
    have Hz := θ hz
    obtain ⟨q, hq⟩ := exq (Op.bytesLess s1.toList s.toList)
    have Hq := θ (show Mir.nlt s1 s = q from hq)
    have hkI : (k : Int) < (n : Int) := by omega
    clear hcs hz
    cases q with
    | false =>
      go_upto_region 2 with fail
      go_quiet (fail)
      go_wp2_with fail
      go_meet
      exact ⟨k, hk, rfl, below_drewN HBk.out _, HXk.out, hg, θ (fun y hy => by rw [Hz.out] at hy; cases hy; exact Hq.out)⟩
    | true =>
      go_upto_region 2 with fail
      go_quiet (fail)
      go_wp2_with fail
      go_roundw
      case rel => exact ⟨k + 1, by omega, by go_num, below_drewN HBk.out _, HXk.out, θ (fun j y hj hy => by
       rcases Nat.lt_or_eq_of_le (Nat.le_of_lt_succ hj) with h | rfl
       · exact hg.out j y h hy
       · rw [Hz.out] at hy; cases hy
         exact Hq.out)⟩
      case measure => simp [intOf]; omega
  obtain rfl : k = n := by omega
  go_upto_region 2 with fail
  go_quiet (fail)
  go_wp2_with fail
  go_meet
  exact ⟨k, hk, rfl, below_drewN HBk.out _, HXk.out, hg, θ (fun y hy => by have := (List.getElem?_eq_some_iff.1 hy).1; rw [Hl.out] at this; omega)⟩
 obtain ⟨k, hk, rfl, HBk, HXk, hg, hl⟩ := hcut
 have Hg := θ (And.intro hg.out hl.out)
 clear hg hl HX HB
 have hkI : (k : Int) ≤ (c : Int) := by have := Hc.out.1; omega
 have hkI2 : (k : Int) ≤ (n : Int) := by omega
 have hkc : k ≤ c := by omega
 obtain ⟨XA, hXA⟩ := exq ((if c = k then A else Option.map (fun x => x.add (k * 2)) A))
 have C1 := θ (show Cells w A (itZ (zs.take k)) by rw [← itZ_take]; exact HA.out.take_ _)
 have C3 := θ (show Cells w XA (itZ (zs.drop k)) by rw [← itZ_drop, ← hXA]; exact cells_cutG HA.out (by rw [itZ_length, Hl.out]; omega))
 have L1 := θ (show (itZ (zs.take k)).length = k * 2 by rw [itZ_length, List.length_take, Hl.out]; omega)
 have L3 := θ (show (itZ (zs.drop k)).length = (n - k) * 2 by rw [itZ_length, List.length_drop, Hl.out])
 have O1 := θ (itZ_one (zs.take k))
 have O3 := θ (itZ_one (zs.drop k))
 obtain ⟨z1, hz1⟩ := exq (itZ (zs.take k))
 obtain ⟨z3, hz3⟩ := exq (itZ (zs.drop k))
 rw [hz1] at C1 L1 O1
 rw [hz3] at C3 L3 O3
 have Hz1 := θ hz1
 have Hz3 := θ hz3
 clear hz1 hz3
 go_upto_region 4 with fail
 refine wp_region_held_drew (S := fun W => Below wc.heap.size wc W) (by kernel_rfl) (below_drewN (Below.refl _ _) 1) (fun Hd => ?_)
 have Hd : Below wc.heap.size wc wc.drew := below_drewN (Below.refl _ _) 1
 have Zd : wc.heap.size ≤ wc.drew.heap.size := Nat.le_refl _
 generalize World.drew wc = wd at *
 refine tq 1 rfl Hd ?_
 refine tq 2 rfl Hd ?_
 try simp only [la, Act.put]
 refine tq 3 rfl Hd ?_
 refine ts 5 rfl Hd (fun wS hSw => by
  have q0 := Blk.cellv (HXk.out.below hSw) (i := 0) rfl
  have q1 := Blk.cellv (HXk.out.below hSw) (i := 1) rfl
  go_simp
  try with_reducible rfl) ?_
 try simp only [la, Act.put]
 refine tq 8 rfl Hd ?_
 refine tq 9 rfl Hd ?_
 try simp only [la, Act.put]
 refine tq 10 rfl Hd ?_
 try simp only [la, Act.put]
 refine tz 0 6 rfl rfl (fun K hK => ?_) (fun K hK => ?_)
 · go_simp
   generalize hge : World.alloc _ _ = w1_
   have fo1 : w1_.ownsRow (wc.heap.size) 61 2 (.slice (some ⟨wd.heap.size, 0, none⟩) 0 0) 0 [] := by subst hge; exact World.ownsRow_lit (size := 2) wd #[] 0 Zd (Nat.zero_le _) rfl
   have hb1 := al1 hge
   clear hge
   have Hb1 := below_of Hd hb1 Hd.size
   have Zb1 := Nat.le_trans Zd hb1.size
   refine hK.out _ _ Hb1 fun _ => ?_
   clear hK K
   try simp only [la, Act.put]
   refine tz 4 6 rfl rfl (fun K hK => ?_) (fun K hK => ?_)
   · refine step_append_cells (by rfl) (.tmp 22) (.tmp 25) 26 (by rfl) (wc.heap.size) 61 (.agg #[.string ⟨#[]⟩, .slice none 0 0]) 2 40 (by kernel_rfl) (by kernel_rfl) rfl (by omega) (.slice (some ⟨wd.heap.size, 0, none⟩) 0 0) (0) (([] : List Value)) fo1 (by rfl) A (k) (c) (z1) (by rfl) L1.out (C1.out.below (bo HBk Hb1)) (O1.out) (by unfold maxLen; omega) (by omega) Zb1 ?_
     intro v2 w2_ fo2 hg2 st2
     have Hb2 := below_grown Hb1 hg2 Hb1.size (own_base fo1)
     have Zb2 := Nat.le_trans Zb1 hg2.size
     obtain ⟨A2, c2, rfl, le2, lm2, -⟩ := own_form fo2
     rw [Nat.zero_add] at fo2 le2 
     simp only [Nat.zero_add]
     refine hK.out _ _ Hb2 fun _ => ?_
     clear hK K
     try simp only [la, Act.put]
     refine ty 6 rfl (fun K hK => ?_)
     go_simp
     generalize hge : World.alloc _ _ = w3_
     have fb3 : Blk w3_ w2_.heap.size 61 (#[.string s, .slice D m d]) := by subst hge; exact Blk.new _ _ _
     have hb3 := al1 hge
     clear hge
     have fo3 := own_below fo2 hb3
     have apob3 := apart_new fo2
     have lob3 : wc.heap.size ≤ w2_.heap.size := Zb2
     have Hb3 := below_of Hb2 hb3 Hb2.size
     have Zb3 := Nat.le_trans Zb2 hb3.size
     refine hK.out _ _ Hb3 fun _ => ?_
     clear hK K
     try simp only [la, Act.put]
     refine ty 7 rfl (fun K hK => ?_)
     refine step_append_cells (by rfl) (.tmp 26) (.tmp 28) 26 (by rfl) (wc.heap.size) 61 (.agg #[.string ⟨#[]⟩, .slice none 0 0]) 2 40 (by kernel_rfl) (by kernel_rfl) rfl (by omega) (.slice A2 (k) c2) (k) ((([] : List Value) ++ z1)) fo3 (by rfl) (some ⟨w2_.heap.size, 0, none⟩) (1) (1) ([.string s, .slice D m d]) (by rfl) rfl (cells_blk fb3) (by simp [Value.oneCell']) (by unfold maxLen; omega) (by omega) Zb3 ?_
     intro v4 w4_ fo4 hg4 st4
     have apob4 := apart_sits st4 apob3 fb3.lt
     have fb4 := fb3.grown hg4 (fun e => apob3 e.symm)
     have Hb4 := below_grown Hb3 hg4 Hb3.size (own_base fo3)
     have Zb4 := Nat.le_trans Zb3 hg4.size
     obtain ⟨A4, c4, rfl, le4, lm4, -⟩ := own_form fo4
     refine hK.out _ _ Hb4 fun _ => ?_
     clear hK K
     try simp only [la, Act.put]
     refine ty 11 rfl (fun K hK => ?_)
     refine step_append_cells (by rfl) (.tmp 29) (.tmp 32) 26 (by rfl) (wc.heap.size) 61 (.agg #[.string ⟨#[]⟩, .slice none 0 0]) 2 40 (by kernel_rfl) (by kernel_rfl) rfl (by omega) (.slice A4 (k + 1) c4) (k + 1) (((([] : List Value) ++ z1) ++ [.string s, .slice D m d])) fo4 (by rfl) XA (n - k) (c - k) (z3) (by rfl) L3.out (C3.out.below (bo HBk Hb4)) (O3.out) (by unfold maxLen; omega) (by omega) Zb4 ?_
     intro v5 w5_ fo5 hg5 st5
     have apob5 := apart_sits st5 apob4 fb4.lt
     have fb5 := fb4.grown hg5 (fun e => apob4 e.symm)
     have Hb5 := below_grown Hb4 hg5 Hb4.size (own_base fo4)
     have Zb5 := Nat.le_trans Zb4 hg5.size
     obtain ⟨A5, c5, rfl, le5, lm5, -⟩ := own_form fo5
     refine hK.out _ _ Hb5 fun _ => ?_
     clear hK K
     try simp only [la, Act.put]
     refine tq 12 rfl Hb5 ?_
     try simp only [la, Act.put]
     refine td ?_ _
     go_wp2_with fail
     go_ret
     exact ⟨k, A5, c5, (show Ending.returned (.slice A5 (k + 1 + (n - k)) c5) = _ by rw [show k + 1 + (n - k) = n + 1 by omega]), hk, Hg.out.1, Hg.out.2, (show World.ownsRow _ _ _ _ _ _ _ by rw [Hz1.out, Hz3.out]; have := own_lower fo5 (show w.heap.size ≤ _ from HBk.out.size); rwa [show k + 1 + (n - k) = n + 1 by omega] at this), bo HBk Hb5⟩
   go_simp
   generalize hge : World.alloc _ _ = w2_
   have fb2 : Blk w2_ w1_.heap.size 61 (#[.string s, .slice D m d]) := by subst hge; exact Blk.new _ _ _
   have hb2 := al1 hge
   clear hge
   have fo2 := own_below fo1 hb2
   have apob2 := apart_new fo1
   have lob2 : wc.heap.size ≤ w1_.heap.size := Zb1
   have Hb2 := below_of Hb1 hb2 Hb1.size
   have Zb2 := Nat.le_trans Zb1 hb2.size
   refine hK.out _ _ Hb2 fun _ => ?_
   clear hK K
   try simp only [la, Act.put]
   refine ty 4 rfl (fun K hK => ?_)
   refine step_append_cells (by rfl) (.tmp 22) (.tmp 25) 26 (by rfl) (wc.heap.size) 61 (.agg #[.string ⟨#[]⟩, .slice none 0 0]) 2 40 (by kernel_rfl) (by kernel_rfl) rfl (by omega) (.slice (some ⟨wd.heap.size, 0, none⟩) 0 0) (0) (([] : List Value)) fo2 (by rfl) A (k) (c) (z1) (by rfl) L1.out (C1.out.below (bo HBk Hb2)) (O1.out) (by unfold maxLen; omega) (by omega) Zb2 ?_
   intro v3 w3_ fo3 hg3 st3
   have apob3 := apart_sits st3 apob2 fb2.lt
   have fb3 := fb2.grown hg3 (fun e => apob2 e.symm)
   have Hb3 := below_grown Hb2 hg3 Hb2.size (own_base fo2)
   have Zb3 := Nat.le_trans Zb2 hg3.size
   obtain ⟨A3, c3, rfl, le3, lm3, -⟩ := own_form fo3
   rw [Nat.zero_add] at fo3 le3 apob3
   simp only [Nat.zero_add]
   refine hK.out _ _ Hb3 fun _ => ?_
   clear hK K
   try simp only [la, Act.put]
   refine ty 7 rfl (fun K hK => ?_)
   refine step_append_cells (by rfl) (.tmp 26) (.tmp 28) 26 (by rfl) (wc.heap.size) 61 (.agg #[.string ⟨#[]⟩, .slice none 0 0]) 2 40 (by kernel_rfl) (by kernel_rfl) rfl (by omega) (.slice A3 (k) c3) (k) ((([] : List Value) ++ z1)) fo3 (by rfl) (some ⟨w1_.heap.size, 0, none⟩) (1) (1) ([.string s, .slice D m d]) (by rfl) rfl (cells_blk fb3) (by simp [Value.oneCell']) (by unfold maxLen; omega) (by omega) Zb3 ?_
   intro v4 w4_ fo4 hg4 st4
   have apob4 := apart_sits st4 apob3 fb3.lt
   have fb4 := fb3.grown hg4 (fun e => apob3 e.symm)
   have Hb4 := below_grown Hb3 hg4 Hb3.size (own_base fo3)
   have Zb4 := Nat.le_trans Zb3 hg4.size
   obtain ⟨A4, c4, rfl, le4, lm4, -⟩ := own_form fo4
   refine hK.out _ _ Hb4 fun _ => ?_
   clear hK K
   try simp only [la, Act.put]
   refine ty 11 rfl (fun K hK => ?_)
   refine step_append_cells (by rfl) (.tmp 29) (.tmp 32) 26 (by rfl) (wc.heap.size) 61 (.agg #[.string ⟨#[]⟩, .slice none 0 0]) 2 40 (by kernel_rfl) (by kernel_rfl) rfl (by omega) (.slice A4 (k + 1) c4) (k + 1) (((([] : List Value) ++ z1) ++ [.string s, .slice D m d])) fo4 (by rfl) XA (n - k) (c - k) (z3) (by rfl) L3.out (C3.out.below (bo HBk Hb4)) (O3.out) (by unfold maxLen; omega) (by omega) Zb4 ?_
   intro v5 w5_ fo5 hg5 st5
   have apob5 := apart_sits st5 apob4 fb4.lt
   have fb5 := fb4.grown hg5 (fun e => apob4 e.symm)
   have Hb5 := below_grown Hb4 hg5 Hb4.size (own_base fo4)
   have Zb5 := Nat.le_trans Zb4 hg5.size
   obtain ⟨A5, c5, rfl, le5, lm5, -⟩ := own_form fo5
   refine hK.out _ _ Hb5 fun _ => ?_
   clear hK K
   refine tq 12 rfl Hb5 ?_
   try simp only [la, Act.put]
   refine td ?_ _
   go_wp2_with fail
   go_ret
   exact ⟨k, A5, c5, (show Ending.returned (.slice A5 (k + 1 + (n - k)) c5) = _ by rw [show k + 1 + (n - k) = n + 1 by omega]), hk, Hg.out.1, Hg.out.2, (show World.ownsRow _ _ _ _ _ _ _ by rw [Hz1.out, Hz3.out]; have := own_lower fo5 (show w.heap.size ≤ _ from HBk.out.size); rwa [show k + 1 + (n - k) = n + 1 by omega] at this), bo HBk Hb5⟩
 go_simp
 generalize hge : World.alloc _ _ = w1_
 have fb1 : Blk w1_ wd.heap.size 61 (#[.string s, .slice D m d]) := by subst hge; exact Blk.new _ _ _
 have hb1 := al1 hge
 clear hge
 have lob1 : wc.heap.size ≤ wd.heap.size := Zd
 have Hb1 := below_of Hd hb1 Hd.size
 have Zb1 := Nat.le_trans Zd hb1.size
 refine hK.out _ _ Hb1 fun _ => ?_
 clear hK K
 try simp only [la, Act.put]
 refine ty 0 rfl (fun K hK => ?_)
 go_simp
 generalize hge : World.alloc _ _ = w2_
 have fo2 : w2_.ownsRow (wc.heap.size) 61 2 (.slice (some ⟨w1_.heap.size, 0, none⟩) 0 0) 0 [] := by subst hge; exact World.ownsRow_lit (size := 2) w1_ #[] 0 Zb1 (Nat.zero_le _) rfl
 have hb2 := al1 hge
 clear hge
 have fb2 := fb1.below hb2
 have apob2 : Apart (.slice (some ⟨w1_.heap.size, 0, none⟩) 0 0) (wd.heap.size) := apart_lit2 fb1.lt
 have Hb2 := below_of Hb1 hb2 Hb1.size
 have Zb2 := Nat.le_trans Zb1 hb2.size
 refine hK.out _ _ Hb2 fun _ => ?_
 clear hK K
 try simp only [la, Act.put]
 refine ty 4 rfl (fun K hK => ?_)
 refine step_append_cells (by rfl) (.tmp 22) (.tmp 25) 26 (by rfl) (wc.heap.size) 61 (.agg #[.string ⟨#[]⟩, .slice none 0 0]) 2 40 (by kernel_rfl) (by kernel_rfl) rfl (by omega) (.slice (some ⟨w1_.heap.size, 0, none⟩) 0 0) (0) (([] : List Value)) fo2 (by rfl) A (k) (c) (z1) (by rfl) L1.out (C1.out.below (bo HBk Hb2)) (O1.out) (by unfold maxLen; omega) (by omega) Zb2 ?_
 intro v3 w3_ fo3 hg3 st3
 have apob3 := apart_sits st3 apob2 fb2.lt
 have fb3 := fb2.grown hg3 (fun e => apob2 e.symm)
 have Hb3 := below_grown Hb2 hg3 Hb2.size (own_base fo2)
 have Zb3 := Nat.le_trans Zb2 hg3.size
 obtain ⟨A3, c3, rfl, le3, lm3, -⟩ := own_form fo3
 rw [Nat.zero_add] at fo3 le3 apob3
 simp only [Nat.zero_add]
 refine hK.out _ _ Hb3 fun _ => ?_
 clear hK K
 try simp only [la, Act.put]
 refine ty 7 rfl (fun K hK => ?_)
 refine step_append_cells (by rfl) (.tmp 26) (.tmp 28) 26 (by rfl) (wc.heap.size) 61 (.agg #[.string ⟨#[]⟩, .slice none 0 0]) 2 40 (by kernel_rfl) (by kernel_rfl) rfl (by omega) (.slice A3 (k) c3) (k) ((([] : List Value) ++ z1)) fo3 (by rfl) (some ⟨wd.heap.size, 0, none⟩) (1) (1) ([.string s, .slice D m d]) (by rfl) rfl (cells_blk fb3) (by simp [Value.oneCell']) (by unfold maxLen; omega) (by omega) Zb3 ?_
 intro v4 w4_ fo4 hg4 st4
 have apob4 := apart_sits st4 apob3 fb3.lt
 have fb4 := fb3.grown hg4 (fun e => apob3 e.symm)
 have Hb4 := below_grown Hb3 hg4 Hb3.size (own_base fo3)
 have Zb4 := Nat.le_trans Zb3 hg4.size
 obtain ⟨A4, c4, rfl, le4, lm4, -⟩ := own_form fo4
 refine hK.out _ _ Hb4 fun _ => ?_
 clear hK K
 try simp only [la, Act.put]
 refine ty 11 rfl (fun K hK => ?_)
 refine step_append_cells (by rfl) (.tmp 29) (.tmp 32) 26 (by rfl) (wc.heap.size) 61 (.agg #[.string ⟨#[]⟩, .slice none 0 0]) 2 40 (by kernel_rfl) (by kernel_rfl) rfl (by omega) (.slice A4 (k + 1) c4) (k + 1) (((([] : List Value) ++ z1) ++ [.string s, .slice D m d])) fo4 (by rfl) XA (n - k) (c - k) (z3) (by rfl) L3.out (C3.out.below (bo HBk Hb4)) (O3.out) (by unfold maxLen; omega) (by omega) Zb4 ?_
 intro v5 w5_ fo5 hg5 st5
 have apob5 := apart_sits st5 apob4 fb4.lt
 have fb5 := fb4.grown hg5 (fun e => apob4 e.symm)
 have Hb5 := below_grown Hb4 hg5 Hb4.size (own_base fo4)
 have Zb5 := Nat.le_trans Zb4 hg5.size
 obtain ⟨A5, c5, rfl, le5, lm5, -⟩ := own_form fo5
 refine hK.out _ _ Hb5 fun _ => ?_
 clear hK K
 refine tq 12 rfl Hb5 ?_
 try simp only [la, Act.put]
 refine td ?_ _
 go_wp2_with fail
 go_ret
 exact ⟨k, A5, c5, (show Ending.returned (.slice A5 (k + 1 + (n - k)) c5) = _ by rw [show k + 1 + (n - k) = n + 1 by omega]), hk, Hg.out.1, Hg.out.2, (show World.ownsRow _ _ _ _ _ _ _ by rw [Hz1.out, Hz3.out]; have := own_lower fo5 (show w.heap.size ≤ _ from HBk.out.size); rwa [show k + 1 + (n - k) = n + 1 by omega] at this), bo HBk Hb5⟩
end Go.Proofs.YtkflpoiobpblhaaGreat
namespace Go.Proofs.YtkflpoiobpblhaaGreat
open Go.RowKit
namespace Mir
theorem chOk_parts {l : List Ch} (h : chOk l = true) : l.length ≤ 65536 ∧ incS (l.map chN) = true ∧ ∀ (k : Nat) (x : Ch), l[k]? = some x → ¬(x.2 = true ∧ x.1.2 ≠ []) := by
 unfold chOk chS at h
 rw [Bool.and_eq_true, List.all_eq_true] at h
 have hk : ∀ k, k < l.length → chAt l k = true := fun k hk => h.1 k (List.mem_range.2 hk)
 refine ⟨of_decide_eq_true h.2, incS_good fun k hk' => ?_, fun k x hx hb => ?_⟩
 · have := hk k (by simpa using hk')
   unfold chAt at this
   rw [Bool.and_eq_true] at this
   exact this.1
 have := hk k (List.getElem?_eq_some_iff.1 hx).1
 unfold chAt at this
 rw [Bool.and_eq_true, hx] at this
 have h0 : 0 < x.1.2.length := List.length_pos_iff.2 hb.2
 simp [hb.1, h0] at this
theorem okC_gone {a : List It} {x : Ch} (h : x.2 = true) (h2 : x.1.2 ≠ []) : okC a x = false := by
 unfold okC
 cases a.find? (fun y => decide (y.1 = x.1.1)) with
 | none => simp [h]
 | some y => simp [h, h2]
theorem appE_first {a : List It} {l : List Ch} (h : itE a ≠ 0) : appE a l = itE a := by unfold appE; rw [if_pos h]
theorem appE_bad {a : List It} {l : List Ch} (h : itE a = 0) (hc : chOk l = false) : appE a l = 430 := by
 unfold appE
 rw [if_neg (by rw [h]; simp)]
 by_cases h1 : ¬(l.length ≤ 65536 ∧ incS (l.map chN) = true)
 · rw [if_pos h1]
 rw [if_neg h1]
 have h1 : l.length ≤ 65536 ∧ incS (l.map chN) = true := by
  by_cases h2 : l.length ≤ 65536 ∧ incS (l.map chN) = true
  · exact h2
  exact absurd h2 h1
 have : ∃ (k : Nat) (x : Ch), l[k]? = some x ∧ x.2 = true ∧ x.1.2 ≠ [] := by
  by_cases hh : ∃ (k : Nat) (x : Ch), l[k]? = some x ∧ x.2 = true ∧ x.1.2 ≠ []
  · exact hh
  exfalso
  have : chOk l = true := by
   unfold chOk
   rw [decide_eq_true h1.1, Bool.and_true]
   refine chS_good fun k hk => ?_
   unfold chAt
   have hi := h1.2
   unfold incS at hi
   rw [List.all_eq_true] at hi
   rw [hi k (List.mem_range.2 (by simpa using hk)), Bool.true_and, List.getElem?_eq_getElem hk]
   cases hg : l[k].2 with
   | false => simp [hg]
   | true =>
     have : l[k].1.2 = [] := by
      by_cases h0 : l[k].1.2 = []
      · exact h0
      exact absurd ⟨k, l[k], List.getElem?_eq_getElem hk, hg, h0⟩ hh
     simp [hg, this]
  rw [this] at hc; cases hc
 obtain ⟨k, x, hx, hg, hd⟩ := this
 rw [app_bad hx (okC_gone hg hd), if_pos rfl]
theorem appE_item {a : List It} {l : List Ch} (h : itE a = 0) {k : Nat} {x : Ch} (hx : l[k]? = some x) (hb : okC a x = false) : appE a l = 430 := by
 unfold appE
 rw [if_neg (by rw [h]; simp), app_bad hx hb]
 split
 · rfl
 rfl
theorem appE_many {a : List It} {l : List Ch} (h : itE a = 0) (hc : chOk l = true) (ho : l.all (okC a) = true) : appE a l = if 65536 < (merged a l).length then 2 else 0 := by
 have hp := chOk_parts hc
 unfold appE
 rw [if_neg (by rw [h]; simp), if_neg (by simp [hp.1, hp.2.1]), if_neg (by rw [ho]; simp)]
theorem appS_bad {a : List It} {l : List Ch} (h : appE a l ≠ 0) : appS a l = [] := by unfold appS; rw [if_neg h]
theorem ins_inc {U : List It} {k : Nat} {x : It} (hU : Inc (U.map Prod.fst)) (h1 : ∀ j y, j < k → U[j]? = some y → nlt y.1 x.1 = true) (hk : ∀ y, U[k]? = some y → nlt y.1 x.1 = false) (hs : x.1 ∉ U.map Prod.fst) : Inc ((U.take k ++ x :: U.drop k).map Prod.fst) := by
 have hget : ∀ i j (hi : i < U.length) (hj : j < U.length), i < j → nlt U[i].1 U[j].1 = true := by
  intro i j hi hj hij
  rw [Inc, List.pairwise_iff_getElem] at hU
  have := hU i j (by simpa using hi) (by simpa using hj) hij
  simpa using this
 have hT := hU
 rw [Inc, ← List.take_append_drop k U, List.map_append, List.pairwise_append] at hT
 rw [Inc, List.map_append, List.map_cons, List.pairwise_append]
 refine ⟨hT.1, List.pairwise_cons.2 ⟨fun s hs' => ?_, hT.2.1⟩, fun s hs' t ht => ?_⟩
 · obtain ⟨y, hy, rfl⟩ := List.mem_map.1 hs'
   obtain ⟨j, hj, rfl⟩ := List.getElem_of_mem hy
   rw [List.length_drop] at hj
   rw [List.getElem_drop]
   have h0 : nlt x.1 (U[k]'(by omega)).1 = true := by
    have h2 := hk _ (List.getElem?_eq_getElem (show k < U.length by omega))
    cases h3 : nlt x.1 (U[k]'(by omega)).1 with
    | true => rfl
    | false => exact absurd (List.mem_map.2 ⟨_, List.getElem_mem (show k < U.length by omega), nlt_tri h2 h3⟩) hs
   rcases Nat.eq_zero_or_pos j with rfl | hj0
   · exact h0
   exact nlt_trans h0 (hget k (k + j) (by omega) (by omega) (by omega))
 obtain ⟨y, hy, rfl⟩ := List.mem_map.1 hs'
 obtain ⟨j, hj, rfl⟩ := List.getElem_of_mem hy
 rw [List.length_take] at hj
 have hyx : nlt ((U.take k)[j]'(by rw [List.length_take]; omega)).1 x.1 = true := by
  rw [List.getElem_take]
  exact h1 j _ (by omega) (List.getElem?_eq_getElem (by omega))
 rcases List.mem_cons.1 ht with rfl | ht
 · exact hyx
 exact hT.2.2 _ hs' _ ht
theorem ins_perm {U V : List It} {k : Nat} {x : It} (h : U.Perm V) : (U.take k ++ x :: U.drop k).Perm (x :: V) :=
 List.perm_middle.trans (List.Perm.cons _ (by rw [List.take_append_drop]; exact h))
theorem hasN_take {l : List Ch} {k : Nat} {x : Ch} {s : ByteArray} (h : l[k]? = some x) : hasN ((l.take (k + 1)).map chN) s = (hasN ((l.take k).map chN) s || decide (x.1.1 = s)) := by
 rw [List.take_add_one, h]
 unfold hasN
 simp [chN]
theorem put_new {a : List It} {l : List Ch} {k n : Nat} {x : It} {U : List It} (hi : Inc (l.map chN)) (h : l[k]? = some (x, false)) (hp : U.Perm (putK l k ++ keptK a l n)) : x.1 ∉ U.map Prod.fst := by
 intro hm
 obtain ⟨y, hy, he⟩ := List.mem_map.1 hm
 have hk := (List.getElem?_eq_some_iff.1 h).1
 have hx := (List.getElem?_eq_some_iff.1 h).2
 rcases List.mem_append.1 (hp.subset hy) with h1 | h1
 · unfold putK at h1
   obtain ⟨c, hc, rfl⟩ := List.mem_map.1 h1
   obtain ⟨j, hj, rfl⟩ := List.getElem_of_mem (List.mem_filter.1 hc).1
   rw [List.length_take] at hj
   rw [List.getElem_take] at he
   rw [Inc, List.pairwise_iff_getElem] at hi
   have := hi j k (by rw [List.length_map]; omega) (by rw [List.length_map]; omega) (by omega)
   simp only [List.getElem_map, chN] at this
   rw [he, hx, nlt_irrefl] at this
   cases this
 unfold keptK at h1
 have h2 := (List.mem_filter.1 h1).2
 rw [he] at h2
 have h3 : hasN (l.map chN) x.1 = true := hasN_iff.2 (List.mem_map.2 ⟨l[k], List.getElem_mem hk, by rw [hx]; rfl⟩)
 rw [h3] at h2
 cases h2
theorem put_perm {l : List Ch} {k : Nat} {x : It} {U K : List It} (h : l[k]? = some (x, false)) (hp : U.Perm (x :: (putK l k ++ K))) : U.Perm (putK l (k + 1) ++ K) := by
 rw [putK_put h, List.append_assoc]
 exact hp.trans (List.perm_middle (a := x) (l₁ := putK l k) (l₂ := K)).symm
end Mir
end Go.Proofs.YtkflpoiobpblhaaGreat
namespace Go.Proofs.YtkflpoiobpblhaaGreat
open Go.RowKit Go.Shelf
theorem rapply_any (A B : Option Addr) (n m c d : Nat) (a : List Mir.It) (l : List Mir.Ch) (za : List Mir.Zi) (wb w : World) (hbw : Below wb.heap.size wb w) (hza : za.map Prod.fst = a) (hda : ItDat wb za) (ha : a.length = n) (hl : l.length = m) (hn : n ≤ 1000000) (hm : m ≤ 1000000) (hA : Cells w A (itZ za)) (hB : ChangesC wb B l) :
    Calls Tryz.prog 88 #[.slice A n c, .slice B m d] w fun e w' => ∃ A' c' zs, e = .returned (.tuple #[.slice A' zs.length c', .int .i64 (Mir.appE a l)]) ∧ Hid (zs.map Prod.fst = Mir.appS a l) ∧ Hid (ItDat wb zs) ∧ Hid (w'.ownsRow w.heap.size 61 2 (.slice A' zs.length c') zs.length (itZ zs)) ∧ Below w.heap.size w w' := by
 have HZa := θ (fun hl => its_at hza hda hA hl)
 have HA := θ (show ItemsC w A a from hza ▸ hda.items hbw hA)
 have HC := θ hB
 have Hbw := θ hbw
 have Ha := θ ha
 have Hl := θ hl
 have HP := θ (fun W h => rcheck_any A n c a W ha hn h)
 have HV := θ (fun W h => rchanges_any B m d l W hl hm h)
 have HFi := θ (fun s W h => rfind_any A n c a s W ha (by omega) h)
 have HHa := θ (fun s E q e dat W h1 h2 h3 h4 h5 h6 => rhas_any A n c a s E q e dat W ha (by omega) h1 h2 h3 h4 h5 h6)
 obtain ⟨RE, hRE⟩ := exq (Mir.appE a l)
 rw [hRE]
 have HE := θ hRE
 have HN : Hid (∀ W : World, RE ≠ 0 → ∃ zs : List Mir.Zi, zs = [] ∧ Hid (zs.map Prod.fst = Mir.appS a l) ∧ Hid (ItDat wb zs) ∧ Hid (W.ownsRow w.heap.size 61 2 (.slice none zs.length 0) zs.length (itZ zs))) := θ (fun W h => ⟨[], rfl, θ (by rw [Mir.appS_bad (by rw [HE.out]; exact h)]; rfl), θ (fun z hz => by cases hz), θ (World.ownsRow_nil _ _ _ _)⟩)
 have HBad : Hid (∀ W : World, RE ≠ 0 → Below w.heap.size w W → ∃ (A' : Option Addr) (c' : Nat) (zs : List Mir.Zi), Ending.returned (.tuple #[.slice none 0 0, .int .i64 RE]) = Ending.returned (.tuple #[.slice A' zs.length c', .int .i64 RE]) ∧ Hid (zs.map Prod.fst = Mir.appS a l) ∧ Hid (ItDat wb zs) ∧ Hid (W.ownsRow w.heap.size 61 2 (.slice A' zs.length c') zs.length (itZ zs)) ∧ Below w.heap.size w W) := θ (fun W h hb => by
  obtain ⟨zs, rfl, h1, h2, h3⟩ := HN.out W h
  exact ⟨none, 0, [], rfl, h1, h2, h3, hb⟩)
 obtain ⟨E, hE⟩ := exq (Mir.itE a)
 obtain ⟨cv, hcv⟩ := exq (Mir.chOk l)
 rw [hE] at HP
 rw [hcv] at HV
 have HEa := θ hE
 have Hcv := θ hcv
 clear hza hda hA hB hbw ha hl hRE hE hcv HN
 go_enter Tryz.func88, Tryz.ntmps88
 go_wp2_with fail
 refine (HP.out w HA.out).mono ?_
 rintro e w1 ⟨rfl, hb1⟩
 have HB1 := θ hb1
 clear hb1
 by_cases hE : E = 0
 rotate_left
 · have hr : RE = E := by rw [← HE.out, Mir.appE_first (by rw [HEa.out]; exact hE), HEa.out]
   have dE : decide (E = 0) = false := by simpa using hE
   have dE2 : (E != 0) = true := by simpa using hE
   go_wp2_with fail
   go_ret2
   rw [← hr]
   exact HBad.out _ (by rw [hr]; exact hE) HB1.out
 subst hE
 go_wp2_with fail
 refine (HV.out w1 ((HC.out.below Hbw.out).below HB1.out)).mono ?_
 rintro e w2 ⟨rfl, hb2⟩
 have HB2 := θ (bo HB1 hb2)
 clear hb2 HB1
 cases cv with
 | false =>
   have hr : RE = 430 := by rw [← HE.out, Mir.appE_bad HEa.out Hcv.out]
   go_wp2_with fail
   go_ret2
   rw [← hr]
   exact HBad.out _ (by omega) HB2.out
 | true =>
 have Hp := θ (Mir.chOk_parts Hcv.out)
 have hm6 : m ≤ 65536 := by have := Hp.out.1; rw [Hl.out] at this; exact this
 have hn6 : n ≤ 65536 := by
  have := (Mir.itE_inc HEa.out).1
  rw [Ha.out] at this; exact this
 have Hinc := θ (Mir.incS_iff.1 Hp.out.2.1).2
 go_wp2_with fail
 go_loopw [7] (fun i wr => ∃ k : Nat, k ≤ m ∧ i = .int .i64 k ∧ Hid (Below w.heap.size w wr) ∧ Hid (∀ j x, j < k → l[j]? = some x → Mir.okC a x = true)) (fun i _ => m - (intOf i).toNat)
 case atStart => exact ⟨0, by omega, rfl, HB2.out, θ (fun j x h => by omega)⟩
 obtain ⟨wk, rfl⟩ : ∃ v : World, v = wr := ⟨_, rfl⟩
 obtain ⟨k, hk, rfl, hB, hg⟩ := hrel
 by_cases hlt : k < m
 · obtain ⟨⟨⟨s, dat⟩, g⟩, hx⟩ := getElem?_lt (l := l) (k := k) (by rw [Hl.out]; exact hlt)
   obtain ⟨b, off, rfl, hb, hcs⟩ := (HC.out.below Hbw.out).at_ (by rw [Hl.out]; omega)
   obtain ⟨D, cd, y0, y1, y2, hcd, hcm, hD, h8⟩ := hcs _ _ hx
   simp only [] at y0 y1 y2 hcd hD h8
   have x0 := cellkM hB.out y0
   have x1 := cellkM hB.out y1
   have x2 := cellkM hB.out y2
   have HD := θ (hD.below hB.out)
   have H8 := θ h8
   have Hx := θ hx
   have ho := Mir.okC_has a ((s, dat), g) (Hp.out.2.2 k _ hx)
   simp only [] at ho
   obtain ⟨md, hmd⟩ := exq dat.length
   rw [hmd] at x1 hcd
   have Hmd := θ hmd
   have Hcd := θ (And.intro hcd hcm)
   clear hcs hx y0 y1 y2 hD h8 hmd hcd hcm
   cases g with
   | true =>
     obtain ⟨fi, hfi⟩ := exq (Mir.findI a s)
     rw [hfi] at ho
     have HF := θ (fun W h => by have := HFi.out s W h; rw [hfi] at this; exact this)
     by_cases hq : fi < 0
     · have dq : decide (fi < 0) = true := decide_eq_true hq
       have okb : Mir.okC a ((s, dat), true) = false := by rw [ho, dq]; rfl
       have Hok := θ okb
       clear ho okb hfi
       go_wp2_with fail
       refine (HF.out wk (HA.out.below hB.out)).mono ?_
       rintro e w3 ⟨rfl, hw⟩
       rw [hw]
       clear hw w3
       go_wp2_with fail
       go_ret2
       have hr : RE = 430 := by rw [← HE.out, Mir.appE_item HEa.out Hx.out Hok.out]
       rw [← hr]
       exact HBad.out _ (by omega) hB.out
     have dq : decide (fi < 0) = false := decide_eq_false hq
     have okb : Mir.okC a ((s, dat), true) = true := by rw [ho, dq]; rfl
     have Hok := θ okb
     clear ho okb hfi
     go_wp2_with fail
     refine (HF.out wk (HA.out.below hB.out)).mono ?_
     rintro e w3 ⟨rfl, hw⟩
     rw [hw]
     clear hw w3
     go_wp2_with fail
     go_roundw
     case rel => exact ⟨k + 1, by omega, by go_num, hB, θ (fun j x hj hx => by
      rcases Nat.lt_or_eq_of_le (Nat.le_of_lt_succ hj) with h | rfl
      · exact hg.out j x h hx
      · rw [Hx.out] at hx; cases hx
        exact Hok.out)⟩
     case measure => simp [intOf]; omega
   | false =>
     obtain ⟨hi, hhi⟩ := exq (Mir.hasI a (s, dat))
     have HF := θ (fun W h1 h2 => by have := HHa.out s D md cd dat W h1 Hmd.out h2 H8.out Hcd.out.1 Hcd.out.2; rw [hhi] at this; exact this)
     rw [hhi] at ho
     clear hhi
     go_wp2_with fail
     refine (HF.out wk (HA.out.below hB.out) HD.out).mono ?_
     rintro e w3 ⟨rfl, hb3⟩
     have hB3 := θ (bo hB hb3)
     cases hi with
     | true =>
       have Hok := θ (show Mir.okC a ((s, dat), false) = false by rw [ho]; rfl)
       clear ho
       go_wp2_with fail
       go_ret2
       have hr : RE = 430 := by rw [← HE.out, Mir.appE_item HEa.out Hx.out Hok.out]
       rw [← hr]
       exact HBad.out _ (by omega) hB3.out
     | false =>
       have Hok := θ (show Mir.okC a ((s, dat), false) = true by rw [ho]; rfl)
       clear ho
       go_wp2_with fail
       go_roundw
       case rel => exact ⟨k + 1, by omega, by go_num, hB3, θ (fun j x hj hx => by
        rcases Nat.lt_or_eq_of_le (Nat.le_of_lt_succ hj) with h | rfl
        · exact hg.out j x h hx
        · rw [Hx.out] at hx; cases hx
          exact Hok.out)⟩
       case measure => simp [intOf]; omega
 obtain rfl : k = m := by omega
 have Hall := θ (Mir.app_good (a := a) (fun j x hj hx => hg.out j x (by rw [← Hl.out]; exact hj) hx))
 have HEm := θ (show RE = if 65536 < (Mir.merged a l).length then 2 else 0 by rw [← HE.out]; exact Mir.appE_many HEa.out Hcv.out Hall.out)
 clear hg HB2 Hall
 go_wp2_with fail
 generalize hge : World.alloc _ _ = w4
 have hB4 := θ (show Below w.heap.size w w4 by subst hge; exact hB.out.alloc hB.out.size _)
 have hO4 := θ (show w4.ownsRow w.heap.size 61 2 (.slice (some ⟨wk.heap.size, 0, none⟩) 0 0) 0 [] by subst hge; exact World.ownsRow_lit (size := 2) wk #[] 0 hB.out.size (Nat.zero_le _) rfl)
 obtain ⟨A0, hA0⟩ := exq (some (⟨wk.heap.size, 0, none⟩ : Addr))
 rw [hA0] at hO4 ⊢
 clear hge hB hA0
 go_loopw [8, 9] (fun o i wr => ∃ (k2 : Nat) (zs : List Mir.Zi) (A' : Option Addr) (ko c' : Nat), k2 ≤ n ∧ o = .slice A' ko c' ∧ i = .int .i64 k2 ∧ ko ≤ k2 ∧ Hid (zs.length = ko) ∧ Hid (Below w.heap.size w wr) ∧ Hid (zs.map Prod.fst = Mir.keptK a l k2) ∧ Hid (ItDat wb zs) ∧ Hid (wr.ownsRow w.heap.size 61 2 (.slice A' ko c') ko (itZ zs))) (fun _ i _ => n - (intOf i).toNat)
 case atStart => exact ⟨0, [], A0, 0, 0, by omega, rfl, rfl, by omega, θ rfl, hB4.out, θ (by simp [Mir.keptK]), θ (fun z hz => by cases hz), hO4.out⟩
 obtain ⟨wp, rfl⟩ : ∃ v : World, v = wr := ⟨_, rfl⟩
 obtain ⟨k2, zs, A', ko, c', hk2, rfl, rfl, hko, hzl, hB, hput, hdat, hown⟩ := hrel
 by_cases hlt2 : k2 < n
 · obtain ⟨⟨s, dat⟩, hx⟩ := getElem?_lt (l := a) (k := k2) (by rw [Ha.out]; exact hlt2)
   obtain ⟨b, off, rfl, hb, hcs⟩ := HZa.out (by rw [Ha.out]; omega)
   obtain ⟨D, cd, y0, y1, hcd, hcm, hD, h8⟩ := hcs _ _ hx
   simp only [] at y0 y1 hcd hD h8
   have x0 := cellkM hB.out y0
   have x1 := cellkM hB.out y1
   have HD := θ hD
   have H8 := θ h8
   have Hx := θ hx
   obtain ⟨md, hmd⟩ := exq dat.length
   rw [hmd] at x1
   have Hmd := θ hmd
   have Hcd := θ (And.intro hcd hcm)
   have Hb := θ hb
   have Hy0 := θ y0
   clear hcs hx y0 y1 hD h8 hmd hcd hcm hb
   go_wp2_with fail
   go_loopw [10, 11] (fun mt j wq => ∃ i : Nat, i ≤ k ∧ j = .int .i64 i ∧ mt = .bool (Mir.hasN ((l.take i).map Mir.chN) s) ∧ Hid (Below wp.heap.size wp wq)) (fun _ j _ => k - (intOf j).toNat)
   case atStart => exact ⟨0, by omega, rfl, rfl, θ (Below.refl _ _)⟩
   obtain ⟨wi, rfl⟩ : ∃ v : World, v = wr := ⟨_, rfl⟩
   obtain ⟨i, hi, rfl, rfl, hBi⟩ := hrel
   have hBi2 := θ (below_of hB.out hBi.out hB.out.size)
   obtain ⟨mt, hmt⟩ := exq (Mir.hasN ((l.take i).map Mir.chN) s)
   rw [hmt]
   have Hmt := θ hmt
   clear hmt
   by_cases hlt3 : i < k
   · obtain ⟨⟨⟨s2, dat2⟩, g2⟩, hx2⟩ := getElem?_lt (l := l) (k := i) (by rw [Hl.out]; exact hlt3)
     obtain ⟨b2, off2, rfl, hb2, hcs2⟩ := (HC.out.below Hbw.out).at_ (by rw [Hl.out]; omega)
     obtain ⟨D2, cd2, z0, -⟩ := hcs2 _ _ hx2
     simp only [] at z0
     have z0 := cellkM hBi2.out z0
     have v0 := cellkM hBi.out x0
     have Hx2 := θ (Mir.hasN_take (s := s) hx2)
     have gN := name_eq s2 s
     clear hcs2 hx2
     cases mt with
     | true =>
       go_upto_region 19 with fail
       go_quiet (fail)
       go_wp2_with fail
       go_roundw
       case rel => exact ⟨i + 1, by omega, by go_num, by rw [Hx2.out, Hmt.out]; rfl, below_drewN hBi.out _⟩
       case measure => simp [intOf]; omega
     | false =>
       by_cases hs : s2 = s
       · rw [decide_eq_true hs] at gN
         have Hs := θ hs
         clear hs
         go_upto_region 19 with fail
         go_quiet (fail)
         go_wp2_with fail
         go_roundw
         case rel => exact ⟨i + 1, by omega, by go_num, by rw [Hx2.out, Hmt.out, decide_eq_true Hs.out]; rfl, below_drewN hBi.out _⟩
         case measure => simp [intOf]; omega
       rw [decide_eq_false hs] at gN
       have Hs := θ hs
       clear hs
       go_upto_region 19 with fail
       go_quiet (fail)
       go_wp2_with fail
       go_roundw
       case rel => exact ⟨i + 1, by omega, by go_num, by rw [Hx2.out, Hmt.out, decide_eq_false Hs.out]; rfl, below_drewN hBi.out _⟩
       case measure => simp [intOf]; omega
   obtain rfl : i = k := by omega
   have Hh := θ (show Mir.hasN (l.map Mir.chN) s = mt by have := Hmt.out; rwa [List.take_of_length_le (Nat.le_of_eq Hl.out)] at this)
   have hown2 := θ (own_below hown.out hBi.out)
   have v0 := cellkM hBi.out x0
   have v1 := cellkM hBi.out x1
   have hz : w.heap.size ≤ wi.heap.size := hBi2.out.size
   clear Hmt hBi x0 x1 hown hB
   cases mt with
   | true =>
     go_wp2_with fail
     go_roundw
     case rel => exact ⟨k2 + 1, zs, A', ko, c', by omega, rfl, by go_num, by omega, hzl, hBi2, θ (by rw [Mir.keptK_in Hx.out Hh.out]; exact hput.out), hdat, hown2⟩
     case measure => simp [intOf]; omega
   | false =>
     go_wp2_with (first
      | (at_builtin
         refine push_blk rfl (.tmp 90) (.tmp 95) 26 rfl w.heap.size 61 (.agg #[.string ⟨#[]⟩, .slice none 0 0]) 2 40 (by kernel_rfl) (by kernel_rfl) rfl (by omega) (.slice A' ko c') ko (itZ zs) #[.string s, .slice D md cd] rfl hown2.out rfl rfl (by simp [Value.oneCell']) (by unfold maxLen; omega) (by omega) hz ?_
         intro v8 w8 hown8 hg8 _
         obtain ⟨A8, c8, rfl, -, -, -⟩ := own_form hown8
         have Hown8 := θ hown8
         have HB8 := θ (below_grown hBi2.out hg8 hBi2.out.size (fun k hk => own_base hown2.out k hk))
         clear hown8 hg8))
     go_roundw
     case rel => exact ⟨k2 + 1, zs ++ [((s, dat), (D, cd))], A8, ko + 1, c8, by omega, rfl, by go_num, by omega, θ (by rw [List.length_append, hzl.out]; rfl), HB8, θ (by rw [Mir.keptK_out Hx.out Hh.out, List.map_append, hput.out]; rfl), θ (hdat.out.snoc ((s, dat), (D, cd)) Hcd.out.1 Hcd.out.2 HD.out H8.out), θ (by rw [itZ_append]; simp only [itZ]; rw [Hmd.out]; exact Hown8.out)⟩
     case measure => simp [intOf]; omega
 obtain rfl : k2 = n := by omega
 have Hput := θ (show zs.map Prod.fst = Mir.keptK a l k2 from hput.out)
 have hKe : Mir.keptK a l k2 = a.filter fun x : Mir.It => !Mir.hasN (l.map Mir.chN) x.1 := by unfold Mir.keptK; rw [List.take_of_length_le (Nat.le_of_eq Ha.out)]
 have HiK := θ (show Mir.Inc ((zs.map Prod.fst).map Prod.fst) by
  rw [Hput.out, hKe]
  exact List.Pairwise.sublist (List.Sublist.map _ List.filter_sublist) (Mir.itE_inc HEa.out).2.2)
 clear hput hKe
 go_wp2_with fail
 go_loopw [8, 12] (fun o i wr => ∃ (k3 : Nat) (us : List Mir.Zi) (A' : Option Addr) (ko c' : Nat), k3 ≤ k ∧ o = .slice A' ko c' ∧ i = .int .i64 k3 ∧ ko ≤ k2 + k3 ∧ Hid (us.length = ko) ∧ Hid (Below w.heap.size w wr) ∧ Hid (Mir.Inc ((us.map Prod.fst).map Prod.fst)) ∧ Hid ((us.map Prod.fst).Perm (Mir.putK l k3 ++ Mir.keptK a l k2)) ∧ Hid (ItDat wb us) ∧ Hid (wr.ownsRow w.heap.size 61 2 (.slice A' ko c') ko (itZ us))) (fun _ i _ => k - (intOf i).toNat)
 case atStart => exact ⟨0, zs, A', ko, c', by omega, rfl, rfl, by omega, hzl, hB, HiK, θ (by rw [Hput.out]; simp [Mir.putK]), hdat, hown⟩
 obtain ⟨wp, rfl⟩ : ∃ v : World, v = wr := ⟨_, rfl⟩
 obtain ⟨k3, us, A5, k5, c5, hk3, rfl, rfl, hk5, hul, hB5, hinc, hperm, hdat5, hown5⟩ := hrel
 by_cases hlt3 : k3 < k
 · obtain ⟨⟨⟨s, dat⟩, g⟩, hx⟩ := getElem?_lt (l := l) (k := k3) (by rw [Hl.out]; exact hlt3)
   obtain ⟨b, off, rfl, hb, hcs⟩ := HC.out.at_ (by rw [Hl.out]; omega)
   obtain ⟨D, cd, y0, y1, y2, hcd, hcm, hD, h8⟩ := hcs _ _ hx
   simp only [] at y0 y1 y2 hcd hD h8
   have hbb := below_of Hbw.out hB5.out Hbw.out.size
   have x0 := cellkM hbb y0
   have x1 := cellkM hbb y1
   have x2 := cellkM hbb y2
   have HD := θ hD
   have H8 := θ h8
   have Hx := θ hx
   obtain ⟨md, hmd⟩ := exq dat.length
   rw [hmd] at x1
   have Hmd := θ hmd
   have Hcd := θ (And.intro hcd hcm)
   clear hcs hx y0 y1 y2 hD h8 hmd hcd hcm hbb
   cases g with
   | true =>
     go_wp2_with fail
     go_roundw
     case rel => exact ⟨k3 + 1, us, A5, k5, c5, by omega, rfl, by go_num, by omega, hul, hB5, hinc, θ (by rw [Mir.putK_gone Hx.out]; exact hperm.out), hdat5, hown5⟩
     case measure => simp [intOf]; omega
   | false =>
     obtain ⟨A6, c6, hv6, hnc, hncm, -⟩ := own_form hown5.out
     cases hv6
     have HW := θ (fun W h => rwith_any A5 k5 c5 us s D md cd W hul.out (by omega) hnc hncm h)
     clear hnc hncm
     go_wp2_with fail
     refine (HW.out wp (Cells.own hown5.out)).mono ?_
     rintro e w6 ⟨k7, A7, c7, rfl, hk7, h71, h72, hown7, hb7⟩
     have HB7 := θ (bo hB5 hb7)
     have Hown7 := θ (own_lower hown7 hB5.out.size)
     have H7 := θ (And.intro h71 h72)
     clear h71 h72 hown7 hb7
     go_wp2_with fail
     go_roundw
     case rel =>
      refine ⟨k3 + 1, us.take k7 ++ ((s, dat), (D, cd)) :: us.drop k7, A7, k5 + 1, c7, by omega, rfl, by go_num, by omega, θ (by have := hul.out; simp; omega), HB7, θ ?_, θ ?_, θ ?_, θ ?_⟩
      · rw [List.map_append, List.map_cons, List.map_take, List.map_drop]
        refine Mir.ins_inc hinc.out (fun j y hj hy => ?_) (fun y hy => ?_) (Mir.put_new Hinc.out Hx.out hperm.out)
        · rw [List.getElem?_map] at hy
          cases hz : us[j]? with
          | none => rw [hz] at hy; cases hy
          | some z =>
            rw [hz] at hy
            simp at hy
            subst hy
            exact H7.out.1 j z hj hz
        rw [List.getElem?_map] at hy
        cases hz : us[k7]? with
        | none => rw [hz] at hy; cases hy
        | some z =>
          rw [hz] at hy
          simp at hy
          subst hy
          exact H7.out.2 z hz
      · rw [List.map_append, List.map_cons, List.map_take, List.map_drop]
        exact Mir.put_perm Hx.out (Mir.ins_perm hperm.out)
      · intro z hz
        rcases List.mem_append.1 hz with h | h
        · exact hdat5.out z (List.mem_of_mem_take h)
        rcases List.mem_cons.1 h with rfl | h
        · exact ⟨Hcd.out.1, Hcd.out.2, HD.out, H8.out⟩
        exact hdat5.out z (List.mem_of_mem_drop h)
      rw [itZ_append]
      simp only [itZ]
      rw [Hmd.out]
      have := Hown7.out
      simpa using this
     case measure => simp [intOf]; omega
 obtain rfl : k3 = k := by omega
 have hpk : (us.map Prod.fst).Perm (Mir.merged a l) := by
  have h1 := hperm.out
  have h2 := Mir.merged_eq a l
  rw [Hl.out, Ha.out] at h2
  rwa [h2] at h1
 have hlen : (Mir.merged a l).length = k5 := by rw [← hpk.length_eq, List.length_map, hul.out]
 have hso := Mir.sortI_eq hpk.symm hinc.out
 rw [hlen] at HEm
 have Hso := θ hso
 clear hpk hlen hso hperm hinc
 by_cases hbig : 65536 < k5
 · have d1 : decide ((65536 : Int) < (k5 : Int)) = true := decide_eq_true (by omega)
   have d1' : decide (65536 < k5) = true := decide_eq_true hbig
   have hr : RE = 2 := by rw [HEm.out, if_pos hbig]
   go_wp2_with fail
   go_ret2
   rw [← hr]
   exact HBad.out _ (by omega) hB5.out
 have d1 : decide ((65536 : Int) < (k5 : Int)) = false := decide_eq_false (by omega)
 have d1' : decide (65536 < k5) = false := decide_eq_false hbig
 have hr : RE = 0 := by rw [HEm.out, if_neg hbig]
 go_wp2_with fail
 go_ret2
 refine ⟨A5, c5, us, (by rw [hr, hul.out]; rfl), θ ?_, hdat5, (by rw [hul.out]; exact hown5), hB5.out⟩
 unfold Mir.appS
 rw [if_pos (by rw [HE.out, hr]), Hso.out]
end Go.Proofs.YtkflpoiobpblhaaGreat
namespace Go.Proofs.YtkflpoiobpblhaaGreat
open Go.RowKit
theorem rapplied_any (ok : Nat → Prop) (f : Mir.Fo) (v : Mir.Ve) (F V : Array Value) (wb w : World) (hbw : Below wb.heap.size wb w) (hF : FolO wb w ok f F) (hV : VerC wb v V) (hok : ∀ b, w.heap.size ≤ b → ok b) (hs : Mir.SmF f) (hsv : Mir.SmV v) (hms : ∀ x ∈ Mir.appS f.it v.ch, x.2.length ≤ 900000) (hno : v.no = f.no + 1) (hn0 : 0 ≤ f.no) (hn6 : f.no ≤ 1000000) :
    Calls Tryz.prog 46 #[.agg F, .agg V] w fun e w' => ∃ F', e = .returned (.tuple #[.agg F', .bool (Mir.apS f v).2]) ∧ FolO wb w' ok (Mir.apS f v).1 F' ∧ Below w.heap.size w w' := by
 have iF := θ (hF.fol hbw).info
 have zF := θ (show (Mir.folA z32 0 0 (.slice none 0 0) (.slice none 0 0)).size = F.size by rw [(hF.fol hbw).size]; exact Mir.folA_size z32_length ..)
 have aF := θ (hF.fol hbw).all
 have Hbw := θ hbw
 have Hok := θ hok
 have HF := θ hF
 have HV := θ hV
 obtain ⟨A, ca, B, cb, za, hFe, hd, hza, hda, hA, hB, hca, hcam, hcb, hcbm⟩ := hF
 obtain ⟨C, cc, h33, hC, hcc, hccm⟩ := hV.c33
 have h0 := hV.c0
 obtain ⟨hst, hmid⟩ := hV.st
 obtain ⟨n1, hn1⟩ := exq f.it.length
 obtain ⟨n2, hn2⟩ := exq f.ea.length
 obtain ⟨m1, hm1⟩ := exq v.ch.length
 rw [hn1] at hFe hca
 rw [hn2] at hFe hcb
 rw [hm1] at h33 hcc
 have hhi := Mir.folA_hi hd.1 f.many f.no (.slice A n1 ca) (.slice B n2 cb)
 have h34 : F[34]? = some (.slice A n1 ca) := by rw [hFe]; exact hhi 2
 have h35 : F[35]? = some (.slice B n2 cb) := by rw [hFe]; exact hhi 3
 have hFe' := θ hFe
 have HA := θ hA
 have HC := θ hC
 have Hst := θ hst
 have Hmid := θ hmid
 have Hpd := θ hd
 have Hn1 := θ hn1
 have Hn2 := θ hn2
 have s1 : n1 ≤ 1000000 := by rw [← hn1]; exact hs.1
 have s2 : m1 ≤ 1000000 := by rw [← hm1]; exact hsv.1
 obtain ⟨E, hE⟩ := exq (Mir.appE f.it v.ch)
 obtain ⟨L, hL⟩ := exq (Mir.appS f.it v.ch)
 rw [hL] at hms
 have hL6 : L.length ≤ 65536 := by
  rw [← hL]; unfold Mir.appS
  by_cases h0 : Mir.appE f.it v.ch = 0
  · rw [if_pos h0]
    unfold Mir.sortI
    rw [(List.mergeSort_perm _ _).length_eq]
    unfold Mir.appE at h0
    by_cases c1 : Mir.itE f.it ≠ 0
    · rw [if_pos c1] at h0; exact absurd h0 c1
    rw [if_neg c1] at h0
    by_cases c2 : ¬(v.ch.length ≤ 65536 ∧ Mir.incS (v.ch.map Mir.chN) = true)
    · rw [if_pos c2] at h0; omega
    rw [if_neg c2] at h0
    by_cases c3 : v.ch.all (Mir.okC f.it) = false
    · rw [if_pos c3] at h0; omega
    rw [if_neg c3] at h0
    by_cases c4 : 65536 < (Mir.merged f.it v.ch).length
    · rw [if_pos c4] at h0; omega
    omega
  rw [if_neg h0]; exact Nat.zero_le _
 have Hms := θ hms
 obtain ⟨nl, hnl⟩ := exq L.length
 have HSt := θ (fun A' c' W h => rstate_any A' nl c' L W hnl (by omega) h hms)
 rw [hnl] at hL6
 obtain ⟨S, hS⟩ := exq (Mir.stS L)
 obtain ⟨E2, hE2⟩ := exq (Mir.itE L)
 have hSd : IsD S := by
  rw [← hS]; unfold Mir.stS
  by_cases h : Mir.itE L = 0
  · rw [if_pos h]; exact treeS_isD _
  rw [if_neg h]; exact z32_isD
 have HSd := θ hSd
 rw [hS, hE2] at HSt
 have HAp := θ (fun W hb h => (show Calls Tryz.prog 88 #[.slice A n1 ca, .slice C m1 cc] W (fun e w' => ∃ A' c' zs, e = .returned (.tuple #[.slice A' nl c', .int .i64 E]) ∧ Hid (zs.map Prod.fst = L) ∧ Hid (ItDat wb zs) ∧ Hid (w'.ownsRow W.heap.size 61 2 (.slice A' nl c') nl (itZ zs)) ∧ Below W.heap.size W w') from (rapply_any A C n1 m1 ca cc f.it v.ch za wb W hb hza hda hn1 hm1 s1 s2 h hC).mono (fun e w' hp => by
  obtain ⟨A', c', zs, h1, h2, h3, h4, h5⟩ := hp
  rw [hL] at h2
  have hx : zs.length = nl := by rw [← hnl, ← h2.out, List.length_map]
  rw [hx, hE] at h1
  rw [hx] at h4
  exact ⟨A', c', zs, h1, h2, h3, h4, h5⟩)))
 have HR : Hid (Mir.apS f v = if E = 0 ∧ E2 = 0 ∧ S = v.st then (⟨f.pub, f.many, v.no, L, f.ea⟩, true) else (f, false)) := θ (by rw [← hE, ← hE2, ← hS, ← hL]; rfl)
 have Hnl := θ hnl
 have hcam' := θ (And.intro hcam hcbm)
 have hcb' := θ (And.intro hca hcb)
 have HBv := θ hB
 rw [hno] at h0
 have Hno := θ hno
 have h33f : F[33]? = some (.int .i64 f.no) := by rw [hFe]; exact hhi 1
 obtain ⟨no, hnn⟩ := exq f.no
 rw [hnn] at h0 h33f hn0 hn6
 have Hnn := θ hnn
 have ewr : IntKind.i64.wrap (no + 1) = no + 1 := IntWalk.i64_in _ (by omega)
 have du : ((no + 1 : Int) == no + 1) = true := by simp
 have du2 : ((no + 1 : Int) != no + 1) = false := by simp
 clear hza hda hbw hok
 clear hFe hd hA hB hC hst hmid hn1 hn2 hm1 hhi hE hL hms hS hE2 hSd hnl hs hsv hV hno hnn hcam hcbm hca hcb hcc hccm hL6
 go_enter Tryz.func46, Tryz.ntmps46
 go_upto_region 1 with fail
 generalize hge : World.alloc (World.alloc (World.alloc _ _) _) _ = w1
 have b3 := blk_threeC w F V (Mir.folA z32 0 0 (.slice none 0 0) (.slice none 0 0)) 48 34 48 w1 hge
 have HX := θ b3.1
 have HY := θ b3.2.1
 have HRr := θ b3.2.2.1
 have HBw := θ b3.2.2.2.1
 have hz1 := b3.2.2.2.2
 have y34 : w1.cell? ⟨w.heap.size, 34, none⟩ = some (.slice A n1 ca) := (HX.out.cell 34).trans h34
 have y33 : w1.cell? ⟨w.heap.size + 1, 33, none⟩ = some (.slice C m1 cc) := (HY.out.cell 33).trans h33
 clear hge b3
 go_wp2_with fail
 refine (HAp.out w1 (below_of Hbw.out HBw.out Hbw.out.size) (HA.out.below HBw.out).cells).mono ?_
 rintro e w2 ⟨A2, c2, zs, rfl, Hzs, Hdz, HO2, hb2⟩
 have HI2 := θ (show ItemsC w2 A2 L from Hzs.out ▸ Hdz.out.items (below_of (below_of Hbw.out HBw.out Hbw.out.size) hb2 (below_of Hbw.out HBw.out Hbw.out.size).size) (Cells.own HO2.out))
 have HX2 := θ (HX.out.below hb2)
 have HY2 := θ (HY.out.below hb2)
 have HR2 := θ (HRr.out.below hb2)
 have HB2 := θ (bo HBw hb2)
 have hz2 := Nat.le_trans hz1 hb2.size
 have HOw := θ (own_lower HO2.out (show w.heap.size + 3 ≤ w1.heap.size from hz1))
 clear y34 y33 hb2 HX HY HRr HBw HO2 hz1
 have y0 : w2.cell? ⟨w.heap.size + 1, 0, none⟩ = some (.int .i64 (no + 1)) := (HY2.out.cell 0).trans h0
 have x33 : w2.cell? ⟨w.heap.size, 33, none⟩ = some (.int .i64 no) := (HX2.out.cell 33).trans h33f
 by_cases hE : E = 0
 rotate_left
 · have dE : decide (E = 0) = false := by simpa using hE
   have dE2 : (E != 0) = true := by simpa using hE
   have hr : Mir.apS f v = (f, false) := by rw [HR.out, if_neg (fun h => hE h.1)]
   clear HR
   go_wp2_with (first
    | (refine wpList_load_blk rfl 48 (.tmp 2) rfl w.heap.size rfl 48 F _ HX2.out Tryz.underlying48 rfl iF.out ?_)
    | (refine wpList_put_blk rfl 48 (.tmp 4) (.tmp 28) rfl (w.heap.size + 2) F rfl rfl 48 (Mir.folA z32 0 0 (.slice none 0 0) (.slice none 0 0)) HR2.out iF.out zF.out aF.out ?_
       intro w6 h6 hg6 hz6
       have hR6 := θ h6
       have hB6 := θ (below_grown HB2.out hg6 HB2.out.size (fun k hk => by cases hk; omega))
       clear h6 hg6 hz6))
   exact ret_row2 (u := .bool false) rfl (w.heap.size + 2) 48 F _ rfl rfl hR6.out Tryz.underlying48 rfl iF.out rfl ⟨F, by rw [hr], by rw [hr]; exact HF.out.below hB6.out, hB6.out⟩
 subst hE
 go_wp2_with fail
 refine (HSt.out A2 c2 w2 HI2.out).mono ?_
 rintro e w3 ⟨rfl, hb3⟩
 have HX3 := θ (HX2.out.below hb3)
 have HY3 := θ (HY2.out.below hb3)
 have HR3 := θ (HR2.out.below hb3)
 have HB3 := θ (bo HB2 hb3)
 have HO3 := θ (own_below HOw.out hb3)
 have hz3 := Nat.le_trans hz2 hb3.size
 clear hb3 HX2 HY2 HR2 HB2 HOw hz2 y0 x33 HI2
 go_upto_region 5 with (
  (refine wpList_put_blk rfl 29 (.tmp 8) (.tmp 32) rfl w3.heap.size (arrK .u8 S) rfl rfl 29 (arrK .u8 z32) (by exact Blk.new _ _ _) (info32 HSd.out.1) (by rw [len32 HSd.out.1, len32 z32_length]) (arrK_all _ _) ?_
   intro w4 HQ hg hz
   have hb4 := θ (below_put hg)
   have HT4 := θ HQ
   clear HQ hg hz))
 have HX4 := θ (HX3.out.below hb4.out)
 have HY4 := θ (HY3.out.below hb4.out)
 have HR4 := θ (HR3.out.below hb4.out)
 have HB4 := θ (below_of HB3.out hb4.out HB3.out.size)
 have HO4 := θ (own_below HO3.out hb4.out)
 have hz4 := Nat.le_trans hz3 hb4.out.size
 obtain ⟨q, hq⟩ := exq w3.heap.size
 rw [hq] at HT4 ⊢
 clear hb4 hq HX3 HY3 HR3 HB3 HO3 hz3
 by_cases hE2 : E2 = 0
 rotate_left
 · have dE : decide (E2 = 0) = false := by simpa using hE2
   have dE2 : (E2 != 0) = true := by simpa using hE2
   have hr : Mir.apS f v = (f, false) := by rw [HR.out, if_neg (fun h => hE2 h.2.1)]
   clear HR
   go_wp2_with (first
    | (refine wpList_load_blk rfl 48 (.tmp 2) rfl w.heap.size rfl 48 F _ HX4.out Tryz.underlying48 rfl iF.out ?_)
    | (refine wpList_put_blk rfl 48 (.tmp 4) (.tmp 42) rfl (w.heap.size + 2) F rfl rfl 48 (Mir.folA z32 0 0 (.slice none 0 0) (.slice none 0 0)) HR4.out iF.out zF.out aF.out ?_
       intro w6 h6 hg6 hz6
       have hR6 := θ h6
       have hB6 := θ (below_grown HB4.out hg6 HB4.out.size (fun k hk => by cases hk; omega))
       clear h6 hg6 hz6))
   exact ret_row2 (u := .bool false) rfl (w.heap.size + 2) 48 F _ rfl rfl hR6.out Tryz.underlying48 rfl iF.out rfl ⟨F, by rw [hr], by rw [hr]; exact HF.out.below hB6.out, hB6.out⟩
 subst hE2
 have Hst4 := θ (show w4.rangeAt (w.heap.size + 1) 1 (v.st.map fun (n : Nat) => Value.int .u8 (n : Int)) from fun i u hu => by
  have hi : i < 32 := by have := (List.getElem?_eq_some_iff.1 hu).1; rw [List.length_map, Hst.out.1] at this; exact this
  rw [HY4.out.cell (1 + i), Hmid.out i hi, ← Array.getElem?_toList, arrK_toList]
  exact hu)
 have hEq : ∀ W, (Op.equalIn 10000 29 (.agg (arrK .u8 S)) (.agg (v.st.map fun (n : Nat) => Value.int .u8 (n : Int)).toArray)).run Tryz.prog W = .ok (decide (S = v.st)) W := fun W => by
  have := run_eqD HSd.out Hst.out W
  rw [← arrK_list]
  exact this
 by_cases hS : S = v.st
 rotate_left
 · have hr : Mir.apS f v = (f, false) := by rw [HR.out, if_neg (fun h => hS h.2.2)]
   rw [decide_eq_false hS] at hEq
   have hEq := hEq w4
   clear HR hS
   go_wp2_with (first
    | (refine wpList_load_blk_g 29 (.tmp 8) (by rfl) (by kernel_rfl) q rfl 29 (arrK .u8 S) (.array 32 5) HT4.out (by kernel_rfl) rfl (info32 HSd.out.1) ?_)
    | (refine wpList_load_mid_g 29 (.tmp 38) (by rfl) (by kernel_rfl) (w.heap.size + 1) 1 rfl (v.st.map fun (n : Nat) => Value.int .u8 (n : Int)) (.array 32 5) Hst4.out (by kernel_rfl) rfl (dV_info Hst.out.1) ?_)
    | (refine wpList_load_blk rfl 48 (.tmp 2) rfl w.heap.size rfl 48 F _ HX4.out Tryz.underlying48 rfl iF.out ?_)
    | (refine wpList_put_blk rfl 48 (.tmp 4) (.tmp 42) rfl (w.heap.size + 2) F rfl rfl 48 (Mir.folA z32 0 0 (.slice none 0 0) (.slice none 0 0)) HR4.out iF.out zF.out aF.out ?_
       intro w6 h6 hg6 hz6
       have hR6 := θ h6
       have hB6 := θ (below_grown HB4.out hg6 HB4.out.size (fun k hk => by cases hk; omega))
       clear h6 hg6 hz6))
   exact ret_row2 (u := .bool false) rfl (w.heap.size + 2) 48 F _ rfl rfl hR6.out Tryz.underlying48 rfl iF.out rfl ⟨F, by rw [hr], by rw [hr]; exact HF.out.below hB6.out, hB6.out⟩
 rw [decide_eq_true hS] at hEq
 have hEq := hEq w4
 have hr : Mir.apS f v = (⟨f.pub, f.many, v.no, L, f.ea⟩, true) := by rw [HR.out, if_pos ⟨by trivial, by trivial, hS⟩]
 clear HR hS
 have y0 : w4.cell? ⟨w.heap.size + 1, 0, none⟩ = some (.int .i64 (no + 1)) := (HY4.out.cell 0).trans h0
 have x33 : w4.cell? ⟨w.heap.size, 33, none⟩ = some (.int .i64 no) := (HX4.out.cell 33).trans h33f
 have x34 : w4.cell? ⟨w.heap.size, 34, none⟩ = some (.slice A n1 ca) := (HX4.out.cell 34).trans h34
 have f33 : w4.frozen? ⟨w.heap.size, 33, none⟩ = false := HX4.out.frozen 33
 have f34 : w4.frozen? ⟨w.heap.size, 34, none⟩ = false := HX4.out.frozen 34
 have hG : (F.setIfInBounds 33 (.int .i64 (no + 1))).setIfInBounds 34 (.slice A2 nl c2) = Mir.folA f.pub f.many (no + 1) (.slice A2 nl c2) (.slice B n2 cb) := by rw [hFe'.out]; exact folA_set Hpd.out.1 ..
 obtain ⟨G, hGG⟩ := exq (Mir.folA f.pub f.many (no + 1) (.slice A2 nl c2) (.slice B n2 cb))
 rw [hGG] at hG
 have iG := θ (show (Tryz.prog.info? 48).map (·.size) = some G.size by rw [← hGG]; exact infoFol Hpd.out.1 ..)
 have zG := θ (show (Mir.folA z32 0 0 (.slice none 0 0) (.slice none 0 0)).size = G.size by rw [← hGG, Mir.folA_size Hpd.out.1]; exact Mir.folA_size z32_length ..)
 have aG := θ (show G.all (·.oneCell') = true by rw [← hGG]; exact Mir.folA_all Hpd.out.1 rfl rfl)
 have HG := θ hG
 have HGG := θ hGG
 clear hG hGG
 go_upto_region 9 with (first
  | (refine wpList_load_blk_g 29 (.tmp 8) (by rfl) (by kernel_rfl) q rfl 29 (arrK .u8 S) (.array 32 5) HT4.out (by kernel_rfl) rfl (info32 HSd.out.1) ?_)
  | (refine wpList_load_mid_g 29 (.tmp 38) (by rfl) (by kernel_rfl) (w.heap.size + 1) 1 rfl (v.st.map fun (n : Nat) => Value.int .u8 (n : Int)) (.array 32 5) Hst4.out (by kernel_rfl) rfl (dV_info Hst.out.1) ?_))
 generalize hge : World.setCell (World.setCell _ _ _) _ _ = w5
 have HX5 := θ (show Blk w5 w.heap.size 48 G by subst hge; exact HG.out ▸ (HX4.out.set_ 33 _).set_ 34 _)
 have g1 := grown_setOne (w := w4) (g := w.heap.size) (o := 33) (.int .i64 (no + 1))
 have g2 := grown_setOne (w := w4.setCell ⟨w.heap.size, 33, none⟩ (.int .i64 (no + 1))) (g := w.heap.size) (o := 34) (.slice A2 nl c2)
 have g3 : w4.grownBy w5 (some w.heap.size) := by subst hge; exact grown_trans g1 g2
 have HR5 := θ (HR4.out.grown g3 (by first | (simp; done) | (simp; omega)))
 have HO5 := θ (HO4.out.kept g3 (.inr (fun e => by have := own_base HO4.out _ e; omega)))
 have HB5 := θ (below_grown HB4.out g3 HB4.out.size (fun k hk => by cases hk; exact Nat.le_refl _))
 have hz5 := Nat.le_trans hz4 g3.size
 clear hge g1 g2 g3 y0 x33 x34 f33 f34 HX4 HR4 HO4 HB4 hz4
 go_wp2_with (first
  | (refine wpList_load_blk rfl 48 (.tmp 2) rfl w.heap.size rfl 48 G _ HX5.out Tryz.underlying48 rfl iG.out ?_)
  | (refine wpList_put_blk rfl 48 (.tmp 4) (.tmp 48) rfl (w.heap.size + 2) G rfl rfl 48 (Mir.folA z32 0 0 (.slice none 0 0) (.slice none 0 0)) HR5.out iG.out zG.out aG.out ?_
     intro w6 h6 hg6 hz6
     have hR6 := θ h6
     have hB6 := θ (below_grown HB5.out hg6 HB5.out.size (fun k hk => by cases hk; omega))
     have hO6 := θ (HO5.out.kept hg6 (.inr (fun e => by have := own_base HO5.out _ e; omega)))
     clear h6 hg6 hz6))
 obtain ⟨A7, c7, hv7, hk7, hm7, -⟩ := own_form hO6.out
 cases hv7
 refine ret_row2 (u := .bool true) rfl (w.heap.size + 2) 48 G _ rfl rfl hR6.out Tryz.underlying48 rfl iG.out rfl ⟨G, by rw [hr], ?_, hB6.out⟩
 rw [hr]
 refine ⟨A2, c2, B, cb, zs, ?_, Hpd.out, Hzs.out, Hdz.out, CellsO.own hO6.out (fun b hb => Hok.out b (by omega)), HBv.out, ?_, hm7, ?_, hcam'.out.2⟩
 · show G = Mir.folA f.pub f.many v.no (.slice A2 L.length c2) (.slice B f.ea.length cb)
   rw [Hno.out, Hnn.out, Hnl.out, Hn2.out, HGG.out]
 · show L.length ≤ c2
   rw [Hnl.out]; exact hk7
 show f.ea.length ≤ cb
 rw [Hn2.out]; exact hcb'.out.2
namespace Mir
def SmS (v : Ve) : Prop := v.ch.length ≤ 1000000 ∧ v.sg.o.length ≤ 1000000 ∧ v.sg.c.length ≤ 1000000 ∧ v.sg.p.length ≤ 1000000
def fewF (f : Fo) : Bool := f.ea.all fewV && fewI f.it && decide (f.ea.length ≤ 2)
theorem drain_ea : ∀ (l : List Ve) (f : Fo), ∀ u ∈ (drain l f).ea, u ∈ l
 | [], f, u, h => by rw [drain_nil] at h; exact h
 | v :: l, f, u, h => by
   rw [drain_cons] at h
   split at h
   · exact List.mem_cons_of_mem _ (drain_ea l _ u h)
   exact h
theorem rcv_ea (f : Fo) (v : Ve) : ∀ u ∈ (rcv f v).1.ea, u ∈ f.ea ∨ u = v := by
 intro u h
 unfold rcv at h
 split at h
 · cases h
 split at h
 · cases h
 split at h
 · cases h
 split at h
 · split at h
   · cases h
   rcases List.mem_append.1 h with h | h
   · rcases List.mem_append.1 h with h | h
     · exact .inl (List.mem_filter.1 h).1
     rw [List.mem_singleton] at h; exact .inr h
   exact .inl (List.mem_filter.1 h).1
 split at h
 · cases h
 exact .inl (drain_ea _ _ u h)
end Mir
theorem rsameF_any (f : Mir.Fo) (F G : Array Value) (w : World) (hF : FolC w f F) (hG : FolC w f G) (hs : ∀ v ∈ f.ea, Mir.SmS v) :
    Calls Tryz.prog 19 #[.agg F, .agg G] w fun e w' => e = .returned (.bool true) ∧ Below w.heap.size w w' := by
 have HF := θ hF
 have HG := θ hG
 have HS := θ hs
 obtain ⟨A, ca, B, cb, hFe, hd, hA, hB, hn, hnm, hm, hmm⟩ := hF
 obtain ⟨A2, ca2, B2, cb2, hGe, -, hA2, hB2, -⟩ := hG
 obtain ⟨many, hmany⟩ := exq f.many
 obtain ⟨no, hno⟩ := exq f.no
 obtain ⟨n1, hn1⟩ := exq f.it.length
 obtain ⟨n2, hn2⟩ := exq f.ea.length
 rw [hmany, hno, hn1, hn2] at hFe hGe
 have f32 : F[32]? = some (.int .i64 many) := by rw [hFe]; exact Mir.folA_hi hd.1 _ _ _ _ 0
 have f33 : F[33]? = some (.int .i64 no) := by rw [hFe]; exact Mir.folA_hi hd.1 _ _ _ _ 1
 have f34 : F[34]? = some (.slice A n1 ca) := by rw [hFe]; exact Mir.folA_hi hd.1 _ _ _ _ 2
 have f35 : F[35]? = some (.slice B n2 cb) := by rw [hFe]; exact Mir.folA_hi hd.1 _ _ _ _ 3
 have g32 : G[32]? = some (.int .i64 many) := by rw [hGe]; exact Mir.folA_hi hd.1 _ _ _ _ 0
 have g33 : G[33]? = some (.int .i64 no) := by rw [hGe]; exact Mir.folA_hi hd.1 _ _ _ _ 1
 have g34 : G[34]? = some (.slice A2 n1 ca2) := by rw [hGe]; exact Mir.folA_hi hd.1 _ _ _ _ 2
 have g35 : G[35]? = some (.slice B2 n2 cb2) := by rw [hGe]; exact Mir.folA_hi hd.1 _ _ _ _ 3
 have HPd := θ hd
 have hEq : ∀ W, (Op.equalIn 10000 29 (.agg (f.pub.map fun (n : Nat) => Value.int .u8 (n : Int)).toArray) (.agg (f.pub.map fun (n : Nat) => Value.int .u8 (n : Int)).toArray)).run Tryz.prog W = .ok true W := fun W => by
  have := run_eqD hd hd W
  rw [decide_eq_true rfl] at this
  have e : arrK .u8 f.pub = (f.pub.map fun (n : Nat) => Value.int .u8 (n : Int)).toArray := by rw [← arrK_toList]
  rw [← e]
  exact this
 have HSm := θ (fun W h1 h2 => rsame_any A A2 n1 n1 ca ca2 f.it f.it W hn1 hn1 (by unfold maxLen at hnm; omega) h1 h2)
 have HA := θ hA
 have HA2 := θ hA2
 have HB1 := θ hB
 have HB2 := θ hB2
 have Hn2 := θ hn2
 have HEQ := θ hEq
 have gm : (many == many) = true := by simp
 have gn : (no == no) = true := by simp
 have hn9 : n2 ≤ 9223372036854775807 := by rw [hn2] at hm; unfold maxLen at hmm; omega
 clear hFe hGe hd hA hA2 hB hB2 hmany hno hn hnm hm hmm hn1 hn2 hs
 go_enter Tryz.func19, Tryz.ntmps19
 go_upto_region 1 with fail
 generalize hge : World.alloc (World.alloc _ _) _ = w1
 have HX := θ (show Blk w1 w.heap.size 48 F by subst hge; exact (blk_two w F G 48 48).1)
 have HY := θ (show Blk w1 (w.heap.size + 1) 48 G by subst hge; exact (blk_two w F G 48 48).2)
 have HB := θ (al2 hge)
 clear hge
 have x32 : w1.cell? ⟨w.heap.size, 32, none⟩ = some (.int .i64 many) := (HX.out.cell 32).trans f32
 have x33 : w1.cell? ⟨w.heap.size, 33, none⟩ = some (.int .i64 no) := (HX.out.cell 33).trans f33
 have x34 : w1.cell? ⟨w.heap.size, 34, none⟩ = some (.slice A n1 ca) := (HX.out.cell 34).trans f34
 have y32 : w1.cell? ⟨w.heap.size + 1, 32, none⟩ = some (.int .i64 many) := (HY.out.cell 32).trans g32
 have y33 : w1.cell? ⟨w.heap.size + 1, 33, none⟩ = some (.int .i64 no) := (HY.out.cell 33).trans g33
 have y34 : w1.cell? ⟨w.heap.size + 1, 34, none⟩ = some (.slice A2 n1 ca2) := (HY.out.cell 34).trans g34
 have R1 := θ (fol_range HF.out HX.out)
 have R2 := θ (fol_range HG.out HY.out)
 go_wp2_with (first
  | (refine wpList_load_mid rfl 29 (.tmp 6) rfl w.heap.size 0 rfl (f.pub.map fun (n : Nat) => Value.int .u8 (n : Int)) (.array 32 5) R1.out (by kernel_rfl) rfl (dV_info HPd.out.1) ?_)
  | (refine wpList_load_mid rfl 29 (.tmp 8) rfl (w.heap.size + 1) 0 rfl (f.pub.map fun (n : Nat) => Value.int .u8 (n : Int)) (.array 32 5) R2.out (by kernel_rfl) rfl (dV_info HPd.out.1) ?_))
 refine (HSm.out w1 (HA.out.below HB.out) (HA2.out.below HB.out)).mono ?_
 rintro e w2 ⟨rfl, hb2⟩
 rw [Mir.sameI_self]
 have HX2 := θ (HX.out.below hb2)
 have HY2 := θ (HY.out.below hb2)
 have HBw := θ (bo HB hb2)
 have z35 : w2.cell? ⟨w.heap.size, 35, none⟩ = some (.slice B n2 cb) := (HX2.out.cell 35).trans f35
 have u35 : w2.cell? ⟨w.heap.size + 1, 35, none⟩ = some (.slice B2 n2 cb2) := (HY2.out.cell 35).trans g35
 have gn2 : ((n2 : Int) == (n2 : Int)) = true := by simp
 clear hb2 x32 x33 x34 y32 y33 y34 R1 R2 HX HY HB hEq
 go_wp2_with fail
 clear z35 u35
 go_loopw [5] (fun i wr => ∃ k : Nat, k ≤ n2 ∧ i = .int .i64 k ∧ Hid (Below w.heap.size w wr) ∧ Hid (Blk wr w.heap.size 48 F) ∧ Hid (Blk wr (w.heap.size + 1) 48 G)) (fun i _ => n2 - (intOf i).toNat)
 case atStart => exact ⟨0, by omega, rfl, HBw, HX2, HY2⟩
 obtain ⟨wk, rfl⟩ : ∃ v : World, v = wr := ⟨_, rfl⟩
 clear HBw HX2 HY2
 obtain ⟨k, hk, rfl, HBk, HXk, HYk⟩ := hrel
 have z35 : wk.cell? ⟨w.heap.size, 35, none⟩ = some (.slice B n2 cb) := (HXk.out.cell 35).trans f35
 have u35 : wk.cell? ⟨w.heap.size + 1, 35, none⟩ = some (.slice B2 n2 cb2) := (HYk.out.cell 35).trans g35
 by_cases hlt : k < n2
 · obtain ⟨v, hv⟩ := getElem?_lt (l := f.ea) (k := k) (by rw [Hn2.out]; exact hlt)
   obtain ⟨b, off, rfl, hb, hcs⟩ := HB1.out.at_ (by rw [Hn2.out]; omega)
   obtain ⟨V, hV, hr⟩ := hcs k v hv
   obtain ⟨b2, off2, rfl, hb2, hcs2⟩ := HB2.out.at_ (by rw [Hn2.out]; omega)
   obtain ⟨U, hU, hr2⟩ := hcs2 k v hv
   have HR1 := θ (show wk.rangeAt b (off + k * 38) V.toList from fun i u hu => cellkM HBk.out (hr i u hu))
   have HR2 := θ (show wk.rangeAt b2 (off2 + k * 38) U.toList from fun i u hu => cellkM HBk.out (hr2 i u hu))
   have HV := θ (hV.below HBk.out)
   have HU := θ (hU.below HBk.out)
   have hsv := HS.out v (List.mem_of_getElem? hv)
   have HSv := θ (fun W h1 h2 => rsamev_any v V U W h1 h2 hsv.1 hsv.2.1 hsv.2.2.1 hsv.2.2.2)
   have hkI : (k : Int) < (n2 : Int) := by omega
   clear hcs hV hr hcs2 hU hr2 hv hsv
   go_upto_region 6 with fail
   refine wp_region_held_drew (S := fun W => Below wk.heap.size wk W) (by kernel_rfl) (below_drewN (Below.refl _ _) 1) (fun Hd => ?_)
   have Hd : Below wk.heap.size wk wk.drew := below_drewN (Below.refl _ _) 1
   have Zd : wk.heap.size ≤ wk.drew.heap.size := Nat.le_refl _
   generalize World.drew wk = wd at *
   refine tq 0 rfl Hd ?_
   refine ts 1 rfl Hd (fun wS hSw => by
    have cc := (hSw.cell (p := ⟨w.heap.size, 35, none⟩) (HXk.out.lt)).trans z35
    go_simp
    try with_reducible rfl) ?_
   try simp only [la, Act.put]
   refine tq 2 rfl Hd ?_
   refine tq 3 rfl Hd ?_
   try simp only [la, Act.put]
   refine tg 4 (.agg (V)) rfl (yieldsIf_load_mid (by rfl) _ _ rfl (b) ((off + k * 38)) rfl (V.toList) _ (fun W hW => (fun j u hu => cellkM hW (HR1.out j u hu))) Tryz.underlying34 rfl (by rw [Array.length_toList]; exact HV.out.info)) Hd ?_
   refine tq 5 rfl Hd ?_
   try simp only [la, Act.put]
   refine ts 6 rfl Hd (fun wS hSw => by
    have cc := (hSw.cell (p := ⟨w.heap.size + 1, 35, none⟩) (HYk.out.lt)).trans u35
    go_simp
    try with_reducible rfl) ?_
   refine tq 7 rfl Hd ?_
   try simp only [la, Act.put]
   refine tq 8 rfl Hd ?_
   refine tg 9 (.agg (U)) rfl (yieldsIf_load_mid (by rfl) _ _ rfl (b2) ((off2 + k * 38)) rfl (U.toList) _ (fun W hW => (fun j u hu => cellkM hW (HR2.out j u hu))) Tryz.underlying34 rfl (by rw [Array.length_toList]; exact HU.out.info)) Hd ?_
   try simp only [la, Act.put]
   refine ty 10 rfl (fun K hK => ?_)
   go_simp
   refine (HSv.out wd (HV.out.below Hd) (HU.out.below Hd)).mono ?_
   rintro e w1_ ⟨rfl, hb1⟩
   have Hb1 := below_of Hd hb1 Hd.size
   have Zb1 := Nat.le_trans Zd hb1.size
   go_wp2_with fail
   refine hK.out _ _ Hb1 fun _ => ?_
   clear hK K
   refine tq 11 rfl Hb1 ?_
   try simp only [la, Act.put]
   refine td ?_ _
   have hB2 := θ (bo HBk Hb1)
   have hX2 := θ (HXk.out.below Hb1)
   have hY2 := θ (HYk.out.below Hb1)
   go_wp2_with fail
   go_roundw
   case rel => exact ⟨k + 1, by omega, by go_num, hB2, hX2, hY2⟩
   case measure => simp [intOf]; omega
 obtain rfl : k = n2 := by omega
 go_wp2_with fail
 go_ret
 exact ⟨rfl, HBk.out⟩
theorem rfewF_any (f : Mir.Fo) (F : Array Value) (w : World) (hF : FolC w f F) :
    Calls Tryz.prog 16 #[.agg F] w fun e w' => e = .returned (.bool (Mir.fewF f)) ∧ Below w.heap.size w w' := by
 obtain ⟨A, ca, B, cb, hFe, hd, hA, hB, hn, hnm, hm, hmm⟩ := hF
 obtain ⟨R, hR⟩ := exq (Mir.fewF f)
 rw [hR]
 have HR := θ hR
 obtain ⟨n1, hn1⟩ := exq f.it.length
 obtain ⟨n2, hn2⟩ := exq f.ea.length
 rw [hn1, hn2] at hFe
 rw [hn2] at hm
 have f34 : F[34]? = some (.slice A n1 ca) := by rw [hFe]; exact Mir.folA_hi hd.1 _ _ _ _ 2
 have f35 : F[35]? = some (.slice B n2 cb) := by rw [hFe]; exact Mir.folA_hi hd.1 _ _ _ _ 3
 have HI := θ (fun W h => rfew_any A n1 ca f.it W hn1 (by unfold maxLen at hnm; omega) h)
 have HA := θ hA
 have HB1 := θ hB
 have Hn2 := θ hn2
 have hn9 : n2 ≤ 9223372036854775807 := by unfold maxLen at hmm; omega
 clear hFe hd hA hB hn hnm hR hn1 hn2
 go_enter Tryz.func16, Tryz.ntmps16
 go_upto_region 1 with fail
 generalize hge : World.alloc _ _ = w1
 have HX := θ (show Blk w1 w.heap.size 48 F by subst hge; exact Blk.new _ _ _)
 have HBw := θ (al1 hge)
 clear hge
 go_wp2_with fail
 go_loopw [3] (fun i wr => ∃ k : Nat, k ≤ n2 ∧ i = .int .i64 k ∧ Hid (∀ j u, j < k → f.ea[j]? = some u → Mir.fewV u = true) ∧ Hid (Below w.heap.size w wr) ∧ Hid (Blk wr w.heap.size 48 F)) (fun i _ => n2 - (intOf i).toNat)
 case atStart => exact ⟨0, by omega, rfl, θ (fun j u h => by omega), HBw, HX⟩
 obtain ⟨wk, rfl⟩ : ∃ v : World, v = wr := ⟨_, rfl⟩
 clear HBw HX
 obtain ⟨k, hk, rfl, hg, HBk, HXk⟩ := hrel
 have z35 : wk.cell? ⟨w.heap.size, 35, none⟩ = some (.slice B n2 cb) := (HXk.out.cell 35).trans f35
 by_cases hlt : k < n2
 · obtain ⟨v, hv⟩ := getElem?_lt (l := f.ea) (k := k) (by rw [Hn2.out]; exact hlt)
   obtain ⟨b, off, rfl, hb, hcs⟩ := HB1.out.at_ (by rw [Hn2.out]; omega)
   obtain ⟨V, hV, hr⟩ := hcs k v hv
   have HR1 := θ (show wk.rangeAt b (off + k * 38) V.toList from fun i u hu => cellkM HBk.out (hr i u hu))
   have HV := θ (hV.below HBk.out)
   have hkI : (k : Int) < (n2 : Int) := by omega
   have Hv := θ hv
   have HFv := θ (fun W h => rfewV_any v V W h)
   obtain ⟨q, hq⟩ := exq (Mir.fewV v)
   rw [hq] at HFv
   have Hq := θ hq
   clear hcs hV hr hv hq
   go_wp2_with (refine wpList_load_mid rfl 34 (.tmp 14) rfl b (off + k * 38) rfl V.toList _ HR1.out Tryz.underlying34 rfl (by rw [Array.length_toList]; exact HV.out.info) ?_)
   refine (HFv.out wk HV.out).mono ?_
   rintro e w2 ⟨rfl, hb2⟩
   have HB2 := θ (bo HBk hb2)
   have HX2 := θ (HXk.out.below hb2)
   clear hb2 z35
   cases q with
   | false =>
     have hr : R = false := by rw [← HR.out]; unfold Mir.fewF; rw [Mir.few_bad Hv.out Hq.out]; rfl
     go_wp2_with fail
     go_ret
     exact ⟨ret_bool (by rw [hr]), HB2.out⟩
   | true =>
     go_wp2_with fail
     go_roundw
     case rel => exact ⟨k + 1, by omega, by go_num, θ (fun j u hj hu => by
      rcases Nat.lt_or_eq_of_le (Nat.le_of_lt_succ hj) with h | rfl
      · exact hg.out j u h hu
      · rw [Hv.out] at hu; cases hu; exact Hq.out), HB2, HX2⟩
     case measure => simp [intOf]; omega
 obtain rfl : k = n2 := by omega
 have z34 : wk.cell? ⟨w.heap.size, 34, none⟩ = some (.slice A n1 ca) := (HXk.out.cell 34).trans f34
 obtain ⟨fi, hfi⟩ := exq (Mir.fewI f.it)
 rw [hfi] at HI
 have hR : R = (fi && decide (k ≤ 2)) := by rw [← HR.out]; unfold Mir.fewF; rw [Mir.few_at (fun j u hj hu => hg.out j u (by rw [← Hn2.out]; exact hj) hu), Bool.true_and, hfi, Hn2.out]
 have HR' := θ hR
 clear hfi hg HR hR
 go_wp2_with fail
 refine (HI.out wk (HA.out.below HBk.out)).mono ?_
 rintro e w2 ⟨rfl, hw⟩
 rw [hw]
 clear hw w2
 cases fi with
 | false =>
   go_wp2_with fail
   go_ret
   exact ⟨ret_bool (by rw [HR'.out]; rfl), HBk.out⟩
 | true =>
   by_cases h2 : k ≤ 2
   · have d2 : decide ((k : Int) ≤ 2) = true := decide_eq_true (by omega)
     have d2' : decide (k ≤ 2) = true := decide_eq_true h2
     have hr : R = true := by rw [HR'.out, decide_eq_true h2]; rfl
     go_wp2_with fail
     go_ret
     exact ⟨ret_bool (by rw [hr]), HBk.out⟩
   have d2 : decide ((k : Int) ≤ 2) = false := decide_eq_false (by omega)
   have d2' : decide (k ≤ 2) = false := decide_eq_false h2
   have hr : R = false := by rw [HR'.out, decide_eq_false h2]; rfl
   go_wp2_with fail
   go_ret
   exact ⟨ret_bool (by rw [hr]), HBk.out⟩
theorem FolC.h33 {w : World} {f : Mir.Fo} {F : Array Value} (h : FolC w f F) : F[33]? = some (.int .i64 f.no) := by
 obtain ⟨A, ca, B, cb, rfl, hd, -⟩ := h
 exact Mir.folA_hi hd.1 _ _ _ _ 1
theorem pwants_any (f : Mir.Fo) (F : Array Value) (w : World) (hF : FolC w f F) :
    Calls Tryz.prog 22 #[.agg F] w fun e w' => e = .returned (.int .i64 (IntKind.i64.wrap (f.no + 1))) ∧ Below w.heap.size w w' := by
 have h33 := hF.h33
 obtain ⟨no, hno⟩ := exq f.no
 obtain ⟨q, hq⟩ := exq (IntKind.i64.wrap (f.no + 1))
 rw [hq]
 rw [hno] at h33 hq
 clear hF
 go_enter Tryz.func22, Tryz.ntmps22
 go_upto_region 1 with fail
 generalize hge : World.alloc _ _ = w1
 have HX := θ (show Blk w1 w.heap.size 48 F by subst hge; exact Blk.new _ _ _)
 have HB := θ (al1 hge)
 have z33 : w1.cell? ⟨w.heap.size, 33, none⟩ = some (.int .i64 no) := (HX.out.cell 33).trans h33
 clear hge
 go_wp2_with fail
 go_ret
 exact ⟨rfl, HB.out⟩
theorem rwants_any (f : Mir.Fo) (F : Array Value) (w : World) (hF : FolC w f F) :
    Calls Tryz.prog 23 #[.agg F] w fun e w' => e = .returned (.int .i64 (IntKind.i64.wrap (f.no + 1))) ∧ Below w.heap.size w w' := by
 have h33 := hF.h33
 obtain ⟨no, hno⟩ := exq f.no
 obtain ⟨q, hq⟩ := exq (IntKind.i64.wrap (f.no + 1))
 rw [hq]
 rw [hno] at h33 hq
 clear hF
 go_enter Tryz.func23, Tryz.ntmps23
 go_upto_region 1 with fail
 generalize hge : World.alloc _ _ = w1
 have HX := θ (show Blk w1 w.heap.size 48 F by subst hge; exact Blk.new _ _ _)
 have HB := θ (al1 hge)
 have z33 : w1.cell? ⟨w.heap.size, 33, none⟩ = some (.int .i64 no) := (HX.out.cell 33).trans h33
 clear hge
 go_wp2_with fail
 go_ret
 exact ⟨rfl, HB.out⟩
end Go.Proofs.YtkflpoiobpblhaaGreat
