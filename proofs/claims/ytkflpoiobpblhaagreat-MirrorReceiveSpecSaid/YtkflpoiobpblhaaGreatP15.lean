/- Walks and plain laws that the statement rests on: MJoin, MNum. -/
import Derived.Test.YtkflpoiobpblhaaGreatP00
import Derived.Test.YtkflpoiobpblhaaGreatP03
import Derived.Test.YtkflpoiobpblhaaGreatP14
namespace Go.Proofs.YtkflpoiobpblhaaGreat
open Go.RowKit Go.Shelf
set_option linter.unusedVariables false
set_option linter.unusedSimpArgs false
namespace Mir
def folA (d : List Nat) (m no : Int) (I E : Value) : Array Value := arrK .u8 d ++ #[.int .i64 m, .int .i64 no, I, E]
theorem folA_size {d : List Nat} (h : d.length = 32) (m no : Int) (I E : Value) : (folA d m no I E).size = 36 := by
 unfold folA; rw [Array.size_append, len32 h]; rfl
theorem folA_low {d : List Nat} (h : d.length = 32) (m no : Int) (I E : Value) {i : Nat} (hi : i < 32) : (folA d m no I E)[i]? = (arrK .u8 d)[i]? := by
 unfold folA; exact Array.getElem?_append_left (by rw [len32 h]; exact hi)
theorem folA_hi {d : List Nat} (h : d.length = 32) (m no : Int) (I E : Value) (i : Nat) : (folA d m no I E)[32 + i]? = (#[.int .i64 m, .int .i64 no, I, E] : Array Value)[i]? := by
 unfold folA; rw [Array.getElem?_append_right (by rw [len32 h]; omega), len32 h, Nat.add_sub_cancel_left]
theorem folA_all {d : List Nat} (h : d.length = 32) {m no : Int} {I E : Value} (hI : I.oneCell' = true) (hE : E.oneCell' = true) : (folA d m no I E).all (·.oneCell') = true := by
 unfold folA
 rw [Array.all_append, arrK_all]
 simp only [List.all_toArray, List.all_cons, List.all_nil, hI, hE]
 rfl
end Mir
theorem wpList_built {P : Program} {ops : Array Oper} {rest : List Oper} {o : Oper} {a : Act} {w : World} {Q : Exit → Act → World → Prop} (hg : o.guard = none) (t : TypeId) (parts : Array (Nat × Operand)) (ho : o.op = .build t parts)
    (vals : List (Nat × Value)) (hv : (parts.map fun (i, x) => (i, a.eval x)).toList = vals) (cells : Array Value) (hb : P.built t vals = some cells) (h : wpList P ops Q rest (a.put o.dst (.agg cells)) w) : wpList P ops Q (o :: rest) a w := by
 refine wpList_build hg t parts ho (by rw [hv, hb]; rfl) ?_
 rw [hv, hb]
 exact h
theorem wpList_moved {P : Program} {ops : Array Oper} {rest : List Oper} {o : Oper} {a : Act} {w : World} {Q : Exit → Act → World → Prop} (hg : o.guard = none) (x : Operand) (ho : o.op = .move x)
    (h : wpList P ops Q rest (a.put o.dst (a.eval x)) w) : wpList P ops Q (o :: rest) a w := by
 refine wpList_plain hg fun _ hK => ?_
 unfold Oper.wp execOp
 simp only [ho]
 exact hK _ _ h
theorem list32 {l : List Nat} (h : l.length = 32) : ∃ a0 a1 a2 a3 a4 a5 a6 a7 a8 a9 a10 a11 a12 a13 a14 a15 a16 a17 a18 a19 a20 a21 a22 a23 a24 a25 a26 a27 a28 a29 a30 a31, l = [a0, a1, a2, a3, a4, a5, a6, a7, a8, a9, a10, a11, a12, a13, a14, a15, a16, a17, a18, a19, a20, a21, a22, a23, a24, a25, a26, a27, a28, a29, a30, a31] :=
 match l, h with
 | [a0, a1, a2, a3, a4, a5, a6, a7, a8, a9, a10, a11, a12, a13, a14, a15, a16, a17, a18, a19, a20, a21, a22, a23, a24, a25, a26, a27, a28, a29, a30, a31], _ => ⟨a0, a1, a2, a3, a4, a5, a6, a7, a8, a9, a10, a11, a12, a13, a14, a15, a16, a17, a18, a19, a20, a21, a22, a23, a24, a25, a26, a27, a28, a29, a30, a31, rfl⟩
theorem built_fol (d : List Nat) (h : d.length = 32) (m : Int) : Tryz.prog.built 48 [(0, .agg (arrK .u8 d)), (1, .int .i64 m)] = some (Mir.folA d m 0 (.slice none 0 0) (.slice none 0 0)) := by
 obtain ⟨a0, a1, a2, a3, a4, a5, a6, a7, a8, a9, a10, a11, a12, a13, a14, a15, a16, a17, a18, a19, a20, a21, a22, a23, a24, a25, a26, a27, a28, a29, a30, a31, rfl⟩ := list32 h
 kernel_rfl
theorem infoFol {d : List Nat} (h : d.length = 32) (m no : Int) (I E : Value) : (Tryz.prog.info? 48).map (·.size) = some (Mir.folA d m no I E).size := by rw [Mir.folA_size h]; kernel_rfl
set_option maxRecDepth 100000 in
set_option maxHeartbeats 4000000 in
theorem wants_any (d : List Nat) (m no : Int) (I E : Value) (w : World) (hd : d.length = 32) (h0 : 0 ≤ no) (h1 : no ≤ 1000000) :
    Calls Tryz.prog 22 #[.agg (Mir.folA d m no I E)] w fun e w' => e = .returned (.int .i64 (no + 1)) ∧ Below w.heap.size w w' := by
 have h33 := Mir.folA_hi hd m no I E 1
 have hz := Mir.folA_size hd m no I E
 generalize Mir.folA d m no I E = F at *
 clear hd
 go_enter Tryz.func22, Tryz.ntmps22
 go_upto_region 1 with (fail)
 generalize hge : World.alloc _ _ = w1
 have hb := al1 hge
 have hB : Blk w1 w.heap.size 48 F := by subst hge; exact Blk.new w _ _
 have x33 : w1.cell? ⟨w.heap.size, 33, none⟩ = some (.int .i64 no) := (hB.cell 33).trans h33
 clear hge
 go_wp2_with (fail)
 go_ret
 exact ⟨rfl, hb⟩
set_option maxRecDepth 100000 in
set_option maxHeartbeats 4000000 in
theorem join_any (d : List Nat) (m : Int) (w : World) (hd : IsD d) :
    Calls Tryz.prog 27 #[.agg (arrK .u8 d), .int .i64 m] w fun e w' => e = .returned (.tuple #[.agg (if Mir.manyB m then Mir.folA d m 0 (.slice none 0 0) (.slice none 0 0) else Mir.folA z32 0 0 (.slice none 0 0) (.slice none 0 0)), .int .i64 (if Mir.manyB m then 0 else 40)]) ∧ Below w.heap.size w w' := by
 have Hd := Lib.hid hd
 clear hd
 have HM := Lib.hid (fun W => isMany_any m W)
 obtain ⟨Z, hZ⟩ : ∃ Z, Z = Mir.folA z32 0 0 (.slice none 0 0) (.slice none 0 0) := ⟨_, rfl⟩
 rw [← hZ]
 obtain ⟨F, hF⟩ : ∃ F, F = Mir.folA d m 0 (.slice none 0 0) (.slice none 0 0) := ⟨_, rfl⟩
 rw [← hF]
 have hZ' := Lib.hid hZ
 have hF' := Lib.hid hF
 have zZ := Lib.hid (show Z.size = 36 by rw [hZ]; exact Mir.folA_size z32_length ..)
 have zF := Lib.hid (show F.size = 36 by rw [hF]; exact Mir.folA_size Hd.out.1 ..)
 have iZ := Lib.hid (show (Tryz.prog.info? 48).map (·.size) = some Z.size by rw [hZ]; exact infoFol z32_length ..)
 have iF := Lib.hid (show (Tryz.prog.info? 48).map (·.size) = some F.size by rw [hF]; exact infoFol Hd.out.1 ..)
 have oZ := Lib.hid (show Z.all (·.oneCell') = true by rw [hZ]; kernel_rfl)
 have oF := Lib.hid (show F.all (·.oneCell') = true by rw [hF]; exact Mir.folA_all Hd.out.1 rfl rfl)
 clear hZ hF
 generalize Mir.manyB m = q at *
 cases q with
 | false =>
   go_enter Tryz.func27, Tryz.ntmps27
   go_upto_region 1 with (fail)
   generalize hge : World.alloc (World.alloc _ _) _ = w1
   have HX := Lib.hid (show Blk w1 w.heap.size 29 (arrK .u8 d) by subst hge; exact (blk_two w (arrK .u8 d) _ 29 48).1)
   have HR := Lib.hid (show Blk w1 (w.heap.size + 1) 48 Z by subst hge; rw [hZ'.out]; exact (blk_two w (arrK .u8 d) _ 29 48).2)
   have HB := Lib.hid (al2 hge)
   clear hge
   go_wp2_with (fail)
   refine (HM.out _).mono ?_
   rintro e w2 ⟨rfl, rfl⟩
   go_wp2_with (first
    | (refine wpList_load_blk rfl 48 (.tmp 4) rfl (w.heap.size + 1) rfl 48 Z _ HR.out Tryz.underlying48 rfl iZ.out ?_)
    | (refine wpList_store_same rfl 48 (.tmp 4) (.tmp 9) rfl (w.heap.size + 1) Z rfl rfl 48 HR.out iZ.out oZ.out ?_))
   exact ret_row2 rfl (w.heap.size + 1) 48 Z _ rfl rfl HR.out Tryz.underlying48 rfl iZ.out rfl ⟨rfl, HB.out⟩
 | true =>
   go_enter Tryz.func27, Tryz.ntmps27
   go_upto_region 1 with (fail)
   generalize hge : World.alloc (World.alloc _ _) _ = w1
   have HX := Lib.hid (show Blk w1 w.heap.size 29 (arrK .u8 d) by subst hge; exact (blk_two w (arrK .u8 d) _ 29 48).1)
   have HR := Lib.hid (show Blk w1 (w.heap.size + 1) 48 Z by subst hge; rw [hZ'.out]; exact (blk_two w (arrK .u8 d) _ 29 48).2)
   have HB := Lib.hid (al2 hge)
   clear hge
   go_wp2_with (fail)
   refine (HM.out _).mono ?_
   rintro e w2 ⟨rfl, rfl⟩
   go_wp2_with (first
    | (refine wpList_load_blk rfl 29 (.tmp 2) rfl w.heap.size rfl 29 (arrK .u8 d) (.array 32 5) HX.out (by kernel_rfl) rfl (info32 Hd.out.1) ?_
       refine wpList_moved rfl (.tmp 1) rfl ?_
       refine wpList_built rfl 48 #[(0, .tmp 10), (1, .tmp 11)] rfl [(0, .agg (arrK .u8 d)), (1, .int .i64 m)] (by simp [Act.put, Act.eval]) F (by rw [hF'.out]; exact built_fol d Hd.out.1 m) ?_)
    | (refine wpList_put_blk rfl 48 (.tmp 4) (.tmp 12) rfl (w.heap.size + 1) F rfl rfl 48 Z HR.out iF.out (by rw [zZ.out, zF.out]) oF.out ?_
       intro w6 HD6 hg6 hz6
       have HD6 := Lib.hid HD6
       have HB6 := below_grown HB.out hg6 HB.out.size (by simp)
       clear hg6 hz6))
   exact ret_row2 rfl (w.heap.size + 1) 48 F _ rfl rfl HD6.out Tryz.underlying48 rfl iF.out rfl ⟨rfl, HB6⟩
end Go.Proofs.YtkflpoiobpblhaaGreat
namespace Go.Proofs.YtkflpoiobpblhaaGreat
open Go.RowKit Go.Shelf
set_option linter.unusedVariables false
set_option linter.unusedSimpArgs false
namespace Mir
def nbyte (n i : Nat) : Nat := (n >>> (8 * (7 - i))) % 256
def numS (n : Nat) : List Nat := (List.range 8).map (nbyte n)
def numK (n k : Nat) : List Nat := (List.range 8).map fun i => if i < k then nbyte n i else 0
theorem numK_length (n k : Nat) : (numK n k).length = 8 := by simp [numK]
theorem numK_8 (n : Nat) : numK n 8 = numS n := by
 unfold numK numS
 refine List.map_congr_left fun i hi => ?_
 rw [if_pos (List.mem_range.1 hi)]
theorem numK_set (n k : Nat) (hk : k < 8) : (numK n k).set k (nbyte n k) = numK n (k + 1) := by
 refine List.ext_getElem? fun i => ?_
 unfold numK
 rw [List.getElem?_set]
 simp only [List.length_map, List.length_range, List.getElem?_map]
 rcases Nat.lt_or_ge i 8 with h | h
 · rw [List.getElem?_range h]
   by_cases e : k = i
   · subst e; simp [hk]
   · rw [if_neg e]
     simp only [Option.map_some]
     congr 1
     by_cases h1 : i < k
     · rw [if_pos h1, if_pos (by omega)]
     · rw [if_neg h1, if_neg (by omega)]
 · rw [if_neg (by omega), List.getElem?_eq_none (by simpa using h)]; rfl
theorem numS_bytes (n : Nat) : ∀ b ∈ numS n, b < 256 := by
 intro b hb
 obtain ⟨i, -, rfl⟩ := List.mem_map.1 hb
 exact Nat.mod_lt _ (by decide)
end Mir
set_option maxRecDepth 100000 in
set_option maxHeartbeats 4000000 in
theorem number_any (n : Nat) (w : World) (hn : n < 9223372036854775808) :
    Calls Tryz.prog 63 #[.int .i64 n] w fun e w' => ∃ g, e = .returned (.slice (some ⟨g, 0, none⟩) 8 8) ∧ Cells w' (some ⟨g, 0, none⟩) (bytesV (Mir.numS n)) ∧ w.heap.size ≤ g ∧ Below w.heap.size w w' := by
 obtain ⟨mk, hm1, hm2, hm3, hm4⟩ := make_letter (P := Tryz.prog) 22 5 (.int .u8 0) 1 (by kernel_rfl) (by kernel_rfl) rfl 8 (by omega) (by omega)
 have hm1' : ∀ W, Sem.run Tryz.prog (Instr.makeSlice 22 (.int .i64 8) (.int .i64 8)) W = .ok (.slice (some ⟨W.heap.size, 0, none⟩) 8 8) (mk W) := hm1
 go_enter Tryz.func63, Tryz.ntmps63
 go_wp2_with (fail)
 have HX : Hid (Blk (mk w) w.heap.size 5 (arrK .u8 (Mir.numK n 0))) := Lib.hid (hm2 w)
 have HB : Hid (Below w.heap.size w (mk w)) := Lib.hid (hm3 w)
 generalize mk w = w1 at *
 clear hm1 hm2 hm3 hm4 hm1'
 go_loopw [8] (fun i W => ∃ k : Nat, k ≤ 8 ∧ i = .int .i64 k ∧ Hid (Blk W w.heap.size 5 (arrK .u8 (Mir.numK n k))) ∧ Hid (Below w.heap.size w W)) (fun i _ => 8 - (intOf i).toNat)
 case atStart => exact ⟨0, by decide, rfl, HX.out, HB.out⟩
 case round =>
  obtain ⟨k, hk, rfl, HX, HB⟩ := hrel
  by_cases hlt : k < 8
  · have hlI : (k : Int) < 8 := by omega
    have e1 := HX.out.word (i := k) (by rw [Mir.numK_length]; exact hlt)
    have f1 := HX.out.frozen k
    have Hp := Lib.hid (HX.out.put k (Mir.nbyte n k))
    rw [Mir.numK_set n k hlt] at Hp
    have hB2 := Lib.hid (below_grown HB.out (grown_setCell wr ⟨w.heap.size, k, none⟩ (.int .u8 ((Mir.nbyte n k : Nat) : Int))) HB.out.size (by simp))
    generalize (Mir.numK n k).getD k 0 = old at *
    go_wp2_with (fail)
    have hv : ((n : Int) / 2 ^ (8 * (7 - k)) % 256) = ((Mir.nbyte n k : Nat) : Int) := by
     unfold Mir.nbyte
     rw [Nat.shiftRight_eq_div_pow]
     push_cast
     rfl
    rw [hv]
    go_roundw
    case rel => exact ⟨k + 1, by omega, by go_num, Hp.out, hB2.out⟩
    case measure => simp [intOf]; omega
  · obtain rfl : k = 8 := by omega
    rw [Mir.numK_8] at HX
    go_wp2_with (fail)
    go_ret
    exact ⟨_, rfl, by have := cells_blk HX.out; rwa [arrK_bytesV] at this, Nat.le_refl _, HB.out⟩
end Go.Proofs.YtkflpoiobpblhaaGreat
