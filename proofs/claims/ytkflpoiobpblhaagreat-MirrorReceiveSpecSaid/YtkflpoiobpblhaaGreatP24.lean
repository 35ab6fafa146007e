/- Walks and plain laws that the statement rests on: SigP, Sig2, Sig3. -/
import Derived.Test.YtkflpoiobpblhaaGreatP00
import Derived.Test.YtkflpoiobpblhaaGreatP22
import Derived.Test.YtkflpoiobpblhaaGreatP23
import Derived.Test.YtkflpoiobpblhaaGreatPS
namespace Go.Proofs.YtkflpoiobpblhaaGreat
open Go.RowKit
def secT : List Nat := strL ⟨#[115, 101, 99, 114, 101, 116]⟩
def openT : List Nat := strL ⟨#[111, 112, 101, 110]⟩
def oneT : List Nat := strL ⟨#[111, 110, 101]⟩
def msgT : List Nat := strL ⟨#[109, 101, 115, 115, 97, 103, 101]⟩
theorem twoL_length (i : Nat) : (twoL i).length = 2 := rfl
theorem twoL_byte (i : Nat) : ByteL (twoL i) := fun j => by
 match j with
 | 0 => show i / 256 % 256 < 256; omega
 | 1 => show i % 256 < 256; omega
 | j + 2 => show (0 : Nat) < 256; omega
def bn (b : Bool) : Nat := if b then 1 else 0
def secS (s : List Nat) (i j b : Nat) : List Nat := tagS secT (s ++ twoL i ++ [j, b])
def hashS (d : List Nat) : List Nat := tagS openT d
theorem secS_isD (s : List Nat) (i j b : Nat) : IsD (secS s i j b) := tagS_isD _ _
theorem hashS_isD (d : List Nat) : IsD (hashS d) := tagS_isD _ _
theorem secS_eq (s : List Nat) (i j b : Nat) : secS s i j b = tagS (strL ⟨#[115, 101, 99, 114, 101, 116]⟩) (s ++ twoL i ++ [j, b]) := rfl
theorem hashS_eq (d : List Nat) : hashS d = tagS (strL ⟨#[111, 112, 101, 110]⟩) d := rfl
def bothL (f : Nat → Bool → List Nat) : Nat → List (List Nat)
 | 0 => []
 | k + 1 => bothL f k ++ [f k false] ++ [f k true]
theorem bothL_zero (f : Nat → Bool → List Nat) : bothL f 0 = [] := rfl
theorem bothL_succ (f : Nat → Bool → List Nat) (k : Nat) : bothL f (k + 1) = bothL f k ++ [f k false] ++ [f k true] := rfl
theorem bothL_length (f : Nat → Bool → List Nat) : ∀ k, (bothL f k).length = 2 * k
 | 0 => rfl
 | k + 1 => by rw [bothL_succ, List.length_append, List.length_append, bothL_length f k]; simp; omega
theorem bothL_isL (f : Nat → Bool → List Nat) : ∀ k, (∀ j b, j < k → IsD (f j b)) → IsL (bothL f k)
 | 0, _ => IsL.nil_
 | k + 1, h => by
   rw [bothL_succ]
   exact ((bothL_isL f k fun j b hj => h j b (by omega)).snoc (h k false (by omega))).snoc (h k true (by omega))
theorem bothL_congr {f g : Nat → Bool → List Nat} : ∀ k, (∀ j b, j < k → f j b = g j b) → bothL f k = bothL g k
 | 0, _ => rfl
 | k + 1, h => by
   rw [bothL_succ, bothL_succ, bothL_congr k fun j b hj => h j b (by omega), h k false (by omega), h k true (by omega)]
theorem bothL_flat (f : Nat → Bool → List Nat) (k : Nat) : (bothL f (k + 1)).flatten = (bothL f k).flatten ++ f k false ++ f k true := by rw [bothL_succ]; simp
theorem IsL.flat_byte {l : List (List Nat)} (h : IsL l) : ByteL l.flatten := by
 induction l with
 | nil => exact fun j => by simp
 | cons d l ih =>
   rw [List.flatten_cons]
   exact (h d (by simp)).2.append (ih fun x hx => h x (by simp [hx]))
def pubS (f : Nat → Bool → List Nat) : List Nat := tagS oneT (bothL f 64).flatten
theorem pubS_isD (f : Nat → Bool → List Nat) : IsD (pubS f) := tagS_isD _ _
theorem pubS_eq (f : Nat → Bool → List Nat) : pubS f = tagS (strL ⟨#[111, 110, 101]⟩) (bothL f 64).flatten := rfl
def keyF (s : List Nat) (i : Nat) (j : Nat) (b : Bool) : List Nat := hashS (secS s i j (bn b))
theorem keyF_eq (s : List Nat) (i j : Nat) (b : Bool) : keyF s i j b = hashS (secS s i j (bn b)) := rfl
theorem keyF_isD (s : List Nat) (i j : Nat) (b : Bool) : IsD (keyF s i j b) := hashS_isD _
def pubL (s : List Nat) (m : Nat) : List (List Nat) := (List.range m).map fun i => pubS (keyF s i)
theorem pubL_length (s : List Nat) (m : Nat) : (pubL s m).length = m := by simp [pubL]
theorem pubL_zero (s : List Nat) : pubL s 0 = [] := rfl
theorem pubL_succ (s : List Nat) (m : Nat) : pubL s (m + 1) = pubL s m ++ [pubS (keyF s m)] := by simp [pubL, List.range_succ]
theorem pubL_isL (s : List Nat) (m : Nat) : IsL (pubL s m) := fun d hd => by
 unfold pubL at hd
 rw [List.mem_map] at hd
 obtain ⟨i, _, rfl⟩ := hd
 exact pubS_isD _
theorem pubL_get (s : List Nat) {m i : Nat} (h : i < m) : (pubL s m)[i]? = some (pubS (keyF s i)) := by simp [pubL, h]
def msgS (root : List Nat) (i : Nat) (msg : List Nat) : List Nat := tagS msgT (root ++ twoL i ++ msg)
theorem msgS_isD (root : List Nat) (i : Nat) (msg : List Nat) : IsD (msgS root i msg) := tagS_isD _ _
theorem msgS_eq (root : List Nat) (i : Nat) (msg : List Nat) : msgS root i msg = tagS (strL ⟨#[109, 101, 115, 115, 97, 103, 101]⟩) (root ++ twoL i ++ msg) := rfl
def bitS (d : List Nat) (j : Nat) : Bool := d.getD (j / 8) 0 / 2 ^ (7 - j % 8) % 2 == 1
theorem bitS_eq (d : List Nat) (j : Nat) : bitS d j = (d.getD (j / 8) 0 / 2 ^ (7 - j % 8) % 2 == 1) := rfl
def bitL (d : List Nat) (k : Nat) : List Bool := (List.range k).map (bitS d)
theorem bitL_length (d : List Nat) (k : Nat) : (bitL d k).length = k := by simp [bitL]
theorem bitL_zero (d : List Nat) : bitL d 0 = [] := rfl
theorem bitL_succ (d : List Nat) (k : Nat) : bitL d (k + 1) = bitL d k ++ [bitS d k] := by simp [bitL, List.range_succ]
def openL (s : List Nat) (i : Nat) (x : List Bool) (k : Nat) : List (List Nat) := (List.range k).map fun j => secS s i j (bn (x.getD j false))
def closL (s : List Nat) (i : Nat) (x : List Bool) (k : Nat) : List (List Nat) := (List.range k).map fun j => keyF s i j (!x.getD j false)
theorem openL_length (s : List Nat) (i : Nat) (x : List Bool) (k : Nat) : (openL s i x k).length = k := by simp [openL]
theorem closL_length (s : List Nat) (i : Nat) (x : List Bool) (k : Nat) : (closL s i x k).length = k := by simp [closL]
theorem openL_succ (s : List Nat) (i : Nat) (x : List Bool) (k : Nat) : openL s i x (k + 1) = openL s i x k ++ [secS s i k (bn (x.getD k false))] := by simp [openL, List.range_succ]
theorem closL_succ (s : List Nat) (i : Nat) (x : List Bool) (k : Nat) : closL s i x (k + 1) = closL s i x k ++ [keyF s i k (!x.getD k false)] := by simp [closL, List.range_succ]
theorem openL_isL (s : List Nat) (i : Nat) (x : List Bool) (k : Nat) : IsL (openL s i x k) := fun d hd => by
 unfold openL at hd
 rw [List.mem_map] at hd
 obtain ⟨j, _, rfl⟩ := hd
 exact secS_isD _ _ _ _
theorem closL_isL (s : List Nat) (i : Nat) (x : List Bool) (k : Nat) : IsL (closL s i x k) := fun d hd => by
 unfold closL at hd
 rw [List.mem_map] at hd
 obtain ⟨j, _, rfl⟩ := hd
 exact keyF_isD _ _ _ _
theorem openL_get (s : List Nat) (i : Nat) (x : List Bool) {k j : Nat} (h : j < k) : (openL s i x k)[j]? = some (secS s i j (bn (x.getD j false))) := by simp [openL, h]
theorem closL_get (s : List Nat) (i : Nat) (x : List Bool) {k j : Nat} (h : j < k) : (closL s i x k)[j]? = some (keyF s i j (!x.getD j false)) := by simp [closL, h]
def verF (x : List Bool) (o c : List (List Nat)) (j : Nat) (b : Bool) : List Nat := if x.getD j false == b then hashS (o.getD j z32) else c.getD j z32
theorem verF_eq (x : List Bool) (o c : List (List Nat)) (j : Nat) (b : Bool) : verF x o c j b = if x.getD j false == b then hashS (o.getD j z32) else c.getD j z32 := rfl
theorem getD_isD {l : List (List Nat)} (h : IsL l) (j : Nat) : IsD (l.getD j z32) := by
 rw [List.getD_eq_getElem?_getD]
 cases hj : l[j]? with
 | none => exact z32_isD
 | some d => exact h d (List.mem_of_getElem? hj)
theorem verF_isD (x : List Bool) {o c : List (List Nat)} (hc : IsL c) (j : Nat) (b : Bool) : IsD (verF x o c j b) := by
 unfold verF
 split
 · exact hashS_isD _
 · exact getD_isD hc j
def verS (root : List Nat) (n at_ : Int) (msg : List Nat) (o c p : List (List Nat)) : Bool :=
 decide (1 ≤ n ∧ n ≤ 4096 ∧ 0 ≤ at_ ∧ at_ < n ∧ o.length = 64 ∧ c.length = 64 ∧ msg.length ≤ 65536) &&
 (okClimb at_ n p.length && decide (climbR (pubS (verF (bitL (msgS root at_.toNat msg) 64) o c)) at_ n p = root))
theorem verF_sign (s : List Nat) (i : Nat) (x y : List Bool) (hxy : ∀ j, j < 64 → y.getD j false = x.getD j false) : ∀ j b, j < 64 → verF y (openL s i x 64) (closL s i x 64) j b = keyF s i j b := by
 intro j b hj
 unfold verF
 have e1 : (openL s i x 64).getD j z32 = secS s i j (bn (x.getD j false)) := by rw [List.getD_eq_getElem?_getD, openL_get s i x hj]; rfl
 have e2 : (closL s i x 64).getD j z32 = keyF s i j (!x.getD j false) := by rw [List.getD_eq_getElem?_getD, closL_get s i x hj]; rfl
 rw [e1, e2, hxy j hj]
 by_cases h : x.getD j false = b
 · rw [h, if_pos (by simp)]; rfl
 · rw [if_neg (by simpa using h)]
   congr 1
   revert h
   cases x.getD j false <;> cases b <;> simp
theorem okClimb_nat {i n m : Nat} (h : i < n) (hn : n ≤ 1000000) : okClimb (i : Int) (n : Int) m = decide (m = (dirsS i n).length) := by
 unfold okClimb
 have : decide (1 ≤ (n : Int) ∧ (n : Int) ≤ 1099511627776 ∧ 0 ≤ (i : Int) ∧ (i : Int) < (n : Int)) = true := by simp; omega
 rw [this, Bool.true_and]
 simp
theorem climbR_nat {i n : Nat} (d : List Nat) (p : List (List Nat)) (h : i < n) (hn : n ≤ 1000000) (hp : p.length = (dirsS i n).length) : climbR d (i : Int) (n : Int) p = climbS d i n p := by
 unfold climbR
 rw [okClimb_nat h hn, hp]
 simp
theorem pathR_nat {l : List (List Nat)} {i : Nat} (h : i < l.length) : pathR l (i : Int) = pathS l i := by
 unfold pathR
 rw [if_pos (by omega)]
 simp
theorem ver_sign (s : List Nat) (m i : Nat) (msg : List Nat) (x : List Bool) (hi : i < m) (hm : m ≤ 4096) (hl : msg.length ≤ 65536)
    (hx : ∀ j, j < 64 → (bitL (msgS (treeS (pubL s m)) i msg) 64).getD j false = x.getD j false) :
    verS (treeS (pubL s m)) (m : Int) (i : Int) msg (openL s i x 64) (closL s i x 64) (pathR (pubL s m) (i : Int)) = true := by
 have h1 : (pathR (pubL s m) (i : Int)).length = (dirsS i m).length := by
  rw [pathR_nat (by rw [pubL_length]; exact hi)]
  exact pathS_length m _ _ (pubL_length s m)
 unfold verS
 rw [openL_length, closL_length, okClimb_nat hi (by omega), h1, climbR_nat _ _ hi (by omega) h1, Int.toNat_natCast]
 have e : pubS (verF (bitL (msgS (treeS (pubL s m)) i msg) 64) (openL s i x 64) (closL s i x 64)) = pubS (keyF s i) := by
  unfold pubS
  rw [bothL_congr 64 (verF_sign s i x _ hx)]
 rw [e, pathR_nat (by rw [pubL_length]; exact hi), climb_path m _ _ _ (pubL_length s m) (pubL_get s hi)]
 simp
 omega
attribute [irreducible] secT openT oneT msgT secS hashS bothL pubS keyF pubL msgS bitS bitL openL closL verF
end Go.Proofs.YtkflpoiobpblhaaGreat
namespace Go.Proofs.YtkflpoiobpblhaaGreat
open Go.RowKit
theorem Blk.cellv {w : World} {g : Nat} {t : TypeId} {cs : Array Value} (h : Blk w g t cs) {i : Nat} {v : Value} (hv : cs[i]? = some v) : w.cell? ⟨g, i, none⟩ = some v := (h.cell i).trans hv
theorem grown_setOne {w : World} {g o : Nat} (v : Value) : w.grownBy (w.setCell ⟨g, o, none⟩ v) (some g) := by
 refine ⟨rfl, rfl, rfl, ?_, fun k hk hne => ?_⟩
 · unfold World.setCell; simp
 · have hkg : g ≠ k := fun e => hne (by rw [e])
   unfold World.setCell
   simp [Array.getElem?_modify, hkg]
theorem size_setCell (w : World) (a : Addr) (v : Value) : (w.setCell a v).heap.size = w.heap.size := by unfold World.setCell; simp
theorem cells_one {v : Value} (h : v.oneCell' = true) : v.cells = #[v] := by
 cases v <;> first | rfl | simp [Value.oneCell'] at h
section
variable {P : Program} {w : World} {ops : Array Oper} {rest : List Oper} {o : Oper} {a : Act} {Q : Exit → Act → World → Prop} {K : Act → World → Prop}
theorem run_store_cell (ty : TypeId) (g i : Nat) (t : TypeId) (cs : Array Value) (v : Value) (hg : Blk w g t cs) (hic : i < cs.size) (hi : (P.info? ty).map (·.size) = some 1) (h1 : v.oneCell' = true) :
    (Instr.storeAt ty (.pointer (some ⟨g, i, none⟩)) v).run P w = .ok () (w.setCells g i [v]) := by
 have hc := hg.cell i
 have hf := hg.frozen i
 have := run_storeCells_cells (P := P) g i [v] 0 w (fun j hj => by
  obtain rfl : j = 0 := by simpa using hj
  rw [Nat.add_zero, hc]; simp [hic]) (fun j hj => by
  obtain rfl : j = 0 := by simpa using hj
  exact hf) (fun u hu => by rw [List.mem_singleton] at hu; rw [hu]; exact h1)
 have hv := cells_one h1
 cases hq : P.info? ty with
 | none => simp [hq] at hi
 | some ti =>
   have hs : ti.size = 1 := by simpa [hq] using hi
   simp only [Nat.add_zero] at this
   simp [Instr.storeAt, Instr.sureAddr, storeVar, sizeOf, typeInfo, hq, hv, hs, this]
theorem step_put_cell {E : Prop} (hgd : o.guard = none) (ty : TypeId) (x y : Operand) (ho : o.op = .store ty x y) (g i : Nat) (v : Value) (hx : a.eval x = .pointer (some ⟨g, i, none⟩)) (hy : a.eval y = v)
    (t : TypeId) (cs : Array Value) (hg : Blk w g t cs) (hic : i < cs.size) (hi : (P.info? ty).map (·.size) = some 1) (h1 : v.oneCell' = true)
    (h : ∀ w', Blk w' g t (cs.setIfInBounds i v) → w.grownBy w' (some g) → w'.heap.size = w.heap.size → K (a.put o.dst undef) w') : if Region.wanted o (yielded ops a.tmps) = true then Oper.wp P o a w K Q else E := by
 have hw : Region.wanted o (yielded ops a.tmps) = true := by simp [Region.wanted, hgd]
 rw [if_pos hw]
 unfold Oper.wp execOp
 simp only [ho, hx, hy, Sem.run_bind, run_store_cell ty g i t cs v hg hic hi h1, Result.andThen_ok, Sem.run_pure]
 exact h _ (hg.set_ i v) (grown_setOne v) (size_setCell _ _ _)
end
theorem cells_dig {w : World} {g : Nat} {t : TypeId} {d : List Nat} (h : Blk w g t (arrK .u8 d)) : Cells w (some ⟨g, 0, none⟩) (bytesV d) := by
 have := cells_blk h
 rwa [arrK_bytesV] at this
set_option linter.unusedSimpArgs false in
set_option maxRecDepth 100000 in
set_option maxHeartbeats 4000000 in
theorem open_any (d : List Nat) (w : World) (hd : IsD d) :
    Calls Tryz.prog 77 #[.agg (arrK .u8 d)] w fun e w' => e = .returned (.agg (arrK .u8 (hashS d))) ∧ Below w.heap.size w w' := by
 have Hd := Lib.hid hd
 clear hd
 go_enter Tryz.func77, Tryz.ntmps77
 go_wp2_with (fail)
 generalize hge : World.alloc _ _ = w1
 have H1 := (show Blk w1 w.heap.size 29 (arrK .u8 d) by subst hge; exact (blk_two w (arrK .u8 d) (arrK .u8 z32) 29 29).1)
 have HR := Lib.hid (show Blk w1 (w.heap.size + 1) 29 (arrK .u8 z32) by subst hge; exact (blk_two w (arrK .u8 d) (arrK .u8 z32) 29 29).2)
 have HB := Lib.hid (al2 hge)
 have C1 : Cells w1 (some ⟨w.heap.size, 0, none⟩) (bytesV d) := by have := cells_blk H1; rwa [arrK_bytesV] at this
 clear hge H1
 refine (tagged_any _ _ _ _ d _ C1 Hd.out.1 (by omega) Hd.out.2 (by decide)).mono ?_
 rintro e w5 ⟨rfl, hb5⟩
 have HR5 := Lib.hid (HR.out.below hb5)
 have HB5 := Lib.hid (HB.out.trans (hb5.mono HB.out.size))
 rw [← hashS_eq d]
 have lt := Lib.hid (hashS_isD d).1
 clear hb5 C1
 go_wp2_with (
  (refine wpList_put_blk rfl 29 (.tmp 2) (.tmp 4) rfl (w.heap.size + 1) (arrK .u8 (hashS d)) rfl rfl 29 (arrK .u8 z32) HR5.out (info32 lt.out) (by rw [len32 lt.out, len32 z32_length]) (arrK_all _ _) ?_
   intro w6 HD6 hg6 hz6
   have HD6 := Lib.hid HD6
   have HB6 := below_grown HB5.out hg6 HB5.out.size (by simp)
   clear hg6 hz6))
 exact ret_row rfl (w.heap.size + 1) 29 (arrK .u8 (hashS d)) (.array 32 5) rfl HD6.out (by kernel_rfl) rfl (info32 lt.out) rfl ⟨rfl, HB6⟩
set_option linter.unusedSimpArgs false in
set_option maxRecDepth 100000 in
set_option maxHeartbeats 4000000 in
theorem rhash_any (d : List Nat) (w : World) (hd : IsD d) :
    Calls Tryz.prog 71 #[.agg (arrK .u8 d)] w fun e w' => e = .returned (.agg (arrK .u8 (hashS d))) ∧ Below w.heap.size w w' := by
 have Hd := Lib.hid hd
 clear hd
 go_enter Tryz.func71, Tryz.ntmps71
 go_wp2_with (fail)
 generalize hge : World.alloc _ _ = w1
 have H1 := (show Blk w1 w.heap.size 29 (arrK .u8 d) by subst hge; exact (blk_two w (arrK .u8 d) (arrK .u8 z32) 29 29).1)
 have HR := Lib.hid (show Blk w1 (w.heap.size + 1) 29 (arrK .u8 z32) by subst hge; exact (blk_two w (arrK .u8 d) (arrK .u8 z32) 29 29).2)
 have HB := Lib.hid (al2 hge)
 have C1 : Cells w1 (some ⟨w.heap.size, 0, none⟩) (bytesV d) := by have := cells_blk H1; rwa [arrK_bytesV] at this
 clear hge H1
 refine (rtagged_any _ _ _ _ d _ C1 Hd.out.1 (by omega) Hd.out.2 (by decide)).mono ?_
 rintro e w5 ⟨rfl, hb5⟩
 have HR5 := Lib.hid (HR.out.below hb5)
 have HB5 := Lib.hid (HB.out.trans (hb5.mono HB.out.size))
 rw [← hashS_eq d]
 have lt := Lib.hid (hashS_isD d).1
 clear hb5 C1
 go_wp2_with (
  (refine wpList_put_blk rfl 29 (.tmp 2) (.tmp 4) rfl (w.heap.size + 1) (arrK .u8 (hashS d)) rfl rfl 29 (arrK .u8 z32) HR5.out (info32 lt.out) (by rw [len32 lt.out, len32 z32_length]) (arrK_all _ _) ?_
   intro w6 HD6 hg6 hz6
   have HD6 := Lib.hid HD6
   have HB6 := below_grown HB5.out hg6 HB5.out.size (by simp)
   clear hg6 hz6))
 exact ret_row rfl (w.heap.size + 1) 29 (arrK .u8 (hashS d)) (.array 32 5) rfl HD6.out (by kernel_rfl) rfl (info32 lt.out) rfl ⟨rfl, HB6⟩
def pick4 {α : Type} (a b c d : α) (k : Nat) : α := if k = 0 then a else if k = 1 then b else if k = 2 then c else d
set_option maxRecDepth 100000 in
set_option maxHeartbeats 2000000 in
theorem concat3 (b n1 c1 n2 c2 n3 c3 : Nat) (A1 A2 A3 : Option Addr) (cs1 cs2 cs3 : List Value) (w : World) (f1 : w.cell? ⟨b, 0, none⟩ = some (.slice A1 n1 c1)) (f2 : w.cell? ⟨b, 1, none⟩ = some (.slice A2 n2 c2)) (f3 : w.cell? ⟨b, 2, none⟩ = some (.slice A3 n3 c3))
    (h1 : Cells w A1 cs1) (h2 : Cells w A2 cs2) (h3 : Cells w A3 cs3) (l1 : cs1.length = n1) (l2 : cs2.length = n2) (l3 : cs3.length = n3) (o1 : ∀ u ∈ cs1, u.oneCell' = true) (o2 : ∀ u ∈ cs2, u.oneCell' = true) (o3 : ∀ u ∈ cs3, u.oneCell' = true) (b1 : n1 ≤ 100000000) (b2 : n2 ≤ 100000000) (b3 : n3 ≤ 100000000) (hb : b < w.heap.size) :
    Calls Tryz.prog 57 #[.slice (some ⟨b, 0, none⟩) 3 3] w fun e w' =>
     ∃ A c, e = .returned (.slice A (n1 + n2 + n3) c) ∧ w'.ownsRow w.heap.size 5 1 (.slice A (n1 + n2 + n3) c) (n1 + n2 + n3) (cs1 ++ cs2 ++ cs3) ∧ Below w.heap.size w w' := by
 have F1 := Lib.hid f1; have F2 := Lib.hid f2; have F3 := Lib.hid f3; have H1 := Lib.hid h1; have H2 := Lib.hid h2; have H3 := Lib.hid h3; have O1 := Lib.hid o1; have O2 := Lib.hid o2; have O3 := Lib.hid o3
 clear f1 f2 f3 h1 h2 h3 o1 o2 o3
 go_enter Tryz.func57, Tryz.ntmps57
 go_wp2_with (fail)
 go_loopw [3, 11] (fun s i wr => ∃ k : Nat, k ≤ 3 ∧ i = .int .i64 k ∧ s = .int .i64 (pick4 0 n1 (n1 + n2) (n1 + n2 + n3) k : Nat) ∧ wr = w) (fun _ i _ => 3 - (intOf i).toNat)
 case atStart => exact ⟨0, by omega, rfl, rfl, rfl⟩
 case round =>
  obtain ⟨k, hk, rfl, rfl, rfl⟩ := hrel
  by_cases hlk : k < 3
  · have hc : ∃ A n c, wr.cell? ⟨b, k, none⟩ = some (.slice A n c) ∧ n ≤ 100000000 ∧ pick4 0 n1 (n1 + n2) (n1 + n2 + n3) (k + 1) = pick4 0 n1 (n1 + n2) (n1 + n2 + n3) k + n ∧ pick4 0 n1 (n1 + n2) (n1 + n2 + n3) k ≤ 200000000 := by
      match k, hlk with
      | 0, _ => exact ⟨A1, n1, c1, F1.out, b1, by simp [pick4], by simp [pick4]⟩
      | 1, _ => exact ⟨A2, n2, c2, F2.out, b2, by simp [pick4], by simp [pick4]; omega⟩
      | 2, _ => exact ⟨A3, n3, c3, F3.out, b3, by simp [pick4], by simp [pick4]; omega⟩
    obtain ⟨A, n, c, f, hn, hs, hp⟩ := hc
    have Hs := Lib.hid hs
    clear hs
    generalize pick4 0 n1 (n1 + n2) (n1 + n2 + n3) k = s at *
    have hdk : decide ((k : Int) < 3) = true := by simp; omega
    have hdn : decide ((s : Int) + (n : Int) < 0) = false := by simp; omega
    go_wp2_with (fail)
    go_roundw
    case rel => exact ⟨k + 1, by omega, by go_num, by rw [Hs.out]; go_num, trivial⟩
    case measure => simp [intOf]; omega
  · have hk2 : k = 3 := by omega
    have hdk : decide ((k : Int) < 3) = false := by simp; omega
    have hs : Hid (pick4 0 n1 (n1 + n2) (n1 + n2 + n3) k = n1 + n2 + n3) := by show _ = _; rw [hk2]; rfl
    clear hk2
    generalize pick4 0 n1 (n1 + n2) (n1 + n2 + n3) k = s at *
    go_wp2_with (fail)
    refine (grow_nil s wr (by rw [hs.out]; omega)).mono ?_
    rintro e w' ⟨A, c, rfl, hcap, hown, hbl⟩
    go_wp2_with (fail)
    obtain ⟨w0, rfl⟩ : ∃ w0 : World, w0 = wr := ⟨_, rfl⟩
    go_loopw [6, 27] (fun v i wr => ∃ k : Nat, k ≤ 3 ∧ i = .int .i64 k ∧ ∃ A c, v = .slice A (pick4 0 n1 (n1 + n2) (n1 + n2 + n3) k) c ∧ Hid (wr.ownsRow w0.heap.size 5 1 (.slice A (pick4 0 n1 (n1 + n2) (n1 + n2 + n3) k) c) (pick4 0 n1 (n1 + n2) (n1 + n2 + n3) k) (pick4 [] cs1 (cs1 ++ cs2) (cs1 ++ cs2 ++ cs3) k)) ∧ Below w0.heap.size w0 wr) (fun _ i _ => 3 - (intOf i).toNat)
    case atStart => exact ⟨0, by omega, rfl, A, c, rfl, hown, hbl⟩
    case round =>
     obtain ⟨k, hk, rfl, A, c, rfl, hown, hbl⟩ := hrel
     by_cases hlk : k < 3
     · have hc : ∃ A n c cs, wr.cell? ⟨b, k, none⟩ = some (.slice A n c) ∧ n ≤ 100000000 ∧ pick4 0 n1 (n1 + n2) (n1 + n2 + n3) (k + 1) = pick4 0 n1 (n1 + n2) (n1 + n2 + n3) k + n ∧ pick4 0 n1 (n1 + n2) (n1 + n2 + n3) k ≤ 200000000 ∧ pick4 [] cs1 (cs1 ++ cs2) (cs1 ++ cs2 ++ cs3) (k + 1) = pick4 [] cs1 (cs1 ++ cs2) (cs1 ++ cs2 ++ cs3) k ++ cs ∧ Cells wr A cs ∧ cs.length = n ∧ ∀ u ∈ cs, u.oneCell' = true := by
         match k, hlk with
         | 0, _ => exact ⟨A1, n1, c1, cs1, (hbl.cell (p := ⟨b, 0, none⟩) hb).trans F1.out, b1, by simp [pick4], by simp [pick4], by simp [pick4], H1.out.below hbl, l1, O1.out⟩
         | 1, _ => exact ⟨A2, n2, c2, cs2, (hbl.cell (p := ⟨b, 1, none⟩) hb).trans F2.out, b2, by simp [pick4], by simp [pick4]; omega, by simp [pick4], H2.out.below hbl, l2, O2.out⟩
         | 2, _ => exact ⟨A3, n3, c3, cs3, (hbl.cell (p := ⟨b, 2, none⟩) hb).trans F3.out, b3, by simp [pick4], by simp [pick4]; omega, by simp [pick4], H3.out.below hbl, l3, O3.out⟩
       obtain ⟨A', n, c', cs, f, hn, hs, hp, hcs, hcl, hlen, h1c⟩ := hc
       have Hs := Lib.hid hs; have Hcs := Lib.hid hcs; have Hcl := Lib.hid hcl; have H1c := Lib.hid h1c; have Hlen := Lib.hid hlen
       clear hs hcs hcl h1c hlen
       generalize pick4 0 n1 (n1 + n2) (n1 + n2 + n3) k = s at *
       obtain ⟨v0, hv0⟩ : ∃ v0, v0 = Value.slice A' n c' := ⟨_, rfl⟩
       rw [← hv0] at f
       have Hv := Lib.hid hv0
       clear hv0
       generalize pick4 [] cs1 (cs1 ++ cs2) (cs1 ++ cs2 ++ cs3) k = xs at *
       have hdk : decide ((k : Int) < 3) = true := by simp; omega
       go_wp2_with (at_builtin; refine wpList_append_cells rfl (.tmp 31) (.tmp 32) 22 rfl w0.heap.size 5 (.int .u8 0) 1 1 (by kernel_rfl) (by kernel_rfl) rfl (by omega) (.slice A s c) s xs hown.out rfl A' n c' cs Hv.out (by rw [Hlen.out, Nat.mul_one]) Hcl.out H1c.out (by unfold maxLen; omega) (by omega) hbl.size ?_; intro v' w' hown' hgr hsits; obtain ⟨A'', c'', rfl, -, -, -⟩ := own_form hown'; have hbl' := Lib.hid (below_grown hbl hgr hbl.size (fun k hk => (hown.out.lt k hk).1)); have Hown' := Lib.hid hown'; clear hown' hgr hsits)
       go_roundw
       case rel => exact ⟨k + 1, by omega, by go_num, A'', c'', by rw [Hs.out], by show World.ownsRow _ _ _ _ _ _ _; rw [Hs.out, Hcs.out]; exact Hown'.out, hbl'.out⟩
       case measure => simp [intOf]; omega
     · have hk2 : k = 3 := by omega
       have hdk : decide ((k : Int) < 3) = false := by simp; omega
       have hs2 : Hid (pick4 0 n1 (n1 + n2) (n1 + n2 + n3) k = n1 + n2 + n3) := by show _ = _; rw [hk2]; rfl
       have hcs2 : Hid (pick4 [] cs1 (cs1 ++ cs2) (cs1 ++ cs2 ++ cs3) k = cs1 ++ cs2 ++ cs3) := by show _ = _; rw [hk2]; rfl
       clear hk2
       generalize pick4 0 n1 (n1 + n2) (n1 + n2 + n3) k = s2 at *
       generalize pick4 [] cs1 (cs1 ++ cs2) (cs1 ++ cs2 ++ cs3) k = xs at *
       go_wp2_with (fail)
       go_ret
       have h := hs2.out
       subst h
       have h2 := hcs2.out
       subst h2
       exact ⟨A, c, rfl, hown.out, hbl⟩
set_option linter.unusedSimpArgs false in
set_option maxRecDepth 100000 in
set_option maxHeartbeats 4000000 in
theorem secret_any (A : Option Addr) (n c : Nat) (s : List Nat) (i j : Nat) (b : Bool) (w : World) (hA : Cells w A (bytesV s)) (hs : s.length = n) (hn : n ≤ 1000) (h8 : ByteL s) (hi : i < 65536) (hj : j < 64) :
    Calls Tryz.prog 60 #[.agg #[.slice A n c, .int .i64 i], .int .i64 j, .bool b] w fun e w' => e = .returned (.agg (arrK .u8 (secS s i j (bn b)))) ∧ Below w.heap.size w w' := by
 have HA := Lib.hid hA
 have Hs := Lib.hid hs
 have Hs8 := Lib.hid h8
 clear hA hs h8
 cases b with
 | false =>
   have HJ := Lib.hid (show ByteL [j, 0] from fun k => by match k with | 0 => (show j < 256; omega) | 1 => (show 0 < 256; omega) | k + 2 => (show (0 : Nat) < 256; omega))
   have lt := Lib.hid (secS_isD s i j 0).1
   show Calls _ _ _ _ fun e w' => e = .returned (.agg (arrK .u8 (secS s i j 0))) ∧ Below w.heap.size w w'
   go_enter Tryz.func60, Tryz.ntmps60
   go_wp2_with (fail)
   generalize hge : World.alloc _ _ = w1
   have H1 := Lib.hid (show Blk w1 w.heap.size 95 #[.slice A n c, .int .i64 i] by subst hge; exact (blk_two w _ (arrK .u8 z32) 95 29).1)
   have HR := Lib.hid (show Blk w1 (w.heap.size + 1) 29 (arrK .u8 z32) by subst hge; exact (blk_two w _ (arrK .u8 z32) 95 29).2)
   have HB := Lib.hid (al2 hge)
   clear hge
   have oB : w.heap.size < w1.heap.size := H1.out.lt
   have oR : w.heap.size + 1 < w1.heap.size := HR.out.lt
   have hwj : IntKind.u8.wrap (j : Int) = (j : Int) := by simp [IntKind.wrap, IntKind.bits, IntKind.signed]; omega
   refine wp_region_held_drew (S := fun W => Below w.heap.size w W ∧ Blk W w.heap.size 95 #[.slice A n c, .int .i64 i]) (by kernel_rfl) (⟨below_drewN HB.out 1, H1.out⟩) (fun Hd => ?_)
   have Hd : Below w.heap.size w w1.drew := below_drewN HB.out 1
   have Zd : w1.heap.size ≤ w1.drew.heap.size := Nat.le_refl _
   have fB : Blk w1.drew w.heap.size 95 #[.slice A n c, .int .i64 i] := H1.out
   have fR : Blk w1.drew (w.heap.size + 1) 29 (arrK .u8 z32) := HR.out
   generalize World.drew w1 = wd at *
   refine tq 0 rfl ⟨Hd, fB⟩ ?_
   refine ts 1 rfl ⟨Hd, fB⟩ (fun w hSw => by
    have q0 := Blk.cellv hSw.2 (i := 0) rfl
    go_simp
    try with_reducible rfl) ?_
   try simp only [la, Act.put]
   refine tq 2 rfl ⟨Hd, fB⟩ ?_
   refine ts 3 rfl ⟨Hd, fB⟩ (fun w hSw => by
    have q1 := Blk.cellv hSw.2 (i := 1) rfl
    go_simp
    try with_reducible rfl) ?_
   try simp only [la, Act.put]
   refine tq 5 rfl ⟨Hd, fB⟩ ?_
   refine tq 6 rfl ⟨Hd, fB⟩ ?_
   try simp only [la, Act.put]
   refine tq 7 rfl ⟨Hd, fB⟩ ?_
   try simp only [la, Act.put]
   refine tz 4 8 rfl rfl (fun K hK => ?_) (fun K hK => ?_)
   · go_simp
     refine (two_any i _ (by omega)).mono ?_
     rintro e w1_ ⟨rfl, ft1, hb1⟩
     have fB1 := fB.below hb1
     have fR1 := fR.below hb1
     have Hb1 := below_of Hd hb1 Hd.size
     have Zb1 := Nat.le_trans Zd hb1.size
     have lot1 : w1.heap.size ≤ wd.heap.size := Zd
     go_wp2_with (fail)
     refine hK.out _ _ ⟨Hb1, fB1⟩ fun _ => ?_
     clear hK K
     try simp only [la, Act.put]
     refine ty 8 rfl (fun K hK => ?_)
     go_simp
     generalize hge : World.alloc _ _ = w2_
     have fp2 : Blk w2_ w1_.heap.size 5 (arrK .u8 [j, 0]) := by subst hge; exact Blk.new _ _ _
     have hb2 := al1 hge
     clear hge
     have fB2 := fB1.below hb2
     have fR2 := fR1.below hb2
     have ft2 := ft1.below hb2
     have lttp2 := ft1.lt
     have lop2 : w1.heap.size ≤ w1_.heap.size := Zb1
     have Hb2 := below_of Hb1 hb2 Hb1.size
     have Zb2 := Nat.le_trans Zb1 hb2.size
     refine hK.out _ _ ⟨Hb2, fB2⟩ fun _ => ?_
     clear hK K
     try simp only [la, Act.put]
     refine ty 9 rfl (fun K hK => ?_)
     go_simp
     generalize hge : World.alloc _ _ = w3_
     have fr3 : Blk w3_ w2_.heap.size 22 (#[.slice A n c, .slice (some ⟨wd.heap.size, 0, none⟩) 2 2, .slice (some ⟨w1_.heap.size, 0, none⟩) 2 2]) := by subst hge; exact Blk.new _ _ _
     have hb3 := al1 hge
     clear hge
     have fB3 := fB2.below hb3
     have fR3 := fR2.below hb3
     have ft3 := ft2.below hb3
     have fp3 := fp2.below hb3
     have lttr3 := ft2.lt
     have ltpr3 := fp2.lt
     have lor3 : w1.heap.size ≤ w2_.heap.size := Zb2
     have Hb3 := below_of Hb2 hb3 Hb2.size
     have Zb3 := Nat.le_trans Zb2 hb3.size
     refine hK.out _ _ ⟨Hb3, fB3⟩ fun _ => ?_
     clear hK K
     try simp only [la, Act.put]
     refine ty 10 rfl (fun K hK => ?_)
     go_simp
     refine (concat3 (w2_.heap.size) n c 2 2 2 2 A _ _ (bytesV s) (bytesV (twoL i)) (bytesV [j, 0]) _ (fr3.cellv (i := 0) rfl) (fr3.cellv (i := 1) rfl) (fr3.cellv (i := 2) rfl) (HA.out.below Hb3) (cells_dig ft3) (cells_dig fp3) (by rw [bytesV_length, Hs.out]) (by rw [bytesV_length]; rfl) (by rw [bytesV_length]; rfl) (bytesV_one _) (bytesV_one _) (bytesV_one _) (by omega) (by omega) (by omega) fr3.lt).mono ?_
     rintro e w4_ ⟨A4, c4, rfl, hown4, hb4⟩
     have fm4 : Cells w4_ A4 (bytesV (s ++ twoL i ++ [j, 0])) := by have := Cells.own hown4; rwa [← bytesV_append, ← bytesV_append] at this
     have fB4 := fB3.below hb4
     have fR4 := fR3.below hb4
     have ft4 := ft3.below hb4
     have fp4 := fp3.below hb4
     have fr4 := fr3.below hb4
     have Hb4 := below_of Hb3 hb4 Hb3.size
     have Zb4 := Nat.le_trans Zb3 hb4.size
     go_wp2_with (fail)
     refine hK.out _ _ ⟨Hb4, fB4⟩ fun _ => ?_
     clear hK K
     try simp only [la, Act.put]
     refine ty 11 rfl (fun K hK => ?_)
     go_simp
     refine (tagged_any ⟨#[115, 101, 99, 114, 101, 116]⟩ _ _ _ (s ++ twoL i ++ [j, 0]) _ fm4 (by simp [Hs.out, twoL_length]) (by omega) ((Hs8.out.append (twoL_byte i)).append HJ.out) (by decide)).mono ?_
     rintro e w5_ ⟨he, hb5⟩
     have he : e = .returned (.agg (arrK .u8 (secS s i j 0))) := by rw [secS_eq]; exact he
     subst he
     have fB5 := fB4.below hb5
     have fR5 := fR4.below hb5
     have ft5 := ft4.below hb5
     have fp5 := fp4.below hb5
     have fr5 := fr4.below hb5
     have fm5 := fm4.below hb5
     have Hb5 := below_of Hb4 hb5 Hb4.size
     have Zb5 := Nat.le_trans Zb4 hb5.size
     go_wp2_with (fail)
     refine hK.out _ _ ⟨Hb5, fB5⟩ fun _ => ?_
     clear hK K
     try simp only [la, Act.put]
     refine ty 12 rfl (fun K hK => ?_)
     refine step_put_blk (by rfl) _ _ _ (by rfl) (w.heap.size + 1) (arrK .u8 (secS s i j 0)) (by rfl) (by rfl) _ _ fR5 (info32 lt.out) (by rw [len32 lt.out, len32 z32_length]) (arrK_all _ _) ?_
     intro w6_ fR6 hg6 hz6
     have neB6 := fB5.lt
     have fB6 := fB5.gx hg6
     have net6 := ft5.lt
     have ft6 := ft5.gx hg6
     have nep6 := fp5.lt
     have fp6 := fp5.gx hg6
     have ner6 := fr5.lt
     have fr6 := fr5.gx hg6
     have Hb6 := bgx Hb5 hg6 Hb5.size
     have Zb6 := Nat.le_trans Zb5 hg6.size
     refine hK.out _ _ ⟨Hb6, fB6⟩ fun _ => ?_
     clear hK K
     try simp only [la, Act.put]
     refine td ?_ _
     go_wp2_with (fail)
     exact ret_row rfl (w.heap.size + 1) 29 (arrK .u8 (secS s i j 0)) (.array 32 5) rfl fR6 (by kernel_rfl) rfl (info32 lt.out) rfl ⟨rfl, Hb6⟩
   · go_simp
     generalize hge : World.alloc _ _ = w1_
     have fp1 : Blk w1_ wd.heap.size 5 (arrK .u8 [j, 0]) := by subst hge; exact Blk.new _ _ _
     have hb1 := al1 hge
     clear hge
     have fB1 := fB.below hb1
     have fR1 := fR.below hb1
     have lop1 : w1.heap.size ≤ wd.heap.size := Zd
     have Hb1 := below_of Hd hb1 Hd.size
     have Zb1 := Nat.le_trans Zd hb1.size
     refine hK.out _ _ ⟨Hb1, fB1⟩ fun _ => ?_
     clear hK K
     try simp only [la, Act.put]
     refine ty 4 rfl (fun K hK => ?_)
     go_simp
     refine (two_any i _ (by omega)).mono ?_
     rintro e w2_ ⟨rfl, ft2, hb2⟩
     have fB2 := fB1.below hb2
     have fR2 := fR1.below hb2
     have fp2 := fp1.below hb2
     have Hb2 := below_of Hb1 hb2 Hb1.size
     have Zb2 := Nat.le_trans Zb1 hb2.size
     have lot2 : w1.heap.size ≤ w1_.heap.size := Zb1
     go_wp2_with (fail)
     refine hK.out _ _ ⟨Hb2, fB2⟩ fun _ => ?_
     clear hK K
     try simp only [la, Act.put]
     refine ty 9 rfl (fun K hK => ?_)
     go_simp
     generalize hge : World.alloc _ _ = w3_
     have fr3 : Blk w3_ w2_.heap.size 22 (#[.slice A n c, .slice (some ⟨w1_.heap.size, 0, none⟩) 2 2, .slice (some ⟨wd.heap.size, 0, none⟩) 2 2]) := by subst hge; exact Blk.new _ _ _
     have hb3 := al1 hge
     clear hge
     have fB3 := fB2.below hb3
     have fR3 := fR2.below hb3
     have fp3 := fp2.below hb3
     have ft3 := ft2.below hb3
     have ltpr3 := fp2.lt
     have lttr3 := ft2.lt
     have lor3 : w1.heap.size ≤ w2_.heap.size := Zb2
     have Hb3 := below_of Hb2 hb3 Hb2.size
     have Zb3 := Nat.le_trans Zb2 hb3.size
     refine hK.out _ _ ⟨Hb3, fB3⟩ fun _ => ?_
     clear hK K
     try simp only [la, Act.put]
     refine ty 10 rfl (fun K hK => ?_)
     go_simp
     refine (concat3 (w2_.heap.size) n c 2 2 2 2 A _ _ (bytesV s) (bytesV (twoL i)) (bytesV [j, 0]) _ (fr3.cellv (i := 0) rfl) (fr3.cellv (i := 1) rfl) (fr3.cellv (i := 2) rfl) (HA.out.below Hb3) (cells_dig ft3) (cells_dig fp3) (by rw [bytesV_length, Hs.out]) (by rw [bytesV_length]; rfl) (by rw [bytesV_length]; rfl) (bytesV_one _) (bytesV_one _) (bytesV_one _) (by omega) (by omega) (by omega) fr3.lt).mono ?_
     rintro e w4_ ⟨A4, c4, rfl, hown4, hb4⟩
     have fm4 : Cells w4_ A4 (bytesV (s ++ twoL i ++ [j, 0])) := by have := Cells.own hown4; rwa [← bytesV_append, ← bytesV_append] at this
     have fB4 := fB3.below hb4
     have fR4 := fR3.below hb4
     have fp4 := fp3.below hb4
     have ft4 := ft3.below hb4
     have fr4 := fr3.below hb4
     have Hb4 := below_of Hb3 hb4 Hb3.size
     have Zb4 := Nat.le_trans Zb3 hb4.size
     go_wp2_with (fail)
     refine hK.out _ _ ⟨Hb4, fB4⟩ fun _ => ?_
     clear hK K
     try simp only [la, Act.put]
     refine ty 11 rfl (fun K hK => ?_)
     go_simp
     refine (tagged_any ⟨#[115, 101, 99, 114, 101, 116]⟩ _ _ _ (s ++ twoL i ++ [j, 0]) _ fm4 (by simp [Hs.out, twoL_length]) (by omega) ((Hs8.out.append (twoL_byte i)).append HJ.out) (by decide)).mono ?_
     rintro e w5_ ⟨he, hb5⟩
     have he : e = .returned (.agg (arrK .u8 (secS s i j 0))) := by rw [secS_eq]; exact he
     subst he
     have fB5 := fB4.below hb5
     have fR5 := fR4.below hb5
     have fp5 := fp4.below hb5
     have ft5 := ft4.below hb5
     have fr5 := fr4.below hb5
     have fm5 := fm4.below hb5
     have Hb5 := below_of Hb4 hb5 Hb4.size
     have Zb5 := Nat.le_trans Zb4 hb5.size
     go_wp2_with (fail)
     refine hK.out _ _ ⟨Hb5, fB5⟩ fun _ => ?_
     clear hK K
     try simp only [la, Act.put]
     refine ty 12 rfl (fun K hK => ?_)
     refine step_put_blk (by rfl) _ _ _ (by rfl) (w.heap.size + 1) (arrK .u8 (secS s i j 0)) (by rfl) (by rfl) _ _ fR5 (info32 lt.out) (by rw [len32 lt.out, len32 z32_length]) (arrK_all _ _) ?_
     intro w6_ fR6 hg6 hz6
     have neB6 := fB5.lt
     have fB6 := fB5.gx hg6
     have nep6 := fp5.lt
     have fp6 := fp5.gx hg6
     have net6 := ft5.lt
     have ft6 := ft5.gx hg6
     have ner6 := fr5.lt
     have fr6 := fr5.gx hg6
     have Hb6 := bgx Hb5 hg6 Hb5.size
     have Zb6 := Nat.le_trans Zb5 hg6.size
     refine hK.out _ _ ⟨Hb6, fB6⟩ fun _ => ?_
     clear hK K
     try simp only [la, Act.put]
     refine td ?_ _
     go_wp2_with (fail)
     exact ret_row rfl (w.heap.size + 1) 29 (arrK .u8 (secS s i j 0)) (.array 32 5) rfl fR6 (by kernel_rfl) rfl (info32 lt.out) rfl ⟨rfl, Hb6⟩
 | true =>
   have HJ := Lib.hid (show ByteL [j, 1] from fun k => by match k with | 0 => (show j < 256; omega) | 1 => (show 1 < 256; omega) | k + 2 => (show (0 : Nat) < 256; omega))
   have lt := Lib.hid (secS_isD s i j 1).1
   show Calls _ _ _ _ fun e w' => e = .returned (.agg (arrK .u8 (secS s i j 1))) ∧ Below w.heap.size w w'
   go_enter Tryz.func60, Tryz.ntmps60
   go_wp2_with (fail)
   generalize hge : World.alloc _ _ = w1
   have H1 := Lib.hid (show Blk w1 w.heap.size 95 #[.slice A n c, .int .i64 i] by subst hge; exact (blk_two w _ (arrK .u8 z32) 95 29).1)
   have HR := Lib.hid (show Blk w1 (w.heap.size + 1) 29 (arrK .u8 z32) by subst hge; exact (blk_two w _ (arrK .u8 z32) 95 29).2)
   have HB := Lib.hid (al2 hge)
   clear hge
   have oB : w.heap.size < w1.heap.size := H1.out.lt
   have oR : w.heap.size + 1 < w1.heap.size := HR.out.lt
   have hwj : IntKind.u8.wrap (j : Int) = (j : Int) := by simp [IntKind.wrap, IntKind.bits, IntKind.signed]; omega
   refine wp_region_held_drew (S := fun W => Below w.heap.size w W ∧ Blk W w.heap.size 95 #[.slice A n c, .int .i64 i]) (by kernel_rfl) (⟨below_drewN HB.out 1, H1.out⟩) (fun Hd => ?_)
   have Hd : Below w.heap.size w w1.drew := below_drewN HB.out 1
   have Zd : w1.heap.size ≤ w1.drew.heap.size := Nat.le_refl _
   have fB : Blk w1.drew w.heap.size 95 #[.slice A n c, .int .i64 i] := H1.out
   have fR : Blk w1.drew (w.heap.size + 1) 29 (arrK .u8 z32) := HR.out
   generalize World.drew w1 = wd at *
   refine tq 0 rfl ⟨Hd, fB⟩ ?_
   try simp only [la, Act.put]
   refine ts 1 rfl ⟨Hd, fB⟩ (fun w hSw => by
    have q0 := Blk.cellv hSw.2 (i := 0) rfl
    go_simp
    try with_reducible rfl) ?_
   refine tq 2 rfl ⟨Hd, fB⟩ ?_
   try simp only [la, Act.put]
   refine ts 3 rfl ⟨Hd, fB⟩ (fun w hSw => by
    have q1 := Blk.cellv hSw.2 (i := 1) rfl
    go_simp
    try with_reducible rfl) ?_
   refine tq 5 rfl ⟨Hd, fB⟩ ?_
   try simp only [la, Act.put]
   refine tq 6 rfl ⟨Hd, fB⟩ ?_
   refine tq 7 rfl ⟨Hd, fB⟩ ?_
   try simp only [la, Act.put]
   refine tz 4 8 rfl rfl (fun K hK => ?_) (fun K hK => ?_)
   · go_simp
     refine (two_any i _ (by omega)).mono ?_
     rintro e w1_ ⟨rfl, ft1, hb1⟩
     have fB1 := fB.below hb1
     have fR1 := fR.below hb1
     have Hb1 := below_of Hd hb1 Hd.size
     have Zb1 := Nat.le_trans Zd hb1.size
     have lot1 : w1.heap.size ≤ wd.heap.size := Zd
     go_wp2_with (fail)
     refine hK.out _ _ ⟨Hb1, fB1⟩ fun _ => ?_
     clear hK K
     try simp only [la, Act.put]
     refine ty 8 rfl (fun K hK => ?_)
     go_simp
     generalize hge : World.alloc _ _ = w2_
     have fp2 : Blk w2_ w1_.heap.size 5 (arrK .u8 [j, 1]) := by subst hge; exact Blk.new _ _ _
     have hb2 := al1 hge
     clear hge
     have fB2 := fB1.below hb2
     have fR2 := fR1.below hb2
     have ft2 := ft1.below hb2
     have lttp2 := ft1.lt
     have lop2 : w1.heap.size ≤ w1_.heap.size := Zb1
     have Hb2 := below_of Hb1 hb2 Hb1.size
     have Zb2 := Nat.le_trans Zb1 hb2.size
     refine hK.out _ _ ⟨Hb2, fB2⟩ fun _ => ?_
     clear hK K
     try simp only [la, Act.put]
     refine ty 9 rfl (fun K hK => ?_)
     go_simp
     generalize hge : World.alloc _ _ = w3_
     have fr3 : Blk w3_ w2_.heap.size 22 (#[.slice A n c, .slice (some ⟨wd.heap.size, 0, none⟩) 2 2, .slice (some ⟨w1_.heap.size, 0, none⟩) 2 2]) := by subst hge; exact Blk.new _ _ _
     have hb3 := al1 hge
     clear hge
     have fB3 := fB2.below hb3
     have fR3 := fR2.below hb3
     have ft3 := ft2.below hb3
     have fp3 := fp2.below hb3
     have lttr3 := ft2.lt
     have ltpr3 := fp2.lt
     have lor3 : w1.heap.size ≤ w2_.heap.size := Zb2
     have Hb3 := below_of Hb2 hb3 Hb2.size
     have Zb3 := Nat.le_trans Zb2 hb3.size
     refine hK.out _ _ ⟨Hb3, fB3⟩ fun _ => ?_
     clear hK K
     try simp only [la, Act.put]
     refine ty 10 rfl (fun K hK => ?_)
     go_simp
     refine (concat3 (w2_.heap.size) n c 2 2 2 2 A _ _ (bytesV s) (bytesV (twoL i)) (bytesV [j, 1]) _ (fr3.cellv (i := 0) rfl) (fr3.cellv (i := 1) rfl) (fr3.cellv (i := 2) rfl) (HA.out.below Hb3) (cells_dig ft3) (cells_dig fp3) (by rw [bytesV_length, Hs.out]) (by rw [bytesV_length]; rfl) (by rw [bytesV_length]; rfl) (bytesV_one _) (bytesV_one _) (bytesV_one _) (by omega) (by omega) (by omega) fr3.lt).mono ?_
     rintro e w4_ ⟨A4, c4, rfl, hown4, hb4⟩
     have fm4 : Cells w4_ A4 (bytesV (s ++ twoL i ++ [j, 1])) := by have := Cells.own hown4; rwa [← bytesV_append, ← bytesV_append] at this
     have fB4 := fB3.below hb4
     have fR4 := fR3.below hb4
     have ft4 := ft3.below hb4
     have fp4 := fp3.below hb4
     have fr4 := fr3.below hb4
     have Hb4 := below_of Hb3 hb4 Hb3.size
     have Zb4 := Nat.le_trans Zb3 hb4.size
     go_wp2_with (fail)
     refine hK.out _ _ ⟨Hb4, fB4⟩ fun _ => ?_
     clear hK K
     try simp only [la, Act.put]
     refine ty 11 rfl (fun K hK => ?_)
     go_simp
     refine (tagged_any ⟨#[115, 101, 99, 114, 101, 116]⟩ _ _ _ (s ++ twoL i ++ [j, 1]) _ fm4 (by simp [Hs.out, twoL_length]) (by omega) ((Hs8.out.append (twoL_byte i)).append HJ.out) (by decide)).mono ?_
     rintro e w5_ ⟨he, hb5⟩
     have he : e = .returned (.agg (arrK .u8 (secS s i j 1))) := by rw [secS_eq]; exact he
     subst he
     have fB5 := fB4.below hb5
     have fR5 := fR4.below hb5
     have ft5 := ft4.below hb5
     have fp5 := fp4.below hb5
     have fr5 := fr4.below hb5
     have fm5 := fm4.below hb5
     have Hb5 := below_of Hb4 hb5 Hb4.size
     have Zb5 := Nat.le_trans Zb4 hb5.size
     go_wp2_with (fail)
     refine hK.out _ _ ⟨Hb5, fB5⟩ fun _ => ?_
     clear hK K
     try simp only [la, Act.put]
     refine ty 12 rfl (fun K hK => ?_)
     refine step_put_blk (by rfl) _ _ _ (by rfl) (w.heap.size + 1) (arrK .u8 (secS s i j 1)) (by rfl) (by rfl) _ _ fR5 (info32 lt.out) (by rw [len32 lt.out, len32 z32_length]) (arrK_all _ _) ?_
     intro w6_ fR6 hg6 hz6
     have neB6 := fB5.lt
     have fB6 := fB5.gx hg6
     have net6 := ft5.lt
     have ft6 := ft5.gx hg6
     have nep6 := fp5.lt
     have fp6 := fp5.gx hg6
     have ner6 := fr5.lt
     have fr6 := fr5.gx hg6
     have Hb6 := bgx Hb5 hg6 Hb5.size
     have Zb6 := Nat.le_trans Zb5 hg6.size
     refine hK.out _ _ ⟨Hb6, fB6⟩ fun _ => ?_
     clear hK K
     try simp only [la, Act.put]
     refine td ?_ _
     go_wp2_with (fail)
     exact ret_row rfl (w.heap.size + 1) 29 (arrK .u8 (secS s i j 1)) (.array 32 5) rfl fR6 (by kernel_rfl) rfl (info32 lt.out) rfl ⟨rfl, Hb6⟩
   · go_simp
     generalize hge : World.alloc _ _ = w1_
     have fp1 : Blk w1_ wd.heap.size 5 (arrK .u8 [j, 1]) := by subst hge; exact Blk.new _ _ _
     have hb1 := al1 hge
     clear hge
     have fB1 := fB.below hb1
     have fR1 := fR.below hb1
     have lop1 : w1.heap.size ≤ wd.heap.size := Zd
     have Hb1 := below_of Hd hb1 Hd.size
     have Zb1 := Nat.le_trans Zd hb1.size
     refine hK.out _ _ ⟨Hb1, fB1⟩ fun _ => ?_
     clear hK K
     try simp only [la, Act.put]
     refine ty 4 rfl (fun K hK => ?_)
     go_simp
     refine (two_any i _ (by omega)).mono ?_
     rintro e w2_ ⟨rfl, ft2, hb2⟩
     have fB2 := fB1.below hb2
     have fR2 := fR1.below hb2
     have fp2 := fp1.below hb2
     have Hb2 := below_of Hb1 hb2 Hb1.size
     have Zb2 := Nat.le_trans Zb1 hb2.size
     have lot2 : w1.heap.size ≤ w1_.heap.size := Zb1
     go_wp2_with (fail)
     refine hK.out _ _ ⟨Hb2, fB2⟩ fun _ => ?_
     clear hK K
     try simp only [la, Act.put]
     refine ty 9 rfl (fun K hK => ?_)
     go_simp
     generalize hge : World.alloc _ _ = w3_
     have fr3 : Blk w3_ w2_.heap.size 22 (#[.slice A n c, .slice (some ⟨w1_.heap.size, 0, none⟩) 2 2, .slice (some ⟨wd.heap.size, 0, none⟩) 2 2]) := by subst hge; exact Blk.new _ _ _
     have hb3 := al1 hge
     clear hge
     have fB3 := fB2.below hb3
     have fR3 := fR2.below hb3
     have fp3 := fp2.below hb3
     have ft3 := ft2.below hb3
     have ltpr3 := fp2.lt
     have lttr3 := ft2.lt
     have lor3 : w1.heap.size ≤ w2_.heap.size := Zb2
     have Hb3 := below_of Hb2 hb3 Hb2.size
     have Zb3 := Nat.le_trans Zb2 hb3.size
     refine hK.out _ _ ⟨Hb3, fB3⟩ fun _ => ?_
     clear hK K
     try simp only [la, Act.put]
     refine ty 10 rfl (fun K hK => ?_)
     go_simp
     refine (concat3 (w2_.heap.size) n c 2 2 2 2 A _ _ (bytesV s) (bytesV (twoL i)) (bytesV [j, 1]) _ (fr3.cellv (i := 0) rfl) (fr3.cellv (i := 1) rfl) (fr3.cellv (i := 2) rfl) (HA.out.below Hb3) (cells_dig ft3) (cells_dig fp3) (by rw [bytesV_length, Hs.out]) (by rw [bytesV_length]; rfl) (by rw [bytesV_length]; rfl) (bytesV_one _) (bytesV_one _) (bytesV_one _) (by omega) (by omega) (by omega) fr3.lt).mono ?_
     rintro e w4_ ⟨A4, c4, rfl, hown4, hb4⟩
     have fm4 : Cells w4_ A4 (bytesV (s ++ twoL i ++ [j, 1])) := by have := Cells.own hown4; rwa [← bytesV_append, ← bytesV_append] at this
     have fB4 := fB3.below hb4
     have fR4 := fR3.below hb4
     have fp4 := fp3.below hb4
     have ft4 := ft3.below hb4
     have fr4 := fr3.below hb4
     have Hb4 := below_of Hb3 hb4 Hb3.size
     have Zb4 := Nat.le_trans Zb3 hb4.size
     go_wp2_with (fail)
     refine hK.out _ _ ⟨Hb4, fB4⟩ fun _ => ?_
     clear hK K
     try simp only [la, Act.put]
     refine ty 11 rfl (fun K hK => ?_)
     go_simp
     refine (tagged_any ⟨#[115, 101, 99, 114, 101, 116]⟩ _ _ _ (s ++ twoL i ++ [j, 1]) _ fm4 (by simp [Hs.out, twoL_length]) (by omega) ((Hs8.out.append (twoL_byte i)).append HJ.out) (by decide)).mono ?_
     rintro e w5_ ⟨he, hb5⟩
     have he : e = .returned (.agg (arrK .u8 (secS s i j 1))) := by rw [secS_eq]; exact he
     subst he
     have fB5 := fB4.below hb5
     have fR5 := fR4.below hb5
     have fp5 := fp4.below hb5
     have ft5 := ft4.below hb5
     have fr5 := fr4.below hb5
     have fm5 := fm4.below hb5
     have Hb5 := below_of Hb4 hb5 Hb4.size
     have Zb5 := Nat.le_trans Zb4 hb5.size
     go_wp2_with (fail)
     refine hK.out _ _ ⟨Hb5, fB5⟩ fun _ => ?_
     clear hK K
     try simp only [la, Act.put]
     refine ty 12 rfl (fun K hK => ?_)
     refine step_put_blk (by rfl) _ _ _ (by rfl) (w.heap.size + 1) (arrK .u8 (secS s i j 1)) (by rfl) (by rfl) _ _ fR5 (info32 lt.out) (by rw [len32 lt.out, len32 z32_length]) (arrK_all _ _) ?_
     intro w6_ fR6 hg6 hz6
     have neB6 := fB5.lt
     have fB6 := fB5.gx hg6
     have nep6 := fp5.lt
     have fp6 := fp5.gx hg6
     have net6 := ft5.lt
     have ft6 := ft5.gx hg6
     have ner6 := fr5.lt
     have fr6 := fr5.gx hg6
     have Hb6 := bgx Hb5 hg6 Hb5.size
     have Zb6 := Nat.le_trans Zb5 hg6.size
     refine hK.out _ _ ⟨Hb6, fB6⟩ fun _ => ?_
     clear hK K
     try simp only [la, Act.put]
     refine td ?_ _
     go_wp2_with (fail)
     exact ret_row rfl (w.heap.size + 1) 29 (arrK .u8 (secS s i j 1)) (.array 32 5) rfl fR6 (by kernel_rfl) rfl (info32 lt.out) rfl ⟨rfl, Hb6⟩
end Go.Proofs.YtkflpoiobpblhaaGreat
namespace Go.Proofs.YtkflpoiobpblhaaGreat
open Go.RowKit
set_option linter.unusedSimpArgs false in
set_option maxRecDepth 100000 in
set_option maxHeartbeats 4000000 in
theorem hash_any (A : Option Addr) (n c : Nat) (s : List Nat) (i j : Nat) (b : Bool) (w : World) (hA : Cells w A (bytesV s)) (hs : s.length = n) (hn : n ≤ 1000) (h8 : ByteL s) (hi : i < 65536) (hj : j < 64) :
    Calls Tryz.prog 61 #[.agg #[.slice A n c, .int .i64 i], .int .i64 j, .bool b] w fun e w' => e = .returned (.agg (arrK .u8 (keyF s i j b))) ∧ Below w.heap.size w w' := by
 have HA := Lib.hid hA
 have Hs := Lib.hid hs
 have Hs8 := Lib.hid h8
 clear hA hs h8
 go_enter Tryz.func61, Tryz.ntmps61
 go_wp2_with (fail)
 generalize hge : World.alloc _ _ = w1
 have H1 := Lib.hid (show Blk w1 w.heap.size 95 #[.slice A n c, .int .i64 i] by subst hge; exact (blk_two w _ (arrK .u8 z32) 95 29).1)
 have HR := Lib.hid (show Blk w1 (w.heap.size + 1) 29 (arrK .u8 z32) by subst hge; exact (blk_two w _ (arrK .u8 z32) 95 29).2)
 have HB := Lib.hid (al2 hge)
 clear hge
 refine (secret_any A n c s i j b w1 (HA.out.below HB.out) Hs.out (by omega) Hs8.out hi hj).mono ?_
 rintro e w2 ⟨rfl, hb2⟩
 have HR2 := Lib.hid (HR.out.below hb2)
 have HB2 := Lib.hid (HB.out.trans (hb2.mono HB.out.size))
 clear hb2
 go_wp2_with (fail)
 refine (open_any (secS s i j (bn b)) w2 (secS_isD _ _ _ _)).mono ?_
 rintro e w5 ⟨he, hb5⟩
 have he : e = .returned (.agg (arrK .u8 (keyF s i j b))) := by rw [keyF_eq]; exact he
 subst he
 have HR5 := Lib.hid (HR2.out.below hb5)
 have HB5 := Lib.hid (HB2.out.trans (hb5.mono HB2.out.size))
 have lt := Lib.hid (keyF_isD s i j b).1
 clear hb5
 go_wp2_with (
  (refine wpList_put_blk rfl 29 (.tmp 6) (.tmp 11) rfl (w.heap.size + 1) (arrK .u8 (keyF s i j b)) rfl rfl 29 (arrK .u8 z32) HR5.out (info32 lt.out) (by rw [len32 lt.out, len32 z32_length]) (arrK_all _ _) ?_
   intro w6 HD6 hg6 hz6
   have HD6 := Lib.hid HD6
   have HB6 := below_grown HB5.out hg6 HB5.out.size (by simp)
   clear hg6 hz6))
 exact ret_row rfl (w.heap.size + 1) 29 (arrK .u8 (keyF s i j b)) (.array 32 5) rfl HD6.out (by kernel_rfl) rfl (info32 lt.out) rfl ⟨rfl, HB6⟩
set_option linter.unusedSimpArgs false in
set_option maxRecDepth 100000 in
set_option maxHeartbeats 4000000 in
theorem public_of (g : Nat) (rs lb : Array Value) (f : Nat → Bool → List Nat) (w : World) (eg : ∀ args W, (callFunc g args).run Tryz.prog W = .ok (.enter g args) W)
    (hf : ∀ (W : World) (j : Nat) (b : Bool), Below w.heap.size w W → j < 64 → Calls Tryz.prog g (rs ++ (#[.int .i64 j, .bool b] ++ lb)) W fun e w' => e = .returned (.agg (arrK .u8 (f j b))) ∧ Below W.heap.size W w') (hfD : ∀ j b, j < 64 → IsD (f j b)) :
    Calls Tryz.prog 79 #[.func (.func g) rs lb] w fun e w' => e = .returned (.agg (arrK .u8 (pubS f))) ∧ Below w.heap.size w w' := by
 have HF := Lib.hid hf
 have hD := Lib.hid hfD
 clear hf hfD
 obtain ⟨i0, hi0, hz0, hz1, hz2⟩ := info_parts (P := Tryz.prog) (e := 5) (z := .int .u8 0) (size := 1) (bytes := 1) (by kernel_rfl)
 have HI := Lib.hid hi0
 have HZ0 := Lib.hid hz0
 have HZ1 := Lib.hid hz1
 have HZ2 := Lib.hid hz2
 clear hi0 hz0 hz1 hz2
 go_enter Tryz.func79, Tryz.ntmps79
 go_wp2_with (
  (refine wpList_make_own _ rfl _ _ 22 rfl (w.heap.size + 1) 5 i0 (.int .u8 0) 1 (by kernel_rfl) HI.out HZ0.out HZ1.out .i64 .i64 4096 4096 rfl rfl rfl (by rw [HZ2.out]; omega) (by unfold maxLen; omega) (by simp) ?_
   intro w1 hown1 hg1))
 have HR1 := Lib.hid (show Blk w1 w.heap.size 29 (arrK .u8 z32) from (Blk.new w 29 (arrK .u8 z32)).grown hg1 (by simp))
 have HB1 := Lib.hid (show Below w.heap.size w w1 from below_grown ((Below.refl _ _).alloc (Nat.le_refl _) _) hg1 (by simp) (by simp))
 have hzz : w.heap.size + 1 ≤ w1.heap.size := by have := hg1.size; simpa using this
 have Hown1 := Lib.hid hown1
 clear hown1 hg1
 go_loopw [3, 8] (fun v i wr => ∃ (k : Nat) (A : Option Addr) (c : Nat), k ≤ 64 ∧ i = .int .i64 k ∧ v = .slice A (64 * k) c ∧ 64 * k ≤ c ∧ Hid (c ≤ maxLen) ∧ Hid (wr.ownsRow (w.heap.size + 1) 5 1 (.slice A (64 * k) c) (64 * k) (bytesV (bothL f k).flatten)) ∧ Hid (Blk wr w.heap.size 29 (arrK .u8 z32)) ∧ w.heap.size + 1 ≤ wr.heap.size ∧ Hid (Below w.heap.size w wr)) (fun _ i _ => 64 - (intOf i).toNat)
 case atStart =>
  refine ⟨0, _, 4096, by omega, rfl, rfl, by omega, (show 4096 ≤ maxLen by unfold maxLen; omega), ?_, HR1.out, hzz, HB1.out⟩
  show World.ownsRow _ _ _ _ _ _ _
  have h0 := Hown1.out
  rw [bothL_zero]
  simpa [bytesV_nil] using h0
 case round =>
  obtain ⟨k, A, c, hk64, rfl, rfl, hkc, hcm, hown, hR, hzr, hB⟩ := hrel
  by_cases hk : k < 64
  · have hdk : decide ((k : Int) < 64) = true := by simp; omega
    go_wp2_with (fail)
    refine (HF.out wr k false hB.out hk).mono ?_
    rintro e wa ⟨rfl, hba⟩
    have Hown2 := Lib.hid (own_below hown.out hba)
    have HR2 := Lib.hid (hR.out.below hba)
    have HB2 := Lib.hid (below_of hB.out hba hB.out.size)
    have hz2 : w.heap.size + 1 ≤ wa.heap.size := Nat.le_trans hzr hba.size
    clear hba
    go_wp2_with (fail)
    refine (HF.out wa k true HB2.out hk).mono ?_
    rintro e wc ⟨rfl, hbc⟩
    have Hown3 := Lib.hid (own_below Hown2.out hbc)
    have HR3 := Lib.hid (HR2.out.below hbc)
    have HB3 := Lib.hid (below_of HB2.out hbc HB2.out.size)
    have hz3 : w.heap.size + 1 ≤ wc.heap.size := Nat.le_trans hz2 hbc.size
    have d1 := Lib.hid (hD.out k false hk).1
    have d2 := Lib.hid (hD.out k true hk).1
    clear hbc
    go_wp2_with (first
     | (refine wpList_put_blk rfl 29 (.tmp 6) (.tmp 16) rfl (wc.heap.size + 1) (arrK .u8 (f k true)) rfl rfl 29 (arrK .u8 z32) HY6.out (info32 d2.out) (by rw [len32 d2.out, len32 z32_length]) (arrK_all _ _) ?_
        intro w7 HY7 hg7 hz7
        have HY7 := Lib.hid HY7
        have HX7 := Lib.hid (HX6.out.grown hg7 (by simp))
        have HR7 := Lib.hid (HR6.out.grown hg7 (by simp; omega))
        have HB7 := Lib.hid (below_grown HB6.out hg7 HB6.out.size (by simp; omega))
        have hz7' : w.heap.size + 1 ≤ w7.heap.size := Nat.le_trans hz6' hg7.size
        have Hown7 := Lib.hid (Hown6.out.kept hg7 (.inr apY))
        clear hg7 hz7)
     | (refine wpList_put_blk rfl 29 (.tmp 5) (.tmp 13) rfl wc.heap.size (arrK .u8 (f k false)) rfl rfl 29 (arrK .u8 z32) (blk_two wc (arrK .u8 z32) (arrK .u8 z32) 29 29).1 (info32 d1.out) (by rw [len32 d1.out, len32 z32_length]) (arrK_all _ _) ?_
        intro w6 HX6 hg6 hz6
        have hb4 : Below wc.heap.size wc ((wc.alloc (.cells (arrK .u8 z32) 29)).alloc (.cells (arrK .u8 z32) 29)) := ((Below.refl _ _).alloc (Nat.le_refl _) _).alloc (by simp) _
        have HX6 := Lib.hid HX6
        have HY6 := Lib.hid ((blk_two wc (arrK .u8 z32) (arrK .u8 z32) 29 29).2.grown hg6 (by simp))
        have HR6 := Lib.hid ((HR3.out.below hb4).grown hg6 (by simp; omega))
        have HB6 := Lib.hid (below_grown (below_of HB3.out hb4 HB3.out.size) hg6 (by simp; omega) (by simp; omega))
        have hz6' : w.heap.size + 1 ≤ w6.heap.size := Nat.le_trans (Nat.le_trans hz3 hb4.size) hg6.size
        have apX : Apart (.slice A (64 * k) c) wc.heap.size := apart_new Hown3.out
        have apY : Apart (.slice A (64 * k) c) (wc.heap.size + 1) := by
         have := apart_new (own_below Hown3.out ((Below.refl wc.heap.size wc).alloc (Nat.le_refl _) (.cells (arrK .u8 z32) 29)))
         rwa [World.size_alloc] at this
        have Hown6 := Lib.hid ((own_below Hown3.out hb4).kept hg6 (.inr apX))
        clear hg6 hz6 hb4))
    refine wp_region_held_drew (S := fun W => Below w.heap.size w W) (by kernel_rfl) (below_drewN HB7.out 1) (fun Hd => ?_)
    have Hd : Below w.heap.size w w7.drew := below_drewN HB7.out 1
    have Zd : w.heap.size + 1 ≤ w7.drew.heap.size := hz7'
    have fX : Blk w7.drew wc.heap.size 29 (arrK .u8 (f k false)) := HX7.out
    have fY : Blk w7.drew (wc.heap.size + 1) 29 (arrK .u8 (f k true)) := HY7.out
    have fR : Blk w7.drew w.heap.size 29 (arrK .u8 z32) := HR7.out
    have fo : w7.drew.ownsRow (w.heap.size + 1) 5 1 (.slice A (64 * k) c) (64 * k) (bytesV (bothL f k).flatten) := Hown7.out
    generalize World.drew w7 = wd at *
    refine tq 0 rfl Hd ?_
    refine tq 1 rfl Hd ?_
    try simp only [la, Act.put]
    refine tq 3 rfl Hd ?_
    try simp only [la, Act.put]
    refine ty 2 rfl (fun K hK => ?_)
    refine step_append_cells (by rfl) (.tmp 17) (.tmp 18) 22 (by rfl) (w.heap.size + 1) 5 (.int .u8 0) 1 1 (by kernel_rfl) (by kernel_rfl) rfl (by omega) (.slice A (64 * k) c) (64 * k) (bytesV ((bothL f k).flatten)) fo (by rfl) (some ⟨wc.heap.size, 0, none⟩) 32 32 (bytesV (f k false)) (by rfl) (by rw [bytesV_length, (hD.out k false hk).1]) (cells_dig fX) (bytesV_one _) (by unfold maxLen; omega) (by omega) Zd ?_
    intro v1 w1_ fo1 hg1 st1
    have apoX1 := apart_sits st1 apX fX.lt
    have apoY1 := apart_sits st1 apY fY.lt
    have fX1 := fX.grown hg1 (fun e => apX e.symm)
    have fY1 := fY.grown hg1 (fun e => apY e.symm)
    have fR1 := fR.grown hg1 (fun e => absurd (own_base fo _ e.symm) (Nat.not_le.2 (Nat.lt_succ_self _)))
    have Hb1 := below_grown Hd hg1 Hd.size (fun k hk => Nat.le_trans (Nat.le_succ _) (own_base fo k hk))
    have Zb1 := Nat.le_trans Zd hg1.size
    obtain ⟨A1, c1, rfl, le1, lm1, -⟩ := own_form fo1
    rw [← bytesV_append] at fo1
    refine hK.out _ _ Hb1 fun _ => ?_
    clear hK K
    try simp only [la, Act.put]
    refine ty 4 rfl (fun K hK => ?_)
    refine step_append_cells (by rfl) (.tmp 19) (.tmp 20) 22 (by rfl) (w.heap.size + 1) 5 (.int .u8 0) 1 1 (by kernel_rfl) (by kernel_rfl) rfl (by omega) (.slice A1 (64 * k + 32) c1) (64 * k + 32) (bytesV (((bothL f k).flatten ++ f k false))) fo1 (by rfl) (some ⟨wc.heap.size + 1, 0, none⟩) 32 32 (bytesV (f k true)) (by rfl) (by rw [bytesV_length, (hD.out k true hk).1]) (cells_dig fY1) (bytesV_one _) (by unfold maxLen; omega) (by omega) Zb1 ?_
    intro v2 w2_ fo2 hg2 st2
    have apoX2 := apart_sits st2 apoX1 fX1.lt
    have apoY2 := apart_sits st2 apoY1 fY1.lt
    have fX2 := fX1.grown hg2 (fun e => apoX1 e.symm)
    have fY2 := fY1.grown hg2 (fun e => apoY1 e.symm)
    have fR2 := fR1.grown hg2 (fun e => absurd (own_base fo1 _ e.symm) (Nat.not_le.2 (Nat.lt_succ_self _)))
    have Hb2 := below_grown Hb1 hg2 Hb1.size (fun k hk => Nat.le_trans (Nat.le_succ _) (own_base fo1 k hk))
    have Zb2 := Nat.le_trans Zb1 hg2.size
    obtain ⟨A2, c2, rfl, le2, lm2, -⟩ := own_form fo2
    rw [← bytesV_append] at fo2
    refine hK.out _ _ Hb2 fun _ => ?_
    clear hK K
    refine tq 5 rfl Hb2 ?_
    try simp only [la, Act.put]
    refine td ?_ _
    go_wp2_with (fail)
    go_roundw
    case rel =>
     refine ⟨k + 1, A2, c2, by omega, by go_num, by rw [show 64 * (k + 1) = 64 * k + 32 + 32 by omega], by have := le2; omega, lm2, ?_, fR2, Zb2, Hb2⟩
     show World.ownsRow _ _ _ _ _ _ _
     rw [bothL_flat, show 64 * (k + 1) = 64 * k + 32 + 32 by omega]
     exact fo2
    case measure => simp [intOf]; omega
  · obtain rfl : k = 64 := by omega
    have hp := Lib.hid (pubS_isD f).1
    have hL := bothL_isL f 64 (fun j b h => hD.out j b h)
    have hlen : (bothL f 64).flatten.length = 4096 := by rw [hL.flat_length, bothL_length]
    have h8 : ByteL (bothL f 64).flatten := hL.flat_byte
    have C := Cells.own hown.out
    go_wp2_with (fail)
    refine (tagged_any ⟨#[111, 110, 101]⟩ A (64 * 64) c (bothL f 64).flatten wr C hlen (by omega) h8 (by decide)).mono ?_
    rintro e w5 ⟨he, hb5⟩
    have he : e = .returned (.agg (arrK .u8 (pubS f))) := by rw [pubS_eq]; exact he
    subst he
    have HR5 := Lib.hid (hR.out.below hb5)
    have HB5 := Lib.hid (below_of hB.out hb5 hB.out.size)
    clear hb5 C hlen h8 hL
    go_wp2_with (
     (refine wpList_put_blk rfl 29 (.tmp 2) (.tmp 24) rfl w.heap.size (arrK .u8 (pubS f)) rfl rfl 29 (arrK .u8 z32) HR5.out (info32 hp.out) (by rw [len32 hp.out, len32 z32_length]) (arrK_all _ _) ?_
      intro w6 HD6 hg6 hz6
      have HD6 := Lib.hid HD6
      have HB6 := below_grown HB5.out hg6 HB5.out.size (by simp)
      clear hg6 hz6))
    exact ret_row rfl w.heap.size 29 (arrK .u8 (pubS f)) (.array 32 5) rfl HD6.out (by kernel_rfl) rfl (info32 hp.out) rfl ⟨rfl, HB6⟩
end Go.Proofs.YtkflpoiobpblhaaGreat
