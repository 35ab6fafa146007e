/- Walks and plain laws that the statement rests on: MFo, MChk, MBs. -/
import Derived.Deep.MidRow
import Derived.Test.YtkflpoiobpblhaaGreatP00
import Derived.Test.YtkflpoiobpblhaaGreatP30
import Derived.Test.YtkflpoiobpblhaaGreatP31
import Derived.Test.YtkflpoiobpblhaaGreatP36
import Derived.Test.YtkflpoiobpblhaaGreatPS
namespace Go.Proofs.YtkflpoiobpblhaaGreat
open Go.RowKit
set_option linter.unusedVariables false
set_option linter.unusedSimpArgs false
namespace Mir
structure Fo where
 pub : List Nat
 many : Int
 no : Int
 it : List It
 ea : List Ve
def fo0 : Fo := ⟨z32, 0, 0, [], []⟩
def earlyOk : Int → List Ve → Bool
 | _, [] => true
 | last, v :: l => decide (last < v.no) && earlyOk v.no l
def verAll (pub : List Nat) (many : Int) : List Ve → Int
 | [] => 0
 | v :: l => if verE pub many v ≠ 0 then verE pub many v else verAll pub many l
def foE (f : Fo) : Int :=
 if manyB f.many = false then 40 else if f.no < 0 ∨ 4096 < f.no then 450 else if itE f.it ≠ 0 then itE f.it else if f.no = 0 ∧ 0 < f.it.length then 430 else if 64 < f.ea.length then 2 else if earlyOk (f.no + 1) f.ea = false then 450 else verAll f.pub f.many f.ea
def apS (f : Fo) (v : Ve) : Fo × Bool :=
 if appE f.it v.ch = 0 ∧ itE (appS f.it v.ch) = 0 ∧ stS (appS f.it v.ch) = v.st then (⟨f.pub, f.many, v.no, appS f.it v.ch, f.ea⟩, true) else (f, false)
def drain : List Ve → Fo → Fo
 | [], f => { f with ea := [] }
 | v :: l, f => if v.no = f.no + 1 then drain l (apS { f with ea := l } v).1 else { f with ea := v :: l }
def rcv (f : Fo) (v : Ve) : Fo × Int :=
 if foE f ≠ 0 then (fo0, foE f) else if verE f.pub f.many v ≠ 0 then (fo0, verE f.pub f.many v) else
 if (f.ea.any fun u => decide (u.no = v.no)) = true ∨ v.no ≤ f.no then (fo0, 450) else
 if f.no + 1 < v.no then (if f.ea.length = 64 then (fo0, 2) else ({ f with ea := (f.ea.filter fun u => decide (u.no < v.no)) ++ [v] ++ (f.ea.filter fun u => !decide (u.no < v.no)) }, 0)) else
 if (apS f v).2 = false then (fo0, 430) else (drain f.ea (apS f v).1, 0)
def SmV (v : Ve) : Prop := v.ch.length ≤ 1000000 ∧ ∀ x ∈ v.ch, x.1.2.length ≤ 900000
def SmF (f : Fo) : Prop := f.it.length ≤ 1000000 ∧ (∀ x ∈ f.it, x.2.length ≤ 900000) ∧ f.ea.length ≤ 1000000 ∧ ∀ v ∈ f.ea, SmV v
theorem verA_all {no : Int} {st : List Nat} {C s0 s1 s2 s3 : Value} (hC : C.oneCell' = true) (h0 : s0.oneCell' = true) (h1 : s1.oneCell' = true) (h2 : s2.oneCell' = true) (h3 : s3.oneCell' = true) : (verA no st C s0 s1 s2 s3).all (·.oneCell') = true := by
 unfold verA
 rw [Array.all_append, Array.all_append, arrK_all]
 simp only [List.all_toArray, List.all_cons, List.all_nil, hC, h0, h1, h2, h3]
 rfl
end Mir
theorem VerC.size {w : World} {v : Mir.Ve} {V : Array Value} (h : VerC w v V) : V.size = 38 := by
 obtain ⟨A, c, s0, s1, s2, s3, rfl, hd, -⟩ := h
 exact Mir.verA_size hd.1 ..
theorem VerC.info {w : World} {v : Mir.Ve} {V : Array Value} (h : VerC w v V) : (Tryz.prog.info? 34).map (·.size) = some V.size := by rw [h.size]; kernel_rfl
theorem VerC.all {w : World} {v : Mir.Ve} {V : Array Value} (h : VerC w v V) : V.all (·.oneCell') = true := by
 obtain ⟨A, c, s0, s1, s2, s3, rfl, -, -, -, -, hg⟩ := h
 obtain ⟨Ao, co, Ac, cc, Ap, cp, rfl, rfl, rfl, rfl, -⟩ := hg
 exact Mir.verA_all rfl rfl rfl rfl rfl
theorem VerC.c0 {w : World} {v : Mir.Ve} {V : Array Value} (h : VerC w v V) : V[0]? = some (.int .i64 v.no) := by
 obtain ⟨A, c, s0, s1, s2, s3, rfl, -⟩ := h
 exact Mir.verA_0 ..
theorem VerC.c33 {w : World} {v : Mir.Ve} {V : Array Value} (h : VerC w v V) : ∃ A c, V[33]? = some (.slice A v.ch.length c) ∧ ChangesC w A v.ch ∧ v.ch.length ≤ c ∧ c ≤ maxLen := by
 obtain ⟨A, c, s0, s1, s2, s3, rfl, hd, hC, h1, h2, -⟩ := h
 exact ⟨A, c, Mir.verA_hi hd.1 _ _ _ _ _ _ 0, hC, h1, h2⟩
theorem VerC.st {w : World} {v : Mir.Ve} {V : Array Value} (h : VerC w v V) : IsD v.st ∧ ∀ i, i < 32 → V[1 + i]? = (arrK .u8 v.st)[i]? := by
 obtain ⟨A, c, s0, s1, s2, s3, rfl, hd, -⟩ := h
 exact ⟨hd, fun i hi => Mir.verA_mid hd.1 _ _ _ _ _ _ hi⟩
theorem range_any {w : World} {b off : Nat} {cs : List Value} (h : Cells w (some ⟨b, off, none⟩) cs) : w.rangeAt b off cs := fun j v hv => by
 obtain ⟨b', o', e, -, hc⟩ := Cells.addr h (by have := (List.getElem?_eq_some_iff.1 hv).1; omega)
 cases e
 exact hc j v hv
def VersC (w : World) (A : Option Addr) (l : List Mir.Ve) : Prop :=
 ∃ Vs : List (Array Value), Vs.length = l.length ∧ Cells w A (Vs.map Array.toList).flatten ∧ ∀ (k : Nat) (v : Mir.Ve) (V : Array Value), l[k]? = some v → Vs[k]? = some V → VerC w v V
theorem VersC.below {w w' : World} {A : Option Addr} {l : List Mir.Ve} (h : VersC w A l) (hb : Below w.heap.size w w') : VersC w' A l := by
 obtain ⟨Vs, h1, h2, h3⟩ := h
 exact ⟨Vs, h1, h2.below hb, fun k v V e1 e2 => (h3 k v V e1 e2).below hb⟩
theorem VersC.nil_ (w : World) (A : Option Addr) : VersC w A [] := ⟨[], rfl, .inl rfl, fun k v V e _ => by simp at e⟩
theorem flat38 : ∀ (Vs : List (Array Value)), (∀ V ∈ Vs, V.size = 38) → (Vs.map Array.toList).flatten.length = Vs.length * 38 ∧ ∀ k V, Vs[k]? = some V → ((Vs.map Array.toList).flatten.drop (k * 38)).take 38 = V.toList
 | [], _ => ⟨rfl, fun k V e => by simp at e⟩
 | U :: Vs, h => by
   have hU : U.toList.length = 38 := by simpa using h U (by simp)
   have ih := flat38 Vs (fun V hV => h V (by simp [hV]))
   refine ⟨by rw [List.map_cons, List.flatten_cons, List.length_append, hU, ih.1, List.length_cons]; omega, fun k V e => ?_⟩
   rw [List.map_cons, List.flatten_cons]
   cases k with
   | zero =>
     simp at e; subst e
     rw [Nat.zero_mul, List.drop_zero, List.take_append_of_le_length (by omega), List.take_of_length_le (by omega)]
   | succ k =>
     rw [show (k + 1) * 38 = 38 + k * 38 by omega, ← List.drop_drop, List.drop_append_of_le_length (by omega), show U.toList.drop 38 = [] from List.drop_eq_nil_of_le (by omega), List.nil_append]
     exact ih.2 k V (by simpa using e)
theorem VersC.sizes {w : World} {l : List Mir.Ve} {Vs : List (Array Value)} (h1 : Vs.length = l.length) (h3 : ∀ (k : Nat) (v : Mir.Ve) (V : Array Value), l[k]? = some v → Vs[k]? = some V → VerC w v V) : ∀ V ∈ Vs, V.size = 38 := by
 intro V hV
 obtain ⟨k, hk, rfl⟩ := List.getElem_of_mem hV
 obtain ⟨v, hv⟩ := getElem?_lt (l := l) (k := k) (by omega)
 exact (h3 k v _ hv (List.getElem?_eq_getElem hk)).size
theorem VersC.at_ {w : World} {A : Option Addr} {l : List Mir.Ve} (h : VersC w A l) (hl : 0 < l.length) :
    ∃ b off, A = some ⟨b, off, none⟩ ∧ b < w.heap.size ∧ ∀ (k : Nat) (v : Mir.Ve), l[k]? = some v → ∃ V, VerC w v V ∧ w.rangeAt b (off + k * 38) V.toList := by
 obtain ⟨Vs, h1, h2, h3⟩ := h
 have hs := VersC.sizes h1 h3
 obtain ⟨f1, f2⟩ := flat38 Vs hs
 obtain ⟨b, off, rfl, hb, hc⟩ := Cells.addr h2 (by rw [f1]; omega)
 refine ⟨b, off, rfl, hb, fun k v hv => ?_⟩
 have hlt := (List.getElem?_eq_some_iff.1 hv).1
 obtain ⟨V, hV⟩ := getElem?_lt (l := Vs) (k := k) (by omega)
 refine ⟨V, h3 k v V hv hV, ?_⟩
 have h4 := h2.cut (k * 38) 38
 rw [f2 k V hV] at h4
 exact range_any h4
theorem VersC.tail_ {w : World} {b off c : Nat} {v : Mir.Ve} {l : List Mir.Ve} (h : VersC w (some ⟨b, off, none⟩) (v :: l)) (hc : l.length + 1 ≤ c) : VersC w (if c = 1 then some ⟨b, off, none⟩ else some ⟨b, off + 38, none⟩) l := by
 obtain ⟨Vs, h1, h2, h3⟩ := h
 have hs := VersC.sizes h1 h3
 cases Vs with
 | nil => simp at h1
 | cons V Vs =>
   refine ⟨Vs, by simpa using h1, ?_, fun k u U e1 e2 => h3 (k + 1) u U (by simpa using e1) (by simpa using e2)⟩
   by_cases h0 : l = []
   · subst h0
     have : Vs = [] := List.eq_nil_of_length_eq_zero (by simpa using h1)
     subst this
     exact Cells.nil_ _ _
   · have : 0 < l.length := List.length_pos_iff.2 h0
     rw [if_neg (by omega)]
     have h4 := h2.drop_ 38
     rw [List.map_cons, List.flatten_cons, List.drop_append_of_le_length (by have := hs V (by simp); simp; omega), List.drop_eq_nil_of_le (by have := hs V (by simp); simp; omega), List.nil_append] at h4
     exact h4
def FolC (w : World) (f : Mir.Fo) (F : Array Value) : Prop :=
 ∃ (A : Option Addr) (ca : Nat) (B : Option Addr) (cb : Nat), F = Mir.folA f.pub f.many f.no (.slice A f.it.length ca) (.slice B f.ea.length cb) ∧ IsD f.pub ∧ ItemsC w A f.it ∧ VersC w B f.ea ∧ f.it.length ≤ ca ∧ ca ≤ maxLen ∧ f.ea.length ≤ cb ∧ cb ≤ maxLen
theorem FolC.below {w w' : World} {f : Mir.Fo} {F : Array Value} (h : FolC w f F) (hb : Below w.heap.size w w') : FolC w' f F := by
 obtain ⟨A, ca, B, cb, e, hd, h1, h2, r⟩ := h
 exact ⟨A, ca, B, cb, e, hd, h1.below hb, h2.below hb, r⟩
theorem FolC.size {w : World} {f : Mir.Fo} {F : Array Value} (h : FolC w f F) : F.size = 36 := by
 obtain ⟨A, ca, B, cb, rfl, hd, -⟩ := h
 exact Mir.folA_size hd.1 ..
theorem FolC.info {w : World} {f : Mir.Fo} {F : Array Value} (h : FolC w f F) : (Tryz.prog.info? 48).map (·.size) = some F.size := by rw [h.size]; kernel_rfl
theorem FolC.all {w : World} {f : Mir.Fo} {F : Array Value} (h : FolC w f F) : F.all (·.oneCell') = true := by
 obtain ⟨A, ca, B, cb, rfl, hd, -⟩ := h
 exact Mir.folA_all (hd.1) rfl rfl
theorem FolC.zero (w : World) : FolC w Mir.fo0 (Mir.folA z32 0 0 (.slice none 0 0) (.slice none 0 0)) := ⟨none, 0, none, 0, rfl, z32_isD, ItemsC.nil_ _ _, VersC.nil_ _ _, Nat.le_refl _, by unfold maxLen; omega, Nat.le_refl _, by unfold maxLen; omega⟩
def CellsO (ok : Nat → Prop) (w : World) (A : Option Addr) (cs : List Value) : Prop :=
 cs = [] ∨ ∃ b off, A = some ⟨b, off, none⟩ ∧ b < w.heap.size ∧ ok b ∧ ∀ j u, cs[j]? = some u → w.cell? ⟨b, off + j, none⟩ = some u
theorem CellsO.cells {ok : Nat → Prop} {w : World} {A : Option Addr} {cs : List Value} (h : CellsO ok w A cs) : Cells w A cs := by
 rcases h with h | ⟨b, off, h1, h2, -, h4⟩
 · exact .inl h
 · exact .inr ⟨b, off, h1, h2, h4⟩
theorem CellsO.grown {ok : Nat → Prop} {w w' : World} {A : Option Addr} {cs : List Value} {row : Option Nat} (h : CellsO ok w A cs) (hg : w.grownBy w' row) (hr : ∀ g, row = some g → ¬ ok g) : CellsO ok w' A cs := by
 rcases h with h | ⟨b, off, h1, h2, h3, h4⟩
 · exact .inl h
 · have h5 := Cells.grown (.inr ⟨b, off, h1, h2, h4⟩ : Cells w A cs) hg (fun b' off' e hb => by
     rw [h1] at e
     injection e with e
     injection e with e1 e2
     subst e1
     exact hr _ hb.symm h3)
   by_cases h0 : cs = []
   · exact .inl h0
   · obtain ⟨b', off', e, hb, hc⟩ := Cells.addr h5 (List.length_pos_iff.2 h0)
     rw [h1] at e
     injection e with e
     injection e with e1 e2
     subst e1; subst e2
     exact .inr ⟨b, off, h1, hb, h3, hc⟩
theorem CellsO.below {ok : Nat → Prop} {w w' : World} {A : Option Addr} {cs : List Value} (h : CellsO ok w A cs) (hb : Below w.heap.size w w') : CellsO ok w' A cs := h.grown (grown_of_below hb none) (fun g e => by cases e)
theorem CellsO.own {ok : Nat → Prop} {w : World} {base : Nat} {e : TypeId} {size : Nat} {A : Option Addr} {n c : Nat} {cs : List Value} (h : w.ownsRow base e size (.slice A n c) n cs) (hok : ∀ b, base ≤ b → ok b) : CellsO ok w A cs := by
 rcases Cells.own h with h0 | ⟨b, off, h1, h2, h4⟩
 · exact .inl h0
 · by_cases hc : cs = []
   · exact .inl hc
   · refine .inr ⟨b, off, h1, h2, hok b ?_, h4⟩
     exact own_base h b (by rw [h1]; rfl)
def FolO (wb w : World) (ok : Nat → Prop) (f : Mir.Fo) (F : Array Value) : Prop :=
 ∃ (A : Option Addr) (ca : Nat) (B : Option Addr) (cb : Nat) (za : List Mir.Zi), F = Mir.folA f.pub f.many f.no (.slice A f.it.length ca) (.slice B f.ea.length cb) ∧ IsD f.pub ∧ za.map Prod.fst = f.it ∧ ItDat wb za ∧ CellsO ok w A (itZ za) ∧ VersC wb B f.ea ∧ f.it.length ≤ ca ∧ ca ≤ maxLen ∧ f.ea.length ≤ cb ∧ cb ≤ maxLen
theorem FolO.grown {wb w w' : World} {ok : Nat → Prop} {f : Mir.Fo} {F : Array Value} {row : Option Nat} (h : FolO wb w ok f F) (hg : w.grownBy w' row) (hr : ∀ g, row = some g → ¬ ok g) : FolO wb w' ok f F := by
 obtain ⟨A, ca, B, cb, za, e, hd, h1, h2, h3, r⟩ := h
 exact ⟨A, ca, B, cb, za, e, hd, h1, h2, h3.grown hg hr, r⟩
theorem FolO.below {wb w w' : World} {ok : Nat → Prop} {f : Mir.Fo} {F : Array Value} (h : FolO wb w ok f F) (hb : Below w.heap.size w w') : FolO wb w' ok f F := h.grown (grown_of_below hb none) (fun g e => by cases e)
theorem FolO.fol {wb w : World} {ok : Nat → Prop} {f : Mir.Fo} {F : Array Value} (h : FolO wb w ok f F) (hb : Below wb.heap.size wb w) : FolC w f F := by
 obtain ⟨A, ca, B, cb, za, e, hd, h1, h2, h3, h4, r⟩ := h
 exact ⟨A, ca, B, cb, e, hd, h1 ▸ h2.items hb h3.cells, h4.below hb, r⟩
theorem FolC.folO {w : World} {ok : Nat → Prop} {f : Mir.Fo} {F : Array Value} (h : FolC w f F) (hok : ∀ b, b < w.heap.size → ok b) : FolO w w ok f F := by
 obtain ⟨A, ca, B, cb, e, hd, h1, h2, r⟩ := h
 obtain ⟨za, e1, e2, e3⟩ := items_zs h1
 refine ⟨A, ca, B, cb, za, e, hd, e1, e2, ?_, h2, r⟩
 rcases e3 with h0 | ⟨b, off, g1, g2, g4⟩
 · exact .inl h0
 · exact .inr ⟨b, off, g1, g2, hok b g2, g4⟩
theorem FolO.mono {wb w : World} {ok ok' : Nat → Prop} {f : Mir.Fo} {F : Array Value} (h : FolO wb w ok f F) (hok : ∀ b, ok b → ok' b) : FolO wb w ok' f F := by
 obtain ⟨A, ca, B, cb, za, e, hd, h1, h2, h3, r⟩ := h
 refine ⟨A, ca, B, cb, za, e, hd, h1, h2, ?_, r⟩
 rcases h3 with h0 | ⟨b, off, g1, g2, g3, g4⟩
 · exact .inl h0
 · exact .inr ⟨b, off, g1, g2, hok b g3, g4⟩
end Go.Proofs.YtkflpoiobpblhaaGreat
namespace Go.Proofs.YtkflpoiobpblhaaGreat
open Go.RowKit
set_option linter.unusedVariables false
set_option linter.unusedSimpArgs false
namespace Mir
theorem earlyOk_cons {last : Int} {v : Ve} {l : List Ve} : earlyOk last (v :: l) = (decide (last < v.no) && earlyOk v.no l) := rfl
theorem verAll_cons {p : List Nat} {m : Int} {v : Ve} {l : List Ve} : verAll p m (v :: l) = if verE p m v ≠ 0 then verE p m v else verAll p m l := rfl
def ver0 : Array Value := verA 0 z32 (.slice none 0 0) (.int .i64 0) (.slice none 0 0) (.slice none 0 0) (.slice none 0 0)
theorem ver0_size : ver0.size = 38 := verA_size z32_length ..
end Mir
set_option maxRecDepth 100000 in
set_option maxHeartbeats 4000000 in
theorem check_any (f : Mir.Fo) (F : Array Value) (w : World) (hF : FolC w f F) (hs : Mir.SmF f) :
    Calls Tryz.prog 20 #[.agg F] w fun e w' => e = .returned (.int .i64 (Mir.foE f)) ∧ Below w.heap.size w w' := by
 obtain ⟨A, ca, B, cb, hFe, hd, hA, hB, hca, hcam, hcb, hcbm⟩ := hF
 obtain ⟨pub, many, no, it, ea⟩ := f
 obtain ⟨s1, s2, s3, s4⟩ := hs
 simp only [] at hFe hd hA hB hca hcb s1 s2 s3 s4 ⊢
 obtain ⟨n1, hn1⟩ : ∃ n, it.length = n := ⟨_, rfl⟩
 obtain ⟨n2, hn2⟩ : ∃ n, ea.length = n := ⟨_, rfl⟩
 rw [hn1] at hFe hca s1
 rw [hn2] at hFe hcb s3
 have hhi := Mir.folA_hi hd.1 many no (.slice A n1 ca) (.slice B n2 cb)
 have hlo0 := fun i (hi : i < 32) => Mir.folA_low hd.1 many no (.slice A n1 ca) (.slice B n2 cb) (i := i) hi
 rw [← hFe] at hhi
 have Hlo := Lib.hid (fun i (hi : i < 32) => (show F[i]? = (arrK .u8 pub)[i]? from by rw [hFe]; exact hlo0 i hi))
 clear hlo0
 have h32 : F[32]? = some (.int .i64 many) := hhi 0
 have h33 : F[33]? = some (.int .i64 no) := hhi 1
 have h34 : F[34]? = some (.slice A n1 ca) := hhi 2
 have h35 : F[35]? = some (.slice B n2 cb) := hhi 3
 have HMn := Lib.hid (fun W => isMany_any many W)
 have HP := Lib.hid (fun W h => pcheck_any A n1 ca it W hn1 s1 h)
 have HV := Lib.hid (fun (v : Mir.Ve) V W (hm : v ∈ ea) h => mverify_any pub many v V W hd h (s4 v hm).1 (s4 v hm).2)
 have Hd := Lib.hid hd
 have HA := Lib.hid hA
 have HB := Lib.hid hB
 have Hn1 := Lib.hid hn1
 have Hn2 := Lib.hid hn2
 obtain ⟨R, hR⟩ : ∃ R, Mir.foE ⟨pub, many, no, it, ea⟩ = R := ⟨_, rfl⟩
 rw [hR]
 have HR : Hid (R = if Mir.manyB many = false then 40 else if no < 0 ∨ 4096 < no then 450 else if Mir.itE it ≠ 0 then Mir.itE it else if no = 0 ∧ 0 < n1 then 430 else if 64 < n2 then 2 else if Mir.earlyOk (no + 1) ea = false then 450 else Mir.verAll pub many ea) := Lib.hid (by rw [← hR, ← hn1, ← hn2]; rfl)
 clear hR hFe hhi hA hB hd hn1 hn2 s2 s4 hcam hcbm
 obtain ⟨qb, hqb⟩ : ∃ q, Mir.manyB many = q := ⟨_, rfl⟩
 rw [hqb] at HR HMn
 obtain ⟨E, hE⟩ : ∃ E, Mir.itE it = E := ⟨_, rfl⟩
 rw [hE] at HR HP
 clear hqb hE
 cases qb with
 | false =>
   have HR2 : Hid (R = 40) := Lib.hid (by rw [HR.out]; simp)
   clear HR
   go_enter Tryz.func20, Tryz.ntmps20
   go_upto_region 1 with (fail)
   generalize hge : World.alloc _ _ = w1
   have hX0 := (show Blk w1 w.heap.size 48 F by subst hge; exact Blk.new w _ _)
   have HX := Lib.hid hX0
   have HBw := Lib.hid (al1 hge)
   have y32 : w1.cell? ⟨w.heap.size, 32, none⟩ = some (.int .i64 many) := (HX.out.cell 32).trans h32
   have y33 : w1.cell? ⟨w.heap.size, 33, none⟩ = some (.int .i64 no) := (HX.out.cell 33).trans h33
   have y34 : w1.cell? ⟨w.heap.size, 34, none⟩ = some (.slice A n1 ca) := (HX.out.cell 34).trans h34
   have y35 : w1.cell? ⟨w.heap.size, 35, none⟩ = some (.slice B n2 cb) := (HX.out.cell 35).trans h35
   clear hge hX0
   go_wp2_with (fail)
   refine (HMn.out _).mono ?_
   rintro e w2 ⟨rfl, rfl⟩
   go_wp2_with (fail)
   go_ret
   exact ⟨by rw [HR2.out]; rfl, HBw.out⟩
 | true =>
   by_cases hno1 : no < 0
   · have d1 : decide (no < 0) = true := by simpa using hno1
     have HR2 : Hid (R = 450) := Lib.hid (by rw [HR.out]; simp [hno1])
     clear HR
     go_enter Tryz.func20, Tryz.ntmps20
     go_upto_region 1 with (fail)
     generalize hge : World.alloc _ _ = w1
     have hX0 := (show Blk w1 w.heap.size 48 F by subst hge; exact Blk.new w _ _)
     have HX := Lib.hid hX0
     have HBw := Lib.hid (al1 hge)
     have y32 : w1.cell? ⟨w.heap.size, 32, none⟩ = some (.int .i64 many) := (HX.out.cell 32).trans h32
     have y33 : w1.cell? ⟨w.heap.size, 33, none⟩ = some (.int .i64 no) := (HX.out.cell 33).trans h33
     have y34 : w1.cell? ⟨w.heap.size, 34, none⟩ = some (.slice A n1 ca) := (HX.out.cell 34).trans h34
     have y35 : w1.cell? ⟨w.heap.size, 35, none⟩ = some (.slice B n2 cb) := (HX.out.cell 35).trans h35
     clear hge hX0
     go_wp2_with (fail)
     refine (HMn.out _).mono ?_
     rintro e w2 ⟨rfl, rfl⟩
     go_wp2_with (fail)
     go_ret
     exact ⟨by rw [HR2.out]; rfl, HBw.out⟩
   · have d1 : decide (no < 0) = false := by simpa using hno1
     by_cases hno2 : 4096 < no
     · have d2 : decide (4096 < no) = true := by simpa using hno2
       have HR2 : Hid (R = 450) := Lib.hid (by rw [HR.out]; simp [hno2])
       clear HR
       go_enter Tryz.func20, Tryz.ntmps20
       go_upto_region 1 with (fail)
       generalize hge : World.alloc _ _ = w1
       have hX0 := (show Blk w1 w.heap.size 48 F by subst hge; exact Blk.new w _ _)
       have HX := Lib.hid hX0
       have HBw := Lib.hid (al1 hge)
       have y32 : w1.cell? ⟨w.heap.size, 32, none⟩ = some (.int .i64 many) := (HX.out.cell 32).trans h32
       have y33 : w1.cell? ⟨w.heap.size, 33, none⟩ = some (.int .i64 no) := (HX.out.cell 33).trans h33
       have y34 : w1.cell? ⟨w.heap.size, 34, none⟩ = some (.slice A n1 ca) := (HX.out.cell 34).trans h34
       have y35 : w1.cell? ⟨w.heap.size, 35, none⟩ = some (.slice B n2 cb) := (HX.out.cell 35).trans h35
       clear hge hX0
       go_wp2_with (fail)
       refine (HMn.out _).mono ?_
       rintro e w2 ⟨rfl, rfl⟩
       go_wp2_with (fail)
       go_ret
       exact ⟨by rw [HR2.out]; rfl, HBw.out⟩
     · have d2 : decide (4096 < no) = false := by simpa using hno2
       by_cases hE : E = 0
       · subst hE
         by_cases hz : no = 0
         · by_cases hl : 0 < n1
           · have dl : decide ((0 : Int) < (n1 : Int)) = true := by simp; omega
             have HR2 : Hid (R = 430) := Lib.hid (by rw [HR.out]; simp [hz, hl])
             clear HR
             go_enter Tryz.func20, Tryz.ntmps20
             go_upto_region 1 with (fail)
             generalize hge : World.alloc _ _ = w1
             have hX0 := (show Blk w1 w.heap.size 48 F by subst hge; exact Blk.new w _ _)
             have HX := Lib.hid hX0
             have HBw := Lib.hid (al1 hge)
             have y32 : w1.cell? ⟨w.heap.size, 32, none⟩ = some (.int .i64 many) := (HX.out.cell 32).trans h32
             have y33 : w1.cell? ⟨w.heap.size, 33, none⟩ = some (.int .i64 no) := (HX.out.cell 33).trans h33
             have y34 : w1.cell? ⟨w.heap.size, 34, none⟩ = some (.slice A n1 ca) := (HX.out.cell 34).trans h34
             have y35 : w1.cell? ⟨w.heap.size, 35, none⟩ = some (.slice B n2 cb) := (HX.out.cell 35).trans h35
             clear hge hX0
             go_wp2_with (fail)
             refine (HMn.out _).mono ?_
             rintro e w2 ⟨rfl, rfl⟩
             go_wp2_with (fail)
             refine (HP.out _ (HA.out.below HBw.out)).mono ?_
             rintro e w2 ⟨rfl, hb2⟩
             have HX2 := Lib.hid (HX.out.below hb2)
             have HB2 := Lib.hid (below_of HBw.out hb2 HBw.out.size)
             have z32_ : w2.cell? ⟨w.heap.size, 32, none⟩ = some (.int .i64 many) := cellkM hb2 y32
             have z33_ : w2.cell? ⟨w.heap.size, 33, none⟩ = some (.int .i64 no) := cellkM hb2 y33
             have z34_ : w2.cell? ⟨w.heap.size, 34, none⟩ = some (.slice A n1 ca) := cellkM hb2 y34
             have z35_ : w2.cell? ⟨w.heap.size, 35, none⟩ = some (.slice B n2 cb) := cellkM hb2 y35
             clear hb2 y32 y33 y34 y35 HX HBw
             go_wp2_with (fail)
             go_ret
             exact ⟨by rw [HR2.out]; rfl, HB2.out⟩
           · have dl : decide ((0 : Int) < (n1 : Int)) = false := by simp; omega
             have dz : decide (no = 0) = true := by simpa using hz
             have dz2 : (no == 0) = true := by simpa using hz
             by_cases hm : 64 < n2
             · have dm : decide ((64 : Int) < (n2 : Int)) = true := by simp; omega
               have HR2 : Hid (R = 2) := Lib.hid (by rw [HR.out]; simp [hno1, hno2, hz, hl, hm] <;> omega)
               clear HR
               clear hz
               go_enter Tryz.func20, Tryz.ntmps20
               go_upto_region 1 with (fail)
               generalize hge : World.alloc _ _ = w1
               have hX0 := (show Blk w1 w.heap.size 48 F by subst hge; exact Blk.new w _ _)
               have HX := Lib.hid hX0
               have HBw := Lib.hid (al1 hge)
               have y32 : w1.cell? ⟨w.heap.size, 32, none⟩ = some (.int .i64 many) := (HX.out.cell 32).trans h32
               have y33 : w1.cell? ⟨w.heap.size, 33, none⟩ = some (.int .i64 no) := (HX.out.cell 33).trans h33
               have y34 : w1.cell? ⟨w.heap.size, 34, none⟩ = some (.slice A n1 ca) := (HX.out.cell 34).trans h34
               have y35 : w1.cell? ⟨w.heap.size, 35, none⟩ = some (.slice B n2 cb) := (HX.out.cell 35).trans h35
               clear hge hX0
               go_wp2_with (fail)
               refine (HMn.out _).mono ?_
               rintro e w2 ⟨rfl, rfl⟩
               go_wp2_with (fail)
               refine (HP.out _ (HA.out.below HBw.out)).mono ?_
               rintro e w2 ⟨rfl, hb2⟩
               have HX2 := Lib.hid (HX.out.below hb2)
               have HB2 := Lib.hid (below_of HBw.out hb2 HBw.out.size)
               have z32_ : w2.cell? ⟨w.heap.size, 32, none⟩ = some (.int .i64 many) := cellkM hb2 y32
               have z33_ : w2.cell? ⟨w.heap.size, 33, none⟩ = some (.int .i64 no) := cellkM hb2 y33
               have z34_ : w2.cell? ⟨w.heap.size, 34, none⟩ = some (.slice A n1 ca) := cellkM hb2 y34
               have z35_ : w2.cell? ⟨w.heap.size, 35, none⟩ = some (.slice B n2 cb) := cellkM hb2 y35
               clear hb2 y32 y33 y34 y35 HX HBw
               go_wp2_with (fail)
               go_ret
               exact ⟨by rw [HR2.out]; rfl, HB2.out⟩
             · have dm : decide ((64 : Int) < (n2 : Int)) = false := by simp; omega
               have HR2 : Hid (R = if Mir.earlyOk (no + 1) ea = false then 450 else Mir.verAll pub many ea) := Lib.hid (by rw [HR.out]; simp [hno1, hno2, hz, hl, hm] <;> omega)
               clear HR
               clear hz
               go_enter Tryz.func20, Tryz.ntmps20
               go_upto_region 1 with (fail)
               generalize hge : World.alloc _ _ = w1
               have hX0 := (show Blk w1 w.heap.size 48 F by subst hge; exact Blk.new w _ _)
               have HX := Lib.hid hX0
               have HBw := Lib.hid (al1 hge)
               have y32 : w1.cell? ⟨w.heap.size, 32, none⟩ = some (.int .i64 many) := (HX.out.cell 32).trans h32
               have y33 : w1.cell? ⟨w.heap.size, 33, none⟩ = some (.int .i64 no) := (HX.out.cell 33).trans h33
               have y34 : w1.cell? ⟨w.heap.size, 34, none⟩ = some (.slice A n1 ca) := (HX.out.cell 34).trans h34
               have y35 : w1.cell? ⟨w.heap.size, 35, none⟩ = some (.slice B n2 cb) := (HX.out.cell 35).trans h35
               clear hge hX0
               go_wp2_with (fail)
               refine (HMn.out _).mono ?_
               rintro e w2 ⟨rfl, rfl⟩
               go_wp2_with (fail)
               refine (HP.out _ (HA.out.below HBw.out)).mono ?_
               rintro e w2 ⟨rfl, hb2⟩
               have HX2 := Lib.hid (HX.out.below hb2)
               have HB2 := Lib.hid (below_of HBw.out hb2 HBw.out.size)
               have z32_ : w2.cell? ⟨w.heap.size, 32, none⟩ = some (.int .i64 many) := cellkM hb2 y32
               have z33_ : w2.cell? ⟨w.heap.size, 33, none⟩ = some (.int .i64 no) := cellkM hb2 y33
               have z34_ : w2.cell? ⟨w.heap.size, 34, none⟩ = some (.slice A n1 ca) := cellkM hb2 y34
               have z35_ : w2.cell? ⟨w.heap.size, 35, none⟩ = some (.slice B n2 cb) := cellkM hb2 y35
               clear hb2 y32 y33 y34 y35 HX HBw
               go_wp2_with (fail)
               obtain ⟨ok, hok⟩ : ∃ b, Mir.earlyOk (no + 1) ea = b := ⟨_, rfl⟩
               rw [hok] at HR2
               have Hok := Lib.hid hok
               clear hok
               go_loopw [4, 47] (fun s i W => ∃ (k : Nat) (last : Int), k ≤ n2 ∧ i = .int .i64 k ∧ s = .int .i64 last ∧ Hid (Mir.earlyOk last (ea.drop k) = ok) ∧ Hid (Blk W w.heap.size 48 F) ∧ Hid (Below w.heap.size w W)) (fun _ i _ => n2 - (intOf i).toNat)
               case atStart => exact ⟨0, no + 1, by omega, rfl, rfl, Hok, HX2, HB2⟩
               case round =>
                obtain ⟨wq, rfl⟩ : ∃ v : World, v = wr := ⟨_, rfl⟩
                clear z32_ z33_ z34_ z35_
                obtain ⟨k, last, hk, rfl, rfl, hrest, hX, hB⟩ := hrel
                by_cases hlt : k < n2
                · obtain ⟨v, hv⟩ := getElem?_lt (l := ea) (k := k) (by rw [Hn2.out]; exact hlt)
                  obtain ⟨b, off, rfl, hb, hcs⟩ := HB.out.at_ (by rw [Hn2.out]; omega)
                  obtain ⟨V, hV, hr⟩ := hcs k v hv
                  have hV0 := hV.c0
                  have hr' : wq.rangeAt b (off + k * 38) V.toList := fun j u hu => cellkM hB.out (hr j u hu)
                  have HRg := Lib.hid hr'
                  have HVc := Lib.hid hV
                  have Hdr := Lib.hid (drop_cons hv)
                  clear hcs hV hr hr' hv
                  go_upto_region 16 with (first
                   | (refine wpList_put_blk rfl 34 (.tmp 6) (.tmp 50) rfl wq.heap.size V rfl rfl 34 Mir.ver0 (Blk.new wq 34 Mir.ver0) HVc.out.info (by rw [Mir.ver0_size, HVc.out.size]) HVc.out.all ?_
                      intro w4 bV4 hg4 hz4
                      have HV4 := Lib.hid bV4
                      have hb3 := (Below.refl wq.heap.size wq).alloc (Nat.le_refl _) (.cells Mir.ver0 34)
                      have hB4 := Lib.hid (below_grown (below_of hB.out hb3 hB.out.size) hg4 (Nat.le_trans hB.out.size hb3.size) (fun k hk => by cases hk; exact hB.out.size))
                      have hX4 := Lib.hid ((hX.out.below hb3).grown hg4 (fun e => by injection e with e; exact absurd e (Nat.ne_of_lt hX.out.lt)))
                      clear hb3 bV4 hg4 hz4)
                   | (refine wpList_load_mid rfl 34 (.tmp 49) rfl b (off + k * 38) rfl V.toList _ HRg.out Tryz.underlying34 rfl (by rw [Array.length_toList]; exact HVc.out.info) ?_))
                  have x0 : w4.cell? ⟨wq.heap.size, 0, none⟩ = some (.int .i64 v.no) := (HV4.out.cell 0).trans hV0
                  clear hV0
                  obtain ⟨vn, hvn⟩ : ∃ n, v.no = n := ⟨_, rfl⟩
                  rw [hvn] at x0
                  have Hvn := Lib.hid hvn
                  clear hvn
                  by_cases hle : vn ≤ last
                  · have dle : decide (vn ≤ last) = true := by simpa using hle
                    go_wp2_with (fail)
                    go_ret
                    have e2 : ok = false := by rw [← hrest.out, Hdr.out, Mir.earlyOk_cons, Hvn.out, decide_eq_false (by omega)]; rfl
                    exact ⟨by rw [HR2.out, e2]; rfl, hB4.out⟩
                  · have dle : decide (vn ≤ last) = false := by simpa using hle
                    go_wp2_with (fail)
                    go_roundw
                    case rel => exact ⟨k + 1, vn, by omega, by go_num, rfl, Lib.hid (by have := hrest.out; rwa [Hdr.out, Mir.earlyOk_cons, Hvn.out, decide_eq_true (by omega), Bool.true_and] at this), hX4, hB4⟩
                    case measure => simp [intOf]; omega
                · obtain rfl : k = n2 := by omega
                  have eok : ok = true := by rw [← hrest.out, ← Hn2.out, List.drop_length]; rfl
                  have HR3 : Hid (R = Mir.verAll pub many ea) := Lib.hid (by rw [HR2.out, eok]; rfl)
                  have z32_ : wq.cell? ⟨w.heap.size, 32, none⟩ = some (.int .i64 many) := (hX.out.cell 32).trans h32
                  have z35_ : wq.cell? ⟨w.heap.size, 35, none⟩ = some (.slice B k cb) := (hX.out.cell 35).trans h35
                  clear HR2 eok hrest Hok HX2 HB2
                  go_wp2_with (fail)
                  go_loopw [61] (fun i W => ∃ (j : Nat), j ≤ k ∧ i = .int .i64 j ∧ Hid (Mir.verAll pub many (ea.drop j) = R) ∧ Hid (Blk W w.heap.size 48 F) ∧ Hid (Below w.heap.size w W)) (fun i _ => k - (intOf i).toNat)
                  case atStart => exact ⟨0, by omega, rfl, Lib.hid HR3.out.symm, hX, hB⟩
                  case round =>
                   obtain ⟨wp, rfl⟩ : ∃ v : World, v = wr := ⟨_, rfl⟩
                   clear z32_ z35_ hX hB HR3
                   obtain ⟨j, hj, rfl, hrest, hX, hB⟩ := hrel
                   by_cases hlt2 : j < k
                   · obtain ⟨v, hv⟩ := getElem?_lt (l := ea) (k := j) (by rw [Hn2.out]; exact hlt2)
                     obtain ⟨b, off, rfl, hb, hcs⟩ := HB.out.at_ (by rw [Hn2.out]; omega)
                     obtain ⟨V, hV, hr⟩ := hcs j v hv
                     have hr' : wp.rangeAt b (off + j * 38) V.toList := fun i u hu => cellkM hB.out (hr i u hu)
                     have HRg := Lib.hid hr'
                     have HVc := Lib.hid hV
                     have Hdr := Lib.hid (drop_cons hv)
                     have Hvm := Lib.hid (List.mem_of_getElem? hv)
                     clear hcs hV hr hr' hv
                     go_upto_region 23 with (first
                      | (refine wpList_put_blk rfl 34 (.tmp 8) (.tmp 64) rfl wp.heap.size V rfl rfl 34 Mir.ver0 (Blk.new wp 34 Mir.ver0) HVc.out.info (by rw [Mir.ver0_size, HVc.out.size]) HVc.out.all ?_
                         intro w4 bV4 hg4 hz4
                         have HV4 := Lib.hid bV4
                         have hb3 := (Below.refl wp.heap.size wp).alloc (Nat.le_refl _) (.cells Mir.ver0 34)
                         have hB4 := Lib.hid (below_grown (below_of hB.out hb3 hB.out.size) hg4 (Nat.le_trans hB.out.size hb3.size) (fun k hk => by cases hk; exact hB.out.size))
                         have hX4 := Lib.hid ((hX.out.below hb3).grown hg4 (fun e => by injection e with e; exact absurd e (Nat.ne_of_lt hX.out.lt)))
                         clear hb3 bV4 hg4 hz4)
                      | (refine wpList_load_mid rfl 34 (.tmp 63) rfl b (off + j * 38) rfl V.toList _ HRg.out Tryz.underlying34 rfl (by rw [Array.length_toList]; exact HVc.out.info) ?_))
                     have x32 : w4.cell? ⟨w.heap.size, 32, none⟩ = some (.int .i64 many) := (hX4.out.cell 32).trans h32
                     have hpr : w4.rangeAt w.heap.size 0 (pub.map fun (n : Nat) => Value.int .u8 (n : Int)) := fun i u hu => by
                      have hi : i < 32 := by have := (List.getElem?_eq_some_iff.1 hu).1; rw [List.length_map, Hd.out.1] at this; exact this
                      rw [Nat.zero_add, hX4.out.cell i, Hlo.out i hi, ← Array.getElem?_toList, arrK_toList]
                      exact hu
                     have Hpr := Lib.hid hpr
                     clear hpr
                     go_wp2_with (first
                      | (refine wpList_load_blk rfl 34 (.tmp 8) rfl wp.heap.size rfl 34 V _ HV4.out Tryz.underlying34 rfl HVc.out.info ?_)
                      | (refine wpList_load_mid rfl 29 (.tmp 65) rfl w.heap.size 0 rfl (pub.map fun (n : Nat) => Value.int .u8 (n : Int)) (.array 32 5) Hpr.out (by kernel_rfl) rfl (dV_info Hd.out.1) ?_))
                     have HVq := HV.out v V w4 Hvm.out (HVc.out.below hB4.out)
                     obtain ⟨Ev, hEv⟩ : ∃ E, Mir.verE pub many v = E := ⟨_, rfl⟩
                     rw [hEv] at HVq
                     have HEv := Lib.hid hEv
                     clear hEv
                     refine HVq.mono ?_
                     rintro e w6 ⟨rfl, hb6⟩
                     have hX6 := Lib.hid (hX4.out.below hb6)
                     have hB6 := Lib.hid (below_of hB4.out hb6 hB4.out.size)
                     clear hb6 HVq
                     by_cases hE0 : Ev = 0
                     · subst hE0
                       go_wp2_with (fail)
                       go_roundw
                       case rel => exact ⟨j + 1, by omega, by go_num, Lib.hid (by have := hrest.out; rwa [Hdr.out, Mir.verAll_cons, HEv.out, if_neg (by simp)] at this), hX6, hB6⟩
                       case measure => simp [intOf]; omega
                     · have dE : decide (Ev = 0) = false := by simpa using hE0
                       go_wp2_with (fail)
                       go_ret
                       exact ⟨by rw [← hrest.out, Hdr.out, Mir.verAll_cons, HEv.out, if_pos hE0]; rfl, hB6.out⟩
                   · obtain rfl : j = k := by omega
                     have e0 : R = 0 := by rw [← hrest.out, ← Hn2.out, List.drop_length]; rfl
                     go_wp2_with (fail)
                     go_ret
                     exact ⟨by rw [e0]; rfl, hB.out⟩
         · have dz : decide (no = 0) = false := by simpa using hz
           have dz2 : (no == 0) = false := by simpa using hz
           by_cases hm : 64 < n2
           · have dm : decide ((64 : Int) < (n2 : Int)) = true := by simp; omega
             have HR2 : Hid (R = 2) := Lib.hid (by rw [HR.out]; simp [hno1, hno2, hz, hm] <;> omega)
             clear HR
             clear hz
             go_enter Tryz.func20, Tryz.ntmps20
             go_upto_region 1 with (fail)
             generalize hge : World.alloc _ _ = w1
             have hX0 := (show Blk w1 w.heap.size 48 F by subst hge; exact Blk.new w _ _)
             have HX := Lib.hid hX0
             have HBw := Lib.hid (al1 hge)
             have y32 : w1.cell? ⟨w.heap.size, 32, none⟩ = some (.int .i64 many) := (HX.out.cell 32).trans h32
             have y33 : w1.cell? ⟨w.heap.size, 33, none⟩ = some (.int .i64 no) := (HX.out.cell 33).trans h33
             have y34 : w1.cell? ⟨w.heap.size, 34, none⟩ = some (.slice A n1 ca) := (HX.out.cell 34).trans h34
             have y35 : w1.cell? ⟨w.heap.size, 35, none⟩ = some (.slice B n2 cb) := (HX.out.cell 35).trans h35
             clear hge hX0
             go_wp2_with (fail)
             refine (HMn.out _).mono ?_
             rintro e w2 ⟨rfl, rfl⟩
             go_wp2_with (fail)
             refine (HP.out _ (HA.out.below HBw.out)).mono ?_
             rintro e w2 ⟨rfl, hb2⟩
             have HX2 := Lib.hid (HX.out.below hb2)
             have HB2 := Lib.hid (below_of HBw.out hb2 HBw.out.size)
             have z32_ : w2.cell? ⟨w.heap.size, 32, none⟩ = some (.int .i64 many) := cellkM hb2 y32
             have z33_ : w2.cell? ⟨w.heap.size, 33, none⟩ = some (.int .i64 no) := cellkM hb2 y33
             have z34_ : w2.cell? ⟨w.heap.size, 34, none⟩ = some (.slice A n1 ca) := cellkM hb2 y34
             have z35_ : w2.cell? ⟨w.heap.size, 35, none⟩ = some (.slice B n2 cb) := cellkM hb2 y35
             clear hb2 y32 y33 y34 y35 HX HBw
             go_wp2_with (fail)
             go_ret
             exact ⟨by rw [HR2.out]; rfl, HB2.out⟩
           · have dm : decide ((64 : Int) < (n2 : Int)) = false := by simp; omega
             have HR2 : Hid (R = if Mir.earlyOk (no + 1) ea = false then 450 else Mir.verAll pub many ea) := Lib.hid (by rw [HR.out]; simp [hno1, hno2, hz, hm] <;> omega)
             clear HR
             clear hz
             go_enter Tryz.func20, Tryz.ntmps20
             go_upto_region 1 with (fail)
             generalize hge : World.alloc _ _ = w1
             have hX0 := (show Blk w1 w.heap.size 48 F by subst hge; exact Blk.new w _ _)
             have HX := Lib.hid hX0
             have HBw := Lib.hid (al1 hge)
             have y32 : w1.cell? ⟨w.heap.size, 32, none⟩ = some (.int .i64 many) := (HX.out.cell 32).trans h32
             have y33 : w1.cell? ⟨w.heap.size, 33, none⟩ = some (.int .i64 no) := (HX.out.cell 33).trans h33
             have y34 : w1.cell? ⟨w.heap.size, 34, none⟩ = some (.slice A n1 ca) := (HX.out.cell 34).trans h34
             have y35 : w1.cell? ⟨w.heap.size, 35, none⟩ = some (.slice B n2 cb) := (HX.out.cell 35).trans h35
             clear hge hX0
             go_wp2_with (fail)
             refine (HMn.out _).mono ?_
             rintro e w2 ⟨rfl, rfl⟩
             go_wp2_with (fail)
             refine (HP.out _ (HA.out.below HBw.out)).mono ?_
             rintro e w2 ⟨rfl, hb2⟩
             have HX2 := Lib.hid (HX.out.below hb2)
             have HB2 := Lib.hid (below_of HBw.out hb2 HBw.out.size)
             have z32_ : w2.cell? ⟨w.heap.size, 32, none⟩ = some (.int .i64 many) := cellkM hb2 y32
             have z33_ : w2.cell? ⟨w.heap.size, 33, none⟩ = some (.int .i64 no) := cellkM hb2 y33
             have z34_ : w2.cell? ⟨w.heap.size, 34, none⟩ = some (.slice A n1 ca) := cellkM hb2 y34
             have z35_ : w2.cell? ⟨w.heap.size, 35, none⟩ = some (.slice B n2 cb) := cellkM hb2 y35
             clear hb2 y32 y33 y34 y35 HX HBw
             go_wp2_with (fail)
             obtain ⟨ok, hok⟩ : ∃ b, Mir.earlyOk (no + 1) ea = b := ⟨_, rfl⟩
             rw [hok] at HR2
             have Hok := Lib.hid hok
             clear hok
             go_loopw [4, 47] (fun s i W => ∃ (k : Nat) (last : Int), k ≤ n2 ∧ i = .int .i64 k ∧ s = .int .i64 last ∧ Hid (Mir.earlyOk last (ea.drop k) = ok) ∧ Hid (Blk W w.heap.size 48 F) ∧ Hid (Below w.heap.size w W)) (fun _ i _ => n2 - (intOf i).toNat)
             case atStart => exact ⟨0, no + 1, by omega, rfl, rfl, Hok, HX2, HB2⟩
             case round =>
              obtain ⟨wq, rfl⟩ : ∃ v : World, v = wr := ⟨_, rfl⟩
              clear z32_ z33_ z34_ z35_
              obtain ⟨k, last, hk, rfl, rfl, hrest, hX, hB⟩ := hrel
              by_cases hlt : k < n2
              · obtain ⟨v, hv⟩ := getElem?_lt (l := ea) (k := k) (by rw [Hn2.out]; exact hlt)
                obtain ⟨b, off, rfl, hb, hcs⟩ := HB.out.at_ (by rw [Hn2.out]; omega)
                obtain ⟨V, hV, hr⟩ := hcs k v hv
                have hV0 := hV.c0
                have hr' : wq.rangeAt b (off + k * 38) V.toList := fun j u hu => cellkM hB.out (hr j u hu)
                have HRg := Lib.hid hr'
                have HVc := Lib.hid hV
                have Hdr := Lib.hid (drop_cons hv)
                clear hcs hV hr hr' hv
                go_upto_region 16 with (first
                 | (refine wpList_put_blk rfl 34 (.tmp 6) (.tmp 50) rfl wq.heap.size V rfl rfl 34 Mir.ver0 (Blk.new wq 34 Mir.ver0) HVc.out.info (by rw [Mir.ver0_size, HVc.out.size]) HVc.out.all ?_
                    intro w4 bV4 hg4 hz4
                    have HV4 := Lib.hid bV4
                    have hb3 := (Below.refl wq.heap.size wq).alloc (Nat.le_refl _) (.cells Mir.ver0 34)
                    have hB4 := Lib.hid (below_grown (below_of hB.out hb3 hB.out.size) hg4 (Nat.le_trans hB.out.size hb3.size) (fun k hk => by cases hk; exact hB.out.size))
                    have hX4 := Lib.hid ((hX.out.below hb3).grown hg4 (fun e => by injection e with e; exact absurd e (Nat.ne_of_lt hX.out.lt)))
                    clear hb3 bV4 hg4 hz4)
                 | (refine wpList_load_mid rfl 34 (.tmp 49) rfl b (off + k * 38) rfl V.toList _ HRg.out Tryz.underlying34 rfl (by rw [Array.length_toList]; exact HVc.out.info) ?_))
                have x0 : w4.cell? ⟨wq.heap.size, 0, none⟩ = some (.int .i64 v.no) := (HV4.out.cell 0).trans hV0
                clear hV0
                obtain ⟨vn, hvn⟩ : ∃ n, v.no = n := ⟨_, rfl⟩
                rw [hvn] at x0
                have Hvn := Lib.hid hvn
                clear hvn
                by_cases hle : vn ≤ last
                · have dle : decide (vn ≤ last) = true := by simpa using hle
                  go_wp2_with (fail)
                  go_ret
                  have e2 : ok = false := by rw [← hrest.out, Hdr.out, Mir.earlyOk_cons, Hvn.out, decide_eq_false (by omega)]; rfl
                  exact ⟨by rw [HR2.out, e2]; rfl, hB4.out⟩
                · have dle : decide (vn ≤ last) = false := by simpa using hle
                  go_wp2_with (fail)
                  go_roundw
                  case rel => exact ⟨k + 1, vn, by omega, by go_num, rfl, Lib.hid (by have := hrest.out; rwa [Hdr.out, Mir.earlyOk_cons, Hvn.out, decide_eq_true (by omega), Bool.true_and] at this), hX4, hB4⟩
                  case measure => simp [intOf]; omega
              · obtain rfl : k = n2 := by omega
                have eok : ok = true := by rw [← hrest.out, ← Hn2.out, List.drop_length]; rfl
                have HR3 : Hid (R = Mir.verAll pub many ea) := Lib.hid (by rw [HR2.out, eok]; rfl)
                have z32_ : wq.cell? ⟨w.heap.size, 32, none⟩ = some (.int .i64 many) := (hX.out.cell 32).trans h32
                have z35_ : wq.cell? ⟨w.heap.size, 35, none⟩ = some (.slice B k cb) := (hX.out.cell 35).trans h35
                clear HR2 eok hrest Hok HX2 HB2
                go_wp2_with (fail)
                go_loopw [61] (fun i W => ∃ (j : Nat), j ≤ k ∧ i = .int .i64 j ∧ Hid (Mir.verAll pub many (ea.drop j) = R) ∧ Hid (Blk W w.heap.size 48 F) ∧ Hid (Below w.heap.size w W)) (fun i _ => k - (intOf i).toNat)
                case atStart => exact ⟨0, by omega, rfl, Lib.hid HR3.out.symm, hX, hB⟩
                case round =>
                 obtain ⟨wp, rfl⟩ : ∃ v : World, v = wr := ⟨_, rfl⟩
                 clear z32_ z35_ hX hB HR3
                 obtain ⟨j, hj, rfl, hrest, hX, hB⟩ := hrel
                 by_cases hlt2 : j < k
                 · obtain ⟨v, hv⟩ := getElem?_lt (l := ea) (k := j) (by rw [Hn2.out]; exact hlt2)
                   obtain ⟨b, off, rfl, hb, hcs⟩ := HB.out.at_ (by rw [Hn2.out]; omega)
                   obtain ⟨V, hV, hr⟩ := hcs j v hv
                   have hr' : wp.rangeAt b (off + j * 38) V.toList := fun i u hu => cellkM hB.out (hr i u hu)
                   have HRg := Lib.hid hr'
                   have HVc := Lib.hid hV
                   have Hdr := Lib.hid (drop_cons hv)
                   have Hvm := Lib.hid (List.mem_of_getElem? hv)
                   clear hcs hV hr hr' hv
                   go_upto_region 23 with (first
                    | (refine wpList_put_blk rfl 34 (.tmp 8) (.tmp 64) rfl wp.heap.size V rfl rfl 34 Mir.ver0 (Blk.new wp 34 Mir.ver0) HVc.out.info (by rw [Mir.ver0_size, HVc.out.size]) HVc.out.all ?_
                       intro w4 bV4 hg4 hz4
                       have HV4 := Lib.hid bV4
                       have hb3 := (Below.refl wp.heap.size wp).alloc (Nat.le_refl _) (.cells Mir.ver0 34)
                       have hB4 := Lib.hid (below_grown (below_of hB.out hb3 hB.out.size) hg4 (Nat.le_trans hB.out.size hb3.size) (fun k hk => by cases hk; exact hB.out.size))
                       have hX4 := Lib.hid ((hX.out.below hb3).grown hg4 (fun e => by injection e with e; exact absurd e (Nat.ne_of_lt hX.out.lt)))
                       clear hb3 bV4 hg4 hz4)
                    | (refine wpList_load_mid rfl 34 (.tmp 63) rfl b (off + j * 38) rfl V.toList _ HRg.out Tryz.underlying34 rfl (by rw [Array.length_toList]; exact HVc.out.info) ?_))
                   have x32 : w4.cell? ⟨w.heap.size, 32, none⟩ = some (.int .i64 many) := (hX4.out.cell 32).trans h32
                   have hpr : w4.rangeAt w.heap.size 0 (pub.map fun (n : Nat) => Value.int .u8 (n : Int)) := fun i u hu => by
                    have hi : i < 32 := by have := (List.getElem?_eq_some_iff.1 hu).1; rw [List.length_map, Hd.out.1] at this; exact this
                    rw [Nat.zero_add, hX4.out.cell i, Hlo.out i hi, ← Array.getElem?_toList, arrK_toList]
                    exact hu
                   have Hpr := Lib.hid hpr
                   clear hpr
                   go_wp2_with (first
                    | (refine wpList_load_blk rfl 34 (.tmp 8) rfl wp.heap.size rfl 34 V _ HV4.out Tryz.underlying34 rfl HVc.out.info ?_)
                    | (refine wpList_load_mid rfl 29 (.tmp 65) rfl w.heap.size 0 rfl (pub.map fun (n : Nat) => Value.int .u8 (n : Int)) (.array 32 5) Hpr.out (by kernel_rfl) rfl (dV_info Hd.out.1) ?_))
                   have HVq := HV.out v V w4 Hvm.out (HVc.out.below hB4.out)
                   obtain ⟨Ev, hEv⟩ : ∃ E, Mir.verE pub many v = E := ⟨_, rfl⟩
                   rw [hEv] at HVq
                   have HEv := Lib.hid hEv
                   clear hEv
                   refine HVq.mono ?_
                   rintro e w6 ⟨rfl, hb6⟩
                   have hX6 := Lib.hid (hX4.out.below hb6)
                   have hB6 := Lib.hid (below_of hB4.out hb6 hB4.out.size)
                   clear hb6 HVq
                   by_cases hE0 : Ev = 0
                   · subst hE0
                     go_wp2_with (fail)
                     go_roundw
                     case rel => exact ⟨j + 1, by omega, by go_num, Lib.hid (by have := hrest.out; rwa [Hdr.out, Mir.verAll_cons, HEv.out, if_neg (by simp)] at this), hX6, hB6⟩
                     case measure => simp [intOf]; omega
                   · have dE : decide (Ev = 0) = false := by simpa using hE0
                     go_wp2_with (fail)
                     go_ret
                     exact ⟨by rw [← hrest.out, Hdr.out, Mir.verAll_cons, HEv.out, if_pos hE0]; rfl, hB6.out⟩
                 · obtain rfl : j = k := by omega
                   have e0 : R = 0 := by rw [← hrest.out, ← Hn2.out, List.drop_length]; rfl
                   go_wp2_with (fail)
                   go_ret
                   exact ⟨by rw [e0]; rfl, hB.out⟩
       · have dE : decide (E = 0) = false := by simpa using hE
         have HR2 : Hid (R = E) := Lib.hid (by rw [HR.out]; simp [hno1, hno2, hE] <;> omega)
         clear HR
         go_enter Tryz.func20, Tryz.ntmps20
         go_upto_region 1 with (fail)
         generalize hge : World.alloc _ _ = w1
         have hX0 := (show Blk w1 w.heap.size 48 F by subst hge; exact Blk.new w _ _)
         have HX := Lib.hid hX0
         have HBw := Lib.hid (al1 hge)
         have y32 : w1.cell? ⟨w.heap.size, 32, none⟩ = some (.int .i64 many) := (HX.out.cell 32).trans h32
         have y33 : w1.cell? ⟨w.heap.size, 33, none⟩ = some (.int .i64 no) := (HX.out.cell 33).trans h33
         have y34 : w1.cell? ⟨w.heap.size, 34, none⟩ = some (.slice A n1 ca) := (HX.out.cell 34).trans h34
         have y35 : w1.cell? ⟨w.heap.size, 35, none⟩ = some (.slice B n2 cb) := (HX.out.cell 35).trans h35
         clear hge hX0
         go_wp2_with (fail)
         refine (HMn.out _).mono ?_
         rintro e w2 ⟨rfl, rfl⟩
         go_wp2_with (fail)
         refine (HP.out _ (HA.out.below HBw.out)).mono ?_
         rintro e w2 ⟨rfl, hb2⟩
         have HX2 := Lib.hid (HX.out.below hb2)
         have HB2 := Lib.hid (below_of HBw.out hb2 HBw.out.size)
         have z32_ : w2.cell? ⟨w.heap.size, 32, none⟩ = some (.int .i64 many) := cellkM hb2 y32
         have z33_ : w2.cell? ⟨w.heap.size, 33, none⟩ = some (.int .i64 no) := cellkM hb2 y33
         have z34_ : w2.cell? ⟨w.heap.size, 34, none⟩ = some (.slice A n1 ca) := cellkM hb2 y34
         have z35_ : w2.cell? ⟨w.heap.size, 35, none⟩ = some (.slice B n2 cb) := cellkM hb2 y35
         clear hb2 y32 y33 y34 y35 HX HBw
         go_wp2_with (fail)
         go_ret
         exact ⟨by rw [HR2.out]; rfl, HB2.out⟩
end Go.Proofs.YtkflpoiobpblhaaGreat
namespace Go.Proofs.YtkflpoiobpblhaaGreat
open Go.RowKit Go.Shelf
set_option linter.unusedVariables false
set_option linter.unusedSimpArgs false
namespace Mir
abbrev IncV (l : List Ve) : Prop := l.Pairwise (fun a b => a.no < b.no)
theorem earlyOk_inc : ∀ (last : Int) (l : List Ve), earlyOk last l = true → (∀ v ∈ l, last < v.no) ∧ IncV l
 | _, [], _ => ⟨by simp, .nil⟩
 | last, v :: l, h => by
   unfold earlyOk at h
   rw [Bool.and_eq_true, decide_eq_true_eq] at h
   obtain ⟨h1, h2⟩ := earlyOk_inc v.no l h.2
   refine ⟨fun u hu => ?_, List.pairwise_cons.2 ⟨h1, h2⟩⟩
   rcases List.mem_cons.1 hu with rfl | hu
   · exact h.1
   · exact Int.lt_trans h.1 (h1 u hu)
theorem incV_at {l : List Ve} (h : IncV l) {i j : Nat} {u v : Ve} (hi : l[i]? = some u) (hj : l[j]? = some v) (hij : i < j) : u.no < v.no := by
 rw [IncV, List.pairwise_iff_getElem] at h
 have h1 := (List.getElem?_eq_some_iff.1 hi)
 have h2 := (List.getElem?_eq_some_iff.1 hj)
 have := h i j h1.1 h2.1 hij
 rw [h1.2, h2.2] at this
 exact this
end Mir
theorem wpList_load_mid_g {P : Program} {w : World} {ops : Array Oper} {rest : List Oper} {o : Oper} {a : Act} {Q : Exit → Act → World → Prop} (ty : TypeId) (x : Operand) (ho : o.op = .load ty x) (hw : Region.wanted o (yielded ops a.tmps) = true)
    (b off : Nat) (hx : a.eval x = .pointer (some ⟨b, off, none⟩)) (cs : List Value) (d : TypeDesc) (hc : w.rangeAt b off cs) (hu : P.underlying ty = some d) (hd : d.isRow = true) (hi : (P.info? ty).map (·.size) = some cs.length)
    (h : wpList P ops Q rest (a.put o.dst (.agg cs.toArray)) w) : wpList P ops Q (o :: rest) a w :=
 wpList_step fun _ hK => by rw [if_pos hw]; exact wp_load_mid ty x ho b off hx cs d hc hu hd hi (hK _ _ h)
set_option maxHeartbeats 4000000 in
theorem vclo_any (v : Mir.Ve) (V : Array Value) (wb : World) (no : Int) (w : World) (hV : VerC wb v V) : Calls Tryz.prog 42 #[.agg V, .int .i64 no] w fun e w' => e = .returned (.int .i64 (Lib.compareInt v.no no)) ∧ Below w.heap.size w w' := by
 have hcon := fun W' => AnyG.cmp_Compare_int Tryz.cmpInt v.no no W'
 change ∀ W', Calls Tryz.prog 43 _ _ _ at hcon
 have H := Lib.hid hcon
 have h0 := hV.c0
 generalize v.no = n at *
 generalize Lib.compareInt n no = r at *
 clear hV hcon
 go_enter Tryz.func42, Tryz.ntmps42
 go_upto_region 1 with (fail)
 generalize hge : World.alloc _ _ = w1
 have hb := al1 hge
 have hB : Blk w1 w.heap.size 34 V := by subst hge; exact Blk.new w _ _
 have x0 : w1.cell? ⟨w.heap.size, 0, none⟩ = some (.int .i64 n) := (hB.cell 0).trans h0
 clear hge h0
 go_wp2_with (go_at_call 43; refine (H.out _).mono ?_; rintro e w' ⟨rfl, rfl⟩)
 go_ret
 exact ⟨rfl, hb⟩
theorem cmpI_neg {x y : Int} : Lib.compareInt x y < 0 ↔ x < y := by unfold Lib.compareInt; split <;> (try split) <;> omega
theorem cmpI_zero {x y : Int} : Lib.compareInt x y = 0 ↔ x = y := by unfold Lib.compareInt; split <;> (try split) <;> omega
set_option maxRecDepth 100000 in
set_option maxHeartbeats 4000000 in
theorem vsearch_any (A : Option Addr) (n c : Nat) (l : List Mir.Ve) (no : Int) (w : World) (hl : l.length = n) (hn : n ≤ 1000000) (hC : VersC w A l) (hi : Mir.IncV l) :
    Calls Tryz.prog 41 #[.slice A n c, .int .i64 no, .func (.func 42) #[] #[]] w fun e w' => ∃ (k : Nat) (q : Bool), e = .returned (.tuple #[.int .i64 (k : Int), .bool q]) ∧ k ≤ n ∧ Hid (∀ i u, l[i]? = some u → (i < k ↔ u.no < no)) ∧ Hid (q = true ↔ ∃ u ∈ l, u.no = no) ∧ Below w.heap.size w w' := by
 have eg : ∀ args w, (callFunc 42 args).run Tryz.prog w = .ok (.enter 42 args) w := enters_of Tryz.func42 (by kernel_rfl) rfl
 have HC := Lib.hid hC
 have Hl := Lib.hid hl
 have Hi := Lib.hid hi
 clear hC hl hi
 go_enter Tryz.func41, Tryz.ntmps41
 go_wp2_with (fail)
 go_loopw [9, 10] (fun i j wr => ∃ lo hi : Nat, i = .int .i64 lo ∧ j = .int .i64 hi ∧ lo ≤ hi ∧ hi ≤ n ∧ Hid (∀ t u, t < lo → l[t]? = some u → u.no < no) ∧ Hid (∀ t u, hi ≤ t → l[t]? = some u → no ≤ u.no) ∧ Hid (Below w.heap.size w wr)) (fun i j _ => (intOf j).toNat - (intOf i).toNat)
 case atStart => exact ⟨0, n, rfl, rfl, Nat.zero_le _, Nat.le_refl _, Lib.hid (fun t u h => by omega), Lib.hid (fun t u h h' => by have := (List.getElem?_eq_some_iff.1 h').1; rw [Hl.out] at this; omega), Lib.hid (Below.refl _ _)⟩
 case round =>
  obtain ⟨wk, rfl⟩ : ∃ wk : World, wk = wr := ⟨_, rfl⟩
  obtain ⟨lo, hi, rfl, rfl, hlh, hin, I1, I2, hB⟩ := hrel
  by_cases hlt : lo < hi
  · obtain ⟨v, hx⟩ := getElem?_lt (l := l) (k := (lo + hi) / 2) (by rw [Hl.out]; omega)
    obtain ⟨b, off, rfl, hb, hcs⟩ := HC.out.at_ (by rw [Hl.out]; omega)
    obtain ⟨V, hV, hr⟩ := hcs _ _ hx
    have HRg := Lib.hid (show wk.rangeAt b (off + (lo + hi) / 2 * 38) V.toList from fun j u hu => cellkM hB.out (hr j u hu))
    have HVi := Lib.hid (show (Tryz.prog.info? 34).map (·.size) = some V.toList.length by rw [Array.length_toList]; exact hV.info)
    have HF := Lib.hid (fun W => vclo_any v V w no W hV)
    have Hx := Lib.hid hx
    clear hcs hx hr hV
    obtain ⟨cm, hcm⟩ : ∃ c, Lib.compareInt v.no no = c := ⟨_, rfl⟩
    rw [hcm] at HF
    have Hcm := Lib.hid hcm
    clear hcm
    by_cases hyx : cm < 0
    · go_wp2_with (first | (go_at_fn 42; refine (HF.out _).mono ?_; rintro e w2 ⟨rfl, hb2⟩) | (refine wpList_load_mid_g 34 (.tmp 27) rfl rfl b (off + (lo + hi) / 2 * 38) rfl V.toList _ HRg.out Tryz.underlying34 rfl HVi.out ?_))
      go_roundw
      case rel =>
       refine ⟨(lo + hi) / 2 + 1, hi, by rw [show ((lo : Int) + (hi : Int)) / 2 + 1 = (((lo + hi) / 2 + 1 : Nat) : Int) by omega], rfl, by omega, hin, Lib.hid (fun t u ht hu => ?_), I2, Lib.hid (below_of hB.out hb2 hB.out.size)⟩
       have hm : v.no < no := cmpI_neg.1 (by rw [Hcm.out]; exact hyx)
       rcases Nat.lt_or_eq_of_le (Nat.le_of_lt_succ ht) with h | rfl
       · exact Int.lt_trans (Mir.incV_at Hi.out hu Hx.out h) hm
       · rw [Hx.out] at hu; cases hu; exact hm
      case measure => simp [intOf]; omega
    · go_wp2_with (first | (go_at_fn 42; refine (HF.out _).mono ?_; rintro e w2 ⟨rfl, hb2⟩) | (refine wpList_load_mid_g 34 (.tmp 27) rfl rfl b (off + (lo + hi) / 2 * 38) rfl V.toList _ HRg.out Tryz.underlying34 rfl HVi.out ?_))
      go_roundw
      case rel =>
       refine ⟨lo, (lo + hi) / 2, rfl, by rw [show ((lo : Int) + (hi : Int)) / 2 = (((lo + hi) / 2 : Nat) : Int) by omega], by omega, by omega, I1, Lib.hid (fun t u ht hu => ?_), Lib.hid (below_of hB.out hb2 hB.out.size)⟩
       have hm : no ≤ v.no := Int.not_lt.1 (fun h => by have := cmpI_neg.2 h; rw [Hcm.out] at this; omega)
       rcases Nat.lt_or_eq_of_le ht with h | rfl
       · exact Int.le_of_lt (Int.lt_of_le_of_lt hm (Mir.incV_at Hi.out Hx.out hu h))
       · rw [Hx.out] at hu; cases hu; exact hm
      case measure => simp [intOf]; omega
  · obtain rfl : hi = lo := by omega
    have hcut : Hid (∀ i u, l[i]? = some u → (i < hi ↔ u.no < no)) := Lib.hid (fun i u hu => ⟨fun h => I1.out i u h hu, fun h => Nat.lt_of_not_le (fun h' => by have := I2.out i u h' hu; omega)⟩)
    by_cases hn2 : hi < n
    · obtain ⟨v, hx⟩ := getElem?_lt (l := l) (k := hi) (by rw [Hl.out]; omega)
      obtain ⟨b, off, rfl, hb, hcs⟩ := HC.out.at_ (by rw [Hl.out]; omega)
      obtain ⟨V, hV, hr⟩ := hcs _ _ hx
      have HRg := Lib.hid (show wk.rangeAt b (off + hi * 38) V.toList from fun j u hu => cellkM hB.out (hr j u hu))
      have HVi := Lib.hid (show (Tryz.prog.info? 34).map (·.size) = some V.toList.length by rw [Array.length_toList]; exact hV.info)
      have HF := Lib.hid (fun W => vclo_any v V w no W hV)
      have Hx := Lib.hid hx
      clear hcs hx hr hV
      obtain ⟨cm, hcm⟩ : ∃ c, Lib.compareInt v.no no = c := ⟨_, rfl⟩
      rw [hcm] at HF
      have Hcm := Lib.hid hcm
      clear hcm
      by_cases hyx : cm = 0
      · subst hyx
        go_wp2_with (first | (go_at_fn 42; refine (HF.out _).mono ?_; rintro e w2 ⟨rfl, hb2⟩) | (refine wpList_load_mid_g 34 (.tmp 43) rfl rfl b (off + hi * 38) rfl V.toList _ HRg.out Tryz.underlying34 rfl HVi.out ?_))
        go_ret2
        exact ⟨hi, true, rfl, hin, hcut, Lib.hid ⟨fun _ => ⟨v, List.mem_of_getElem? Hx.out, cmpI_zero.1 Hcm.out⟩, fun _ => rfl⟩, below_of hB.out hb2 hB.out.size⟩
      · have dcm : (cm == 0) = false := by simpa using hyx
        go_wp2_with (first | (go_at_fn 42; refine (HF.out _).mono ?_; rintro e w2 ⟨rfl, hb2⟩) | (refine wpList_load_mid_g 34 (.tmp 43) rfl rfl b (off + hi * 38) rfl V.toList _ HRg.out Tryz.underlying34 rfl HVi.out ?_))
        go_ret2
        refine ⟨hi, false, rfl, hin, hcut, Lib.hid ⟨fun h => (by cases h), fun ⟨u, hu, he⟩ => ?_⟩, below_of hB.out hb2 hB.out.size⟩
        obtain ⟨t, ht, rfl⟩ := List.getElem_of_mem hu
        have hu' := List.getElem?_eq_getElem ht
        rcases Nat.lt_trichotomy t hi with h | rfl | h
        · have := I1.out t _ h hu'; omega
        · rw [Hx.out] at hu'; cases hu'
          exact absurd (Hcm.out.symm.trans (cmpI_zero.2 he)) hyx
        · have h1 := I2.out hi v (Nat.le_refl _) Hx.out
          have h2 := Mir.incV_at Hi.out Hx.out hu' h
          omega
    · go_wp2_with (fail)
      go_ret2
      refine ⟨hi, false, rfl, hin, hcut, Lib.hid ⟨fun h => (by cases h), fun ⟨u, hu, he⟩ => ?_⟩, hB.out⟩
      obtain ⟨t, ht, rfl⟩ := List.getElem_of_mem hu
      have := I1.out t _ (by rw [Hl.out] at ht; omega) (List.getElem?_eq_getElem ht)
      omega
end Go.Proofs.YtkflpoiobpblhaaGreat
