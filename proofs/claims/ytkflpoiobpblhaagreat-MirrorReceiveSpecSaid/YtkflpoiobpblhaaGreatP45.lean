/- Walks and plain laws that the statement rests on: Row, MOp. -/
import Derived.ChangeSame
import Derived.OpenShut
import Derived.ProofKit
import Derived.Deep.Slices
import Derived.Lib.SmallJoins
import Derived.Test.YtkflpoiobpblhaaGreatP00
import Derived.Test.YtkflpoiobpblhaaGreatP01
import Derived.Test.YtkflpoiobpblhaaGreatP30
import Derived.Test.YtkflpoiobpblhaaGreatPS
import Derived.Test.YtkflpoiobpblhaaGreatRows
set_option maxRecDepth 100000
set_option maxHeartbeats 16000000
set_option linter.unusedVariables false
set_option linter.unusedSimpArgs false
namespace Go.Proofs.YtkflpoiobpblhaaGreat
open Go.RowKit Go.WideShapes Go.ChangeShapes Go.ChangeAt
section
variable {H : Type} {enc : TypeId × Value → H} {P : Program}
theorem trodAll_below (hl : laidOutB P = true) {W W' : World} (hb : Below W.heap.size W W') : ∀ (ts : List TypeId) (vs : List Value) (ds : List (DataW H)) (ps : List MemPlace),
    (∀ t ∈ ts, P.readableRec t = true ∧ t < P.types.size) → DataW.TrodAll enc P W 0 (fun _ => true) true ts vs ds ps → (∀ x ∈ ps, x.block < W.heap.size) →
    ∀ sp : Nat → Bool, (∀ x ∈ ps, sp x.block = true) → DataW.TrodAll enc P W' 0 sp true ts vs ds ps
 | [], _, _, _, _, h, _, sp, _ => by
   obtain ⟨rfl, rfl, rfl⟩ := trodAll_nil h
   exact trodAll_mk0
 | t :: ts, _, _, _, hr, h, hlt, sp, hs => by
   obtain ⟨v, vs, d, ds, p, q, rfl, rfl, rfl, h0, h1⟩ := trodAll_cons h
   refine trodAll_cons_mk ?_ (trodAll_below hl hb ts vs ds q (fun t ht => hr t (List.mem_cons_of_mem _ ht)) h1 (fun x hx => hlt x (List.mem_append_right _ hx)) sp (fun x hx => hs x (List.mem_append_right _ hx)))
   obtain ⟨r1, r2⟩ := hr t List.mem_cons_self
   exact WideElems.Trod_stays hl r1 r2 h0 (fun x hx => hb.same (hlt x (List.mem_append_left _ hx))) (fun x hx => hs x (List.mem_append_left _ hx))
theorem law_post {f : Func} {s : ChangeSpec} {W W' : World} {args : Array Value} {ds : List (DataW H)} {before : List MemPlace} {tb : TypeId}
    (hl : laidOutB P = true) (hr : ∀ t ∈ f.params.toList, P.readableRec t = true ∧ t < P.types.size) (hres : f.resultTypes = #[tb]) (htb : P.underlying tb = some .bool) (hvars : s.vars = [])
    (hW : DataW.Whole enc P f.params.toList s.vars false W args.toList ds [] before) (h1 : (s.fn H (ds ++ [])).results = [.lit (.bool true)]) (h2 : (s.fn H (ds ++ [])).args = ds) (h3 : (s.fn H (ds ++ [])).vars = [])
    (hb : Below W.heap.size W W') : s.post enc P f false true false false W args (.bool true) W' := by
 have hlt : ∀ p ∈ before, p.block < W.heap.size := fun p hp => hW.lt p hp
 obtain ⟨p, q, hA, hV, hbe, hz, hn⟩ := id hW
 rw [hvars] at hV
 obtain ⟨-, rfl⟩ := trodVars_none hV
 have hbe' : before = p := by simpa using hbe
 subst hbe'
 have hargs : ∀ sp : Nat → Bool, (∀ x ∈ before, sp x.block = true) → DataW.TrodAll enc P W' 0 sp true f.params.toList args.toList (s.fn H (ds ++ [])).args before := fun sp hsp => by
  rw [h2]
  exact trodAll_below hl hb _ _ _ _ hr hA hlt sp hsp
 have hvs : ∀ sp : Nat → Bool, DataW.TrodVars enc P W' sp s.vars (s.fn H (ds ++ [])).vars [] := fun sp => by rw [h3, hvars]; rfl
 have hold : ∀ x ∈ before, (fun b => decide (b < W.heap.size)) x.block = true := fun x hx => by simpa using hlt x hx
 have hr1 : ∀ (b : Nat) (sp : Nat → Bool) (hd : Bool), DataW.TrodAll enc P W' b sp hd f.resultTypes.toList ((Value.bool true).resultList f.resultTypes.size) (s.fn H (ds ++ [])).results [] := fun b sp hd => by
  rw [hres, h1]
  exact trodAll_cons_mk (shut_bool htb _) trodAll_mk0
 refine ⟨ds, [], before, [], before, [], hW, hr1 _ _ _, hargs _ hold, hvs _, World.keptBut_mono (fun x hx => ⟨hx, .inr (by simpa using hx)⟩) (hb.frame (· ∈ before)), fun _ => ?_⟩
 refine ⟨ok_one hres rfl (okWide_bool_mk htb _), _, _, ([] ++ before) ++ [], ⟨[] ++ before, [], trodAll_append (hargs _ (fun _ _ => rfl)) (hr1 _ _ _), hvs _, rfl, ?_, ?_⟩, ?_⟩
 · intro b off hp
   have hin : MemPlace.cell b off ∈ before := by simpa using hp
   rw [hb.frozen (hlt _ hin)]
   exact hz b off hin
 · intro ha
   have := hn ha
   simpa using this
 intro x hx _
 simpa using hx
variable {w : World} {spare : Nat → Bool} {held : Bool}
end
section
variable {w : World}
theorem cells_of_its {b off : Nat} : ∀ (hs : List (Option Addr × Nat)) (l : List Mir.It) (o : Nat), (∀ i h x, hs[i]? = some h → l[i]? = some x → w.cell? ⟨b, off + (o + i) * 2, none⟩ = some (.string x.1) ∧ w.cell? ⟨b, off + (o + i) * 2 + 1, none⟩ = some (.slice h.1 x.2.length h.2)) →
    ∀ j u, (Mir.itV hs l)[j]? = some u → w.cell? ⟨b, off + (o * 2 + j), none⟩ = some u
 | [], l, o, _, j, u, hu => by simp [Mir.itV] at hu
 | h :: hs, [], o, _, j, u, hu => by simp [Mir.itV] at hu
 | h :: hs, x :: l, o, f, 0, u, hu => by
   simp [Mir.itV] at hu; subst hu
   have := (f 0 h x rfl rfl).1
   rwa [show off + (o + 0) * 2 = off + (o * 2 + 0) by omega] at this
 | h :: hs, x :: l, o, f, 1, u, hu => by
   simp [Mir.itV] at hu; subst hu
   have := (f 0 h x rfl rfl).2
   rwa [show off + (o + 0) * 2 + 1 = off + (o * 2 + 1) by omega] at this
 | h :: hs, x :: l, o, f, j + 2, u, hu => by
   have := cells_of_its hs l (o + 1) (fun i g y e1 e2 => by
    have := f (i + 1) g y (by simpa using e1) (by simpa using e2)
    rwa [show o + (i + 1) = o + 1 + i by omega] at this) j u (by simpa [Mir.itV] using hu)
   rwa [show off + ((o + 1) * 2 + j) = off + (o * 2 + (j + 2)) by omega] at this
theorem cells_of_chs {b off : Nat} : ∀ (hs : List (Option Addr × Nat)) (l : List Mir.Ch) (o : Nat), (∀ i h x, hs[i]? = some h → l[i]? = some x → w.cell? ⟨b, off + (o + i) * 3, none⟩ = some (.string x.1.1) ∧ w.cell? ⟨b, off + (o + i) * 3 + 1, none⟩ = some (.slice h.1 x.1.2.length h.2) ∧ w.cell? ⟨b, off + (o + i) * 3 + 2, none⟩ = some (.bool x.2)) →
    ∀ j u, (Mir.chV hs l)[j]? = some u → w.cell? ⟨b, off + (o * 3 + j), none⟩ = some u
 | [], l, o, _, j, u, hu => by simp [Mir.chV] at hu
 | h :: hs, [], o, _, j, u, hu => by simp [Mir.chV] at hu
 | h :: hs, x :: l, o, f, 0, u, hu => by
   simp [Mir.chV] at hu; subst hu
   have := (f 0 h x rfl rfl).1
   rwa [show off + (o + 0) * 3 = off + (o * 3 + 0) by omega] at this
 | h :: hs, x :: l, o, f, 1, u, hu => by
   simp [Mir.chV] at hu; subst hu
   have := (f 0 h x rfl rfl).2.1
   rwa [show off + (o + 0) * 3 + 1 = off + (o * 3 + 1) by omega] at this
 | h :: hs, x :: l, o, f, 2, u, hu => by
   simp [Mir.chV] at hu; subst hu
   have := (f 0 h x rfl rfl).2.2
   rwa [show off + (o + 0) * 3 + 2 = off + (o * 3 + 2) by omega] at this
 | h :: hs, x :: l, o, f, j + 3, u, hu => by
   have := cells_of_chs hs l (o + 1) (fun i g y e1 e2 => by
    have := f (i + 1) g y (by simpa using e1) (by simpa using e2)
    rwa [show o + (i + 1) = o + 1 + i by omega] at this) j u (by simpa [Mir.chV] using hu)
   rwa [show off + ((o + 1) * 3 + j) = off + (o * 3 + (j + 3)) by omega] at this
theorem cells_of_digs {b off : Nat} : ∀ (l : List (List Nat)) (o : Nat), (∀ i d, l[i]? = some d → IsD d ∧ ∀ j, j < 32 → w.cell? ⟨b, off + (o + i) * 32 + j, none⟩ = some (.int .u8 ((d.getD j 0 : Nat) : Int))) →
    ∀ j u, (bytesV l.flatten)[j]? = some u → w.cell? ⟨b, off + (o * 32 + j), none⟩ = some u
 | [], o, _, j, u, hu => by simp [bytesV] at hu
 | d :: t, o, h, j, u, hu => by
   have ih := cells_of_digs (b := b) (off := off) t (o + 1) (fun i y hi => by
    have := h (i + 1) y (by simpa using hi)
    rwa [show o + (i + 1) = o + 1 + i by omega] at this)
   have h0 := h 0 d rfl
   have hl := h0.1.1
   rw [List.flatten_cons, bytesV_append] at hu
   by_cases hj : j < 32
   · rw [List.getElem?_append_left (by rw [bytesV_length, hl]; exact hj)] at hu
     have h1 := h0.2 j hj
     rw [show off + (o + 0) * 32 + j = off + (o * 32 + j) by omega] at h1
     rw [h1]
     unfold bytesV at hu
     rw [List.getElem?_map, List.getElem?_eq_getElem (by omega)] at hu
     injection hu with hu
     rw [← hu, List.getD_eq_getElem?_getD, List.getElem?_eq_getElem (by omega)]
     rfl
   rw [List.getElem?_append_right (by rw [bytesV_length, hl]; omega), bytesV_length, hl] at hu
   have := ih (j - 32) u hu
   rwa [show off + ((o + 1) * 32 + (j - 32)) = off + (o * 32 + j) by omega] at this
end
section
variable {H : Type} {enc : TypeId × Value → H} {w : World} {held : Bool}
theorem open_data_at {fuel : Nat} {v : Value} {y : DataW H × List MemPlace} (hf : DataW.trod enc Tryz.prog w 0 (fun _ => true) held fuel 22 [v] = some y) :
    ∃ A c, ∃ l : List Nat, v = .slice A l.length c ∧ l.length ≤ c ∧ c ≤ maxLen ∧ Cells w A (Mir.bytesI l) ∧ ∀ b ∈ l, b < 256 := by
 rcases Go.Deep.open_slice1 Tryz.underlying22 (by kernel_rfl) hf with ⟨hcs, _⟩ | ⟨a, len, cap, m, k, V, D, Pl, hcs, _, hl, hm, hmm, hyx, hi⟩
 · simp at hcs
   subst hcs
   exact ⟨none, 0, [], rfl, Nat.le_refl _, Nat.zero_le _, .inl (by simp [Mir.bytesI]), by simp⟩
 simp at hcs
 subst hcs
 have hm' : m = cap := by simpa using hmm
 subst hm'
 have each : ∀ i, i < len → ∃ n : Nat, n < 256 ∧ w.cell? (a.add i) = some (.int .u8 (n : Int)) := fun i hlt => by
  obtain ⟨h1, h2⟩ := hi i (by omega)
  obtain ⟨n, hn, -, hw⟩ := DataW.trod_int (k := .u8) Tryz.underlying5 h2
  have hb : 0 ≤ n ∧ n ≤ 255 := by
   simp [Lit.wf, IntKind.min, IntKind.max, IntKind.signed, IntKind.bits] at hw
   omega
  simp at hn
  rw [hn] at h1
  exact ⟨n.toNat, by omega, by rw [h1, Int.toNat_of_nonneg hb.1]⟩
 obtain ⟨f, hf⟩ := Go.Deep.choose_lt each
 refine ⟨some a, m, (List.range len).map f, by simp, by simpa using hl, hm, ?_, fun x hx => ?_⟩
 · rcases Nat.eq_zero_or_pos len with rfl | hpos
   · exact .inl (by simp [Mir.bytesI])
   obtain ⟨b, off, spot⟩ := a
   have c0 := (hf 0 hpos).2
   have hspot : spot = none := by simpa [Addr.add] using World.cell?_spot c0
   subst hspot
   refine .inr ⟨b, off, rfl, World.block_lt_of_cell? w _ c0, fun j u hu => ?_⟩
   unfold Mir.bytesI at hu
   have hlt : j < len := by
    have := (List.getElem?_eq_some_iff.1 hu).1
    simpa using this
   simp [hlt] at hu
   subst hu
   have h1 := (hf j hlt).2
   rw [Go.WideShapes.add_plain] at h1
   exact h1
 obtain ⟨i, hi', rfl⟩ := List.mem_map.1 hx
 exact (hf i (List.mem_range.1 hi')).1
theorem two_of {cs : List Value} (h : cs.length = 2) : ∃ a b, cs = [a, b] := by
 match cs, h with
 | [a, b], _ => exact ⟨a, b, rfl⟩
theorem three_of {cs : List Value} (h : cs.length = 3) : ∃ a b c, cs = [a, b, c] := by
 match cs, h with
 | [a, b, c], _ => exact ⟨a, b, c, rfl⟩
theorem four_of {cs : List Value} (h : cs.length = 4) : ∃ a b c d, cs = [a, b, c, d] := by
 match cs, h with
 | [a, b, c, d], _ => exact ⟨a, b, c, d, rfl⟩
theorem open_item_at {fuel : Nat} {cs : List Value} {y : DataW H × List MemPlace} (hf : DataW.trod enc Tryz.prog w 0 (fun _ => true) held fuel 61 cs = some y) :
    ∃ q : (Option Addr × Nat) × Mir.It, cs = [.string q.2.1, .slice q.1.1 q.2.2.length q.1.2] ∧ q.2.2.length ≤ q.1.2 ∧ q.1.2 ≤ maxLen ∧ Cells w q.1.1 (Mir.bytesI q.2.2) ∧ ∀ b ∈ q.2.2, b < 256 := by
 obtain ⟨y0, y1, n, -, hl, h0, h1⟩ := trod_struct2 Tryz.underlying61 hf
 rw [show Tryz.prog.cellsOf 61 = 2 by kernel_rfl] at hl
 obtain ⟨c0, c1, rfl⟩ := two_of hl
 have h0' : DataW.trod enc Tryz.prog w 0 (fun _ => true) held n 9 [c0] = some y0 := by
  simpa [show Tryz.prog.cellsOf 9 = 1 by kernel_rfl] using h0
 have h1' : DataW.trod enc Tryz.prog w 0 (fun _ => true) held n 22 [c1] = some y1 := by
  simpa [show Tryz.prog.cellsOf 22 = 1 by kernel_rfl] using h1
 obtain ⟨s, hs, -, -⟩ := DataW.trod_string Tryz.underlying9 h0'
 obtain ⟨A, c, l, rfl, e1, e2, e3, e4⟩ := open_data_at h1'
 simp at hs
 subst hs
 exact ⟨((A, c), (s, l)), rfl, e1, e2, e3, e4⟩
instance : Inhabited ((Option Addr × Nat) × Mir.It) := ⟨((none, 0), (⟨#[]⟩, []))⟩
instance : Inhabited ((Option Addr × Nat) × Mir.Ch) := ⟨((none, 0), ((⟨#[]⟩, []), false))⟩
theorem open_items_at {fuel : Nat} {v : Value} {y : DataW H × List MemPlace} (hf : DataW.trod enc Tryz.prog w 0 (fun _ => true) held fuel 26 [v] = some y) :
    ∃ A n c, ∃ l : List Mir.It, v = .slice A n c ∧ l.length = n ∧ n ≤ c ∧ c ≤ maxLen ∧ ItemsC w A l := by
 rcases Go.Deep.open_slice Tryz.underlying26 hf with ⟨hcs, _⟩ | ⟨a, len, cap, m, k, D, Pl, hcs, _, hl, hm, hmm, _, hi⟩
 · simp at hcs
   subst hcs
   exact ⟨none, 0, 0, [], rfl, rfl, Nat.le_refl _, Nat.zero_le _, ItemsC.nil_ _ _⟩
 simp at hcs
 subst hcs
 have hm' : m = cap := by simpa using hmm
 subst hm'
 rw [show Tryz.prog.cellsOf 61 = 2 by kernel_rfl] at hi
 have each : ∀ i, i < len → ∃ q : (Option Addr × Nat) × Mir.It, w.cell? ((a.add (i * 2)).add 0) = some (.string q.2.1) ∧ w.cell? ((a.add (i * 2)).add 1) = some (.slice q.1.1 q.2.2.length q.1.2) ∧ q.2.2.length ≤ q.1.2 ∧ q.1.2 ≤ maxLen ∧ Cells w q.1.1 (Mir.bytesI q.2.2) ∧ ∀ b ∈ q.2.2, b < 256 := fun i hlt => by
  obtain ⟨cs', h1, h2⟩ := hi i (by omega)
  obtain ⟨q, rfl, e⟩ := open_item_at h2
  obtain ⟨_, _, hc⟩ := World.cells?_some h1
  exact ⟨q, by rw [hc 0 (by omega)]; rfl, by rw [hc 1 (by omega)]; rfl, e⟩
 obtain ⟨f, hf⟩ := Go.Deep.choose_lt each
 refine ⟨some a, len, m, (List.range len).map fun i => (f i).2, rfl, by simp, hl, hm, ?_⟩
 rcases Nat.eq_zero_or_pos len with rfl | hpos
 · exact ItemsC.nil_ _ _
 obtain ⟨b, off, spot⟩ := a
 have c0 := (hf 0 hpos).1
 have hspot : spot = none := by simpa [Addr.add] using World.cell?_spot c0
 subst hspot
 have hlk : ∀ i h x, ((List.range len).map fun i => (f i).1)[i]? = some h → ((List.range len).map fun i => (f i).2)[i]? = some x → i < len ∧ (f i).1 = h ∧ (f i).2 = x := fun i h x e1 e2 => by
  have hlt : i < len := by
   have := (List.getElem?_eq_some_iff.1 e1).1
   simpa using this
  simp [hlt] at e1 e2
  exact ⟨hlt, e1, e2⟩
 refine ⟨(List.range len).map fun i => (f i).1, by simp, .inr ⟨b, off, rfl, World.block_lt_of_cell? w _ c0, fun j u hu => ?_⟩, fun i h x e1 e2 => ?_⟩
 · have := cells_of_its (w := w) (b := b) (off := off) _ _ 0 (fun i h x e1 e2 => by
     obtain ⟨hlt, rfl, rfl⟩ := hlk i h x e1 e2
     have h1 := (hf i hlt).1
     have h2 := (hf i hlt).2.1
     simp only [Go.WideShapes.add_plain] at h1 h2
     rw [Nat.zero_add]
     exact ⟨by simpa using h1, h2⟩) j u hu
   simpa using this
 obtain ⟨hlt, rfl, rfl⟩ := hlk i h x e1 e2
 exact (hf i hlt).2.2
theorem open_change_at {fuel : Nat} {cs : List Value} {y : DataW H × List MemPlace} (hf : DataW.trod enc Tryz.prog w 0 (fun _ => true) held fuel 66 cs = some y) :
    ∃ q : (Option Addr × Nat) × Mir.Ch, cs = [.string q.2.1.1, .slice q.1.1 q.2.1.2.length q.1.2, .bool q.2.2] ∧ q.2.1.2.length ≤ q.1.2 ∧ q.1.2 ≤ maxLen ∧ Cells w q.1.1 (Mir.bytesI q.2.1.2) ∧ ∀ b ∈ q.2.1.2, b < 256 := by
 obtain ⟨y0, y1, n, -, hl, h0, h1⟩ := trod_struct2 Tryz.underlying66 hf
 rw [show Tryz.prog.cellsOf 66 = 3 by kernel_rfl] at hl
 obtain ⟨c0, c1, c2, rfl⟩ := three_of hl
 have h0' : DataW.trod enc Tryz.prog w 0 (fun _ => true) held n 61 [c0, c1] = some y0 := by
  simpa [show Tryz.prog.cellsOf 61 = 2 by kernel_rfl] using h0
 have h1' : DataW.trod enc Tryz.prog w 0 (fun _ => true) held n 4 [c2] = some y1 := by
  simpa [show Tryz.prog.cellsOf 4 = 1 by kernel_rfl] using h1
 obtain ⟨q, hq, e1, e2, e3, e4⟩ := open_item_at h0'
 obtain ⟨b, hb, -⟩ := DataW.trod_bool Tryz.underlying4 h1'
 simp at hq hb
 obtain ⟨rfl, rfl⟩ := hq
 subst hb
 exact ⟨(q.1, (q.2, b)), rfl, e1, e2, e3, e4⟩
theorem open_changes_at {fuel : Nat} {v : Value} {y : DataW H × List MemPlace} (hf : DataW.trod enc Tryz.prog w 0 (fun _ => true) held fuel 27 [v] = some y) :
    ∃ A n c, ∃ l : List Mir.Ch, v = .slice A n c ∧ l.length = n ∧ n ≤ c ∧ c ≤ maxLen ∧ ChangesC w A l := by
 rcases Go.Deep.open_slice Tryz.underlying27 hf with ⟨hcs, _⟩ | ⟨a, len, cap, m, k, D, Pl, hcs, _, hl, hm, hmm, _, hi⟩
 · simp at hcs
   subst hcs
   exact ⟨none, 0, 0, [], rfl, rfl, Nat.le_refl _, Nat.zero_le _, ChangesC.nil_ _ _⟩
 simp at hcs
 subst hcs
 have hm' : m = cap := by simpa using hmm
 subst hm'
 rw [show Tryz.prog.cellsOf 66 = 3 by kernel_rfl] at hi
 have each : ∀ i, i < len → ∃ q : (Option Addr × Nat) × Mir.Ch, w.cell? ((a.add (i * 3)).add 0) = some (.string q.2.1.1) ∧ w.cell? ((a.add (i * 3)).add 1) = some (.slice q.1.1 q.2.1.2.length q.1.2) ∧ w.cell? ((a.add (i * 3)).add 2) = some (.bool q.2.2) ∧ q.2.1.2.length ≤ q.1.2 ∧ q.1.2 ≤ maxLen ∧ Cells w q.1.1 (Mir.bytesI q.2.1.2) ∧ ∀ b ∈ q.2.1.2, b < 256 := fun i hlt => by
  obtain ⟨cs', h1, h2⟩ := hi i (by omega)
  obtain ⟨q, rfl, e⟩ := open_change_at h2
  obtain ⟨_, _, hc⟩ := World.cells?_some h1
  exact ⟨q, by rw [hc 0 (by omega)]; rfl, by rw [hc 1 (by omega)]; rfl, by rw [hc 2 (by omega)]; rfl, e⟩
 obtain ⟨f, hf⟩ := Go.Deep.choose_lt each
 refine ⟨some a, len, m, (List.range len).map fun i => (f i).2, rfl, by simp, hl, hm, ?_⟩
 rcases Nat.eq_zero_or_pos len with rfl | hpos
 · exact ChangesC.nil_ _ _
 obtain ⟨b, off, spot⟩ := a
 have c0 := (hf 0 hpos).1
 have hspot : spot = none := by simpa [Addr.add] using World.cell?_spot c0
 subst hspot
 have hlk : ∀ i h x, ((List.range len).map fun i => (f i).1)[i]? = some h → ((List.range len).map fun i => (f i).2)[i]? = some x → i < len ∧ (f i).1 = h ∧ (f i).2 = x := fun i h x e1 e2 => by
  have hlt : i < len := by
   have := (List.getElem?_eq_some_iff.1 e1).1
   simpa using this
  simp [hlt] at e1 e2
  exact ⟨hlt, e1, e2⟩
 refine ⟨(List.range len).map fun i => (f i).1, by simp, .inr ⟨b, off, rfl, World.block_lt_of_cell? w _ c0, fun j u hu => ?_⟩, fun i h x e1 e2 => ?_⟩
 · have := cells_of_chs (w := w) (b := b) (off := off) _ _ 0 (fun i h x e1 e2 => by
     obtain ⟨hlt, rfl, rfl⟩ := hlk i h x e1 e2
     have h1 := (hf i hlt).1
     have h2 := (hf i hlt).2.1
     have h3 := (hf i hlt).2.2.1
     simp only [Go.WideShapes.add_plain] at h1 h2 h3
     rw [Nat.zero_add]
     exact ⟨by simpa using h1, h2, h3⟩) j u hu
   simpa using this
 obtain ⟨hlt, rfl, rfl⟩ := hlk i h x e1 e2
 exact (hf i hlt).2.2.2
theorem trod_dig {fuel : Nat} {cs : List Value} {x : DataW H × List MemPlace} (h : DataW.trod enc Tryz.prog w 0 (fun _ => true) held fuel 29 cs = some x) :
    ∃ d, IsD d ∧ ∀ j, j < 32 → cs[j]? = some (.int .u8 ((d.getD j 0 : Nat) : Int)) := by
 obtain ⟨xs, m, -, -, hl, hxl, hi⟩ := DataW.trod_array Tryz.underlying29 h
 rw [show Tryz.prog.cellsOf 29 = 32 by kernel_rfl] at hl
 have each : ∀ j, j < 32 → ∃ n : Nat, n < 256 ∧ cs[j]? = some (.int .u8 (n : Int)) := by
  intro j hj
  have := hi j hj
  rw [show Tryz.prog.cellsOf 5 = 1 by kernel_rfl, Nat.mul_one, List.getElem?_eq_getElem (by omega)] at this
  obtain ⟨n, hn, -, hw⟩ := DataW.trod_int (k := .u8) Tryz.underlying5 this
  have hb : 0 ≤ n ∧ n ≤ 255 := by
   simp [Lit.wf, IntKind.min, IntKind.max, IntKind.signed, IntKind.bits] at hw
   omega
  have h0 : ((cs.drop j).take 1)[0]? = some (.int .u8 n) := by rw [hn]; rfl
  rw [List.getElem?_take, if_pos (by omega), List.getElem?_drop, Nat.add_zero] at h0
  exact ⟨n.toNat, by omega, by rw [h0, Int.toNat_of_nonneg hb.1]⟩
 obtain ⟨f, hf⟩ := Go.Deep.choose_lt each
 have hg : ∀ j, ((List.range 32).map f).getD j 0 < 256 := fun j => by
  by_cases hj : j < 32
  · simp [hj, (hf j hj).1]
  simp [hj]
 refine ⟨(List.range 32).map f, ⟨by simp, hg⟩, fun j hj => ?_⟩
 rw [(hf j hj).2]
 simp [hj]
theorem open_digs_at {fuel : Nat} {v : Value} {y : DataW H × List MemPlace} (hf : DataW.trod enc Tryz.prog w 0 (fun _ => true) held fuel 30 [v] = some y) :
    ∃ A n c, ∃ l : List (List Nat), v = .slice A n c ∧ l.length = n ∧ n ≤ c ∧ c ≤ maxLen ∧ Cells w A (bytesV l.flatten) ∧ IsL l := by
 rcases Go.Deep.open_slice Tryz.underlying30 hf with ⟨hcs, _⟩ | ⟨a, len, cap, m, k, D, Pl, hcs, _, hl, hm, hmm, _, hi⟩
 · simp at hcs
   subst hcs
   exact ⟨none, 0, 0, [], rfl, rfl, Nat.le_refl _, Nat.zero_le _, .inl (by simp [bytesV]), by intro d hd; simp at hd⟩
 simp at hcs
 subst hcs
 have hm' : m = cap := by simpa using hmm
 subst hm'
 rw [show Tryz.prog.cellsOf 29 = 32 by kernel_rfl] at hi
 have each : ∀ i, i < len → ∃ d : List Nat, IsD d ∧ ∀ j, j < 32 → w.cell? ((a.add (i * 32)).add j) = some (.int .u8 ((d.getD j 0 : Nat) : Int)) := fun i hlt => by
  obtain ⟨cs', h1, h2⟩ := hi i (by omega)
  obtain ⟨d, hd, hj⟩ := trod_dig h2
  obtain ⟨_, _, hc⟩ := World.cells?_some h1
  exact ⟨d, hd, fun j hj' => by rw [hc j hj', hj j hj']⟩
 obtain ⟨f, hf⟩ := Go.Deep.choose_lt each
 have hl1 : ∀ i d, ((List.range len).map f)[i]? = some d → IsD d ∧ ∀ j, j < 32 → w.cell? ((a.add (i * 32)).add j) = some (.int .u8 ((d.getD j 0 : Nat) : Int)) := fun i d hd => by
  have hlt : i < len := by
   have := (List.getElem?_eq_some_iff.1 hd).1
   simpa using this
  simp [hlt] at hd
  subst hd
  exact hf i hlt
 refine ⟨some a, len, m, (List.range len).map f, rfl, by simp, hl, hm, ?_, fun x hx => ?_⟩
 · rcases Nat.eq_zero_or_pos len with rfl | hpos
   · exact .inl (by simp [bytesV])
   obtain ⟨b, off, spot⟩ := a
   have c0 := (hf 0 hpos).2 0 (by omega)
   have hspot : spot = none := by simpa [Addr.add] using World.cell?_spot c0
   subst hspot
   refine .inr ⟨b, off, rfl, World.block_lt_of_cell? w _ c0, fun j u hu => ?_⟩
   have := cells_of_digs (w := w) (b := b) (off := off) _ 0 (fun i x hx => by
    have h1 := hl1 i x hx
    simp only [Go.WideShapes.add_plain] at h1
    rw [Nat.zero_add]
    exact h1) j u hu
   simpa using this
 obtain ⟨i, hi'⟩ := List.getElem?_of_mem hx
 exact (hl1 i x hi').1
theorem cut38 {l : List Value} (h : l.length = 38) : l = l.take 1 ++ (l.drop 1).take 32 ++ (l.drop 33).take 1 ++ (l.drop 34).take 4 := by
 have e1 : l.take 33 = l.take 1 ++ (l.drop 1).take 32 := by rw [← List.take_add]
 have e2 : l.take 34 = l.take 33 ++ (l.drop 33).take 1 := by rw [← List.take_add]
 have e3 : (l.drop 34).take 4 = l.drop 34 := List.take_of_length_le (by rw [List.length_drop]; omega)
 rw [← e1, ← e2, e3, List.take_append_drop]
theorem open_version_at {fuel : Nat} {l : List Value} {y : DataW H × List MemPlace} (hf : DataW.trod enc Tryz.prog w 0 (fun _ => true) held fuel 34 l = some y) : ∃ (x : Mir.Ve) (V : Array Value), l = V.toList ∧ VerC w x V := by
 obtain ⟨y0, y1, y2, y3, n, -, hl38, h0, h1, h2, h3⟩ := Go.Joins.trod_struct4 Tryz.underlying34 hf
 rw [show Tryz.prog.cellsOf 34 = 38 by kernel_rfl] at hl38
 have k0 : DataW.trod enc Tryz.prog w 0 (fun _ => true) held n 3 (l.take 1) = some y0 := by
  simpa [show Tryz.prog.cellsOf 3 = 1 by kernel_rfl] using h0
 have k1 : DataW.trod enc Tryz.prog w 0 (fun _ => true) held n 29 ((l.drop 1).take 32) = some y1 := by
  simpa [show Tryz.prog.cellsOf 29 = 32 by kernel_rfl] using h1
 have k2 : DataW.trod enc Tryz.prog w 0 (fun _ => true) held n 27 ((l.drop 33).take 1) = some y2 := by
  simpa [show Tryz.prog.cellsOf 27 = 1 by kernel_rfl] using h2
 have k3 : DataW.trod enc Tryz.prog w 0 (fun _ => true) held n 32 ((l.drop 34).take 4) = some y3 := by
  simpa [show Tryz.prog.cellsOf 32 = 4 by kernel_rfl] using h3
 clear h0 h1 h2 h3
 have hcut := cut38 hl38
 obtain ⟨no, hno, -, -⟩ := DataW.trod_int (k := .i64) Tryz.underlying3 k0
 obtain ⟨st, hst, hj⟩ := trod_dig k1
 have hmid : (l.drop 1).take 32 = bytesV st := by
  apply List.ext_getElem?
  intro j
  by_cases h : j < 32
  · rw [hj j h]
    unfold bytesV
    rw [List.getElem?_map, List.getElem?_eq_getElem (by rw [hst.1]; omega), List.getD_eq_getElem?_getD, List.getElem?_eq_getElem (by rw [hst.1]; omega)]
    rfl
  rw [List.getElem?_eq_none (by simp; omega), List.getElem?_eq_none (by rw [bytesV_length, hst.1]; omega)]
 obtain ⟨vc, hvc⟩ : ∃ vc, (l.drop 33).take 1 = [vc] := by
  have : ((l.drop 33).take 1).length = 1 := by simp; omega
  exact List.length_eq_one_iff.1 this
 obtain ⟨s0, s1, s2, s3, hs⟩ := four_of (cs := (l.drop 34).take 4) (by simp; omega)
 rw [hvc] at k2
 rw [hs] at k3
 obtain ⟨A, q, c, ch, rfl, hq, hqc, hcm, hC⟩ := open_changes_at k2
 subst hq
 obtain ⟨z0, z1, z2, z3, n', -, -, g0, g1, g2, g3⟩ := Go.Joins.trod_struct4 Tryz.underlying32 k3
 have g0' : DataW.trod enc Tryz.prog w 0 (fun _ => true) held n' 3 [s0] = some z0 := by
  simpa [show Tryz.prog.cellsOf 3 = 1 by kernel_rfl] using g0
 have g1' : DataW.trod enc Tryz.prog w 0 (fun _ => true) held n' 30 [s1] = some z1 := by
  simpa [show Tryz.prog.cellsOf 30 = 1 by kernel_rfl] using g1
 have g2' : DataW.trod enc Tryz.prog w 0 (fun _ => true) held n' 30 [s2] = some z2 := by
  simpa [show Tryz.prog.cellsOf 30 = 1 by kernel_rfl] using g2
 have g3' : DataW.trod enc Tryz.prog w 0 (fun _ => true) held n' 30 [s3] = some z3 := by
  simpa [show Tryz.prog.cellsOf 30 = 1 by kernel_rfl] using g3
 obtain ⟨i, hi, -, -⟩ := DataW.trod_int (k := .i64) Tryz.underlying3 g0'
 simp at hi
 subst hi
 obtain ⟨Ao, no', co, o, rfl, ho, ho1, ho2, hCo, hLo⟩ := open_digs_at g1'
 obtain ⟨Ac, nc, cc, cl, rfl, hc, hc1, hc2, hCc, hLc⟩ := open_digs_at g2'
 obtain ⟨Ap, np, cp, pl, rfl, hp, hp1, hp2, hCp, hLp⟩ := open_digs_at g3'
 subst ho; subst hc; subst hp
 refine ⟨⟨no, st, ch, ⟨i, o, cl, pl⟩⟩, l.toArray, by simp, A, c, _, _, _, _, ?_, hst, hC, hqc, hcm, Ao, co, Ac, cc, Ap, cp, rfl, rfl, rfl, rfl, hCo, hCc, hCp, hLo, hLc, hLp, ho1, ho2, hc1, hc2, hp1, hp2⟩
 apply Array.toList_inj.1
 rw [show l.toArray.toList = l by simp, hcut, hno, hmid, hvc, hs, ← arrK_bytesV]
 unfold Mir.verA
 simp
theorem open_version {r : Reach} {b0 : Nat} {v : Value} {d : DataW H} {p : List MemPlace} (hv : Value.okWide Tryz.prog w r b0 34 v) (h : DataW.Trod enc Tryz.prog w 0 (fun _ => true) held 34 v d p) :
    ∃ (x : Mir.Ve) (V : Array Value), v = .agg V ∧ VerC w x V := by
 obtain ⟨cs, rfl, -⟩ := okWide_struct Tryz.underlying34 hv
 obtain ⟨fuel, hf⟩ := h
 obtain ⟨x, V, e, hV⟩ := open_version_at (show DataW.trod enc Tryz.prog w 0 (fun _ => true) held fuel 34 cs.toList = some (d, p) by simpa [Value.cells] using hf)
 exact ⟨x, V, by rw [Array.toList_inj.1 e], hV⟩
end
end Go.Proofs.YtkflpoiobpblhaaGreat
