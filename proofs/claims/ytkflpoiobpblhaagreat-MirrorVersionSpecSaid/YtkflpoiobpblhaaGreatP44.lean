/- Walks and plain laws that the statement rests on: Row, Row3, Row2. -/
import Derived.ChangeSame
import Derived.Lib.SmallJoins
import Derived.OpenShut
import Derived.ProofKit
import Derived.Test.YtkflpoiobpblhaaGreatRows
import Derived.Test.YtkflpoiobpblhaaGreatP00
import Derived.Test.YtkflpoiobpblhaaGreatP01
import Derived.Test.YtkflpoiobpblhaaGreatP16
import Derived.Test.YtkflpoiobpblhaaGreatP22
import Derived.Test.YtkflpoiobpblhaaGreatPS
namespace Go.Proofs.YtkflpoiobpblhaaGreat
open Go.RowKit Go.WideShapes Go.ChangeShapes Go.ChangeAt
section
variable {H : Type} {enc : TypeId × Value → H} {P : Program}
theorem trodAll_below (hl : laidOutB P = true) {W W' : World} (hb : Below W.heap.size W W') : ∀ (ts : List TypeId) (vs : List Value) (ds : List (DataW H)) (ps : List MemPlace),
    (∀ t ∈ ts, P.readableRec t = true ∧ t < P.types.size) → DataW.TrodAll enc P W 0 (fun _ => true) true ts vs ds ps → (∀ x ∈ ps, x.block < W.heap.size) →
    ∀ sp : Nat → Bool, (∀ x ∈ ps, sp x.block = true) → DataW.TrodAll enc P W' 0 sp true ts vs ds ps
  | [], _, _, _, _, h, _, sp, _ => by
    obtain ⟨rfl, rfl, rfl⟩ := trodAll_nil h
    exact trodAll_mk0
  | t :: ts, _, _, _, hr, h, hlt, sp, hs => by
    obtain ⟨v, vs, d, ds, p, q, rfl, rfl, rfl, h0, h1⟩ := trodAll_cons h
    refine trodAll_cons_mk ?_ (trodAll_below hl hb ts vs ds q (fun t ht => hr t (List.mem_cons_of_mem _ ht)) h1 (fun x hx => hlt x (List.mem_append_right _ hx)) sp (fun x hx => hs x (List.mem_append_right _ hx)))
    obtain ⟨r1, r2⟩ := hr t List.mem_cons_self
    exact WideElems.Trod_stays hl r1 r2 h0 (fun x hx => hb.same (hlt x (List.mem_append_left _ hx))) (fun x hx => hs x (List.mem_append_left _ hx))
theorem law_post {f : Func} {s : ChangeSpec} {W W' : World} {args : Array Value} {ds : List (DataW H)} {before : List MemPlace} {tb : TypeId}
    (hl : laidOutB P = true) (hr : ∀ t ∈ f.params.toList, P.readableRec t = true ∧ t < P.types.size) (hres : f.resultTypes = #[tb]) (htb : P.underlying tb = some .bool) (hvars : s.vars = [])
    (hW : DataW.Whole enc P f.params.toList s.vars false W args.toList ds [] before) (h1 : (s.fn H (ds ++ [])).results = [.lit (.bool true)]) (h2 : (s.fn H (ds ++ [])).args = ds) (h3 : (s.fn H (ds ++ [])).vars = [])
    (hb : Below W.heap.size W W') : s.post enc P f false true false false W args (.bool true) W' := by
  have hlt : ∀ p ∈ before, p.block < W.heap.size := fun p hp => hW.lt p hp
  obtain ⟨p, q, hA, hV, hbe, hz, hn⟩ := id hW
  rw [hvars] at hV
  obtain ⟨-, rfl⟩ := trodVars_none hV
  have hbe' : before = p := by simpa using hbe
  subst hbe'
  have hargs : ∀ sp : Nat → Bool, (∀ x ∈ before, sp x.block = true) → DataW.TrodAll enc P W' 0 sp true f.params.toList args.toList (s.fn H (ds ++ [])).args before := fun sp hsp => by
    rw [h2]
    exact trodAll_below hl hb _ _ _ _ hr hA hlt sp hsp
  have hvs : ∀ sp : Nat → Bool, DataW.TrodVars enc P W' sp s.vars (s.fn H (ds ++ [])).vars [] := fun sp => by rw [h3, hvars]; rfl
  have hold : ∀ x ∈ before, (fun b => decide (b < W.heap.size)) x.block = true := fun x hx => by simpa using hlt x hx
  have hr1 : ∀ (b : Nat) (sp : Nat → Bool) (hd : Bool), DataW.TrodAll enc P W' b sp hd f.resultTypes.toList ((Value.bool true).resultList f.resultTypes.size) (s.fn H (ds ++ [])).results [] := fun b sp hd => by
    rw [hres, h1]
    exact trodAll_cons_mk (shut_bool htb _) trodAll_mk0
  refine ⟨ds, [], before, [], before, [], hW, hr1 _ _ _, hargs _ hold, hvs _, World.keptBut_mono (fun x hx => ⟨hx, .inr (by simpa using hx)⟩) (hb.frame (· ∈ before)), fun _ => ?_⟩
  refine ⟨ok_one hres rfl (okWide_bool_mk htb _), _, _, ([] ++ before) ++ [], ⟨[] ++ before, [], trodAll_append (hargs _ (fun _ _ => rfl)) (hr1 _ _ _), hvs _, rfl, ?_, ?_⟩, ?_⟩
  · intro b off hp
    have hin : MemPlace.cell b off ∈ before := by simpa using hp
    rw [hb.frozen (hlt _ hin)]
    exact hz b off hin
  · intro ha
    have := hn ha
    simpa using this
  · intro x hx _
    simpa using hx
variable {w : World} {spare : Nat → Bool} {held : Bool}
end
end Go.Proofs.YtkflpoiobpblhaaGreat
namespace Go.Proofs.YtkflpoiobpblhaaGreat
open Go.RowKit Go.WideShapes Go.ChangeShapes Go.ChangeAt
section
variable {H : Type} {enc : TypeId × Value → H} {P : Program} {w : World} {held : Bool}
theorem open_intslice_at {fuel : Nat} {t e : TypeId} {k : IntKind} {v : Value} {y : DataW H × List MemPlace} (ht : P.underlying t = some (.slice e)) (he : P.underlying e = some (.int k)) (hc : P.cellsOf e = 1)
    (hf : DataW.trod enc P w 0 (fun _ => true) held fuel t [v] = some y) :
    ∃ A n c, ∃ xs : List Int, v = .slice A n c ∧ xs.length = n ∧ n ≤ c ∧ c ≤ maxLen ∧ Cells w A (xs.map (Value.int k)) ∧ ∀ x ∈ xs, (Lit.int k x).wf = true := by
  rcases open_ints ht he hc hf with ⟨hcs, hx⟩ | ⟨a, len, cap, zs, hcs, _, hl, hm, hz, hx, hcell, hwz⟩
  · simp at hcs
    subst hcs
    exact ⟨none, 0, 0, [], rfl, rfl, Nat.le_refl _, Nat.zero_le _, Cells.nil_ _ _, by simp⟩
  · simp at hcs
    subst hcs
    have hz' : zs.length = cap := by simpa using hz
    refine ⟨some a, len, cap, zs.take len, rfl, by rw [List.length_take]; omega, hl, hm, ?_, fun x hx => hwz x (List.mem_of_mem_take hx)⟩
    rcases Nat.eq_zero_or_pos len with rfl | hpos
    · exact .inl (by simp)
    · obtain ⟨b, off, rfl, hcl⟩ := ints_at hcell (by omega)
      refine .inr ⟨b, off, rfl, World.block_lt_of_cell? w ⟨b, off + 0, none⟩ (hcl 0 (by omega)), fun j u hu => ?_⟩
      rw [List.getElem?_map] at hu
      cases hxj : (zs.take len)[j]? with
      | none => rw [hxj] at hu; cases hu
      | some y =>
        rw [hxj] at hu
        injection hu with hu
        subst hu
        rw [List.getElem?_take] at hxj
        split at hxj
        · rw [hcl j (List.getElem?_eq_some_iff.1 hxj).1, List.getD_eq_getElem?_getD, hxj]; rfl
        · cases hxj
set_option maxRecDepth 100000 in
theorem open_key {r : Reach} {b0 : Nat} {v : Value} {d : DataW H} {p : List MemPlace} (hv : Value.okWide Tryz.prog w r b0 24 v) (h : DataW.Trod enc Tryz.prog w 0 (fun _ => true) held 24 v d p) :
    ∃ A n c m u, ∃ s : List Nat, v = .agg #[.slice A n c, .int .i64 m, .int .i64 u] ∧ s.length = n ∧ n ≤ c ∧ c ≤ maxLen ∧ Cells w A (bytesV s) ∧ ByteL s ∧ (Lit.int .i64 m).wf = true ∧ (Lit.int .i64 u).wf = true := by
  obtain ⟨v0, v1, v2, y0, y1, y2, k, rfl, -, -, h0, h1, h2⟩ := Go.Joins.open_agg3 Tryz.underlying24 (by kernel_rfl) (by kernel_rfl) hv h
  obtain ⟨A, n, c, xs, rfl, hl, hnc, hcm, hC, hw⟩ := open_intslice_at (k := .u8) Tryz.underlying22 Tryz.underlying5 (by kernel_rfl) h0
  obtain ⟨s, hs, h8, hC'⟩ := open_bytes hC hw
  obtain ⟨m, hm, -, wm⟩ := DataW.trod_int (k := .i64) Tryz.underlying3 h1
  obtain ⟨u, hu, -, wu⟩ := DataW.trod_int (k := .i64) Tryz.underlying3 h2
  simp at hm hu
  subst hm
  subst hu
  exact ⟨A, n, c, m, u, s, rfl, by rw [hs, hl], hnc, hcm, hC', h8, wm, wu⟩
end
end Go.Proofs.YtkflpoiobpblhaaGreat
namespace Go.Proofs.YtkflpoiobpblhaaGreat
open Go.RowKit
set_option maxRecDepth 100000 in
theorem open_u8 {W : World} {r : Reach} {base : Nat} {v : Value} (h : Cell.okWide Tryz.prog W r base 5 v) : ∃ n : Nat, n < 256 ∧ v = Value.int .u8 (n : Int) := by
  simp only [Cell.okWide, Tryz.underlying5] at h
  cases v with
  | int k n =>
    simp only [Cell.ok, Tryz.underlying5] at h
    obtain ⟨rfl, h2⟩ := h
    have h3 : 0 ≤ n ∧ n ≤ 255 := h2
    exact ⟨n.toNat, by omega, by rw [Int.toNat_of_nonneg h3.1]⟩
  | _ => simp [Cell.ok, Tryz.underlying5] at h
set_option maxRecDepth 100000 in
theorem open_digest {W : World} {r : Reach} {base : Nat} {v : Value} (h : Value.okWide Tryz.prog W r base 29 v) : ∃ d, v = .agg (arrK .u8 d) ∧ IsD d := by
  simp only [Value.okWide, Tryz.underlying29, Row.okWide] at h
  obtain ⟨cs, rfl, hsz, ts, hts, -, hc⟩ := h
  rw [show Tryz.prog.cellsOf 29 = 32 by kernel_rfl] at hsz
  rw [show Tryz.prog.cellTypes Tryz.prog.depth 29 = some (List.replicate 32 5) by kernel_rfl] at hts
  cases hts
  have h8 : ∀ (i : Nat) (v : Value), cs[i]? = some v → ∃ n : Nat, n < 256 ∧ v = Value.int .u8 (n : Int) := by
    intro i v hv
    obtain ⟨u, hu, hok⟩ := hc i v hv
    have : u = 5 := by
      have := List.mem_of_getElem? hu
      exact (List.mem_replicate.1 this).2
    subst this
    exact open_u8 hok
  refine ⟨cs.toList.map fun (v : Value) => match v with | Value.int _ n => n.toNat | _ => 0, ?_, by rw [List.length_map, Array.length_toList, hsz], fun j => ?_⟩
  · congr 1
    apply Array.ext_getElem?
    intro i
    unfold arrK
    simp only [List.getElem?_toArray, List.getElem?_map, Array.getElem?_toList, Option.map_map]
    cases hv : cs[i]? with
    | none => rfl
    | some v =>
      obtain ⟨n, hn, rfl⟩ := h8 i v hv
      simp
  · rw [List.getD_eq_getElem?_getD, List.getElem?_map, Array.getElem?_toList]
    cases hv : cs[j]? with
    | none => simp
    | some v =>
      obtain ⟨n, hn, rfl⟩ := h8 j v hv
      simpa using hn
end Go.Proofs.YtkflpoiobpblhaaGreat
