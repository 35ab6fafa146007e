/- Walks and plain laws that the statement rests on: MAppP, MApp. -/
import Derived.Deep.RegionHeld3
import Derived.Test.YtkflpoiobpblhaaGreatP00
import Derived.Test.YtkflpoiobpblhaaGreatP25
import Derived.Test.YtkflpoiobpblhaaGreatP33
import Derived.Test.YtkflpoiobpblhaaGreatP34
import Derived.Test.YtkflpoiobpblhaaGreatP35
import Derived.Test.YtkflpoiobpblhaaGreatPS
namespace Go.Proofs.YtkflpoiobpblhaaGreat
open Go.RowKit
set_option linter.unusedVariables false
set_option linter.unusedSimpArgs false
def ItDat (w : World) (zs : List Mir.Zi) : Prop := ∀ z ∈ zs, z.1.2.length ≤ z.2.2 ∧ z.2.2 ≤ maxLen ∧ Cells w z.2.1 (Mir.bytesI z.1.2) ∧ ∀ b ∈ z.1.2, b < 256
theorem ItDat.snoc {w : World} {zs : List Mir.Zi} (h : ItDat w zs) (z : Mir.Zi) (h1 : z.1.2.length ≤ z.2.2) (h2 : z.2.2 ≤ maxLen) (h3 : Cells w z.2.1 (Mir.bytesI z.1.2)) (h4 : ∀ b ∈ z.1.2, b < 256) : ItDat w (zs ++ [z]) := by
 intro y hy
 rcases List.mem_append.1 hy with hy | hy
 · exact h y hy
 · rw [List.mem_singleton] at hy; subst hy; exact ⟨h1, h2, h3, h4⟩
theorem ItDat.items {w w' : World} {zs : List Mir.Zi} {A : Option Addr} (h : ItDat w zs) (hb : Below w.heap.size w w') (hc : Cells w' A (itZ zs)) : ItemsC w' A (zs.map Prod.fst) := by
 refine ⟨zs.map Prod.snd, by simp, by rw [itZ_itV]; exact hc, fun k g x e1 e2 => ?_⟩
 rw [List.getElem?_map] at e1 e2
 cases hz : zs[k]? with
 | none => rw [hz] at e1; cases e1
 | some z =>
   rw [hz] at e1 e2
   simp at e1 e2
   subst e1; subst e2
   have := h z (List.mem_of_getElem? hz)
   exact ⟨this.1, this.2.1, this.2.2.1.below hb, this.2.2.2⟩
theorem itZ_get : ∀ (zs : List Mir.Zi) (k : Nat) (z : Mir.Zi), zs[k]? = some z → (itZ zs)[k * 2]? = some (.string z.1.1) ∧ (itZ zs)[k * 2 + 1]? = some (.slice z.2.1 z.1.2.length z.2.2)
 | y :: zs, 0, z, e => by simp at e; subst e; simp [itZ]
 | y :: zs, k + 1, z, e => by
   have := itZ_get zs k z (by simpa using e)
   rw [show (k + 1) * 2 = k * 2 + 1 + 1 by omega]
   simpa [itZ] using this
 | [], _, _, e => by simp at e
theorem its_at {wb w : World} {A : Option Addr} {a : List Mir.It} {za : List Mir.Zi} (hz : za.map Prod.fst = a) (hd : ItDat wb za) (h : Cells w A (itZ za)) (hl : 0 < a.length) :
    ∃ b off, A = some ⟨b, off, none⟩ ∧ b < w.heap.size ∧ ∀ (k : Nat) (x : Mir.It), a[k]? = some x → ∃ D c, w.cell? ⟨b, off + k * 2, none⟩ = some (.string x.1) ∧ w.cell? ⟨b, off + k * 2 + 1, none⟩ = some (.slice D x.2.length c) ∧ x.2.length ≤ c ∧ c ≤ maxLen ∧ Cells wb D (Mir.bytesI x.2) ∧ ∀ b ∈ x.2, b < 256 := by
 have hzl : za.length = a.length := by rw [← hz, List.length_map]
 obtain ⟨b, off, rfl, hb, hc⟩ := Cells.addr h (by rw [itZ_length]; omega)
 refine ⟨b, off, rfl, hb, fun k x hx => ?_⟩
 rw [← hz, List.getElem?_map] at hx
 cases hk : za[k]? with
 | none => rw [hk] at hx; cases hx
 | some z =>
   rw [hk] at hx
   simp at hx
   subst hx
   obtain ⟨g1, g2⟩ := itZ_get za k z hk
   obtain ⟨e1, e2, e3, e4⟩ := hd z (List.mem_of_getElem? hk)
   exact ⟨z.2.1, z.2.2, hc _ _ g1, by rw [Nat.add_assoc]; exact hc _ _ g2, e1, e2, e3, e4⟩
theorem items_zs {w : World} {A : Option Addr} {l : List Mir.It} (h : ItemsC w A l) : ∃ za : List Mir.Zi, za.map Prod.fst = l ∧ ItDat w za ∧ Cells w A (itZ za) := by
 obtain ⟨hs, h1, h2, h3⟩ := h
 have e1 : (l.zip hs).map Prod.fst = l := List.map_fst_zip (by omega)
 have e2 : (l.zip hs).map Prod.snd = hs := List.map_snd_zip (by omega)
 refine ⟨l.zip hs, e1, fun z hz => ?_, by rw [← itZ_itV, e1, e2]; exact h2⟩
 obtain ⟨k, hk, rfl⟩ := List.getElem_of_mem hz
 have hk' : k < l.length := by simp at hk; omega
 have hk2 : k < hs.length := by simp at hk; omega
 rw [List.getElem_zip]
 exact h3 k hs[k] l[k] (List.getElem?_eq_getElem hk2) (List.getElem?_eq_getElem hk')
namespace Mir
def putK (l : List Ch) (k : Nat) : List It := ((l.take k).filter fun x => !x.2).map (·.1)
def namesK (l : List Ch) (k : Nat) : List (List UInt8) := (l.take k).map fun x => x.1.1.data.toList
def keptK (a : List It) (l : List Ch) (k : Nat) : List It := (a.take k).filter fun x => !hasN (l.map chN) x.1
theorem putK_gone {l : List Ch} {k : Nat} {x : It} (h : l[k]? = some (x, true)) : putK l (k + 1) = putK l k := by
 unfold putK
 rw [List.take_add_one, h, List.filter_append, List.map_append]; simp
theorem putK_put {l : List Ch} {k : Nat} {x : It} (h : l[k]? = some (x, false)) : putK l (k + 1) = putK l k ++ [x] := by
 unfold putK
 rw [List.take_add_one, h, List.filter_append, List.map_append]; simp
theorem namesK_succ {l : List Ch} {k : Nat} {x : Ch} (h : l[k]? = some x) : namesK l (k + 1) = namesK l k ++ [x.1.1.data.toList] := by
 unfold namesK
 rw [List.take_add_one, h, List.map_append]; rfl
theorem namesK_length {l : List Ch} {k : Nat} (h : k ≤ l.length) : (namesK l k).length = k := by unfold namesK; simp; omega
theorem data_inj {x y : ByteArray} (h : x.data.toList = y.data.toList) : x = y := ByteArray.ext (Array.toList_inj.1 h)
theorem namesK_new {l : List Ch} {k : Nat} {x : Ch} (hi : Inc (l.map chN)) (h : l[k]? = some x) : x.1.1.data.toList ∉ namesK l k := by
 intro hm
 unfold namesK at hm
 obtain ⟨y, hy, he⟩ := List.mem_map.1 hm
 obtain ⟨j, hj, hje⟩ := List.getElem_of_mem hy
 have hj' : j < k := by simp at hj; omega
 rw [List.getElem_take] at hje
 have hk := (List.getElem?_eq_some_iff.1 h).1
 have hkx := (List.getElem?_eq_some_iff.1 h).2
 rw [Inc, List.pairwise_iff_getElem] at hi
 have := hi j k (by simp; omega) (by simpa using hk) hj'
 rw [List.getElem_map, List.getElem_map, hje, hkx] at this
 exact nlt_ne this (data_inj he)
theorem names_look (l : List Ch) (s : ByteArray) : decide (s.data.toList ∈ namesK l l.length) = hasN (l.map chN) s := by
 have e : (s.data.toList ∈ namesK l l.length) ↔ s ∈ l.map chN := by
  unfold namesK
  rw [List.take_length]
  constructor
  · intro h
    obtain ⟨x, hx, he⟩ := List.mem_map.1 h
    rw [← data_inj he]
    exact List.mem_map.2 ⟨x, hx, rfl⟩
  · intro h
    obtain ⟨x, hx, rfl⟩ := List.mem_map.1 h
    exact List.mem_map.2 ⟨x, hx, rfl⟩
 cases h : hasN (l.map chN) s with
 | true => exact decide_eq_true (e.2 (hasN_iff.1 h))
 | false => exact decide_eq_false (fun h' => by rw [hasN_iff.2 (e.1 h')] at h; cases h)
theorem keptK_in {a : List It} {l : List Ch} {k : Nat} {x : It} (h : a[k]? = some x) (hh : hasN (l.map chN) x.1 = true) : keptK a l (k + 1) = keptK a l k := by
 unfold keptK
 rw [List.take_add_one, h, List.filter_append]; simp [hh]
theorem keptK_out {a : List It} {l : List Ch} {k : Nat} {x : It} (h : a[k]? = some x) (hh : hasN (l.map chN) x.1 = false) : keptK a l (k + 1) = keptK a l k ++ [x] := by
 unfold keptK
 rw [List.take_add_one, h, List.filter_append]; simp [hh]
theorem merged_eq (a : List It) (l : List Ch) : putK l l.length ++ keptK a l a.length = merged a l := by
 unfold putK keptK merged
 rw [List.take_length, List.take_length]
theorem inc_nodup {ns : List ByteArray} (h : Inc ns) : ns.Nodup := h.imp fun h => nlt_ne h
theorem merged_nodup {a : List It} {l : List Ch} (ha : Inc (a.map Prod.fst)) (hl : Inc (l.map chN)) : ((merged a l).map Prod.fst).Nodup := by
 unfold merged
 rw [List.map_append, List.nodup_append]
 refine ⟨?_, ?_, ?_⟩
 · rw [List.map_map]
   exact (inc_nodup hl).sublist ((List.filter_sublist (l := l)).map (Prod.fst ∘ fun x => x.1))
 · exact (inc_nodup ha).sublist ((List.filter_sublist (l := a)).map Prod.fst)
 · intro x hx y hy e
   subst e
   obtain ⟨z, hz, rfl⟩ := List.mem_map.1 hy
   have h1 := (List.mem_filter.1 hz).2
   obtain ⟨u, hu, hue⟩ := List.mem_map.1 hx
   obtain ⟨v, hv, rfl⟩ := List.mem_map.1 hu
   have h2 : z.1 ∈ l.map chN := List.mem_map.2 ⟨v, (List.mem_filter.1 hv).1, hue⟩
   rw [hasN_iff.2 h2] at h1; cases h1
theorem inc_of : ∀ u : List It, u.Pairwise (fun a b => nlt b.1 a.1 = false) → (u.map Prod.fst).Nodup → Inc (u.map Prod.fst)
 | [], _, _ => .nil
 | x :: u, h, hn => by
   rw [List.pairwise_cons] at h
   rw [List.map_cons, List.nodup_cons] at hn
   rw [inc_cons]
   refine ⟨fun z hz => ?_, inc_of u h.2 hn.2⟩
   cases e : nlt x.1 z.1 with
   | true => rfl
   | false =>
     have := nlt_tri e (h.1 z hz)
     exact absurd (List.mem_map.2 ⟨z, hz, this.symm⟩) hn.1
theorem sorted_out {a : List It} {l : List Ch} (ha : Inc (a.map Prod.fst)) (hl : Inc (l.map chN)) {us zs : List Zi} (hz : zs.map Prod.fst = merged a l) (hp : us.Perm zs) (hs : us.Pairwise (fun a b => nlt b.1.1 a.1.1 = false)) : us.map Prod.fst = sortI (merged a l) := by
 have hp' : (us.map Prod.fst).Perm (merged a l) := hz ▸ hp.map Prod.fst
 have hn : ((us.map Prod.fst).map Prod.fst).Nodup := (hp'.map Prod.fst).nodup_iff.2 (merged_nodup ha hl)
 exact (sortI_eq hp'.symm (inc_of _ (List.pairwise_map.2 hs) hn)).symm
theorem okC_none {a : List It} {x : Ch} (h : ∀ y ∈ a, y.1 ≠ x.1.1) : okC a x = !x.2 := by
 unfold okC
 rw [List.find?_eq_none.2 fun y hy => by simpa using h y hy]
theorem okC_some {a : List It} (ha : Inc (a.map Prod.fst)) {s : ByteArray} {d e : List Nat} {g : Bool} (h : (s, e) ∈ a) : okC a ((s, d), g) = if g then decide (d = []) else !itEq (s, e) (s, d) := by
 unfold okC
 rw [show ((s, d), g).1.1 = (s, e).1 from rfl, find_inc ha h]
theorem app_bad {a : List It} {l : List Ch} {k : Nat} {x : Ch} (h : l[k]? = some x) (hb : okC a x = false) : l.all (okC a) = false := List.all_eq_false.2 ⟨x, List.mem_of_getElem? h, by rw [hb]; simp⟩
theorem app_good {a : List It} {l : List Ch} (h : ∀ j x, j < l.length → l[j]? = some x → okC a x = true) : l.all (okC a) = true := List.all_eq_true.2 fun x hx => by
 obtain ⟨j, hj, rfl⟩ := List.getElem_of_mem hx
 exact h j _ hj (List.getElem?_eq_getElem hj)
end Mir
end Go.Proofs.YtkflpoiobpblhaaGreat
namespace Go.Proofs.YtkflpoiobpblhaaGreat
open Go.RowKit
set_option linter.unusedVariables false
set_option linter.unusedSimpArgs false
set_option maxRecDepth 100000 in
set_option maxHeartbeats 4000000 in
theorem apply_any (A B : Option Addr) (n m c d : Nat) (a : List Mir.It) (l : List Mir.Ch) (za : List Mir.Zi) (wb w : World) (hbw : Below wb.heap.size wb w) (hza : za.map Prod.fst = a) (hda : ItDat wb za) (ha : a.length = n) (hl : l.length = m) (hn : n ≤ 1000000) (hm : m ≤ 1000000) (hA : Cells w A (itZ za)) (hB : ChangesC wb B l) :
    Calls Tryz.prog 86 #[.slice A n c, .slice B m d] w fun e w' => ∃ A' c' zs, e = .returned (.tuple #[.slice A' zs.length c', .int .i64 (Mir.appE a l)]) ∧ Hid (zs.map Prod.fst = Mir.appS a l) ∧ Hid (ItDat wb zs) ∧ Hid (w'.ownsRow w.heap.size 61 2 (.slice A' zs.length c') zs.length (itZ zs)) ∧ Below w.heap.size w w' := by
 have HZa := Lib.hid (fun hl => its_at hza hda hA hl)
 have HA := Lib.hid (show ItemsC w A a from hza ▸ hda.items hbw hA)
 have HC := Lib.hid hB
 have HCw := Lib.hid (hB.below hbw)
 have Hbw := Lib.hid hbw
 have Ha := Lib.hid ha
 have Hl := Lib.hid hl
 have HP := Lib.hid (fun W h => pcheck_any A n c a W ha hn h)
 have HI := Lib.hid (fun W h => incC_any B m d l W hl hm h)
 obtain ⟨RE, hRE⟩ : ∃ R, Mir.appE a l = R := ⟨_, rfl⟩
 obtain ⟨RL, hRL⟩ : ∃ R, Mir.appS a l = R := ⟨_, rfl⟩
 have HE := Lib.hid hRE
 have HL : Hid (RL = if RE = 0 then Mir.sortI (Mir.merged a l) else []) := Lib.hid (by rw [← hRL, ← hRE]; rfl)
 have HN : Hid (∀ x : Int, x ≠ 0 → RE = x → RL = []) := Lib.hid (fun x h1 h2 => by rw [HL.out, if_neg (by rw [h2]; exact h1)])
 rw [hRE, hRL]
 obtain ⟨E, hE⟩ : ∃ E, Mir.itE a = E := ⟨_, rfl⟩
 rw [hE] at HP
 have HEa := Lib.hid hE
 obtain ⟨I, hI⟩ : ∃ I, Mir.incS (l.map Mir.chN) = I := ⟨_, rfl⟩
 rw [hI] at HI
 have HIl := Lib.hid hI
 clear hA hB ha hl hRE hRL hE hI hza hda hbw
 by_cases hE : E = 0
 · subst hE
   by_cases hm6 : m ≤ 65536
   · have dm : decide ((65536 : Int) < (m : Int)) = false := by simp; omega
     cases I with
     | true =>
       obtain ⟨ia1, ia2, ia3⟩ := Mir.itE_inc HEa.out
       obtain ⟨il1, il2⟩ := Mir.incS_iff.1 HIl.out
       have HF := Lib.hid (fun s W h => find_any A n c a s W Ha.out hn h ia3)
       have IA := Lib.hid ia3
       have IL := Lib.hid il2
       have NA := Lib.hid ia2
       have NL := Lib.hid il1
       clear ia1 ia2 ia3 il1 il2
       have hmm := @run_makeMap Tryz.prog
       go_enter Tryz.func86, Tryz.ntmps86
       go_wp2_with (fail)
       refine (HP.out _ HA.out).mono ?_
       rintro e w2 ⟨rfl, hb2⟩
       go_wp2_with (fail)
       refine (HI.out _ (HCw.out.below hb2)).mono ?_
       rintro e w3 ⟨rfl, hb3⟩
       have HB3 := below_of hb2 hb3 hb2.size
       clear hb2 hb3 HP HI
       go_wp2_with (fail)
       generalize hge : World.alloc _ _ = w4
       have hM0 : BoolSet Tryz.prog 9 4 w4 w3.heap.size [] := by subst hge; exact BoolSet.made w3
       have hB4 : Below w.heap.size w w4 := by subst hge; exact below_of HB3 ((Below.refl _ _).alloc (Nat.le_refl _) _) HB3.size
       have hz4 : w3.heap.size + 1 ≤ w4.heap.size := hM0.lt
       obtain ⟨M, hM⟩ : ∃ M, w3.heap.size = M := ⟨_, rfl⟩
       rw [hM] at hM0 hz4 ⊢
       have hwM : w.heap.size ≤ M := by rw [← hM]; exact HB3.size
       have HM0 := Lib.hid hM0
       have HB4 := Lib.hid hB4
       clear hge hM HB3 hM0 hB4
       go_loopw [4, 30] (fun s i W => ∃ (k : Nat) (zs : List Mir.Zi) (D : Option Addr) (ko ee : Nat), k ≤ m ∧ i = .int .i64 k ∧ s = .slice D ko ee ∧ Hid (zs.length = ko) ∧ ko ≤ k ∧ Hid (zs.map Prod.fst = Mir.putK l k) ∧ Hid (ItDat wb zs) ∧ Hid (∀ j x, j < k → l[j]? = some x → Mir.okC a x = true) ∧ Hid (BoolSet Tryz.prog 9 4 W M (Mir.namesK l k)) ∧ Hid (W.ownsRow (M + 1) 61 2 (.slice D ko ee) ko (itZ zs)) ∧ M + 1 ≤ W.heap.size ∧ Hid (Below w.heap.size w W)) (fun _ i _ => m - (intOf i).toNat)
       case atStart => exact ⟨0, [], none, 0, 0, by omega, rfl, rfl, Lib.hid rfl, Nat.le_refl _, Lib.hid rfl, Lib.hid (fun z h => by cases h), Lib.hid (fun j x h => by omega), HM0, Lib.hid (World.ownsRow_nil _ _ _ _), hz4, HB4⟩
       case round =>
        obtain ⟨wq, rfl⟩ : ∃ v : World, v = wr := ⟨_, rfl⟩
        clear HM0 HB4 hz4
        obtain ⟨k, zs, D, ko, ee, hkm, rfl, rfl, hzl, hkok, hput, hdat, hok, hset, hown, hz, hB⟩ := hrel
        by_cases hlt : k < m
        · obtain ⟨⟨⟨s, dat⟩, gon⟩, hx⟩ := getElem?_lt (l := l) (k := k) (by rw [Hl.out]; exact hlt)
          obtain ⟨b, off, rfl, hb, hcs⟩ := HC.out.at_ (by rw [Hl.out]; omega)
          obtain ⟨D1, cd, hc1, hc2, hc3, hcd, hcm, hcD, h8⟩ := hcs k _ hx
          simp only [] at hc1 hc2 hc3 hcd hcD h8
          have hc1 := cellkM (below_of Hbw.out hB.out Hbw.out.size) hc1
          have hc2 := cellkM (below_of Hbw.out hB.out Hbw.out.size) hc2
          have hc3 := cellkM (below_of Hbw.out hB.out Hbw.out.size) hc3
          obtain ⟨md, hmd⟩ : ∃ md, md = dat.length := ⟨_, rfl⟩
          rw [← hmd] at hc2 hcd
          have HD := Lib.hid hcD
          have H8 := Lib.hid h8
          have Hmd := Lib.hid hmd
          have Hx := Lib.hid hx
          have hsz := NL.out s (List.mem_map.2 ⟨_, List.mem_of_getElem? hx, rfl⟩)
          have hsz2 : s.size ≤ maxLen := by unfold Mir.nameB at hsz; unfold maxLen; simp at hsz; omega
          have Hsz := Lib.hid hsz2
          clear hmd hcD h8 hx hcs hsz hsz2
          go_upto_region 10 with (fail)
          generalize hge : World.alloc _ _ = wx
          have bX : Blk wx wq.heap.size 66 #[.string s, .slice D1 md cd, .bool gon] := by subst hge; exact Blk.new wq _ _
          have hbX := al1 hge
          clear hge hc1 hc2 hc3
          obtain ⟨X, hX⟩ : ∃ X, wq.heap.size = X := ⟨_, rfl⟩
          have HX := Lib.hid (show Blk wx X 66 #[.string s, .slice D1 md cd, .bool gon] by rw [← hX]; exact bX)
          have HBX := Lib.hid (below_of hB.out hbX hB.out.size)
          have hownX := Lib.hid (own_below hown.out hbX)
          have hsetX := Lib.hid (hset.out.below hbX)
          have hzX : M + 1 ≤ wx.heap.size := Nat.le_trans hz hbX.size
          have hMX : M + 1 ≤ X := by rw [← hX]; exact hz
          rw [hX]
          clear bX hbX hX hown hset hB hz
          have x0 : wx.cell? ⟨X, 0, none⟩ = some (.string s) := HX.out.cell 0
          go_wp2_with (fail)
          refine (HF.out s _ (HA.out.below HBX.out)).mono ?_
          rintro e w5 ⟨kk, qq, rfl, hq1, hq2, hb5⟩
          have HX5 := Lib.hid (HX.out.below hb5)
          have hB := Lib.hid (below_of HBX.out hb5 HBX.out.size)
          have hown := Lib.hid (own_below hownX.out hb5)
          have hset := Lib.hid (hsetX.out.below hb5)
          have hz := Nat.le_trans hzX hb5.size
          clear x0 hb5 HBX hownX hsetX hzX HX
          obtain ⟨wq, rfl⟩ : ∃ v : World, v = w5 := ⟨_, rfl⟩
          have x0 : wq.cell? ⟨X, 0, none⟩ = some (.string s) := HX5.out.cell 0
          have x1 : wq.cell? ⟨X, 1, none⟩ = some (.slice D1 md cd) := HX5.out.cell 1
          have x2 : wq.cell? ⟨X, 2, none⟩ = some (.bool gon) := HX5.out.cell 2
          have ltX : X < wq.heap.size := HX5.out.lt
          cases qq with
          | false =>
            have hno := hq2.out rfl
            have Hno := Lib.hid hno
            clear hq1 hq2 hno
            cases gon with
            | true =>
              have okc : Mir.okC a ((s, dat), true) = false := by rw [Mir.okC_none Hno.out]; rfl
              have Okc := Lib.hid okc
              clear okc
              go_upto_region 11 with (fail)
              refine wp_region_held_drew (S := fun W => Below wq.heap.size wq W) (by kernel_rfl) (below_drewN (Below.refl _ _) 1) (fun Hd => ?_)
              have Hd : Below wq.heap.size wq wq.drew := below_drewN (Below.refl _ _) 1
              have Zd : wq.heap.size ≤ wq.drew.heap.size := Nat.le_refl _
              generalize World.drew wq = wd at *
              refine tq 0 rfl Hd ?_
              refine ts 1 rfl Hd (fun wS hSw => by
               have cc := (hSw.cell (p := ⟨X, 2, none⟩) ltX).trans x2
               go_simp
               try with_reducible rfl) ?_
              try simp only [la, Act.put]
              refine tq 2 rfl Hd ?_
              refine tq 3 rfl Hd ?_
              try simp only [la, Act.put]
              refine tq 4 rfl Hd ?_
              refine tq 5 rfl Hd ?_
              try simp only [la, Act.put]
              refine tn 6 rfl Hd ?_
              refine tn 7 rfl Hd ?_
              try simp only [la, Act.put]
              refine tn 8 rfl Hd ?_
              refine tn 9 rfl Hd ?_
              try simp only [la, Act.put]
              refine tn 10 rfl Hd ?_
              refine tq 11 rfl Hd ?_
              try simp only [la, Act.put]
              refine tq 12 rfl Hd ?_
              refine tq 13 rfl Hd ?_
              try simp only [la, Act.put]
              refine tn 14 rfl Hd ?_
              refine tn 15 rfl Hd ?_
              try simp only [la, Act.put]
              refine tn 16 rfl Hd ?_
              refine tn 17 rfl Hd ?_
              try simp only [la, Act.put]
              refine tn 18 rfl Hd ?_
              refine tn 19 rfl Hd ?_
              try simp only [la, Act.put]
              refine tn 20 rfl Hd ?_
              refine tn 21 rfl Hd ?_
              try simp only [la, Act.put]
              refine tn 22 rfl Hd ?_
              refine tn 23 rfl Hd ?_
              try simp only [la, Act.put]
              refine tn 24 rfl Hd ?_
              refine tn 25 rfl Hd ?_
              try simp only [la, Act.put]
              refine tn 26 rfl Hd ?_
              refine tn 27 rfl Hd ?_
              try simp only [la, Act.put]
              refine tn 28 rfl Hd ?_
              refine tq 29 rfl Hd ?_
              try simp only [la, Act.put]
              refine td ?_ _
              have HY := Hd
              go_wp2_with (fail)
              go_ret2
              have r1 : RE = 430 := by
               rw [← HE.out]; unfold Mir.appE
               rw [HEa.out, HIl.out, Hl.out, Mir.app_bad Hx.out Okc.out, if_neg (by simp), if_neg (by simp [hm6]), if_pos rfl]
              rw [HN.out _ (by omega) r1, r1]
              exact ⟨none, 0, [], rfl, Lib.hid rfl, Lib.hid (fun z h => by cases h), Lib.hid (World.ownsRow_nil _ _ _ _), below_of hB.out HY hB.out.size⟩
            | false =>
              have okc : Mir.okC a ((s, dat), false) = true := by rw [Mir.okC_none Hno.out]; rfl
              have Okc := Lib.hid okc
              clear okc
              go_upto_region 11 with (fail)
              refine wp_region_held_drew (S := fun W => Below wq.heap.size wq W) (by kernel_rfl) (below_drewN (Below.refl _ _) 1) (fun Hd => ?_)
              have Hd : Below wq.heap.size wq wq.drew := below_drewN (Below.refl _ _) 1
              have Zd : wq.heap.size ≤ wq.drew.heap.size := Nat.le_refl _
              generalize World.drew wq = wd at *
              refine tq 0 rfl Hd ?_
              refine ts 1 rfl Hd (fun wS hSw => by
               have cc := (hSw.cell (p := ⟨X, 2, none⟩) ltX).trans x2
               go_simp
               try with_reducible rfl) ?_
              try simp only [la, Act.put]
              refine tq 2 rfl Hd ?_
              refine tn 3 rfl Hd ?_
              try simp only [la, Act.put]
              refine tn 4 rfl Hd ?_
              refine tn 5 rfl Hd ?_
              try simp only [la, Act.put]
              refine tn 6 rfl Hd ?_
              refine tn 7 rfl Hd ?_
              try simp only [la, Act.put]
              refine tn 8 rfl Hd ?_
              refine tn 9 rfl Hd ?_
              try simp only [la, Act.put]
              refine tn 10 rfl Hd ?_
              refine tn 11 rfl Hd ?_
              try simp only [la, Act.put]
              refine tq 12 rfl Hd ?_
              refine tq 13 rfl Hd ?_
              try simp only [la, Act.put]
              refine tq 14 rfl Hd ?_
              refine ts 15 rfl Hd (fun wS hSw => by
               have cc := (hSw.cell (p := ⟨X, 2, none⟩) ltX).trans x2
               go_simp
               try with_reducible rfl) ?_
              try simp only [la, Act.put]
              refine tq 16 rfl Hd ?_
              refine tq 17 rfl Hd ?_
              try simp only [la, Act.put]
              refine tq 18 rfl Hd ?_
              refine tq 19 rfl Hd ?_
              try simp only [la, Act.put]
              refine tq 20 rfl Hd ?_
              refine tn 21 rfl Hd ?_
              try simp only [la, Act.put]
              refine tn 22 rfl Hd ?_
              refine tn 23 rfl Hd ?_
              try simp only [la, Act.put]
              refine tn 24 rfl Hd ?_
              refine tn 25 rfl Hd ?_
              try simp only [la, Act.put]
              refine tn 26 rfl Hd ?_
              refine tn 27 rfl Hd ?_
              try simp only [la, Act.put]
              refine tq 28 rfl Hd ?_
              refine tq 29 rfl Hd ?_
              try simp only [la, Act.put]
              refine td ?_ _
              have HY := Hd
              obtain ⟨w6, hw6⟩ : ∃ v : World, v = wd := ⟨_, rfl⟩
              subst hw6
              have hB6 := Lib.hid (below_of hB.out HY hB.out.size)
              have hown6 := Lib.hid (own_below hown.out HY)
              have hz6 := Nat.le_trans hz HY.size
              have x06 := cellkM HY x0
              have x16 := cellkM HY x1
              have x26 := cellkM HY x2
              obtain ⟨w7, hrun, hset7, hg7⟩ := (hset.out.below HY).store Tryz.underlying9 Tryz.underlying134 Tryz.underlying4 s Hsz.out (by rw [Mir.namesK_length (by rw [Hl.out]; omega)]; unfold maxLen; omega) (Mir.namesK_new IL.out Hx.out)
              rw [← Mir.namesK_succ Hx.out] at hset7
              have Hset7 := Lib.hid hset7
              have hB7 := Lib.hid (below_grown hB6.out hg7 hB6.out.size (fun k hk => by cases hk; exact hwM))
              have hown7 := Lib.hid (hown6.out.kept hg7 (.inr (fun e => by have := own_base hown6.out _ e; omega)))
              have hz7 := Nat.le_trans hz6 hg7.size
              have bx7 := (HX5.out.below HY).grown hg7 (fun e => by injection e with e; omega)
              have x07 : w7.cell? ⟨X, 0, none⟩ = some (.string s) := bx7.cell 0
              have x17 : w7.cell? ⟨X, 1, none⟩ = some (.slice D1 md cd) := bx7.cell 1
              have x27 : w7.cell? ⟨X, 2, none⟩ = some (.bool false) := bx7.cell 2
              clear bx7
              have hok7 : Hid (∀ j x, j < k + 1 → l[j]? = some x → Mir.okC a x = true) := Lib.hid (fun j x hj hx => by
               rcases Nat.lt_or_eq_of_le (Nat.le_of_lt_succ hj) with h | rfl
               · exact hok.out j x h hx
               · rw [Hx.out] at hx; cases hx; exact Okc.out)
              clear hset7 hg7
              go_wp2_with (first
               | (at_builtin
                  refine push_blk rfl (.tmp 79) (.tmp 82) 26 rfl (M + 1) 61 (.agg #[.string ⟨#[]⟩, .slice none 0 0]) 2 40 (by kernel_rfl) (by kernel_rfl) rfl (by omega) (.slice D ko ee) ko (itZ zs) #[.string s, .slice D1 md cd] rfl hown7.out rfl rfl (by simp [Value.oneCell']) (by unfold maxLen; omega) (by omega) hz7 ?_
                  intro v8 w8 hown8 hg8 _
                  obtain ⟨A8, c8, rfl, -, -, -⟩ := own_form hown8
                  have Hown8 := Lib.hid hown8
                  have HB8 := Lib.hid (below_grown hB7.out hg8 hB7.out.size (fun k hk => Nat.le_trans (by omega) (own_base hown7.out k hk)))
                  have Hset8 := Lib.hid (Hset7.out.grown hg8 (fun e => by have := own_base hown7.out _ e.symm; omega))
                  have hz8 := Nat.le_trans hz7 hg8.size
                  clear hown8 hg8))
              go_roundw
              case rel => exact ⟨k + 1, zs ++ [((s, dat), (D1, cd))], A8, ko + 1, c8, by omega, by go_num, rfl, Lib.hid (by rw [List.length_append, hzl.out]; rfl), by omega, Lib.hid (by rw [Mir.putK_put Hx.out, List.map_append, hput.out]; rfl), Lib.hid (hdat.out.snoc ((s, dat), (D1, cd)) (by rw [← Hmd.out]; exact hcd) hcm HD.out H8.out), hok7, Hset8, Lib.hid (by rw [itZ_append]; simp only [itZ]; rw [← Hmd.out]; exact Hown8.out), hz8, HB8⟩
              case measure => simp [intOf]; omega
          | true =>
            obtain ⟨⟨s2, dat2⟩, hy, hs2⟩ := hq1.out rfl
            simp only [] at hs2
            have hs2 := hs2.symm
            subst hs2
            have Hy := Lib.hid hy
            clear hq1 hq2
            cases gon with
            | true =>
              by_cases hmd0 : md = 0
              · subst hmd0
                have okc : Mir.okC a ((s, dat), true) = true := by rw [Mir.okC_some IA.out (List.mem_of_getElem? Hy.out), if_pos rfl]; exact decide_eq_true (List.eq_nil_of_length_eq_zero Hmd.out.symm)
                have Okc := Lib.hid okc
                clear okc
                clear hy
                go_upto_region 11 with (fail)
                refine wp_region_held_drew (S := fun W => Below wq.heap.size wq W) (by kernel_rfl) (below_drewN (Below.refl _ _) 1) (fun Hd => ?_)
                have Hd : Below wq.heap.size wq wq.drew := below_drewN (Below.refl _ _) 1
                have Zd : wq.heap.size ≤ wq.drew.heap.size := Nat.le_refl _
                generalize World.drew wq = wd at *
                refine tq 0 rfl Hd ?_
                refine ts 1 rfl Hd (fun wS hSw => by
                 have cc := (hSw.cell (p := ⟨X, 2, none⟩) ltX).trans x2
                 go_simp
                 try with_reducible rfl) ?_
                try simp only [la, Act.put]
                refine tq 2 rfl Hd ?_
                refine tq 3 rfl Hd ?_
                try simp only [la, Act.put]
                refine tq 4 rfl Hd ?_
                refine tq 5 rfl Hd ?_
                try simp only [la, Act.put]
                refine tq 6 rfl Hd ?_
                refine tq 7 rfl Hd ?_
                try simp only [la, Act.put]
                refine ts 8 rfl Hd (fun wS hSw => by
                 have cc := (hSw.cell (p := ⟨X, 1, none⟩) ltX).trans x1
                 go_simp
                 try with_reducible rfl) ?_
                refine tq 9 rfl Hd ?_
                try simp only [la, Act.put]
                refine tq 10 rfl Hd ?_
                refine tq 11 rfl Hd ?_
                try simp only [la, Act.put]
                refine tq 12 rfl Hd ?_
                refine tq 13 rfl Hd ?_
                try simp only [la, Act.put]
                refine tq 14 rfl Hd ?_
                refine ts 15 rfl Hd (fun wS hSw => by
                 have cc := (hSw.cell (p := ⟨X, 2, none⟩) ltX).trans x2
                 go_simp
                 try with_reducible rfl) ?_
                try simp only [la, Act.put]
                refine tq 16 rfl Hd ?_
                refine tq 17 rfl Hd ?_
                try simp only [la, Act.put]
                refine tn 18 rfl Hd ?_
                refine tq 19 rfl Hd ?_
                try simp only [la, Act.put]
                refine tq 20 rfl Hd ?_
                refine tn 21 rfl Hd ?_
                try simp only [la, Act.put]
                refine tn 22 rfl Hd ?_
                refine tn 23 rfl Hd ?_
                try simp only [la, Act.put]
                refine tn 24 rfl Hd ?_
                refine tn 25 rfl Hd ?_
                try simp only [la, Act.put]
                refine tn 26 rfl Hd ?_
                refine tn 27 rfl Hd ?_
                try simp only [la, Act.put]
                refine tq 28 rfl Hd ?_
                refine tq 29 rfl Hd ?_
                try simp only [la, Act.put]
                refine td ?_ _
                have HY := Hd
                obtain ⟨w6, hw6⟩ : ∃ v : World, v = wd := ⟨_, rfl⟩
                subst hw6
                have hB6 := Lib.hid (below_of hB.out HY hB.out.size)
                have hown6 := Lib.hid (own_below hown.out HY)
                have hz6 := Nat.le_trans hz HY.size
                have x06 := cellkM HY x0
                have x16 := cellkM HY x1
                have x26 := cellkM HY x2
                obtain ⟨w7, hrun, hset7, hg7⟩ := (hset.out.below HY).store Tryz.underlying9 Tryz.underlying134 Tryz.underlying4 s Hsz.out (by rw [Mir.namesK_length (by rw [Hl.out]; omega)]; unfold maxLen; omega) (Mir.namesK_new IL.out Hx.out)
                rw [← Mir.namesK_succ Hx.out] at hset7
                have Hset7 := Lib.hid hset7
                have hB7 := Lib.hid (below_grown hB6.out hg7 hB6.out.size (fun k hk => by cases hk; exact hwM))
                have hown7 := Lib.hid (hown6.out.kept hg7 (.inr (fun e => by have := own_base hown6.out _ e; omega)))
                have hz7 := Nat.le_trans hz6 hg7.size
                have bx7 := (HX5.out.below HY).grown hg7 (fun e => by injection e with e; omega)
                have x07 : w7.cell? ⟨X, 0, none⟩ = some (.string s) := bx7.cell 0
                have x27 : w7.cell? ⟨X, 2, none⟩ = some (.bool true) := bx7.cell 2
                clear bx7
                have hok7 : Hid (∀ j x, j < k + 1 → l[j]? = some x → Mir.okC a x = true) := Lib.hid (fun j x hj hx => by
                 rcases Nat.lt_or_eq_of_le (Nat.le_of_lt_succ hj) with h | rfl
                 · exact hok.out j x h hx
                 · rw [Hx.out] at hx; cases hx; exact Okc.out)
                clear hset7 hg7
                go_wp2_with (fail)
                go_roundw
                case rel => exact ⟨k + 1, zs, D, ko, ee, by omega, by go_num, rfl, hzl, by omega, Lib.hid (by rw [Mir.putK_gone Hx.out]; exact hput.out), hdat, hok7, Hset7, hown7, hz7, hB7⟩
                case measure => simp [intOf]; omega
              · have hmdp : 0 < md := by omega
                have okc : Mir.okC a ((s, dat), true) = false := by rw [Mir.okC_some IA.out (List.mem_of_getElem? Hy.out), if_pos rfl]; exact decide_eq_false (fun h => by have := Hmd.out; rw [h] at this; exact hmd0 this)
                have Okc := Lib.hid okc
                clear okc
                clear hy
                go_upto_region 11 with (fail)
                refine wp_region_held_drew (S := fun W => Below wq.heap.size wq W) (by kernel_rfl) (below_drewN (Below.refl _ _) 1) (fun Hd => ?_)
                have Hd : Below wq.heap.size wq wq.drew := below_drewN (Below.refl _ _) 1
                have Zd : wq.heap.size ≤ wq.drew.heap.size := Nat.le_refl _
                generalize World.drew wq = wd at *
                refine tq 0 rfl Hd ?_
                refine ts 1 rfl Hd (fun wS hSw => by
                 have cc := (hSw.cell (p := ⟨X, 2, none⟩) ltX).trans x2
                 go_simp
                 try with_reducible rfl) ?_
                try simp only [la, Act.put]
                refine tq 2 rfl Hd ?_
                refine tq 3 rfl Hd ?_
                try simp only [la, Act.put]
                refine tq 4 rfl Hd ?_
                refine tq 5 rfl Hd ?_
                try simp only [la, Act.put]
                refine tq 6 rfl Hd ?_
                refine tq 7 rfl Hd ?_
                try simp only [la, Act.put]
                refine ts 8 rfl Hd (fun wS hSw => by
                 have cc := (hSw.cell (p := ⟨X, 1, none⟩) ltX).trans x1
                 go_simp
                 try with_reducible rfl) ?_
                refine tq 9 rfl Hd ?_
                try simp only [la, Act.put]
                refine tq 10 rfl Hd ?_
                refine tq 11 rfl Hd ?_
                try simp only [la, Act.put]
                refine tq 12 rfl Hd ?_
                refine tq 13 rfl Hd ?_
                try simp only [la, Act.put]
                refine tn 14 rfl Hd ?_
                refine tn 15 rfl Hd ?_
                try simp only [la, Act.put]
                refine tn 16 rfl Hd ?_
                refine tn 17 rfl Hd ?_
                try simp only [la, Act.put]
                refine tn 18 rfl Hd ?_
                refine tn 19 rfl Hd ?_
                try simp only [la, Act.put]
                refine tn 20 rfl Hd ?_
                refine tn 21 rfl Hd ?_
                try simp only [la, Act.put]
                refine tn 22 rfl Hd ?_
                refine tn 23 rfl Hd ?_
                try simp only [la, Act.put]
                refine tn 24 rfl Hd ?_
                refine tn 25 rfl Hd ?_
                try simp only [la, Act.put]
                refine tn 26 rfl Hd ?_
                refine tn 27 rfl Hd ?_
                try simp only [la, Act.put]
                refine tn 28 rfl Hd ?_
                refine tq 29 rfl Hd ?_
                try simp only [la, Act.put]
                refine td ?_ _
                have HY := Hd
                go_wp2_with (fail)
                go_ret2
                have r1 : RE = 430 := by
                 rw [← HE.out]; unfold Mir.appE
                 rw [HEa.out, HIl.out, Hl.out, Mir.app_bad Hx.out Okc.out, if_neg (by simp), if_neg (by simp [hm6]), if_pos rfl]
                rw [HN.out _ (by omega) r1, r1]
                exact ⟨none, 0, [], rfl, Lib.hid rfl, Lib.hid (fun z h => by cases h), Lib.hid (World.ownsRow_nil _ _ _ _), below_of hB.out HY hB.out.size⟩
            | false =>
              obtain ⟨ba, oa, rfl, hba, hca⟩ := HA.out.at_ (by have := (List.getElem?_eq_some_iff.1 hy).1; omega)
              obtain ⟨Da, ea, a1, a2, -, -, hda, hda8⟩ := hca _ _ hy
              simp only [] at a1 a2 hda hda8
              have a1 := cellkM hB.out a1
              have a2 := cellkM hB.out a2
              have ltA : ba < wq.heap.size := Nat.lt_of_lt_of_le hba hB.out.size
              have hkk : kk < n := by have := (List.getElem?_eq_some_iff.1 hy).1; rw [Ha.out] at this; exact this
              have Hda := Lib.hid hda
              have Hda8 := Lib.hid hda8
              clear hca hy hda hda8
              cases eqb : Mir.itEq (s, dat2) (s, dat) with
              | true =>
                have okc : Mir.okC a ((s, dat), false) = false := by rw [Mir.okC_some IA.out (List.mem_of_getElem? Hy.out), if_neg (by simp), eqb]; rfl
                have Okc := Lib.hid okc
                clear okc
                have Eqb := Lib.hid eqb
                clear eqb
                go_upto_region 11 with (fail)
                refine wp_region_held_drew (S := fun W => Below wq.heap.size wq W) (by kernel_rfl) (below_drewN (Below.refl _ _) 1) (fun Hd => ?_)
                have Hd : Below wq.heap.size wq wq.drew := below_drewN (Below.refl _ _) 1
                have Zd : wq.heap.size ≤ wq.drew.heap.size := Nat.le_refl _
                generalize World.drew wq = wd at *
                refine tq 0 rfl Hd ?_
                refine ts 1 rfl Hd (fun wS hSw => by
                 have cc := (hSw.cell (p := ⟨X, 2, none⟩) ltX).trans x2
                 go_simp
                 try with_reducible rfl) ?_
                try simp only [la, Act.put]
                refine tq 2 rfl Hd ?_
                refine tn 3 rfl Hd ?_
                try simp only [la, Act.put]
                refine tn 4 rfl Hd ?_
                refine tn 5 rfl Hd ?_
                try simp only [la, Act.put]
                refine tn 6 rfl Hd ?_
                refine tn 7 rfl Hd ?_
                try simp only [la, Act.put]
                refine tn 8 rfl Hd ?_
                refine tn 9 rfl Hd ?_
                try simp only [la, Act.put]
                refine tn 10 rfl Hd ?_
                refine tn 11 rfl Hd ?_
                try simp only [la, Act.put]
                refine tq 12 rfl Hd ?_
                refine tq 13 rfl Hd ?_
                try simp only [la, Act.put]
                refine tq 14 rfl Hd ?_
                refine ts 15 rfl Hd (fun wS hSw => by
                 have cc := (hSw.cell (p := ⟨X, 2, none⟩) ltX).trans x2
                 go_simp
                 try with_reducible rfl) ?_
                try simp only [la, Act.put]
                refine tq 16 rfl Hd ?_
                refine tq 17 rfl Hd ?_
                try simp only [la, Act.put]
                refine tq 18 rfl Hd ?_
                refine tq 19 rfl Hd ?_
                try simp only [la, Act.put]
                refine tq 20 rfl Hd ?_
                refine tq 21 rfl Hd ?_
                try simp only [la, Act.put]
                refine tq 22 rfl Hd ?_
                refine tq 23 rfl Hd ?_
                try simp only [la, Act.put]
                refine ts 24 rfl Hd (fun wS hSw => by
                 have cc := (hSw.cell (p := ⟨ba, oa + kk * 2, none⟩) ltA).trans a1
                 have cc2 := (hSw.cell (p := ⟨ba, oa + kk * 2 + 1, none⟩) ltA).trans a2
                 go_simp
                 try with_reducible rfl) ?_
                refine tq 25 rfl Hd ?_
                try simp only [la, Act.put]
                refine ts 26 rfl Hd (fun wS hSw => by
                 have cc := (hSw.cell (p := ⟨X, 0, none⟩) ltX).trans x0
                 have cc2 := (hSw.cell (p := ⟨X, 1, none⟩) ltX).trans x1
                 go_simp
                 try with_reducible rfl) ?_
                try simp only [la, Act.put]
                refine ty 27 rfl (fun K hK => ?_)
                go_simp
                have eqq := equal_any s s Da D1 ea cd dat2 dat _ (Hda.out.below (below_of hB.out Hd hB.out.size)) (HD.out.below (below_of (below_of Hbw.out hB.out Hbw.out.size) Hd (below_of Hbw.out hB.out Hbw.out.size).size)) Hda8.out H8.out
                rw [Eqb.out, ← Hmd.out] at eqq
                refine eqq.mono ?_
                rintro e w1_ ⟨rfl, hb1⟩
                have Hb1 := below_of Hd hb1 Hd.size
                have Zb1 := Nat.le_trans Zd hb1.size
                go_wp2_with (fail)
                refine hK.out _ _ Hb1 fun _ => ?_
                clear hK K
                try simp only [la, Act.put]
                refine tq 28 rfl Hb1 ?_
                refine tq 29 rfl Hb1 ?_
                try simp only [la, Act.put]
                refine td ?_ _
                have HY := Hb1
                go_wp2_with (fail)
                go_ret2
                have r1 : RE = 430 := by
                 rw [← HE.out]; unfold Mir.appE
                 rw [HEa.out, HIl.out, Hl.out, Mir.app_bad Hx.out Okc.out, if_neg (by simp), if_neg (by simp [hm6]), if_pos rfl]
                rw [HN.out _ (by omega) r1, r1]
                exact ⟨none, 0, [], rfl, Lib.hid rfl, Lib.hid (fun z h => by cases h), Lib.hid (World.ownsRow_nil _ _ _ _), below_of hB.out HY hB.out.size⟩
              | false =>
                have okc : Mir.okC a ((s, dat), false) = true := by rw [Mir.okC_some IA.out (List.mem_of_getElem? Hy.out), if_neg (by simp), eqb]; rfl
                have Okc := Lib.hid okc
                clear okc
                have Eqb := Lib.hid eqb
                clear eqb
                go_upto_region 11 with (fail)
                refine wp_region_held_drew (S := fun W => Below wq.heap.size wq W) (by kernel_rfl) (below_drewN (Below.refl _ _) 1) (fun Hd => ?_)
                have Hd : Below wq.heap.size wq wq.drew := below_drewN (Below.refl _ _) 1
                have Zd : wq.heap.size ≤ wq.drew.heap.size := Nat.le_refl _
                generalize World.drew wq = wd at *
                refine tq 0 rfl Hd ?_
                refine ts 1 rfl Hd (fun wS hSw => by
                 have cc := (hSw.cell (p := ⟨X, 2, none⟩) ltX).trans x2
                 go_simp
                 try with_reducible rfl) ?_
                try simp only [la, Act.put]
                refine tq 2 rfl Hd ?_
                refine tn 3 rfl Hd ?_
                try simp only [la, Act.put]
                refine tn 4 rfl Hd ?_
                refine tn 5 rfl Hd ?_
                try simp only [la, Act.put]
                refine tn 6 rfl Hd ?_
                refine tn 7 rfl Hd ?_
                try simp only [la, Act.put]
                refine tn 8 rfl Hd ?_
                refine tn 9 rfl Hd ?_
                try simp only [la, Act.put]
                refine tn 10 rfl Hd ?_
                refine tn 11 rfl Hd ?_
                try simp only [la, Act.put]
                refine tq 12 rfl Hd ?_
                refine tq 13 rfl Hd ?_
                try simp only [la, Act.put]
                refine tq 14 rfl Hd ?_
                refine ts 15 rfl Hd (fun wS hSw => by
                 have cc := (hSw.cell (p := ⟨X, 2, none⟩) ltX).trans x2
                 go_simp
                 try with_reducible rfl) ?_
                try simp only [la, Act.put]
                refine tq 16 rfl Hd ?_
                refine tq 17 rfl Hd ?_
                try simp only [la, Act.put]
                refine tq 18 rfl Hd ?_
                refine tq 19 rfl Hd ?_
                try simp only [la, Act.put]
                refine tq 20 rfl Hd ?_
                refine tq 21 rfl Hd ?_
                try simp only [la, Act.put]
                refine tq 22 rfl Hd ?_
                refine tq 23 rfl Hd ?_
                try simp only [la, Act.put]
                refine ts 24 rfl Hd (fun wS hSw => by
                 have cc := (hSw.cell (p := ⟨ba, oa + kk * 2, none⟩) ltA).trans a1
                 have cc2 := (hSw.cell (p := ⟨ba, oa + kk * 2 + 1, none⟩) ltA).trans a2
                 go_simp
                 try with_reducible rfl) ?_
                refine tq 25 rfl Hd ?_
                try simp only [la, Act.put]
                refine ts 26 rfl Hd (fun wS hSw => by
                 have cc := (hSw.cell (p := ⟨X, 0, none⟩) ltX).trans x0
                 have cc2 := (hSw.cell (p := ⟨X, 1, none⟩) ltX).trans x1
                 go_simp
                 try with_reducible rfl) ?_
                try simp only [la, Act.put]
                refine ty 27 rfl (fun K hK => ?_)
                go_simp
                have eqq := equal_any s s Da D1 ea cd dat2 dat _ (Hda.out.below (below_of hB.out Hd hB.out.size)) (HD.out.below (below_of (below_of Hbw.out hB.out Hbw.out.size) Hd (below_of Hbw.out hB.out Hbw.out.size).size)) Hda8.out H8.out
                rw [Eqb.out, ← Hmd.out] at eqq
                refine eqq.mono ?_
                rintro e w1_ ⟨rfl, hb1⟩
                have Hb1 := below_of Hd hb1 Hd.size
                have Zb1 := Nat.le_trans Zd hb1.size
                go_wp2_with (fail)
                refine hK.out _ _ Hb1 fun _ => ?_
                clear hK K
                try simp only [la, Act.put]
                refine tq 28 rfl Hb1 ?_
                refine tq 29 rfl Hb1 ?_
                try simp only [la, Act.put]
                refine td ?_ _
                have HY := Hb1
                obtain ⟨w6, hw6⟩ : ∃ v : World, v = w1_ := ⟨_, rfl⟩
                subst hw6
                have hB6 := Lib.hid (below_of hB.out HY hB.out.size)
                have hown6 := Lib.hid (own_below hown.out HY)
                have hz6 := Nat.le_trans hz HY.size
                have x06 := cellkM HY x0
                have x16 := cellkM HY x1
                have x26 := cellkM HY x2
                obtain ⟨w7, hrun, hset7, hg7⟩ := (hset.out.below HY).store Tryz.underlying9 Tryz.underlying134 Tryz.underlying4 s Hsz.out (by rw [Mir.namesK_length (by rw [Hl.out]; omega)]; unfold maxLen; omega) (Mir.namesK_new IL.out Hx.out)
                rw [← Mir.namesK_succ Hx.out] at hset7
                have Hset7 := Lib.hid hset7
                have hB7 := Lib.hid (below_grown hB6.out hg7 hB6.out.size (fun k hk => by cases hk; exact hwM))
                have hown7 := Lib.hid (hown6.out.kept hg7 (.inr (fun e => by have := own_base hown6.out _ e; omega)))
                have hz7 := Nat.le_trans hz6 hg7.size
                have bx7 := (HX5.out.below HY).grown hg7 (fun e => by injection e with e; omega)
                have x07 : w7.cell? ⟨X, 0, none⟩ = some (.string s) := bx7.cell 0
                have x17 : w7.cell? ⟨X, 1, none⟩ = some (.slice D1 md cd) := bx7.cell 1
                have x27 : w7.cell? ⟨X, 2, none⟩ = some (.bool false) := bx7.cell 2
                clear bx7
                have hok7 : Hid (∀ j x, j < k + 1 → l[j]? = some x → Mir.okC a x = true) := Lib.hid (fun j x hj hx => by
                 rcases Nat.lt_or_eq_of_le (Nat.le_of_lt_succ hj) with h | rfl
                 · exact hok.out j x h hx
                 · rw [Hx.out] at hx; cases hx; exact Okc.out)
                clear hset7 hg7
                go_wp2_with (first
                 | (at_builtin
                    refine push_blk rfl (.tmp 79) (.tmp 82) 26 rfl (M + 1) 61 (.agg #[.string ⟨#[]⟩, .slice none 0 0]) 2 40 (by kernel_rfl) (by kernel_rfl) rfl (by omega) (.slice D ko ee) ko (itZ zs) #[.string s, .slice D1 md cd] rfl hown7.out rfl rfl (by simp [Value.oneCell']) (by unfold maxLen; omega) (by omega) hz7 ?_
                    intro v8 w8 hown8 hg8 _
                    obtain ⟨A8, c8, rfl, -, -, -⟩ := own_form hown8
                    have Hown8 := Lib.hid hown8
                    have HB8 := Lib.hid (below_grown hB7.out hg8 hB7.out.size (fun k hk => Nat.le_trans (by omega) (own_base hown7.out k hk)))
                    have Hset8 := Lib.hid (Hset7.out.grown hg8 (fun e => by have := own_base hown7.out _ e.symm; omega))
                    have hz8 := Nat.le_trans hz7 hg8.size
                    clear hown8 hg8))
                go_roundw
                case rel => exact ⟨k + 1, zs ++ [((s, dat), (D1, cd))], A8, ko + 1, c8, by omega, by go_num, rfl, Lib.hid (by rw [List.length_append, hzl.out]; rfl), by omega, Lib.hid (by rw [Mir.putK_put Hx.out, List.map_append, hput.out]; rfl), Lib.hid (hdat.out.snoc ((s, dat), (D1, cd)) (by rw [← Hmd.out]; exact hcd) hcm HD.out H8.out), hok7, Hset8, Lib.hid (by rw [itZ_append]; simp only [itZ]; rw [← Hmd.out]; exact Hown8.out), hz8, HB8⟩
                case measure => simp [intOf]; omega
        · obtain rfl : k = m := by omega
          clear HF
          go_wp2_with (fail)
          go_loopw [4, 87] (fun s i W => ∃ (j : Nat) (zs : List Mir.Zi) (D : Option Addr) (ko ee : Nat), j ≤ n ∧ i = .int .i64 j ∧ s = .slice D ko ee ∧ Hid (zs.length = ko) ∧ ko ≤ k + j ∧ Hid (zs.map Prod.fst = Mir.putK l k ++ Mir.keptK a l j) ∧ Hid (ItDat wb zs) ∧ Hid (BoolSet Tryz.prog 9 4 W M (Mir.namesK l k)) ∧ Hid (W.ownsRow (M + 1) 61 2 (.slice D ko ee) ko (itZ zs)) ∧ M + 1 ≤ W.heap.size ∧ Hid (Below w.heap.size w W)) (fun _ i _ => n - (intOf i).toNat)
          case atStart => exact ⟨0, zs, D, ko, ee, by omega, rfl, rfl, hzl, by omega, Lib.hid (by rw [hput.out]; simp [Mir.keptK]), hdat, hset, hown, hz, hB⟩
          case round =>
           obtain ⟨wq2, rfl⟩ : ∃ v : World, v = wr := ⟨_, rfl⟩
           clear hzl hput hdat hset hown hz hB
           obtain ⟨j, zs2, D2, ko2, ee2, hjn, rfl, rfl, hzl, hkoj, hput, hdat, hset, hown, hz, hB⟩ := hrel
           by_cases hlt2 : j < n
           · obtain ⟨⟨s, dat⟩, hx⟩ := getElem?_lt (l := a) (k := j) (by rw [Ha.out]; exact hlt2)
             obtain ⟨b, off, rfl, hb, hcs⟩ := HZa.out (by rw [Ha.out]; omega)
             obtain ⟨D1, cd, hc1, hc2, hcd, hcm, hcD, h8⟩ := hcs j _ hx
             simp only [] at hc1 hc2 hcd hcD h8
             have hc1 := cellkM hB.out hc1
             have hc2 := cellkM hB.out hc2
             obtain ⟨md, hmd⟩ : ∃ md, md = dat.length := ⟨_, rfl⟩
             rw [← hmd] at hc2 hcd
             have HD := Lib.hid hcD
             have H8 := Lib.hid h8
             have Hmd := Lib.hid hmd
             have Hx := Lib.hid hx
             have hsz := NA.out _ (List.mem_of_getElem? hx)
             have hsz2 : s.size ≤ maxLen := by unfold Mir.nameB at hsz; unfold maxLen; simp at hsz; omega
             have Hsz := Lib.hid hsz2
             clear hmd hcD h8 hx hcs hsz hsz2
             go_upto_region 20 with (fail)
             generalize hge : World.alloc _ _ = wx
             have bX : Blk wx wq2.heap.size 61 #[.string s, .slice D1 md cd] := by subst hge; exact Blk.new wq2 _ _
             have hbX := al1 hge
             clear hge hc1 hc2
             obtain ⟨X, hX⟩ : ∃ X, wq2.heap.size = X := ⟨_, rfl⟩
             have HX := Lib.hid (show Blk wx X 61 #[.string s, .slice D1 md cd] by rw [← hX]; exact bX)
             have HBX := Lib.hid (below_of hB.out hbX hB.out.size)
             have hownX := Lib.hid (own_below hown.out hbX)
             have hsetX := Lib.hid (hset.out.below hbX)
             have hzX : M + 1 ≤ wx.heap.size := Nat.le_trans hz hbX.size
             rw [hX]
             clear bX hbX hX hown hset hB hz
             have x0 : wx.cell? ⟨X, 0, none⟩ = some (.string s) := HX.out.cell 0
             have x1 : wx.cell? ⟨X, 1, none⟩ = some (.slice D1 md cd) := HX.out.cell 1
             have hlk := hsetX.out.look Tryz.underlying9 Tryz.underlying134 Tryz.underlying4 (by kernel_rfl) s Hsz.out
             rw [show Mir.namesK l k = Mir.namesK l l.length by rw [Hl.out], Mir.names_look] at hlk
             cases hh : Mir.hasN (l.map Mir.chN) s with
             | true =>
               rw [hh] at hlk
               have Hh := Lib.hid hh
               clear hh
               go_wp2_with (fail)
               go_roundw
               case rel => exact ⟨j + 1, zs2, D2, ko2, ee2, by omega, by go_num, rfl, hzl, by omega, Lib.hid (by rw [Mir.keptK_in Hx.out Hh.out]; exact hput.out), hdat, hsetX, hownX, hzX, HBX⟩
               case measure => simp [intOf]; omega
             | false =>
               rw [hh] at hlk
               have Hh := Lib.hid hh
               clear hh
               go_wp2_with (first
                | (at_builtin
                   refine push_blk rfl (.tmp 96) (.tmp 98) 26 rfl (M + 1) 61 (.agg #[.string ⟨#[]⟩, .slice none 0 0]) 2 40 (by kernel_rfl) (by kernel_rfl) rfl (by omega) (.slice D2 ko2 ee2) ko2 (itZ zs2) #[.string s, .slice D1 md cd] rfl hownX.out rfl rfl (by simp [Value.oneCell']) (by unfold maxLen; omega) (by omega) hzX ?_
                   intro v8 w8 hown8 hg8 _
                   obtain ⟨A8, c8, rfl, -, -, -⟩ := own_form hown8
                   have Hown8 := Lib.hid hown8
                   have HB8 := Lib.hid (below_grown HBX.out hg8 HBX.out.size (fun k hk => Nat.le_trans (by omega) (own_base hownX.out k hk)))
                   have Hset8 := Lib.hid (hsetX.out.grown hg8 (fun e => by have := own_base hownX.out _ e.symm; omega))
                   have hz8 := Nat.le_trans hzX hg8.size
                   clear hown8 hg8 hlk))
               go_roundw
               case rel => exact ⟨j + 1, zs2 ++ [((s, dat), (D1, cd))], A8, ko2 + 1, c8, by omega, by go_num, rfl, Lib.hid (by rw [List.length_append, hzl.out]; rfl), by omega, Lib.hid (by rw [Mir.keptK_out Hx.out Hh.out, List.map_append, hput.out, List.append_assoc]; rfl), Lib.hid (hdat.out.snoc ((s, dat), (D1, cd)) (by rw [← Hmd.out]; exact hcd) hcm HD.out H8.out), Hset8, Lib.hid (by rw [itZ_append]; simp only [itZ]; rw [← Hmd.out]; exact Hown8.out), hz8, HB8⟩
               case measure => simp [intOf]; omega
           · obtain rfl : j = n := by omega
             have hmg : zs2.map Prod.fst = Mir.merged a l := by rw [hput.out, ← Mir.merged_eq, Hl.out, Ha.out]
             have hall : l.all (Mir.okC a) = true := Mir.app_good (by rw [Hl.out]; exact hok.out)
             have hml : (Mir.merged a l).length = ko2 := by rw [← hmg, List.length_map, hzl.out]
             have hRE : RE = if 65536 < ko2 then 2 else 0 := by
              rw [← HE.out]; unfold Mir.appE
              rw [HEa.out, HIl.out, Hl.out, hall, hml, if_neg (by simp), if_neg (by simp [hm6]), if_neg (by simp)]
             have HRE := Lib.hid hRE
             have Hmg := Lib.hid hmg
             clear hmg hall hml hRE hput
             by_cases hk6 : 65536 < ko2
             · have dk : decide ((65536 : Int) < (ko2 : Int)) = true := by simp; omega
               go_wp2_with (fail)
               go_ret2
               have r1 : RE = 2 := by rw [HRE.out, if_pos hk6]
               rw [HN.out _ (by omega) r1, r1]
               exact ⟨none, 0, [], rfl, Lib.hid rfl, Lib.hid (fun z h => by cases h), Lib.hid (World.ownsRow_nil _ _ _ _), hB.out⟩
             · have dk : decide ((65536 : Int) < (ko2 : Int)) = false := by simp; omega
               have r1 : RE = 0 := by rw [HRE.out, if_neg hk6]
               have R1 := Lib.hid r1
               clear r1
               go_wp2_with (fail)
               have hz9 := hzl.out
               subst hz9
               refine (isort_any (M + 1) (.slice D2 zs2.length ee2) zs2 _ hown.out (by omega)).mono ?_
               rintro e w9 ⟨rfl, us, hp, hs, hown9, hg9⟩
               have HB9 := Lib.hid (below_grown hB.out hg9 hB.out.size (fun k hk => Nat.le_trans (by omega) (own_base hown.out k hk)))
               have Hown9 := Lib.hid hown9
               have Hp := Lib.hid hp
               have Hs := Lib.hid hs
               clear hown9 hg9 hp hs
               go_wp2_with (fail)
               go_ret2
               have r2 : RL = us.map Prod.fst := by rw [HL.out, R1.out, if_pos rfl, Mir.sorted_out IA.out IL.out Hmg.out Hp.out Hs.out]
               have hul : us.length = zs2.length := Hp.out.length_eq
               rw [r2, R1.out]
               exact ⟨D2, ee2, us, by rw [hul]; rfl, Lib.hid rfl, Lib.hid (fun z hz => hdat.out z (Hp.out.subset hz)), Lib.hid (by rw [hul]; exact own_mono Hown9.out (by omega)), HB9.out⟩
     | false =>
       have r1 : RE = 430 := by rw [← HE.out]; unfold Mir.appE; rw [HEa.out, HIl.out]; simp
       have r2 := HN.out _ (by omega) r1
       have R1 := Lib.hid r1
       have R2 := Lib.hid r2
       clear r1 r2
       go_enter Tryz.func86, Tryz.ntmps86
       go_wp2_with (fail)
       refine (HP.out _ HA.out).mono ?_
       rintro e w2 ⟨rfl, hb2⟩
       go_wp2_with (fail)
       refine (HI.out _ (HCw.out.below hb2)).mono ?_
       rintro e w3 ⟨rfl, hb3⟩
       go_wp2_with (fail)
       go_ret2
       rw [R1.out, R2.out]
       exact ⟨none, 0, [], rfl, Lib.hid rfl, Lib.hid (fun z h => by cases h), Lib.hid (World.ownsRow_nil _ _ _ _), below_of hb2 hb3 hb2.size⟩
   · have dm : decide ((65536 : Int) < (m : Int)) = true := by simp; omega
     have r1 : RE = 430 := by rw [← HE.out]; unfold Mir.appE; rw [HEa.out, Hl.out]; simp [hm6]
     have r2 := HN.out _ (by omega) r1
     have R1 := Lib.hid r1
     have R2 := Lib.hid r2
     clear r1 r2
     go_enter Tryz.func86, Tryz.ntmps86
     go_wp2_with (fail)
     refine (HP.out _ HA.out).mono ?_
     rintro e w2 ⟨rfl, hb2⟩
     go_wp2_with (fail)
     go_ret2
     rw [R1.out, R2.out]
     exact ⟨none, 0, [], rfl, Lib.hid rfl, Lib.hid (fun z h => by cases h), Lib.hid (World.ownsRow_nil _ _ _ _), hb2⟩
 · have r1 : RE = E := by rw [← HE.out]; unfold Mir.appE; rw [HEa.out]; simp [hE]
   have r2 := HN.out _ hE r1
   have R1 := Lib.hid r1
   have R2 := Lib.hid r2
   clear r1 r2
   have hE0 : decide (E = 0) = false := by simpa using hE
   go_enter Tryz.func86, Tryz.ntmps86
   go_wp2_with (fail)
   refine (HP.out _ HA.out).mono ?_
   rintro e w2 ⟨rfl, hb2⟩
   go_wp2_with (fail)
   go_ret2
   rw [R1.out, R2.out]
   exact ⟨none, 0, [], rfl, Lib.hid rfl, Lib.hid (fun z h => by cases h), Lib.hid (World.ownsRow_nil _ _ _ _), hb2⟩
end Go.Proofs.YtkflpoiobpblhaaGreat
