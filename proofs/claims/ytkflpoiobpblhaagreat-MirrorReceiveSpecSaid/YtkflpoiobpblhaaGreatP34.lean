/- Walks and plain laws that the statement rests on: MDif. -/
import Derived.Deep.RegionHeld3
import Derived.Test.YtkflpoiobpblhaaGreatP00
import Derived.Test.YtkflpoiobpblhaaGreatP03
import Derived.Test.YtkflpoiobpblhaaGreatP32
import Derived.Test.YtkflpoiobpblhaaGreatPS
namespace Go.Proofs.YtkflpoiobpblhaaGreat
open Go.RowKit
set_option linter.unusedVariables false
set_option linter.unusedSimpArgs false
theorem push_blk {P : Program} {w : World} {ops : Array Oper} {rest : List Oper} {o : Oper} {a : Act} {Q : Exit → Act → World → Prop} (hgd : o.guard = none) (s x : Operand) (t : TypeId)
    (ho : o.op = .call { callee := .builtin .append, args := #[s, x], argTypes := #[t, t] })
    (base : Nat) (e : TypeId) (z : Value) (sz bytes : Nat) (ht : P.underlying t = some (.slice e)) (hi : (P.info? e).map (fun i => (i.zero, i.size, i.bytes)) = some (some z, sz, bytes)) (hzs : z.cells.size = sz) (hsz : 0 < sz)
    (v : Value) (n : Nat) (xs : List Value) (cs : Array Value) (hcs : cs.size = sz) (hown : w.ownsRow base e sz v n xs) (hs : a.eval s = v)
    (hx : a.eval x = .slice (some ⟨w.heap.size, 0, none⟩) 1 1) (h1 : ∀ u ∈ cs.toList, u.oneCell' = true)
    (h63 : n + 1 ≤ maxLen) (hbytes : (n + 1) * bytes ≤ 140737488355328) (hbase : base ≤ w.heap.size)
    (h : ∀ v' w', w'.ownsRow base e sz v' (n + 1) (xs ++ cs.toList) → w.grownBy w' v.ownBlock → Sits v v' w → wpList P ops Q rest (a.put o.dst v') w') : wpList P ops Q (o :: rest) a (w.alloc (.cells cs e)) := by
 have hr : Cells (w.alloc (.cells cs e)) (some ⟨w.heap.size, 0, none⟩) cs.toList := cells_blk (Blk.new w e cs)
 obtain ⟨v', w', hrun, h3, h4, h5⟩ := run_append_cells (P := P) (w.alloc (.cells cs e)) base t o.type e z sz bytes ht hi hzs hsz v n xs (hown.alloc _) (some ⟨w.heap.size, 0, none⟩) 1 1 cs.toList (by simpa using hcs) hr h1 h63 hbytes (by simp; omega)
 exact wpList_plain hgd fun _ hK => wp_append_of ho hs hx hrun (hK _ _ (h v' w' h3 (grown_alloc_left h4) (h5.imp id fun ⟨g, hg, hl⟩ => ⟨g, hg, by simp at hl; omega⟩)))
namespace Mir
def diffR (a b : List It) : List Ch := if (if itE a ≠ 0 then itE a else itE b) = 0 then diffS a b else []
def diffE (a b : List It) : Int := if itE a ≠ 0 then itE a else itE b
theorem itV_nil (hs : List (Option Addr × Nat)) : itV hs [] = [] := by cases hs <;> rfl
theorem itV_drop : ∀ (hs : List (Option Addr × Nat)) (l : List It), hs.length = l.length → itV hs.tail l.tail = (itV hs l).drop 2
 | [], [], _ => rfl
 | h :: hs, x :: l, _ => rfl
 | [], _ :: _, e => by simp at e
 | _ :: _, [], e => by simp at e
theorem chV_append : ∀ (hs : List (Option Addr × Nat)) (l : List Ch) (h : Option Addr × Nat) (x : Ch), hs.length = l.length → chV (hs ++ [h]) (l ++ [x]) = chV hs l ++ [.string x.1.1, .slice h.1 x.1.2.length h.2, .bool x.2]
 | [], [], _, _, _ => rfl
 | g :: hs, y :: l, h, x, e => by
   simp only [List.cons_append, chV]
   rw [chV_append hs l h x (by simpa using e)]
 | [], _ :: _, _, _, e => by simp at e
 | _ :: _, [], _, _, e => by simp at e
end Mir
theorem ItemsC.tail_ {w : World} {b off c : Nat} {x : Mir.It} {l : List Mir.It} (h : ItemsC w (some ⟨b, off, none⟩) (x :: l)) (hc : l.length + 1 ≤ c) : ItemsC w (if c = 1 then some ⟨b, off, none⟩ else some ⟨b, off + 2, none⟩) l := by
 obtain ⟨hs, h1, h2, h3⟩ := h
 have e := Mir.itV_drop hs (x :: l) h1
 refine ⟨hs.tail, by rw [List.length_tail, h1]; simp, ?_, fun k y z e1 e2 => h3 (k + 1) y z ?_ (by simpa using e2)⟩
 · rw [List.tail_cons] at e
   rw [e]
   by_cases h0 : l = []
   · subst h0
     rw [← e, Mir.itV_nil]
     exact Cells.nil_ _ _
   · have : 0 < l.length := List.length_pos_iff.2 h0
     rw [if_neg (by omega)]
     exact h2.drop_ 2
 · cases hs with
   | nil => simp at h1
   | cons g hs => simpa using e1
def ChDat (w : World) (hs : List (Option Addr × Nat)) (l : List Mir.Ch) : Prop :=
 hs.length = l.length ∧ ∀ (k : Nat) (h : Option Addr × Nat) (x : Mir.Ch), hs[k]? = some h → l[k]? = some x → x.1.2.length ≤ h.2 ∧ h.2 ≤ maxLen ∧ Cells w h.1 (Mir.bytesI x.1.2) ∧ ∀ b ∈ x.1.2, b < 256
theorem ChDat.nil_ (w : World) : ChDat w [] [] := ⟨rfl, fun k h x e _ => by simp at e⟩
theorem ChDat.snoc {w : World} {hs : List (Option Addr × Nat)} {l : List Mir.Ch} (h : ChDat w hs l) (g : Option Addr × Nat) (y : Mir.Ch) (h1 : y.1.2.length ≤ g.2) (h2 : g.2 ≤ maxLen) (h3 : Cells w g.1 (Mir.bytesI y.1.2)) (h4 : ∀ b ∈ y.1.2, b < 256) : ChDat w (hs ++ [g]) (l ++ [y]) := by
 refine ⟨by rw [List.length_append, List.length_append, h.1]; rfl, fun k h' x e1 e2 => ?_⟩
 rcases Nat.lt_trichotomy k l.length with hk | hk | hk
 · rw [List.getElem?_append_left (by rw [h.1]; exact hk)] at e1
   rw [List.getElem?_append_left hk] at e2
   exact h.2 k h' x e1 e2
 · subst hk
   rw [List.getElem?_append_right (by rw [h.1]; exact Nat.le_refl _), h.1] at e1
   rw [List.getElem?_append_right (Nat.le_refl _)] at e2
   simp at e1 e2
   subst e1; subst e2
   exact ⟨h1, h2, h3, h4⟩
 · rw [List.getElem?_eq_none (by simp; omega)] at e2; cases e2
theorem ChDat.changes {w w' : World} {hs : List (Option Addr × Nat)} {l : List Mir.Ch} {A : Option Addr} (h : ChDat w hs l) (hb : Below w.heap.size w w') (hc : Cells w' A (Mir.chV hs l)) : ChangesC w' A l :=
 ⟨hs, h.1, hc, fun k g x e1 e2 => ⟨(h.2 k g x e1 e2).1, (h.2 k g x e1 e2).2.1, (h.2 k g x e1 e2).2.2.1.below hb, (h.2 k g x e1 e2).2.2.2⟩⟩
set_option maxRecDepth 100000 in
set_option maxHeartbeats 8000000 in
theorem diff_any2 (wb : World) (A B : Option Addr) (n m c d : Nat) (a b : List Mir.It) (w : World) (hbw : Below wb.heap.size wb w) (ha : a.length = n) (hb : b.length = m) (hn : n ≤ 1000000) (hm : m ≤ 1000000) (hA : ItemsC wb A a) (hB : ItemsC wb B b) (hnc : n ≤ c) (hmd : m ≤ d) (hcm : c ≤ maxLen) (hdm : d ≤ maxLen) :
    Calls Tryz.prog 26 #[.slice A n c, .slice B m d] w fun e w' => ∃ A' c' hs, e = .returned (.tuple #[.slice A' (Mir.diffR a b).length c', .int .i64 (Mir.diffE a b)]) ∧ (Mir.diffR a b).length ≤ c' ∧ c' ≤ maxLen ∧ ChDat wb hs (Mir.diffR a b) ∧ w'.ownsRow (w.heap.size + 1) 66 3 (.slice A' (Mir.diffR a b).length c') (Mir.diffR a b).length (Mir.chV hs (Mir.diffR a b)) ∧ Below w.heap.size w w' := by
 have Hbw := Lib.hid hbw
 have HA := Lib.hid hA
 have HB := Lib.hid hB
 clear hbw
 have Ha := Lib.hid ha
 have Hb := Lib.hid hb
 have HPa := Lib.hid (fun W h => pcheck_any A n c a W ha hn h)
 have HPb := Lib.hid (fun W h => pcheck_any B m d b W hb hm h)
 obtain ⟨Ea, hEa⟩ : ∃ E, Mir.itE a = E := ⟨_, rfl⟩
 obtain ⟨Eb, hEb⟩ : ∃ E, Mir.itE b = E := ⟨_, rfl⟩
 have eR : Mir.diffR a b = if (if Ea ≠ 0 then Ea else Eb) = 0 then Mir.diffS a b else [] := by unfold Mir.diffR; rw [hEa, hEb]
 have eE : Mir.diffE a b = if Ea ≠ 0 then Ea else Eb := by unfold Mir.diffE; rw [hEa, hEb]
 obtain ⟨RL, hRL⟩ : ∃ R, Mir.diffR a b = R := ⟨_, rfl⟩
 obtain ⟨RE, hRE⟩ : ∃ R, Mir.diffE a b = R := ⟨_, rfl⟩
 rw [hRL] at eR
 rw [hRE] at eE
 rw [hRL, hRE]
 rw [hEa] at HPa
 rw [hEb] at HPb
 have HEa := Lib.hid hEa
 have HEb := Lib.hid hEb
 obtain ⟨DS, hDS⟩ : ∃ D, Mir.diffS a b = D := ⟨_, rfl⟩
 rw [hDS] at eR
 have HDS := Lib.hid hDS
 have HR := Lib.hid eR
 have HE := Lib.hid eE
 clear hA hB ha hb eR eE hEa hEb hDS hRL hRE
 go_enter Tryz.func26, Tryz.ntmps26
 go_wp2_with (fail)
 generalize hge : World.alloc _ _ = w1
 have hL0 := (show Blk w1 w.heap.size 26 #[.slice A n c, .slice B m d] by subst hge; exact Blk.new w _ _)
 have hB0 := (show Below w.heap.size w w1 by subst hge; exact (Below.refl _ _).alloc (Nat.le_refl _) _)
 have HL := Lib.hid hL0
 have HW := Lib.hid hB0
 clear hge hL0 hB0
 go_loopw [4, 13] (fun s i W => s = .slice none 0 0 ∧ ∃ k : Nat, k ≤ 2 ∧ i = .int .i64 k ∧ Hid (1 ≤ k → Ea = 0) ∧ Hid (2 ≤ k → Eb = 0) ∧ Hid (Blk W w.heap.size 26 #[.slice A n c, .slice B m d]) ∧ Hid (Below w.heap.size w W)) (fun _ i _ => 2 - (intOf i).toNat)
 case atStart => exact ⟨rfl, 0, by omega, rfl, Lib.hid (fun h => by omega), Lib.hid (fun h => by omega), HL.out, HW.out⟩
 case round =>
  obtain ⟨wk, rfl⟩ : ∃ wk : World, wk = wr := ⟨_, rfl⟩
  obtain ⟨rfl, k, hk2, rfl, g1, g2, hLk, hWk⟩ := hrel
  have x0 : wk.cell? ⟨w.heap.size, 0, none⟩ = some (.slice A n c) := hLk.out.cell 0
  have x1 : wk.cell? ⟨w.heap.size, 1, none⟩ = some (.slice B m d) := hLk.out.cell 1
  obtain rfl | rfl | rfl : k = 0 ∨ k = 1 ∨ k = 2 := by omega
  · go_wp2_with (fail)
    refine (HPa.out _ (HA.out.below (below_of Hbw.out hWk.out Hbw.out.size))).mono ?_
    rintro e w2 ⟨rfl, hb2⟩
    by_cases hE : Ea = 0
    · subst hE
      go_wp2_with (fail)
      go_roundw
      case rel => exact ⟨rfl, 1, by omega, rfl, Lib.hid (by simp), Lib.hid (fun h => by omega), hLk.out.below hb2, below_of hWk.out hb2 hWk.out.size⟩
      case measure => simp [intOf]
    · have hE0 : decide (Ea = 0) = false := by simpa using hE
      go_wp2_with (fail)
      go_ret2
      have r1 : RE = Ea := by rw [HE.out, if_pos hE]
      have r2 : RL = [] := by rw [HR.out, if_pos hE, if_neg hE]
      rw [r1, r2]
      exact ⟨none, 0, [], rfl, Nat.le_refl _, by unfold maxLen; omega, ChDat.nil_ _, World.ownsRow_nil _ _ _ _, below_of hWk.out hb2 hWk.out.size⟩
  · have e0 : Ea = 0 := g1.out (by omega)
    subst e0
    go_wp2_with (fail)
    refine (HPb.out _ (HB.out.below (below_of Hbw.out hWk.out Hbw.out.size))).mono ?_
    rintro e w2 ⟨rfl, hb2⟩
    by_cases hE : Eb = 0
    · subst hE
      go_wp2_with (fail)
      go_roundw
      case rel => exact ⟨rfl, 2, by omega, rfl, Lib.hid (by simp), Lib.hid (by simp), hLk.out.below hb2, below_of hWk.out hb2 hWk.out.size⟩
      case measure => simp [intOf]
    · have hE0 : decide (Eb = 0) = false := by simpa using hE
      go_wp2_with (fail)
      go_ret2
      have r1 : RE = Eb := by rw [HE.out]; simp
      have r2 : RL = [] := by rw [HR.out]; simp [hE]
      rw [r1, r2]
      exact ⟨none, 0, [], rfl, Nat.le_refl _, by unfold maxLen; omega, ChDat.nil_ _, World.ownsRow_nil _ _ _ _, below_of hWk.out hb2 hWk.out.size⟩
  · obtain rfl : Ea = 0 := g1.out (by omega)
    obtain rfl : Eb = 0 := g2.out (by omega)
    have r1 : RE = 0 := by rw [HE.out]; simp
    have r2 : RL = DS := by rw [HR.out]; simp
    have R1 := Lib.hid r1
    have R2 := Lib.hid r2
    clear r1 r2 HE HR x0 x1 HL HW HPa HPb
    have hz1 : w.heap.size + 1 ≤ wk.heap.size := hLk.out.lt
    clear hLk
    go_wp2_with (fail)
    go_loopw [0, 1, 4] (fun u v s wr => ∃ (x y : List Mir.It) (out : List Mir.Ch) (hs : List (Option Addr × Nat)) (A' B' D : Option Addr) (kx ky ko p q e : Nat), u = .slice A' kx p ∧ v = .slice B' ky q ∧ s = .slice D ko e ∧ Hid (x.length = kx) ∧ Hid (y.length = ky) ∧ Hid (out.length = ko) ∧ Hid (ItemsC wb A' x) ∧ Hid (ItemsC wb B' y) ∧ Hid (out ++ Mir.diffS x y = DS) ∧ Hid (ChDat wb hs out) ∧ Hid (wr.ownsRow (w.heap.size + 1) 66 3 (.slice D ko e) ko (Mir.chV hs out)) ∧ kx ≤ p ∧ ky ≤ q ∧ p ≤ maxLen ∧ q ≤ maxLen ∧ kx + ky + ko ≤ 2000000 ∧ w.heap.size + 1 ≤ wr.heap.size ∧ Hid (Below w.heap.size w wr)) (fun u v _ _ => lenV u + lenV v)
    case atStart => exact ⟨a, b, [], [], A, B, none, n, m, 0, c, d, 0, rfl, rfl, rfl, Ha, Hb, Lib.hid rfl, HA, HB, Lib.hid HDS.out, Lib.hid (ChDat.nil_ wb), Lib.hid (World.ownsRow_nil _ _ _ _), hnc, hmd, hcm, hdm, by omega, hz1, hWk⟩
    case round =>
     obtain ⟨wq, rfl⟩ : ∃ v : World, v = wr := ⟨_, rfl⟩
     clear hWk hz1
     obtain ⟨x, y, out, hs, A', B', D, kx, ky, ko, p, q, ee, rfl, rfl, rfl, lx, ly, lo, cx, cy, hd, hdat, hown, hp, hq, hpm, hqm, hsum, hz, hB⟩ := hrel
     clear HA HB HDS Ha Hb
     have hWb := Lib.hid (below_of Hbw.out hB.out Hbw.out.size)
     rcases x with _ | ⟨⟨sx, dx⟩, x⟩
     · have kx0 : kx = 0 := by have := lx.out; simp at this; omega
       rcases y with _ | ⟨⟨sy, dy⟩, y⟩
       · have ky0 : ky = 0 := by have := ly.out; simp at this; omega
         subst kx0
         subst ky0
         go_wp2_with (fail)
         go_ret2
         have e1 : RL = out := by rw [R2.out, ← hd.out, Mir.diffS_nil, List.append_nil]
         obtain ⟨A2, c2, hv, hk1, hk2, -⟩ := own_form hown.out
         cases hv
         have e2 := lo.out
         subst e2
         rw [e1, R1.out]
         exact ⟨D, ee, hs, rfl, hk1, hk2, hdat.out, hown.out, hB.out⟩
       · subst kx0
         have ly0 : 0 < ky := by have := ly.out; simp at this; omega
         have zy : ((ky : Int) == 0) = false := by simp; omega
         obtain ⟨by_, oy, rfl, hby, hcy⟩ := cy.out.at_ (by simp)
         obtain ⟨Dy, ey, cy1, cy2, hdy, hdmy, hdcy, hd8y⟩ := hcy 0 _ rfl
         rw [Nat.zero_mul, Nat.add_zero] at cy1 cy2
         have ay1 : wq.cell? ⟨by_, oy, none⟩ = some (.string sy) := cellkM hWb.out cy1
         have ay2 : wq.cell? ⟨by_, oy + 1, none⟩ = some (.slice Dy dy.length ey) := cellkM hWb.out cy2
         have Hdcy := Lib.hid hdcy
         have Hd8y := Lib.hid hd8y
         have lty : by_ < wq.heap.size := Nat.lt_of_lt_of_le hby hWb.out.size
         clear hcy cy1 cy2 hdcy hd8y
         go_upto_region 12 with (fail)
         refine wp_region_held_drew (S := fun W => Below wq.heap.size wq W) (by kernel_rfl) (below_drewN (Below.refl _ _) 1) (fun Hd => ?_)
         have Hd : Below wq.heap.size wq wq.drew := below_drewN (Below.refl _ _) 1
         have Zd : wq.heap.size ≤ wq.drew.heap.size := Nat.le_refl _
         generalize World.drew wq = wd at *
         refine tq 0 rfl Hd ?_
         refine tq 1 rfl Hd ?_
         try simp only [la, Act.put]
         refine tq 2 rfl Hd ?_
         refine tq 3 rfl Hd ?_
         try simp only [la, Act.put]
         refine tq 4 rfl Hd ?_
         refine tq 5 rfl Hd ?_
         try simp only [la, Act.put]
         refine tq 6 rfl Hd ?_
         refine tq 7 rfl Hd ?_
         try simp only [la, Act.put]
         refine tn 8 rfl Hd ?_
         refine tn 9 rfl Hd ?_
         try simp only [la, Act.put]
         refine tn 10 rfl Hd ?_
         refine tn 11 rfl Hd ?_
         try simp only [la, Act.put]
         refine tn 12 rfl Hd ?_
         refine tn 13 rfl Hd ?_
         try simp only [la, Act.put]
         refine tn 14 rfl Hd ?_
         refine tn 15 rfl Hd ?_
         try simp only [la, Act.put]
         refine tn 16 rfl Hd ?_
         refine tq 17 rfl Hd ?_
         try simp only [la, Act.put]
         refine tq 18 rfl Hd ?_
         refine tq 19 rfl Hd ?_
         try simp only [la, Act.put]
         refine td ?_ _
         have HY := Hd
         obtain ⟨wqA, rfl⟩ : ∃ v : World, v = wd := ⟨_, rfl⟩
         have hBA := Lib.hid (below_of hB.out HY hB.out.size)
         have hownA := Lib.hid (own_below hown.out HY)
         have hzA : w.heap.size + 1 ≤ wqA.heap.size := Nat.le_trans hz HY.size
         have ay1A := cellkM HY ay1
         have ay2A := cellkM HY ay2
         have ltyA := Nat.lt_of_lt_of_le lty HY.size
         clear HY hB hown hz ay1 ay2 lty
         go_upto_region 15 with (fail)
         refine wp_region_held_drew (S := fun W => Below wqA.heap.size wqA W) (by kernel_rfl) (below_drewN (Below.refl _ _) 1) (fun Hd => ?_)
         have Hd : Below wqA.heap.size wqA wqA.drew := below_drewN (Below.refl _ _) 1
         have Zd : wqA.heap.size ≤ wqA.drew.heap.size := Nat.le_refl _
         generalize World.drew wqA = wd at *
         refine tq 0 rfl Hd ?_
         refine tq 1 rfl Hd ?_
         try simp only [la, Act.put]
         refine tq 2 rfl Hd ?_
         refine tq 3 rfl Hd ?_
         try simp only [la, Act.put]
         refine tn 4 rfl Hd ?_
         refine tn 5 rfl Hd ?_
         try simp only [la, Act.put]
         refine tn 6 rfl Hd ?_
         refine tn 7 rfl Hd ?_
         try simp only [la, Act.put]
         refine tn 8 rfl Hd ?_
         refine tn 9 rfl Hd ?_
         try simp only [la, Act.put]
         refine tn 10 rfl Hd ?_
         refine tn 11 rfl Hd ?_
         try simp only [la, Act.put]
         refine tn 12 rfl Hd ?_
         refine tq 13 rfl Hd ?_
         try simp only [la, Act.put]
         refine tq 14 rfl Hd ?_
         try simp only [la, Act.put]
         refine td ?_ _
         have HY := Hd
         obtain ⟨wqB, rfl⟩ : ∃ v : World, v = wd := ⟨_, rfl⟩
         have hBB := Lib.hid (below_of hBA.out HY hBA.out.size)
         have hownB := Lib.hid (own_below hownA.out HY)
         have hzB : w.heap.size + 1 ≤ wqB.heap.size := Nat.le_trans hzA HY.size
         have ay1B := cellkM HY ay1A
         have ay2B := cellkM HY ay2A
         have ltyB := Nat.lt_of_lt_of_le ltyA HY.size
         clear HY hBA hownA hzA ay1A ay2A ltyA
         go_wp2_with (first
          | (at_builtin
             refine push_blk rfl (.tmp 96) (.tmp 101) 27 rfl (w.heap.size + 1) 66 (.agg #[.string ⟨#[]⟩, .slice none 0 0, .bool false]) 3 48 (by kernel_rfl) (by kernel_rfl) rfl (by omega) (.slice D ko ee) ko (Mir.chV hs out) #[.string sy, .slice Dy dy.length ey, .bool false] rfl hownB.out rfl rfl (by simp [Value.oneCell']) (by unfold maxLen; omega) (by omega) hzB ?_
             intro v4 w4 hown4 hg4 _
             obtain ⟨A4, c4, rfl, -, -, -⟩ := own_form hown4
             have Hown4 := Lib.hid hown4
             have HB4 := Lib.hid (below_grown hBB.out hg4 hBB.out.size (fun k hk => Nat.le_trans (Nat.le_succ _) (own_base hownB.out k hk)))
             have hz4 : w.heap.size + 1 ≤ w4.heap.size := Nat.le_trans hzB hg4.size
             clear hown4 hg4))
         go_roundw
         case rel => exact ⟨[], y, out ++ [((sy, dy), false)], hs ++ [(Dy, ey)], A', _, A4, 0, ky - 1, ko + 1, p, q - 1, c4, rfl, rfl, rfl, lx, Lib.hid (by have h1 := ly.out; simp at h1; omega), Lib.hid (by rw [List.length_append, lo.out]; rfl), cx, Lib.hid (cy.out.tail_ (c := q) (by have h1 := ly.out; simp at h1; omega)), Lib.hid (by rw [← hd.out, Mir.diffS_right, List.append_assoc]; rfl), Lib.hid (hdat.out.snoc (Dy, ey) ((sy, dy), false) hdy hdmy Hdcy.out Hd8y.out), Lib.hid (by rw [Mir.chV_append _ _ _ _ hdat.out.1]; exact Hown4.out), by omega, by omega, by omega, by omega, by omega, hz4, HB4⟩
         case measure => simp only [lenV]; omega
     · have lx0 : 0 < kx := by have := lx.out; simp at this; omega
       have zx : ((kx : Int) == 0) = false := by simp; omega
       obtain ⟨bx, ox, rfl, hbx, hcx⟩ := cx.out.at_ (by simp)
       obtain ⟨Dx, ex, cx1, cx2, hdx, hdmx, hdcx, hd8x⟩ := hcx 0 _ rfl
       rw [Nat.zero_mul, Nat.add_zero] at cx1 cx2
       have ax1 : wq.cell? ⟨bx, ox, none⟩ = some (.string sx) := cellkM hWb.out cx1
       have ax2 : wq.cell? ⟨bx, ox + 1, none⟩ = some (.slice Dx dx.length ex) := cellkM hWb.out cx2
       have Hdcx := Lib.hid hdcx
       have Hd8x := Lib.hid hd8x
       have ltx : bx < wq.heap.size := Nat.lt_of_lt_of_le hbx hWb.out.size
       clear hcx cx1 cx2 hdcx hd8x
       rcases y with _ | ⟨⟨sy, dy⟩, y⟩
       · have ky0 : ky = 0 := by have := ly.out; simp at this; omega
         subst ky0
         go_upto_region 12 with (fail)
         refine wp_region_held_drew (S := fun W => Below wq.heap.size wq W) (by kernel_rfl) (below_drewN (Below.refl _ _) 1) (fun Hd => ?_)
         have Hd : Below wq.heap.size wq wq.drew := below_drewN (Below.refl _ _) 1
         have Zd : wq.heap.size ≤ wq.drew.heap.size := Nat.le_refl _
         generalize World.drew wq = wd at *
         refine tq 0 rfl Hd ?_
         try simp only [la, Act.put]
         refine tq 1 rfl Hd ?_
         refine tq 2 rfl Hd ?_
         try simp only [la, Act.put]
         refine tq 3 rfl Hd ?_
         refine tn 4 rfl Hd ?_
         try simp only [la, Act.put]
         refine tn 5 rfl Hd ?_
         refine tn 6 rfl Hd ?_
         try simp only [la, Act.put]
         refine tn 7 rfl Hd ?_
         refine tn 8 rfl Hd ?_
         try simp only [la, Act.put]
         refine tn 9 rfl Hd ?_
         refine tn 10 rfl Hd ?_
         try simp only [la, Act.put]
         refine tn 11 rfl Hd ?_
         refine tn 12 rfl Hd ?_
         try simp only [la, Act.put]
         refine tn 13 rfl Hd ?_
         refine tn 14 rfl Hd ?_
         try simp only [la, Act.put]
         refine tn 15 rfl Hd ?_
         refine tn 16 rfl Hd ?_
         try simp only [la, Act.put]
         refine tn 17 rfl Hd ?_
         refine tq 18 rfl Hd ?_
         try simp only [la, Act.put]
         refine tq 19 rfl Hd ?_
         try simp only [la, Act.put]
         refine td ?_ _
         have HY := Hd
         obtain ⟨wqA, rfl⟩ : ∃ v : World, v = wd := ⟨_, rfl⟩
         have hBA := Lib.hid (below_of hB.out HY hB.out.size)
         have hownA := Lib.hid (own_below hown.out HY)
         have hzA : w.heap.size + 1 ≤ wqA.heap.size := Nat.le_trans hz HY.size
         have ax1A := cellkM HY ax1
         have ax2A := cellkM HY ax2
         have ltxA := Nat.lt_of_lt_of_le ltx HY.size
         clear HY hB hown hz ax1 ax2 ltx
         go_wp2_with (first
          | (at_builtin
             refine push_blk rfl (.tmp 70) (.tmp 77) 27 rfl (w.heap.size + 1) 66 (.agg #[.string ⟨#[]⟩, .slice none 0 0, .bool false]) 3 48 (by kernel_rfl) (by kernel_rfl) rfl (by omega) (.slice D ko ee) ko (Mir.chV hs out) #[.string sx, .slice none 0 0, .bool true] rfl hownA.out rfl rfl (by simp [Value.oneCell']) (by unfold maxLen; omega) (by omega) hzA ?_
             intro v4 w4 hown4 hg4 _
             obtain ⟨A4, c4, rfl, -, -, -⟩ := own_form hown4
             have Hown4 := Lib.hid hown4
             have HB4 := Lib.hid (below_grown hBA.out hg4 hBA.out.size (fun k hk => Nat.le_trans (Nat.le_succ _) (own_base hownA.out k hk)))
             have hz4 : w.heap.size + 1 ≤ w4.heap.size := Nat.le_trans hzA hg4.size
             clear hown4 hg4))
         go_roundw
         case rel => exact ⟨x, [], out ++ [((sx, []), true)], hs ++ [(none, 0)], _, B', A4, kx - 1, 0, ko + 1, p - 1, q, c4, rfl, rfl, rfl, Lib.hid (by have h1 := lx.out; simp at h1; omega), ly, Lib.hid (by rw [List.length_append, lo.out]; rfl), Lib.hid (cx.out.tail_ (c := p) (by have h1 := lx.out; simp at h1; omega)), cy, Lib.hid (by rw [← hd.out, Mir.diffS_left, List.append_assoc]; rfl), Lib.hid (hdat.out.snoc (none, 0) ((sx, []), true) (by simp) (by unfold maxLen; omega) (Cells.nil_ _ _) (by simp)), Lib.hid (by rw [Mir.chV_append _ _ _ _ hdat.out.1]; exact Hown4.out), by omega, by omega, by omega, by omega, by omega, hz4, HB4⟩
         case measure => simp only [lenV]; omega
       · have ly0 : 0 < ky := by have := ly.out; simp at this; omega
         have zy : ((ky : Int) == 0) = false := by simp; omega
         obtain ⟨by_, oy, rfl, hby, hcy⟩ := cy.out.at_ (by simp)
         obtain ⟨Dy, ey, cy1, cy2, hdy, hdmy, hdcy, hd8y⟩ := hcy 0 _ rfl
         rw [Nat.zero_mul, Nat.add_zero] at cy1 cy2
         have ay1 : wq.cell? ⟨by_, oy, none⟩ = some (.string sy) := cellkM hWb.out cy1
         have ay2 : wq.cell? ⟨by_, oy + 1, none⟩ = some (.slice Dy dy.length ey) := cellkM hWb.out cy2
         have Hdcy := Lib.hid hdcy
         have Hd8y := Lib.hid hd8y
         have lty : by_ < wq.heap.size := Nat.lt_of_lt_of_le hby hWb.out.size
         clear hcy cy1 cy2 hdcy hd8y
         cases lt1 : Mir.nlt sx sy with
         | true =>
           have g1 : Op.bytesLess sx.toList sy.toList = true := lt1
           have L1 := Lib.hid lt1
           clear lt1
           go_upto_region 12 with (fail)
           refine wp_region_held_drew (S := fun W => Below wq.heap.size wq W) (by kernel_rfl) (below_drewN (Below.refl _ _) 1) (fun Hd => ?_)
           have Hd : Below wq.heap.size wq wq.drew := below_drewN (Below.refl _ _) 1
           have Zd : wq.heap.size ≤ wq.drew.heap.size := Nat.le_refl _
           generalize World.drew wq = wd at *
           refine tq 0 rfl Hd ?_
           try simp only [la, Act.put]
           refine tq 1 rfl Hd ?_
           refine tq 2 rfl Hd ?_
           try simp only [la, Act.put]
           refine tq 3 rfl Hd ?_
           refine tq 4 rfl Hd ?_
           try simp only [la, Act.put]
           refine tq 5 rfl Hd ?_
           refine tq 6 rfl Hd ?_
           try simp only [la, Act.put]
           refine tq 7 rfl Hd ?_
           refine tq 8 rfl Hd ?_
           try simp only [la, Act.put]
           refine tq 9 rfl Hd ?_
           refine tq 10 rfl Hd ?_
           try simp only [la, Act.put]
           refine ts 11 rfl Hd (fun wS hSw => by
            have cc := (hSw.cell (p := ⟨bx, ox, none⟩) ltx).trans ax1
            go_simp
            try with_reducible rfl) ?_
           refine tq 12 rfl Hd ?_
           try simp only [la, Act.put]
           refine tq 13 rfl Hd ?_
           refine tq 14 rfl Hd ?_
           try simp only [la, Act.put]
           refine ts 15 rfl Hd (fun wS hSw => by
            have cc := (hSw.cell (p := ⟨by_, oy, none⟩) lty).trans ay1
            go_simp
            try with_reducible rfl) ?_
           refine tq 16 rfl Hd ?_
           try simp only [la, Act.put]
           refine tq 17 rfl Hd ?_
           refine tq 18 rfl Hd ?_
           try simp only [la, Act.put]
           refine tq 19 rfl Hd ?_
           try simp only [la, Act.put]
           refine td ?_ _
           have HY := Hd
           obtain ⟨wqA, rfl⟩ : ∃ v : World, v = wd := ⟨_, rfl⟩
           have hBA := Lib.hid (below_of hB.out HY hB.out.size)
           have hownA := Lib.hid (own_below hown.out HY)
           have hzA : w.heap.size + 1 ≤ wqA.heap.size := Nat.le_trans hz HY.size
           have ax1A := cellkM HY ax1
           have ax2A := cellkM HY ax2
           have ltxA := Nat.lt_of_lt_of_le ltx HY.size
           have ay1A := cellkM HY ay1
           have ay2A := cellkM HY ay2
           have ltyA := Nat.lt_of_lt_of_le lty HY.size
           clear HY hB hown hz ax1 ax2 ltx ay1 ay2 lty
           go_wp2_with (first
            | (at_builtin
               refine push_blk rfl (.tmp 70) (.tmp 77) 27 rfl (w.heap.size + 1) 66 (.agg #[.string ⟨#[]⟩, .slice none 0 0, .bool false]) 3 48 (by kernel_rfl) (by kernel_rfl) rfl (by omega) (.slice D ko ee) ko (Mir.chV hs out) #[.string sx, .slice none 0 0, .bool true] rfl hownA.out rfl rfl (by simp [Value.oneCell']) (by unfold maxLen; omega) (by omega) hzA ?_
               intro v4 w4 hown4 hg4 _
               obtain ⟨A4, c4, rfl, -, -, -⟩ := own_form hown4
               have Hown4 := Lib.hid hown4
               have HB4 := Lib.hid (below_grown hBA.out hg4 hBA.out.size (fun k hk => Nat.le_trans (Nat.le_succ _) (own_base hownA.out k hk)))
               have hz4 : w.heap.size + 1 ≤ w4.heap.size := Nat.le_trans hzA hg4.size
               clear hown4 hg4))
           go_roundw
           case rel => exact ⟨x, ((sy, dy) :: y), out ++ [((sx, []), true)], hs ++ [(none, 0)], _, _, A4, kx - 1, ky, ko + 1, p - 1, q, c4, rfl, rfl, rfl, Lib.hid (by have h1 := lx.out; simp at h1; omega), ly, Lib.hid (by rw [List.length_append, lo.out]; rfl), Lib.hid (cx.out.tail_ (c := p) (by have h1 := lx.out; simp at h1; omega)), cy, Lib.hid (by rw [← hd.out, Mir.diffS_both, if_pos L1.out, List.append_assoc]; rfl), Lib.hid (hdat.out.snoc (none, 0) ((sx, []), true) (by simp) (by unfold maxLen; omega) (Cells.nil_ _ _) (by simp)), Lib.hid (by rw [Mir.chV_append _ _ _ _ hdat.out.1]; exact Hown4.out), by omega, by omega, by omega, by omega, by omega, hz4, HB4⟩
           case measure => simp only [lenV]; omega
         | false =>
           cases lt2 : Mir.nlt sy sx with
           | true =>
             have g1 : Op.bytesLess sx.toList sy.toList = false := lt1
             have L1 := Lib.hid lt1
             have g2 : Op.bytesLess sy.toList sx.toList = true := lt2
             have L2 := Lib.hid lt2
             clear lt1 lt2
             go_upto_region 12 with (fail)
             refine wp_region_held_drew (S := fun W => Below wq.heap.size wq W) (by kernel_rfl) (below_drewN (Below.refl _ _) 1) (fun Hd => ?_)
             have Hd : Below wq.heap.size wq wq.drew := below_drewN (Below.refl _ _) 1
             have Zd : wq.heap.size ≤ wq.drew.heap.size := Nat.le_refl _
             generalize World.drew wq = wd at *
             refine tq 0 rfl Hd ?_
             try simp only [la, Act.put]
             refine tq 1 rfl Hd ?_
             refine tq 2 rfl Hd ?_
             try simp only [la, Act.put]
             refine tq 3 rfl Hd ?_
             refine tq 4 rfl Hd ?_
             try simp only [la, Act.put]
             refine tq 5 rfl Hd ?_
             refine tq 6 rfl Hd ?_
             try simp only [la, Act.put]
             refine tq 7 rfl Hd ?_
             refine tq 8 rfl Hd ?_
             try simp only [la, Act.put]
             refine tq 9 rfl Hd ?_
             refine tq 10 rfl Hd ?_
             try simp only [la, Act.put]
             refine ts 11 rfl Hd (fun wS hSw => by
              have cc := (hSw.cell (p := ⟨bx, ox, none⟩) ltx).trans ax1
              go_simp
              try with_reducible rfl) ?_
             refine tq 12 rfl Hd ?_
             try simp only [la, Act.put]
             refine tq 13 rfl Hd ?_
             refine tq 14 rfl Hd ?_
             try simp only [la, Act.put]
             refine ts 15 rfl Hd (fun wS hSw => by
              have cc := (hSw.cell (p := ⟨by_, oy, none⟩) lty).trans ay1
              go_simp
              try with_reducible rfl) ?_
             refine tq 16 rfl Hd ?_
             try simp only [la, Act.put]
             refine tq 17 rfl Hd ?_
             refine tq 18 rfl Hd ?_
             try simp only [la, Act.put]
             refine tq 19 rfl Hd ?_
             try simp only [la, Act.put]
             refine td ?_ _
             have HY := Hd
             obtain ⟨wqA, rfl⟩ : ∃ v : World, v = wd := ⟨_, rfl⟩
             have hBA := Lib.hid (below_of hB.out HY hB.out.size)
             have hownA := Lib.hid (own_below hown.out HY)
             have hzA : w.heap.size + 1 ≤ wqA.heap.size := Nat.le_trans hz HY.size
             have ax1A := cellkM HY ax1
             have ax2A := cellkM HY ax2
             have ltxA := Nat.lt_of_lt_of_le ltx HY.size
             have ay1A := cellkM HY ay1
             have ay2A := cellkM HY ay2
             have ltyA := Nat.lt_of_lt_of_le lty HY.size
             clear HY hB hown hz ax1 ax2 ltx ay1 ay2 lty
             go_upto_region 15 with (fail)
             refine wp_region_held_drew (S := fun W => Below wqA.heap.size wqA W) (by kernel_rfl) (below_drewN (Below.refl _ _) 1) (fun Hd => ?_)
             have Hd : Below wqA.heap.size wqA wqA.drew := below_drewN (Below.refl _ _) 1
             have Zd : wqA.heap.size ≤ wqA.drew.heap.size := Nat.le_refl _
             generalize World.drew wqA = wd at *
             refine tq 0 rfl Hd ?_
             try simp only [la, Act.put]
             refine tq 1 rfl Hd ?_
             refine tq 2 rfl Hd ?_
             try simp only [la, Act.put]
             refine tq 3 rfl Hd ?_
             refine tq 4 rfl Hd ?_
             try simp only [la, Act.put]
             refine tq 5 rfl Hd ?_
             refine tq 6 rfl Hd ?_
             try simp only [la, Act.put]
             refine ts 7 rfl Hd (fun wS hSw => by
              have cc := (hSw.cell (p := ⟨by_, oy, none⟩) ltyA).trans ay1A
              go_simp
              try with_reducible rfl) ?_
             refine tq 8 rfl Hd ?_
             try simp only [la, Act.put]
             refine tq 9 rfl Hd ?_
             refine tq 10 rfl Hd ?_
             try simp only [la, Act.put]
             refine ts 11 rfl Hd (fun wS hSw => by
              have cc := (hSw.cell (p := ⟨bx, ox, none⟩) ltxA).trans ax1A
              go_simp
              try with_reducible rfl) ?_
             refine tq 12 rfl Hd ?_
             try simp only [la, Act.put]
             refine tq 13 rfl Hd ?_
             refine tq 14 rfl Hd ?_
             try simp only [la, Act.put]
             refine td ?_ _
             have HY := Hd
             obtain ⟨wqB, rfl⟩ : ∃ v : World, v = wd := ⟨_, rfl⟩
             have hBB := Lib.hid (below_of hBA.out HY hBA.out.size)
             have hownB := Lib.hid (own_below hownA.out HY)
             have hzB : w.heap.size + 1 ≤ wqB.heap.size := Nat.le_trans hzA HY.size
             have ax1B := cellkM HY ax1A
             have ax2B := cellkM HY ax2A
             have ltxB := Nat.lt_of_lt_of_le ltxA HY.size
             have ay1B := cellkM HY ay1A
             have ay2B := cellkM HY ay2A
             have ltyB := Nat.lt_of_lt_of_le ltyA HY.size
             clear HY hBA hownA hzA ax1A ax2A ltxA ay1A ay2A ltyA
             go_wp2_with (first
              | (at_builtin
                 refine push_blk rfl (.tmp 96) (.tmp 101) 27 rfl (w.heap.size + 1) 66 (.agg #[.string ⟨#[]⟩, .slice none 0 0, .bool false]) 3 48 (by kernel_rfl) (by kernel_rfl) rfl (by omega) (.slice D ko ee) ko (Mir.chV hs out) #[.string sy, .slice Dy dy.length ey, .bool false] rfl hownB.out rfl rfl (by simp [Value.oneCell']) (by unfold maxLen; omega) (by omega) hzB ?_
                 intro v4 w4 hown4 hg4 _
                 obtain ⟨A4, c4, rfl, -, -, -⟩ := own_form hown4
                 have Hown4 := Lib.hid hown4
                 have HB4 := Lib.hid (below_grown hBB.out hg4 hBB.out.size (fun k hk => Nat.le_trans (Nat.le_succ _) (own_base hownB.out k hk)))
                 have hz4 : w.heap.size + 1 ≤ w4.heap.size := Nat.le_trans hzB hg4.size
                 clear hown4 hg4))
             go_roundw
             case rel => exact ⟨((sx, dx) :: x), y, out ++ [((sy, dy), false)], hs ++ [(Dy, ey)], _, _, A4, kx, ky - 1, ko + 1, p, q - 1, c4, rfl, rfl, rfl, lx, Lib.hid (by have h1 := ly.out; simp at h1; omega), Lib.hid (by rw [List.length_append, lo.out]; rfl), cx, Lib.hid (cy.out.tail_ (c := q) (by have h1 := ly.out; simp at h1; omega)), Lib.hid (by rw [← hd.out, Mir.diffS_both, if_neg (by rw [L1.out]; simp), if_pos L2.out, List.append_assoc]; rfl), Lib.hid (hdat.out.snoc (Dy, ey) ((sy, dy), false) hdy hdmy Hdcy.out Hd8y.out), Lib.hid (by rw [Mir.chV_append _ _ _ _ hdat.out.1]; exact Hown4.out), by omega, by omega, by omega, by omega, by omega, hz4, HB4⟩
             case measure => simp only [lenV]; omega
           | false =>
             have g1 : Op.bytesLess sx.toList sy.toList = false := lt1
             have L1 := Lib.hid lt1
             have g2 : Op.bytesLess sy.toList sx.toList = false := lt2
             have L2 := Lib.hid lt2
             clear lt1 lt2
             go_upto_region 12 with (fail)
             refine wp_region_held_drew (S := fun W => Below wq.heap.size wq W) (by kernel_rfl) (below_drewN (Below.refl _ _) 1) (fun Hd => ?_)
             have Hd : Below wq.heap.size wq wq.drew := below_drewN (Below.refl _ _) 1
             have Zd : wq.heap.size ≤ wq.drew.heap.size := Nat.le_refl _
             generalize World.drew wq = wd at *
             refine tq 0 rfl Hd ?_
             refine tq 1 rfl Hd ?_
             try simp only [la, Act.put]
             refine tq 2 rfl Hd ?_
             refine tq 3 rfl Hd ?_
             try simp only [la, Act.put]
             refine tq 4 rfl Hd ?_
             refine tq 5 rfl Hd ?_
             try simp only [la, Act.put]
             refine tq 6 rfl Hd ?_
             refine tq 7 rfl Hd ?_
             try simp only [la, Act.put]
             refine tq 8 rfl Hd ?_
             refine tq 9 rfl Hd ?_
             try simp only [la, Act.put]
             refine tq 10 rfl Hd ?_
             refine ts 11 rfl Hd (fun wS hSw => by
              have cc := (hSw.cell (p := ⟨bx, ox, none⟩) ltx).trans ax1
              go_simp
              try with_reducible rfl) ?_
             try simp only [la, Act.put]
             refine tq 12 rfl Hd ?_
             refine tq 13 rfl Hd ?_
             try simp only [la, Act.put]
             refine tq 14 rfl Hd ?_
             refine ts 15 rfl Hd (fun wS hSw => by
              have cc := (hSw.cell (p := ⟨by_, oy, none⟩) lty).trans ay1
              go_simp
              try with_reducible rfl) ?_
             try simp only [la, Act.put]
             refine tq 16 rfl Hd ?_
             refine tq 17 rfl Hd ?_
             try simp only [la, Act.put]
             refine tq 18 rfl Hd ?_
             refine tq 19 rfl Hd ?_
             try simp only [la, Act.put]
             refine td ?_ _
             have HY := Hd
             obtain ⟨wqA, rfl⟩ : ∃ v : World, v = wd := ⟨_, rfl⟩
             have hBA := Lib.hid (below_of hB.out HY hB.out.size)
             have hownA := Lib.hid (own_below hown.out HY)
             have hzA : w.heap.size + 1 ≤ wqA.heap.size := Nat.le_trans hz HY.size
             have ax1A := cellkM HY ax1
             have ax2A := cellkM HY ax2
             have ltxA := Nat.lt_of_lt_of_le ltx HY.size
             have ay1A := cellkM HY ay1
             have ay2A := cellkM HY ay2
             have ltyA := Nat.lt_of_lt_of_le lty HY.size
             clear HY hB hown hz ax1 ax2 ltx ay1 ay2 lty
             go_upto_region 15 with (fail)
             refine wp_region_held_drew (S := fun W => Below wqA.heap.size wqA W) (by kernel_rfl) (below_drewN (Below.refl _ _) 1) (fun Hd => ?_)
             have Hd : Below wqA.heap.size wqA wqA.drew := below_drewN (Below.refl _ _) 1
             have Zd : wqA.heap.size ≤ wqA.drew.heap.size := Nat.le_refl _
             generalize World.drew wqA = wd at *
             refine tq 0 rfl Hd ?_
             refine tq 1 rfl Hd ?_
             try simp only [la, Act.put]
             refine tq 2 rfl Hd ?_
             refine tq 3 rfl Hd ?_
             try simp only [la, Act.put]
             refine tq 4 rfl Hd ?_
             refine tq 5 rfl Hd ?_
             try simp only [la, Act.put]
             refine tq 6 rfl Hd ?_
             refine ts 7 rfl Hd (fun wS hSw => by
              have cc := (hSw.cell (p := ⟨by_, oy, none⟩) ltyA).trans ay1A
              go_simp
              try with_reducible rfl) ?_
             try simp only [la, Act.put]
             refine tq 8 rfl Hd ?_
             refine tq 9 rfl Hd ?_
             try simp only [la, Act.put]
             refine tq 10 rfl Hd ?_
             refine ts 11 rfl Hd (fun wS hSw => by
              have cc := (hSw.cell (p := ⟨bx, ox, none⟩) ltxA).trans ax1A
              go_simp
              try with_reducible rfl) ?_
             try simp only [la, Act.put]
             refine tq 12 rfl Hd ?_
             refine tq 13 rfl Hd ?_
             try simp only [la, Act.put]
             refine tq 14 rfl Hd ?_
             try simp only [la, Act.put]
             refine td ?_ _
             have HY := Hd
             obtain ⟨wqB, rfl⟩ : ∃ v : World, v = wd := ⟨_, rfl⟩
             have hBB := Lib.hid (below_of hBA.out HY hBA.out.size)
             have hownB := Lib.hid (own_below hownA.out HY)
             have hzB : w.heap.size + 1 ≤ wqB.heap.size := Nat.le_trans hzA HY.size
             have ax1B := cellkM HY ax1A
             have ax2B := cellkM HY ax2A
             have ltxB := Nat.lt_of_lt_of_le ltxA HY.size
             have ay1B := cellkM HY ay1A
             have ay2B := cellkM HY ay2A
             have ltyB := Nat.lt_of_lt_of_le ltyA HY.size
             clear HY hBA hownA hzA ax1A ax2A ltxA ay1A ay2A ltyA
             cases eqb : Mir.itEq (sx, dx) (sy, dy) with
             | true =>
               have Eqb := Lib.hid eqb
               go_upto_region 9 with (fail)
               refine wp_region_held_drew (S := fun W => Below wqB.heap.size wqB W) (by kernel_rfl) (below_drewN (Below.refl _ _) 1) (fun Hd => ?_)
               have Hd : Below wqB.heap.size wqB wqB.drew := below_drewN (Below.refl _ _) 1
               have Zd : wqB.heap.size ≤ wqB.drew.heap.size := Nat.le_refl _
               generalize World.drew wqB = wd at *
               refine tq 0 rfl Hd ?_
               try simp only [la, Act.put]
               refine tq 1 rfl Hd ?_
               refine ts 2 rfl Hd (fun wS hSw => by
                have cc := (hSw.cell (p := ⟨bx, ox, none⟩) ltxB).trans ax1B
                have cc2 := (hSw.cell (p := ⟨bx, ox + 1, none⟩) ltxB).trans ax2B
                go_simp
                try with_reducible rfl) ?_
               try simp only [la, Act.put]
               refine tq 3 rfl Hd ?_
               refine tq 4 rfl Hd ?_
               try simp only [la, Act.put]
               refine ts 5 rfl Hd (fun wS hSw => by
                have cc := (hSw.cell (p := ⟨by_, oy, none⟩) ltyB).trans ay1B
                have cc2 := (hSw.cell (p := ⟨by_, oy + 1, none⟩) ltyB).trans ay2B
                go_simp
                try with_reducible rfl) ?_
               try simp only [la, Act.put]
               refine ty 6 rfl (fun K hK => ?_)
               go_simp
               refine (equal_any sx sy Dx Dy ex ey dx dy _ (Hdcx.out.below (below_of Hbw.out (below_of hBB.out Hd hBB.out.size) Hbw.out.size)) (Hdcy.out.below (below_of Hbw.out (below_of hBB.out Hd hBB.out.size) Hbw.out.size)) Hd8x.out Hd8y.out).mono ?_
               rintro e w1_ ⟨rfl, hb1⟩
               rw [eqb]
               have Hb1 := below_of Hd hb1 Hd.size
               have Zb1 := Nat.le_trans Zd hb1.size
               go_wp2_with (fail)
               refine hK.out _ _ Hb1 fun _ => ?_
               clear hK K
               try simp only [la, Act.put]
               refine tq 7 rfl Hb1 ?_
               try simp only [la, Act.put]
               refine td ?_ _
               have HY := Hb1
               obtain ⟨wqC, rfl⟩ : ∃ v : World, v = w1_ := ⟨_, rfl⟩
               have hBC := Lib.hid (below_of hBB.out HY hBB.out.size)
               have hownC := Lib.hid (own_below hownB.out HY)
               have hzC : w.heap.size + 1 ≤ wqC.heap.size := Nat.le_trans hzB HY.size
               have ax1C := cellkM HY ax1B
               have ax2C := cellkM HY ax2B
               have ltxC := Nat.lt_of_lt_of_le ltxB HY.size
               have ay1C := cellkM HY ay1B
               have ay2C := cellkM HY ay2B
               have ltyC := Nat.lt_of_lt_of_le ltyB HY.size
               clear HY hBB hownB hzB ax1B ax2B ltxB ay1B ay2B ltyB
               obtain ⟨XA, hXA⟩ : ∃ v, (if p = 1 then some (⟨bx, ox, none⟩ : Addr) else some ⟨bx, ox + 2, none⟩) = v := ⟨_, rfl⟩
               obtain ⟨YA, hYA⟩ : ∃ v, (if q = 1 then some (⟨by_, oy, none⟩ : Addr) else some ⟨by_, oy + 2, none⟩) = v := ⟨_, rfl⟩
               go_upto_region 11 with (fail)
               refine wp_region_held_drew (S := fun W => Below wqC.heap.size wqC W) (by kernel_rfl) (below_drewN (Below.refl _ _) 1) (fun Hd => ?_)
               have Hd : Below wqC.heap.size wqC wqC.drew := below_drewN (Below.refl _ _) 1
               have Zd : wqC.heap.size ≤ wqC.drew.heap.size := Nat.le_refl _
               generalize World.drew wqC = wd at *
               refine tq 0 rfl Hd ?_
               try simp only [la, Act.put]
               refine tg 1 (.slice XA (kx - 1) (p - 1)) rfl (Or.inl ⟨by rfl, ?_⟩) Hd ?_
               · intro wS hSw
                 go_simp
                 first | (intro hh; exfalso; omega) | skip
               refine tq 2 rfl Hd ?_
               try simp only [la, Act.put]
               refine tg 3 (.slice YA (ky - 1) (q - 1)) rfl (Or.inl ⟨by rfl, ?_⟩) Hd ?_
               · intro wS hSw
                 go_simp
                 first | (intro hh; exfalso; omega) | skip
               refine tq 4 rfl Hd ?_
               try simp only [la, Act.put]
               refine tq 5 rfl Hd ?_
               try simp only [la, Act.put]
               refine td ?_ _
               have HY := Hd
               go_wp2_with (fail)
               go_roundw
               case rel => exact ⟨x, y, out, hs, XA, YA, D, kx - 1, ky - 1, ko, p - 1, q - 1, ee, rfl, rfl, rfl, Lib.hid (by have h1 := lx.out; simp at h1; omega), Lib.hid (by have h1 := ly.out; simp at h1; omega), lo, Lib.hid (hXA ▸ cx.out.tail_ (c := p) (by have h1 := lx.out; simp at h1; omega)), Lib.hid (hYA ▸ cy.out.tail_ (c := q) (by have h1 := ly.out; simp at h1; omega)), Lib.hid (by rw [← hd.out, Mir.diffS_both, if_neg (by rw [L1.out]; simp), if_neg (by rw [L2.out]; simp), if_pos eqb]; rfl), hdat, Lib.hid (own_below hownC.out HY), by omega, by omega, by omega, by omega, by omega, Nat.le_trans hzC HY.size, Lib.hid (below_of hBC.out HY hBC.out.size)⟩
               case measure => simp only [lenV]; omega
             | false =>
               have Eqb := Lib.hid eqb
               go_upto_region 9 with (fail)
               refine wp_region_held_drew (S := fun W => Below wqB.heap.size wqB W) (by kernel_rfl) (below_drewN (Below.refl _ _) 1) (fun Hd => ?_)
               have Hd : Below wqB.heap.size wqB wqB.drew := below_drewN (Below.refl _ _) 1
               have Zd : wqB.heap.size ≤ wqB.drew.heap.size := Nat.le_refl _
               generalize World.drew wqB = wd at *
               refine tq 0 rfl Hd ?_
               try simp only [la, Act.put]
               refine tq 1 rfl Hd ?_
               refine ts 2 rfl Hd (fun wS hSw => by
                have cc := (hSw.cell (p := ⟨bx, ox, none⟩) ltxB).trans ax1B
                have cc2 := (hSw.cell (p := ⟨bx, ox + 1, none⟩) ltxB).trans ax2B
                go_simp
                try with_reducible rfl) ?_
               try simp only [la, Act.put]
               refine tq 3 rfl Hd ?_
               refine tq 4 rfl Hd ?_
               try simp only [la, Act.put]
               refine ts 5 rfl Hd (fun wS hSw => by
                have cc := (hSw.cell (p := ⟨by_, oy, none⟩) ltyB).trans ay1B
                have cc2 := (hSw.cell (p := ⟨by_, oy + 1, none⟩) ltyB).trans ay2B
                go_simp
                try with_reducible rfl) ?_
               try simp only [la, Act.put]
               refine ty 6 rfl (fun K hK => ?_)
               go_simp
               refine (equal_any sx sy Dx Dy ex ey dx dy _ (Hdcx.out.below (below_of Hbw.out (below_of hBB.out Hd hBB.out.size) Hbw.out.size)) (Hdcy.out.below (below_of Hbw.out (below_of hBB.out Hd hBB.out.size) Hbw.out.size)) Hd8x.out Hd8y.out).mono ?_
               rintro e w1_ ⟨rfl, hb1⟩
               rw [eqb]
               have Hb1 := below_of Hd hb1 Hd.size
               have Zb1 := Nat.le_trans Zd hb1.size
               go_wp2_with (fail)
               refine hK.out _ _ Hb1 fun _ => ?_
               clear hK K
               try simp only [la, Act.put]
               refine tq 7 rfl Hb1 ?_
               try simp only [la, Act.put]
               refine td ?_ _
               have HY := Hb1
               obtain ⟨wqC, rfl⟩ : ∃ v : World, v = w1_ := ⟨_, rfl⟩
               have hBC := Lib.hid (below_of hBB.out HY hBB.out.size)
               have hownC := Lib.hid (own_below hownB.out HY)
               have hzC : w.heap.size + 1 ≤ wqC.heap.size := Nat.le_trans hzB HY.size
               have ax1C := cellkM HY ax1B
               have ax2C := cellkM HY ax2B
               have ltxC := Nat.lt_of_lt_of_le ltxB HY.size
               have ay1C := cellkM HY ay1B
               have ay2C := cellkM HY ay2B
               have ltyC := Nat.lt_of_lt_of_le ltyB HY.size
               clear HY hBB hownB hzB ax1B ax2B ltxB ay1B ay2B ltyB
               go_wp2_with (first
                | (at_builtin
                   refine push_blk rfl (.tmp 39) (.tmp 44) 27 rfl (w.heap.size + 1) 66 (.agg #[.string ⟨#[]⟩, .slice none 0 0, .bool false]) 3 48 (by kernel_rfl) (by kernel_rfl) rfl (by omega) (.slice D ko ee) ko (Mir.chV hs out) #[.string sy, .slice Dy dy.length ey, .bool false] rfl hownC.out rfl rfl (by simp [Value.oneCell']) (by unfold maxLen; omega) (by omega) hzC ?_
                   intro v4 w4 hown4 hg4 _
                   obtain ⟨A4, c4, rfl, -, -, -⟩ := own_form hown4
                   have Hown4 := Lib.hid hown4
                   have HB4 := Lib.hid (below_grown hBC.out hg4 hBC.out.size (fun k hk => Nat.le_trans (Nat.le_succ _) (own_base hownC.out k hk)))
                   have hz4 : w.heap.size + 1 ≤ w4.heap.size := Nat.le_trans hzC hg4.size
                   clear hown4 hg4))
               obtain ⟨wq4, hwq4⟩ : ∃ v : World, v = w4 := ⟨_, rfl⟩
               subst hwq4
               obtain ⟨XA, hXA⟩ : ∃ v, (if p = 1 then some (⟨bx, ox, none⟩ : Addr) else some ⟨bx, ox + 2, none⟩) = v := ⟨_, rfl⟩
               obtain ⟨YA, hYA⟩ : ∃ v, (if q = 1 then some (⟨by_, oy, none⟩ : Addr) else some ⟨by_, oy + 2, none⟩) = v := ⟨_, rfl⟩
               go_upto_region 11 with (fail)
               refine wp_region_held_drew (S := fun W => Below wq4.heap.size wq4 W) (by kernel_rfl) (below_drewN (Below.refl _ _) 1) (fun Hd => ?_)
               have Hd : Below wq4.heap.size wq4 wq4.drew := below_drewN (Below.refl _ _) 1
               have Zd : wq4.heap.size ≤ wq4.drew.heap.size := Nat.le_refl _
               generalize World.drew wq4 = wd at *
               refine tq 0 rfl Hd ?_
               try simp only [la, Act.put]
               refine tg 1 (.slice XA (kx - 1) (p - 1)) rfl (Or.inl ⟨by rfl, ?_⟩) Hd ?_
               · intro wS hSw
                 go_simp
                 first | (intro hh; exfalso; omega) | skip
               refine tq 2 rfl Hd ?_
               try simp only [la, Act.put]
               refine tg 3 (.slice YA (ky - 1) (q - 1)) rfl (Or.inl ⟨by rfl, ?_⟩) Hd ?_
               · intro wS hSw
                 go_simp
                 first | (intro hh; exfalso; omega) | skip
               refine tq 4 rfl Hd ?_
               try simp only [la, Act.put]
               refine tq 5 rfl Hd ?_
               try simp only [la, Act.put]
               refine td ?_ _
               have HY := Hd
               go_wp2_with (fail)
               go_roundw
               case rel => exact ⟨x, y, out ++ [((sy, dy), false)], hs ++ [(Dy, ey)], XA, YA, A4, kx - 1, ky - 1, ko + 1, p - 1, q - 1, c4, rfl, rfl, rfl, Lib.hid (by have h1 := lx.out; simp at h1; omega), Lib.hid (by have h1 := ly.out; simp at h1; omega), Lib.hid (by rw [List.length_append, lo.out]; rfl), Lib.hid (hXA ▸ cx.out.tail_ (c := p) (by have h1 := lx.out; simp at h1; omega)), Lib.hid (hYA ▸ cy.out.tail_ (c := q) (by have h1 := ly.out; simp at h1; omega)), Lib.hid (by rw [← hd.out, Mir.diffS_both, if_neg (by rw [L1.out]; simp), if_neg (by rw [L2.out]; simp), if_neg (by rw [eqb]; simp), List.append_assoc]), Lib.hid (hdat.out.snoc (Dy, ey) ((sy, dy), false) hdy hdmy Hdcy.out Hd8y.out), Lib.hid (by rw [Mir.chV_append _ _ _ _ hdat.out.1]; exact own_below Hown4.out HY), by omega, by omega, by omega, by omega, by omega, Nat.le_trans hz4 HY.size, Lib.hid (below_of HB4.out HY HB4.out.size)⟩
               case measure => simp only [lenV]; omega
theorem diff_any (A B : Option Addr) (n m c d : Nat) (a b : List Mir.It) (w : World) (ha : a.length = n) (hb : b.length = m) (hn : n ≤ 1000000) (hm : m ≤ 1000000) (hA : ItemsC w A a) (hB : ItemsC w B b) (hnc : n ≤ c) (hmd : m ≤ d) (hcm : c ≤ maxLen) (hdm : d ≤ maxLen) :
    Calls Tryz.prog 26 #[.slice A n c, .slice B m d] w fun e w' => ∃ A' c', e = .returned (.tuple #[.slice A' (Mir.diffR a b).length c', .int .i64 (Mir.diffE a b)]) ∧ (Mir.diffR a b).length ≤ c' ∧ c' ≤ maxLen ∧ ChangesC w' A' (Mir.diffR a b) ∧ Below w.heap.size w w' := by
 refine (diff_any2 w A B n m c d a b w (Below.refl _ _) ha hb hn hm hA hB hnc hmd hcm hdm).mono ?_
 rintro e w' ⟨A', c', hs, rfl, h1, h2, h3, h4, h5⟩
 exact ⟨A', c', rfl, h1, h2, h3.changes h5 (Cells.own h4), h5⟩
end Go.Proofs.YtkflpoiobpblhaaGreat
