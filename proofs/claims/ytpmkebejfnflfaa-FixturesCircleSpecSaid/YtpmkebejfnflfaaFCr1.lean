/- The walk of Circle (fixtures). -/
import Derived.Test.YtpmkebejfnflfaaFCl
namespace Go.Proofs.Ytpmkebejfnflfaa
open Go.RowKit Go.Shelf Go.Lib
attribute [local go_sem] Oper.semAt_some
theorem blk_own {β : Type} (B : Nat) (t : TypeId) (f : β → Array Value) : Own (fun s W => Blk W B t (f s)) := fun s X Y row hs hg hrow =>
  hs.grown hg (fun e' => by
    obtain ⟨o, ho, hc⟩ := hrow B e'.symm
    rw [show X.heap[B]? = _ from hs] at ho; cases ho; cases hc)
/-- What a round keeps: what is no cells, and two blocks. -/
def Kb (B1 B2 : Nat) (W w' : World) : Prop := W.heap.size ≤ w'.heap.size ∧ (∀ (k : Nat) (o : Obj), W.heap[k]? = some o → o.isCells = false → w'.heap[k]? = some o) ∧ (B1 < W.heap.size ∧ w'.heap[B1]? = W.heap[B1]?) ∧ (B2 < W.heap.size ∧ w'.heap[B2]? = W.heap[B2]?)
theorem Kb.step {B1 B2 : Nat} {W w' w'' : World} {row : Option Nat} (h : Kb B1 B2 W w') (hg : w'.grownBy w'' row) (hr : ∀ g, row = some g → (∃ cs t fr, w'.heap[g]? = some (.cells cs t fr)) ∧ g ≠ B1 ∧ g ≠ B2) : Kb B1 B2 W w'' := by
  obtain ⟨h1, h2, ⟨h3, h4⟩, ⟨h5, h6⟩⟩ := h
  refine ⟨Nat.le_trans h1 hg.size, fun k o hk ho => ?_, ⟨h3, ?_⟩, ⟨h5, ?_⟩⟩
  · have hk' := h2 k o hk ho
    refine (hg.block k (Array.getElem?_eq_some_iff.1 hk').1 fun e => ?_).trans hk'
    obtain ⟨⟨cs, t, fr, hc⟩, -⟩ := hr k e.symm
    rw [hc] at hk'
    cases hk'
    cases ho
  · exact (hg.block B1 (by omega) fun e => (hr B1 e.symm).2.1 rfl).trans h4
  · exact (hg.block B2 (by omega) fun e => (hr B2 e.symm).2.2 rfl).trans h6
theorem Kb.below {B1 B2 : Nat} {W w' w'' : World} (h : Kb B1 B2 W w') (hb : Below w'.heap.size w' w'') : Kb B1 B2 W w'' := h.step (grown_of_below hb none) (fun g e => by cases e)
theorem Kb.row {B1 B2 base n size : Nat} {e : TypeId} {v : Value} {xs : List Value} {W w' w'' : World} (h : Kb B1 B2 W w') (hown : w'.ownsRow base e size v n xs) (h1 : B1 < base) (h2 : B2 < base) (hg : w'.grownBy w'' v.ownBlock) : Kb B1 B2 W w'' :=
  h.step hg fun g e => by
    have hb := own_base hown g e
    refine ⟨?_, by omega, by omega⟩
    rcases hown.2 with ⟨rfl, _⟩ | ⟨g', cap, cur, rfl, _, hg', _⟩
    · cases e
    · simp [Value.ownBlock] at e
      subst e
      exact ⟨_, _, _, hg'⟩
theorem Kb.keeps {B1 B2 : Nat} {W w' : World} (h : Kb B1 B2 W w') (B : Nat) : KeepsFrom B W w' ∧ Keep2 B1 B2 W w' := ⟨⟨h.1, fun k o _ hk ho => h.2.1 k o hk ho⟩, ⟨h.1, h.2.2.1.2, h.2.2.2.2⟩⟩
/-- What holds ahead of round k of the second half. -/
def DblRest (w : World) (ls : List (List (Int × Int))) (ds : List Nat) (A : Option Addr) (k : Nat) (v : Value) (W : World) : Prop :=
  Below w.heap.size w W ∧ (∃ u : Value, Blk W w.heap.size 22 #[u]) ∧ Blk W (w.heap.size + 1) 26 #[v] ∧ (∀ D ∈ ds, w.heap.size ≤ D ∧ W.heap[D]? = some (.deferred (some []))) ∧ OwnR W w.heap.size v (ls ++ (ls.take k).map (List.map Fix.swapM)) ∧ Reads W v A ls
def DblRel (w : World) (ls : List (List (Int × Int))) (ds : List Nat) (A : Option Addr) (k : Nat) (W : World) : Prop := ∃ v, DblRest w ls ds A k v W
/-- What holds ahead of round r. -/
def CircRel (w : World) (cl : List Int) (n : Nat) (A : Option Addr) (c : Nat) (dl : List Deferred) (u : Value) (w' : World) : Prop :=
  ∃ (r : Nat) (ds : List Nat) (v : Value), r ≤ n + n % 2 - 1 ∧ u = .int .i64 r ∧ dl = ds.map markD ∧ ds.Nodup ∧ (∀ D ∈ ds, w.heap.size ≤ D ∧ w'.heap[D]? = some (.deferred (some []))) ∧ Below w.heap.size w w' ∧
    Blk w' w.heap.size 22 #[.slice A n c] ∧ Blk w' (w.heap.size + 1) 26 #[v] ∧ OwnR w' w.heap.size v ((Fix.baseM cl).take r)
set_option linter.unusedVariables false in
set_option linter.unusedSimpArgs false in
set_option maxRecDepth 100000 in
set_option maxHeartbeats 16000000 in
theorem circle_bad (A : Option Addr) (n c : Nat) (cl : List Int) (double : Bool) (w : World) (hl : cl.length = n) (hA : Ints w A cl) (hv : Fix.validC cl = false) :
    Calls Try.prog 11 #[.slice A n c, .bool double] w (CircPost w cl double) := by
  have HV := Lib.hid (fun (W : World) (h : Below w.heap.size w W) => fvalid_any A n c cl W hl (hA.below h))
  have Hv := Lib.hid hv
  clear hv hl hA
  obtain ⟨R, hR⟩ : ∃ R, R = CircPost w cl double := ⟨_, rfl⟩
  rw [← hR]
  have HR := Lib.hid hR
  clear hR
  go_enter Try.func11, Try.ntmps11
  go_upto_region 1 with (fail)
  have bL := Blk.new (w.alloc (.cells #[.slice A n c] 22)) 26 #[.slice none 0 0]
  have bC := (Blk.new w 22 #[.slice A n c]).alloc (.cells #[.slice none 0 0] 26)
  have hB0 : Below w.heap.size w ((w.alloc (.cells #[.slice A n c] 22)).alloc (.cells #[.slice none 0 0] 26)) := ((Below.refl _ _).alloc (Nat.le_refl _) _).alloc (by simp) _
  have hs0 : (w.alloc (.cells #[.slice A n c] 22)).heap.size = w.heap.size + 1 := by simp
  rw [hs0] at bL
  clear hs0
  generalize World.alloc _ _ = W0 at *
  have hcC := bC.cell 0
  have HB0 := Lib.hid hB0
  have BL := Lib.hid bL
  clear bL bC hB0
  go_wp2_with (go_at_call 28; refine (HV.out _ HB0.out).mono ?_; rw [Hv.out]; rintro e w1 ⟨rfl, hb1⟩; have bL1 := BL.out.below hb1; have hcL := bL1.cell 0; have hfL := bL1.frozen 0; have hbb := below_of HB0.out hb1 HB0.out.size)
  rw [HR.out]
  refine bodyPost_ret (circ_results rfl rfl (by simpa using bL1.set_ 0 (.slice none 0 0))) rfl ?_
  exact circPost_bad double Hv.out (below_set hbb (by omega) _)
set_option linter.unusedVariables false in
set_option linter.unusedSimpArgs false in
set_option maxRecDepth 100000 in
set_option maxHeartbeats 16000000 in
theorem circle_good (A : Option Addr) (n c : Nat) (cl : List Int) (double : Bool) (w : World) (hl : cl.length = n) (hA : Ints w A cl) (hv : Fix.validC cl = true) :
    Calls Try.prog 11 #[.slice A n c, .bool double] w (CircPost w cl double) := by
  have HV := Lib.hid (fun (W : World) (h : Below w.heap.size w W) => fvalid_any A n c cl W hl (hA.below h))
  have Hv := Lib.hid hv
  have hn2 : 2 ≤ n := by rw [← hl]; exact (Fix.validC_iff.1 hv).1
  have hn24 : n ≤ 24 := by rw [← hl]; exact (Fix.validC_iff.1 hv).2.1
  clear hv
  obtain ⟨R, hR⟩ : ∃ R, R = CircPost w cl double := ⟨_, rfl⟩
  rw [← hR]
  have HR := Lib.hid hR
  clear hR
  refine (callsIn_wide (n := 4)).1 (callsIn_of_wp_marks Try.func11 rfl trivial (wpIn_wide.2 ?_) rfl)
  simp only [Try.ntmps11, List.size_toArray, List.length_cons, List.length_nil, Nat.reduceAdd, Nat.reduceSub, Array.replicate_succ, Array.replicate_zero, List.push_toArray, List.append_toArray, List.nil_append, List.cons_append]
  have HL := Lib.hid hl
  have HA := Lib.hid hA
  clear hl hA
  go_upto_region 1 with (fail)
  have bL := Blk.new (w.alloc (.cells #[.slice A n c] 22)) 26 #[.slice none 0 0]
  have bC := (Blk.new w 22 #[.slice A n c]).alloc (.cells #[.slice none 0 0] 26)
  have hB0 : Below w.heap.size w ((w.alloc (.cells #[.slice A n c] 22)).alloc (.cells #[.slice none 0 0] 26)) := ((Below.refl _ _).alloc (Nat.le_refl _) _).alloc (by simp) _
  have hs0 : (w.alloc (.cells #[.slice A n c] 22)).heap.size = w.heap.size + 1 := by simp
  rw [hs0] at bL
  clear hs0
  generalize World.alloc _ _ = W0 at *
  have hcC := bC.cell 0
  have HB0 := Lib.hid hB0
  have BL := Lib.hid bL
  have BC := Lib.hid bC
  clear bL bC hB0
  go_upto_region 4 with (go_at_call 28; refine (HV.out _ HB0.out).mono ?_; rw [Hv.out]; rintro e w1 ⟨rfl, hb1⟩; have bL1 := BL.out.below hb1; have bC1 := BC.out.below hb1; have hcC1 := bC1.cell 0; have hbb := below_of HB0.out hb1 HB0.out.size)
  have HL1 := Lib.hid bL1
  have HC1 := Lib.hid bC1
  have HB1 := Lib.hid hbb
  clear bL1 bC1 hbb hb1 hcC BL BC HB0 HV
  go_wp2_with (fail)
  refine wp_loop (fun a' w' => ∃ (dl : List Deferred) (u7 u8 u9 u27 u28 u29 u30 u31 u32 u33 u34 u35 u36 u37 u38 u39 u40 u41 u42 u43 u44 u45 u46 u47 u48 u49 u50 u51 u52 u53 u54 u55 u56 u57 u58 u59 u60 u61 u62 u63 u64 u65 u66 u67 u68 : Value), CircRel w cl n A c dl u27 w' ∧ a' = { tmps := #[.slice A n c, .bool double, .pointer (some ⟨w.heap.size, 0, none⟩), undef, .pointer (some ⟨w.heap.size + 1, 0, none⟩), .int .i64 0, .int .i64 ((n : Int) + (n : Int) % 2), u7, u8, u9, undef, undef, undef, undef, undef, .slice A n c, .bool true, .bool false, undef, .slice A n c, .int .i64 (n : Int), .slice A n c, .int .i64 (n : Int), .int .i64 ((n : Int) % 2), .int .i64 ((n : Int) + (n : Int) % 2), .int .i64 ((n : Int) + (n : Int) % 2), .int .i64 ((n : Int) + (n : Int) % 2 - 1), u27, u28, u29, u30, u31, u32, u33, u34, u35, u36, u37, u38, u39, u40, u41, u42, u43, u44, u45, u46, u47, u48, u49, u50, u51, u52, u53, u54, u55, u56, u57, u58, u59, u60, u61, u62, u63, u64, u65, u66, u67, u68, undef, undef, undef, undef, undef, undef, undef, undef, undef, undef, undef, undef, undef, undef, undef, undef, undef, undef, undef, undef, undef, undef, undef, undef, undef, undef, undef, undef, undef, undef, undef, undef], defers := dl }) (fun a' _ => n + n % 2 - 1 - (intOf (a'.tmps.getD 27 undef)).toNat) ?atStart ?round
  case atStart =>
    (repeat apply Exists.intro)
    refine ⟨?_, rfl⟩
    exact ⟨0, [], _, Nat.zero_le _, rfl, rfl, .nil, fun D hD => by simp at hD, HB1.out, HC1.out, HL1.out, OwnR.nil_ _ _⟩
  case round =>
    intro _ wr hinv
    obtain ⟨dl, u7, u8, u9, u27, u28, u29, u30, u31, u32, u33, u34, u35, u36, u37, u38, u39, u40, u41, u42, u43, u44, u45, u46, u47, u48, u49, u50, u51, u52, u53, u54, u55, u56, u57, u58, u59, u60, u61, u62, u63, u64, u65, u66, u67, u68, hrel, ha⟩ := hinv
    subst ha
    dsimp only
    clear HL1 HC1 HB1
    obtain ⟨r, ds, vL, hr, rfl, rfl, hnd, hds, hbw, hbC, hbL, hOR⟩ := hrel
    by_cases hrm : r < n + n % 2 - 1
    · have hlt : (r : Int) < (n : Int) + (n : Int) % 2 - 1 := by omega
      have Hnd := Lib.hid hnd
      have Hds := Lib.hid hds
      have HOR := Lib.hid hOR
      have HbL := Lib.hid hbL
      have HbC := Lib.hid hbC
      have Hbw := Lib.hid hbw
      clear hnd hds hOR hbL hbC hbw
      go_wp2_with (go_at_call 29; refine (pairs_any _ _ _).mono ?_; rintro e w1 ⟨rfl, rfl⟩)
      have b8 := ((Boxed.new wr 46 (.slice none 0 0)).alloc (.cells #[.int .i64 ((n : Int) + (n : Int) % 2)] 3)).alloc (.cells #[.int .i64 (r : Int)] 3)
      have bm := (Blk.new (wr.alloc (.cells #[.slice none 0 0] 46)) 3 #[.int .i64 ((n : Int) + (n : Int) % 2)]).alloc (.cells #[.int .i64 (r : Int)] 3)
      have br := Blk.new ((wr.alloc (.cells #[.slice none 0 0] 46)).alloc (.cells #[.int .i64 ((n : Int) + (n : Int) % 2)] 3)) 3 #[.int .i64 (r : Int)]
      have hBq : Below wr.heap.size wr (((wr.alloc (.cells #[.slice none 0 0] 46)).alloc (.cells #[.int .i64 ((n : Int) + (n : Int) % 2)] 3)).alloc (.cells #[.int .i64 (r : Int)] 3)) :=
        (((Below.refl _ _).alloc (Nat.le_refl _) _).alloc (by simp) _).alloc (by simp; omega) _
      have hsz : (((wr.alloc (.cells #[.slice none 0 0] 46)).alloc (.cells #[.int .i64 ((n : Int) + (n : Int) % 2)] 3)).alloc (.cells #[.int .i64 (r : Int)] 3)).heap.size = wr.heap.size + 1 + 1 + 1 := by simp
      have hs1 : (wr.alloc (.cells #[.slice none 0 0] 46)).heap.size = wr.heap.size + 1 := by simp
      have hs2 : ((wr.alloc (.cells #[.slice none 0 0] 46)).alloc (.cells #[.int .i64 ((n : Int) + (n : Int) % 2)] 3)).heap.size = wr.heap.size + 1 + 1 := by simp
      rw [hs1] at bm
      rw [hs2] at br
      clear hs1 hs2
      obtain ⟨W1, hW1⟩ : ∃ W1, (((wr.alloc (.cells #[.slice none 0 0] 46)).alloc (.cells #[.int .i64 ((n : Int) + (n : Int) % 2)] 3)).alloc (.cells #[.int .i64 (r : Int)] 3)) = W1 := ⟨_, rfl⟩
      rw [hW1] at b8 bm br hBq hsz ⊢
      clear hW1
      have em : ((n : Int) + (n : Int) % 2) = ((n + n % 2 : Nat) : Int) := by omega
      have hN : (n + n % 2) / 2 ≤ 12 := by omega
      have hseq := pairs_stops 3 (by omega) (wr.heap.size + 1 + 1) (wr.heap.size + 1) (n + n % 2) r (by omega) (by omega) (by omega) W1 (by omega) (by omega) (br.cell 0) (by rw [← em]; exact bm.cell 0)
      clear em
      have eg : ∀ args w, (callFunc 49 args).run Try.prog w = .ok (.enter 49 args) w := enters_of Try.func49 (by kernel_rfl) rfl
      refine (wpIn_wide (n := 4)).1 ?_
      refine wpIn_rangeFunc_ownH rfl (by omega) (gf := 49) (lb := #[.pointer (some ⟨wr.heap.size + 1 + 1, 0, none⟩), .pointer (some ⟨wr.heap.size + 1, 0, none⟩)]) rfl trivial eg hseq (fun h k => Keep2.trans h k) (keep2_b (by omega) (by omega)) (Below.refl _ _) (fun _ => rfl)
        (fun pre W => (∃ v, Boxed W wr.heap.size 46 v ∧ W.ownsRow (wr.heap.size + 3) 51 2 v (Fix.rawM cl pre).length (ivV (Fix.rawM cl pre)) ∧ True) ∧ Below wr.heap.size wr W ∧ wr.heap.size + 3 ≤ W.heap.size)
        (fun _ _ _ => False)
        (OwnFrom.and (Own.from (holdsRow_own (wr.heap.size + 3) wr.heap.size 46 51 2 (fun pre => (Fix.rawM cl pre).length) (fun pre => ivV (Fix.rawM cl pre)) (fun _ _ => True)) _) (OwnFrom.and (ownFrom_below (Nat.le_refl _) (by omega)) (fun _ _ _ _ hs hg _ => Nat.le_trans hs hg.size)))
        (fun _ _ _ _ _ hs _ _ => hs)
        ⟨⟨_, b8, World.ownsRow_nil W1 _ _ _, trivial⟩, hBq, by omega⟩
        (fun x a' W => ∃ Bx, wr.heap.size + 2 < Bx ∧ Blk W Bx 51 #[.int .i64 (x.1 : Int), .int .i64 (x.2 : Int)] ∧ a' = { tmps := #[.slice A n c, .bool double, .pointer (some ⟨w.heap.size, 0, none⟩), undef, .pointer (some ⟨w.heap.size + 1, 0, none⟩), .int .i64 0, .int .i64 ((n : Int) + (n : Int) % 2), .int .i64 (r : Int), .pointer (some ⟨wr.heap.size, 0, none⟩), .pointer (some ⟨Bx, 0, none⟩), undef, undef, undef, undef, undef, .slice A n c, .bool true, .bool false, undef, .slice A n c, .int .i64 (n : Int), .slice A n c, .int .i64 (n : Int), .int .i64 ((n : Int) % 2), .int .i64 ((n : Int) + (n : Int) % 2), .int .i64 ((n : Int) + (n : Int) % 2), .int .i64 ((n : Int) + (n : Int) % 2 - 1), .int .i64 (r : Int), .bool true, .int .i64 (r : Int), .int .i64 ((n : Int) + (n : Int) % 2), .int .i64 (r : Int), .func (.func 49) #[] #[.pointer (some ⟨wr.heap.size + 1 + 1, 0, none⟩), .pointer (some ⟨wr.heap.size + 1, 0, none⟩)], encN x, u34, u35, u36, u37, u38, u39, u40, u41, u42, u43, u44, u45, u46, u47, u48, u49, u50, u51, u52, u53, u54, u55, u56, u57, u58, u59, u60, u61, u62, u63, u64, u65, u66, u67, u68, undef, undef, undef, undef, undef, undef, undef, undef, undef, undef, undef, undef, undef, undef, undef, undef, undef, undef, undef, undef, undef, undef, undef, undef, undef, undef, undef, undef, undef, undef, undef, undef], defers := [] })
        ?hAx ?assign ?body ?done ?stop
      case hAx =>
        rintro x a' s X Y row ⟨Bx, h1, h2, h3⟩ hg hrow
        exact ⟨Bx, h1, blk_own Bx _ (fun _ : Unit => #[.int .i64 (x.1 : Int), .int .i64 (x.2 : Int)]) () X Y row h2 hg (fun r e => (hrow r e).2), h3⟩
      case assign =>
        rintro l pre x W K ⟨⟨v, hv, hr, -⟩, hB, hz⟩ hK
        have hlt8 := hv.lt
        simp only [List.zip_toArray, List.zip_cons_cons, List.zip_nil_right, List.size_toArray, List.length_cons, List.length_nil, List.foldl_toArray', List.foldl_cons, List.foldl_nil, List.setIfInBounds_toArray, List.set_cons_zero, List.set_cons_succ]
        gi_wp2
        exact hK _ _ ((KeepsOthers.alloc _ _).from _) (keep2_of ((Below.refl _ W).alloc (Nat.le_refl _) _) (by omega) (by omega)) ⟨⟨v, hv.alloc _, hr.alloc _, trivial⟩, hB.alloc hB.size _, by simp; omega⟩ ⟨W.heap.size, by omega, Blk.new W _ _, rfl⟩
      case body =>
        rintro l pre x a' W hl ⟨rr, hlr⟩ ⟨⟨v, hv, hrow, -⟩, hB, hz⟩ ⟨Bx, hBx, bX, rfl⟩ hlt
        obtain ⟨x1, x2⟩ := x
        have hc8 := hv.cell
        have kx1 : W.cell? ⟨Bx, 0, none⟩ = some (.int .i64 (x1 : Int)) := bX.cell 0
        have kx2 : W.cell? ⟨Bx, 1, none⟩ = some (.int .i64 (x2 : Int)) := bX.cell 1
        have kC : W.cell? ⟨w.heap.size, 0, none⟩ = some (.slice A n c) := (HbC.out.below hB).cell 0
        by_cases h1 : x1 < n
        · by_cases h2 : x2 < n
          · have h1' : (x1 : Int) < (n : Int) := by omega
            have h2' : (x2 : Int) < (n : Int) := by omega
            gi_upto_region 11 with (fail)
            obtain ⟨ba, oa, rfl, hba, hcs⟩ := Ints.at_ HA.out (k := 0) (by rw [HL.out]; omega)
            obtain ⟨y1, hy1⟩ := getElem?_lt (l := cl) (k := x1) (by rw [HL.out]; exact h1)
            obtain ⟨y2, hy2⟩ := getElem?_lt (l := cl) (k := x2) (by rw [HL.out]; exact h2)
            have hyy : Fix.rawM cl (pre ++ [(x1, x2)]) = Fix.rawM cl pre ++ [(y1, y2)] := by
              rw [Fix.rawM_snoc, show Fix.keptN cl.length (x1, x2) = true from by rw [HL.out]; simp [Fix.keptN, h1, h2], if_pos rfl]
              rw [show Fix.clubM cl (x1, x2) = (y1, y2) from by unfold Fix.clubM; rw [getD_of hy1, getD_of hy2]]
            have HYY := Lib.hid hyy
            have ka1 : w.cell? ⟨ba, oa + x1, none⟩ = some (.int .i64 y1) := hcs _ _ hy1
            have ka2 : w.cell? ⟨ba, oa + x2, none⟩ = some (.int .i64 y2) := hcs _ _ hy2
            have hle := Fix.rawM_le cl pre
            obtain ⟨q, hq⟩ : ∃ q, (Fix.rawM cl pre).length = q := ⟨_, rfl⟩
            rw [hq] at hrow hle
            have Hq := Lib.hid hq
            obtain ⟨A5, c5, rfl, hq5, hc5, -⟩ := own_form hrow
            have hbx : ba < wr.heap.size := by have := Hbw.out.size; omega
            have hCx : w.heap.size < wr.heap.size := HbC.out.lt
            have kw1 : wr.cell? ⟨ba, oa + x1, none⟩ = some (.int .i64 y1) := (Hbw.out.cell (p := ⟨ba, oa + x1, none⟩) hba).trans ka1
            have kw2 : wr.cell? ⟨ba, oa + x2, none⟩ = some (.int .i64 y2) := (Hbw.out.cell (p := ⟨ba, oa + x2, none⟩) hba).trans ka2
            have kwC : wr.cell? ⟨w.heap.size, 0, none⟩ = some (.slice (some ⟨ba, oa, none⟩) n c) := HbC.out.cell 0
            have hb8 : Blk W wr.heap.size 46 #[.slice A5 q c5] := hv
            have hKb : Kb (wr.heap.size + 1 + 1) (wr.heap.size + 1) W W.drew := ⟨Nat.le_refl _, fun _ _ h _ => h, ⟨by omega, rfl⟩, ⟨by omega, rfl⟩⟩
            clear hyy hy1 hy2 hcs ka1 ka2 hq hc8 kx1 kx2 hv
            refine wpIn_region_held (.inr ⟨l, rfl⟩) (noDefer_of (by kernel_rfl)) (S := fun W => Below wr.heap.size wr W) (hm := by kernel_rfl) (hS := below_drewN hB 1) (h := fun Hd => ?_)
            have Hd : Below wr.heap.size wr W.drew := below_drewN hB 1
            have Zd : wr.heap.size + 3 ≤ W.drew.heap.size := hz
            have hrow : W.drew.ownsRow _ _ _ _ _ _ := hrow
            have bX : Blk W.drew _ _ _ := bX
            have hb8 : Blk W.drew _ _ _ := hb8
            generalize World.drew W = wd at *
            refine wpAnyH_take (i := 1) (v := ?_) rfl (by kernel_rfl) (by kernel_rfl) (by kernel_rfl) (fun _ _ _ h => by cases h.1) (Or.inl ⟨by rfl, ?_⟩) Hd ?_
            rotate_left
            · intro wS hSw
              have c1 := (hSw.cell (p := ⟨w.heap.size, 0, none⟩) hCx).trans kwC
              go_simp
              try with_reducible rfl
            try simp only [List.getElem_toArray, List.getElem_cons_zero, List.getElem_cons_succ, Act.put, List.setIfInBounds_toArray, List.set_cons_zero, List.set_cons_succ]
            refine wpAnyH_take (i := 2) (v := ?_) rfl (by kernel_rfl) (by kernel_rfl) (by kernel_rfl) (fun _ _ _ h => by cases h.1) (Or.inl ⟨by rfl, ?_⟩) Hd ?_
            rotate_left
            · intro wS hSw
              go_simp
              try with_reducible rfl
            try simp only [List.getElem_toArray, List.getElem_cons_zero, List.getElem_cons_succ, Act.put, List.setIfInBounds_toArray, List.set_cons_zero, List.set_cons_succ]
            refine wpAnyH_take (i := 6) (v := ?_) rfl (by kernel_rfl) (by kernel_rfl) (by kernel_rfl) (fun _ _ _ h => by cases h.1) (Or.inl ⟨by rfl, ?_⟩) Hd ?_
            rotate_left
            · intro wS hSw
              have c1 := (hSw.cell (p := ⟨w.heap.size, 0, none⟩) hCx).trans kwC
              go_simp
              try with_reducible rfl
            try simp only [List.getElem_toArray, List.getElem_cons_zero, List.getElem_cons_succ, Act.put, List.setIfInBounds_toArray, List.set_cons_zero, List.set_cons_succ]
            refine wpAnyH_take (i := 7) (v := ?_) rfl (by kernel_rfl) (by kernel_rfl) (by kernel_rfl) (fun _ _ _ h => by cases h.1) (Or.inl ⟨by rfl, ?_⟩) Hd ?_
            rotate_left
            · intro wS hSw
              go_simp
              try with_reducible rfl
            try simp only [List.getElem_toArray, List.getElem_cons_zero, List.getElem_cons_succ, Act.put, List.setIfInBounds_toArray, List.set_cons_zero, List.set_cons_succ]
            refine wpAnyH_ready (rs := [0, 3, 8]) (by kernel_rfl) (by simp) (AllReadyH.cons rfl (fun K hK => ?_) (AllReadyH.cons rfl (fun K hK => ?_) (AllReadyH.cons rfl (fun K hK => ?_) AllReadyH.nil)))
            · have q8 := hb8.cell 0
              have q8' : _ = some (Value.slice A5 q c5) := q8
              clear q8
              go_simp
              first | with_reducible rfl | skip
              refine hK.out _ _ Hd fun _ => ?_
              clear hK K
              try simp only [List.getElem_toArray, List.getElem_cons_zero, List.getElem_cons_succ, Act.put, List.setIfInBounds_toArray, List.set_cons_zero, List.set_cons_succ]
              refine wpAnyH_ready (rs := [3, 8]) (by kernel_rfl) (by simp) (AllReadyH.cons rfl (fun K hK => ?_) (AllReadyH.cons rfl (fun K hK => ?_) AllReadyH.nil))
              · have qx := bX.cell 0
                have qx' : _ = some (Value.int .i64 (x1 : Int)) := qx
                clear qx
                go_simp
                first | with_reducible rfl | skip
                refine hK.out _ _ Hd fun _ => ?_
                clear hK K
                try simp only [List.getElem_toArray, List.getElem_cons_zero, List.getElem_cons_succ, Act.put, List.setIfInBounds_toArray, List.set_cons_zero, List.set_cons_succ]
                refine wpAnyH_take (i := 4) (v := ?_) rfl (by kernel_rfl) (by kernel_rfl) (by kernel_rfl) (fun _ _ _ h => by cases h.1) (Or.inl ⟨by rfl, ?_⟩) Hd ?_
                rotate_left
                · intro wS hSw
                  have c1 := (hSw.cell (p := ⟨w.heap.size, 0, none⟩) hCx).trans kwC
                  go_simp
                  try with_reducible rfl
                try simp only [List.getElem_toArray, List.getElem_cons_zero, List.getElem_cons_succ, Act.put, List.setIfInBounds_toArray, List.set_cons_zero, List.set_cons_succ]
                refine wpAnyH_take (i := 5) (v := ?_) rfl (by kernel_rfl) (by kernel_rfl) (by kernel_rfl) (fun _ _ _ h => by cases h.1) (Or.inl ⟨by rfl, ?_⟩) Hd ?_
                rotate_left
                · intro wS hSw
                  have c1 := (hSw.cell (p := ⟨ba, oa + x1, none⟩) hbx).trans kw1
                  go_simp
                  try with_reducible rfl
                try simp only [List.getElem_toArray, List.getElem_cons_zero, List.getElem_cons_succ, Act.put, List.setIfInBounds_toArray, List.set_cons_zero, List.set_cons_succ]
                refine wpAnyH_ready (rs := [8]) (by kernel_rfl) (by simp) (AllReadyH.cons rfl (fun K hK => ?_) AllReadyH.nil)
                have qx := bX.cell 1
                have qx' : _ = some (Value.int .i64 (x2 : Int)) := qx
                clear qx
                go_simp
                first | with_reducible rfl | skip
                refine hK.out _ _ Hd fun _ => ?_
                clear hK K
                try simp only [List.getElem_toArray, List.getElem_cons_zero, List.getElem_cons_succ, Act.put, List.setIfInBounds_toArray, List.set_cons_zero, List.set_cons_succ]
                refine wpAnyH_take (i := 9) (v := ?_) rfl (by kernel_rfl) (by kernel_rfl) (by kernel_rfl) (fun _ _ _ h => by cases h.1) (Or.inl ⟨by rfl, ?_⟩) Hd ?_
                rotate_left
                · intro wS hSw
                  go_simp
                  try with_reducible rfl
                try simp only [List.getElem_toArray, List.getElem_cons_zero, List.getElem_cons_succ, Act.put, List.setIfInBounds_toArray, List.set_cons_zero, List.set_cons_succ]
                refine wpAnyH_take (i := 10) (v := ?_) rfl (by kernel_rfl) (by kernel_rfl) (by kernel_rfl) (fun _ _ _ h => by cases h.1) (Or.inl ⟨by rfl, ?_⟩) Hd ?_
                rotate_left
                · intro wS hSw
                  have c1 := (hSw.cell (p := ⟨ba, oa + x2, none⟩) hbx).trans kw2
                  go_simp
                  try with_reducible rfl
                try simp only [List.getElem_toArray, List.getElem_cons_zero, List.getElem_cons_succ, Act.put, List.setIfInBounds_toArray, List.set_cons_zero, List.set_cons_succ]
                refine wpAnyH_take (i := 11) (v := ?_) rfl (by kernel_rfl) (by kernel_rfl) (by kernel_rfl) (fun _ _ _ h => by cases h.1) (Or.inl ⟨by rfl, ?_⟩) Hd ?_
                rotate_left
                · intro wS hSw
                  go_simp
                  try with_reducible rfl
                try simp only [List.getElem_toArray, List.getElem_cons_zero, List.getElem_cons_succ, Act.put, List.setIfInBounds_toArray, List.set_cons_zero, List.set_cons_succ]
                refine wpAnyH_ready (rs := [12]) (by kernel_rfl) (by simp) (AllReadyH.cons rfl (fun K hK => ?_) AllReadyH.nil)
                go_simp
                generalize hge : World.alloc _ _ = w1_
                have fb1 : Blk w1_ wd.heap.size 51 (#[.int .i64 y1, .int .i64 y2]) := by subst hge; exact Blk.new _ _ _
                have hb1 : Below wd.heap.size wd w1_ := by subst hge; exact (Below.refl _ _).alloc (Nat.le_refl _) _
                clear hge
                have fK1 := hKb.below hb1
                have fl1 := own_below hrow hb1
                have fX1 := bX.below hb1
                have f81 := hb8.below hb1
                have lob1 : wr.heap.size + 3 ≤ wd.heap.size := Zd
                have Hb1 : Below wr.heap.size wr w1_ := below_of Hd hb1 Hd.size
                have Zb1 : wr.heap.size + 3 ≤ w1_.heap.size := Nat.le_trans Zd hb1.size
                refine hK.out _ _ Hb1 fun _ => ?_
                clear hK K
                try simp only [List.getElem_toArray, List.getElem_cons_zero, List.getElem_cons_succ, Act.put, List.setIfInBounds_toArray, List.set_cons_zero, List.set_cons_succ]
                refine wpAnyH_ready (rs := [13]) (by kernel_rfl) (by simp) (AllReadyH.cons rfl (fun K hK => ?_) AllReadyH.nil)
                refine step_append_cells (by rfl) (.tmp 46) (.tmp 58) 46 (by rfl) (wr.heap.size + 3) 51 (.agg #[.int .i64 0, .int .i64 0]) 2 16 (by kernel_rfl) (by kernel_rfl) rfl (by omega) (.slice A5 q c5) q (ivV (Fix.rawM cl pre)) fl1 (by rfl) (some ⟨wd.heap.size, 0, none⟩) 1 1 (ivV [(y1, y2)]) (by rfl) (by rfl) (.inr ⟨_, 0, rfl, fb1.lt, fun j u hu => by rw [Nat.zero_add, fb1.cell j]; simpa [ivV] using hu⟩) (ivV_one _) (by unfold maxLen; omega) (by omega) Zb1 ?_
                intro v2 w2_ own2 hg2 st2
                rw [← ivV_append] at own2
                have fK2 := Kb.row fK1 fl1 (by omega) (by omega) hg2
                have f82 := Blk.grown f81 hg2 (Boxed.not_row (B := wr.heap.size) f81 (by decide) fl1)
                have Hb2 : Below wr.heap.size wr w2_ := below_grown Hb1 hg2 Hb1.size (fun k hk => by have := own_base fl1 k hk; omega)
                have Zb2 : wr.heap.size + 3 ≤ w2_.heap.size := Nat.le_trans Zb1 hg2.size
                obtain ⟨A2_, c2_, rfl, le2, lm2, -⟩ := own_form own2
                refine hK.out _ _ Hb2 fun _ => ?_
                clear hK K
                try simp only [List.getElem_toArray, List.getElem_cons_zero, List.getElem_cons_succ, Act.put, List.setIfInBounds_toArray, List.set_cons_zero, List.set_cons_succ]
                refine wpAnyH_ready (rs := [14]) (by kernel_rfl) (by simp) (AllReadyH.cons rfl (fun K hK => ?_) AllReadyH.nil)
                refine step_put_cell (by rfl) _ _ _ (by rfl) (wr.heap.size) 0 (.slice A2_ (q + 1) c2_) (by rfl) (by rfl) _ _ f82 (by simp) (by kernel_rfl) (by rfl) ?_
                intro w3_ f83 hg3 hz3
                have Hb3 : Below wr.heap.size wr w3_ := below_grown Hb2 hg3 Hb2.size (fun k hk => by cases hk; exact Nat.le_refl _)
                have Zb3 : wr.heap.size + 3 ≤ w3_.heap.size := Nat.le_trans Zb2 hg3.size
                have fK3 := Kb.step fK2 hg3 (fun g e => by cases e; exact ⟨⟨_, _, _, f82⟩, by omega, by omega⟩)
                have own3 := own2.kept hg3 (.inr (Ne.symm (Boxed.not_row (B := wr.heap.size) f82 (by decide) own2)))
                refine hK.out _ _ Hb3 fun _ => ?_
                clear hK K
                try simp only [List.getElem_toArray, List.getElem_cons_zero, List.getElem_cons_succ, Act.put, List.setIfInBounds_toArray, List.set_cons_zero, List.set_cons_succ]
                refine wpAnyH_done (by kernel_rfl) ?_ _
                refine ⟨rfl, ?_⟩
                have hfin := own3
                have hK9 := (fK3).keeps W1.heap.size
                refine ⟨hK9.1, hK9.2, ⟨_, f83, ?_⟩, Hb3, Zb3⟩
                rw [HYY.out, List.length_append, Hq.out]
                exact ⟨hfin, trivial⟩
              · have qx := bX.cell 1
                have qx' : _ = some (Value.int .i64 (x2 : Int)) := qx
                clear qx
                go_simp
                first | with_reducible rfl | skip
                refine hK.out _ _ Hd fun _ => ?_
                clear hK K
                try simp only [List.getElem_toArray, List.getElem_cons_zero, List.getElem_cons_succ, Act.put, List.setIfInBounds_toArray, List.set_cons_zero, List.set_cons_succ]
                refine wpAnyH_take (i := 9) (v := ?_) rfl (by kernel_rfl) (by kernel_rfl) (by kernel_rfl) (fun _ _ _ h => by cases h.1) (Or.inl ⟨by rfl, ?_⟩) Hd ?_
                rotate_left
                · intro wS hSw
                  go_simp
                  try with_reducible rfl
                try simp only [List.getElem_toArray, List.getElem_cons_zero, List.getElem_cons_succ, Act.put, List.setIfInBounds_toArray, List.set_cons_zero, List.set_cons_succ]
                refine wpAnyH_take (i := 10) (v := ?_) rfl (by kernel_rfl) (by kernel_rfl) (by kernel_rfl) (fun _ _ _ h => by cases h.1) (Or.inl ⟨by rfl, ?_⟩) Hd ?_
                rotate_left
                · intro wS hSw
                  have c1 := (hSw.cell (p := ⟨ba, oa + x2, none⟩) hbx).trans kw2
                  go_simp
                  try with_reducible rfl
                try simp only [List.getElem_toArray, List.getElem_cons_zero, List.getElem_cons_succ, Act.put, List.setIfInBounds_toArray, List.set_cons_zero, List.set_cons_succ]
                refine wpAnyH_ready (rs := [3]) (by kernel_rfl) (by simp) (AllReadyH.cons rfl (fun K hK => ?_) AllReadyH.nil)
                have qx := bX.cell 0
                have qx' : _ = some (Value.int .i64 (x1 : Int)) := qx
                clear qx
                go_simp
                first | with_reducible rfl | skip
                refine hK.out _ _ Hd fun _ => ?_
                clear hK K
                try simp only [List.getElem_toArray, List.getElem_cons_zero, List.getElem_cons_succ, Act.put, List.setIfInBounds_toArray, List.set_cons_zero, List.set_cons_succ]
                refine wpAnyH_take (i := 4) (v := ?_) rfl (by kernel_rfl) (by kernel_rfl) (by kernel_rfl) (fun _ _ _ h => by cases h.1) (Or.inl ⟨by rfl, ?_⟩) Hd ?_
                rotate_left
                · intro wS hSw
                  have c1 := (hSw.cell (p := ⟨w.heap.size, 0, none⟩) hCx).trans kwC
                  go_simp
                  try with_reducible rfl
                try simp only [List.getElem_toArray, List.getElem_cons_zero, List.getElem_cons_succ, Act.put, List.setIfInBounds_toArray, List.set_cons_zero, List.set_cons_succ]
                refine wpAnyH_take (i := 5) (v := ?_) rfl (by kernel_rfl) (by kernel_rfl) (by kernel_rfl) (fun _ _ _ h => by cases h.1) (Or.inl ⟨by rfl, ?_⟩) Hd ?_
                rotate_left
                · intro wS hSw
                  have c1 := (hSw.cell (p := ⟨ba, oa + x1, none⟩) hbx).trans kw1
                  go_simp
                  try with_reducible rfl
                try simp only [List.getElem_toArray, List.getElem_cons_zero, List.getElem_cons_succ, Act.put, List.setIfInBounds_toArray, List.set_cons_zero, List.set_cons_succ]
                refine wpAnyH_take (i := 11) (v := ?_) rfl (by kernel_rfl) (by kernel_rfl) (by kernel_rfl) (fun _ _ _ h => by cases h.1) (Or.inl ⟨by rfl, ?_⟩) Hd ?_
                rotate_left
                · intro wS hSw
                  go_simp
                  try with_reducible rfl
                try simp only [List.getElem_toArray, List.getElem_cons_zero, List.getElem_cons_succ, Act.put, List.setIfInBounds_toArray, List.set_cons_zero, List.set_cons_succ]
                refine wpAnyH_ready (rs := [12]) (by kernel_rfl) (by simp) (AllReadyH.cons rfl (fun K hK => ?_) AllReadyH.nil)
                go_simp
                generalize hge : World.alloc _ _ = w1_
                have fb1 : Blk w1_ wd.heap.size 51 (#[.int .i64 y1, .int .i64 y2]) := by subst hge; exact Blk.new _ _ _
                have hb1 : Below wd.heap.size wd w1_ := by subst hge; exact (Below.refl _ _).alloc (Nat.le_refl _) _
                clear hge
                have fK1 := hKb.below hb1
                have fl1 := own_below hrow hb1
                have fX1 := bX.below hb1
                have f81 := hb8.below hb1
                have lob1 : wr.heap.size + 3 ≤ wd.heap.size := Zd
                have Hb1 : Below wr.heap.size wr w1_ := below_of Hd hb1 Hd.size
                have Zb1 : wr.heap.size + 3 ≤ w1_.heap.size := Nat.le_trans Zd hb1.size
                refine hK.out _ _ Hb1 fun _ => ?_
                clear hK K
                try simp only [List.getElem_toArray, List.getElem_cons_zero, List.getElem_cons_succ, Act.put, List.setIfInBounds_toArray, List.set_cons_zero, List.set_cons_succ]
                refine wpAnyH_ready (rs := [13]) (by kernel_rfl) (by simp) (AllReadyH.cons rfl (fun K hK => ?_) AllReadyH.nil)
                refine step_append_cells (by rfl) (.tmp 46) (.tmp 58) 46 (by rfl) (wr.heap.size + 3) 51 (.agg #[.int .i64 0, .int .i64 0]) 2 16 (by kernel_rfl) (by kernel_rfl) rfl (by omega) (.slice A5 q c5) q (ivV (Fix.rawM cl pre)) fl1 (by rfl) (some ⟨wd.heap.size, 0, none⟩) 1 1 (ivV [(y1, y2)]) (by rfl) (by rfl) (.inr ⟨_, 0, rfl, fb1.lt, fun j u hu => by rw [Nat.zero_add, fb1.cell j]; simpa [ivV] using hu⟩) (ivV_one _) (by unfold maxLen; omega) (by omega) Zb1 ?_
                intro v2 w2_ own2 hg2 st2
                rw [← ivV_append] at own2
                have fK2 := Kb.row fK1 fl1 (by omega) (by omega) hg2
                have f82 := Blk.grown f81 hg2 (Boxed.not_row (B := wr.heap.size) f81 (by decide) fl1)
                have Hb2 : Below wr.heap.size wr w2_ := below_grown Hb1 hg2 Hb1.size (fun k hk => by have := own_base fl1 k hk; omega)
                have Zb2 : wr.heap.size + 3 ≤ w2_.heap.size := Nat.le_trans Zb1 hg2.size
                obtain ⟨A2_, c2_, rfl, le2, lm2, -⟩ := own_form own2
                refine hK.out _ _ Hb2 fun _ => ?_
                clear hK K
                try simp only [List.getElem_toArray, List.getElem_cons_zero, List.getElem_cons_succ, Act.put, List.setIfInBounds_toArray, List.set_cons_zero, List.set_cons_succ]
                refine wpAnyH_ready (rs := [14]) (by kernel_rfl) (by simp) (AllReadyH.cons rfl (fun K hK => ?_) AllReadyH.nil)
                refine step_put_cell (by rfl) _ _ _ (by rfl) (wr.heap.size) 0 (.slice A2_ (q + 1) c2_) (by rfl) (by rfl) _ _ f82 (by simp) (by kernel_rfl) (by rfl) ?_
                intro w3_ f83 hg3 hz3
                have Hb3 : Below wr.heap.size wr w3_ := below_grown Hb2 hg3 Hb2.size (fun k hk => by cases hk; exact Nat.le_refl _)
                have Zb3 : wr.heap.size + 3 ≤ w3_.heap.size := Nat.le_trans Zb2 hg3.size
                have fK3 := Kb.step fK2 hg3 (fun g e => by cases e; exact ⟨⟨_, _, _, f82⟩, by omega, by omega⟩)
                have own3 := own2.kept hg3 (.inr (Ne.symm (Boxed.not_row (B := wr.heap.size) f82 (by decide) own2)))
                refine hK.out _ _ Hb3 fun _ => ?_
                clear hK K
                try simp only [List.getElem_toArray, List.getElem_cons_zero, List.getElem_cons_succ, Act.put, List.setIfInBounds_toArray, List.set_cons_zero, List.set_cons_succ]
                refine wpAnyH_done (by kernel_rfl) ?_ _
                refine ⟨rfl, ?_⟩
                have hfin := own3
                have hK9 := (fK3).keeps W1.heap.size
                refine ⟨hK9.1, hK9.2, ⟨_, f83, ?_⟩, Hb3, Zb3⟩
                rw [HYY.out, List.length_append, Hq.out]
                exact ⟨hfin, trivial⟩
            · have qx := bX.cell 0
              have qx' : _ = some (Value.int .i64 (x1 : Int)) := qx
              clear qx
              go_simp
              first | with_reducible rfl | skip
              refine hK.out _ _ Hd fun _ => ?_
              clear hK K
              try simp only [List.getElem_toArray, List.getElem_cons_zero, List.getElem_cons_succ, Act.put, List.setIfInBounds_toArray, List.set_cons_zero, List.set_cons_succ]
              refine wpAnyH_take (i := 4) (v := ?_) rfl (by kernel_rfl) (by kernel_rfl) (by kernel_rfl) (fun _ _ _ h => by cases h.1) (Or.inl ⟨by rfl, ?_⟩) Hd ?_
              rotate_left
              · intro wS hSw
                have c1 := (hSw.cell (p := ⟨w.heap.size, 0, none⟩) hCx).trans kwC
                go_simp
                try with_reducible rfl
              try simp only [List.getElem_toArray, List.getElem_cons_zero, List.getElem_cons_succ, Act.put, List.setIfInBounds_toArray, List.set_cons_zero, List.set_cons_succ]
              refine wpAnyH_take (i := 5) (v := ?_) rfl (by kernel_rfl) (by kernel_rfl) (by kernel_rfl) (fun _ _ _ h => by cases h.1) (Or.inl ⟨by rfl, ?_⟩) Hd ?_
              rotate_left
              · intro wS hSw
                have c1 := (hSw.cell (p := ⟨ba, oa + x1, none⟩) hbx).trans kw1
                go_simp
                try with_reducible rfl
              try simp only [List.getElem_toArray, List.getElem_cons_zero, List.getElem_cons_succ, Act.put, List.setIfInBounds_toArray, List.set_cons_zero, List.set_cons_succ]
              refine wpAnyH_ready (rs := [0, 8]) (by kernel_rfl) (by simp) (AllReadyH.cons rfl (fun K hK => ?_) (AllReadyH.cons rfl (fun K hK => ?_) AllReadyH.nil))
              · have q8 := hb8.cell 0
                have q8' : _ = some (Value.slice A5 q c5) := q8
                clear q8
                go_simp
                first | with_reducible rfl | skip
                refine hK.out _ _ Hd fun _ => ?_
                clear hK K
                try simp only [List.getElem_toArray, List.getElem_cons_zero, List.getElem_cons_succ, Act.put, List.setIfInBounds_toArray, List.set_cons_zero, List.set_cons_succ]
                refine wpAnyH_ready (rs := [8]) (by kernel_rfl) (by simp) (AllReadyH.cons rfl (fun K hK => ?_) AllReadyH.nil)
                have qx := bX.cell 1
                have qx' : _ = some (Value.int .i64 (x2 : Int)) := qx
                clear qx
                go_simp
                first | with_reducible rfl | skip
                refine hK.out _ _ Hd fun _ => ?_
                clear hK K
                try simp only [List.getElem_toArray, List.getElem_cons_zero, List.getElem_cons_succ, Act.put, List.setIfInBounds_toArray, List.set_cons_zero, List.set_cons_succ]
                refine wpAnyH_take (i := 9) (v := ?_) rfl (by kernel_rfl) (by kernel_rfl) (by kernel_rfl) (fun _ _ _ h => by cases h.1) (Or.inl ⟨by rfl, ?_⟩) Hd ?_
                rotate_left
                · intro wS hSw
                  go_simp
                  try with_reducible rfl
                try simp only [List.getElem_toArray, List.getElem_cons_zero, List.getElem_cons_succ, Act.put, List.setIfInBounds_toArray, List.set_cons_zero, List.set_cons_succ]
                refine wpAnyH_take (i := 10) (v := ?_) rfl (by kernel_rfl) (by kernel_rfl) (by kernel_rfl) (fun _ _ _ h => by cases h.1) (Or.inl ⟨by rfl, ?_⟩) Hd ?_
                rotate_left
                · intro wS hSw
                  have c1 := (hSw.cell (p := ⟨ba, oa + x2, none⟩) hbx).trans kw2
                  go_simp
                  try with_reducible rfl
                try simp only [List.getElem_toArray, List.getElem_cons_zero, List.getElem_cons_succ, Act.put, List.setIfInBounds_toArray, List.set_cons_zero, List.set_cons_succ]
                refine wpAnyH_take (i := 11) (v := ?_) rfl (by kernel_rfl) (by kernel_rfl) (by kernel_rfl) (fun _ _ _ h => by cases h.1) (Or.inl ⟨by rfl, ?_⟩) Hd ?_
                rotate_left
                · intro wS hSw
                  go_simp
                  try with_reducible rfl
                try simp only [List.getElem_toArray, List.getElem_cons_zero, List.getElem_cons_succ, Act.put, List.setIfInBounds_toArray, List.set_cons_zero, List.set_cons_succ]
                refine wpAnyH_ready (rs := [12]) (by kernel_rfl) (by simp) (AllReadyH.cons rfl (fun K hK => ?_) AllReadyH.nil)
                go_simp
                generalize hge : World.alloc _ _ = w1_
                have fb1 : Blk w1_ wd.heap.size 51 (#[.int .i64 y1, .int .i64 y2]) := by subst hge; exact Blk.new _ _ _
                have hb1 : Below wd.heap.size wd w1_ := by subst hge; exact (Below.refl _ _).alloc (Nat.le_refl _) _
                clear hge
                have fK1 := hKb.below hb1
                have fl1 := own_below hrow hb1
                have fX1 := bX.below hb1
                have f81 := hb8.below hb1
                have lob1 : wr.heap.size + 3 ≤ wd.heap.size := Zd
                have Hb1 : Below wr.heap.size wr w1_ := below_of Hd hb1 Hd.size
                have Zb1 : wr.heap.size + 3 ≤ w1_.heap.size := Nat.le_trans Zd hb1.size
                refine hK.out _ _ Hb1 fun _ => ?_
                clear hK K
                try simp only [List.getElem_toArray, List.getElem_cons_zero, List.getElem_cons_succ, Act.put, List.setIfInBounds_toArray, List.set_cons_zero, List.set_cons_succ]
                refine wpAnyH_ready (rs := [13]) (by kernel_rfl) (by simp) (AllReadyH.cons rfl (fun K hK => ?_) AllReadyH.nil)
                refine step_append_cells (by rfl) (.tmp 46) (.tmp 58) 46 (by rfl) (wr.heap.size + 3) 51 (.agg #[.int .i64 0, .int .i64 0]) 2 16 (by kernel_rfl) (by kernel_rfl) rfl (by omega) (.slice A5 q c5) q (ivV (Fix.rawM cl pre)) fl1 (by rfl) (some ⟨wd.heap.size, 0, none⟩) 1 1 (ivV [(y1, y2)]) (by rfl) (by rfl) (.inr ⟨_, 0, rfl, fb1.lt, fun j u hu => by rw [Nat.zero_add, fb1.cell j]; simpa [ivV] using hu⟩) (ivV_one _) (by unfold maxLen; omega) (by omega) Zb1 ?_
                intro v2 w2_ own2 hg2 st2
                rw [← ivV_append] at own2
                have fK2 := Kb.row fK1 fl1 (by omega) (by omega) hg2
                have f82 := Blk.grown f81 hg2 (Boxed.not_row (B := wr.heap.size) f81 (by decide) fl1)
                have Hb2 : Below wr.heap.size wr w2_ := below_grown Hb1 hg2 Hb1.size (fun k hk => by have := own_base fl1 k hk; omega)
                have Zb2 : wr.heap.size + 3 ≤ w2_.heap.size := Nat.le_trans Zb1 hg2.size
                obtain ⟨A2_, c2_, rfl, le2, lm2, -⟩ := own_form own2
                refine hK.out _ _ Hb2 fun _ => ?_
                clear hK K
                try simp only [List.getElem_toArray, List.getElem_cons_zero, List.getElem_cons_succ, Act.put, List.setIfInBounds_toArray, List.set_cons_zero, List.set_cons_succ]
                refine wpAnyH_ready (rs := [14]) (by kernel_rfl) (by simp) (AllReadyH.cons rfl (fun K hK => ?_) AllReadyH.nil)
                refine step_put_cell (by rfl) _ _ _ (by rfl) (wr.heap.size) 0 (.slice A2_ (q + 1) c2_) (by rfl) (by rfl) _ _ f82 (by simp) (by kernel_rfl) (by rfl) ?_
                intro w3_ f83 hg3 hz3
                have Hb3 : Below wr.heap.size wr w3_ := below_grown Hb2 hg3 Hb2.size (fun k hk => by cases hk; exact Nat.le_refl _)
                have Zb3 : wr.heap.size + 3 ≤ w3_.heap.size := Nat.le_trans Zb2 hg3.size
                have fK3 := Kb.step fK2 hg3 (fun g e => by cases e; exact ⟨⟨_, _, _, f82⟩, by omega, by omega⟩)
                have own3 := own2.kept hg3 (.inr (Ne.symm (Boxed.not_row (B := wr.heap.size) f82 (by decide) own2)))
                refine hK.out _ _ Hb3 fun _ => ?_
                clear hK K
                try simp only [List.getElem_toArray, List.getElem_cons_zero, List.getElem_cons_succ, Act.put, List.setIfInBounds_toArray, List.set_cons_zero, List.set_cons_succ]
                refine wpAnyH_done (by kernel_rfl) ?_ _
                refine ⟨rfl, ?_⟩
                have hfin := own3
                have hK9 := (fK3).keeps W1.heap.size
                refine ⟨hK9.1, hK9.2, ⟨_, f83, ?_⟩, Hb3, Zb3⟩
                rw [HYY.out, List.length_append, Hq.out]
                exact ⟨hfin, trivial⟩
              · have qx := bX.cell 1
                have qx' : _ = some (Value.int .i64 (x2 : Int)) := qx
                clear qx
                go_simp
                first | with_reducible rfl | skip
                refine hK.out _ _ Hd fun _ => ?_
                clear hK K
                try simp only [List.getElem_toArray, List.getElem_cons_zero, List.getElem_cons_succ, Act.put, List.setIfInBounds_toArray, List.set_cons_zero, List.set_cons_succ]
                refine wpAnyH_take (i := 9) (v := ?_) rfl (by kernel_rfl) (by kernel_rfl) (by kernel_rfl) (fun _ _ _ h => by cases h.1) (Or.inl ⟨by rfl, ?_⟩) Hd ?_
                rotate_left
                · intro wS hSw
                  go_simp
                  try with_reducible rfl
                try simp only [List.getElem_toArray, List.getElem_cons_zero, List.getElem_cons_succ, Act.put, List.setIfInBounds_toArray, List.set_cons_zero, List.set_cons_succ]
                refine wpAnyH_take (i := 10) (v := ?_) rfl (by kernel_rfl) (by kernel_rfl) (by kernel_rfl) (fun _ _ _ h => by cases h.1) (Or.inl ⟨by rfl, ?_⟩) Hd ?_
                rotate_left
                · intro wS hSw
                  have c1 := (hSw.cell (p := ⟨ba, oa + x2, none⟩) hbx).trans kw2
                  go_simp
                  try with_reducible rfl
                try simp only [List.getElem_toArray, List.getElem_cons_zero, List.getElem_cons_succ, Act.put, List.setIfInBounds_toArray, List.set_cons_zero, List.set_cons_succ]
                refine wpAnyH_take (i := 11) (v := ?_) rfl (by kernel_rfl) (by kernel_rfl) (by kernel_rfl) (fun _ _ _ h => by cases h.1) (Or.inl ⟨by rfl, ?_⟩) Hd ?_
                rotate_left
                · intro wS hSw
                  go_simp
                  try with_reducible rfl
                try simp only [List.getElem_toArray, List.getElem_cons_zero, List.getElem_cons_succ, Act.put, List.setIfInBounds_toArray, List.set_cons_zero, List.set_cons_succ]
                refine wpAnyH_ready (rs := [0, 12]) (by kernel_rfl) (by simp) (AllReadyH.cons rfl (fun K hK => ?_) (AllReadyH.cons rfl (fun K hK => ?_) AllReadyH.nil))
                · have q8 := hb8.cell 0
                  have q8' : _ = some (Value.slice A5 q c5) := q8
                  clear q8
                  go_simp
                  first | with_reducible rfl | skip
                  refine hK.out _ _ Hd fun _ => ?_
                  clear hK K
                  try simp only [List.getElem_toArray, List.getElem_cons_zero, List.getElem_cons_succ, Act.put, List.setIfInBounds_toArray, List.set_cons_zero, List.set_cons_succ]
                  refine wpAnyH_ready (rs := [12]) (by kernel_rfl) (by simp) (AllReadyH.cons rfl (fun K hK => ?_) AllReadyH.nil)
                  go_simp
                  generalize hge : World.alloc _ _ = w1_
                  have fb1 : Blk w1_ wd.heap.size 51 (#[.int .i64 y1, .int .i64 y2]) := by subst hge; exact Blk.new _ _ _
                  have hb1 : Below wd.heap.size wd w1_ := by subst hge; exact (Below.refl _ _).alloc (Nat.le_refl _) _
                  clear hge
                  have fK1 := hKb.below hb1
                  have fl1 := own_below hrow hb1
                  have fX1 := bX.below hb1
                  have f81 := hb8.below hb1
                  have lob1 : wr.heap.size + 3 ≤ wd.heap.size := Zd
                  have Hb1 : Below wr.heap.size wr w1_ := below_of Hd hb1 Hd.size
                  have Zb1 : wr.heap.size + 3 ≤ w1_.heap.size := Nat.le_trans Zd hb1.size
                  refine hK.out _ _ Hb1 fun _ => ?_
                  clear hK K
                  try simp only [List.getElem_toArray, List.getElem_cons_zero, List.getElem_cons_succ, Act.put, List.setIfInBounds_toArray, List.set_cons_zero, List.set_cons_succ]
                  refine wpAnyH_ready (rs := [13]) (by kernel_rfl) (by simp) (AllReadyH.cons rfl (fun K hK => ?_) AllReadyH.nil)
                  refine step_append_cells (by rfl) (.tmp 46) (.tmp 58) 46 (by rfl) (wr.heap.size + 3) 51 (.agg #[.int .i64 0, .int .i64 0]) 2 16 (by kernel_rfl) (by kernel_rfl) rfl (by omega) (.slice A5 q c5) q (ivV (Fix.rawM cl pre)) fl1 (by rfl) (some ⟨wd.heap.size, 0, none⟩) 1 1 (ivV [(y1, y2)]) (by rfl) (by rfl) (.inr ⟨_, 0, rfl, fb1.lt, fun j u hu => by rw [Nat.zero_add, fb1.cell j]; simpa [ivV] using hu⟩) (ivV_one _) (by unfold maxLen; omega) (by omega) Zb1 ?_
                  intro v2 w2_ own2 hg2 st2
                  rw [← ivV_append] at own2
                  have fK2 := Kb.row fK1 fl1 (by omega) (by omega) hg2
                  have f82 := Blk.grown f81 hg2 (Boxed.not_row (B := wr.heap.size) f81 (by decide) fl1)
                  have Hb2 : Below wr.heap.size wr w2_ := below_grown Hb1 hg2 Hb1.size (fun k hk => by have := own_base fl1 k hk; omega)
                  have Zb2 : wr.heap.size + 3 ≤ w2_.heap.size := Nat.le_trans Zb1 hg2.size
                  obtain ⟨A2_, c2_, rfl, le2, lm2, -⟩ := own_form own2
                  refine hK.out _ _ Hb2 fun _ => ?_
                  clear hK K
                  try simp only [List.getElem_toArray, List.getElem_cons_zero, List.getElem_cons_succ, Act.put, List.setIfInBounds_toArray, List.set_cons_zero, List.set_cons_succ]
                  refine wpAnyH_ready (rs := [14]) (by kernel_rfl) (by simp) (AllReadyH.cons rfl (fun K hK => ?_) AllReadyH.nil)
                  refine step_put_cell (by rfl) _ _ _ (by rfl) (wr.heap.size) 0 (.slice A2_ (q + 1) c2_) (by rfl) (by rfl) _ _ f82 (by simp) (by kernel_rfl) (by rfl) ?_
                  intro w3_ f83 hg3 hz3
                  have Hb3 : Below wr.heap.size wr w3_ := below_grown Hb2 hg3 Hb2.size (fun k hk => by cases hk; exact Nat.le_refl _)
                  have Zb3 : wr.heap.size + 3 ≤ w3_.heap.size := Nat.le_trans Zb2 hg3.size
                  have fK3 := Kb.step fK2 hg3 (fun g e => by cases e; exact ⟨⟨_, _, _, f82⟩, by omega, by omega⟩)
                  have own3 := own2.kept hg3 (.inr (Ne.symm (Boxed.not_row (B := wr.heap.size) f82 (by decide) own2)))
                  refine hK.out _ _ Hb3 fun _ => ?_
                  clear hK K
                  try simp only [List.getElem_toArray, List.getElem_cons_zero, List.getElem_cons_succ, Act.put, List.setIfInBounds_toArray, List.set_cons_zero, List.set_cons_succ]
                  refine wpAnyH_done (by kernel_rfl) ?_ _
                  refine ⟨rfl, ?_⟩
                  have hfin := own3
                  have hK9 := (fK3).keeps W1.heap.size
                  refine ⟨hK9.1, hK9.2, ⟨_, f83, ?_⟩, Hb3, Zb3⟩
                  rw [HYY.out, List.length_append, Hq.out]
                  exact ⟨hfin, trivial⟩
                · go_simp
                  generalize hge : World.alloc _ _ = w1_
                  have fb1 : Blk w1_ wd.heap.size 51 (#[.int .i64 y1, .int .i64 y2]) := by subst hge; exact Blk.new _ _ _
                  have hb1 : Below wd.heap.size wd w1_ := by subst hge; exact (Below.refl _ _).alloc (Nat.le_refl _) _
                  clear hge
                  have fK1 := hKb.below hb1
                  have fl1 := own_below hrow hb1
                  have fX1 := bX.below hb1
                  have f81 := hb8.below hb1
                  have lob1 : wr.heap.size + 3 ≤ wd.heap.size := Zd
                  have Hb1 : Below wr.heap.size wr w1_ := below_of Hd hb1 Hd.size
                  have Zb1 : wr.heap.size + 3 ≤ w1_.heap.size := Nat.le_trans Zd hb1.size
                  refine hK.out _ _ Hb1 fun _ => ?_
                  clear hK K
                  try simp only [List.getElem_toArray, List.getElem_cons_zero, List.getElem_cons_succ, Act.put, List.setIfInBounds_toArray, List.set_cons_zero, List.set_cons_succ]
                  refine wpAnyH_ready (rs := [0]) (by kernel_rfl) (by simp) (AllReadyH.cons rfl (fun K hK => ?_) AllReadyH.nil)
                  have q8 := f81.cell 0
                  have q8' : _ = some (Value.slice A5 q c5) := q8
                  clear q8
                  go_simp
                  first | with_reducible rfl | skip
                  refine hK.out _ _ Hb1 fun _ => ?_
                  clear hK K
                  try simp only [List.getElem_toArray, List.getElem_cons_zero, List.getElem_cons_succ, Act.put, List.setIfInBounds_toArray, List.set_cons_zero, List.set_cons_succ]
                  refine wpAnyH_ready (rs := [13]) (by kernel_rfl) (by simp) (AllReadyH.cons rfl (fun K hK => ?_) AllReadyH.nil)
                  refine step_append_cells (by rfl) (.tmp 46) (.tmp 58) 46 (by rfl) (wr.heap.size + 3) 51 (.agg #[.int .i64 0, .int .i64 0]) 2 16 (by kernel_rfl) (by kernel_rfl) rfl (by omega) (.slice A5 q c5) q (ivV (Fix.rawM cl pre)) fl1 (by rfl) (some ⟨wd.heap.size, 0, none⟩) 1 1 (ivV [(y1, y2)]) (by rfl) (by rfl) (.inr ⟨_, 0, rfl, fb1.lt, fun j u hu => by rw [Nat.zero_add, fb1.cell j]; simpa [ivV] using hu⟩) (ivV_one _) (by unfold maxLen; omega) (by omega) Zb1 ?_
                  intro v2 w2_ own2 hg2 st2
                  rw [← ivV_append] at own2
                  have fK2 := Kb.row fK1 fl1 (by omega) (by omega) hg2
                  have f82 := Blk.grown f81 hg2 (Boxed.not_row (B := wr.heap.size) f81 (by decide) fl1)
                  have Hb2 : Below wr.heap.size wr w2_ := below_grown Hb1 hg2 Hb1.size (fun k hk => by have := own_base fl1 k hk; omega)
                  have Zb2 : wr.heap.size + 3 ≤ w2_.heap.size := Nat.le_trans Zb1 hg2.size
                  obtain ⟨A2_, c2_, rfl, le2, lm2, -⟩ := own_form own2
                  refine hK.out _ _ Hb2 fun _ => ?_
                  clear hK K
                  try simp only [List.getElem_toArray, List.getElem_cons_zero, List.getElem_cons_succ, Act.put, List.setIfInBounds_toArray, List.set_cons_zero, List.set_cons_succ]
                  refine wpAnyH_ready (rs := [14]) (by kernel_rfl) (by simp) (AllReadyH.cons rfl (fun K hK => ?_) AllReadyH.nil)
                  refine step_put_cell (by rfl) _ _ _ (by rfl) (wr.heap.size) 0 (.slice A2_ (q + 1) c2_) (by rfl) (by rfl) _ _ f82 (by simp) (by kernel_rfl) (by rfl) ?_
                  intro w3_ f83 hg3 hz3
                  have Hb3 : Below wr.heap.size wr w3_ := below_grown Hb2 hg3 Hb2.size (fun k hk => by cases hk; exact Nat.le_refl _)
                  have Zb3 : wr.heap.size + 3 ≤ w3_.heap.size := Nat.le_trans Zb2 hg3.size
                  have fK3 := Kb.step fK2 hg3 (fun g e => by cases e; exact ⟨⟨_, _, _, f82⟩, by omega, by omega⟩)
                  have own3 := own2.kept hg3 (.inr (Ne.symm (Boxed.not_row (B := wr.heap.size) f82 (by decide) own2)))
                  refine hK.out _ _ Hb3 fun _ => ?_
                  clear hK K
                  try simp only [List.getElem_toArray, List.getElem_cons_zero, List.getElem_cons_succ, Act.put, List.setIfInBounds_toArray, List.set_cons_zero, List.set_cons_succ]
                  refine wpAnyH_done (by kernel_rfl) ?_ _
                  refine ⟨rfl, ?_⟩
                  have hfin := own3
                  have hK9 := (fK3).keeps W1.heap.size
                  refine ⟨hK9.1, hK9.2, ⟨_, f83, ?_⟩, Hb3, Zb3⟩
                  rw [HYY.out, List.length_append, Hq.out]
                  exact ⟨hfin, trivial⟩
            · have qx := bX.cell 1
              have qx' : _ = some (Value.int .i64 (x2 : Int)) := qx
              clear qx
              go_simp
              first | with_reducible rfl | skip
              refine hK.out _ _ Hd fun _ => ?_
              clear hK K
              try simp only [List.getElem_toArray, List.getElem_cons_zero, List.getElem_cons_succ, Act.put, List.setIfInBounds_toArray, List.set_cons_zero, List.set_cons_succ]
              refine wpAnyH_take (i := 9) (v := ?_) rfl (by kernel_rfl) (by kernel_rfl) (by kernel_rfl) (fun _ _ _ h => by cases h.1) (Or.inl ⟨by rfl, ?_⟩) Hd ?_
              rotate_left
              · intro wS hSw
                go_simp
                try with_reducible rfl
              try simp only [List.getElem_toArray, List.getElem_cons_zero, List.getElem_cons_succ, Act.put, List.setIfInBounds_toArray, List.set_cons_zero, List.set_cons_succ]
              refine wpAnyH_take (i := 10) (v := ?_) rfl (by kernel_rfl) (by kernel_rfl) (by kernel_rfl) (fun _ _ _ h => by cases h.1) (Or.inl ⟨by rfl, ?_⟩) Hd ?_
              rotate_left
              · intro wS hSw
                have c1 := (hSw.cell (p := ⟨ba, oa + x2, none⟩) hbx).trans kw2
                go_simp
                try with_reducible rfl
              try simp only [List.getElem_toArray, List.getElem_cons_zero, List.getElem_cons_succ, Act.put, List.setIfInBounds_toArray, List.set_cons_zero, List.set_cons_succ]
              refine wpAnyH_ready (rs := [0, 3]) (by kernel_rfl) (by simp) (AllReadyH.cons rfl (fun K hK => ?_) (AllReadyH.cons rfl (fun K hK => ?_) AllReadyH.nil))
              · have q8 := hb8.cell 0
                have q8' : _ = some (Value.slice A5 q c5) := q8
                clear q8
                go_simp
                first | with_reducible rfl | skip
                refine hK.out _ _ Hd fun _ => ?_
                clear hK K
                try simp only [List.getElem_toArray, List.getElem_cons_zero, List.getElem_cons_succ, Act.put, List.setIfInBounds_toArray, List.set_cons_zero, List.set_cons_succ]
                refine wpAnyH_ready (rs := [3]) (by kernel_rfl) (by simp) (AllReadyH.cons rfl (fun K hK => ?_) AllReadyH.nil)
                have qx := bX.cell 0
                have qx' : _ = some (Value.int .i64 (x1 : Int)) := qx
                clear qx
                go_simp
                first | with_reducible rfl | skip
                refine hK.out _ _ Hd fun _ => ?_
                clear hK K
                try simp only [List.getElem_toArray, List.getElem_cons_zero, List.getElem_cons_succ, Act.put, List.setIfInBounds_toArray, List.set_cons_zero, List.set_cons_succ]
                refine wpAnyH_take (i := 4) (v := ?_) rfl (by kernel_rfl) (by kernel_rfl) (by kernel_rfl) (fun _ _ _ h => by cases h.1) (Or.inl ⟨by rfl, ?_⟩) Hd ?_
                rotate_left
                · intro wS hSw
                  have c1 := (hSw.cell (p := ⟨w.heap.size, 0, none⟩) hCx).trans kwC
                  go_simp
                  try with_reducible rfl
                try simp only [List.getElem_toArray, List.getElem_cons_zero, List.getElem_cons_succ, Act.put, List.setIfInBounds_toArray, List.set_cons_zero, List.set_cons_succ]
                refine wpAnyH_take (i := 5) (v := ?_) rfl (by kernel_rfl) (by kernel_rfl) (by kernel_rfl) (fun _ _ _ h => by cases h.1) (Or.inl ⟨by rfl, ?_⟩) Hd ?_
                rotate_left
                · intro wS hSw
                  have c1 := (hSw.cell (p := ⟨ba, oa + x1, none⟩) hbx).trans kw1
                  go_simp
                  try with_reducible rfl
                try simp only [List.getElem_toArray, List.getElem_cons_zero, List.getElem_cons_succ, Act.put, List.setIfInBounds_toArray, List.set_cons_zero, List.set_cons_succ]
                refine wpAnyH_take (i := 11) (v := ?_) rfl (by kernel_rfl) (by kernel_rfl) (by kernel_rfl) (fun _ _ _ h => by cases h.1) (Or.inl ⟨by rfl, ?_⟩) Hd ?_
                rotate_left
                · intro wS hSw
                  go_simp
                  try with_reducible rfl
                try simp only [List.getElem_toArray, List.getElem_cons_zero, List.getElem_cons_succ, Act.put, List.setIfInBounds_toArray, List.set_cons_zero, List.set_cons_succ]
                refine wpAnyH_ready (rs := [12]) (by kernel_rfl) (by simp) (AllReadyH.cons rfl (fun K hK => ?_) AllReadyH.nil)
                go_simp
                generalize hge : World.alloc _ _ = w1_
                have fb1 : Blk w1_ wd.heap.size 51 (#[.int .i64 y1, .int .i64 y2]) := by subst hge; exact Blk.new _ _ _
                have hb1 : Below wd.heap.size wd w1_ := by subst hge; exact (Below.refl _ _).alloc (Nat.le_refl _) _
                clear hge
                have fK1 := hKb.below hb1
                have fl1 := own_below hrow hb1
                have fX1 := bX.below hb1
                have f81 := hb8.below hb1
                have lob1 : wr.heap.size + 3 ≤ wd.heap.size := Zd
                have Hb1 : Below wr.heap.size wr w1_ := below_of Hd hb1 Hd.size
                have Zb1 : wr.heap.size + 3 ≤ w1_.heap.size := Nat.le_trans Zd hb1.size
                refine hK.out _ _ Hb1 fun _ => ?_
                clear hK K
                try simp only [List.getElem_toArray, List.getElem_cons_zero, List.getElem_cons_succ, Act.put, List.setIfInBounds_toArray, List.set_cons_zero, List.set_cons_succ]
                refine wpAnyH_ready (rs := [13]) (by kernel_rfl) (by simp) (AllReadyH.cons rfl (fun K hK => ?_) AllReadyH.nil)
                refine step_append_cells (by rfl) (.tmp 46) (.tmp 58) 46 (by rfl) (wr.heap.size + 3) 51 (.agg #[.int .i64 0, .int .i64 0]) 2 16 (by kernel_rfl) (by kernel_rfl) rfl (by omega) (.slice A5 q c5) q (ivV (Fix.rawM cl pre)) fl1 (by rfl) (some ⟨wd.heap.size, 0, none⟩) 1 1 (ivV [(y1, y2)]) (by rfl) (by rfl) (.inr ⟨_, 0, rfl, fb1.lt, fun j u hu => by rw [Nat.zero_add, fb1.cell j]; simpa [ivV] using hu⟩) (ivV_one _) (by unfold maxLen; omega) (by omega) Zb1 ?_
                intro v2 w2_ own2 hg2 st2
                rw [← ivV_append] at own2
                have fK2 := Kb.row fK1 fl1 (by omega) (by omega) hg2
                have f82 := Blk.grown f81 hg2 (Boxed.not_row (B := wr.heap.size) f81 (by decide) fl1)
                have Hb2 : Below wr.heap.size wr w2_ := below_grown Hb1 hg2 Hb1.size (fun k hk => by have := own_base fl1 k hk; omega)
                have Zb2 : wr.heap.size + 3 ≤ w2_.heap.size := Nat.le_trans Zb1 hg2.size
                obtain ⟨A2_, c2_, rfl, le2, lm2, -⟩ := own_form own2
                refine hK.out _ _ Hb2 fun _ => ?_
                clear hK K
                try simp only [List.getElem_toArray, List.getElem_cons_zero, List.getElem_cons_succ, Act.put, List.setIfInBounds_toArray, List.set_cons_zero, List.set_cons_succ]
                refine wpAnyH_ready (rs := [14]) (by kernel_rfl) (by simp) (AllReadyH.cons rfl (fun K hK => ?_) AllReadyH.nil)
                refine step_put_cell (by rfl) _ _ _ (by rfl) (wr.heap.size) 0 (.slice A2_ (q + 1) c2_) (by rfl) (by rfl) _ _ f82 (by simp) (by kernel_rfl) (by rfl) ?_
                intro w3_ f83 hg3 hz3
                have Hb3 : Below wr.heap.size wr w3_ := below_grown Hb2 hg3 Hb2.size (fun k hk => by cases hk; exact Nat.le_refl _)
                have Zb3 : wr.heap.size + 3 ≤ w3_.heap.size := Nat.le_trans Zb2 hg3.size
                have fK3 := Kb.step fK2 hg3 (fun g e => by cases e; exact ⟨⟨_, _, _, f82⟩, by omega, by omega⟩)
                have own3 := own2.kept hg3 (.inr (Ne.symm (Boxed.not_row (B := wr.heap.size) f82 (by decide) own2)))
                refine hK.out _ _ Hb3 fun _ => ?_
                clear hK K
                try simp only [List.getElem_toArray, List.getElem_cons_zero, List.getElem_cons_succ, Act.put, List.setIfInBounds_toArray, List.set_cons_zero, List.set_cons_succ]
                refine wpAnyH_done (by kernel_rfl) ?_ _
                refine ⟨rfl, ?_⟩
                have hfin := own3
                have hK9 := (fK3).keeps W1.heap.size
                refine ⟨hK9.1, hK9.2, ⟨_, f83, ?_⟩, Hb3, Zb3⟩
                rw [HYY.out, List.length_append, Hq.out]
                exact ⟨hfin, trivial⟩
              · have qx := bX.cell 0
                have qx' : _ = some (Value.int .i64 (x1 : Int)) := qx
                clear qx
                go_simp
                first | with_reducible rfl | skip
                refine hK.out _ _ Hd fun _ => ?_
                clear hK K
                try simp only [List.getElem_toArray, List.getElem_cons_zero, List.getElem_cons_succ, Act.put, List.setIfInBounds_toArray, List.set_cons_zero, List.set_cons_succ]
                refine wpAnyH_take (i := 4) (v := ?_) rfl (by kernel_rfl) (by kernel_rfl) (by kernel_rfl) (fun _ _ _ h => by cases h.1) (Or.inl ⟨by rfl, ?_⟩) Hd ?_
                rotate_left
                · intro wS hSw
                  have c1 := (hSw.cell (p := ⟨w.heap.size, 0, none⟩) hCx).trans kwC
                  go_simp
                  try with_reducible rfl
                try simp only [List.getElem_toArray, List.getElem_cons_zero, List.getElem_cons_succ, Act.put, List.setIfInBounds_toArray, List.set_cons_zero, List.set_cons_succ]
                refine wpAnyH_take (i := 5) (v := ?_) rfl (by kernel_rfl) (by kernel_rfl) (by kernel_rfl) (fun _ _ _ h => by cases h.1) (Or.inl ⟨by rfl, ?_⟩) Hd ?_
                rotate_left
                · intro wS hSw
                  have c1 := (hSw.cell (p := ⟨ba, oa + x1, none⟩) hbx).trans kw1
                  go_simp
                  try with_reducible rfl
                try simp only [List.getElem_toArray, List.getElem_cons_zero, List.getElem_cons_succ, Act.put, List.setIfInBounds_toArray, List.set_cons_zero, List.set_cons_succ]
                refine wpAnyH_take (i := 11) (v := ?_) rfl (by kernel_rfl) (by kernel_rfl) (by kernel_rfl) (fun _ _ _ h => by cases h.1) (Or.inl ⟨by rfl, ?_⟩) Hd ?_
                rotate_left
                · intro wS hSw
                  go_simp
                  try with_reducible rfl
                try simp only [List.getElem_toArray, List.getElem_cons_zero, List.getElem_cons_succ, Act.put, List.setIfInBounds_toArray, List.set_cons_zero, List.set_cons_succ]
                refine wpAnyH_ready (rs := [0, 12]) (by kernel_rfl) (by simp) (AllReadyH.cons rfl (fun K hK => ?_) (AllReadyH.cons rfl (fun K hK => ?_) AllReadyH.nil))
                · have q8 := hb8.cell 0
                  have q8' : _ = some (Value.slice A5 q c5) := q8
                  clear q8
                  go_simp
                  first | with_reducible rfl | skip
                  refine hK.out _ _ Hd fun _ => ?_
                  clear hK K
                  try simp only [List.getElem_toArray, List.getElem_cons_zero, List.getElem_cons_succ, Act.put, List.setIfInBounds_toArray, List.set_cons_zero, List.set_cons_succ]
                  refine wpAnyH_ready (rs := [12]) (by kernel_rfl) (by simp) (AllReadyH.cons rfl (fun K hK => ?_) AllReadyH.nil)
                  go_simp
                  generalize hge : World.alloc _ _ = w1_
                  have fb1 : Blk w1_ wd.heap.size 51 (#[.int .i64 y1, .int .i64 y2]) := by subst hge; exact Blk.new _ _ _
                  have hb1 : Below wd.heap.size wd w1_ := by subst hge; exact (Below.refl _ _).alloc (Nat.le_refl _) _
                  clear hge
                  have fK1 := hKb.below hb1
                  have fl1 := own_below hrow hb1
                  have fX1 := bX.below hb1
                  have f81 := hb8.below hb1
                  have lob1 : wr.heap.size + 3 ≤ wd.heap.size := Zd
                  have Hb1 : Below wr.heap.size wr w1_ := below_of Hd hb1 Hd.size
                  have Zb1 : wr.heap.size + 3 ≤ w1_.heap.size := Nat.le_trans Zd hb1.size
                  refine hK.out _ _ Hb1 fun _ => ?_
                  clear hK K
                  try simp only [List.getElem_toArray, List.getElem_cons_zero, List.getElem_cons_succ, Act.put, List.setIfInBounds_toArray, List.set_cons_zero, List.set_cons_succ]
                  refine wpAnyH_ready (rs := [13]) (by kernel_rfl) (by simp) (AllReadyH.cons rfl (fun K hK => ?_) AllReadyH.nil)
                  refine step_append_cells (by rfl) (.tmp 46) (.tmp 58) 46 (by rfl) (wr.heap.size + 3) 51 (.agg #[.int .i64 0, .int .i64 0]) 2 16 (by kernel_rfl) (by kernel_rfl) rfl (by omega) (.slice A5 q c5) q (ivV (Fix.rawM cl pre)) fl1 (by rfl) (some ⟨wd.heap.size, 0, none⟩) 1 1 (ivV [(y1, y2)]) (by rfl) (by rfl) (.inr ⟨_, 0, rfl, fb1.lt, fun j u hu => by rw [Nat.zero_add, fb1.cell j]; simpa [ivV] using hu⟩) (ivV_one _) (by unfold maxLen; omega) (by omega) Zb1 ?_
                  intro v2 w2_ own2 hg2 st2
                  rw [← ivV_append] at own2
                  have fK2 := Kb.row fK1 fl1 (by omega) (by omega) hg2
                  have f82 := Blk.grown f81 hg2 (Boxed.not_row (B := wr.heap.size) f81 (by decide) fl1)
                  have Hb2 : Below wr.heap.size wr w2_ := below_grown Hb1 hg2 Hb1.size (fun k hk => by have := own_base fl1 k hk; omega)
                  have Zb2 : wr.heap.size + 3 ≤ w2_.heap.size := Nat.le_trans Zb1 hg2.size
                  obtain ⟨A2_, c2_, rfl, le2, lm2, -⟩ := own_form own2
                  refine hK.out _ _ Hb2 fun _ => ?_
                  clear hK K
                  try simp only [List.getElem_toArray, List.getElem_cons_zero, List.getElem_cons_succ, Act.put, List.setIfInBounds_toArray, List.set_cons_zero, List.set_cons_succ]
                  refine wpAnyH_ready (rs := [14]) (by kernel_rfl) (by simp) (AllReadyH.cons rfl (fun K hK => ?_) AllReadyH.nil)
                  refine step_put_cell (by rfl) _ _ _ (by rfl) (wr.heap.size) 0 (.slice A2_ (q + 1) c2_) (by rfl) (by rfl) _ _ f82 (by simp) (by kernel_rfl) (by rfl) ?_
                  intro w3_ f83 hg3 hz3
                  have Hb3 : Below wr.heap.size wr w3_ := below_grown Hb2 hg3 Hb2.size (fun k hk => by cases hk; exact Nat.le_refl _)
                  have Zb3 : wr.heap.size + 3 ≤ w3_.heap.size := Nat.le_trans Zb2 hg3.size
                  have fK3 := Kb.step fK2 hg3 (fun g e => by cases e; exact ⟨⟨_, _, _, f82⟩, by omega, by omega⟩)
                  have own3 := own2.kept hg3 (.inr (Ne.symm (Boxed.not_row (B := wr.heap.size) f82 (by decide) own2)))
                  refine hK.out _ _ Hb3 fun _ => ?_
                  clear hK K
                  try simp only [List.getElem_toArray, List.getElem_cons_zero, List.getElem_cons_succ, Act.put, List.setIfInBounds_toArray, List.set_cons_zero, List.set_cons_succ]
                  refine wpAnyH_done (by kernel_rfl) ?_ _
                  refine ⟨rfl, ?_⟩
                  have hfin := own3
                  have hK9 := (fK3).keeps W1.heap.size
                  refine ⟨hK9.1, hK9.2, ⟨_, f83, ?_⟩, Hb3, Zb3⟩
                  rw [HYY.out, List.length_append, Hq.out]
                  exact ⟨hfin, trivial⟩
                · go_simp
                  generalize hge : World.alloc _ _ = w1_
                  have fb1 : Blk w1_ wd.heap.size 51 (#[.int .i64 y1, .int .i64 y2]) := by subst hge; exact Blk.new _ _ _
                  have hb1 : Below wd.heap.size wd w1_ := by subst hge; exact (Below.refl _ _).alloc (Nat.le_refl _) _
                  clear hge
                  have fK1 := hKb.below hb1
                  have fl1 := own_below hrow hb1
                  have fX1 := bX.below hb1
                  have f81 := hb8.below hb1
                  have lob1 : wr.heap.size + 3 ≤ wd.heap.size := Zd
                  have Hb1 : Below wr.heap.size wr w1_ := below_of Hd hb1 Hd.size
                  have Zb1 : wr.heap.size + 3 ≤ w1_.heap.size := Nat.le_trans Zd hb1.size
                  refine hK.out _ _ Hb1 fun _ => ?_
                  clear hK K
                  try simp only [List.getElem_toArray, List.getElem_cons_zero, List.getElem_cons_succ, Act.put, List.setIfInBounds_toArray, List.set_cons_zero, List.set_cons_succ]
                  refine wpAnyH_ready (rs := [0]) (by kernel_rfl) (by simp) (AllReadyH.cons rfl (fun K hK => ?_) AllReadyH.nil)
                  have q8 := f81.cell 0
                  have q8' : _ = some (Value.slice A5 q c5) := q8
                  clear q8
                  go_simp
                  first | with_reducible rfl | skip
                  refine hK.out _ _ Hb1 fun _ => ?_
                  clear hK K
                  try simp only [List.getElem_toArray, List.getElem_cons_zero, List.getElem_cons_succ, Act.put, List.setIfInBounds_toArray, List.set_cons_zero, List.set_cons_succ]
                  refine wpAnyH_ready (rs := [13]) (by kernel_rfl) (by simp) (AllReadyH.cons rfl (fun K hK => ?_) AllReadyH.nil)
                  refine step_append_cells (by rfl) (.tmp 46) (.tmp 58) 46 (by rfl) (wr.heap.size + 3) 51 (.agg #[.int .i64 0, .int .i64 0]) 2 16 (by kernel_rfl) (by kernel_rfl) rfl (by omega) (.slice A5 q c5) q (ivV (Fix.rawM cl pre)) fl1 (by rfl) (some ⟨wd.heap.size, 0, none⟩) 1 1 (ivV [(y1, y2)]) (by rfl) (by rfl) (.inr ⟨_, 0, rfl, fb1.lt, fun j u hu => by rw [Nat.zero_add, fb1.cell j]; simpa [ivV] using hu⟩) (ivV_one _) (by unfold maxLen; omega) (by omega) Zb1 ?_
                  intro v2 w2_ own2 hg2 st2
                  rw [← ivV_append] at own2
                  have fK2 := Kb.row fK1 fl1 (by omega) (by omega) hg2
                  have f82 := Blk.grown f81 hg2 (Boxed.not_row (B := wr.heap.size) f81 (by decide) fl1)
                  have Hb2 : Below wr.heap.size wr w2_ := below_grown Hb1 hg2 Hb1.size (fun k hk => by have := own_base fl1 k hk; omega)
                  have Zb2 : wr.heap.size + 3 ≤ w2_.heap.size := Nat.le_trans Zb1 hg2.size
                  obtain ⟨A2_, c2_, rfl, le2, lm2, -⟩ := own_form own2
                  refine hK.out _ _ Hb2 fun _ => ?_
                  clear hK K
                  try simp only [List.getElem_toArray, List.getElem_cons_zero, List.getElem_cons_succ, Act.put, List.setIfInBounds_toArray, List.set_cons_zero, List.set_cons_succ]
                  refine wpAnyH_ready (rs := [14]) (by kernel_rfl) (by simp) (AllReadyH.cons rfl (fun K hK => ?_) AllReadyH.nil)
                  refine step_put_cell (by rfl) _ _ _ (by rfl) (wr.heap.size) 0 (.slice A2_ (q + 1) c2_) (by rfl) (by rfl) _ _ f82 (by simp) (by kernel_rfl) (by rfl) ?_
                  intro w3_ f83 hg3 hz3
                  have Hb3 : Below wr.heap.size wr w3_ := below_grown Hb2 hg3 Hb2.size (fun k hk => by cases hk; exact Nat.le_refl _)
                  have Zb3 : wr.heap.size + 3 ≤ w3_.heap.size := Nat.le_trans Zb2 hg3.size
                  have fK3 := Kb.step fK2 hg3 (fun g e => by cases e; exact ⟨⟨_, _, _, f82⟩, by omega, by omega⟩)
                  have own3 := own2.kept hg3 (.inr (Ne.symm (Boxed.not_row (B := wr.heap.size) f82 (by decide) own2)))
                  refine hK.out _ _ Hb3 fun _ => ?_
                  clear hK K
                  try simp only [List.getElem_toArray, List.getElem_cons_zero, List.getElem_cons_succ, Act.put, List.setIfInBounds_toArray, List.set_cons_zero, List.set_cons_succ]
                  refine wpAnyH_done (by kernel_rfl) ?_ _
                  refine ⟨rfl, ?_⟩
                  have hfin := own3
                  have hK9 := (fK3).keeps W1.heap.size
                  refine ⟨hK9.1, hK9.2, ⟨_, f83, ?_⟩, Hb3, Zb3⟩
                  rw [HYY.out, List.length_append, Hq.out]
                  exact ⟨hfin, trivial⟩
          · have h1' : (x1 : Int) < (n : Int) := by omega
            have h2' : ¬ (x2 : Int) < (n : Int) := by omega
            have hk : Fix.keptN cl.length (x1, x2) = false := by rw [HL.out]; simp [Fix.keptN, h2]
            gi_wp2
            exact ⟨KeepsFrom.refl _ _, ⟨Nat.le_refl _, rfl, rfl⟩, ⟨v, hv, by rw [Fix.rawM_snoc, hk, if_neg (by simp), List.append_nil]; exact hrow⟩, hB, hz⟩
        · have h1' : ¬ (x1 : Int) < (n : Int) := by omega
          have hk : Fix.keptN cl.length (x1, x2) = false := by rw [HL.out]; simp [Fix.keptN, h1]
          gi_wp2
          exact ⟨KeepsFrom.refl _ _, ⟨Nat.le_refl _, rfl, rfl⟩, ⟨v, hv, by rw [Fix.rawM_snoc, hk, if_neg (by simp), List.append_nil]; exact hrow⟩, hB, hz⟩
      case done =>
        rintro D ys W hD rfl ⟨⟨v, hv, hrow, -⟩, hB, hz⟩ hK
        have hc8 := hv.cell
        have hlr : (Fix.rawM cl (Fix.pairsN (n + n % 2) r)).length ≤ 12 := Nat.le_trans (Fix.rawM_le _ _) (by rw [Fix.pairsN_length]; exact hN)
        have HS := Lib.hid (isort_any (wr.heap.size + 3) v _ W hrow (by omega))
        have Hrow := Lib.hid hrow
        have HD := Lib.hid hD
        have HB := Lib.hid hB
        have Hv8 := Lib.hid hv
        clear hrow hD hB
        simp only [Exit.inBlock, Exit.then]
        go_upto_region 13 with (go_at_call 30; refine HS.out.mono ?_; rintro e w2 ⟨rfl, u, hp, hs, hrow2, hg2⟩)
        have hB2 : Below wr.heap.size wr w2 := below_grown HB.out hg2 HB.out.size (fun k hk => by have := own_base Hrow.out k hk; omega)
        have bL2 := HbL.out.below hB2
        have bC2 := HbC.out.below hB2
        have b82 : Boxed w2 wr.heap.size 46 v := Hv8.out.kept hg2 (Hv8.out.not_row (by decide) Hrow.out)
        have hw2 := hg2.size
        have HD2 := Lib.hid (show w2.heap[D]? = some (.deferred (some [])) from by
          refine (hg2.block D (Array.getElem?_eq_some_iff.1 hK).1 fun e => ?_).trans hK
          rcases Hrow.out.2 with ⟨e2, _⟩ | ⟨g, cap, cur, e2, _, hg', _⟩
          · rw [e2] at e; cases e
          · rw [e2] at e; simp [Value.ownBlock] at e; rw [e, hg'] at hK; cases hK)
        have hlu := hp.length_eq
        rw [← hlu] at hrow2 hlr
        have hp' := hp
        have hu : u = Fix.roundM cl r := Fix.round_of Hv.out (by rw [HL.out]; exact hrm) (by rw [HL.out]; exact hp) hs
        have Hu := Lib.hid hu
        clear hu
        obtain ⟨q, hq⟩ : ∃ q, q = u.length := ⟨_, rfl⟩
        rw [← hq] at hrow2 hlr
        have Hq := Lib.hid hq
        clear hq hlu
        obtain ⟨A2, c2, hvA, hc2, hm2, -⟩ := own_form hrow2
        obtain ⟨hs', g1, g2, g3⟩ := HOR.out.below hB2
        have hlt' : ((Fix.baseM cl).take r).length = r := by rw [List.length_take, Fix.baseM_length, HL.out]; omega
        rw [hlt'] at g2
        have Hlt := Lib.hid hlt'
        have G1 := Lib.hid g1
        clear hlt' g1
        obtain ⟨A3, c3, hvL, hc3, hm3, -⟩ := own_form g2
        have HG2 := Lib.hid g2
        have HOL := Lib.hid (show ∀ b, (Value.slice A3 r c3).ownBlock = some b → b < wr.heap.size from fun b hb => by
          obtain ⟨_, _, k2, _⟩ := HOR.out
          exact (k2.lt b (by rw [hvL]; exact hb)).2)
        have HG3 := Lib.hid g3
        have HR2 := Lib.hid hrow2
        have HBL := Lib.hid bL2
        have HNL := Lib.hid (Boxed.not_row (B := w.heap.size + 1) bL2 (by decide) g2)
        have HNC := Lib.hid (Boxed.not_row (B := w.heap.size) bC2 (by decide) g2)
        have HBC := Lib.hid bC2
        have HB2 := Lib.hid hB2
        have hcl := bL2.cell 0
        have hcv := b82.cell
        subst hvA
        subst hvL
        clear hp hs hg2 hp' g2 g3 hrow2 bL2 bC2 hB2 HS Hrow HB Hv8 hc8 hK hv HOR
        have hcl' : w2.cell? ⟨w.heap.size + 1, 0, none⟩ = some (.slice A3 r c3) := hcl
        clear hcl
        go_upto_region 14 with (at_builtin; refine push1 rfl (.tmp 63) (.tmp 65) 24 rfl w.heap.size 46 (.slice none 0 0) 24 (by kernel_rfl) (by kernel_rfl) rfl _ _ _ (.slice A2 q c2) HG2.out rfl rfl rfl (by unfold maxLen; omega) (by omega) (by have := Hbw.out.size; have := HB2.out.size; omega) ?_; intro v' w3 hown' hg3 hsit; have bL3 := Blk.grown HBL.out hg3 HNL.out; have hf3 := bL3.frozen 0; have hcl3 := bL3.cell 0; obtain ⟨A4, c4, rfl, hc4, hm4, -⟩ := own_form hown')
        have hbw3 : Below w.heap.size w w3 := below_grown (below_of Hbw.out HB2.out Hbw.out.size) hg3 (below_of Hbw.out HB2.out Hbw.out.size).size (own_base HG2.out)
        have hbw4 := below_set (i := 0) hbw3 (Nat.le_succ w.heap.size) (.slice A4 (r + 1) c4)
        have bL4 : Blk (w3.setCell ⟨w.heap.size + 1, 0, none⟩ (.slice A4 (r + 1) c4)) (w.heap.size + 1) 26 #[.slice A4 (r + 1) c4] := by simpa using bL3.set_ 0 (.slice A4 (r + 1) c4)
        have bC3 := Blk.grown HBC.out hg3 HNC.out
        have bC4 := bC3.far (p := ⟨w.heap.size + 1, 0, none⟩) (by simp) (.slice A4 (r + 1) c4)
        have HdD := mark_set (i := 0) (u := .slice A4 (r + 1) c4) (mark_kept HD2.out rfl HG2.out hg3) rfl bL3
        have Hdd : ∀ D' ∈ ds, w.heap.size ≤ D' ∧ (w3.setCell ⟨w.heap.size + 1, 0, none⟩ (.slice A4 (r + 1) c4)).heap[D']? = some (.deferred (some [])) := fun D' hD' => by
          obtain ⟨q1, q2⟩ := Hds.out D' hD'
          exact ⟨q1, mark_set (mark_kept ((HB2.out.block D' (Array.getElem?_eq_some_iff.1 q2).1).trans q2) rfl HG2.out hg3) rfl bL3⟩
        have hnD : (D :: ds).Nodup := List.nodup_cons.2 ⟨fun hm => by
          have h1 := (Array.getElem?_eq_some_iff.1 (Hds.out D hm).2).1
          have := HD.out
          omega, Hnd.out⟩
        have hDw : w.heap.size ≤ D := by have := HD.out; have := Hbw.out.size; omega
        have hin : Inner w2 (.slice A3 r c3) A2 u := by
          have hrr := HR2.out
          rw [Hq.out] at hrr
          exact Inner.own hrr (fun b hb => by have := HOL.out b hb; omega)
        have hOR3 := OwnR.push G1.out HG3.out hg3 hsit (by rw [Hlt.out, ← Hq.out]; exact hown') (by rw [← Hq.out]; exact hc2) hm2 hin
        rw [Hu.out, ← take_snoc (Fix.baseM_get (cl := cl) (r := r) (by rw [HL.out]; exact hrm))] at hOR3
        have hOR4 := hOR3.box (i := 0) (u := .slice A4 (r + 1) c4) bL3
        have HF := Lib.hid (show CircRel w cl n A c ((D :: ds).map markD) (.int .i64 ((r + 1 : Nat) : Int)) (w3.setCell ⟨w.heap.size + 1, 0, none⟩ (.slice A4 (r + 1) c4)) from
          ⟨r + 1, D :: ds, _, by omega, rfl, rfl, hnD, (fun D' hD' => by
            rcases List.mem_cons.1 hD' with rfl | h
            · exact ⟨hDw, HdD⟩
            · exact Hdd D' h), hbw4, bC4, bL4, hOR4⟩)
        clear hbw3 hbw4 bL4 bC3 bC4 HdD Hdd hnD hOR3 hOR4 hin bL3 hcl3 hf3 hown' hg3 hsit
        generalize World.setCell _ _ _ = w4 at *
        go_wp2_with (fail)
        refine ⟨?_, ?measure⟩
        · exact ⟨_, _, _, _, _, _, _, _, _, _, _, _, _, _, _, _, _, _, _, _, _, _, _, _, _, _, _, _, _, _, _, _, _, _, _, _, _, _, _, _, _, _, _, _, _, _, HF.out, rfl⟩
        case measure => simp [intOf]; omega
      case stop =>
        rintro D c pre W _ _ h _
        exact h.elim
    · obtain rfl : r = n + n % 2 - 1 := by omega
      have hnl : ¬ (((n + n % 2 - 1 : Nat) : Int) < (n : Int) + (n : Int) % 2 - 1) := by omega
      have ht : (Fix.baseM cl).take (n + n % 2 - 1) = Fix.baseM cl := List.take_of_length_le (by rw [Fix.baseM_length, HL.out]; exact Nat.le_refl _)
      rw [ht] at hOR
      clear ht
      have Hnd := Lib.hid hnd
      have Hds := Lib.hid hds
      have HbL := Lib.hid hbL
      have HbC := Lib.hid hbC
      have Hbw := Lib.hid hbw
      obtain ⟨q, hq⟩ : ∃ q, q = (Fix.baseM cl).length := ⟨_, rfl⟩
      have Hq := Lib.hid (show q = n + n % 2 - 1 by rw [hq, Fix.baseM_length, HL.out])
      obtain ⟨A3, c3, hvL, hc3, hm3, -⟩ := own_form (hOR.choose_spec.2.1)
      rw [← hq] at hvL hc3
      subst hvL
      have HOR := Lib.hid hOR
      have Hqq := Lib.hid hq
      clear hnd hds hOR hbL hbC hbw hq
      have hcl := HbL.out.cell 0
      have hfl := HbL.out.frozen 0
      cases double with
      | true =>
        have Hlen : ∀ l ∈ Fix.baseM cl, l.length ≤ 12 := fun l hl' => by
          obtain ⟨r, -, rfl⟩ := List.mem_map.1 hl'
          have h1 := Fix.roundM_length cl r
          have h2 := HL.out
          omega
        obtain ⟨ls, hls⟩ : ∃ ls, ls = Fix.baseM cl := ⟨_, rfl⟩
        have Hls := Lib.hid hls
        rw [← hls] at Hlen
        have HOR' : Hid (OwnR wr w.heap.size (.slice A3 q c3) ls) := Lib.hid (by rw [hls]; exact HOR.out)
        have Hqq' : Hid (q = ls.length) := Lib.hid (by rw [hls]; exact Hqq.out)
        clear hls HOR Hqq
        have Hlen' := Lib.hid Hlen
        clear Hlen
        have hq1 : 1 ≤ q ∧ q ≤ 24 := by have := Hq.out; omega
        have HCn := Lib.hid (clone_any w.heap.size q _ ls wr Hqq'.out.symm hq1.1 (by omega) HOR'.out)
        go_upto_region 17 with (go_at_call 33; refine HCn.out.mono ?_; rintro e w1 ⟨Ac, cc, rfl, hrd, hcc, hcm, hb1⟩)
        have HD0 := Lib.hid (show DblRel w ls ds Ac 0 w1 from ⟨_, below_of Hbw.out hb1 Hbw.out.size, ⟨_, HbC.out.below hb1⟩, HbL.out.below hb1, (fun D hD => ⟨(Hds.out D hD).1, (hb1.block D (Array.getElem?_eq_some_iff.1 (Hds.out D hD).2).1).trans (Hds.out D hD).2⟩), by simpa using HOR'.out.below hb1, hrd⟩)
        clear HCn HOR' Hds HbL HbC Hbw hb1 hrd hcl hfl
        go_wp2_with (fail)
        go_loopw [74] (fun i wk => ∃ k : Nat, k ≤ q ∧ i = .int .i64 k ∧ Hid (DblRel w ls ds Ac k wk)) (fun i _ => q - (intOf i).toNat)
        case atStart => exact ⟨0, Nat.zero_le _, rfl, HD0⟩
        case round =>
          obtain ⟨wk, rfl⟩ : ∃ wk : World, wk = wr := ⟨_, rfl⟩
          clear HD0
          obtain ⟨k, hk, rfl, hrel⟩ := hrel
          by_cases hlt : k < q
          · obtain ⟨v, hbw, hbC, hbL, hds, hOR, hrd⟩ := hrel.out
            obtain ⟨l, hx⟩ := getElem?_lt (l := ls) (k := k) (by rw [← Hqq'.out]; exact hlt)
            obtain ⟨b, off, A', c', rfl, hb, hcell, hlc, hcm', hI⟩ := hrd.rounds.at_ hx
            have hll : l.length ≤ 12 := Hlen'.out l (List.mem_of_getElem? hx)
            obtain ⟨nl, hnl⟩ : ∃ nl, nl = l.length := ⟨_, rfl⟩
            rw [← hnl] at hcell hlc hll
            have HR0 := Lib.hid (show DblRest w ls ds (some ⟨b, off, none⟩) k v wk from ⟨hbw, hbC, hbL, hds, hOR, hrd⟩)
            have HI := Lib.hid hI
            have Hnl := Lib.hid hnl
            have Hx := Lib.hid hx
            clear hbw hbC hbL hds hOR hrd hI hnl hx hrel
            go_wp2_with (fail)
            go_loopw [80, 12] (fun i bk W2 => ∃ j : Nat, ∃ A5 c5, j ≤ nl ∧ i = .int .i64 j ∧ bk = .slice A5 j c5 ∧ Hid (W2.ownsRow wk.heap.size 51 2 (.slice A5 j c5) j (ivV ((l.take j).map Fix.swapM))) ∧ Hid (Below wk.heap.size wk W2)) (fun i _ _ => nl - (intOf i).toNat)
            case atStart => exact ⟨0, none, 0, Nat.zero_le _, rfl, rfl, World.ownsRow_nil wk _ _ _, Below.refl _ _⟩
            case round =>
              obtain ⟨W2, rfl⟩ : ∃ W2 : World, W2 = wr := ⟨_, rfl⟩
              obtain ⟨j, A5, c5, hj, rfl, rfl, hown, hB⟩ := hrel
              by_cases hjl : j < nl
              · obtain ⟨⟨x, y⟩, hxy⟩ := getElem?_lt (l := l) (k := j) (by rw [← Hnl.out]; exact hjl)
                obtain ⟨b2, off2, rfl, hb2, hcs⟩ := HI.out.at_ (by rw [← Hnl.out]; omega)
                have hc1 := (hB.out.cell (p := ⟨b2, off2 + j * 2, none⟩) hb2).trans (hcs j _ hxy).1
                have hc2 := (hB.out.cell (p := ⟨b2, off2 + j * 2 + 1, none⟩) hb2).trans (hcs j _ hxy).2
                have Hxy := Lib.hid hxy
                clear hcs hxy
                have bX := Blk.new W2 51 #[.int .i64 x, .int .i64 y]
                have q0 := bX.cell 0
                have q1 := bX.cell 1
                have HownX := Lib.hid (hown.out.alloc (.cells #[.int .i64 x, .int .i64 y] 51))
                have HBX := Lib.hid (hB.out.alloc hB.out.size (.cells #[.int .i64 x, .int .i64 y] 51))
                go_upto_region 23 with (fail)
                clear hc1 hc2 bX
                generalize World.alloc _ _ = WX at *
                go_wp2_with ((at_builtin; go_loud (refine push2 rfl (.tmp 84) (.tmp 90) 46 rfl wk.heap.size 51 (.agg #[.int .i64 0, .int .i64 0]) 16 (by kernel_rfl) (by kernel_rfl) rfl (.slice A5 j c5) j (ivV ((l.take j).map Fix.swapM)) (.int .i64 y) (.int .i64 x) HownX.out rfl rfl rfl rfl (by unfold maxLen; omega) (by omega) HBX.out.size ?_); intro v5 w5 hown5 hg5 _; have HB5 := Lib.hid (below_grown HBX.out hg5 HBX.out.size (fun k hk => own_base HownX.out k hk)); obtain ⟨A7, c7, rfl, -, -, -⟩ := own_form hown5; have Hown5 := Lib.hid hown5; clear hown5 hg5))
                go_roundw
                case rel => exact ⟨j + 1, A7, c7, by omega, by go_num, rfl, (show World.ownsRow _ _ _ _ _ _ _ by rw [take_snoc Hxy.out, List.map_append, ivV_append]; exact Hown5.out), HB5.out⟩
                case measure => simp [intOf]; omega
              · obtain rfl : nl = j := by omega
                clear hjl
                have ht : l.take nl = l := by rw [Hnl.out]; exact List.take_of_length_le (Nat.le_refl _)
                have HownB := Lib.hid (show W2.ownsRow wk.heap.size 51 2 (.slice A5 nl c5) nl (ivV (l.map Fix.swapM)) by have := hown.out; rwa [ht] at this)
                obtain ⟨A5', c5', he5, hc5, hm5, -⟩ := own_form HownB.out
                injection he5 with e5a e5b e5c
                subst e5a; subst e5c
                clear ht hown e5b
                obtain ⟨hbw, ⟨uC, hbC⟩, hbL, hds, hOR, hrd⟩ := HR0.out
                have hB2 := hB.out
                have Hbw2 := Lib.hid (below_of hbw hB2 hbw.size)
                have bL2 := hbL.below hB2
                have bC2 := hbC.below hB2
                have Hrd2 := Lib.hid (hrd.below hB2)
                have Hds2 := Lib.hid (show ∀ D ∈ ds, w.heap.size ≤ D ∧ W2.heap[D]? = some (.deferred (some [])) from fun D hD => ⟨(hds D hD).1, (hB2.block D (Array.getElem?_eq_some_iff.1 (hds D hD).2).1).trans (hds D hD).2⟩)
                have HOL := Lib.hid (fun b hb' => (hOR.ownBlock b hb').2)
                obtain ⟨hs', g1, g2, g3⟩ := hOR.below hB2
                have hn7 : (ls ++ (ls.take k).map (List.map Fix.swapM)).length = q + k := by
                  rw [List.length_append, List.length_map, List.length_take, ← Hqq'.out]; omega
                rw [hn7] at g2
                have Hn7 := Lib.hid hn7
                obtain ⟨A6, c6, hv6, hc6, hm6, -⟩ := own_form g2
                subst hv6
                have G1 := Lib.hid g1
                have HG2 := Lib.hid g2
                have HG3 := Lib.hid g3
                have HBL := Lib.hid bL2
                have HBC := Lib.hid bC2
                have HNL := Lib.hid (Boxed.not_row (B := w.heap.size + 1) bL2 (by decide) g2)
                have HNC := Lib.hid (Boxed.not_row (B := w.heap.size) bC2 (by decide) g2)
                have hcl := bL2.cell 0
                have hcl' : W2.cell? ⟨w.heap.size + 1, 0, none⟩ = some (.slice A6 (q + k) c6) := hcl
                clear hcl g1 g2 g3 hbw hbC hbL hds hOR hrd bL2 bC2 hB2 hn7
                go_upto_region 26 with (at_builtin; refine push1 rfl (.tmp 94) (.tmp 96) 24 rfl w.heap.size 46 (.slice none 0 0) 24 (by kernel_rfl) (by kernel_rfl) rfl _ _ _ (.slice A5 nl c5) HG2.out rfl rfl rfl (by unfold maxLen; omega) (by omega) Hbw2.out.size ?_; intro v' w3 hown' hg3 hsit; have bL3 := Blk.grown HBL.out hg3 HNL.out; have hf3 := bL3.frozen 0; have hcl3 := bL3.cell 0; obtain ⟨A4, c4, rfl, hc4, hm4, -⟩ := own_form hown')
                have hbw3 : Below w.heap.size w w3 := below_grown Hbw2.out hg3 Hbw2.out.size (own_base HG2.out)
                have hbw4 := below_set (i := 0) hbw3 (Nat.le_succ w.heap.size) (.slice A4 (q + k + 1) c4)
                have bL4 : Blk (w3.setCell ⟨w.heap.size + 1, 0, none⟩ (.slice A4 (q + k + 1) c4)) (w.heap.size + 1) 26 #[.slice A4 (q + k + 1) c4] := by simpa using bL3.set_ 0 (.slice A4 (q + k + 1) c4)
                have bC3 := Blk.grown HBC.out hg3 HNC.out
                have bC4 := bC3.far (p := ⟨w.heap.size + 1, 0, none⟩) (by simp) (.slice A4 (q + k + 1) c4)
                have Hdd : ∀ D' ∈ ds, w.heap.size ≤ D' ∧ (w3.setCell ⟨w.heap.size + 1, 0, none⟩ (.slice A4 (q + k + 1) c4)).heap[D']? = some (.deferred (some [])) := fun D' hD' => ⟨(Hds2.out D' hD').1, mark_set (mark_kept (Hds2.out D' hD').2 rfl HG2.out hg3) rfl bL3⟩
                have hin : Inner W2 (.slice A6 (q + k) c6) A5 (l.map Fix.swapM) := Inner.own HownB.out (fun b' hb' => HOL.out b' hb')
                have hll' : (l.map Fix.swapM).length = nl := by rw [List.length_map, Hnl.out]
                have hOR3 := OwnR.push G1.out HG3.out hg3 hsit (by rw [Hn7.out, hll']; exact hown') (by rw [hll']; exact hc5) hm5 hin
                have hsn : ls ++ (ls.take k).map (List.map Fix.swapM) ++ [l.map Fix.swapM] = ls ++ (ls.take (k + 1)).map (List.map Fix.swapM) := by rw [take_snoc Hx.out, List.map_append, List.append_assoc]; rfl
                rw [hsn] at hOR3
                have HF := Lib.hid (show DblRel w ls ds (some ⟨b, off, none⟩) (k + 1) (w3.setCell ⟨w.heap.size + 1, 0, none⟩ (.slice A4 (q + k + 1) c4)) from
                  ⟨_, hbw4, ⟨_, bC4⟩, bL4, Hdd, hOR3.box bL3, (Hrd2.out.grown hg3 (.inl rfl) hsit).box bL3⟩)
                clear hbw3 hbw4 bL4 bC3 bC4 Hdd hin hll' hOR3 hsn bL3 hcl3 hf3 hown' hg3 hsit
                generalize World.setCell _ _ _ = w4 at *
                go_wp2_with (fail)
                go_roundw
                case rel => exact ⟨k + 1, by omega, by go_num, HF.out⟩
                case measure => simp [intOf]; omega
          · obtain rfl : k = q := by omega
            obtain ⟨v, hbw, hbC, hbL, hds, hOR, hrd⟩ := hrel.out
            have hz : ls.take k = ls := List.take_of_length_le (by rw [← Hqq'.out]; exact Nat.le_refl _)
            rw [hz, Hls.out] at hOR
            obtain ⟨A6, c6, hv6, -, -, -⟩ := own_form (hOR.choose_spec.2.1)
            subst hv6
            have HbL := Lib.hid hbL
            have HOR := Lib.hid hOR
            have Hbw := Lib.hid hbw
            have Hds := Lib.hid hds
            have hcl := hbL.cell 0
            have hfl := hbL.frozen 0
            clear hbw hbC hbL hds hOR hrd hz hrel
            generalize (Fix.baseM cl ++ (Fix.baseM cl).map (List.map Fix.swapM)).length = n6 at *
            go_wp2_with (fail)
            try simp only [Exit.inBlock, Exit.then]
            rw [HR.out]
            exact circ_leave Hnd.out Hds.out Hbw.out HbL.out HOR.out Hv.out rfl rfl
      | false =>
        go_wp2_with (fail)
        try simp only [Exit.inBlock, Exit.then]
        rw [HR.out]
        exact circ_leave Hnd.out Hds.out Hbw.out HbL.out HOR.out Hv.out rfl rfl
end Go.Proofs.Ytpmkebejfnflfaa
