/- The statement FixturesTurnedSaid: for every list, exchanging home and away in all matches exchanges the signs of patterns, keeps the breaks, and keeps whether the list is valid and full; no condition beside the row's own. -/
import Derived.Test.YtpmkebejfnflfaaFOl
import Derived.Test.YtpmkebejfnflfaaFShort
import Derived.Test.YtpmkebejfnflfaaFCirF
namespace Go.Proofs.Ytpmkebejfnflfaa
open Go.RowKit Go.WideShapes Go.ChangeShapes Go.ChangeAt
namespace Fix
theorem short_parts {ls : List (List Mt)} (h : shortR ls = true) : ls.length ≤ 50 ∧ ls.flatten.length ≤ 160 := by
  unfold shortR at h
  simpa using h
theorem len_flat {ls : List (List Mt)} {l : List Mt} (h : l ∈ ls) : l.length ≤ ls.flatten.length := by
  obtain ⟨s, t, rfl⟩ := List.append_of_mem h
  simp only [List.flatten_append, List.flatten_cons, List.length_append]
  omega
theorem swapL_snoc {ls : List (List Mt)} {k : Nat} {l : List Mt} (h : ls[k]? = some l) : swapL (ls.take (k + 1)) = swapL (ls.take k) ++ [l.map swapM] := by
  unfold swapL
  rw [take_snoc h, List.map_append]; rfl
end Fix
/-- What holds ahead of round k of the list turned round. -/
def TurnRest (w : World) (ls : List (List (Int × Int))) (A : Option Addr) (n c X : Nat) (k : Nat) (v : Value) (W : World) : Prop :=
  Below w.heap.size w W ∧ Blk W w.heap.size 26 #[.slice A n c] ∧ Blk W X 26 #[v] ∧ OwnR W w.heap.size v (Fix.swapL (ls.take k))
def TurnRel (w : World) (ls : List (List (Int × Int))) (A : Option Addr) (n c X : Nat) (k : Nat) (W : World) : Prop := ∃ v, TurnRest w ls A n c X k v W
theorem cellk {W W' : World} {a : Addr} {v : Value} (hb : Below W.heap.size W W') (h : W.cell? a = some v) : W'.cell? a = some v := (hb.cell (World.block_lt_of_cell? W a h)).trans h
set_option linter.unusedVariables false
set_option linter.unusedSimpArgs false
set_option maxRecDepth 100000 in
set_option maxHeartbeats 8000000 in
/-- The list is long, or there are many clubs. -/
theorem turned_no (w : World) (A : Option Addr) (n c : Nat) (ls : List (List (Int × Int))) (hl : ls.length = n) (hnc : n ≤ c) (hcm : c ≤ maxLen) (hC : RoundsC w A ls) (hs : ∀ l ∈ ls, l.length * 16 ≤ reachBytes)
    (B : Option Addr) (m d : Nat) (hmd : m ≤ d) (hdm : d ≤ maxLen) (dbl : Bool) (club : Int) (h : Fix.shortR ls = false ∨ 60 < m) :
    Calls Try.prog 9 #[.agg #[.slice A n c], .slice B m d, .bool dbl, .int .i64 club] w (Fine w) := by
  have HS := Lib.hid (fun W h => short_any A n c ls W hl hnc hcm h hs)
  have HC := Lib.hid hC
  clear hl hC hs
  unfold maxLen at *
  by_cases hsh : Fix.shortR ls = true
  · have hm : 60 < m := by
      rcases h with h | h
      · rw [hsh] at h; cases h
      · exact h
    rw [hsh] at HS
    have q1 : decide ((60 : Int) < (m : Int)) = true := by simp; omega
    clear hsh h
    go_enter Try.func9, Try.ntmps9
    go_wp2_with (fail)
    generalize hge : World.alloc _ _ = w0
    have H0 := Lib.hid (show Blk w0 w.heap.size 26 #[.slice A n c] by subst hge; exact Blk.new w _ _)
    have HB0 := Lib.hid (show Below w.heap.size w w0 by subst hge; exact (Below.refl _ _).alloc (Nat.le_refl _) _)
    clear hge
    refine (fsane_any w0).mono ?_
    rintro e w1 ⟨rfl, hb1⟩
    have H1 := Lib.hid (H0.out.below hb1)
    have HB1 := Lib.hid (below_of HB0.out hb1 HB0.out.size)
    clear hb1 H0
    have q0 := H1.out.cellv' (i := 0) rfl
    go_wp2_with (fail)
    refine (HS.out w1 (HC.out.below HB1.out)).mono ?_
    rintro e w2 ⟨rfl, hb2⟩
    have HB2 := Lib.hid (below_of HB1.out hb2 HB1.out.size)
    clear hb2
    go_wp2_with (fail)
    go_ret
    exact ⟨rfl, HB2.out⟩
  · rw [show Fix.shortR ls = false by simpa using hsh] at HS
    clear hsh h
    go_enter Try.func9, Try.ntmps9
    go_wp2_with (fail)
    generalize hge : World.alloc _ _ = w0
    have H0 := Lib.hid (show Blk w0 w.heap.size 26 #[.slice A n c] by subst hge; exact Blk.new w _ _)
    have HB0 := Lib.hid (show Below w.heap.size w w0 by subst hge; exact (Below.refl _ _).alloc (Nat.le_refl _) _)
    clear hge
    refine (fsane_any w0).mono ?_
    rintro e w1 ⟨rfl, hb1⟩
    have H1 := Lib.hid (H0.out.below hb1)
    have HB1 := Lib.hid (below_of HB0.out hb1 HB0.out.size)
    clear hb1 H0
    have q0 := H1.out.cellv' (i := 0) rfl
    go_wp2_with (fail)
    refine (HS.out w1 (HC.out.below HB1.out)).mono ?_
    rintro e w2 ⟨rfl, hb2⟩
    have HB2 := Lib.hid (below_of HB1.out hb2 HB1.out.size)
    clear hb2
    go_wp2_with (fail)
    go_ret
    exact ⟨rfl, HB2.out⟩
set_option maxRecDepth 100000 in
set_option maxHeartbeats 16000000 in
theorem turned_yes (w : World) (A : Option Addr) (n c : Nat) (ls : List (List (Int × Int))) (hl : ls.length = n) (hnc : n ≤ c) (hcm : c ≤ maxLen) (hC : RoundsC w A ls) (hwf : ∀ l ∈ ls, ∀ x ∈ l, WfM x) (hs : ∀ l ∈ ls, l.length * 16 ≤ reachBytes)
    (B : Option Addr) (m d : Nat) (cl : List Int) (hcl : cl.length = m) (hmd : m ≤ d) (hdm : d ≤ maxLen) (hK : Ints w B cl) (dbl : Bool) (club : Int) (hsh : Fix.shortR ls = true) (hm60 : m ≤ 60) :
    Calls Try.prog 9 #[.agg #[.slice A n c], .slice B m d, .bool dbl, .int .i64 club] w (Fine w) := by
  have HS := Lib.hid (fun W h => short_any A n c ls W hl hnc hcm h hs)
  rw [hsh] at HS
  obtain ⟨s1, s2⟩ := Fix.short_parts hsh
  have hn50 : n ≤ 50 := by rw [← hl]; exact s1
  have HC := Lib.hid hC
  have Hl := Lib.hid hl
  have Hwf := Lib.hid hwf
  have Hcl := Lib.hid hcl
  have HK := Lib.hid hK
  have Hflat := Lib.hid s2
  have Hll := Lib.hid (fun l (h : l ∈ ls) => Nat.le_trans (Fix.len_flat h) s2)
  clear hl hC hs hwf hcl hK hsh s1 s2
  unfold maxLen at hcm hdm
  have qm : decide ((60 : Int) < (m : Int)) = false := by simp; omega
  go_enter Try.func9, Try.ntmps9
  go_wp2_with (fail)
  generalize hge : World.alloc _ _ = w0
  have H0 := Lib.hid (show Blk w0 w.heap.size 26 #[.slice A n c] by subst hge; exact Blk.new w _ _)
  have HB0 := Lib.hid (show Below w.heap.size w w0 by subst hge; exact (Below.refl _ _).alloc (Nat.le_refl _) _)
  have hs0 : w.heap.size < w0.heap.size := by subst hge; simp
  clear hge
  refine (fsane_any w0).mono ?_
  rintro e w1 ⟨rfl, hb1⟩
  have H1 := Lib.hid (H0.out.below hb1)
  have HB1 := Lib.hid (below_of HB0.out hb1 HB0.out.size)
  have hs1 : w.heap.size < w1.heap.size := Nat.lt_of_lt_of_le hs0 hb1.size
  clear hb1 H0 hs0
  have q0 := H1.out.cellv' (i := 0) rfl
  go_wp2_with (fail)
  refine (HS.out w1 (HC.out.below HB1.out)).mono ?_
  rintro e w2 ⟨rfl, hb2⟩
  have H2 := Lib.hid (H1.out.below hb2)
  have HB2 := Lib.hid (below_of HB1.out hb2 HB1.out.size)
  have hs2 : w.heap.size < w2.heap.size := Nat.lt_of_lt_of_le hs1 hb2.size
  clear hb2 H1 hs1 q0 HS
  go_upto_region 6 with (fail)
  generalize hge : World.alloc _ _ = w3
  have H3 := Lib.hid (show Blk w3 w.heap.size 26 #[.slice A n c] by subst hge; exact H2.out.alloc _)
  have H3b := Lib.hid (show Blk w3 w2.heap.size 26 #[.slice none 0 0] by subst hge; exact Blk.new w2 _ _)
  have HB3 := Lib.hid (show Below w.heap.size w w3 by subst hge; exact HB2.out.alloc HB2.out.size _)
  clear hge H2
  obtain ⟨X, hX⟩ : ∃ X, w2.heap.size = X := ⟨_, rfl⟩
  rw [hX] at H3b hs2 ⊢
  clear hX
  have HT0 := Lib.hid (show TurnRel w ls A n c X 0 w3 from ⟨_, HB3.out, H3.out, H3b.out, by simpa [Fix.swapL] using OwnR.nil_ w3 w.heap.size⟩)
  have q0 := H3.out.cellv' (i := 0) rfl
  clear H3b HB3 H3
  go_wp2_with (fail)
  go_loopw [35] (fun i W => ∃ k : Nat, k ≤ n ∧ i = .int .i64 k ∧ Hid (∀ l ∈ ls.take k, ∀ x ∈ l, x.1 ≠ x.2) ∧ Hid (TurnRel w ls A n c X k W)) (fun i _ => n - (intOf i).toNat)
  case atStart => exact ⟨0, Nat.zero_le _, rfl, Lib.hid (by simp), HT0⟩
  case round =>
    obtain ⟨wk, rfl⟩ : ∃ wk : World, wk = wr := ⟨_, rfl⟩
    clear HT0 q0
    obtain ⟨k, hk, rfl, Hne, hrel⟩ := hrel
    by_cases hlt : k < n
    · obtain ⟨v, HR0'⟩ := hrel.out
      have HR0 := Lib.hid HR0'
      obtain ⟨hbw, hbA, hbX, hOR⟩ := HR0'
      obtain ⟨l, hx⟩ := getElem?_lt (l := ls) (k := k) (by rw [Hl.out]; exact hlt)
      obtain ⟨b, off, A', c', rfl, hb, hcell, hlc, hcm', hI⟩ := (HC.out.below hbw).at_ hx
      have hll : l.length ≤ 160 := Hll.out l (List.mem_of_getElem? hx)
      obtain ⟨nl, hnl⟩ : ∃ nl, nl = l.length := ⟨_, rfl⟩
      rw [← hnl] at hcell hlc hll
      have HI := Lib.hid hI
      have Hnl := Lib.hid hnl
      have Hx := Lib.hid hx
      clear hbw hbA hbX hOR hI hnl hx hrel
      go_wp2_with (fail)
      go_loopw [41, 12] (fun i bk W2 => ∃ j : Nat, ∃ A5 c5, j ≤ nl ∧ i = .int .i64 j ∧ bk = .slice A5 j c5 ∧ Hid (∀ x ∈ l.take j, x.1 ≠ x.2) ∧ Hid (W2.ownsRow wk.heap.size 51 2 (.slice A5 j c5) j (ivV ((l.take j).map Fix.swapM))) ∧ Hid (Below wk.heap.size wk W2)) (fun i _ _ => nl - (intOf i).toNat)
      case atStart => exact ⟨0, none, 0, Nat.zero_le _, rfl, rfl, Lib.hid (by simp), World.ownsRow_nil wk _ _ _, Below.refl _ _⟩
      case round =>
        obtain ⟨W2, rfl⟩ : ∃ W2 : World, W2 = wr := ⟨_, rfl⟩
        obtain ⟨j, A5, c5, hj, rfl, rfl, Hnj, hown, hB⟩ := hrel
        by_cases hjl : j < nl
        · obtain ⟨⟨x, y⟩, hxy⟩ := getElem?_lt (l := l) (k := j) (by rw [← Hnl.out]; exact hjl)
          obtain ⟨b2, off2, rfl, hb2, hcs⟩ := HI.out.at_ (by rw [← Hnl.out]; omega)
          have hc1 := (hB.out.cell (p := ⟨b2, off2 + j * 2, none⟩) hb2).trans (hcs j _ hxy).1
          have hc2 := (hB.out.cell (p := ⟨b2, off2 + j * 2 + 1, none⟩) hb2).trans (hcs j _ hxy).2
          have Hxy := Lib.hid hxy
          clear hcs hxy
          have bX := Blk.new W2 51 #[.int .i64 x, .int .i64 y]
          have q0 := bX.cell 0
          have q1 := bX.cell 1
          have HownX := Lib.hid (hown.out.alloc (.cells #[.int .i64 x, .int .i64 y] 51))
          have HBX := Lib.hid (hB.out.alloc hB.out.size (.cells #[.int .i64 x, .int .i64 y] 51))
          by_cases hxe : x = y
          · subst hxe
            go_upto_region 13 with (fail)
            clear hc1 hc2 bX
            generalize World.alloc _ _ = WX at *
            go_wp2_with (fail)
            go_ret
            exact ⟨rfl, below_of HR0.out.1 HBX.out HR0.out.1.size⟩
          · have hxd : decide (x = y) = false := by simpa using hxe
            go_upto_region 13 with (fail)
            clear hc1 hc2 bX
            generalize World.alloc _ _ = WX at *
            go_wp2_with ((at_builtin; refine push2 rfl (.tmp 50) (.tmp 56) 46 rfl wk.heap.size 51 (.agg #[.int .i64 0, .int .i64 0]) 16 (by kernel_rfl) (by kernel_rfl) rfl (.slice A5 j c5) j (ivV ((l.take j).map Fix.swapM)) (.int .i64 y) (.int .i64 x) HownX.out rfl rfl rfl rfl (by unfold maxLen; omega) (by omega) HBX.out.size ?_; intro v5 w5 hown5 hg5 _; have HB5 := Lib.hid (below_grown HBX.out hg5 HBX.out.size (fun k hk => own_base HownX.out k hk)); obtain ⟨A7, c7, rfl, -, -, -⟩ := own_form hown5; have Hown5 := Lib.hid hown5; clear hown5 hg5))
            go_roundw
            case rel => exact ⟨j + 1, A7, c7, by omega, by go_num, rfl, Lib.hid (by rw [take_snoc Hxy.out]; intro z hz; rcases List.mem_append.1 hz with hz | hz; (· exact Hnj.out z hz); (· simp at hz; subst hz; exact hxe)), (show World.ownsRow _ _ _ _ _ _ _ by rw [take_snoc Hxy.out, List.map_append, ivV_append]; exact Hown5.out), HB5.out⟩
            case measure => simp [intOf]; omega
        · obtain rfl : nl = j := by omega
          clear hjl
          have ht : l.take nl = l := by rw [Hnl.out]; exact List.take_of_length_le (Nat.le_refl _)
          have HownB := Lib.hid (show W2.ownsRow wk.heap.size 51 2 (.slice A5 nl c5) nl (ivV (l.map Fix.swapM)) by have := hown.out; rwa [ht] at this)
          have Hnl2 := Lib.hid (show ∀ x ∈ l, x.1 ≠ x.2 by have := Hnj.out; rwa [ht] at this)
          obtain ⟨A5', c5', he5, hc5, hm5, -⟩ := own_form HownB.out
          injection he5 with e5a e5b e5c
          subst e5a; subst e5c
          clear ht hown e5b Hnj
          obtain ⟨hbw, hbA, hbX, hOR⟩ := HR0.out
          have hB2 := hB.out
          have Hbw2 := Lib.hid (below_of hbw hB2 hbw.size)
          have bX2 := hbX.below hB2
          have bA2 := hbA.below hB2
          have HOL := Lib.hid (fun b hb' => (hOR.ownBlock b hb').2)
          obtain ⟨hs', g1, g2, g3⟩ := hOR.below hB2
          have hn7 : (Fix.swapL (ls.take k)).length = k := by
            rw [Fix.swapL, List.length_map, List.length_take, Hl.out]; omega
          rw [hn7] at g2
          have Hn7 := Lib.hid hn7
          obtain ⟨A6, c6, hv6, hc6, hm6, -⟩ := own_form g2
          subst hv6
          have G1 := Lib.hid g1
          have HG2 := Lib.hid g2
          have HG3 := Lib.hid g3
          have HBL := Lib.hid bX2
          have HBA := Lib.hid bA2
          have HNL := Lib.hid (Boxed.not_row (B := X) bX2 (by decide) g2)
          have HNA := Lib.hid (Boxed.not_row (B := w.heap.size) bA2 (by decide) g2)
          have hcl := bX2.cell 0
          have hcl' : W2.cell? ⟨X, 0, none⟩ = some (.slice A6 k c6) := hcl
          clear hcl g1 g2 g3 hbw hbA hbX hOR bX2 bA2 hB2 hn7
          go_upto_region 18 with (at_builtin; refine push1 rfl (.tmp 60) (.tmp 62) 24 rfl w.heap.size 46 (.slice none 0 0) 24 (by kernel_rfl) (by kernel_rfl) rfl _ _ _ (.slice A5 nl c5) HG2.out rfl rfl rfl (by unfold maxLen; omega) (by omega) Hbw2.out.size ?_; intro v' w3' hown' hg3 hsit; have bL3 := Blk.grown HBL.out hg3 HNL.out; have hf3 := bL3.frozen 0; have hcl3 := bL3.cell 0; obtain ⟨A4, c4, rfl, hc4, hm4, -⟩ := own_form hown')
          have hbw3 : Below w.heap.size w w3' := below_grown Hbw2.out hg3 Hbw2.out.size (own_base HG2.out)
          have hbw4 := below_set (i := 0) hbw3 (P := X) (by omega) (.slice A4 (k + 1) c4)
          have bL4 : Blk (w3'.setCell ⟨X, 0, none⟩ (.slice A4 (k + 1) c4)) X 26 #[.slice A4 (k + 1) c4] := by simpa using bL3.set_ 0 (.slice A4 (k + 1) c4)
          have bC3 := Blk.grown HBA.out hg3 HNA.out
          have bC4 := bC3.far (p := ⟨X, 0, none⟩) (by simp; omega) (.slice A4 (k + 1) c4)
          have hin : Inner W2 (.slice A6 k c6) A5 (l.map Fix.swapM) := Inner.own HownB.out (fun b' hb' => HOL.out b' hb')
          have hll' : (l.map Fix.swapM).length = nl := by rw [List.length_map, Hnl.out]
          have hOR3 := OwnR.push G1.out HG3.out hg3 hsit (by rw [Hn7.out, hll']; exact hown') (by rw [hll']; exact hc5) hm5 hin
          rw [← Fix.swapL_snoc Hx.out] at hOR3
          have HF := Lib.hid (show TurnRel w ls _ n c X (k + 1) (w3'.setCell ⟨X, 0, none⟩ (.slice A4 (k + 1) c4)) from ⟨_, hbw4, bC4, bL4, hOR3.box bL3⟩)
          clear hbw3 hbw4 bL4 bC3 bC4 hin hll' hOR3 bL3 hcl3 hf3 hown' hg3 hsit
          generalize World.setCell _ _ _ = w4 at *
          go_wp2_with (fail)
          go_roundw
          case rel => exact ⟨k + 1, by omega, by go_num, Lib.hid (by rw [take_snoc Hx.out]; intro z hz; rcases List.mem_append.1 hz with hz | hz; (· exact Hne.out z hz); (· simp at hz; subst hz; exact Hnl2.out)), HF⟩
          case measure => simp [intOf]; omega
    · obtain rfl : n = k := by omega
      obtain ⟨v, hbw, hbA, hbX, hOR⟩ := hrel.out
      have ht : ls.take n = ls := List.take_of_length_le (by rw [Hl.out]; exact Nat.le_refl _)
      rw [ht] at hOR
      have Hne' := Lib.hid (show ∀ l ∈ ls, ∀ x ∈ l, x.1 ≠ x.2 by have := Hne.out; rwa [ht] at this)
      have HRl := Lib.hid (HC.out.below hbw)
      have HKk := Lib.hid (HK.out.below hbw)
      have hn9 : (Fix.swapL ls).length = n := by rw [Fix.swapL, List.length_map, Hl.out]
      obtain ⟨A9, c9, hv9, hc9, hm9, -⟩ := own_form (hOR.choose_spec.2.1)
      rw [hn9] at hv9 hc9
      subst hv9
      have HRb := Lib.hid hOR.rounds.2.2.2
      have Hbw := Lib.hid hbw
      have hflat9 : (Fix.swapL ls).flatten.length ≤ 160 := by rw [Fix.swapL_flatten, List.length_map]; exact Hflat.out
      have hwf9 : ∀ l ∈ Fix.swapL ls, ∀ x ∈ l, WfM x := fun l hl x hx => by
        obtain ⟨l', hl', rfl⟩ := List.mem_map.1 hl
        have := Hwf.out l' hl' _ (Fix.swap_mem.1 hx)
        exact ⟨this.2, this.1⟩
      have HP1 := Lib.hid (fun W h => pattern_any A n c ls club W Hl.out (by omega) h (fun l hl => by have := Hll.out l hl; omega))
      have HP2 := Lib.hid (fun W h => pattern_any A9 n c9 (Fix.swapL ls) club W hn9 (by omega) h (fun l hl => by have := Fix.len_flat hl; omega))
      have HF1 := Lib.hid (fun W h h' => full_any A n c ls B m d cl dbl W Hl.out (by omega) h Hcl.out hmd h' (by have := Hflat.out; omega) Hwf.out)
      have HF2 := Lib.hid (fun W h h' => full_any A9 n c9 (Fix.swapL ls) B m d cl dbl W hn9 (by omega) h Hcl.out hmd h' (by omega) hwf9)
      have HC1 := Lib.hid (fun W h h' => check30_any A n c ls B m d cl W Hl.out (by omega) h Hcl.out h' (by have := Hflat.out; omega) Hwf.out)
      have HC2 := Lib.hid (fun W h h' => check30_any A9 n c9 (Fix.swapL ls) B m d cl W hn9 (by omega) h Hcl.out h' (by omega) hwf9)
      have HB1 := Lib.hid (fun W h => breaks_any A n c ls club W Hl.out (by omega) h (fun l hl => by have := Hll.out l hl; omega))
      have HB2 := Lib.hid (fun W h => breaks_any A9 n c9 (Fix.swapL ls) club W hn9 (by omega) h (fun l hl => by have := Fix.len_flat hl; omega))
      rw [Fix.swap_pat Hne'.out] at HP2 HB2
      rw [Fix.breaks_neg] at HB2
      rw [Fix.fullR_swap, Fix.checkE_swap] at HF2
      rw [Fix.checkE_swap] at HC2
      have Hpl := Lib.hid (show (ls.map (Fix.patM club)).length = n by rw [List.length_map, Hl.out])
      have Hpv : Hid (∀ x ∈ ls.map (Fix.patM club), x = 0 ∨ x = 1 ∨ x = -1) := Lib.hid fun x hx => by
        obtain ⟨l, -, rfl⟩ := List.mem_map.1 hx
        exact Fix.patM_values club l
      generalize ls.map (Fix.patM club) = p at *
      generalize Fix.fullR cl ls dbl = fv at *
      generalize Fix.checkE cl ls = ce at *
      generalize Fix.breaksP p = bk at *
      generalize Fix.swapL ls = bs at *
      have a0 : wk.cell? ⟨w.heap.size, 0, none⟩ = some (.slice A n c) := hbA.cell 0
      have x0 : wk.cell? ⟨X, 0, none⟩ = some (.slice A9 n c9) := hbX.cell 0
      clear hbw hbA hbX hOR ht hrel Hne hflat9 hwf9 hn9 HC HK
      go_wp2_with (fail)
      go_region_held3 (fun W => W.cell? ⟨w.heap.size, 0, none⟩ = some (.slice A n c) ∧ W.cell? ⟨X, 0, none⟩ = some (.slice A9 n c9) ∧ Below wk.heap.size wk W)
        (first
          | exact ⟨by assumption, by assumption, by assumption⟩
          | exact ⟨a0, x0, below_drewN (Below.refl _ _) 1⟩)
        (first
          | (go_at_call 20; go_split_ands; first | (with_reducible refine (HP1.out _ (HRl.out.below (by assumption))).mono ?_; rintro e wa ⟨Aa, ca, rfl, howna, hca, hma, hbwa⟩; have CA := Lib.hid (Cells.own howna); have k0 : wa.cell? ⟨w.heap.size, 0, none⟩ = some (.slice A n c) := cellk hbwa (by assumption); have k1 : wa.cell? ⟨X, 0, none⟩ = some (.slice A9 n c9) := cellk hbwa (by assumption); have k2 : Below wk.heap.size wk wa := below_of (by assumption) hbwa (Below.size (by assumption))) | (with_reducible refine (HP2.out _ (HRb.out.below (by assumption))).mono ?_; rintro e wb ⟨Ab, cb, rfl, hownb, hcb, hmb, hbwb⟩; have CB := Lib.hid (Cells.own hownb); have CAb := Lib.hid (CA.out.below hbwb); have k0 : wb.cell? ⟨w.heap.size, 0, none⟩ = some (.slice A n c) := cellk hbwb (by assumption); have k1 : wb.cell? ⟨X, 0, none⟩ = some (.slice A9 n c9) := cellk hbwb (by assumption); have k2 : Below wk.heap.size wk wb := below_of (by assumption) hbwb (Below.size (by assumption))))
          | (fail))
      have RA := Lib.hid (HRl.out.below k2)
      have RB := Lib.hid (HRb.out.below k2)
      have KB := Lib.hid (HKk.out.below k2)
      have HBb := Lib.hid (below_of Hbw.out k2 Hbw.out.size)
      have CA2 := Lib.hid (show Ints wb Aa p from CAb.out)
      have CB2 := Lib.hid (show Ints wb Ab (p.map fun x => -x) from CB.out)
      have hA0 := Lib.hid k0
      have hX0 := Lib.hid k1
      clear HRl HRb HKk Hbw CAb CB howna hownb hbwa hbwb HP1 HP2 k2 a0 x0
      go_wp2_with (fail)
      go_loopw [87] (fun i W => ∃ k : Nat, k ≤ n ∧ i = .int .i64 k ∧ Hid (Below wb.heap.size wb W)) (fun i _ => n - (intOf i).toNat)
      case atStart => exact ⟨0, Nat.zero_le _, rfl, Below.refl _ _⟩
      case round =>
        obtain ⟨wi, rfl⟩ : ∃ wi : World, wi = wr := ⟨_, rfl⟩
        obtain ⟨i, hi, rfl, hB⟩ := hrel
        by_cases hlt : i < n
        · obtain ⟨y, hy⟩ := getElem?_lt (l := p) (k := i) (by rw [Hpl.out]; exact hlt)
          have hyn : (p.map fun x => -x)[i]? = some (-y) := by rw [List.getElem?_map, hy]; rfl
          obtain ⟨b3, off3, rfl, hb3, hcs3⟩ := (CA2.out.below hB.out).at_ (k := i) (by rw [Hpl.out]; exact hlt)
          obtain ⟨b4, off4, rfl, hb4, hcs4⟩ := (CB2.out.below hB.out).at_ (k := i) (by rw [List.length_map, Hpl.out]; exact hlt)
          have c3 := hcs3 i y hy
          have c4 := hcs4 i _ hyn
          have hyv := Hpv.out y (List.mem_of_getElem? hy)
          clear hcs3 hcs4 hy hyn
          rcases hyv with rfl | rfl | rfl
          · rw [show -(0 : Int) = 0 from rfl] at c4
            go_wp2_with (fail)
            go_quiet (fail)
            go_wp2_with (fail)
            go_roundw
            case rel => exact ⟨i + 1, by omega, by go_num, below_drewN hB.out _⟩
            case measure => simp [intOf]; omega
          · skip
            go_wp2_with (fail)
            go_quiet (fail)
            go_wp2_with (fail)
            go_roundw
            case rel => exact ⟨i + 1, by omega, by go_num, below_drewN hB.out _⟩
            case measure => simp [intOf]; omega
          · rw [show -(-1 : Int) = 1 from rfl] at c4
            go_wp2_with (fail)
            go_quiet (fail)
            go_wp2_with (fail)
            go_roundw
            case rel => exact ⟨i + 1, by omega, by go_num, below_drewN hB.out _⟩
            case measure => simp [intOf]; omega
        · obtain rfl : n = i := by omega
          have RA2 := Lib.hid (RA.out.below hB.out)
          have RB2 := Lib.hid (RB.out.below hB.out)
          have KB2 := Lib.hid (KB.out.below hB.out)
          have HBi := Lib.hid (below_of HBb.out hB.out HBb.out.size)
          have a1 := cellk hB.out hA0.out
          have x1 := cellk hB.out hX0.out
          clear RA RB KB HBb hA0 hX0 k0 k1 CA2 CB2 hB
          go_wp2_with (fail)
          refine (HF1.out wi RA2.out KB2.out).mono ?_
          rintro e wf1 ⟨rfl, hbf⟩
          have RA3 := Lib.hid (RA2.out.below hbf)
          have RB3 := Lib.hid (RB2.out.below hbf)
          have KB3 := Lib.hid (KB2.out.below hbf)
          have HB3' := Lib.hid (below_of HBi.out hbf HBi.out.size)
          have a2 := cellk hbf a1
          have x2 := cellk hbf x1
          clear RA2 RB2 KB2 HBi a1 x1 hbf HF1
          go_wp2_with (fail)
          refine (HF2.out wf1 RB3.out KB3.out).mono ?_
          rintro e wf2 ⟨rfl, hbf⟩
          have RA4 := Lib.hid (RA3.out.below hbf)
          have RB4 := Lib.hid (RB3.out.below hbf)
          have KB4 := Lib.hid (KB3.out.below hbf)
          have HB4' := Lib.hid (below_of HB3'.out hbf HB3'.out.size)
          have a3 := cellk hbf a2
          have x3 := cellk hbf x2
          clear RA3 RB3 KB3 HB3' a2 x2 hbf HF2
          go_wp2_with (fail)
          go_region_held3 (fun W => W.cell? ⟨w.heap.size, 0, none⟩ = some (.slice A n c) ∧ W.cell? ⟨X, 0, none⟩ = some (.slice A9 n c9) ∧ Below wf2.heap.size wf2 W)
            (first
              | exact ⟨by assumption, by assumption, by assumption⟩
              | exact ⟨a3, x3, below_drewN (Below.refl _ _) 1⟩)
            (first
              | (go_at_call 22; go_split_ands; (first | (with_reducible refine (HB1.out _ (RA4.out.below (by assumption))).mono ?_) | (with_reducible refine (HB2.out _ (RB4.out.below (by assumption))).mono ?_)); rintro e wc ⟨rfl, hbwc⟩; have k0 : wc.cell? ⟨w.heap.size, 0, none⟩ = some (.slice A n c) := cellk hbwc (by assumption); have k1 : wc.cell? ⟨X, 0, none⟩ = some (.slice A9 n c9) := cellk hbwc (by assumption); have k2 : Below wf2.heap.size wf2 wc := below_of (by assumption) hbwc (Below.size (by assumption)))
              | (go_at_call 17; go_split_ands; (first | (with_reducible refine (HC1.out _ (RA4.out.below (by assumption)) (KB4.out.below (by assumption))).mono ?_) | (with_reducible refine (HC2.out _ (RB4.out.below (by assumption)) (KB4.out.below (by assumption))).mono ?_)); rintro e wc ⟨rfl, hbwc⟩; have k0 : wc.cell? ⟨w.heap.size, 0, none⟩ = some (.slice A n c) := cellk hbwc (by assumption); have k1 : wc.cell? ⟨X, 0, none⟩ = some (.slice A9 n c9) := cellk hbwc (by assumption); have k2 : Below wf2.heap.size wf2 wc := below_of (by assumption) hbwc (Below.size (by assumption)))
              | (fail))
          all_goals
            go_wp2_with (fail)
            go_ret
            exact ⟨rfl, below_of HB4'.out (by assumption) HB4'.out.size⟩
theorem FixturesTurned_walk (w : World) (A : Option Addr) (n c : Nat) (ls : List (List (Int × Int))) (hl : ls.length = n) (hnc : n ≤ c) (hcm : c ≤ maxLen) (hC : RoundsC w A ls) (hwf : ∀ l ∈ ls, ∀ x ∈ l, WfM x) (hs : ∀ l ∈ ls, l.length * 16 ≤ reachBytes)
    (B : Option Addr) (m d : Nat) (cl : List Int) (hcl : cl.length = m) (hmd : m ≤ d) (hdm : d ≤ maxLen) (hK : Cells w B (cl.map (Value.int .i64))) (_hw : ∀ x ∈ cl, (Lit.int .i64 x).wf = true) (dbl : Bool) (club : Int) (_wc : (Lit.int .i64 club).wf = true) :
    Calls Try.prog 9 #[.agg #[.slice A n c], .slice B m d, .bool dbl, .int .i64 club] w (Fine w) := by
  cases hsh : Fix.shortR ls with
  | false => exact turned_no w A n c ls hl hnc hcm hC hs B m d hmd hdm dbl club (.inl hsh)
  | true =>
    by_cases hm : 60 < m
    · exact turned_no w A n c ls hl hnc hcm hC hs B m d hmd hdm dbl club (.inr hm)
    · exact turned_yes w A n c ls hl hnc hcm hC hwf hs B m d cl hcl hmd hdm hK dbl club hsh (by omega)
-- the row
theorem fixturesTurned_own : ownKnob Try.prog.godebug = none := by kernel_rfl
theorem fixturesTurned_laidOut : laidOutB Try.prog = true := by kernel_rfl
theorem fixturesTurned_readable : (Try.f9.params.toList.all fun t => Try.prog.readableRec t && decide (t < Try.prog.types.size)) = true := by kernel_rfl
set_option maxRecDepth 100000 in
theorem fixturesTurned_lifted (os : Os) (started : os.Started) (H : Type) (enc : TypeId × Value → H) :
    ReturnsInHanded {} Try.checked os 9 .any (Rows.fixturesTurnedSpec.pre6 enc Try.prog Try.f9 Rows.fixturesTurnedRow.domain false) (Rows.fixturesTurnedSpec.post enc Try.prog Try.f9 false true false false) := by
  refine returnsInHanded_of_change_sized (C := Try.checked) fixturesTurned_own started (by kernel_rfl) Try.func9
    (ChangeSpec.witness6 (enc := enc) (C := Try.checked) false ⟨#[], #[.agg #[.slice none 0 0], .slice none 0 0, .bool false, .int .i64 0], []⟩ 8 (by kernel_rfl) (by kernel_rfl) (by kernel_rfl) (by kernel_rfl)) ?_
  intro W base args ds gs before hval0 hW hcnd hsz _
  have hval : ∀ (j : Nat) t v, Try.f9.params[j]? = some t → args[j]? = some v → Value.okWide Try.prog W .any base t v := hval0
  have hW' := hW
  obtain ⟨p, q, hA0, hV, rfl, hfz, hnd⟩ := hW
  have hA : DataW.TrodAll enc Try.prog W 0 (fun _ => true) true Try.f9.params.toList args.toList ds p := hA0
  rw [Try.params9] at hA hval
  obtain ⟨v0, vs0, d0, ds0, p0, q0, hargs, rfl, rfl, h0, r0⟩ := trodAll_cons hA
  obtain ⟨v1, vs1, d1, ds1, p1, q1, rfl, rfl, rfl, h1, r1⟩ := trodAll_cons r0
  obtain ⟨v2, vs2, d2, ds2, p2, q2, rfl, rfl, rfl, h2, r2⟩ := trodAll_cons r1
  obtain ⟨v3, vs3, d3, ds3, p3, q3, rfl, rfl, rfl, h3, r3⟩ := trodAll_cons r2
  obtain ⟨rfl, rfl, rfl⟩ := trodAll_nil r3
  obtain rfl : args = #[v0, v1, v2, v3] := by cases args; simp_all
  obtain ⟨rfl, rfl⟩ := trodVars_none hV
  obtain ⟨A0, n0, c0, ls0, rfl, e0, nc0, cm0, g0, w0, z0⟩ := open_list (hval 0 26 v0 rfl rfl) h0
  have z0' := list_reach hsz (j := 0) rfl rfl z0
  obtain ⟨A1, n1, c1, xs1, rfl, l1, nc1, cm1, g1, w1⟩ := open_intslice Try.underlying22 Try.underlying3 (by kernel_rfl) (hval 1 22 v1 rfl rfl) h1
  obtain ⟨a2, rfl, rfl, rfl⟩ := open_bool Try.underlying4 (hval 2 4 v2 rfl rfl) h2
  obtain ⟨a3, rfl, rfl, rfl, w3⟩ := open_int Try.underlying3 (hval 3 3 v3 rfl rfl) h3
  refine (FixturesTurned_walk W A0 n0 c0 ls0 e0 nc0 cm0 g0 w0 z0' A1 n1 c1 xs1 l1 nc1 cm1 g1 w1 a2 a3 w3).mono fun e W' ⟨he, hb⟩ => ?_
  subst he
  simp only [List.append_nil] at hW'
  refine ⟨_, rfl, law_post fixturesTurned_laidOut ?_ (by kernel_rfl) Try.underlying4 rfl hW' rfl rfl rfl hb⟩
  intro t ht
  have hr := List.all_eq_true.1 fixturesTurned_readable t ht
  rw [Bool.and_eq_true] at hr
  exact ⟨hr.1, of_decide_eq_true hr.2⟩
theorem fixturesTurned_over : Rows.fixturesTurnedRow.holds Try.pinned (OpenSpec.ofChange Rows.fixturesTurnedSpec) :=
  OpenClaim.holds_of_wide 9 Try.f9 rfl rfl rfl rfl rfl rfl rfl ⟨rfl, rfl, rfl, rfl, rfl⟩ rfl rfl rfl rfl rfl (by kernel_rfl) Try.func9 (by kernel_rfl)
    (of_decide_eq_true (by kernel_rfl)) (by unfold Func.isWrapper; rw [if_neg (of_decide_eq_false (by kernel_rfl))]; exact ⟨rfl, rfl⟩)
    (fun os started H enc _ => fixturesTurned_lifted os started H enc)
theorem fixturesTurned_proved : Rows.FixturesTurnedSaid := fixturesTurned_over
#print axioms fixturesTurned_proved
end Go.Proofs.Ytpmkebejfnflfaa
