/- The statement FixturesLessSaid: for every valid list, leaving out rounds or matches leads to a valid list, and a full list is not full any more without a match; no condition beside the row's own. -/
import Derived.Test.YtpmkebejfnflfaaFOl
import Derived.Test.YtpmkebejfnflfaaFLesP
import Derived.Deep.RegionHeld3
namespace Go.Proofs.Ytpmkebejfnflfaa
open Go.RowKit Go.WideShapes Go.ChangeShapes Go.ChangeAt Go.Lib
theorem short_parts' {ls : List (List (Int × Int))} (h : Fix.shortR ls = true) : ls.length ≤ 50 ∧ ls.flatten.length ≤ 160 := by
  unfold Fix.shortR at h
  simpa using h
theorem len_flat' {ls : List (List (Int × Int))} {l : List (Int × Int)} (h : l ∈ ls) : l.length ≤ ls.flatten.length := by
  obtain ⟨s, t, rfl⟩ := List.append_of_mem h
  simp only [List.flatten_append, List.flatten_cons, List.length_append]
  omega
open Go.IntWalk in
theorem pick_lt (x : Int) (n : Nat) (hn : 0 < n) (hn2 : n ≤ 1000000) : ∃ r : Nat, r < n ∧ wrap64 ((IntKind.u64.wrap x).tmod (n : Int)) = (r : Int) := by
  have h0 : 0 ≤ IntKind.u64.wrap x := by
    simp [IntKind.wrap, IntKind.signed, IntKind.bits]
    omega
  generalize IntKind.u64.wrap x = u at *
  rw [Int.tmod_eq_emod_of_nonneg h0]
  have h1 := Int.emod_nonneg u (b := (n : Int)) (by omega)
  have h2 := Int.emod_lt_of_pos u (b := (n : Int)) (by omega)
  refine ⟨(u % (n : Int)).toNat, by omega, ?_⟩
  rw [Go.IntWalk.wrap64_in _ (by omega)]
  omega
theorem cells_of_blk {w : World} {b : Nat} {t : TypeId} {cs : Array Value} {l : List Value} (h : Blk w b t cs) (hc : cs.toList = l) : Cells w (some ⟨b, 0, none⟩) l := by
  refine .inr ⟨b, 0, rfl, h.lt, fun j u hu => ?_⟩
  rw [Nat.zero_add, h.cell j, ← Array.getElem?_toList, hc]
  exact hu
theorem np_lit {b g n c : Nat} (h : b < g) : (Value.slice (some ⟨g, 0, none⟩) n c).ownBlock ≠ some b := fun e => by
  simp [Value.ownBlock] at e
  omega
theorem np_sits {v v' : Value} {w : World} {b : Nat} (st : Sits v v' w) (hn : v.ownBlock ≠ some b) (hb : b < w.heap.size) : v'.ownBlock ≠ some b := by
  rcases st with s | ⟨g, s, hl⟩
  · rw [s]; exact hn
  · rw [s]; intro e; injection e with e; omega
theorem iv_cutIf {w : World} {b off : Nat} {l : List (Int × Int)} (h : IvC w (some ⟨b, off, none⟩) l) {i c : Nat} (hc : l.length ≤ c) : IvC w (if c = i then some ⟨b, off, none⟩ else some ⟨b, off + i * 2, none⟩) (l.drop i) := by
  by_cases hci : c = i
  · rw [if_pos hci, List.drop_eq_nil_of_le (by omega)]
    exact IvC.nil_ _ _
  · rw [if_neg hci]
    unfold IvC
    rw [ivV_drop]
    exact Cells.drop_ h (i * 2)
theorem cellk' {W W' : World} {a : Addr} {v : Value} (hb : Below W.heap.size W W') (h : W.cell? a = some v) : W'.cell? a = some v := (hb.cell (World.block_lt_of_cell? W a h)).trans h
set_option linter.unusedVariables false
set_option linter.unusedSimpArgs false
set_option maxRecDepth 100000 in
set_option maxHeartbeats 16000000 in
theorem less_no (w : World) (A : Option Addr) (n c : Nat) (ls : List (List (Int × Int))) (hl : ls.length = n) (hnc : n ≤ c) (hcm : c ≤ maxLen) (hC : RoundsC w A ls) (hwf : ∀ l ∈ ls, ∀ x ∈ l, WfM x) (hs : ∀ l ∈ ls, l.length * 16 ≤ reachBytes)
    (B : Option Addr) (m d : Nat) (cl : List Int) (hcl : cl.length = m) (hmd : m ≤ d) (hdm : d ≤ maxLen) (hK : Ints w B cl) (dbl : Bool) (round at_ : Int) (h : Fix.shortR ls = false ∨ 60 < m ∨ n = 0 ∨ Fix.checkE cl ls ≠ 0) :
    Calls Try.prog 7 #[.agg #[.slice A n c], .slice B m d, .bool dbl, .int .i64 round, .int .i64 at_] w (Fine w) := by
  have HS := Lib.hid (fun W h => short_any A n c ls W hl hnc hcm h hs)
  have HC := Lib.hid hC
  have HK := Lib.hid hK
  unfold maxLen at hcm hdm
  cases hsh : Fix.shortR ls with
  | false =>
    rw [hsh] at HS
    clear hl hC hwf hs hcl hK h hsh
    go_enter Try.func7, Try.ntmps7
    go_wp2_with (fail)
    generalize hge : World.alloc _ _ = w0
    have H0 := Lib.hid (show Blk w0 w.heap.size 26 #[.slice A n c] by subst hge; exact Blk.new w _ _)
    have HB0 := Lib.hid (show Below w.heap.size w w0 by subst hge; exact (Below.refl _ _).alloc (Nat.le_refl _) _)
    clear hge
    refine (fsane_any w0).mono ?_
    rintro e w1 ⟨rfl, hb1⟩
    have H1 := Lib.hid (H0.out.below hb1)
    have HB1 := Lib.hid (below_of HB0.out hb1 HB0.out.size)
    clear hb1 H0
    have q0 := H1.out.cellv' (i := 0) rfl
    go_wp2_with (fail)
    refine (HS.out w1 (HC.out.below HB1.out)).mono ?_
    rintro e w2 ⟨rfl, hb2⟩
    have H2 := Lib.hid (H1.out.below hb2)
    have HB2 := Lib.hid (below_of HB1.out hb2 HB1.out.size)
    clear hb2 H1 q0 HS
    have q0 := H2.out.cellv' (i := 0) rfl
    go_wp2_with (fail)
    go_ret
    exact ⟨rfl, HB2.out⟩
  | true =>
  rw [hsh] at HS
  rw [hsh] at h
  obtain ⟨s1, s2⟩ := short_parts' hsh
  have hn50 : n ≤ 50 := by rw [← hl]; exact s1
  by_cases hm : 60 < m
  · have qm : decide ((60 : Int) < (m : Int)) = true := by simp; omega
    clear hl hC hwf hs hcl hK h hsh s1 s2
    go_enter Try.func7, Try.ntmps7
    go_wp2_with (fail)
    generalize hge : World.alloc _ _ = w0
    have H0 := Lib.hid (show Blk w0 w.heap.size 26 #[.slice A n c] by subst hge; exact Blk.new w _ _)
    have HB0 := Lib.hid (show Below w.heap.size w w0 by subst hge; exact (Below.refl _ _).alloc (Nat.le_refl _) _)
    clear hge
    refine (fsane_any w0).mono ?_
    rintro e w1 ⟨rfl, hb1⟩
    have H1 := Lib.hid (H0.out.below hb1)
    have HB1 := Lib.hid (below_of HB0.out hb1 HB0.out.size)
    clear hb1 H0
    have q0 := H1.out.cellv' (i := 0) rfl
    go_wp2_with (fail)
    refine (HS.out w1 (HC.out.below HB1.out)).mono ?_
    rintro e w2 ⟨rfl, hb2⟩
    have H2 := Lib.hid (H1.out.below hb2)
    have HB2 := Lib.hid (below_of HB1.out hb2 HB1.out.size)
    clear hb2 H1 q0 HS
    have q0 := H2.out.cellv' (i := 0) rfl
    go_wp2_with (fail)
    go_ret
    exact ⟨rfl, HB2.out⟩
  have qm : decide ((60 : Int) < (m : Int)) = false := by simp; omega
  by_cases hn : n = 0
  · have qn : decide ((n : Int) = 0) = true := by simp; omega
    have qn' : ((n : Int) == 0) = true := by simp; omega
    clear hl hC hwf hs hcl hK h hsh s1 s2 hn
    go_enter Try.func7, Try.ntmps7
    go_wp2_with (fail)
    generalize hge : World.alloc _ _ = w0
    have H0 := Lib.hid (show Blk w0 w.heap.size 26 #[.slice A n c] by subst hge; exact Blk.new w _ _)
    have HB0 := Lib.hid (show Below w.heap.size w w0 by subst hge; exact (Below.refl _ _).alloc (Nat.le_refl _) _)
    clear hge
    refine (fsane_any w0).mono ?_
    rintro e w1 ⟨rfl, hb1⟩
    have H1 := Lib.hid (H0.out.below hb1)
    have HB1 := Lib.hid (below_of HB0.out hb1 HB0.out.size)
    clear hb1 H0
    have q0 := H1.out.cellv' (i := 0) rfl
    go_wp2_with (fail)
    refine (HS.out w1 (HC.out.below HB1.out)).mono ?_
    rintro e w2 ⟨rfl, hb2⟩
    have H2 := Lib.hid (H1.out.below hb2)
    have HB2 := Lib.hid (below_of HB1.out hb2 HB1.out.size)
    clear hb2 H1 q0 HS
    have q0 := H2.out.cellv' (i := 0) rfl
    go_wp2_with (fail)
    go_ret
    exact ⟨rfl, HB2.out⟩
  · have qn : decide ((n : Int) = 0) = false := by simp; omega
    have qn' : ((n : Int) == 0) = false := by simp; omega
    have hck : Fix.checkE cl ls ≠ 0 := by
      rcases h with h | h | h | h
      · cases h
      · exact absurd h hm
      · exact absurd h hn
      · exact h
    have HC1 := Lib.hid (fun W h h' => check30_any A n c ls B m d cl W hl (by omega) h hcl h' (by omega) hwf)
    have hE : Fix.checkE cl ls = 1 ∨ Fix.checkE cl ls = 2 ∨ Fix.checkE cl ls = 300 := by
      rcases Fix.checkE_cases cl ls with h | h | h | h
      · exact absurd h hck
      · exact .inl h
      · exact .inr (.inl h)
      · exact .inr (.inr h)
    generalize Fix.checkE cl ls = er at *
    clear hl hC hwf hs hcl hK h hsh s1 s2 hck
    go_enter Try.func7, Try.ntmps7
    go_wp2_with (fail)
    generalize hge : World.alloc _ _ = w0
    have H0 := Lib.hid (show Blk w0 w.heap.size 26 #[.slice A n c] by subst hge; exact Blk.new w _ _)
    have HB0 := Lib.hid (show Below w.heap.size w w0 by subst hge; exact (Below.refl _ _).alloc (Nat.le_refl _) _)
    clear hge
    refine (fsane_any w0).mono ?_
    rintro e w1 ⟨rfl, hb1⟩
    have H1 := Lib.hid (H0.out.below hb1)
    have HB1 := Lib.hid (below_of HB0.out hb1 HB0.out.size)
    clear hb1 H0
    have q0 := H1.out.cellv' (i := 0) rfl
    go_wp2_with (fail)
    refine (HS.out w1 (HC.out.below HB1.out)).mono ?_
    rintro e w2 ⟨rfl, hb2⟩
    have H2 := Lib.hid (H1.out.below hb2)
    have HB2 := Lib.hid (below_of HB1.out hb2 HB1.out.size)
    clear hb2 H1 q0 HS
    have q0 := H2.out.cellv' (i := 0) rfl
    go_wp2_with (fail)
    refine (HC1.out w2 (HC.out.below HB2.out) (HK.out.below HB2.out)).mono ?_
    rintro e w3 ⟨rfl, hb3⟩
    have HB3 := Lib.hid (below_of HB2.out hb3 HB2.out.size)
    clear hb3
    rcases hE with rfl | rfl | rfl
    all_goals
      go_wp2_with (fail)
      go_ret
      exact ⟨rfl, HB3.out⟩

set_option maxRecDepth 100000 in
set_option maxHeartbeats 16000000 in
theorem less_yes (w : World) (A : Option Addr) (n c : Nat) (ls : List (List (Int × Int))) (hl : ls.length = n) (hnc : n ≤ c) (hcm : c ≤ maxLen) (hC : RoundsC w A ls) (hwf : ∀ l ∈ ls, ∀ x ∈ l, WfM x) (hs : ∀ l ∈ ls, l.length * 16 ≤ reachBytes)
    (B : Option Addr) (m d : Nat) (cl : List Int) (hcl : cl.length = m) (hmd : m ≤ d) (hdm : d ≤ maxLen) (hK : Ints w B cl) (dbl : Bool) (round at_ : Int) (hsh : Fix.shortR ls = true) (hm60 : m ≤ 60) (hn0 : 0 < n) (hck : Fix.checkE cl ls = 0) :
    Calls Try.prog 7 #[.agg #[.slice A n c], .slice B m d, .bool dbl, .int .i64 round, .int .i64 at_] w (Fine w) := by
  have HS := Lib.hid (fun W h => short_any A n c ls W hl hnc hcm h hs)
  rw [hsh] at HS
  obtain ⟨s1, s2⟩ := short_parts' hsh
  have hn50 : n ≤ 50 := by rw [← hl]; exact s1
  obtain ⟨hs9, hh1, hh2, hh3⟩ := id hC
  have HH := Lib.hid (show HeadsC w hs9 ls from ⟨hh1, hh3⟩)
  have HCc := Lib.hid hh2
  have HC := Lib.hid hC
  have Hl := Lib.hid hl
  have Hwf := Lib.hid hwf
  have Hcl := Lib.hid hcl
  have HK := Lib.hid hK
  have Hck := Lib.hid hck
  have Hflat := Lib.hid s2
  have Hll := Lib.hid (fun l (h : l ∈ ls) => Nat.le_trans (len_flat' h) s2)
  have HC1 := Lib.hid (fun W h h' => check30_any A n c ls B m d cl W hl (by omega) h hcl h' (by omega) hwf)
  have HF1 := Lib.hid (fun W h h' => full_any A n c ls B m d cl dbl W hl (by omega) h hcl hmd h' (by omega) hwf)
  rw [hck] at HC1 HF1
  clear hl hC hs hwf hcl hK hsh s1 s2 hck hh1 hh2 hh3
  unfold maxLen at hcm hdm
  have qm : decide ((60 : Int) < (m : Int)) = false := by simp; omega
  have qn : decide ((n : Int) = 0) = false := by simp; omega
  have qn' : ((n : Int) == 0) = false := by simp; omega
  go_enter Try.func7, Try.ntmps7
  go_wp2_with (fail)
  generalize hge : World.alloc _ _ = w0
  have H0 := Lib.hid (show Blk w0 w.heap.size 26 #[.slice A n c] by subst hge; exact Blk.new w _ _)
  have HB0 := Lib.hid (show Below w.heap.size w w0 by subst hge; exact (Below.refl _ _).alloc (Nat.le_refl _) _)
  clear hge
  refine (fsane_any w0).mono ?_
  rintro e w1 ⟨rfl, hb1⟩
  have H1 := Lib.hid (H0.out.below hb1)
  have HB1 := Lib.hid (below_of HB0.out hb1 HB0.out.size)
  clear hb1 H0
  have q0 := H1.out.cellv' (i := 0) rfl
  go_wp2_with (fail)
  refine (HS.out w1 (HC.out.below HB1.out)).mono ?_
  rintro e w2 ⟨rfl, hb2⟩
  have H2 := Lib.hid (H1.out.below hb2)
  have HB2 := Lib.hid (below_of HB1.out hb2 HB1.out.size)
  clear hb2 H1 q0 HS
  have q0 := H2.out.cellv' (i := 0) rfl
  go_wp2_with (fail)
  refine (HC1.out w2 (HC.out.below HB2.out) (HK.out.below HB2.out)).mono ?_
  rintro e w3 ⟨rfl, hb3⟩
  have H3 := Lib.hid (H2.out.below hb3)
  have HB3 := Lib.hid (below_of HB2.out hb3 HB2.out.size)
  clear hb3 H2 q0 HC1
  have q0 := H3.out.cellv' (i := 0) rfl
  go_upto_region 7 with (fail)
  obtain ⟨b, off, rfl, hb, -⟩ := HCc.out.addr (by rw [rowV_length _ _ HH.out.1, Hl.out]; omega)
  generalize hge : World.alloc _ _ = w4
  have HX4 := Lib.hid (show Blk w4 w3.heap.size 26 #[.slice none 0 0] by subst hge; exact Blk.new w3 _ _)
  have HB34 := Lib.hid (show Below w3.heap.size w3 w4 by subst hge; exact (Below.refl _ _).alloc (Nat.le_refl _) _)
  clear hge
  obtain ⟨X, hX⟩ : ∃ X, w3.heap.size = X := ⟨_, rfl⟩
  rw [hX] at HX4 ⊢
  obtain ⟨r, hrn, hr⟩ := pick_lt round n hn0 (by omega)
  rw [hr]
  clear hr
  have HC9 := Lib.hid (HCc.out.below HB3.out)
  have hbx := q0
  have hlt9 := H3.out.lt
  have hrl : (rowV hs9 ls).length = n := by rw [rowV_length _ _ HH.out.1, Hl.out]
  have hrc : (r : Int) ≤ (c : Int) := by omega
  have hr0 : (0 : Int) ≤ (r : Int) + 1 := by omega
  have hr1n : (r : Int) + 1 ≤ (n : Int) := by omega
  have hr1c : (r : Int) + 1 ≤ (c : Int) := by omega
  have hncI : (n : Int) ≤ (c : Int) := by omega
  have s1 : IntKind.i64.wrap ((r : Int) + 1) = (r : Int) + 1 := IntWalk.i64_in _ (by omega)
  obtain ⟨A11, hA11⟩ : ∃ A11, (if c = r + 1 then some ⟨b, off, none⟩ else some ⟨b, off + (r + 1), none⟩ : Option Addr) = A11 := ⟨_, rfl⟩
  have HC11 := Lib.hid (HC9.out.cutIf (i := r + 1) (c := c) (by rw [hrl]; omega))
  rw [hA11] at HC11
  go_cut [62] (fun _ wx => ∃ (A5 : Option Addr) (c5 : Nat), Blk wx X 26 #[.slice A5 (r + (n - (r + 1))) c5] ∧ wx.ownsRow w3.heap.size 46 1 (.slice A5 (r + (n - (r + 1))) c5) (r + (n - (r + 1))) ([] ++ (rowV hs9 ls).take r ++ (rowV hs9 ls).drop (r + 1)) ∧ Below w3.heap.size w3 wx)
  case first =>
    refine wp_region_held_drew (S := fun W => Below w3.heap.size w3 W) (by kernel_rfl) (below_drewN HB34.out 1) (fun Hd => ?_)
    have Hd : Below w3.heap.size w3 w4.drew := below_drewN HB34.out 1
    have Zd : w3.heap.size ≤ w4.drew.heap.size := HB34.out.size
    have own0 : w4.drew.ownsRow w3.heap.size 46 1 (.slice none 0 0) 0 [] := World.ownsRow_nil _ _ _ _
    have fX0 : Blk w4.drew X 26 #[.slice none 0 0] := HX4.out
    generalize World.drew w4 = wd at *
    refine wpAnyH_take (i := 0) (v := ?_) rfl (by kernel_rfl) (by kernel_rfl) (by kernel_rfl) (fun _ _ _ h => h) (Or.inl ⟨by rfl, ?_⟩) Hd ?_
    rotate_left
    · intro wS hSw
      go_simp
      try with_reducible rfl
    try simp only [List.getElem_toArray, List.getElem_cons_zero, List.getElem_cons_succ, Act.put, List.setIfInBounds_toArray, List.set_cons_zero, List.set_cons_succ]
    refine wpAnyH_take (i := 2) (v := ?_) rfl (by kernel_rfl) (by kernel_rfl) (by kernel_rfl) (fun _ _ _ h => h) (Or.inl ⟨by rfl, ?_⟩) Hd ?_
    rotate_left
    · intro wS hSw
      go_simp
      try with_reducible rfl
    try simp only [List.getElem_toArray, List.getElem_cons_zero, List.getElem_cons_succ, Act.put, List.setIfInBounds_toArray, List.set_cons_zero, List.set_cons_succ]
    refine wpAnyH_take (i := 3) (v := ?_) rfl (by kernel_rfl) (by kernel_rfl) (by kernel_rfl) (fun _ _ _ h => h) (Or.inl ⟨by rfl, ?_⟩) Hd ?_
    rotate_left
    · intro wS hSw
      have c1 := (hSw.cell (p := ⟨w.heap.size, 0, none⟩) hlt9).trans hbx
      go_simp
      try with_reducible rfl
    try simp only [List.getElem_toArray, List.getElem_cons_zero, List.getElem_cons_succ, Act.put, List.setIfInBounds_toArray, List.set_cons_zero, List.set_cons_succ]
    refine wpAnyH_take (i := 4) (v := ?_) rfl (by kernel_rfl) (by kernel_rfl) (by kernel_rfl) (fun _ _ _ h => h) (Or.inl ⟨by rfl, ?_⟩) Hd ?_
    rotate_left
    · intro wS hSw
      go_simp
      try with_reducible rfl
    try simp only [List.getElem_toArray, List.getElem_cons_zero, List.getElem_cons_succ, Act.put, List.setIfInBounds_toArray, List.set_cons_zero, List.set_cons_succ]
    refine wpAnyH_take (i := 5) (v := ?_) rfl (by kernel_rfl) (by kernel_rfl) (by kernel_rfl) (fun _ _ _ h => h) (Or.inl ⟨by rfl, ?_⟩) Hd ?_
    rotate_left
    · intro wS hSw
      go_simp
      try with_reducible rfl
    try simp only [List.getElem_toArray, List.getElem_cons_zero, List.getElem_cons_succ, Act.put, List.setIfInBounds_toArray, List.set_cons_zero, List.set_cons_succ]
    refine wpAnyH_take (i := 7) (v := ?_) rfl (by kernel_rfl) (by kernel_rfl) (by kernel_rfl) (fun _ _ _ h => h) (Or.inl ⟨by rfl, ?_⟩) Hd ?_
    rotate_left
    · intro wS hSw
      go_simp
      try with_reducible rfl
    try simp only [List.getElem_toArray, List.getElem_cons_zero, List.getElem_cons_succ, Act.put, List.setIfInBounds_toArray, List.set_cons_zero, List.set_cons_succ]
    refine wpAnyH_take (i := 8) (v := ?_) rfl (by kernel_rfl) (by kernel_rfl) (by kernel_rfl) (fun _ _ _ h => h) (Or.inl ⟨by rfl, ?_⟩) Hd ?_
    rotate_left
    · intro wS hSw
      have c1 := (hSw.cell (p := ⟨w.heap.size, 0, none⟩) hlt9).trans hbx
      go_simp
      try with_reducible rfl
    try simp only [List.getElem_toArray, List.getElem_cons_zero, List.getElem_cons_succ, Act.put, List.setIfInBounds_toArray, List.set_cons_zero, List.set_cons_succ]
    refine wpAnyH_take (i := 9) (v := ?_) rfl (by kernel_rfl) (by kernel_rfl) (by kernel_rfl) (fun _ _ _ h => h) (Or.inl ⟨by rfl, ?_⟩) Hd ?_
    rotate_left
    · intro wS hSw
      go_simp
      try with_reducible rfl
    try simp only [List.getElem_toArray, List.getElem_cons_zero, List.getElem_cons_succ, Act.put, List.setIfInBounds_toArray, List.set_cons_zero, List.set_cons_succ]
    refine wpAnyH_take (i := 10) (v := ?_) rfl (by kernel_rfl) (by kernel_rfl) (by kernel_rfl) (fun _ _ _ h => h) (Or.inl ⟨by rfl, ?_⟩) Hd ?_
    rotate_left
    · intro wS hSw
      go_simp
      try with_reducible rfl
    try simp only [List.getElem_toArray, List.getElem_cons_zero, List.getElem_cons_succ, Act.put, List.setIfInBounds_toArray, List.set_cons_zero, List.set_cons_succ]
    refine wpAnyH_take (i := 11) (v := .slice A11 (n - (r + 1)) (c - (r + 1))) rfl (by kernel_rfl) (by kernel_rfl) (by kernel_rfl) (fun _ _ _ h => h) (Or.inl ⟨by rfl, ?_⟩) Hd ?_
    · intro wS hSw
      go_simp
    try simp only [List.getElem_toArray, List.getElem_cons_zero, List.getElem_cons_succ, Act.put, List.setIfInBounds_toArray, List.set_cons_zero, List.set_cons_succ]
    refine wpAnyH_ready (rs := [1]) (by kernel_rfl) (by simp) (AllReadyH.cons rfl (fun K hK => ?_) AllReadyH.nil)
    have qx := fX0.cell 0
    have qx' : _ = some (Value.slice none 0 0) := qx
    clear qx
    go_simp
    first | with_reducible rfl | skip
    refine hK.out _ _ Hd fun _ => ?_
    clear hK K
    try simp only [List.getElem_toArray, List.getElem_cons_zero, List.getElem_cons_succ, Act.put, List.setIfInBounds_toArray, List.set_cons_zero, List.set_cons_succ]
    refine wpAnyH_ready (rs := [6]) (by kernel_rfl) (by simp) (AllReadyH.cons rfl (fun K hK => ?_) AllReadyH.nil)
    refine step_append_cells (by rfl) (.tmp 51) (.tmp 55) 24 (by rfl) w3.heap.size 46 (.slice none 0 0) 1 24 (by kernel_rfl) (by kernel_rfl) rfl (by omega) (.slice none 0 0) (0) ([]) own0 (by rfl) (some ⟨b, off, none⟩) (r) (c) ((rowV hs9 ls).take r) (by rfl) (by rw [List.length_take, hrl]; omega) ((HC9.out.below Hd).take_ r) (fun u hu => rowV_one _ _ u (List.mem_of_mem_take hu)) (by unfold maxLen; omega) (by omega) Zd ?_
    intro v1 w1_ own1 hg1 st1
    have Hb1 : Below w3.heap.size w3 w1_ := below_grown Hd hg1 Hd.size (fun k hk => own_base own0 k hk)
    have Zb1 : w3.heap.size ≤ w1_.heap.size := Nat.le_trans Zd hg1.size
    obtain ⟨A1_, c1_, rfl, le1, lm1, -⟩ := own_form own1
    have fX1 := Blk.grown fX0 hg1 (Boxed.not_row (B := X) fX0 (by decide) own0)
    rw [Nat.zero_add] at own1 le1
    simp only [Nat.zero_add]
    refine hK.out _ _ Hb1 fun _ => ?_
    clear hK K
    try simp only [List.getElem_toArray, List.getElem_cons_zero, List.getElem_cons_succ, Act.put, List.setIfInBounds_toArray, List.set_cons_zero, List.set_cons_succ]
    refine wpAnyH_ready (rs := [12]) (by kernel_rfl) (by simp) (AllReadyH.cons rfl (fun K hK => ?_) AllReadyH.nil)
    refine step_append_cells (by rfl) (.tmp 56) (.tmp 61) 24 (by rfl) w3.heap.size 46 (.slice none 0 0) 1 24 (by kernel_rfl) (by kernel_rfl) rfl (by omega) (.slice A1_ (r) c1_) (r) ([] ++ (rowV hs9 ls).take r) own1 (by rfl) (_) ((n - (r + 1))) (_) ((rowV hs9 ls).drop (r + 1)) (by rfl) (by rw [List.length_drop, hrl]; omega) ((HC11.out.below Hb1)) (fun u hu => rowV_one _ _ u (List.mem_of_mem_drop hu)) (by unfold maxLen; omega) (by omega) Zb1 ?_
    intro v2 w2_ own2 hg2 st2
    have Hb2 : Below w3.heap.size w3 w2_ := below_grown Hb1 hg2 Hb1.size (fun k hk => own_base own1 k hk)
    have Zb2 : w3.heap.size ≤ w2_.heap.size := Nat.le_trans Zb1 hg2.size
    obtain ⟨A2_, c2_, rfl, le2, lm2, -⟩ := own_form own2
    have fX2 := Blk.grown fX1 hg2 (Boxed.not_row (B := X) fX1 (by decide) own1)
    refine hK.out _ _ Hb2 fun _ => ?_
    clear hK K
    try simp only [List.getElem_toArray, List.getElem_cons_zero, List.getElem_cons_succ, Act.put, List.setIfInBounds_toArray, List.set_cons_zero, List.set_cons_succ]
    refine wpAnyH_take (i := 13) (v := ?_) rfl (by kernel_rfl) (by kernel_rfl) (by kernel_rfl) (fun _ _ _ h => h) (Or.inl ⟨by rfl, ?_⟩) Hb2 ?_
    rotate_left
    · intro wS hSw
      go_simp
      try with_reducible rfl
    try simp only [List.getElem_toArray, List.getElem_cons_zero, List.getElem_cons_succ, Act.put, List.setIfInBounds_toArray, List.set_cons_zero, List.set_cons_succ]
    refine wpAnyH_ready (rs := [14]) (by kernel_rfl) (by simp) (AllReadyH.cons rfl (fun K hK => ?_) AllReadyH.nil)
    refine step_put_cell (by rfl) _ _ _ (by rfl) (X) 0 (.slice A2_ (r + (n - (r + 1))) c2_) (by rfl) (by rfl) _ _ fX2 (by simp) (by kernel_rfl) (by rfl) ?_
    intro w3_ fX3 hg3 hz3
    have Hb3 : Below w3.heap.size w3 w3_ := below_grown Hb2 hg3 Hb2.size (fun k hk => by cases hk; first | exact Nat.le_refl _ | omega)
    have Zb3 : w3.heap.size ≤ w3_.heap.size := Nat.le_trans Zb2 hg3.size
    have own3 := own2.kept hg3 (.inr (Ne.symm (Boxed.not_row (B := X) fX2 (by decide) own2)))
    refine hK.out _ _ Hb3 fun _ => ?_
    clear hK K
    try simp only [List.getElem_toArray, List.getElem_cons_zero, List.getElem_cons_succ, Act.put, List.setIfInBounds_toArray, List.set_cons_zero, List.set_cons_succ]
    refine wpAnyH_done (by kernel_rfl) ?_ _
    go_wp2_with (fail)
    go_meet
    exact ⟨_, _, fX3, own3, Hb3⟩
  case rest =>
    obtain ⟨A5, c5, hX5, hown5, hb5⟩ := hcut
    have hlr : r < ls.length := by rw [Hl.out]; exact hrn
    have hn5 : r + (n - (r + 1)) = n - 1 := by omega
    rw [hn5] at hX5 hown5
    have hls : (Fix.lessL ls r).length = n - 1 := by have := Fix.less_length hlr; rw [Hl.out] at this; omega
    obtain ⟨l, hlx⟩ := getElem?_lt (l := ls) (k := r) hlr
    have HR5 : Hid (RoundsC wc A5 (Fix.lessL ls r)) := Lib.hid (by
      have h1 := ((HH.out.below HB3.out).below hb5)
      unfold Fix.lessL
      refine HeadsC.rounds ((h1.take r).append (h1.drop (r + 1))) ?_
      have h2 := Cells.own hown5
      rw [rowV_append _ _ _ _ (by rw [List.length_take, List.length_take, HH.out.1]), rowV_take, rowV_drop _ _ _ HH.out.1]
      simpa using h2)
    have hwf5 : ∀ m ∈ Fix.lessL ls r, ∀ x ∈ m, WfM x := fun m hm => Hwf.out m (by
      unfold Fix.lessL at hm
      rcases List.mem_append.1 hm with hm | hm
      · exact List.mem_of_mem_take hm
      · exact List.mem_of_mem_drop hm)
    have hf5 : (Fix.lessL ls r).flatten.length ≤ 1000000 := by
      have h1 : (Fix.lessL ls r).flatten.Sublist ls.flatten := by
        unfold Fix.lessL
        conv => rhs; rw [Fix.cut_at hlx]
        rw [List.flatten_append, List.flatten_append, List.flatten_cons]
        exact List.Sublist.append (List.Sublist.refl _) (List.sublist_append_right _ _)
      have := h1.length_le
      have := Hflat.out
      omega
    have HK5 := Lib.hid ((HK.out.below HB3.out).below hb5)
    have hck5 := check30_any A5 (n - 1) c5 (Fix.lessL ls r) B m d cl wc hls (by omega) HR5.out Hcl.out HK5.out hf5 hwf5
    rw [Fix.less_check hlx Hck.out] at hck5
    have HCK5 := Lib.hid hck5
    have q5 : wc.cell? ⟨X, 0, none⟩ = some (.slice A5 (n - 1) c5) := hX5.cell 0
    have q6 : wc.cell? ⟨w.heap.size, 0, none⟩ = some (.slice (some ⟨b, off, none⟩) n c) := cellk' hb5 hbx
    have HBc := Lib.hid (below_of HB3.out hb5 HB3.out.size)
    have Hlx := Lib.hid hlx
    clear hX5 hown5 hb5 hwf5 hf5 hck5 hls hn5 hlx HR5 q0 HX4 HB34 HC9 HC11 hA11 hX hbx hlt9
    clear A11
    go_wp2_with (fail)
    refine HCK5.out.mono ?_
    rintro e wq ⟨rfl, hbq⟩
    have HBq := Lib.hid (below_of HBc.out hbq HBc.out.size)
    have q7 := cellk' hbq q6
    clear q5 q6 HCK5 hbq
    have HCq := Lib.hid (HC.out.below HBq.out)
    obtain ⟨b1, off1, Ar, cr, hba, hblt, hel, hnr, hcr, hIr⟩ := HCq.out.at_ Hlx.out
    injection hba with hba
    injection hba with hb1 hb2
    subst hb1
    subst hb2
    have hll : l.length ≤ 160 := Hll.out l (List.mem_of_getElem? Hlx.out)
    obtain ⟨nl, hnl⟩ : ∃ nl, nl = l.length := ⟨_, rfl⟩
    rw [← hnl] at hel hnr hll
    have Hnl := Lib.hid hnl
    have HIr := Lib.hid hIr
    clear hnl hIr HK5
    unfold maxLen at hcr
    by_cases hz : nl = 0
    · subst hz
      go_wp2_with (fail)
      go_ret
      exact ⟨rfl, HBq.out⟩
    · have qz : decide ((nl : Int) = 0) = false := by simp; omega
      have qz' : ((nl : Int) == 0) = false := by simp; omega
      go_upto_region 13 with (fail)
      obtain ⟨k, hkn, hkr⟩ := pick_lt at_ nl (by omega) (by omega)
      rw [hkr]
      clear hkr
      obtain ⟨b2, off2, rfl, hb2, -⟩ := HIr.out.at_ (by rw [← Hnl.out]; omega)
      obtain ⟨x, hkx⟩ := getElem?_lt (l := l) (k := k) (by rw [← Hnl.out]; exact hkn)
      have Hkx := Lib.hid hkx
      clear hkx
      have hbx := q7
      have hlt9 := World.block_lt_of_cell? wq _ q7
      have hltb := World.block_lt_of_cell? wq _ hel
      have hkc : (k : Int) ≤ (cr : Int) := by omega
      have hk0 : (0 : Int) ≤ (k : Int) + 1 := by omega
      have hk1n : (k : Int) + 1 ≤ (nl : Int) := by omega
      have hk1c : (k : Int) + 1 ≤ (cr : Int) := by omega
      have hnrI : (nl : Int) ≤ (cr : Int) := by omega
      have s2 : IntKind.i64.wrap ((k : Int) + 1) = (k : Int) + 1 := IntWalk.i64_in _ (by omega)
      have hll2 : l.length = nl := Hnl.out.symm
      obtain ⟨A21, hA21⟩ : ∃ A21, (if cr = k + 1 then some ⟨b2, off2, none⟩ else some ⟨b2, off2 + (k + 1) * 2, none⟩ : Option Addr) = A21 := ⟨_, rfl⟩
      have HC21 := Lib.hid (iv_cutIf HIr.out (i := k + 1) (c := cr) (by rw [hll2]; exact hnr))
      rw [hA21] at HC21
      clear q7
      go_cut [14] (fun s14 wx => ∃ (A6 : Option Addr) (n6 c6 : Nat), s14 = .slice A6 n6 c6 ∧ n6 + 1 = nl ∧ wx.ownsRow wq.heap.size 51 2 (.slice A6 n6 c6) n6 ([] ++ ivV (l.take k) ++ ivV (l.drop (k + 1))) ∧ Below wq.heap.size wq wx)
      case first =>
        refine wp_region_held_drew (S := fun W => Below wq.heap.size wq W) (by kernel_rfl) (below_drewN (Below.refl _ _) 1) (fun Hd => ?_)
        have Hd : Below wq.heap.size wq wq.drew := below_drewN (Below.refl _ _) 1
        have Zd : wq.heap.size ≤ wq.drew.heap.size := Nat.le_refl _
        generalize World.drew wq = wd at *
        refine wpAnyH_take (i := 1) (v := ?_) rfl (by kernel_rfl) (by kernel_rfl) (by kernel_rfl) (fun _ _ _ h => h) (Or.inl ⟨by rfl, ?_⟩) Hd ?_
        rotate_left
        · intro wS hSw
          go_simp
          try with_reducible rfl
        try simp only [List.getElem_toArray, List.getElem_cons_zero, List.getElem_cons_succ, Act.put, List.setIfInBounds_toArray, List.set_cons_zero, List.set_cons_succ]
        refine wpAnyH_take (i := 2) (v := ?_) rfl (by kernel_rfl) (by kernel_rfl) (by kernel_rfl) (fun _ _ _ h => h) (Or.inl ⟨by rfl, ?_⟩) Hd ?_
        rotate_left
        · intro wS hSw
          have c1 := (hSw.cell (p := ⟨w.heap.size, 0, none⟩) hlt9).trans hbx
          go_simp
          try with_reducible rfl
        try simp only [List.getElem_toArray, List.getElem_cons_zero, List.getElem_cons_succ, Act.put, List.setIfInBounds_toArray, List.set_cons_zero, List.set_cons_succ]
        refine wpAnyH_take (i := 3) (v := ?_) rfl (by kernel_rfl) (by kernel_rfl) (by kernel_rfl) (fun _ _ _ h => h) (Or.inl ⟨by rfl, ?_⟩) Hd ?_
        rotate_left
        · intro wS hSw
          go_simp
          try with_reducible rfl
        try simp only [List.getElem_toArray, List.getElem_cons_zero, List.getElem_cons_succ, Act.put, List.setIfInBounds_toArray, List.set_cons_zero, List.set_cons_succ]
        refine wpAnyH_take (i := 4) (v := ?_) rfl (by kernel_rfl) (by kernel_rfl) (by kernel_rfl) (fun _ _ _ h => h) (Or.inl ⟨by rfl, ?_⟩) Hd ?_
        rotate_left
        · intro wS hSw
          go_simp
          try with_reducible rfl
        try simp only [List.getElem_toArray, List.getElem_cons_zero, List.getElem_cons_succ, Act.put, List.setIfInBounds_toArray, List.set_cons_zero, List.set_cons_succ]
        refine wpAnyH_take (i := 5) (v := ?_) rfl (by kernel_rfl) (by kernel_rfl) (by kernel_rfl) (fun _ _ _ h => h) (Or.inl ⟨by rfl, ?_⟩) Hd ?_
        rotate_left
        · intro wS hSw
          have c2 := (hSw.cell (p := ⟨b, off + r, none⟩) hltb).trans hel
          go_simp
          try with_reducible rfl
        try simp only [List.getElem_toArray, List.getElem_cons_zero, List.getElem_cons_succ, Act.put, List.setIfInBounds_toArray, List.set_cons_zero, List.set_cons_succ]
        refine wpAnyH_take (i := 6) (v := ?_) rfl (by kernel_rfl) (by kernel_rfl) (by kernel_rfl) (fun _ _ _ h => h) (Or.inl ⟨by rfl, ?_⟩) Hd ?_
        rotate_left
        · intro wS hSw
          go_simp
          try with_reducible rfl
        try simp only [List.getElem_toArray, List.getElem_cons_zero, List.getElem_cons_succ, Act.put, List.setIfInBounds_toArray, List.set_cons_zero, List.set_cons_succ]
        refine wpAnyH_take (i := 7) (v := ?_) rfl (by kernel_rfl) (by kernel_rfl) (by kernel_rfl) (fun _ _ _ h => h) (Or.inl ⟨by rfl, ?_⟩) Hd ?_
        rotate_left
        · intro wS hSw
          go_simp
          try with_reducible rfl
        try simp only [List.getElem_toArray, List.getElem_cons_zero, List.getElem_cons_succ, Act.put, List.setIfInBounds_toArray, List.set_cons_zero, List.set_cons_succ]
        refine wpAnyH_take (i := 9) (v := ?_) rfl (by kernel_rfl) (by kernel_rfl) (by kernel_rfl) (fun _ _ _ h => h) (Or.inl ⟨by rfl, ?_⟩) Hd ?_
        rotate_left
        · intro wS hSw
          go_simp
          try with_reducible rfl
        try simp only [List.getElem_toArray, List.getElem_cons_zero, List.getElem_cons_succ, Act.put, List.setIfInBounds_toArray, List.set_cons_zero, List.set_cons_succ]
        refine wpAnyH_take (i := 10) (v := ?_) rfl (by kernel_rfl) (by kernel_rfl) (by kernel_rfl) (fun _ _ _ h => h) (Or.inl ⟨by rfl, ?_⟩) Hd ?_
        rotate_left
        · intro wS hSw
          have c1 := (hSw.cell (p := ⟨w.heap.size, 0, none⟩) hlt9).trans hbx
          go_simp
          try with_reducible rfl
        try simp only [List.getElem_toArray, List.getElem_cons_zero, List.getElem_cons_succ, Act.put, List.setIfInBounds_toArray, List.set_cons_zero, List.set_cons_succ]
        refine wpAnyH_take (i := 11) (v := ?_) rfl (by kernel_rfl) (by kernel_rfl) (by kernel_rfl) (fun _ _ _ h => h) (Or.inl ⟨by rfl, ?_⟩) Hd ?_
        rotate_left
        · intro wS hSw
          go_simp
          try with_reducible rfl
        try simp only [List.getElem_toArray, List.getElem_cons_zero, List.getElem_cons_succ, Act.put, List.setIfInBounds_toArray, List.set_cons_zero, List.set_cons_succ]
        refine wpAnyH_take (i := 12) (v := ?_) rfl (by kernel_rfl) (by kernel_rfl) (by kernel_rfl) (fun _ _ _ h => h) (Or.inl ⟨by rfl, ?_⟩) Hd ?_
        rotate_left
        · intro wS hSw
          go_simp
          try with_reducible rfl
        try simp only [List.getElem_toArray, List.getElem_cons_zero, List.getElem_cons_succ, Act.put, List.setIfInBounds_toArray, List.set_cons_zero, List.set_cons_succ]
        refine wpAnyH_take (i := 13) (v := ?_) rfl (by kernel_rfl) (by kernel_rfl) (by kernel_rfl) (fun _ _ _ h => h) (Or.inl ⟨by rfl, ?_⟩) Hd ?_
        rotate_left
        · intro wS hSw
          have c2 := (hSw.cell (p := ⟨b, off + r, none⟩) hltb).trans hel
          go_simp
          try with_reducible rfl
        try simp only [List.getElem_toArray, List.getElem_cons_zero, List.getElem_cons_succ, Act.put, List.setIfInBounds_toArray, List.set_cons_zero, List.set_cons_succ]
        refine wpAnyH_take (i := 14) (v := ?_) rfl (by kernel_rfl) (by kernel_rfl) (by kernel_rfl) (fun _ _ _ h => h) (Or.inl ⟨by rfl, ?_⟩) Hd ?_
        rotate_left
        · intro wS hSw
          go_simp
          try with_reducible rfl
        try simp only [List.getElem_toArray, List.getElem_cons_zero, List.getElem_cons_succ, Act.put, List.setIfInBounds_toArray, List.set_cons_zero, List.set_cons_succ]
        refine wpAnyH_take (i := 15) (v := ?_) rfl (by kernel_rfl) (by kernel_rfl) (by kernel_rfl) (fun _ _ _ h => h) (Or.inl ⟨by rfl, ?_⟩) Hd ?_
        rotate_left
        · intro wS hSw
          go_simp
          try with_reducible rfl
        try simp only [List.getElem_toArray, List.getElem_cons_zero, List.getElem_cons_succ, Act.put, List.setIfInBounds_toArray, List.set_cons_zero, List.set_cons_succ]
        refine wpAnyH_take (i := 16) (v := .slice A21 (nl - (k + 1)) (cr - (k + 1))) rfl (by kernel_rfl) (by kernel_rfl) (by kernel_rfl) (fun _ _ _ h => h) (Or.inl ⟨by rfl, ?_⟩) Hd ?_
        · intro wS hSw
          go_simp
        try simp only [List.getElem_toArray, List.getElem_cons_zero, List.getElem_cons_succ, Act.put, List.setIfInBounds_toArray, List.set_cons_zero, List.set_cons_succ]
        refine wpAnyH_ready (rs := [0]) (by kernel_rfl) (by simp) (AllReadyH.cons rfl (fun K hK => ?_) AllReadyH.nil)
        go_simp
        generalize hge : World.alloc _ _ = w1_
        have own1 : w1_.ownsRow wq.heap.size 51 2 (.slice (some ⟨wd.heap.size, 0, none⟩) 0 0) 0 [] := by subst hge; exact World.ownsRow_lit (size := 2) wd #[] 0 Zd (Nat.zero_le _) rfl
        have hb1 : Below wd.heap.size wd w1_ := by subst hge; exact (Below.refl _ _).alloc (Nat.le_refl _) _
        clear hge
        have Hb1 : Below wq.heap.size wq w1_ := below_of Hd hb1 Hd.size
        have Zb1 : wq.heap.size ≤ w1_.heap.size := Nat.le_trans Zd hb1.size
        refine hK.out _ _ Hb1 fun _ => ?_
        clear hK K
        try simp only [List.getElem_toArray, List.getElem_cons_zero, List.getElem_cons_succ, Act.put, List.setIfInBounds_toArray, List.set_cons_zero, List.set_cons_succ]
        refine wpAnyH_ready (rs := [8]) (by kernel_rfl) (by simp) (AllReadyH.cons rfl (fun K hK => ?_) AllReadyH.nil)
        refine step_append_cells (by rfl) (.tmp 86) (.tmp 93) 46 (by rfl) wq.heap.size 51 (.agg #[.int .i64 0, .int .i64 0]) 2 16 (by kernel_rfl) (by kernel_rfl) rfl (by omega) (.slice (some ⟨wd.heap.size, 0, none⟩) 0 0) (0) ([]) own1 (by rfl) (some ⟨b2, off2, none⟩) (k) (cr) (ivV (l.take k)) (by rfl) (by rw [ivV_length, List.length_take, hll2, Nat.min_eq_left (by omega)]) (by rw [ivV_take]; exact Cells.take_ (HIr.out.below Hb1) _) (ivV_one _) (by unfold maxLen; omega) (by omega) Zb1 ?_
        intro v2 w2_ own2 hg2 st2
        have Hb2 : Below wq.heap.size wq w2_ := below_grown Hb1 hg2 Hb1.size (fun k hk => own_base own1 k hk)
        have Zb2 : wq.heap.size ≤ w2_.heap.size := Nat.le_trans Zb1 hg2.size
        obtain ⟨A2_, c2_, rfl, le2, lm2, -⟩ := own_form own2
        rw [Nat.zero_add] at own2 le2
        simp only [Nat.zero_add]
        refine hK.out _ _ Hb2 fun _ => ?_
        clear hK K
        try simp only [List.getElem_toArray, List.getElem_cons_zero, List.getElem_cons_succ, Act.put, List.setIfInBounds_toArray, List.set_cons_zero, List.set_cons_succ]
        refine wpAnyH_ready (rs := [17]) (by kernel_rfl) (by simp) (AllReadyH.cons rfl (fun K hK => ?_) AllReadyH.nil)
        refine step_append_cells (by rfl) (.tmp 94) (.tmp 102) 46 (by rfl) wq.heap.size 51 (.agg #[.int .i64 0, .int .i64 0]) 2 16 (by kernel_rfl) (by kernel_rfl) rfl (by omega) (.slice A2_ (k) c2_) (k) ([] ++ ivV (l.take k)) own2 (by rfl) (_) ((nl - (k + 1))) (_) (ivV (l.drop (k + 1))) (by rfl) (by rw [ivV_length, List.length_drop, hll2]) ((HC21.out.below Hb2)) (ivV_one _) (by unfold maxLen; omega) (by omega) Zb2 ?_
        intro v3 w3_ own3 hg3 st3
        have Hb3 : Below wq.heap.size wq w3_ := below_grown Hb2 hg3 Hb2.size (fun k hk => own_base own2 k hk)
        have Zb3 : wq.heap.size ≤ w3_.heap.size := Nat.le_trans Zb2 hg3.size
        obtain ⟨A3_, c3_, rfl, le3, lm3, -⟩ := own_form own3
        refine hK.out _ _ Hb3 fun _ => ?_
        clear hK K
        try simp only [List.getElem_toArray, List.getElem_cons_zero, List.getElem_cons_succ, Act.put, List.setIfInBounds_toArray, List.set_cons_zero, List.set_cons_succ]
        refine wpAnyH_take (i := 18) (v := ?_) rfl (by kernel_rfl) (by kernel_rfl) (by kernel_rfl) (fun _ _ _ h => h) (Or.inl ⟨by rfl, ?_⟩) Hb3 ?_
        rotate_left
        · intro wS hSw
          go_simp
          try with_reducible rfl
        try simp only [List.getElem_toArray, List.getElem_cons_zero, List.getElem_cons_succ, Act.put, List.setIfInBounds_toArray, List.set_cons_zero, List.set_cons_succ]
        refine wpAnyH_done (by kernel_rfl) ?_ _
        have hown9 := own3
        go_wp2_with (fail)
        go_meet
        exact ⟨_, _, _, rfl, by omega, hown9, Hb3⟩
      case rest =>
        obtain ⟨A6, n6, c6, rfl, hn6, hown6, hb6⟩ := hcut
        rw [List.nil_append, ← ivV_append] at hown6
        obtain ⟨A6', c6', he6, hc6, hm6, -⟩ := own_form hown6
        injection he6 with e6a e6b e6c
        subst e6a; subst e6c
        clear e6b hA21 HC21 A21
        have Hone := Lib.hid (show IvC wc A6 (l.take k ++ l.drop (k + 1)) from Cells.own hown6)
        have HBe := Lib.hid (below_of HBq.out hb6 HBq.out.size)
        have q8 := cellk' hb6 hbx
        have hlo : (l.take k ++ l.drop (k + 1)).length = n6 := by rw [List.length_append, List.length_take, List.length_drop, hll2]; omega
        have Hlo := Lib.hid hlo
        clear hlo hown6 hb6 hbx hel hlt9 hltb HIr HCq
        obtain ⟨we, rfl⟩ : ∃ we : World, we = wc := ⟨_, rfl⟩
        have hbx := q8
        have hlt9 := World.block_lt_of_cell? we _ q8
        have HC9 := Lib.hid (HCc.out.below HBe.out)
        obtain ⟨A11, hA11⟩ : ∃ A11, (if c = r + 1 then some ⟨b, off, none⟩ else some ⟨b, off + (r + 1), none⟩ : Option Addr) = A11 := ⟨_, rfl⟩
        have HC11 := Lib.hid (HC9.out.cutIf (i := r + 1) (c := c) (by rw [hrl]; omega))
        rw [hA11] at HC11
        clear q8
        go_upto_region 14 with (fail)
        go_cut [15] (fun s15 wx => ∃ (Zb : Nat) (A7 : Option Addr) (n7 c7 : Nat), s15 = .pointer (some ⟨Zb, 0, none⟩) ∧ n7 = n ∧ Blk wx Zb 26 #[.slice A7 n7 c7] ∧ wx.ownsRow we.heap.size 46 1 (.slice A7 n7 c7) n7 ([] ++ (rowV hs9 ls).take r ++ [Value.slice A6 n6 c6] ++ (rowV hs9 ls).drop (r + 1)) ∧ Below we.heap.size we wx)
        case first =>
          refine wp_region_held_drew (S := fun W => Below we.heap.size we W) (by kernel_rfl) (below_drewN (Below.refl _ _) 1) (fun Hd => ?_)
          have Hd : Below we.heap.size we we.drew := below_drewN (Below.refl _ _) 1
          have Zd : we.heap.size ≤ we.drew.heap.size := Nat.le_refl _
          generalize World.drew we = wd at *
          refine wpAnyH_take (i := 1) (v := ?_) rfl (by kernel_rfl) (by kernel_rfl) (by kernel_rfl) (fun _ _ _ h => h) (Or.inl ⟨by rfl, ?_⟩) Hd ?_
          rotate_left
          · intro wS hSw
            go_simp
            try with_reducible rfl
          try simp only [List.getElem_toArray, List.getElem_cons_zero, List.getElem_cons_succ, Act.put, List.setIfInBounds_toArray, List.set_cons_zero, List.set_cons_succ]
          refine wpAnyH_take (i := 2) (v := ?_) rfl (by kernel_rfl) (by kernel_rfl) (by kernel_rfl) (fun _ _ _ h => h) (Or.inl ⟨by rfl, ?_⟩) Hd ?_
          rotate_left
          · intro wS hSw
            have c1 := (hSw.cell (p := ⟨w.heap.size, 0, none⟩) hlt9).trans hbx
            go_simp
            try with_reducible rfl
          try simp only [List.getElem_toArray, List.getElem_cons_zero, List.getElem_cons_succ, Act.put, List.setIfInBounds_toArray, List.set_cons_zero, List.set_cons_succ]
          refine wpAnyH_take (i := 3) (v := ?_) rfl (by kernel_rfl) (by kernel_rfl) (by kernel_rfl) (fun _ _ _ h => h) (Or.inl ⟨by rfl, ?_⟩) Hd ?_
          rotate_left
          · intro wS hSw
            go_simp
            try with_reducible rfl
          try simp only [List.getElem_toArray, List.getElem_cons_zero, List.getElem_cons_succ, Act.put, List.setIfInBounds_toArray, List.set_cons_zero, List.set_cons_succ]
          refine wpAnyH_take (i := 4) (v := ?_) rfl (by kernel_rfl) (by kernel_rfl) (by kernel_rfl) (fun _ _ _ h => h) (Or.inl ⟨by rfl, ?_⟩) Hd ?_
          rotate_left
          · intro wS hSw
            go_simp
            try with_reducible rfl
          try simp only [List.getElem_toArray, List.getElem_cons_zero, List.getElem_cons_succ, Act.put, List.setIfInBounds_toArray, List.set_cons_zero, List.set_cons_succ]
          refine wpAnyH_take (i := 6) (v := ?_) rfl (by kernel_rfl) (by kernel_rfl) (by kernel_rfl) (fun _ _ _ h => h) (Or.inl ⟨by rfl, ?_⟩) Hd ?_
          rotate_left
          · intro wS hSw
            go_simp
            try with_reducible rfl
          try simp only [List.getElem_toArray, List.getElem_cons_zero, List.getElem_cons_succ, Act.put, List.setIfInBounds_toArray, List.set_cons_zero, List.set_cons_succ]
          refine wpAnyH_take (i := 9) (v := ?_) rfl (by kernel_rfl) (by kernel_rfl) (by kernel_rfl) (fun _ _ _ h => h) (Or.inl ⟨by rfl, ?_⟩) Hd ?_
          rotate_left
          · intro wS hSw
            go_simp
            try with_reducible rfl
          try simp only [List.getElem_toArray, List.getElem_cons_zero, List.getElem_cons_succ, Act.put, List.setIfInBounds_toArray, List.set_cons_zero, List.set_cons_succ]
          refine wpAnyH_take (i := 10) (v := ?_) rfl (by kernel_rfl) (by kernel_rfl) (by kernel_rfl) (fun _ _ _ h => h) (Or.inl ⟨by rfl, ?_⟩) Hd ?_
          rotate_left
          · intro wS hSw
            have c1 := (hSw.cell (p := ⟨w.heap.size, 0, none⟩) hlt9).trans hbx
            go_simp
            try with_reducible rfl
          try simp only [List.getElem_toArray, List.getElem_cons_zero, List.getElem_cons_succ, Act.put, List.setIfInBounds_toArray, List.set_cons_zero, List.set_cons_succ]
          refine wpAnyH_take (i := 11) (v := ?_) rfl (by kernel_rfl) (by kernel_rfl) (by kernel_rfl) (fun _ _ _ h => h) (Or.inl ⟨by rfl, ?_⟩) Hd ?_
          rotate_left
          · intro wS hSw
            go_simp
            try with_reducible rfl
          try simp only [List.getElem_toArray, List.getElem_cons_zero, List.getElem_cons_succ, Act.put, List.setIfInBounds_toArray, List.set_cons_zero, List.set_cons_succ]
          refine wpAnyH_take (i := 12) (v := ?_) rfl (by kernel_rfl) (by kernel_rfl) (by kernel_rfl) (fun _ _ _ h => h) (Or.inl ⟨by rfl, ?_⟩) Hd ?_
          rotate_left
          · intro wS hSw
            go_simp
            try with_reducible rfl
          try simp only [List.getElem_toArray, List.getElem_cons_zero, List.getElem_cons_succ, Act.put, List.setIfInBounds_toArray, List.set_cons_zero, List.set_cons_succ]
          refine wpAnyH_take (i := 13) (v := .slice A11 (n - (r + 1)) (c - (r + 1))) rfl (by kernel_rfl) (by kernel_rfl) (by kernel_rfl) (fun _ _ _ h => h) (Or.inl ⟨by rfl, ?_⟩) Hd ?_
          · intro wS hSw
            go_simp
          try simp only [List.getElem_toArray, List.getElem_cons_zero, List.getElem_cons_succ, Act.put, List.setIfInBounds_toArray, List.set_cons_zero, List.set_cons_succ]
          refine wpAnyH_ready (rs := [0, 7, 16]) (by kernel_rfl) (by simp) (AllReadyH.cons rfl (fun K hK => ?_) (AllReadyH.cons rfl (fun K hK => ?_) (AllReadyH.cons rfl (fun K hK => ?_) AllReadyH.nil)))
          · go_simp
            generalize hge : World.alloc _ _ = w1_
            have own1 : w1_.ownsRow we.heap.size 46 1 (.slice (some ⟨wd.heap.size, 0, none⟩) 0 0) 0 [] := by subst hge; exact World.ownsRow_lit (size := 1) wd #[] 0 Zd (Nat.zero_le _) rfl
            have hb1 : Below wd.heap.size wd w1_ := by subst hge; exact (Below.refl _ _).alloc (Nat.le_refl _) _
            clear hge
            have Hb1 : Below we.heap.size we w1_ := below_of Hd hb1 Hd.size
            have Zb1 : we.heap.size ≤ w1_.heap.size := Nat.le_trans Zd hb1.size
            refine hK.out _ _ Hb1 fun _ => ?_
            clear hK K
            try simp only [List.getElem_toArray, List.getElem_cons_zero, List.getElem_cons_succ, Act.put, List.setIfInBounds_toArray, List.set_cons_zero, List.set_cons_succ]
            refine wpAnyH_ready (rs := [5, 7, 16]) (by kernel_rfl) (by simp) (AllReadyH.cons rfl (fun K hK => ?_) (AllReadyH.cons rfl (fun K hK => ?_) (AllReadyH.cons rfl (fun K hK => ?_) AllReadyH.nil)))
            · refine step_append_cells (by rfl) (.tmp 104) (.tmp 108) 24 (by rfl) we.heap.size 46 (.slice none 0 0) 1 24 (by kernel_rfl) (by kernel_rfl) rfl (by omega) (.slice (some ⟨wd.heap.size, 0, none⟩) 0 0) (0) ([]) own1 (by rfl) (some ⟨b, off, none⟩) (r) (c) ((rowV hs9 ls).take r) (by rfl) (by rw [List.length_take, hrl]; omega) ((HC9.out.below Hb1).take_ r) (fun u hu => rowV_one _ _ u (List.mem_of_mem_take hu)) (by unfold maxLen; omega) (by omega) Zb1 ?_
              intro v2 w2_ own2 hg2 st2
              have Hb2 : Below we.heap.size we w2_ := below_grown Hb1 hg2 Hb1.size (fun k hk => own_base own1 k hk)
              have Zb2 : we.heap.size ≤ w2_.heap.size := Nat.le_trans Zb1 hg2.size
              obtain ⟨A2_, c2_, rfl, le2, lm2, -⟩ := own_form own2
              rw [Nat.zero_add] at own2 le2
              simp only [Nat.zero_add]
              refine hK.out _ _ Hb2 fun _ => ?_
              clear hK K
              try simp only [List.getElem_toArray, List.getElem_cons_zero, List.getElem_cons_succ, Act.put, List.setIfInBounds_toArray, List.set_cons_zero, List.set_cons_succ]
              refine wpAnyH_ready (rs := [7, 16]) (by kernel_rfl) (by simp) (AllReadyH.cons rfl (fun K hK => ?_) (AllReadyH.cons rfl (fun K hK => ?_) AllReadyH.nil))
              · go_simp
                generalize hge : World.alloc _ _ = w3_
                have fp3 : Blk w3_ w2_.heap.size 46 #[Value.slice A6 n6 c6] := by subst hge; exact Blk.new _ _ _
                have hb3 : Below w2_.heap.size w2_ w3_ := by subst hge; exact (Below.refl _ _).alloc (Nat.le_refl _) _
                clear hge
                have Hb3 : Below we.heap.size we w3_ := below_of Hb2 hb3 Hb2.size
                have Zb3 : we.heap.size ≤ w3_.heap.size := Nat.le_trans Zb2 hb3.size
                have own3 := own_below own2 hb3
                have lop3 : we.heap.size ≤ w2_.heap.size := Zb2
                have np3 : (.slice A2_ (r) c2_ : Value).ownBlock ≠ some w2_.heap.size := fun e => absurd (own2.lt _ e).2 (Nat.lt_irrefl _)
                refine hK.out _ _ Hb3 fun _ => ?_
                clear hK K
                try simp only [List.getElem_toArray, List.getElem_cons_zero, List.getElem_cons_succ, Act.put, List.setIfInBounds_toArray, List.set_cons_zero, List.set_cons_succ]
                refine wpAnyH_ready (rs := [8, 16]) (by kernel_rfl) (by simp) (AllReadyH.cons rfl (fun K hK => ?_) (AllReadyH.cons rfl (fun K hK => ?_) AllReadyH.nil))
                · refine step_append_cells (by rfl) (.tmp 109) (.tmp 111) 24 (by rfl) we.heap.size 46 (.slice none 0 0) 1 24 (by kernel_rfl) (by kernel_rfl) rfl (by omega) (.slice A2_ (r) c2_) (r) ([] ++ (rowV hs9 ls).take r) own3 (by rfl) (_) (1) (_) ([Value.slice A6 n6 c6]) (by rfl) (by rfl) (cells_of_blk fp3 rfl) (fun u hu => by simp at hu; subst hu; rfl) (by unfold maxLen; omega) (by omega) Zb3 ?_
                  intro v4 w4_ own4 hg4 st4
                  have Hb4 : Below we.heap.size we w4_ := below_grown Hb3 hg4 Hb3.size (fun k hk => own_base own3 k hk)
                  have Zb4 : we.heap.size ≤ w4_.heap.size := Nat.le_trans Zb3 hg4.size
                  obtain ⟨A4_, c4_, rfl, le4, lm4, -⟩ := own_form own4
                  have fp4 := Blk.grown fp3 hg4 (fun e => np3 e.symm)
                  have np4 := np_sits st4 np3 fp3.lt
                  refine hK.out _ _ Hb4 fun _ => ?_
                  clear hK K
                  try simp only [List.getElem_toArray, List.getElem_cons_zero, List.getElem_cons_succ, Act.put, List.setIfInBounds_toArray, List.set_cons_zero, List.set_cons_succ]
                  refine wpAnyH_ready (rs := [14, 16]) (by kernel_rfl) (by simp) (AllReadyH.cons rfl (fun K hK => ?_) (AllReadyH.cons rfl (fun K hK => ?_) AllReadyH.nil))
                  · refine step_append_cells (by rfl) (.tmp 112) (.tmp 117) 24 (by rfl) we.heap.size 46 (.slice none 0 0) 1 24 (by kernel_rfl) (by kernel_rfl) rfl (by omega) (.slice A4_ (r + 1) c4_) (r + 1) ([] ++ (rowV hs9 ls).take r ++ [Value.slice A6 n6 c6]) own4 (by rfl) (_) ((n - (r + 1))) (_) ((rowV hs9 ls).drop (r + 1)) (by rfl) (by rw [List.length_drop, hrl]; omega) ((HC11.out.below Hb4)) (fun u hu => rowV_one _ _ u (List.mem_of_mem_drop hu)) (by unfold maxLen; omega) (by omega) Zb4 ?_
                    intro v5 w5_ own5 hg5 st5
                    have Hb5 : Below we.heap.size we w5_ := below_grown Hb4 hg5 Hb4.size (fun k hk => own_base own4 k hk)
                    have Zb5 : we.heap.size ≤ w5_.heap.size := Nat.le_trans Zb4 hg5.size
                    obtain ⟨A5_, c5_, rfl, le5, lm5, -⟩ := own_form own5
                    have fp5 := Blk.grown fp4 hg5 (fun e => np4 e.symm)
                    have np5 := np_sits st5 np4 fp4.lt
                    refine hK.out _ _ Hb5 fun _ => ?_
                    clear hK K
                    try simp only [List.getElem_toArray, List.getElem_cons_zero, List.getElem_cons_succ, Act.put, List.setIfInBounds_toArray, List.set_cons_zero, List.set_cons_succ]
                    refine wpAnyH_take (i := 15) (v := ?_) rfl (by kernel_rfl) (by kernel_rfl) (by kernel_rfl) (fun _ _ _ h => h) (Or.inl ⟨by rfl, ?_⟩) Hb5 ?_
                    rotate_left
                    · intro wS hSw
                      go_simp
                      try with_reducible rfl
                    try simp only [List.getElem_toArray, List.getElem_cons_zero, List.getElem_cons_succ, Act.put, List.setIfInBounds_toArray, List.set_cons_zero, List.set_cons_succ]
                    refine wpAnyH_ready (rs := [16]) (by kernel_rfl) (by simp) (AllReadyH.cons rfl (fun K hK => ?_) AllReadyH.nil)
                    go_simp
                    generalize hge : World.alloc _ _ = w6_
                    have fZ6 : Blk w6_ w5_.heap.size 26 #[.slice none 0 0] := by subst hge; exact Blk.new _ _ _
                    have hb6 : Below w5_.heap.size w5_ w6_ := by subst hge; exact (Below.refl _ _).alloc (Nat.le_refl _) _
                    clear hge
                    have Hb6 : Below we.heap.size we w6_ := below_of Hb5 hb6 Hb5.size
                    have Zb6 : we.heap.size ≤ w6_.heap.size := Nat.le_trans Zb5 hb6.size
                    have own6 := own_below own5 hb6
                    have fp6 := fp5.below hb6
                    have loZ6 : we.heap.size ≤ w5_.heap.size := Zb5
                    refine hK.out _ _ Hb6 fun _ => ?_
                    clear hK K
                    try simp only [List.getElem_toArray, List.getElem_cons_zero, List.getElem_cons_succ, Act.put, List.setIfInBounds_toArray, List.set_cons_zero, List.set_cons_succ]
                    refine wpAnyH_ready (rs := [17]) (by kernel_rfl) (by simp) (AllReadyH.cons rfl (fun K hK => ?_) AllReadyH.nil)
                    refine step_put_blkR (by rfl) _ _ _ (by rfl) (w5_.heap.size) (#[.slice A5_ (r + 1 + (n - (r + 1))) c5_]) (by rfl) (by rfl) _ _ fZ6 (by kernel_rfl) (by rfl) (by simp [Value.oneCell']) ?_
                    intro w7_ fZ7 hg7 hz7
                    have Hb7 : Below we.heap.size we w7_ := below_grown Hb6 hg7 Hb6.size (fun k hk => by cases hk; exact loZ6)
                    have Zb7 : we.heap.size ≤ w7_.heap.size := Nat.le_trans Zb6 hg7.size
                    have own7 := own6.kept hg7 (.inr (Ne.symm (Boxed.not_row (B := w5_.heap.size) fZ6 (by decide) own6)))
                    refine hK.out _ _ Hb7 fun _ => ?_
                    clear hK K
                    try simp only [List.getElem_toArray, List.getElem_cons_zero, List.getElem_cons_succ, Act.put, List.setIfInBounds_toArray, List.set_cons_zero, List.set_cons_succ]
                    refine wpAnyH_done (by kernel_rfl) ?_ _
                    have hown9 := own7
                    have hZ9 := fZ7
                    go_wp2_with (fail)
                    go_meet
                    exact ⟨_, _, _, _, rfl, by omega, hZ9, hown9, Hb7⟩
                  · go_simp
                    generalize hge : World.alloc _ _ = w5_
                    have fZ5 : Blk w5_ w4_.heap.size 26 #[.slice none 0 0] := by subst hge; exact Blk.new _ _ _
                    have hb5 : Below w4_.heap.size w4_ w5_ := by subst hge; exact (Below.refl _ _).alloc (Nat.le_refl _) _
                    clear hge
                    have Hb5 : Below we.heap.size we w5_ := below_of Hb4 hb5 Hb4.size
                    have Zb5 : we.heap.size ≤ w5_.heap.size := Nat.le_trans Zb4 hb5.size
                    have own5 := own_below own4 hb5
                    have fp5 := fp4.below hb5
                    have loZ5 : we.heap.size ≤ w4_.heap.size := Zb4
                    refine hK.out _ _ Hb5 fun _ => ?_
                    clear hK K
                    try simp only [List.getElem_toArray, List.getElem_cons_zero, List.getElem_cons_succ, Act.put, List.setIfInBounds_toArray, List.set_cons_zero, List.set_cons_succ]
                    refine wpAnyH_ready (rs := [14]) (by kernel_rfl) (by simp) (AllReadyH.cons rfl (fun K hK => ?_) AllReadyH.nil)
                    refine step_append_cells (by rfl) (.tmp 112) (.tmp 117) 24 (by rfl) we.heap.size 46 (.slice none 0 0) 1 24 (by kernel_rfl) (by kernel_rfl) rfl (by omega) (.slice A4_ (r + 1) c4_) (r + 1) ([] ++ (rowV hs9 ls).take r ++ [Value.slice A6 n6 c6]) own5 (by rfl) (_) ((n - (r + 1))) (_) ((rowV hs9 ls).drop (r + 1)) (by rfl) (by rw [List.length_drop, hrl]; omega) ((HC11.out.below Hb5)) (fun u hu => rowV_one _ _ u (List.mem_of_mem_drop hu)) (by unfold maxLen; omega) (by omega) Zb5 ?_
                    intro v6 w6_ own6 hg6 st6
                    have Hb6 : Below we.heap.size we w6_ := below_grown Hb5 hg6 Hb5.size (fun k hk => own_base own5 k hk)
                    have Zb6 : we.heap.size ≤ w6_.heap.size := Nat.le_trans Zb5 hg6.size
                    obtain ⟨A6_, c6_, rfl, le6, lm6, -⟩ := own_form own6
                    have fp6 := Blk.grown fp5 hg6 (fun e => np4 e.symm)
                    have np6 := np_sits st6 np4 fp5.lt
                    have fZ6 := Blk.grown fZ5 hg6 (Boxed.not_row (B := w4_.heap.size) fZ5 (by decide) own5)
                    refine hK.out _ _ Hb6 fun _ => ?_
                    clear hK K
                    try simp only [List.getElem_toArray, List.getElem_cons_zero, List.getElem_cons_succ, Act.put, List.setIfInBounds_toArray, List.set_cons_zero, List.set_cons_succ]
                    refine wpAnyH_take (i := 15) (v := ?_) rfl (by kernel_rfl) (by kernel_rfl) (by kernel_rfl) (fun _ _ _ h => h) (Or.inl ⟨by rfl, ?_⟩) Hb6 ?_
                    rotate_left
                    · intro wS hSw
                      go_simp
                      try with_reducible rfl
                    try simp only [List.getElem_toArray, List.getElem_cons_zero, List.getElem_cons_succ, Act.put, List.setIfInBounds_toArray, List.set_cons_zero, List.set_cons_succ]
                    refine wpAnyH_ready (rs := [17]) (by kernel_rfl) (by simp) (AllReadyH.cons rfl (fun K hK => ?_) AllReadyH.nil)
                    refine step_put_blkR (by rfl) _ _ _ (by rfl) (w4_.heap.size) (#[.slice A6_ (r + 1 + (n - (r + 1))) c6_]) (by rfl) (by rfl) _ _ fZ6 (by kernel_rfl) (by rfl) (by simp [Value.oneCell']) ?_
                    intro w7_ fZ7 hg7 hz7
                    have Hb7 : Below we.heap.size we w7_ := below_grown Hb6 hg7 Hb6.size (fun k hk => by cases hk; exact loZ5)
                    have Zb7 : we.heap.size ≤ w7_.heap.size := Nat.le_trans Zb6 hg7.size
                    have own7 := own6.kept hg7 (.inr (Ne.symm (Boxed.not_row (B := w4_.heap.size) fZ6 (by decide) own6)))
                    refine hK.out _ _ Hb7 fun _ => ?_
                    clear hK K
                    try simp only [List.getElem_toArray, List.getElem_cons_zero, List.getElem_cons_succ, Act.put, List.setIfInBounds_toArray, List.set_cons_zero, List.set_cons_succ]
                    refine wpAnyH_done (by kernel_rfl) ?_ _
                    have hown9 := own7
                    have hZ9 := fZ7
                    go_wp2_with (fail)
                    go_meet
                    exact ⟨_, _, _, _, rfl, by omega, hZ9, hown9, Hb7⟩
                · go_simp
                  generalize hge : World.alloc _ _ = w4_
                  have fZ4 : Blk w4_ w3_.heap.size 26 #[.slice none 0 0] := by subst hge; exact Blk.new _ _ _
                  have hb4 : Below w3_.heap.size w3_ w4_ := by subst hge; exact (Below.refl _ _).alloc (Nat.le_refl _) _
                  clear hge
                  have Hb4 : Below we.heap.size we w4_ := below_of Hb3 hb4 Hb3.size
                  have Zb4 : we.heap.size ≤ w4_.heap.size := Nat.le_trans Zb3 hb4.size
                  have own4 := own_below own3 hb4
                  have fp4 := fp3.below hb4
                  have loZ4 : we.heap.size ≤ w3_.heap.size := Zb3
                  refine hK.out _ _ Hb4 fun _ => ?_
                  clear hK K
                  try simp only [List.getElem_toArray, List.getElem_cons_zero, List.getElem_cons_succ, Act.put, List.setIfInBounds_toArray, List.set_cons_zero, List.set_cons_succ]
                  refine wpAnyH_ready (rs := [8]) (by kernel_rfl) (by simp) (AllReadyH.cons rfl (fun K hK => ?_) AllReadyH.nil)
                  refine step_append_cells (by rfl) (.tmp 109) (.tmp 111) 24 (by rfl) we.heap.size 46 (.slice none 0 0) 1 24 (by kernel_rfl) (by kernel_rfl) rfl (by omega) (.slice A2_ (r) c2_) (r) ([] ++ (rowV hs9 ls).take r) own4 (by rfl) (_) (1) (_) ([Value.slice A6 n6 c6]) (by rfl) (by rfl) (cells_of_blk fp4 rfl) (fun u hu => by simp at hu; subst hu; rfl) (by unfold maxLen; omega) (by omega) Zb4 ?_
                  intro v5 w5_ own5 hg5 st5
                  have Hb5 : Below we.heap.size we w5_ := below_grown Hb4 hg5 Hb4.size (fun k hk => own_base own4 k hk)
                  have Zb5 : we.heap.size ≤ w5_.heap.size := Nat.le_trans Zb4 hg5.size
                  obtain ⟨A5_, c5_, rfl, le5, lm5, -⟩ := own_form own5
                  have fp5 := Blk.grown fp4 hg5 (fun e => np3 e.symm)
                  have np5 := np_sits st5 np3 fp4.lt
                  have fZ5 := Blk.grown fZ4 hg5 (Boxed.not_row (B := w3_.heap.size) fZ4 (by decide) own4)
                  refine hK.out _ _ Hb5 fun _ => ?_
                  clear hK K
                  try simp only [List.getElem_toArray, List.getElem_cons_zero, List.getElem_cons_succ, Act.put, List.setIfInBounds_toArray, List.set_cons_zero, List.set_cons_succ]
                  refine wpAnyH_ready (rs := [14]) (by kernel_rfl) (by simp) (AllReadyH.cons rfl (fun K hK => ?_) AllReadyH.nil)
                  refine step_append_cells (by rfl) (.tmp 112) (.tmp 117) 24 (by rfl) we.heap.size 46 (.slice none 0 0) 1 24 (by kernel_rfl) (by kernel_rfl) rfl (by omega) (.slice A5_ (r + 1) c5_) (r + 1) ([] ++ (rowV hs9 ls).take r ++ [Value.slice A6 n6 c6]) own5 (by rfl) (_) ((n - (r + 1))) (_) ((rowV hs9 ls).drop (r + 1)) (by rfl) (by rw [List.length_drop, hrl]; omega) ((HC11.out.below Hb5)) (fun u hu => rowV_one _ _ u (List.mem_of_mem_drop hu)) (by unfold maxLen; omega) (by omega) Zb5 ?_
                  intro v6 w6_ own6 hg6 st6
                  have Hb6 : Below we.heap.size we w6_ := below_grown Hb5 hg6 Hb5.size (fun k hk => own_base own5 k hk)
                  have Zb6 : we.heap.size ≤ w6_.heap.size := Nat.le_trans Zb5 hg6.size
                  obtain ⟨A6_, c6_, rfl, le6, lm6, -⟩ := own_form own6
                  have fp6 := Blk.grown fp5 hg6 (fun e => np5 e.symm)
                  have np6 := np_sits st6 np5 fp5.lt
                  have fZ6 := Blk.grown fZ5 hg6 (Boxed.not_row (B := w3_.heap.size) fZ5 (by decide) own5)
                  refine hK.out _ _ Hb6 fun _ => ?_
                  clear hK K
                  try simp only [List.getElem_toArray, List.getElem_cons_zero, List.getElem_cons_succ, Act.put, List.setIfInBounds_toArray, List.set_cons_zero, List.set_cons_succ]
                  refine wpAnyH_take (i := 15) (v := ?_) rfl (by kernel_rfl) (by kernel_rfl) (by kernel_rfl) (fun _ _ _ h => h) (Or.inl ⟨by rfl, ?_⟩) Hb6 ?_
                  rotate_left
                  · intro wS hSw
                    go_simp
                    try with_reducible rfl
                  try simp only [List.getElem_toArray, List.getElem_cons_zero, List.getElem_cons_succ, Act.put, List.setIfInBounds_toArray, List.set_cons_zero, List.set_cons_succ]
                  refine wpAnyH_ready (rs := [17]) (by kernel_rfl) (by simp) (AllReadyH.cons rfl (fun K hK => ?_) AllReadyH.nil)
                  refine step_put_blkR (by rfl) _ _ _ (by rfl) (w3_.heap.size) (#[.slice A6_ (r + 1 + (n - (r + 1))) c6_]) (by rfl) (by rfl) _ _ fZ6 (by kernel_rfl) (by rfl) (by simp [Value.oneCell']) ?_
                  intro w7_ fZ7 hg7 hz7
                  have Hb7 : Below we.heap.size we w7_ := below_grown Hb6 hg7 Hb6.size (fun k hk => by cases hk; exact loZ4)
                  have Zb7 : we.heap.size ≤ w7_.heap.size := Nat.le_trans Zb6 hg7.size
                  have own7 := own6.kept hg7 (.inr (Ne.symm (Boxed.not_row (B := w3_.heap.size) fZ6 (by decide) own6)))
                  refine hK.out _ _ Hb7 fun _ => ?_
                  clear hK K
                  try simp only [List.getElem_toArray, List.getElem_cons_zero, List.getElem_cons_succ, Act.put, List.setIfInBounds_toArray, List.set_cons_zero, List.set_cons_succ]
                  refine wpAnyH_done (by kernel_rfl) ?_ _
                  have hown9 := own7
                  have hZ9 := fZ7
                  go_wp2_with (fail)
                  go_meet
                  exact ⟨_, _, _, _, rfl, by omega, hZ9, hown9, Hb7⟩
              · go_simp
                generalize hge : World.alloc _ _ = w3_
                have fZ3 : Blk w3_ w2_.heap.size 26 #[.slice none 0 0] := by subst hge; exact Blk.new _ _ _
                have hb3 : Below w2_.heap.size w2_ w3_ := by subst hge; exact (Below.refl _ _).alloc (Nat.le_refl _) _
                clear hge
                have Hb3 : Below we.heap.size we w3_ := below_of Hb2 hb3 Hb2.size
                have Zb3 : we.heap.size ≤ w3_.heap.size := Nat.le_trans Zb2 hb3.size
                have own3 := own_below own2 hb3
                have loZ3 : we.heap.size ≤ w2_.heap.size := Zb2
                refine hK.out _ _ Hb3 fun _ => ?_
                clear hK K
                try simp only [List.getElem_toArray, List.getElem_cons_zero, List.getElem_cons_succ, Act.put, List.setIfInBounds_toArray, List.set_cons_zero, List.set_cons_succ]
                refine wpAnyH_ready (rs := [7]) (by kernel_rfl) (by simp) (AllReadyH.cons rfl (fun K hK => ?_) AllReadyH.nil)
                go_simp
                generalize hge : World.alloc _ _ = w4_
                have fp4 : Blk w4_ w3_.heap.size 46 #[Value.slice A6 n6 c6] := by subst hge; exact Blk.new _ _ _
                have hb4 : Below w3_.heap.size w3_ w4_ := by subst hge; exact (Below.refl _ _).alloc (Nat.le_refl _) _
                clear hge
                have Hb4 : Below we.heap.size we w4_ := below_of Hb3 hb4 Hb3.size
                have Zb4 : we.heap.size ≤ w4_.heap.size := Nat.le_trans Zb3 hb4.size
                have own4 := own_below own3 hb4
                have fZ4 := fZ3.below hb4
                have lop4 : we.heap.size ≤ w3_.heap.size := Zb3
                have np4 : (.slice A2_ (r) c2_ : Value).ownBlock ≠ some w3_.heap.size := fun e => absurd (own3.lt _ e).2 (Nat.lt_irrefl _)
                refine hK.out _ _ Hb4 fun _ => ?_
                clear hK K
                try simp only [List.getElem_toArray, List.getElem_cons_zero, List.getElem_cons_succ, Act.put, List.setIfInBounds_toArray, List.set_cons_zero, List.set_cons_succ]
                refine wpAnyH_ready (rs := [8]) (by kernel_rfl) (by simp) (AllReadyH.cons rfl (fun K hK => ?_) AllReadyH.nil)
                refine step_append_cells (by rfl) (.tmp 109) (.tmp 111) 24 (by rfl) we.heap.size 46 (.slice none 0 0) 1 24 (by kernel_rfl) (by kernel_rfl) rfl (by omega) (.slice A2_ (r) c2_) (r) ([] ++ (rowV hs9 ls).take r) own4 (by rfl) (_) (1) (_) ([Value.slice A6 n6 c6]) (by rfl) (by rfl) (cells_of_blk fp4 rfl) (fun u hu => by simp at hu; subst hu; rfl) (by unfold maxLen; omega) (by omega) Zb4 ?_
                intro v5 w5_ own5 hg5 st5
                have Hb5 : Below we.heap.size we w5_ := below_grown Hb4 hg5 Hb4.size (fun k hk => own_base own4 k hk)
                have Zb5 : we.heap.size ≤ w5_.heap.size := Nat.le_trans Zb4 hg5.size
                obtain ⟨A5_, c5_, rfl, le5, lm5, -⟩ := own_form own5
                have fZ5 := Blk.grown fZ4 hg5 (Boxed.not_row (B := w2_.heap.size) fZ4 (by decide) own4)
                have fp5 := Blk.grown fp4 hg5 (fun e => np4 e.symm)
                have np5 := np_sits st5 np4 fp4.lt
                refine hK.out _ _ Hb5 fun _ => ?_
                clear hK K
                try simp only [List.getElem_toArray, List.getElem_cons_zero, List.getElem_cons_succ, Act.put, List.setIfInBounds_toArray, List.set_cons_zero, List.set_cons_succ]
                refine wpAnyH_ready (rs := [14]) (by kernel_rfl) (by simp) (AllReadyH.cons rfl (fun K hK => ?_) AllReadyH.nil)
                refine step_append_cells (by rfl) (.tmp 112) (.tmp 117) 24 (by rfl) we.heap.size 46 (.slice none 0 0) 1 24 (by kernel_rfl) (by kernel_rfl) rfl (by omega) (.slice A5_ (r + 1) c5_) (r + 1) ([] ++ (rowV hs9 ls).take r ++ [Value.slice A6 n6 c6]) own5 (by rfl) (_) ((n - (r + 1))) (_) ((rowV hs9 ls).drop (r + 1)) (by rfl) (by rw [List.length_drop, hrl]; omega) ((HC11.out.below Hb5)) (fun u hu => rowV_one _ _ u (List.mem_of_mem_drop hu)) (by unfold maxLen; omega) (by omega) Zb5 ?_
                intro v6 w6_ own6 hg6 st6
                have Hb6 : Below we.heap.size we w6_ := below_grown Hb5 hg6 Hb5.size (fun k hk => own_base own5 k hk)
                have Zb6 : we.heap.size ≤ w6_.heap.size := Nat.le_trans Zb5 hg6.size
                obtain ⟨A6_, c6_, rfl, le6, lm6, -⟩ := own_form own6
                have fZ6 := Blk.grown fZ5 hg6 (Boxed.not_row (B := w2_.heap.size) fZ5 (by decide) own5)
                have fp6 := Blk.grown fp5 hg6 (fun e => np5 e.symm)
                have np6 := np_sits st6 np5 fp5.lt
                refine hK.out _ _ Hb6 fun _ => ?_
                clear hK K
                try simp only [List.getElem_toArray, List.getElem_cons_zero, List.getElem_cons_succ, Act.put, List.setIfInBounds_toArray, List.set_cons_zero, List.set_cons_succ]
                refine wpAnyH_take (i := 15) (v := ?_) rfl (by kernel_rfl) (by kernel_rfl) (by kernel_rfl) (fun _ _ _ h => h) (Or.inl ⟨by rfl, ?_⟩) Hb6 ?_
                rotate_left
                · intro wS hSw
                  go_simp
                  try with_reducible rfl
                try simp only [List.getElem_toArray, List.getElem_cons_zero, List.getElem_cons_succ, Act.put, List.setIfInBounds_toArray, List.set_cons_zero, List.set_cons_succ]
                refine wpAnyH_ready (rs := [17]) (by kernel_rfl) (by simp) (AllReadyH.cons rfl (fun K hK => ?_) AllReadyH.nil)
                refine step_put_blkR (by rfl) _ _ _ (by rfl) (w2_.heap.size) (#[.slice A6_ (r + 1 + (n - (r + 1))) c6_]) (by rfl) (by rfl) _ _ fZ6 (by kernel_rfl) (by rfl) (by simp [Value.oneCell']) ?_
                intro w7_ fZ7 hg7 hz7
                have Hb7 : Below we.heap.size we w7_ := below_grown Hb6 hg7 Hb6.size (fun k hk => by cases hk; exact loZ3)
                have Zb7 : we.heap.size ≤ w7_.heap.size := Nat.le_trans Zb6 hg7.size
                have own7 := own6.kept hg7 (.inr (Ne.symm (Boxed.not_row (B := w2_.heap.size) fZ6 (by decide) own6)))
                refine hK.out _ _ Hb7 fun _ => ?_
                clear hK K
                try simp only [List.getElem_toArray, List.getElem_cons_zero, List.getElem_cons_succ, Act.put, List.setIfInBounds_toArray, List.set_cons_zero, List.set_cons_succ]
                refine wpAnyH_done (by kernel_rfl) ?_ _
                have hown9 := own7
                have hZ9 := fZ7
                go_wp2_with (fail)
                go_meet
                exact ⟨_, _, _, _, rfl, by omega, hZ9, hown9, Hb7⟩
            · go_simp
              generalize hge : World.alloc _ _ = w2_
              have fp2 : Blk w2_ w1_.heap.size 46 #[Value.slice A6 n6 c6] := by subst hge; exact Blk.new _ _ _
              have hb2 : Below w1_.heap.size w1_ w2_ := by subst hge; exact (Below.refl _ _).alloc (Nat.le_refl _) _
              clear hge
              have Hb2 : Below we.heap.size we w2_ := below_of Hb1 hb2 Hb1.size
              have Zb2 : we.heap.size ≤ w2_.heap.size := Nat.le_trans Zb1 hb2.size
              have own2 := own_below own1 hb2
              have lop2 : we.heap.size ≤ w1_.heap.size := Zb1
              have np2 : (.slice (some ⟨wd.heap.size, 0, none⟩) 0 0 : Value).ownBlock ≠ some w1_.heap.size := fun e => absurd (own1.lt _ e).2 (Nat.lt_irrefl _)
              refine hK.out _ _ Hb2 fun _ => ?_
              clear hK K
              try simp only [List.getElem_toArray, List.getElem_cons_zero, List.getElem_cons_succ, Act.put, List.setIfInBounds_toArray, List.set_cons_zero, List.set_cons_succ]
              refine wpAnyH_ready (rs := [5, 16]) (by kernel_rfl) (by simp) (AllReadyH.cons rfl (fun K hK => ?_) (AllReadyH.cons rfl (fun K hK => ?_) AllReadyH.nil))
              · refine step_append_cells (by rfl) (.tmp 104) (.tmp 108) 24 (by rfl) we.heap.size 46 (.slice none 0 0) 1 24 (by kernel_rfl) (by kernel_rfl) rfl (by omega) (.slice (some ⟨wd.heap.size, 0, none⟩) 0 0) (0) ([]) own2 (by rfl) (some ⟨b, off, none⟩) (r) (c) ((rowV hs9 ls).take r) (by rfl) (by rw [List.length_take, hrl]; omega) ((HC9.out.below Hb2).take_ r) (fun u hu => rowV_one _ _ u (List.mem_of_mem_take hu)) (by unfold maxLen; omega) (by omega) Zb2 ?_
                intro v3 w3_ own3 hg3 st3
                have Hb3 : Below we.heap.size we w3_ := below_grown Hb2 hg3 Hb2.size (fun k hk => own_base own2 k hk)
                have Zb3 : we.heap.size ≤ w3_.heap.size := Nat.le_trans Zb2 hg3.size
                obtain ⟨A3_, c3_, rfl, le3, lm3, -⟩ := own_form own3
                have fp3 := Blk.grown fp2 hg3 (fun e => np2 e.symm)
                have np3 := np_sits st3 np2 fp2.lt
                rw [Nat.zero_add] at own3 le3
                simp only [Nat.zero_add]
                rw [Nat.zero_add] at np3
                refine hK.out _ _ Hb3 fun _ => ?_
                clear hK K
                try simp only [List.getElem_toArray, List.getElem_cons_zero, List.getElem_cons_succ, Act.put, List.setIfInBounds_toArray, List.set_cons_zero, List.set_cons_succ]
                refine wpAnyH_ready (rs := [8, 16]) (by kernel_rfl) (by simp) (AllReadyH.cons rfl (fun K hK => ?_) (AllReadyH.cons rfl (fun K hK => ?_) AllReadyH.nil))
                · refine step_append_cells (by rfl) (.tmp 109) (.tmp 111) 24 (by rfl) we.heap.size 46 (.slice none 0 0) 1 24 (by kernel_rfl) (by kernel_rfl) rfl (by omega) (.slice A3_ (r) c3_) (r) ([] ++ (rowV hs9 ls).take r) own3 (by rfl) (_) (1) (_) ([Value.slice A6 n6 c6]) (by rfl) (by rfl) (cells_of_blk fp3 rfl) (fun u hu => by simp at hu; subst hu; rfl) (by unfold maxLen; omega) (by omega) Zb3 ?_
                  intro v4 w4_ own4 hg4 st4
                  have Hb4 : Below we.heap.size we w4_ := below_grown Hb3 hg4 Hb3.size (fun k hk => own_base own3 k hk)
                  have Zb4 : we.heap.size ≤ w4_.heap.size := Nat.le_trans Zb3 hg4.size
                  obtain ⟨A4_, c4_, rfl, le4, lm4, -⟩ := own_form own4
                  have fp4 := Blk.grown fp3 hg4 (fun e => np3 e.symm)
                  have np4 := np_sits st4 np3 fp3.lt
                  refine hK.out _ _ Hb4 fun _ => ?_
                  clear hK K
                  try simp only [List.getElem_toArray, List.getElem_cons_zero, List.getElem_cons_succ, Act.put, List.setIfInBounds_toArray, List.set_cons_zero, List.set_cons_succ]
                  refine wpAnyH_ready (rs := [14, 16]) (by kernel_rfl) (by simp) (AllReadyH.cons rfl (fun K hK => ?_) (AllReadyH.cons rfl (fun K hK => ?_) AllReadyH.nil))
                  · refine step_append_cells (by rfl) (.tmp 112) (.tmp 117) 24 (by rfl) we.heap.size 46 (.slice none 0 0) 1 24 (by kernel_rfl) (by kernel_rfl) rfl (by omega) (.slice A4_ (r + 1) c4_) (r + 1) ([] ++ (rowV hs9 ls).take r ++ [Value.slice A6 n6 c6]) own4 (by rfl) (_) ((n - (r + 1))) (_) ((rowV hs9 ls).drop (r + 1)) (by rfl) (by rw [List.length_drop, hrl]; omega) ((HC11.out.below Hb4)) (fun u hu => rowV_one _ _ u (List.mem_of_mem_drop hu)) (by unfold maxLen; omega) (by omega) Zb4 ?_
                    intro v5 w5_ own5 hg5 st5
                    have Hb5 : Below we.heap.size we w5_ := below_grown Hb4 hg5 Hb4.size (fun k hk => own_base own4 k hk)
                    have Zb5 : we.heap.size ≤ w5_.heap.size := Nat.le_trans Zb4 hg5.size
                    obtain ⟨A5_, c5_, rfl, le5, lm5, -⟩ := own_form own5
                    have fp5 := Blk.grown fp4 hg5 (fun e => np4 e.symm)
                    have np5 := np_sits st5 np4 fp4.lt
                    refine hK.out _ _ Hb5 fun _ => ?_
                    clear hK K
                    try simp only [List.getElem_toArray, List.getElem_cons_zero, List.getElem_cons_succ, Act.put, List.setIfInBounds_toArray, List.set_cons_zero, List.set_cons_succ]
                    refine wpAnyH_take (i := 15) (v := ?_) rfl (by kernel_rfl) (by kernel_rfl) (by kernel_rfl) (fun _ _ _ h => h) (Or.inl ⟨by rfl, ?_⟩) Hb5 ?_
                    rotate_left
                    · intro wS hSw
                      go_simp
                      try with_reducible rfl
                    try simp only [List.getElem_toArray, List.getElem_cons_zero, List.getElem_cons_succ, Act.put, List.setIfInBounds_toArray, List.set_cons_zero, List.set_cons_succ]
                    refine wpAnyH_ready (rs := [16]) (by kernel_rfl) (by simp) (AllReadyH.cons rfl (fun K hK => ?_) AllReadyH.nil)
                    go_simp
                    generalize hge : World.alloc _ _ = w6_
                    have fZ6 : Blk w6_ w5_.heap.size 26 #[.slice none 0 0] := by subst hge; exact Blk.new _ _ _
                    have hb6 : Below w5_.heap.size w5_ w6_ := by subst hge; exact (Below.refl _ _).alloc (Nat.le_refl _) _
                    clear hge
                    have Hb6 : Below we.heap.size we w6_ := below_of Hb5 hb6 Hb5.size
                    have Zb6 : we.heap.size ≤ w6_.heap.size := Nat.le_trans Zb5 hb6.size
                    have own6 := own_below own5 hb6
                    have fp6 := fp5.below hb6
                    have loZ6 : we.heap.size ≤ w5_.heap.size := Zb5
                    refine hK.out _ _ Hb6 fun _ => ?_
                    clear hK K
                    try simp only [List.getElem_toArray, List.getElem_cons_zero, List.getElem_cons_succ, Act.put, List.setIfInBounds_toArray, List.set_cons_zero, List.set_cons_succ]
                    refine wpAnyH_ready (rs := [17]) (by kernel_rfl) (by simp) (AllReadyH.cons rfl (fun K hK => ?_) AllReadyH.nil)
                    refine step_put_blkR (by rfl) _ _ _ (by rfl) (w5_.heap.size) (#[.slice A5_ (r + 1 + (n - (r + 1))) c5_]) (by rfl) (by rfl) _ _ fZ6 (by kernel_rfl) (by rfl) (by simp [Value.oneCell']) ?_
                    intro w7_ fZ7 hg7 hz7
                    have Hb7 : Below we.heap.size we w7_ := below_grown Hb6 hg7 Hb6.size (fun k hk => by cases hk; exact loZ6)
                    have Zb7 : we.heap.size ≤ w7_.heap.size := Nat.le_trans Zb6 hg7.size
                    have own7 := own6.kept hg7 (.inr (Ne.symm (Boxed.not_row (B := w5_.heap.size) fZ6 (by decide) own6)))
                    refine hK.out _ _ Hb7 fun _ => ?_
                    clear hK K
                    try simp only [List.getElem_toArray, List.getElem_cons_zero, List.getElem_cons_succ, Act.put, List.setIfInBounds_toArray, List.set_cons_zero, List.set_cons_succ]
                    refine wpAnyH_done (by kernel_rfl) ?_ _
                    have hown9 := own7
                    have hZ9 := fZ7
                    go_wp2_with (fail)
                    go_meet
                    exact ⟨_, _, _, _, rfl, by omega, hZ9, hown9, Hb7⟩
                  · go_simp
                    generalize hge : World.alloc _ _ = w5_
                    have fZ5 : Blk w5_ w4_.heap.size 26 #[.slice none 0 0] := by subst hge; exact Blk.new _ _ _
                    have hb5 : Below w4_.heap.size w4_ w5_ := by subst hge; exact (Below.refl _ _).alloc (Nat.le_refl _) _
                    clear hge
                    have Hb5 : Below we.heap.size we w5_ := below_of Hb4 hb5 Hb4.size
                    have Zb5 : we.heap.size ≤ w5_.heap.size := Nat.le_trans Zb4 hb5.size
                    have own5 := own_below own4 hb5
                    have fp5 := fp4.below hb5
                    have loZ5 : we.heap.size ≤ w4_.heap.size := Zb4
                    refine hK.out _ _ Hb5 fun _ => ?_
                    clear hK K
                    try simp only [List.getElem_toArray, List.getElem_cons_zero, List.getElem_cons_succ, Act.put, List.setIfInBounds_toArray, List.set_cons_zero, List.set_cons_succ]
                    refine wpAnyH_ready (rs := [14]) (by kernel_rfl) (by simp) (AllReadyH.cons rfl (fun K hK => ?_) AllReadyH.nil)
                    refine step_append_cells (by rfl) (.tmp 112) (.tmp 117) 24 (by rfl) we.heap.size 46 (.slice none 0 0) 1 24 (by kernel_rfl) (by kernel_rfl) rfl (by omega) (.slice A4_ (r + 1) c4_) (r + 1) ([] ++ (rowV hs9 ls).take r ++ [Value.slice A6 n6 c6]) own5 (by rfl) (_) ((n - (r + 1))) (_) ((rowV hs9 ls).drop (r + 1)) (by rfl) (by rw [List.length_drop, hrl]; omega) ((HC11.out.below Hb5)) (fun u hu => rowV_one _ _ u (List.mem_of_mem_drop hu)) (by unfold maxLen; omega) (by omega) Zb5 ?_
                    intro v6 w6_ own6 hg6 st6
                    have Hb6 : Below we.heap.size we w6_ := below_grown Hb5 hg6 Hb5.size (fun k hk => own_base own5 k hk)
                    have Zb6 : we.heap.size ≤ w6_.heap.size := Nat.le_trans Zb5 hg6.size
                    obtain ⟨A6_, c6_, rfl, le6, lm6, -⟩ := own_form own6
                    have fp6 := Blk.grown fp5 hg6 (fun e => np4 e.symm)
                    have np6 := np_sits st6 np4 fp5.lt
                    have fZ6 := Blk.grown fZ5 hg6 (Boxed.not_row (B := w4_.heap.size) fZ5 (by decide) own5)
                    refine hK.out _ _ Hb6 fun _ => ?_
                    clear hK K
                    try simp only [List.getElem_toArray, List.getElem_cons_zero, List.getElem_cons_succ, Act.put, List.setIfInBounds_toArray, List.set_cons_zero, List.set_cons_succ]
                    refine wpAnyH_take (i := 15) (v := ?_) rfl (by kernel_rfl) (by kernel_rfl) (by kernel_rfl) (fun _ _ _ h => h) (Or.inl ⟨by rfl, ?_⟩) Hb6 ?_
                    rotate_left
                    · intro wS hSw
                      go_simp
                      try with_reducible rfl
                    try simp only [List.getElem_toArray, List.getElem_cons_zero, List.getElem_cons_succ, Act.put, List.setIfInBounds_toArray, List.set_cons_zero, List.set_cons_succ]
                    refine wpAnyH_ready (rs := [17]) (by kernel_rfl) (by simp) (AllReadyH.cons rfl (fun K hK => ?_) AllReadyH.nil)
                    refine step_put_blkR (by rfl) _ _ _ (by rfl) (w4_.heap.size) (#[.slice A6_ (r + 1 + (n - (r + 1))) c6_]) (by rfl) (by rfl) _ _ fZ6 (by kernel_rfl) (by rfl) (by simp [Value.oneCell']) ?_
                    intro w7_ fZ7 hg7 hz7
                    have Hb7 : Below we.heap.size we w7_ := below_grown Hb6 hg7 Hb6.size (fun k hk => by cases hk; exact loZ5)
                    have Zb7 : we.heap.size ≤ w7_.heap.size := Nat.le_trans Zb6 hg7.size
                    have own7 := own6.kept hg7 (.inr (Ne.symm (Boxed.not_row (B := w4_.heap.size) fZ6 (by decide) own6)))
                    refine hK.out _ _ Hb7 fun _ => ?_
                    clear hK K
                    try simp only [List.getElem_toArray, List.getElem_cons_zero, List.getElem_cons_succ, Act.put, List.setIfInBounds_toArray, List.set_cons_zero, List.set_cons_succ]
                    refine wpAnyH_done (by kernel_rfl) ?_ _
                    have hown9 := own7
                    have hZ9 := fZ7
                    go_wp2_with (fail)
                    go_meet
                    exact ⟨_, _, _, _, rfl, by omega, hZ9, hown9, Hb7⟩
                · go_simp
                  generalize hge : World.alloc _ _ = w4_
                  have fZ4 : Blk w4_ w3_.heap.size 26 #[.slice none 0 0] := by subst hge; exact Blk.new _ _ _
                  have hb4 : Below w3_.heap.size w3_ w4_ := by subst hge; exact (Below.refl _ _).alloc (Nat.le_refl _) _
                  clear hge
                  have Hb4 : Below we.heap.size we w4_ := below_of Hb3 hb4 Hb3.size
                  have Zb4 : we.heap.size ≤ w4_.heap.size := Nat.le_trans Zb3 hb4.size
                  have own4 := own_below own3 hb4
                  have fp4 := fp3.below hb4
                  have loZ4 : we.heap.size ≤ w3_.heap.size := Zb3
                  refine hK.out _ _ Hb4 fun _ => ?_
                  clear hK K
                  try simp only [List.getElem_toArray, List.getElem_cons_zero, List.getElem_cons_succ, Act.put, List.setIfInBounds_toArray, List.set_cons_zero, List.set_cons_succ]
                  refine wpAnyH_ready (rs := [8]) (by kernel_rfl) (by simp) (AllReadyH.cons rfl (fun K hK => ?_) AllReadyH.nil)
                  refine step_append_cells (by rfl) (.tmp 109) (.tmp 111) 24 (by rfl) we.heap.size 46 (.slice none 0 0) 1 24 (by kernel_rfl) (by kernel_rfl) rfl (by omega) (.slice A3_ (r) c3_) (r) ([] ++ (rowV hs9 ls).take r) own4 (by rfl) (_) (1) (_) ([Value.slice A6 n6 c6]) (by rfl) (by rfl) (cells_of_blk fp4 rfl) (fun u hu => by simp at hu; subst hu; rfl) (by unfold maxLen; omega) (by omega) Zb4 ?_
                  intro v5 w5_ own5 hg5 st5
                  have Hb5 : Below we.heap.size we w5_ := below_grown Hb4 hg5 Hb4.size (fun k hk => own_base own4 k hk)
                  have Zb5 : we.heap.size ≤ w5_.heap.size := Nat.le_trans Zb4 hg5.size
                  obtain ⟨A5_, c5_, rfl, le5, lm5, -⟩ := own_form own5
                  have fp5 := Blk.grown fp4 hg5 (fun e => np3 e.symm)
                  have np5 := np_sits st5 np3 fp4.lt
                  have fZ5 := Blk.grown fZ4 hg5 (Boxed.not_row (B := w3_.heap.size) fZ4 (by decide) own4)
                  refine hK.out _ _ Hb5 fun _ => ?_
                  clear hK K
                  try simp only [List.getElem_toArray, List.getElem_cons_zero, List.getElem_cons_succ, Act.put, List.setIfInBounds_toArray, List.set_cons_zero, List.set_cons_succ]
                  refine wpAnyH_ready (rs := [14]) (by kernel_rfl) (by simp) (AllReadyH.cons rfl (fun K hK => ?_) AllReadyH.nil)
                  refine step_append_cells (by rfl) (.tmp 112) (.tmp 117) 24 (by rfl) we.heap.size 46 (.slice none 0 0) 1 24 (by kernel_rfl) (by kernel_rfl) rfl (by omega) (.slice A5_ (r + 1) c5_) (r + 1) ([] ++ (rowV hs9 ls).take r ++ [Value.slice A6 n6 c6]) own5 (by rfl) (_) ((n - (r + 1))) (_) ((rowV hs9 ls).drop (r + 1)) (by rfl) (by rw [List.length_drop, hrl]; omega) ((HC11.out.below Hb5)) (fun u hu => rowV_one _ _ u (List.mem_of_mem_drop hu)) (by unfold maxLen; omega) (by omega) Zb5 ?_
                  intro v6 w6_ own6 hg6 st6
                  have Hb6 : Below we.heap.size we w6_ := below_grown Hb5 hg6 Hb5.size (fun k hk => own_base own5 k hk)
                  have Zb6 : we.heap.size ≤ w6_.heap.size := Nat.le_trans Zb5 hg6.size
                  obtain ⟨A6_, c6_, rfl, le6, lm6, -⟩ := own_form own6
                  have fp6 := Blk.grown fp5 hg6 (fun e => np5 e.symm)
                  have np6 := np_sits st6 np5 fp5.lt
                  have fZ6 := Blk.grown fZ5 hg6 (Boxed.not_row (B := w3_.heap.size) fZ5 (by decide) own5)
                  refine hK.out _ _ Hb6 fun _ => ?_
                  clear hK K
                  try simp only [List.getElem_toArray, List.getElem_cons_zero, List.getElem_cons_succ, Act.put, List.setIfInBounds_toArray, List.set_cons_zero, List.set_cons_succ]
                  refine wpAnyH_take (i := 15) (v := ?_) rfl (by kernel_rfl) (by kernel_rfl) (by kernel_rfl) (fun _ _ _ h => h) (Or.inl ⟨by rfl, ?_⟩) Hb6 ?_
                  rotate_left
                  · intro wS hSw
                    go_simp
                    try with_reducible rfl
                  try simp only [List.getElem_toArray, List.getElem_cons_zero, List.getElem_cons_succ, Act.put, List.setIfInBounds_toArray, List.set_cons_zero, List.set_cons_succ]
                  refine wpAnyH_ready (rs := [17]) (by kernel_rfl) (by simp) (AllReadyH.cons rfl (fun K hK => ?_) AllReadyH.nil)
                  refine step_put_blkR (by rfl) _ _ _ (by rfl) (w3_.heap.size) (#[.slice A6_ (r + 1 + (n - (r + 1))) c6_]) (by rfl) (by rfl) _ _ fZ6 (by kernel_rfl) (by rfl) (by simp [Value.oneCell']) ?_
                  intro w7_ fZ7 hg7 hz7
                  have Hb7 : Below we.heap.size we w7_ := below_grown Hb6 hg7 Hb6.size (fun k hk => by cases hk; exact loZ4)
                  have Zb7 : we.heap.size ≤ w7_.heap.size := Nat.le_trans Zb6 hg7.size
                  have own7 := own6.kept hg7 (.inr (Ne.symm (Boxed.not_row (B := w3_.heap.size) fZ6 (by decide) own6)))
                  refine hK.out _ _ Hb7 fun _ => ?_
                  clear hK K
                  try simp only [List.getElem_toArray, List.getElem_cons_zero, List.getElem_cons_succ, Act.put, List.setIfInBounds_toArray, List.set_cons_zero, List.set_cons_succ]
                  refine wpAnyH_done (by kernel_rfl) ?_ _
                  have hown9 := own7
                  have hZ9 := fZ7
                  go_wp2_with (fail)
                  go_meet
                  exact ⟨_, _, _, _, rfl, by omega, hZ9, hown9, Hb7⟩
              · go_simp
                generalize hge : World.alloc _ _ = w3_
                have fZ3 : Blk w3_ w2_.heap.size 26 #[.slice none 0 0] := by subst hge; exact Blk.new _ _ _
                have hb3 : Below w2_.heap.size w2_ w3_ := by subst hge; exact (Below.refl _ _).alloc (Nat.le_refl _) _
                clear hge
                have Hb3 : Below we.heap.size we w3_ := below_of Hb2 hb3 Hb2.size
                have Zb3 : we.heap.size ≤ w3_.heap.size := Nat.le_trans Zb2 hb3.size
                have own3 := own_below own2 hb3
                have fp3 := fp2.below hb3
                have loZ3 : we.heap.size ≤ w2_.heap.size := Zb2
                refine hK.out _ _ Hb3 fun _ => ?_
                clear hK K
                try simp only [List.getElem_toArray, List.getElem_cons_zero, List.getElem_cons_succ, Act.put, List.setIfInBounds_toArray, List.set_cons_zero, List.set_cons_succ]
                refine wpAnyH_ready (rs := [5]) (by kernel_rfl) (by simp) (AllReadyH.cons rfl (fun K hK => ?_) AllReadyH.nil)
                refine step_append_cells (by rfl) (.tmp 104) (.tmp 108) 24 (by rfl) we.heap.size 46 (.slice none 0 0) 1 24 (by kernel_rfl) (by kernel_rfl) rfl (by omega) (.slice (some ⟨wd.heap.size, 0, none⟩) 0 0) (0) ([]) own3 (by rfl) (some ⟨b, off, none⟩) (r) (c) ((rowV hs9 ls).take r) (by rfl) (by rw [List.length_take, hrl]; omega) ((HC9.out.below Hb3).take_ r) (fun u hu => rowV_one _ _ u (List.mem_of_mem_take hu)) (by unfold maxLen; omega) (by omega) Zb3 ?_
                intro v4 w4_ own4 hg4 st4
                have Hb4 : Below we.heap.size we w4_ := below_grown Hb3 hg4 Hb3.size (fun k hk => own_base own3 k hk)
                have Zb4 : we.heap.size ≤ w4_.heap.size := Nat.le_trans Zb3 hg4.size
                obtain ⟨A4_, c4_, rfl, le4, lm4, -⟩ := own_form own4
                have fp4 := Blk.grown fp3 hg4 (fun e => np2 e.symm)
                have np4 := np_sits st4 np2 fp3.lt
                have fZ4 := Blk.grown fZ3 hg4 (Boxed.not_row (B := w2_.heap.size) fZ3 (by decide) own3)
                rw [Nat.zero_add] at own4 le4
                simp only [Nat.zero_add]
                rw [Nat.zero_add] at np4
                refine hK.out _ _ Hb4 fun _ => ?_
                clear hK K
                try simp only [List.getElem_toArray, List.getElem_cons_zero, List.getElem_cons_succ, Act.put, List.setIfInBounds_toArray, List.set_cons_zero, List.set_cons_succ]
                refine wpAnyH_ready (rs := [8]) (by kernel_rfl) (by simp) (AllReadyH.cons rfl (fun K hK => ?_) AllReadyH.nil)
                refine step_append_cells (by rfl) (.tmp 109) (.tmp 111) 24 (by rfl) we.heap.size 46 (.slice none 0 0) 1 24 (by kernel_rfl) (by kernel_rfl) rfl (by omega) (.slice A4_ (r) c4_) (r) ([] ++ (rowV hs9 ls).take r) own4 (by rfl) (_) (1) (_) ([Value.slice A6 n6 c6]) (by rfl) (by rfl) (cells_of_blk fp4 rfl) (fun u hu => by simp at hu; subst hu; rfl) (by unfold maxLen; omega) (by omega) Zb4 ?_
                intro v5 w5_ own5 hg5 st5
                have Hb5 : Below we.heap.size we w5_ := below_grown Hb4 hg5 Hb4.size (fun k hk => own_base own4 k hk)
                have Zb5 : we.heap.size ≤ w5_.heap.size := Nat.le_trans Zb4 hg5.size
                obtain ⟨A5_, c5_, rfl, le5, lm5, -⟩ := own_form own5
                have fp5 := Blk.grown fp4 hg5 (fun e => np4 e.symm)
                have np5 := np_sits st5 np4 fp4.lt
                have fZ5 := Blk.grown fZ4 hg5 (Boxed.not_row (B := w2_.heap.size) fZ4 (by decide) own4)
                refine hK.out _ _ Hb5 fun _ => ?_
                clear hK K
                try simp only [List.getElem_toArray, List.getElem_cons_zero, List.getElem_cons_succ, Act.put, List.setIfInBounds_toArray, List.set_cons_zero, List.set_cons_succ]
                refine wpAnyH_ready (rs := [14]) (by kernel_rfl) (by simp) (AllReadyH.cons rfl (fun K hK => ?_) AllReadyH.nil)
                refine step_append_cells (by rfl) (.tmp 112) (.tmp 117) 24 (by rfl) we.heap.size 46 (.slice none 0 0) 1 24 (by kernel_rfl) (by kernel_rfl) rfl (by omega) (.slice A5_ (r + 1) c5_) (r + 1) ([] ++ (rowV hs9 ls).take r ++ [Value.slice A6 n6 c6]) own5 (by rfl) (_) ((n - (r + 1))) (_) ((rowV hs9 ls).drop (r + 1)) (by rfl) (by rw [List.length_drop, hrl]; omega) ((HC11.out.below Hb5)) (fun u hu => rowV_one _ _ u (List.mem_of_mem_drop hu)) (by unfold maxLen; omega) (by omega) Zb5 ?_
                intro v6 w6_ own6 hg6 st6
                have Hb6 : Below we.heap.size we w6_ := below_grown Hb5 hg6 Hb5.size (fun k hk => own_base own5 k hk)
                have Zb6 : we.heap.size ≤ w6_.heap.size := Nat.le_trans Zb5 hg6.size
                obtain ⟨A6_, c6_, rfl, le6, lm6, -⟩ := own_form own6
                have fp6 := Blk.grown fp5 hg6 (fun e => np5 e.symm)
                have np6 := np_sits st6 np5 fp5.lt
                have fZ6 := Blk.grown fZ5 hg6 (Boxed.not_row (B := w2_.heap.size) fZ5 (by decide) own5)
                refine hK.out _ _ Hb6 fun _ => ?_
                clear hK K
                try simp only [List.getElem_toArray, List.getElem_cons_zero, List.getElem_cons_succ, Act.put, List.setIfInBounds_toArray, List.set_cons_zero, List.set_cons_succ]
                refine wpAnyH_take (i := 15) (v := ?_) rfl (by kernel_rfl) (by kernel_rfl) (by kernel_rfl) (fun _ _ _ h => h) (Or.inl ⟨by rfl, ?_⟩) Hb6 ?_
                rotate_left
                · intro wS hSw
                  go_simp
                  try with_reducible rfl
                try simp only [List.getElem_toArray, List.getElem_cons_zero, List.getElem_cons_succ, Act.put, List.setIfInBounds_toArray, List.set_cons_zero, List.set_cons_succ]
                refine wpAnyH_ready (rs := [17]) (by kernel_rfl) (by simp) (AllReadyH.cons rfl (fun K hK => ?_) AllReadyH.nil)
                refine step_put_blkR (by rfl) _ _ _ (by rfl) (w2_.heap.size) (#[.slice A6_ (r + 1 + (n - (r + 1))) c6_]) (by rfl) (by rfl) _ _ fZ6 (by kernel_rfl) (by rfl) (by simp [Value.oneCell']) ?_
                intro w7_ fZ7 hg7 hz7
                have Hb7 : Below we.heap.size we w7_ := below_grown Hb6 hg7 Hb6.size (fun k hk => by cases hk; exact loZ3)
                have Zb7 : we.heap.size ≤ w7_.heap.size := Nat.le_trans Zb6 hg7.size
                have own7 := own6.kept hg7 (.inr (Ne.symm (Boxed.not_row (B := w2_.heap.size) fZ6 (by decide) own6)))
                refine hK.out _ _ Hb7 fun _ => ?_
                clear hK K
                try simp only [List.getElem_toArray, List.getElem_cons_zero, List.getElem_cons_succ, Act.put, List.setIfInBounds_toArray, List.set_cons_zero, List.set_cons_succ]
                refine wpAnyH_done (by kernel_rfl) ?_ _
                have hown9 := own7
                have hZ9 := fZ7
                go_wp2_with (fail)
                go_meet
                exact ⟨_, _, _, _, rfl, by omega, hZ9, hown9, Hb7⟩
            · go_simp
              generalize hge : World.alloc _ _ = w2_
              have fZ2 : Blk w2_ w1_.heap.size 26 #[.slice none 0 0] := by subst hge; exact Blk.new _ _ _
              have hb2 : Below w1_.heap.size w1_ w2_ := by subst hge; exact (Below.refl _ _).alloc (Nat.le_refl _) _
              clear hge
              have Hb2 : Below we.heap.size we w2_ := below_of Hb1 hb2 Hb1.size
              have Zb2 : we.heap.size ≤ w2_.heap.size := Nat.le_trans Zb1 hb2.size
              have own2 := own_below own1 hb2
              have loZ2 : we.heap.size ≤ w1_.heap.size := Zb1
              refine hK.out _ _ Hb2 fun _ => ?_
              clear hK K
              try simp only [List.getElem_toArray, List.getElem_cons_zero, List.getElem_cons_succ, Act.put, List.setIfInBounds_toArray, List.set_cons_zero, List.set_cons_succ]
              refine wpAnyH_ready (rs := [5, 7]) (by kernel_rfl) (by simp) (AllReadyH.cons rfl (fun K hK => ?_) (AllReadyH.cons rfl (fun K hK => ?_) AllReadyH.nil))
              · refine step_append_cells (by rfl) (.tmp 104) (.tmp 108) 24 (by rfl) we.heap.size 46 (.slice none 0 0) 1 24 (by kernel_rfl) (by kernel_rfl) rfl (by omega) (.slice (some ⟨wd.heap.size, 0, none⟩) 0 0) (0) ([]) own2 (by rfl) (some ⟨b, off, none⟩) (r) (c) ((rowV hs9 ls).take r) (by rfl) (by rw [List.length_take, hrl]; omega) ((HC9.out.below Hb2).take_ r) (fun u hu => rowV_one _ _ u (List.mem_of_mem_take hu)) (by unfold maxLen; omega) (by omega) Zb2 ?_
                intro v3 w3_ own3 hg3 st3
                have Hb3 : Below we.heap.size we w3_ := below_grown Hb2 hg3 Hb2.size (fun k hk => own_base own2 k hk)
                have Zb3 : we.heap.size ≤ w3_.heap.size := Nat.le_trans Zb2 hg3.size
                obtain ⟨A3_, c3_, rfl, le3, lm3, -⟩ := own_form own3
                have fZ3 := Blk.grown fZ2 hg3 (Boxed.not_row (B := w1_.heap.size) fZ2 (by decide) own2)
                rw [Nat.zero_add] at own3 le3
                simp only [Nat.zero_add]
                refine hK.out _ _ Hb3 fun _ => ?_
                clear hK K
                try simp only [List.getElem_toArray, List.getElem_cons_zero, List.getElem_cons_succ, Act.put, List.setIfInBounds_toArray, List.set_cons_zero, List.set_cons_succ]
                refine wpAnyH_ready (rs := [7]) (by kernel_rfl) (by simp) (AllReadyH.cons rfl (fun K hK => ?_) AllReadyH.nil)
                go_simp
                generalize hge : World.alloc _ _ = w4_
                have fp4 : Blk w4_ w3_.heap.size 46 #[Value.slice A6 n6 c6] := by subst hge; exact Blk.new _ _ _
                have hb4 : Below w3_.heap.size w3_ w4_ := by subst hge; exact (Below.refl _ _).alloc (Nat.le_refl _) _
                clear hge
                have Hb4 : Below we.heap.size we w4_ := below_of Hb3 hb4 Hb3.size
                have Zb4 : we.heap.size ≤ w4_.heap.size := Nat.le_trans Zb3 hb4.size
                have own4 := own_below own3 hb4
                have fZ4 := fZ3.below hb4
                have lop4 : we.heap.size ≤ w3_.heap.size := Zb3
                have np4 : (.slice A3_ (r) c3_ : Value).ownBlock ≠ some w3_.heap.size := fun e => absurd (own3.lt _ e).2 (Nat.lt_irrefl _)
                refine hK.out _ _ Hb4 fun _ => ?_
                clear hK K
                try simp only [List.getElem_toArray, List.getElem_cons_zero, List.getElem_cons_succ, Act.put, List.setIfInBounds_toArray, List.set_cons_zero, List.set_cons_succ]
                refine wpAnyH_ready (rs := [8]) (by kernel_rfl) (by simp) (AllReadyH.cons rfl (fun K hK => ?_) AllReadyH.nil)
                refine step_append_cells (by rfl) (.tmp 109) (.tmp 111) 24 (by rfl) we.heap.size 46 (.slice none 0 0) 1 24 (by kernel_rfl) (by kernel_rfl) rfl (by omega) (.slice A3_ (r) c3_) (r) ([] ++ (rowV hs9 ls).take r) own4 (by rfl) (_) (1) (_) ([Value.slice A6 n6 c6]) (by rfl) (by rfl) (cells_of_blk fp4 rfl) (fun u hu => by simp at hu; subst hu; rfl) (by unfold maxLen; omega) (by omega) Zb4 ?_
                intro v5 w5_ own5 hg5 st5
                have Hb5 : Below we.heap.size we w5_ := below_grown Hb4 hg5 Hb4.size (fun k hk => own_base own4 k hk)
                have Zb5 : we.heap.size ≤ w5_.heap.size := Nat.le_trans Zb4 hg5.size
                obtain ⟨A5_, c5_, rfl, le5, lm5, -⟩ := own_form own5
                have fZ5 := Blk.grown fZ4 hg5 (Boxed.not_row (B := w1_.heap.size) fZ4 (by decide) own4)
                have fp5 := Blk.grown fp4 hg5 (fun e => np4 e.symm)
                have np5 := np_sits st5 np4 fp4.lt
                refine hK.out _ _ Hb5 fun _ => ?_
                clear hK K
                try simp only [List.getElem_toArray, List.getElem_cons_zero, List.getElem_cons_succ, Act.put, List.setIfInBounds_toArray, List.set_cons_zero, List.set_cons_succ]
                refine wpAnyH_ready (rs := [14]) (by kernel_rfl) (by simp) (AllReadyH.cons rfl (fun K hK => ?_) AllReadyH.nil)
                refine step_append_cells (by rfl) (.tmp 112) (.tmp 117) 24 (by rfl) we.heap.size 46 (.slice none 0 0) 1 24 (by kernel_rfl) (by kernel_rfl) rfl (by omega) (.slice A5_ (r + 1) c5_) (r + 1) ([] ++ (rowV hs9 ls).take r ++ [Value.slice A6 n6 c6]) own5 (by rfl) (_) ((n - (r + 1))) (_) ((rowV hs9 ls).drop (r + 1)) (by rfl) (by rw [List.length_drop, hrl]; omega) ((HC11.out.below Hb5)) (fun u hu => rowV_one _ _ u (List.mem_of_mem_drop hu)) (by unfold maxLen; omega) (by omega) Zb5 ?_
                intro v6 w6_ own6 hg6 st6
                have Hb6 : Below we.heap.size we w6_ := below_grown Hb5 hg6 Hb5.size (fun k hk => own_base own5 k hk)
                have Zb6 : we.heap.size ≤ w6_.heap.size := Nat.le_trans Zb5 hg6.size
                obtain ⟨A6_, c6_, rfl, le6, lm6, -⟩ := own_form own6
                have fZ6 := Blk.grown fZ5 hg6 (Boxed.not_row (B := w1_.heap.size) fZ5 (by decide) own5)
                have fp6 := Blk.grown fp5 hg6 (fun e => np5 e.symm)
                have np6 := np_sits st6 np5 fp5.lt
                refine hK.out _ _ Hb6 fun _ => ?_
                clear hK K
                try simp only [List.getElem_toArray, List.getElem_cons_zero, List.getElem_cons_succ, Act.put, List.setIfInBounds_toArray, List.set_cons_zero, List.set_cons_succ]
                refine wpAnyH_take (i := 15) (v := ?_) rfl (by kernel_rfl) (by kernel_rfl) (by kernel_rfl) (fun _ _ _ h => h) (Or.inl ⟨by rfl, ?_⟩) Hb6 ?_
                rotate_left
                · intro wS hSw
                  go_simp
                  try with_reducible rfl
                try simp only [List.getElem_toArray, List.getElem_cons_zero, List.getElem_cons_succ, Act.put, List.setIfInBounds_toArray, List.set_cons_zero, List.set_cons_succ]
                refine wpAnyH_ready (rs := [17]) (by kernel_rfl) (by simp) (AllReadyH.cons rfl (fun K hK => ?_) AllReadyH.nil)
                refine step_put_blkR (by rfl) _ _ _ (by rfl) (w1_.heap.size) (#[.slice A6_ (r + 1 + (n - (r + 1))) c6_]) (by rfl) (by rfl) _ _ fZ6 (by kernel_rfl) (by rfl) (by simp [Value.oneCell']) ?_
                intro w7_ fZ7 hg7 hz7
                have Hb7 : Below we.heap.size we w7_ := below_grown Hb6 hg7 Hb6.size (fun k hk => by cases hk; exact loZ2)
                have Zb7 : we.heap.size ≤ w7_.heap.size := Nat.le_trans Zb6 hg7.size
                have own7 := own6.kept hg7 (.inr (Ne.symm (Boxed.not_row (B := w1_.heap.size) fZ6 (by decide) own6)))
                refine hK.out _ _ Hb7 fun _ => ?_
                clear hK K
                try simp only [List.getElem_toArray, List.getElem_cons_zero, List.getElem_cons_succ, Act.put, List.setIfInBounds_toArray, List.set_cons_zero, List.set_cons_succ]
                refine wpAnyH_done (by kernel_rfl) ?_ _
                have hown9 := own7
                have hZ9 := fZ7
                go_wp2_with (fail)
                go_meet
                exact ⟨_, _, _, _, rfl, by omega, hZ9, hown9, Hb7⟩
              · go_simp
                generalize hge : World.alloc _ _ = w3_
                have fp3 : Blk w3_ w2_.heap.size 46 #[Value.slice A6 n6 c6] := by subst hge; exact Blk.new _ _ _
                have hb3 : Below w2_.heap.size w2_ w3_ := by subst hge; exact (Below.refl _ _).alloc (Nat.le_refl _) _
                clear hge
                have Hb3 : Below we.heap.size we w3_ := below_of Hb2 hb3 Hb2.size
                have Zb3 : we.heap.size ≤ w3_.heap.size := Nat.le_trans Zb2 hb3.size
                have own3 := own_below own2 hb3
                have fZ3 := fZ2.below hb3
                have lop3 : we.heap.size ≤ w2_.heap.size := Zb2
                have np3 : (.slice (some ⟨wd.heap.size, 0, none⟩) 0 0 : Value).ownBlock ≠ some w2_.heap.size := fun e => absurd (own2.lt _ e).2 (Nat.lt_irrefl _)
                refine hK.out _ _ Hb3 fun _ => ?_
                clear hK K
                try simp only [List.getElem_toArray, List.getElem_cons_zero, List.getElem_cons_succ, Act.put, List.setIfInBounds_toArray, List.set_cons_zero, List.set_cons_succ]
                refine wpAnyH_ready (rs := [5]) (by kernel_rfl) (by simp) (AllReadyH.cons rfl (fun K hK => ?_) AllReadyH.nil)
                refine step_append_cells (by rfl) (.tmp 104) (.tmp 108) 24 (by rfl) we.heap.size 46 (.slice none 0 0) 1 24 (by kernel_rfl) (by kernel_rfl) rfl (by omega) (.slice (some ⟨wd.heap.size, 0, none⟩) 0 0) (0) ([]) own3 (by rfl) (some ⟨b, off, none⟩) (r) (c) ((rowV hs9 ls).take r) (by rfl) (by rw [List.length_take, hrl]; omega) ((HC9.out.below Hb3).take_ r) (fun u hu => rowV_one _ _ u (List.mem_of_mem_take hu)) (by unfold maxLen; omega) (by omega) Zb3 ?_
                intro v4 w4_ own4 hg4 st4
                have Hb4 : Below we.heap.size we w4_ := below_grown Hb3 hg4 Hb3.size (fun k hk => own_base own3 k hk)
                have Zb4 : we.heap.size ≤ w4_.heap.size := Nat.le_trans Zb3 hg4.size
                obtain ⟨A4_, c4_, rfl, le4, lm4, -⟩ := own_form own4
                have fZ4 := Blk.grown fZ3 hg4 (Boxed.not_row (B := w1_.heap.size) fZ3 (by decide) own3)
                have fp4 := Blk.grown fp3 hg4 (fun e => np3 e.symm)
                have np4 := np_sits st4 np3 fp3.lt
                rw [Nat.zero_add] at own4 le4
                simp only [Nat.zero_add]
                rw [Nat.zero_add] at np4
                refine hK.out _ _ Hb4 fun _ => ?_
                clear hK K
                try simp only [List.getElem_toArray, List.getElem_cons_zero, List.getElem_cons_succ, Act.put, List.setIfInBounds_toArray, List.set_cons_zero, List.set_cons_succ]
                refine wpAnyH_ready (rs := [8]) (by kernel_rfl) (by simp) (AllReadyH.cons rfl (fun K hK => ?_) AllReadyH.nil)
                refine step_append_cells (by rfl) (.tmp 109) (.tmp 111) 24 (by rfl) we.heap.size 46 (.slice none 0 0) 1 24 (by kernel_rfl) (by kernel_rfl) rfl (by omega) (.slice A4_ (r) c4_) (r) ([] ++ (rowV hs9 ls).take r) own4 (by rfl) (_) (1) (_) ([Value.slice A6 n6 c6]) (by rfl) (by rfl) (cells_of_blk fp4 rfl) (fun u hu => by simp at hu; subst hu; rfl) (by unfold maxLen; omega) (by omega) Zb4 ?_
                intro v5 w5_ own5 hg5 st5
                have Hb5 : Below we.heap.size we w5_ := below_grown Hb4 hg5 Hb4.size (fun k hk => own_base own4 k hk)
                have Zb5 : we.heap.size ≤ w5_.heap.size := Nat.le_trans Zb4 hg5.size
                obtain ⟨A5_, c5_, rfl, le5, lm5, -⟩ := own_form own5
                have fZ5 := Blk.grown fZ4 hg5 (Boxed.not_row (B := w1_.heap.size) fZ4 (by decide) own4)
                have fp5 := Blk.grown fp4 hg5 (fun e => np4 e.symm)
                have np5 := np_sits st5 np4 fp4.lt
                refine hK.out _ _ Hb5 fun _ => ?_
                clear hK K
                try simp only [List.getElem_toArray, List.getElem_cons_zero, List.getElem_cons_succ, Act.put, List.setIfInBounds_toArray, List.set_cons_zero, List.set_cons_succ]
                refine wpAnyH_ready (rs := [14]) (by kernel_rfl) (by simp) (AllReadyH.cons rfl (fun K hK => ?_) AllReadyH.nil)
                refine step_append_cells (by rfl) (.tmp 112) (.tmp 117) 24 (by rfl) we.heap.size 46 (.slice none 0 0) 1 24 (by kernel_rfl) (by kernel_rfl) rfl (by omega) (.slice A5_ (r + 1) c5_) (r + 1) ([] ++ (rowV hs9 ls).take r ++ [Value.slice A6 n6 c6]) own5 (by rfl) (_) ((n - (r + 1))) (_) ((rowV hs9 ls).drop (r + 1)) (by rfl) (by rw [List.length_drop, hrl]; omega) ((HC11.out.below Hb5)) (fun u hu => rowV_one _ _ u (List.mem_of_mem_drop hu)) (by unfold maxLen; omega) (by omega) Zb5 ?_
                intro v6 w6_ own6 hg6 st6
                have Hb6 : Below we.heap.size we w6_ := below_grown Hb5 hg6 Hb5.size (fun k hk => own_base own5 k hk)
                have Zb6 : we.heap.size ≤ w6_.heap.size := Nat.le_trans Zb5 hg6.size
                obtain ⟨A6_, c6_, rfl, le6, lm6, -⟩ := own_form own6
                have fZ6 := Blk.grown fZ5 hg6 (Boxed.not_row (B := w1_.heap.size) fZ5 (by decide) own5)
                have fp6 := Blk.grown fp5 hg6 (fun e => np5 e.symm)
                have np6 := np_sits st6 np5 fp5.lt
                refine hK.out _ _ Hb6 fun _ => ?_
                clear hK K
                try simp only [List.getElem_toArray, List.getElem_cons_zero, List.getElem_cons_succ, Act.put, List.setIfInBounds_toArray, List.set_cons_zero, List.set_cons_succ]
                refine wpAnyH_take (i := 15) (v := ?_) rfl (by kernel_rfl) (by kernel_rfl) (by kernel_rfl) (fun _ _ _ h => h) (Or.inl ⟨by rfl, ?_⟩) Hb6 ?_
                rotate_left
                · intro wS hSw
                  go_simp
                  try with_reducible rfl
                try simp only [List.getElem_toArray, List.getElem_cons_zero, List.getElem_cons_succ, Act.put, List.setIfInBounds_toArray, List.set_cons_zero, List.set_cons_succ]
                refine wpAnyH_ready (rs := [17]) (by kernel_rfl) (by simp) (AllReadyH.cons rfl (fun K hK => ?_) AllReadyH.nil)
                refine step_put_blkR (by rfl) _ _ _ (by rfl) (w1_.heap.size) (#[.slice A6_ (r + 1 + (n - (r + 1))) c6_]) (by rfl) (by rfl) _ _ fZ6 (by kernel_rfl) (by rfl) (by simp [Value.oneCell']) ?_
                intro w7_ fZ7 hg7 hz7
                have Hb7 : Below we.heap.size we w7_ := below_grown Hb6 hg7 Hb6.size (fun k hk => by cases hk; exact loZ2)
                have Zb7 : we.heap.size ≤ w7_.heap.size := Nat.le_trans Zb6 hg7.size
                have own7 := own6.kept hg7 (.inr (Ne.symm (Boxed.not_row (B := w1_.heap.size) fZ6 (by decide) own6)))
                refine hK.out _ _ Hb7 fun _ => ?_
                clear hK K
                try simp only [List.getElem_toArray, List.getElem_cons_zero, List.getElem_cons_succ, Act.put, List.setIfInBounds_toArray, List.set_cons_zero, List.set_cons_succ]
                refine wpAnyH_done (by kernel_rfl) ?_ _
                have hown9 := own7
                have hZ9 := fZ7
                go_wp2_with (fail)
                go_meet
                exact ⟨_, _, _, _, rfl, by omega, hZ9, hown9, Hb7⟩
          · go_simp
            generalize hge : World.alloc _ _ = w1_
            have fp1 : Blk w1_ wd.heap.size 46 #[Value.slice A6 n6 c6] := by subst hge; exact Blk.new _ _ _
            have hb1 : Below wd.heap.size wd w1_ := by subst hge; exact (Below.refl _ _).alloc (Nat.le_refl _) _
            clear hge
            have Hb1 : Below we.heap.size we w1_ := below_of Hd hb1 Hd.size
            have Zb1 : we.heap.size ≤ w1_.heap.size := Nat.le_trans Zd hb1.size
            have lop1 : we.heap.size ≤ wd.heap.size := Zd
            refine hK.out _ _ Hb1 fun _ => ?_
            clear hK K
            try simp only [List.getElem_toArray, List.getElem_cons_zero, List.getElem_cons_succ, Act.put, List.setIfInBounds_toArray, List.set_cons_zero, List.set_cons_succ]
            refine wpAnyH_ready (rs := [0, 16]) (by kernel_rfl) (by simp) (AllReadyH.cons rfl (fun K hK => ?_) (AllReadyH.cons rfl (fun K hK => ?_) AllReadyH.nil))
            · go_simp
              generalize hge : World.alloc _ _ = w2_
              have own2 : w2_.ownsRow we.heap.size 46 1 (.slice (some ⟨w1_.heap.size, 0, none⟩) 0 0) 0 [] := by subst hge; exact World.ownsRow_lit (size := 1) w1_ #[] 0 Zb1 (Nat.zero_le _) rfl
              have hb2 : Below w1_.heap.size w1_ w2_ := by subst hge; exact (Below.refl _ _).alloc (Nat.le_refl _) _
              clear hge
              have Hb2 : Below we.heap.size we w2_ := below_of Hb1 hb2 Hb1.size
              have Zb2 : we.heap.size ≤ w2_.heap.size := Nat.le_trans Zb1 hb2.size
              have fp2 := fp1.below hb2
              have np2 : (Value.slice (some ⟨w1_.heap.size, 0, none⟩) 0 0).ownBlock ≠ some (wd.heap.size) := np_lit fp1.lt
              refine hK.out _ _ Hb2 fun _ => ?_
              clear hK K
              try simp only [List.getElem_toArray, List.getElem_cons_zero, List.getElem_cons_succ, Act.put, List.setIfInBounds_toArray, List.set_cons_zero, List.set_cons_succ]
              refine wpAnyH_ready (rs := [5, 16]) (by kernel_rfl) (by simp) (AllReadyH.cons rfl (fun K hK => ?_) (AllReadyH.cons rfl (fun K hK => ?_) AllReadyH.nil))
              · refine step_append_cells (by rfl) (.tmp 104) (.tmp 108) 24 (by rfl) we.heap.size 46 (.slice none 0 0) 1 24 (by kernel_rfl) (by kernel_rfl) rfl (by omega) (.slice (some ⟨w1_.heap.size, 0, none⟩) 0 0) (0) ([]) own2 (by rfl) (some ⟨b, off, none⟩) (r) (c) ((rowV hs9 ls).take r) (by rfl) (by rw [List.length_take, hrl]; omega) ((HC9.out.below Hb2).take_ r) (fun u hu => rowV_one _ _ u (List.mem_of_mem_take hu)) (by unfold maxLen; omega) (by omega) Zb2 ?_
                intro v3 w3_ own3 hg3 st3
                have Hb3 : Below we.heap.size we w3_ := below_grown Hb2 hg3 Hb2.size (fun k hk => own_base own2 k hk)
                have Zb3 : we.heap.size ≤ w3_.heap.size := Nat.le_trans Zb2 hg3.size
                obtain ⟨A3_, c3_, rfl, le3, lm3, -⟩ := own_form own3
                have fp3 := Blk.grown fp2 hg3 (fun e => np2 e.symm)
                have np3 := np_sits st3 np2 fp2.lt
                rw [Nat.zero_add] at own3 le3
                simp only [Nat.zero_add]
                rw [Nat.zero_add] at np3
                refine hK.out _ _ Hb3 fun _ => ?_
                clear hK K
                try simp only [List.getElem_toArray, List.getElem_cons_zero, List.getElem_cons_succ, Act.put, List.setIfInBounds_toArray, List.set_cons_zero, List.set_cons_succ]
                refine wpAnyH_ready (rs := [8, 16]) (by kernel_rfl) (by simp) (AllReadyH.cons rfl (fun K hK => ?_) (AllReadyH.cons rfl (fun K hK => ?_) AllReadyH.nil))
                · refine step_append_cells (by rfl) (.tmp 109) (.tmp 111) 24 (by rfl) we.heap.size 46 (.slice none 0 0) 1 24 (by kernel_rfl) (by kernel_rfl) rfl (by omega) (.slice A3_ (r) c3_) (r) ([] ++ (rowV hs9 ls).take r) own3 (by rfl) (_) (1) (_) ([Value.slice A6 n6 c6]) (by rfl) (by rfl) (cells_of_blk fp3 rfl) (fun u hu => by simp at hu; subst hu; rfl) (by unfold maxLen; omega) (by omega) Zb3 ?_
                  intro v4 w4_ own4 hg4 st4
                  have Hb4 : Below we.heap.size we w4_ := below_grown Hb3 hg4 Hb3.size (fun k hk => own_base own3 k hk)
                  have Zb4 : we.heap.size ≤ w4_.heap.size := Nat.le_trans Zb3 hg4.size
                  obtain ⟨A4_, c4_, rfl, le4, lm4, -⟩ := own_form own4
                  have fp4 := Blk.grown fp3 hg4 (fun e => np3 e.symm)
                  have np4 := np_sits st4 np3 fp3.lt
                  refine hK.out _ _ Hb4 fun _ => ?_
                  clear hK K
                  try simp only [List.getElem_toArray, List.getElem_cons_zero, List.getElem_cons_succ, Act.put, List.setIfInBounds_toArray, List.set_cons_zero, List.set_cons_succ]
                  refine wpAnyH_ready (rs := [14, 16]) (by kernel_rfl) (by simp) (AllReadyH.cons rfl (fun K hK => ?_) (AllReadyH.cons rfl (fun K hK => ?_) AllReadyH.nil))
                  · refine step_append_cells (by rfl) (.tmp 112) (.tmp 117) 24 (by rfl) we.heap.size 46 (.slice none 0 0) 1 24 (by kernel_rfl) (by kernel_rfl) rfl (by omega) (.slice A4_ (r + 1) c4_) (r + 1) ([] ++ (rowV hs9 ls).take r ++ [Value.slice A6 n6 c6]) own4 (by rfl) (_) ((n - (r + 1))) (_) ((rowV hs9 ls).drop (r + 1)) (by rfl) (by rw [List.length_drop, hrl]; omega) ((HC11.out.below Hb4)) (fun u hu => rowV_one _ _ u (List.mem_of_mem_drop hu)) (by unfold maxLen; omega) (by omega) Zb4 ?_
                    intro v5 w5_ own5 hg5 st5
                    have Hb5 : Below we.heap.size we w5_ := below_grown Hb4 hg5 Hb4.size (fun k hk => own_base own4 k hk)
                    have Zb5 : we.heap.size ≤ w5_.heap.size := Nat.le_trans Zb4 hg5.size
                    obtain ⟨A5_, c5_, rfl, le5, lm5, -⟩ := own_form own5
                    have fp5 := Blk.grown fp4 hg5 (fun e => np4 e.symm)
                    have np5 := np_sits st5 np4 fp4.lt
                    refine hK.out _ _ Hb5 fun _ => ?_
                    clear hK K
                    try simp only [List.getElem_toArray, List.getElem_cons_zero, List.getElem_cons_succ, Act.put, List.setIfInBounds_toArray, List.set_cons_zero, List.set_cons_succ]
                    refine wpAnyH_take (i := 15) (v := ?_) rfl (by kernel_rfl) (by kernel_rfl) (by kernel_rfl) (fun _ _ _ h => h) (Or.inl ⟨by rfl, ?_⟩) Hb5 ?_
                    rotate_left
                    · intro wS hSw
                      go_simp
                      try with_reducible rfl
                    try simp only [List.getElem_toArray, List.getElem_cons_zero, List.getElem_cons_succ, Act.put, List.setIfInBounds_toArray, List.set_cons_zero, List.set_cons_succ]
                    refine wpAnyH_ready (rs := [16]) (by kernel_rfl) (by simp) (AllReadyH.cons rfl (fun K hK => ?_) AllReadyH.nil)
                    go_simp
                    generalize hge : World.alloc _ _ = w6_
                    have fZ6 : Blk w6_ w5_.heap.size 26 #[.slice none 0 0] := by subst hge; exact Blk.new _ _ _
                    have hb6 : Below w5_.heap.size w5_ w6_ := by subst hge; exact (Below.refl _ _).alloc (Nat.le_refl _) _
                    clear hge
                    have Hb6 : Below we.heap.size we w6_ := below_of Hb5 hb6 Hb5.size
                    have Zb6 : we.heap.size ≤ w6_.heap.size := Nat.le_trans Zb5 hb6.size
                    have fp6 := fp5.below hb6
                    have own6 := own_below own5 hb6
                    have loZ6 : we.heap.size ≤ w5_.heap.size := Zb5
                    refine hK.out _ _ Hb6 fun _ => ?_
                    clear hK K
                    try simp only [List.getElem_toArray, List.getElem_cons_zero, List.getElem_cons_succ, Act.put, List.setIfInBounds_toArray, List.set_cons_zero, List.set_cons_succ]
                    refine wpAnyH_ready (rs := [17]) (by kernel_rfl) (by simp) (AllReadyH.cons rfl (fun K hK => ?_) AllReadyH.nil)
                    refine step_put_blkR (by rfl) _ _ _ (by rfl) (w5_.heap.size) (#[.slice A5_ (r + 1 + (n - (r + 1))) c5_]) (by rfl) (by rfl) _ _ fZ6 (by kernel_rfl) (by rfl) (by simp [Value.oneCell']) ?_
                    intro w7_ fZ7 hg7 hz7
                    have Hb7 : Below we.heap.size we w7_ := below_grown Hb6 hg7 Hb6.size (fun k hk => by cases hk; exact loZ6)
                    have Zb7 : we.heap.size ≤ w7_.heap.size := Nat.le_trans Zb6 hg7.size
                    have own7 := own6.kept hg7 (.inr (Ne.symm (Boxed.not_row (B := w5_.heap.size) fZ6 (by decide) own6)))
                    refine hK.out _ _ Hb7 fun _ => ?_
                    clear hK K
                    try simp only [List.getElem_toArray, List.getElem_cons_zero, List.getElem_cons_succ, Act.put, List.setIfInBounds_toArray, List.set_cons_zero, List.set_cons_succ]
                    refine wpAnyH_done (by kernel_rfl) ?_ _
                    have hown9 := own7
                    have hZ9 := fZ7
                    go_wp2_with (fail)
                    go_meet
                    exact ⟨_, _, _, _, rfl, by omega, hZ9, hown9, Hb7⟩
                  · go_simp
                    generalize hge : World.alloc _ _ = w5_
                    have fZ5 : Blk w5_ w4_.heap.size 26 #[.slice none 0 0] := by subst hge; exact Blk.new _ _ _
                    have hb5 : Below w4_.heap.size w4_ w5_ := by subst hge; exact (Below.refl _ _).alloc (Nat.le_refl _) _
                    clear hge
                    have Hb5 : Below we.heap.size we w5_ := below_of Hb4 hb5 Hb4.size
                    have Zb5 : we.heap.size ≤ w5_.heap.size := Nat.le_trans Zb4 hb5.size
                    have fp5 := fp4.below hb5
                    have own5 := own_below own4 hb5
                    have loZ5 : we.heap.size ≤ w4_.heap.size := Zb4
                    refine hK.out _ _ Hb5 fun _ => ?_
                    clear hK K
                    try simp only [List.getElem_toArray, List.getElem_cons_zero, List.getElem_cons_succ, Act.put, List.setIfInBounds_toArray, List.set_cons_zero, List.set_cons_succ]
                    refine wpAnyH_ready (rs := [14]) (by kernel_rfl) (by simp) (AllReadyH.cons rfl (fun K hK => ?_) AllReadyH.nil)
                    refine step_append_cells (by rfl) (.tmp 112) (.tmp 117) 24 (by rfl) we.heap.size 46 (.slice none 0 0) 1 24 (by kernel_rfl) (by kernel_rfl) rfl (by omega) (.slice A4_ (r + 1) c4_) (r + 1) ([] ++ (rowV hs9 ls).take r ++ [Value.slice A6 n6 c6]) own5 (by rfl) (_) ((n - (r + 1))) (_) ((rowV hs9 ls).drop (r + 1)) (by rfl) (by rw [List.length_drop, hrl]; omega) ((HC11.out.below Hb5)) (fun u hu => rowV_one _ _ u (List.mem_of_mem_drop hu)) (by unfold maxLen; omega) (by omega) Zb5 ?_
                    intro v6 w6_ own6 hg6 st6
                    have Hb6 : Below we.heap.size we w6_ := below_grown Hb5 hg6 Hb5.size (fun k hk => own_base own5 k hk)
                    have Zb6 : we.heap.size ≤ w6_.heap.size := Nat.le_trans Zb5 hg6.size
                    obtain ⟨A6_, c6_, rfl, le6, lm6, -⟩ := own_form own6
                    have fp6 := Blk.grown fp5 hg6 (fun e => np4 e.symm)
                    have np6 := np_sits st6 np4 fp5.lt
                    have fZ6 := Blk.grown fZ5 hg6 (Boxed.not_row (B := w4_.heap.size) fZ5 (by decide) own5)
                    refine hK.out _ _ Hb6 fun _ => ?_
                    clear hK K
                    try simp only [List.getElem_toArray, List.getElem_cons_zero, List.getElem_cons_succ, Act.put, List.setIfInBounds_toArray, List.set_cons_zero, List.set_cons_succ]
                    refine wpAnyH_take (i := 15) (v := ?_) rfl (by kernel_rfl) (by kernel_rfl) (by kernel_rfl) (fun _ _ _ h => h) (Or.inl ⟨by rfl, ?_⟩) Hb6 ?_
                    rotate_left
                    · intro wS hSw
                      go_simp
                      try with_reducible rfl
                    try simp only [List.getElem_toArray, List.getElem_cons_zero, List.getElem_cons_succ, Act.put, List.setIfInBounds_toArray, List.set_cons_zero, List.set_cons_succ]
                    refine wpAnyH_ready (rs := [17]) (by kernel_rfl) (by simp) (AllReadyH.cons rfl (fun K hK => ?_) AllReadyH.nil)
                    refine step_put_blkR (by rfl) _ _ _ (by rfl) (w4_.heap.size) (#[.slice A6_ (r + 1 + (n - (r + 1))) c6_]) (by rfl) (by rfl) _ _ fZ6 (by kernel_rfl) (by rfl) (by simp [Value.oneCell']) ?_
                    intro w7_ fZ7 hg7 hz7
                    have Hb7 : Below we.heap.size we w7_ := below_grown Hb6 hg7 Hb6.size (fun k hk => by cases hk; exact loZ5)
                    have Zb7 : we.heap.size ≤ w7_.heap.size := Nat.le_trans Zb6 hg7.size
                    have own7 := own6.kept hg7 (.inr (Ne.symm (Boxed.not_row (B := w4_.heap.size) fZ6 (by decide) own6)))
                    refine hK.out _ _ Hb7 fun _ => ?_
                    clear hK K
                    try simp only [List.getElem_toArray, List.getElem_cons_zero, List.getElem_cons_succ, Act.put, List.setIfInBounds_toArray, List.set_cons_zero, List.set_cons_succ]
                    refine wpAnyH_done (by kernel_rfl) ?_ _
                    have hown9 := own7
                    have hZ9 := fZ7
                    go_wp2_with (fail)
                    go_meet
                    exact ⟨_, _, _, _, rfl, by omega, hZ9, hown9, Hb7⟩
                · go_simp
                  generalize hge : World.alloc _ _ = w4_
                  have fZ4 : Blk w4_ w3_.heap.size 26 #[.slice none 0 0] := by subst hge; exact Blk.new _ _ _
                  have hb4 : Below w3_.heap.size w3_ w4_ := by subst hge; exact (Below.refl _ _).alloc (Nat.le_refl _) _
                  clear hge
                  have Hb4 : Below we.heap.size we w4_ := below_of Hb3 hb4 Hb3.size
                  have Zb4 : we.heap.size ≤ w4_.heap.size := Nat.le_trans Zb3 hb4.size
                  have fp4 := fp3.below hb4
                  have own4 := own_below own3 hb4
                  have loZ4 : we.heap.size ≤ w3_.heap.size := Zb3
                  refine hK.out _ _ Hb4 fun _ => ?_
                  clear hK K
                  try simp only [List.getElem_toArray, List.getElem_cons_zero, List.getElem_cons_succ, Act.put, List.setIfInBounds_toArray, List.set_cons_zero, List.set_cons_succ]
                  refine wpAnyH_ready (rs := [8]) (by kernel_rfl) (by simp) (AllReadyH.cons rfl (fun K hK => ?_) AllReadyH.nil)
                  refine step_append_cells (by rfl) (.tmp 109) (.tmp 111) 24 (by rfl) we.heap.size 46 (.slice none 0 0) 1 24 (by kernel_rfl) (by kernel_rfl) rfl (by omega) (.slice A3_ (r) c3_) (r) ([] ++ (rowV hs9 ls).take r) own4 (by rfl) (_) (1) (_) ([Value.slice A6 n6 c6]) (by rfl) (by rfl) (cells_of_blk fp4 rfl) (fun u hu => by simp at hu; subst hu; rfl) (by unfold maxLen; omega) (by omega) Zb4 ?_
                  intro v5 w5_ own5 hg5 st5
                  have Hb5 : Below we.heap.size we w5_ := below_grown Hb4 hg5 Hb4.size (fun k hk => own_base own4 k hk)
                  have Zb5 : we.heap.size ≤ w5_.heap.size := Nat.le_trans Zb4 hg5.size
                  obtain ⟨A5_, c5_, rfl, le5, lm5, -⟩ := own_form own5
                  have fp5 := Blk.grown fp4 hg5 (fun e => np3 e.symm)
                  have np5 := np_sits st5 np3 fp4.lt
                  have fZ5 := Blk.grown fZ4 hg5 (Boxed.not_row (B := w3_.heap.size) fZ4 (by decide) own4)
                  refine hK.out _ _ Hb5 fun _ => ?_
                  clear hK K
                  try simp only [List.getElem_toArray, List.getElem_cons_zero, List.getElem_cons_succ, Act.put, List.setIfInBounds_toArray, List.set_cons_zero, List.set_cons_succ]
                  refine wpAnyH_ready (rs := [14]) (by kernel_rfl) (by simp) (AllReadyH.cons rfl (fun K hK => ?_) AllReadyH.nil)
                  refine step_append_cells (by rfl) (.tmp 112) (.tmp 117) 24 (by rfl) we.heap.size 46 (.slice none 0 0) 1 24 (by kernel_rfl) (by kernel_rfl) rfl (by omega) (.slice A5_ (r + 1) c5_) (r + 1) ([] ++ (rowV hs9 ls).take r ++ [Value.slice A6 n6 c6]) own5 (by rfl) (_) ((n - (r + 1))) (_) ((rowV hs9 ls).drop (r + 1)) (by rfl) (by rw [List.length_drop, hrl]; omega) ((HC11.out.below Hb5)) (fun u hu => rowV_one _ _ u (List.mem_of_mem_drop hu)) (by unfold maxLen; omega) (by omega) Zb5 ?_
                  intro v6 w6_ own6 hg6 st6
                  have Hb6 : Below we.heap.size we w6_ := below_grown Hb5 hg6 Hb5.size (fun k hk => own_base own5 k hk)
                  have Zb6 : we.heap.size ≤ w6_.heap.size := Nat.le_trans Zb5 hg6.size
                  obtain ⟨A6_, c6_, rfl, le6, lm6, -⟩ := own_form own6
                  have fp6 := Blk.grown fp5 hg6 (fun e => np5 e.symm)
                  have np6 := np_sits st6 np5 fp5.lt
                  have fZ6 := Blk.grown fZ5 hg6 (Boxed.not_row (B := w3_.heap.size) fZ5 (by decide) own5)
                  refine hK.out _ _ Hb6 fun _ => ?_
                  clear hK K
                  try simp only [List.getElem_toArray, List.getElem_cons_zero, List.getElem_cons_succ, Act.put, List.setIfInBounds_toArray, List.set_cons_zero, List.set_cons_succ]
                  refine wpAnyH_take (i := 15) (v := ?_) rfl (by kernel_rfl) (by kernel_rfl) (by kernel_rfl) (fun _ _ _ h => h) (Or.inl ⟨by rfl, ?_⟩) Hb6 ?_
                  rotate_left
                  · intro wS hSw
                    go_simp
                    try with_reducible rfl
                  try simp only [List.getElem_toArray, List.getElem_cons_zero, List.getElem_cons_succ, Act.put, List.setIfInBounds_toArray, List.set_cons_zero, List.set_cons_succ]
                  refine wpAnyH_ready (rs := [17]) (by kernel_rfl) (by simp) (AllReadyH.cons rfl (fun K hK => ?_) AllReadyH.nil)
                  refine step_put_blkR (by rfl) _ _ _ (by rfl) (w3_.heap.size) (#[.slice A6_ (r + 1 + (n - (r + 1))) c6_]) (by rfl) (by rfl) _ _ fZ6 (by kernel_rfl) (by rfl) (by simp [Value.oneCell']) ?_
                  intro w7_ fZ7 hg7 hz7
                  have Hb7 : Below we.heap.size we w7_ := below_grown Hb6 hg7 Hb6.size (fun k hk => by cases hk; exact loZ4)
                  have Zb7 : we.heap.size ≤ w7_.heap.size := Nat.le_trans Zb6 hg7.size
                  have own7 := own6.kept hg7 (.inr (Ne.symm (Boxed.not_row (B := w3_.heap.size) fZ6 (by decide) own6)))
                  refine hK.out _ _ Hb7 fun _ => ?_
                  clear hK K
                  try simp only [List.getElem_toArray, List.getElem_cons_zero, List.getElem_cons_succ, Act.put, List.setIfInBounds_toArray, List.set_cons_zero, List.set_cons_succ]
                  refine wpAnyH_done (by kernel_rfl) ?_ _
                  have hown9 := own7
                  have hZ9 := fZ7
                  go_wp2_with (fail)
                  go_meet
                  exact ⟨_, _, _, _, rfl, by omega, hZ9, hown9, Hb7⟩
              · go_simp
                generalize hge : World.alloc _ _ = w3_
                have fZ3 : Blk w3_ w2_.heap.size 26 #[.slice none 0 0] := by subst hge; exact Blk.new _ _ _
                have hb3 : Below w2_.heap.size w2_ w3_ := by subst hge; exact (Below.refl _ _).alloc (Nat.le_refl _) _
                clear hge
                have Hb3 : Below we.heap.size we w3_ := below_of Hb2 hb3 Hb2.size
                have Zb3 : we.heap.size ≤ w3_.heap.size := Nat.le_trans Zb2 hb3.size
                have fp3 := fp2.below hb3
                have own3 := own_below own2 hb3
                have loZ3 : we.heap.size ≤ w2_.heap.size := Zb2
                refine hK.out _ _ Hb3 fun _ => ?_
                clear hK K
                try simp only [List.getElem_toArray, List.getElem_cons_zero, List.getElem_cons_succ, Act.put, List.setIfInBounds_toArray, List.set_cons_zero, List.set_cons_succ]
                refine wpAnyH_ready (rs := [5]) (by kernel_rfl) (by simp) (AllReadyH.cons rfl (fun K hK => ?_) AllReadyH.nil)
                refine step_append_cells (by rfl) (.tmp 104) (.tmp 108) 24 (by rfl) we.heap.size 46 (.slice none 0 0) 1 24 (by kernel_rfl) (by kernel_rfl) rfl (by omega) (.slice (some ⟨w1_.heap.size, 0, none⟩) 0 0) (0) ([]) own3 (by rfl) (some ⟨b, off, none⟩) (r) (c) ((rowV hs9 ls).take r) (by rfl) (by rw [List.length_take, hrl]; omega) ((HC9.out.below Hb3).take_ r) (fun u hu => rowV_one _ _ u (List.mem_of_mem_take hu)) (by unfold maxLen; omega) (by omega) Zb3 ?_
                intro v4 w4_ own4 hg4 st4
                have Hb4 : Below we.heap.size we w4_ := below_grown Hb3 hg4 Hb3.size (fun k hk => own_base own3 k hk)
                have Zb4 : we.heap.size ≤ w4_.heap.size := Nat.le_trans Zb3 hg4.size
                obtain ⟨A4_, c4_, rfl, le4, lm4, -⟩ := own_form own4
                have fp4 := Blk.grown fp3 hg4 (fun e => np2 e.symm)
                have np4 := np_sits st4 np2 fp3.lt
                have fZ4 := Blk.grown fZ3 hg4 (Boxed.not_row (B := w2_.heap.size) fZ3 (by decide) own3)
                rw [Nat.zero_add] at own4 le4
                simp only [Nat.zero_add]
                rw [Nat.zero_add] at np4
                refine hK.out _ _ Hb4 fun _ => ?_
                clear hK K
                try simp only [List.getElem_toArray, List.getElem_cons_zero, List.getElem_cons_succ, Act.put, List.setIfInBounds_toArray, List.set_cons_zero, List.set_cons_succ]
                refine wpAnyH_ready (rs := [8]) (by kernel_rfl) (by simp) (AllReadyH.cons rfl (fun K hK => ?_) AllReadyH.nil)
                refine step_append_cells (by rfl) (.tmp 109) (.tmp 111) 24 (by rfl) we.heap.size 46 (.slice none 0 0) 1 24 (by kernel_rfl) (by kernel_rfl) rfl (by omega) (.slice A4_ (r) c4_) (r) ([] ++ (rowV hs9 ls).take r) own4 (by rfl) (_) (1) (_) ([Value.slice A6 n6 c6]) (by rfl) (by rfl) (cells_of_blk fp4 rfl) (fun u hu => by simp at hu; subst hu; rfl) (by unfold maxLen; omega) (by omega) Zb4 ?_
                intro v5 w5_ own5 hg5 st5
                have Hb5 : Below we.heap.size we w5_ := below_grown Hb4 hg5 Hb4.size (fun k hk => own_base own4 k hk)
                have Zb5 : we.heap.size ≤ w5_.heap.size := Nat.le_trans Zb4 hg5.size
                obtain ⟨A5_, c5_, rfl, le5, lm5, -⟩ := own_form own5
                have fp5 := Blk.grown fp4 hg5 (fun e => np4 e.symm)
                have np5 := np_sits st5 np4 fp4.lt
                have fZ5 := Blk.grown fZ4 hg5 (Boxed.not_row (B := w2_.heap.size) fZ4 (by decide) own4)
                refine hK.out _ _ Hb5 fun _ => ?_
                clear hK K
                try simp only [List.getElem_toArray, List.getElem_cons_zero, List.getElem_cons_succ, Act.put, List.setIfInBounds_toArray, List.set_cons_zero, List.set_cons_succ]
                refine wpAnyH_ready (rs := [14]) (by kernel_rfl) (by simp) (AllReadyH.cons rfl (fun K hK => ?_) AllReadyH.nil)
                refine step_append_cells (by rfl) (.tmp 112) (.tmp 117) 24 (by rfl) we.heap.size 46 (.slice none 0 0) 1 24 (by kernel_rfl) (by kernel_rfl) rfl (by omega) (.slice A5_ (r + 1) c5_) (r + 1) ([] ++ (rowV hs9 ls).take r ++ [Value.slice A6 n6 c6]) own5 (by rfl) (_) ((n - (r + 1))) (_) ((rowV hs9 ls).drop (r + 1)) (by rfl) (by rw [List.length_drop, hrl]; omega) ((HC11.out.below Hb5)) (fun u hu => rowV_one _ _ u (List.mem_of_mem_drop hu)) (by unfold maxLen; omega) (by omega) Zb5 ?_
                intro v6 w6_ own6 hg6 st6
                have Hb6 : Below we.heap.size we w6_ := below_grown Hb5 hg6 Hb5.size (fun k hk => own_base own5 k hk)
                have Zb6 : we.heap.size ≤ w6_.heap.size := Nat.le_trans Zb5 hg6.size
                obtain ⟨A6_, c6_, rfl, le6, lm6, -⟩ := own_form own6
                have fp6 := Blk.grown fp5 hg6 (fun e => np5 e.symm)
                have np6 := np_sits st6 np5 fp5.lt
                have fZ6 := Blk.grown fZ5 hg6 (Boxed.not_row (B := w2_.heap.size) fZ5 (by decide) own5)
                refine hK.out _ _ Hb6 fun _ => ?_
                clear hK K
                try simp only [List.getElem_toArray, List.getElem_cons_zero, List.getElem_cons_succ, Act.put, List.setIfInBounds_toArray, List.set_cons_zero, List.set_cons_succ]
                refine wpAnyH_take (i := 15) (v := ?_) rfl (by kernel_rfl) (by kernel_rfl) (by kernel_rfl) (fun _ _ _ h => h) (Or.inl ⟨by rfl, ?_⟩) Hb6 ?_
                rotate_left
                · intro wS hSw
                  go_simp
                  try with_reducible rfl
                try simp only [List.getElem_toArray, List.getElem_cons_zero, List.getElem_cons_succ, Act.put, List.setIfInBounds_toArray, List.set_cons_zero, List.set_cons_succ]
                refine wpAnyH_ready (rs := [17]) (by kernel_rfl) (by simp) (AllReadyH.cons rfl (fun K hK => ?_) AllReadyH.nil)
                refine step_put_blkR (by rfl) _ _ _ (by rfl) (w2_.heap.size) (#[.slice A6_ (r + 1 + (n - (r + 1))) c6_]) (by rfl) (by rfl) _ _ fZ6 (by kernel_rfl) (by rfl) (by simp [Value.oneCell']) ?_
                intro w7_ fZ7 hg7 hz7
                have Hb7 : Below we.heap.size we w7_ := below_grown Hb6 hg7 Hb6.size (fun k hk => by cases hk; exact loZ3)
                have Zb7 : we.heap.size ≤ w7_.heap.size := Nat.le_trans Zb6 hg7.size
                have own7 := own6.kept hg7 (.inr (Ne.symm (Boxed.not_row (B := w2_.heap.size) fZ6 (by decide) own6)))
                refine hK.out _ _ Hb7 fun _ => ?_
                clear hK K
                try simp only [List.getElem_toArray, List.getElem_cons_zero, List.getElem_cons_succ, Act.put, List.setIfInBounds_toArray, List.set_cons_zero, List.set_cons_succ]
                refine wpAnyH_done (by kernel_rfl) ?_ _
                have hown9 := own7
                have hZ9 := fZ7
                go_wp2_with (fail)
                go_meet
                exact ⟨_, _, _, _, rfl, by omega, hZ9, hown9, Hb7⟩
            · go_simp
              generalize hge : World.alloc _ _ = w2_
              have fZ2 : Blk w2_ w1_.heap.size 26 #[.slice none 0 0] := by subst hge; exact Blk.new _ _ _
              have hb2 : Below w1_.heap.size w1_ w2_ := by subst hge; exact (Below.refl _ _).alloc (Nat.le_refl _) _
              clear hge
              have Hb2 : Below we.heap.size we w2_ := below_of Hb1 hb2 Hb1.size
              have Zb2 : we.heap.size ≤ w2_.heap.size := Nat.le_trans Zb1 hb2.size
              have fp2 := fp1.below hb2
              have loZ2 : we.heap.size ≤ w1_.heap.size := Zb1
              refine hK.out _ _ Hb2 fun _ => ?_
              clear hK K
              try simp only [List.getElem_toArray, List.getElem_cons_zero, List.getElem_cons_succ, Act.put, List.setIfInBounds_toArray, List.set_cons_zero, List.set_cons_succ]
              refine wpAnyH_ready (rs := [0]) (by kernel_rfl) (by simp) (AllReadyH.cons rfl (fun K hK => ?_) AllReadyH.nil)
              go_simp
              generalize hge : World.alloc _ _ = w3_
              have own3 : w3_.ownsRow we.heap.size 46 1 (.slice (some ⟨w2_.heap.size, 0, none⟩) 0 0) 0 [] := by subst hge; exact World.ownsRow_lit (size := 1) w2_ #[] 0 Zb2 (Nat.zero_le _) rfl
              have hb3 : Below w2_.heap.size w2_ w3_ := by subst hge; exact (Below.refl _ _).alloc (Nat.le_refl _) _
              clear hge
              have Hb3 : Below we.heap.size we w3_ := below_of Hb2 hb3 Hb2.size
              have Zb3 : we.heap.size ≤ w3_.heap.size := Nat.le_trans Zb2 hb3.size
              have fp3 := fp2.below hb3
              have fZ3 := fZ2.below hb3
              have np3 : (Value.slice (some ⟨w2_.heap.size, 0, none⟩) 0 0).ownBlock ≠ some (wd.heap.size) := np_lit fp2.lt
              refine hK.out _ _ Hb3 fun _ => ?_
              clear hK K
              try simp only [List.getElem_toArray, List.getElem_cons_zero, List.getElem_cons_succ, Act.put, List.setIfInBounds_toArray, List.set_cons_zero, List.set_cons_succ]
              refine wpAnyH_ready (rs := [5]) (by kernel_rfl) (by simp) (AllReadyH.cons rfl (fun K hK => ?_) AllReadyH.nil)
              refine step_append_cells (by rfl) (.tmp 104) (.tmp 108) 24 (by rfl) we.heap.size 46 (.slice none 0 0) 1 24 (by kernel_rfl) (by kernel_rfl) rfl (by omega) (.slice (some ⟨w2_.heap.size, 0, none⟩) 0 0) (0) ([]) own3 (by rfl) (some ⟨b, off, none⟩) (r) (c) ((rowV hs9 ls).take r) (by rfl) (by rw [List.length_take, hrl]; omega) ((HC9.out.below Hb3).take_ r) (fun u hu => rowV_one _ _ u (List.mem_of_mem_take hu)) (by unfold maxLen; omega) (by omega) Zb3 ?_
              intro v4 w4_ own4 hg4 st4
              have Hb4 : Below we.heap.size we w4_ := below_grown Hb3 hg4 Hb3.size (fun k hk => own_base own3 k hk)
              have Zb4 : we.heap.size ≤ w4_.heap.size := Nat.le_trans Zb3 hg4.size
              obtain ⟨A4_, c4_, rfl, le4, lm4, -⟩ := own_form own4
              have fp4 := Blk.grown fp3 hg4 (fun e => np3 e.symm)
              have np4 := np_sits st4 np3 fp3.lt
              have fZ4 := Blk.grown fZ3 hg4 (Boxed.not_row (B := w1_.heap.size) fZ3 (by decide) own3)
              rw [Nat.zero_add] at own4 le4
              simp only [Nat.zero_add]
              rw [Nat.zero_add] at np4
              refine hK.out _ _ Hb4 fun _ => ?_
              clear hK K
              try simp only [List.getElem_toArray, List.getElem_cons_zero, List.getElem_cons_succ, Act.put, List.setIfInBounds_toArray, List.set_cons_zero, List.set_cons_succ]
              refine wpAnyH_ready (rs := [8]) (by kernel_rfl) (by simp) (AllReadyH.cons rfl (fun K hK => ?_) AllReadyH.nil)
              refine step_append_cells (by rfl) (.tmp 109) (.tmp 111) 24 (by rfl) we.heap.size 46 (.slice none 0 0) 1 24 (by kernel_rfl) (by kernel_rfl) rfl (by omega) (.slice A4_ (r) c4_) (r) ([] ++ (rowV hs9 ls).take r) own4 (by rfl) (_) (1) (_) ([Value.slice A6 n6 c6]) (by rfl) (by rfl) (cells_of_blk fp4 rfl) (fun u hu => by simp at hu; subst hu; rfl) (by unfold maxLen; omega) (by omega) Zb4 ?_
              intro v5 w5_ own5 hg5 st5
              have Hb5 : Below we.heap.size we w5_ := below_grown Hb4 hg5 Hb4.size (fun k hk => own_base own4 k hk)
              have Zb5 : we.heap.size ≤ w5_.heap.size := Nat.le_trans Zb4 hg5.size
              obtain ⟨A5_, c5_, rfl, le5, lm5, -⟩ := own_form own5
              have fp5 := Blk.grown fp4 hg5 (fun e => np4 e.symm)
              have np5 := np_sits st5 np4 fp4.lt
              have fZ5 := Blk.grown fZ4 hg5 (Boxed.not_row (B := w1_.heap.size) fZ4 (by decide) own4)
              refine hK.out _ _ Hb5 fun _ => ?_
              clear hK K
              try simp only [List.getElem_toArray, List.getElem_cons_zero, List.getElem_cons_succ, Act.put, List.setIfInBounds_toArray, List.set_cons_zero, List.set_cons_succ]
              refine wpAnyH_ready (rs := [14]) (by kernel_rfl) (by simp) (AllReadyH.cons rfl (fun K hK => ?_) AllReadyH.nil)
              refine step_append_cells (by rfl) (.tmp 112) (.tmp 117) 24 (by rfl) we.heap.size 46 (.slice none 0 0) 1 24 (by kernel_rfl) (by kernel_rfl) rfl (by omega) (.slice A5_ (r + 1) c5_) (r + 1) ([] ++ (rowV hs9 ls).take r ++ [Value.slice A6 n6 c6]) own5 (by rfl) (_) ((n - (r + 1))) (_) ((rowV hs9 ls).drop (r + 1)) (by rfl) (by rw [List.length_drop, hrl]; omega) ((HC11.out.below Hb5)) (fun u hu => rowV_one _ _ u (List.mem_of_mem_drop hu)) (by unfold maxLen; omega) (by omega) Zb5 ?_
              intro v6 w6_ own6 hg6 st6
              have Hb6 : Below we.heap.size we w6_ := below_grown Hb5 hg6 Hb5.size (fun k hk => own_base own5 k hk)
              have Zb6 : we.heap.size ≤ w6_.heap.size := Nat.le_trans Zb5 hg6.size
              obtain ⟨A6_, c6_, rfl, le6, lm6, -⟩ := own_form own6
              have fp6 := Blk.grown fp5 hg6 (fun e => np5 e.symm)
              have np6 := np_sits st6 np5 fp5.lt
              have fZ6 := Blk.grown fZ5 hg6 (Boxed.not_row (B := w1_.heap.size) fZ5 (by decide) own5)
              refine hK.out _ _ Hb6 fun _ => ?_
              clear hK K
              try simp only [List.getElem_toArray, List.getElem_cons_zero, List.getElem_cons_succ, Act.put, List.setIfInBounds_toArray, List.set_cons_zero, List.set_cons_succ]
              refine wpAnyH_take (i := 15) (v := ?_) rfl (by kernel_rfl) (by kernel_rfl) (by kernel_rfl) (fun _ _ _ h => h) (Or.inl ⟨by rfl, ?_⟩) Hb6 ?_
              rotate_left
              · intro wS hSw
                go_simp
                try with_reducible rfl
              try simp only [List.getElem_toArray, List.getElem_cons_zero, List.getElem_cons_succ, Act.put, List.setIfInBounds_toArray, List.set_cons_zero, List.set_cons_succ]
              refine wpAnyH_ready (rs := [17]) (by kernel_rfl) (by simp) (AllReadyH.cons rfl (fun K hK => ?_) AllReadyH.nil)
              refine step_put_blkR (by rfl) _ _ _ (by rfl) (w1_.heap.size) (#[.slice A6_ (r + 1 + (n - (r + 1))) c6_]) (by rfl) (by rfl) _ _ fZ6 (by kernel_rfl) (by rfl) (by simp [Value.oneCell']) ?_
              intro w7_ fZ7 hg7 hz7
              have Hb7 : Below we.heap.size we w7_ := below_grown Hb6 hg7 Hb6.size (fun k hk => by cases hk; exact loZ2)
              have Zb7 : we.heap.size ≤ w7_.heap.size := Nat.le_trans Zb6 hg7.size
              have own7 := own6.kept hg7 (.inr (Ne.symm (Boxed.not_row (B := w1_.heap.size) fZ6 (by decide) own6)))
              refine hK.out _ _ Hb7 fun _ => ?_
              clear hK K
              try simp only [List.getElem_toArray, List.getElem_cons_zero, List.getElem_cons_succ, Act.put, List.setIfInBounds_toArray, List.set_cons_zero, List.set_cons_succ]
              refine wpAnyH_done (by kernel_rfl) ?_ _
              have hown9 := own7
              have hZ9 := fZ7
              go_wp2_with (fail)
              go_meet
              exact ⟨_, _, _, _, rfl, by omega, hZ9, hown9, Hb7⟩
          · go_simp
            generalize hge : World.alloc _ _ = w1_
            have fZ1 : Blk w1_ wd.heap.size 26 #[.slice none 0 0] := by subst hge; exact Blk.new _ _ _
            have hb1 : Below wd.heap.size wd w1_ := by subst hge; exact (Below.refl _ _).alloc (Nat.le_refl _) _
            clear hge
            have Hb1 : Below we.heap.size we w1_ := below_of Hd hb1 Hd.size
            have Zb1 : we.heap.size ≤ w1_.heap.size := Nat.le_trans Zd hb1.size
            have loZ1 : we.heap.size ≤ wd.heap.size := Zd
            refine hK.out _ _ Hb1 fun _ => ?_
            clear hK K
            try simp only [List.getElem_toArray, List.getElem_cons_zero, List.getElem_cons_succ, Act.put, List.setIfInBounds_toArray, List.set_cons_zero, List.set_cons_succ]
            refine wpAnyH_ready (rs := [0, 7]) (by kernel_rfl) (by simp) (AllReadyH.cons rfl (fun K hK => ?_) (AllReadyH.cons rfl (fun K hK => ?_) AllReadyH.nil))
            · go_simp
              generalize hge : World.alloc _ _ = w2_
              have own2 : w2_.ownsRow we.heap.size 46 1 (.slice (some ⟨w1_.heap.size, 0, none⟩) 0 0) 0 [] := by subst hge; exact World.ownsRow_lit (size := 1) w1_ #[] 0 Zb1 (Nat.zero_le _) rfl
              have hb2 : Below w1_.heap.size w1_ w2_ := by subst hge; exact (Below.refl _ _).alloc (Nat.le_refl _) _
              clear hge
              have Hb2 : Below we.heap.size we w2_ := below_of Hb1 hb2 Hb1.size
              have Zb2 : we.heap.size ≤ w2_.heap.size := Nat.le_trans Zb1 hb2.size
              have fZ2 := fZ1.below hb2
              refine hK.out _ _ Hb2 fun _ => ?_
              clear hK K
              try simp only [List.getElem_toArray, List.getElem_cons_zero, List.getElem_cons_succ, Act.put, List.setIfInBounds_toArray, List.set_cons_zero, List.set_cons_succ]
              refine wpAnyH_ready (rs := [5, 7]) (by kernel_rfl) (by simp) (AllReadyH.cons rfl (fun K hK => ?_) (AllReadyH.cons rfl (fun K hK => ?_) AllReadyH.nil))
              · refine step_append_cells (by rfl) (.tmp 104) (.tmp 108) 24 (by rfl) we.heap.size 46 (.slice none 0 0) 1 24 (by kernel_rfl) (by kernel_rfl) rfl (by omega) (.slice (some ⟨w1_.heap.size, 0, none⟩) 0 0) (0) ([]) own2 (by rfl) (some ⟨b, off, none⟩) (r) (c) ((rowV hs9 ls).take r) (by rfl) (by rw [List.length_take, hrl]; omega) ((HC9.out.below Hb2).take_ r) (fun u hu => rowV_one _ _ u (List.mem_of_mem_take hu)) (by unfold maxLen; omega) (by omega) Zb2 ?_
                intro v3 w3_ own3 hg3 st3
                have Hb3 : Below we.heap.size we w3_ := below_grown Hb2 hg3 Hb2.size (fun k hk => own_base own2 k hk)
                have Zb3 : we.heap.size ≤ w3_.heap.size := Nat.le_trans Zb2 hg3.size
                obtain ⟨A3_, c3_, rfl, le3, lm3, -⟩ := own_form own3
                have fZ3 := Blk.grown fZ2 hg3 (Boxed.not_row (B := wd.heap.size) fZ2 (by decide) own2)
                rw [Nat.zero_add] at own3 le3
                simp only [Nat.zero_add]
                refine hK.out _ _ Hb3 fun _ => ?_
                clear hK K
                try simp only [List.getElem_toArray, List.getElem_cons_zero, List.getElem_cons_succ, Act.put, List.setIfInBounds_toArray, List.set_cons_zero, List.set_cons_succ]
                refine wpAnyH_ready (rs := [7]) (by kernel_rfl) (by simp) (AllReadyH.cons rfl (fun K hK => ?_) AllReadyH.nil)
                go_simp
                generalize hge : World.alloc _ _ = w4_
                have fp4 : Blk w4_ w3_.heap.size 46 #[Value.slice A6 n6 c6] := by subst hge; exact Blk.new _ _ _
                have hb4 : Below w3_.heap.size w3_ w4_ := by subst hge; exact (Below.refl _ _).alloc (Nat.le_refl _) _
                clear hge
                have Hb4 : Below we.heap.size we w4_ := below_of Hb3 hb4 Hb3.size
                have Zb4 : we.heap.size ≤ w4_.heap.size := Nat.le_trans Zb3 hb4.size
                have fZ4 := fZ3.below hb4
                have own4 := own_below own3 hb4
                have lop4 : we.heap.size ≤ w3_.heap.size := Zb3
                have np4 : (.slice A3_ (r) c3_ : Value).ownBlock ≠ some w3_.heap.size := fun e => absurd (own3.lt _ e).2 (Nat.lt_irrefl _)
                refine hK.out _ _ Hb4 fun _ => ?_
                clear hK K
                try simp only [List.getElem_toArray, List.getElem_cons_zero, List.getElem_cons_succ, Act.put, List.setIfInBounds_toArray, List.set_cons_zero, List.set_cons_succ]
                refine wpAnyH_ready (rs := [8]) (by kernel_rfl) (by simp) (AllReadyH.cons rfl (fun K hK => ?_) AllReadyH.nil)
                refine step_append_cells (by rfl) (.tmp 109) (.tmp 111) 24 (by rfl) we.heap.size 46 (.slice none 0 0) 1 24 (by kernel_rfl) (by kernel_rfl) rfl (by omega) (.slice A3_ (r) c3_) (r) ([] ++ (rowV hs9 ls).take r) own4 (by rfl) (_) (1) (_) ([Value.slice A6 n6 c6]) (by rfl) (by rfl) (cells_of_blk fp4 rfl) (fun u hu => by simp at hu; subst hu; rfl) (by unfold maxLen; omega) (by omega) Zb4 ?_
                intro v5 w5_ own5 hg5 st5
                have Hb5 : Below we.heap.size we w5_ := below_grown Hb4 hg5 Hb4.size (fun k hk => own_base own4 k hk)
                have Zb5 : we.heap.size ≤ w5_.heap.size := Nat.le_trans Zb4 hg5.size
                obtain ⟨A5_, c5_, rfl, le5, lm5, -⟩ := own_form own5
                have fZ5 := Blk.grown fZ4 hg5 (Boxed.not_row (B := wd.heap.size) fZ4 (by decide) own4)
                have fp5 := Blk.grown fp4 hg5 (fun e => np4 e.symm)
                have np5 := np_sits st5 np4 fp4.lt
                refine hK.out _ _ Hb5 fun _ => ?_
                clear hK K
                try simp only [List.getElem_toArray, List.getElem_cons_zero, List.getElem_cons_succ, Act.put, List.setIfInBounds_toArray, List.set_cons_zero, List.set_cons_succ]
                refine wpAnyH_ready (rs := [14]) (by kernel_rfl) (by simp) (AllReadyH.cons rfl (fun K hK => ?_) AllReadyH.nil)
                refine step_append_cells (by rfl) (.tmp 112) (.tmp 117) 24 (by rfl) we.heap.size 46 (.slice none 0 0) 1 24 (by kernel_rfl) (by kernel_rfl) rfl (by omega) (.slice A5_ (r + 1) c5_) (r + 1) ([] ++ (rowV hs9 ls).take r ++ [Value.slice A6 n6 c6]) own5 (by rfl) (_) ((n - (r + 1))) (_) ((rowV hs9 ls).drop (r + 1)) (by rfl) (by rw [List.length_drop, hrl]; omega) ((HC11.out.below Hb5)) (fun u hu => rowV_one _ _ u (List.mem_of_mem_drop hu)) (by unfold maxLen; omega) (by omega) Zb5 ?_
                intro v6 w6_ own6 hg6 st6
                have Hb6 : Below we.heap.size we w6_ := below_grown Hb5 hg6 Hb5.size (fun k hk => own_base own5 k hk)
                have Zb6 : we.heap.size ≤ w6_.heap.size := Nat.le_trans Zb5 hg6.size
                obtain ⟨A6_, c6_, rfl, le6, lm6, -⟩ := own_form own6
                have fZ6 := Blk.grown fZ5 hg6 (Boxed.not_row (B := wd.heap.size) fZ5 (by decide) own5)
                have fp6 := Blk.grown fp5 hg6 (fun e => np5 e.symm)
                have np6 := np_sits st6 np5 fp5.lt
                refine hK.out _ _ Hb6 fun _ => ?_
                clear hK K
                try simp only [List.getElem_toArray, List.getElem_cons_zero, List.getElem_cons_succ, Act.put, List.setIfInBounds_toArray, List.set_cons_zero, List.set_cons_succ]
                refine wpAnyH_take (i := 15) (v := ?_) rfl (by kernel_rfl) (by kernel_rfl) (by kernel_rfl) (fun _ _ _ h => h) (Or.inl ⟨by rfl, ?_⟩) Hb6 ?_
                rotate_left
                · intro wS hSw
                  go_simp
                  try with_reducible rfl
                try simp only [List.getElem_toArray, List.getElem_cons_zero, List.getElem_cons_succ, Act.put, List.setIfInBounds_toArray, List.set_cons_zero, List.set_cons_succ]
                refine wpAnyH_ready (rs := [17]) (by kernel_rfl) (by simp) (AllReadyH.cons rfl (fun K hK => ?_) AllReadyH.nil)
                refine step_put_blkR (by rfl) _ _ _ (by rfl) (wd.heap.size) (#[.slice A6_ (r + 1 + (n - (r + 1))) c6_]) (by rfl) (by rfl) _ _ fZ6 (by kernel_rfl) (by rfl) (by simp [Value.oneCell']) ?_
                intro w7_ fZ7 hg7 hz7
                have Hb7 : Below we.heap.size we w7_ := below_grown Hb6 hg7 Hb6.size (fun k hk => by cases hk; exact loZ1)
                have Zb7 : we.heap.size ≤ w7_.heap.size := Nat.le_trans Zb6 hg7.size
                have own7 := own6.kept hg7 (.inr (Ne.symm (Boxed.not_row (B := wd.heap.size) fZ6 (by decide) own6)))
                refine hK.out _ _ Hb7 fun _ => ?_
                clear hK K
                try simp only [List.getElem_toArray, List.getElem_cons_zero, List.getElem_cons_succ, Act.put, List.setIfInBounds_toArray, List.set_cons_zero, List.set_cons_succ]
                refine wpAnyH_done (by kernel_rfl) ?_ _
                have hown9 := own7
                have hZ9 := fZ7
                go_wp2_with (fail)
                go_meet
                exact ⟨_, _, _, _, rfl, by omega, hZ9, hown9, Hb7⟩
              · go_simp
                generalize hge : World.alloc _ _ = w3_
                have fp3 : Blk w3_ w2_.heap.size 46 #[Value.slice A6 n6 c6] := by subst hge; exact Blk.new _ _ _
                have hb3 : Below w2_.heap.size w2_ w3_ := by subst hge; exact (Below.refl _ _).alloc (Nat.le_refl _) _
                clear hge
                have Hb3 : Below we.heap.size we w3_ := below_of Hb2 hb3 Hb2.size
                have Zb3 : we.heap.size ≤ w3_.heap.size := Nat.le_trans Zb2 hb3.size
                have fZ3 := fZ2.below hb3
                have own3 := own_below own2 hb3
                have lop3 : we.heap.size ≤ w2_.heap.size := Zb2
                have np3 : (.slice (some ⟨w1_.heap.size, 0, none⟩) 0 0 : Value).ownBlock ≠ some w2_.heap.size := fun e => absurd (own2.lt _ e).2 (Nat.lt_irrefl _)
                refine hK.out _ _ Hb3 fun _ => ?_
                clear hK K
                try simp only [List.getElem_toArray, List.getElem_cons_zero, List.getElem_cons_succ, Act.put, List.setIfInBounds_toArray, List.set_cons_zero, List.set_cons_succ]
                refine wpAnyH_ready (rs := [5]) (by kernel_rfl) (by simp) (AllReadyH.cons rfl (fun K hK => ?_) AllReadyH.nil)
                refine step_append_cells (by rfl) (.tmp 104) (.tmp 108) 24 (by rfl) we.heap.size 46 (.slice none 0 0) 1 24 (by kernel_rfl) (by kernel_rfl) rfl (by omega) (.slice (some ⟨w1_.heap.size, 0, none⟩) 0 0) (0) ([]) own3 (by rfl) (some ⟨b, off, none⟩) (r) (c) ((rowV hs9 ls).take r) (by rfl) (by rw [List.length_take, hrl]; omega) ((HC9.out.below Hb3).take_ r) (fun u hu => rowV_one _ _ u (List.mem_of_mem_take hu)) (by unfold maxLen; omega) (by omega) Zb3 ?_
                intro v4 w4_ own4 hg4 st4
                have Hb4 : Below we.heap.size we w4_ := below_grown Hb3 hg4 Hb3.size (fun k hk => own_base own3 k hk)
                have Zb4 : we.heap.size ≤ w4_.heap.size := Nat.le_trans Zb3 hg4.size
                obtain ⟨A4_, c4_, rfl, le4, lm4, -⟩ := own_form own4
                have fZ4 := Blk.grown fZ3 hg4 (Boxed.not_row (B := wd.heap.size) fZ3 (by decide) own3)
                have fp4 := Blk.grown fp3 hg4 (fun e => np3 e.symm)
                have np4 := np_sits st4 np3 fp3.lt
                rw [Nat.zero_add] at own4 le4
                simp only [Nat.zero_add]
                rw [Nat.zero_add] at np4
                refine hK.out _ _ Hb4 fun _ => ?_
                clear hK K
                try simp only [List.getElem_toArray, List.getElem_cons_zero, List.getElem_cons_succ, Act.put, List.setIfInBounds_toArray, List.set_cons_zero, List.set_cons_succ]
                refine wpAnyH_ready (rs := [8]) (by kernel_rfl) (by simp) (AllReadyH.cons rfl (fun K hK => ?_) AllReadyH.nil)
                refine step_append_cells (by rfl) (.tmp 109) (.tmp 111) 24 (by rfl) we.heap.size 46 (.slice none 0 0) 1 24 (by kernel_rfl) (by kernel_rfl) rfl (by omega) (.slice A4_ (r) c4_) (r) ([] ++ (rowV hs9 ls).take r) own4 (by rfl) (_) (1) (_) ([Value.slice A6 n6 c6]) (by rfl) (by rfl) (cells_of_blk fp4 rfl) (fun u hu => by simp at hu; subst hu; rfl) (by unfold maxLen; omega) (by omega) Zb4 ?_
                intro v5 w5_ own5 hg5 st5
                have Hb5 : Below we.heap.size we w5_ := below_grown Hb4 hg5 Hb4.size (fun k hk => own_base own4 k hk)
                have Zb5 : we.heap.size ≤ w5_.heap.size := Nat.le_trans Zb4 hg5.size
                obtain ⟨A5_, c5_, rfl, le5, lm5, -⟩ := own_form own5
                have fZ5 := Blk.grown fZ4 hg5 (Boxed.not_row (B := wd.heap.size) fZ4 (by decide) own4)
                have fp5 := Blk.grown fp4 hg5 (fun e => np4 e.symm)
                have np5 := np_sits st5 np4 fp4.lt
                refine hK.out _ _ Hb5 fun _ => ?_
                clear hK K
                try simp only [List.getElem_toArray, List.getElem_cons_zero, List.getElem_cons_succ, Act.put, List.setIfInBounds_toArray, List.set_cons_zero, List.set_cons_succ]
                refine wpAnyH_ready (rs := [14]) (by kernel_rfl) (by simp) (AllReadyH.cons rfl (fun K hK => ?_) AllReadyH.nil)
                refine step_append_cells (by rfl) (.tmp 112) (.tmp 117) 24 (by rfl) we.heap.size 46 (.slice none 0 0) 1 24 (by kernel_rfl) (by kernel_rfl) rfl (by omega) (.slice A5_ (r + 1) c5_) (r + 1) ([] ++ (rowV hs9 ls).take r ++ [Value.slice A6 n6 c6]) own5 (by rfl) (_) ((n - (r + 1))) (_) ((rowV hs9 ls).drop (r + 1)) (by rfl) (by rw [List.length_drop, hrl]; omega) ((HC11.out.below Hb5)) (fun u hu => rowV_one _ _ u (List.mem_of_mem_drop hu)) (by unfold maxLen; omega) (by omega) Zb5 ?_
                intro v6 w6_ own6 hg6 st6
                have Hb6 : Below we.heap.size we w6_ := below_grown Hb5 hg6 Hb5.size (fun k hk => own_base own5 k hk)
                have Zb6 : we.heap.size ≤ w6_.heap.size := Nat.le_trans Zb5 hg6.size
                obtain ⟨A6_, c6_, rfl, le6, lm6, -⟩ := own_form own6
                have fZ6 := Blk.grown fZ5 hg6 (Boxed.not_row (B := wd.heap.size) fZ5 (by decide) own5)
                have fp6 := Blk.grown fp5 hg6 (fun e => np5 e.symm)
                have np6 := np_sits st6 np5 fp5.lt
                refine hK.out _ _ Hb6 fun _ => ?_
                clear hK K
                try simp only [List.getElem_toArray, List.getElem_cons_zero, List.getElem_cons_succ, Act.put, List.setIfInBounds_toArray, List.set_cons_zero, List.set_cons_succ]
                refine wpAnyH_take (i := 15) (v := ?_) rfl (by kernel_rfl) (by kernel_rfl) (by kernel_rfl) (fun _ _ _ h => h) (Or.inl ⟨by rfl, ?_⟩) Hb6 ?_
                rotate_left
                · intro wS hSw
                  go_simp
                  try with_reducible rfl
                try simp only [List.getElem_toArray, List.getElem_cons_zero, List.getElem_cons_succ, Act.put, List.setIfInBounds_toArray, List.set_cons_zero, List.set_cons_succ]
                refine wpAnyH_ready (rs := [17]) (by kernel_rfl) (by simp) (AllReadyH.cons rfl (fun K hK => ?_) AllReadyH.nil)
                refine step_put_blkR (by rfl) _ _ _ (by rfl) (wd.heap.size) (#[.slice A6_ (r + 1 + (n - (r + 1))) c6_]) (by rfl) (by rfl) _ _ fZ6 (by kernel_rfl) (by rfl) (by simp [Value.oneCell']) ?_
                intro w7_ fZ7 hg7 hz7
                have Hb7 : Below we.heap.size we w7_ := below_grown Hb6 hg7 Hb6.size (fun k hk => by cases hk; exact loZ1)
                have Zb7 : we.heap.size ≤ w7_.heap.size := Nat.le_trans Zb6 hg7.size
                have own7 := own6.kept hg7 (.inr (Ne.symm (Boxed.not_row (B := wd.heap.size) fZ6 (by decide) own6)))
                refine hK.out _ _ Hb7 fun _ => ?_
                clear hK K
                try simp only [List.getElem_toArray, List.getElem_cons_zero, List.getElem_cons_succ, Act.put, List.setIfInBounds_toArray, List.set_cons_zero, List.set_cons_succ]
                refine wpAnyH_done (by kernel_rfl) ?_ _
                have hown9 := own7
                have hZ9 := fZ7
                go_wp2_with (fail)
                go_meet
                exact ⟨_, _, _, _, rfl, by omega, hZ9, hown9, Hb7⟩
            · go_simp
              generalize hge : World.alloc _ _ = w2_
              have fp2 : Blk w2_ w1_.heap.size 46 #[Value.slice A6 n6 c6] := by subst hge; exact Blk.new _ _ _
              have hb2 : Below w1_.heap.size w1_ w2_ := by subst hge; exact (Below.refl _ _).alloc (Nat.le_refl _) _
              clear hge
              have Hb2 : Below we.heap.size we w2_ := below_of Hb1 hb2 Hb1.size
              have Zb2 : we.heap.size ≤ w2_.heap.size := Nat.le_trans Zb1 hb2.size
              have fZ2 := fZ1.below hb2
              have lop2 : we.heap.size ≤ w1_.heap.size := Zb1
              refine hK.out _ _ Hb2 fun _ => ?_
              clear hK K
              try simp only [List.getElem_toArray, List.getElem_cons_zero, List.getElem_cons_succ, Act.put, List.setIfInBounds_toArray, List.set_cons_zero, List.set_cons_succ]
              refine wpAnyH_ready (rs := [0]) (by kernel_rfl) (by simp) (AllReadyH.cons rfl (fun K hK => ?_) AllReadyH.nil)
              go_simp
              generalize hge : World.alloc _ _ = w3_
              have own3 : w3_.ownsRow we.heap.size 46 1 (.slice (some ⟨w2_.heap.size, 0, none⟩) 0 0) 0 [] := by subst hge; exact World.ownsRow_lit (size := 1) w2_ #[] 0 Zb2 (Nat.zero_le _) rfl
              have hb3 : Below w2_.heap.size w2_ w3_ := by subst hge; exact (Below.refl _ _).alloc (Nat.le_refl _) _
              clear hge
              have Hb3 : Below we.heap.size we w3_ := below_of Hb2 hb3 Hb2.size
              have Zb3 : we.heap.size ≤ w3_.heap.size := Nat.le_trans Zb2 hb3.size
              have fZ3 := fZ2.below hb3
              have fp3 := fp2.below hb3
              have np3 : (Value.slice (some ⟨w2_.heap.size, 0, none⟩) 0 0).ownBlock ≠ some (w1_.heap.size) := np_lit fp2.lt
              refine hK.out _ _ Hb3 fun _ => ?_
              clear hK K
              try simp only [List.getElem_toArray, List.getElem_cons_zero, List.getElem_cons_succ, Act.put, List.setIfInBounds_toArray, List.set_cons_zero, List.set_cons_succ]
              refine wpAnyH_ready (rs := [5]) (by kernel_rfl) (by simp) (AllReadyH.cons rfl (fun K hK => ?_) AllReadyH.nil)
              refine step_append_cells (by rfl) (.tmp 104) (.tmp 108) 24 (by rfl) we.heap.size 46 (.slice none 0 0) 1 24 (by kernel_rfl) (by kernel_rfl) rfl (by omega) (.slice (some ⟨w2_.heap.size, 0, none⟩) 0 0) (0) ([]) own3 (by rfl) (some ⟨b, off, none⟩) (r) (c) ((rowV hs9 ls).take r) (by rfl) (by rw [List.length_take, hrl]; omega) ((HC9.out.below Hb3).take_ r) (fun u hu => rowV_one _ _ u (List.mem_of_mem_take hu)) (by unfold maxLen; omega) (by omega) Zb3 ?_
              intro v4 w4_ own4 hg4 st4
              have Hb4 : Below we.heap.size we w4_ := below_grown Hb3 hg4 Hb3.size (fun k hk => own_base own3 k hk)
              have Zb4 : we.heap.size ≤ w4_.heap.size := Nat.le_trans Zb3 hg4.size
              obtain ⟨A4_, c4_, rfl, le4, lm4, -⟩ := own_form own4
              have fZ4 := Blk.grown fZ3 hg4 (Boxed.not_row (B := wd.heap.size) fZ3 (by decide) own3)
              have fp4 := Blk.grown fp3 hg4 (fun e => np3 e.symm)
              have np4 := np_sits st4 np3 fp3.lt
              rw [Nat.zero_add] at own4 le4
              simp only [Nat.zero_add]
              rw [Nat.zero_add] at np4
              refine hK.out _ _ Hb4 fun _ => ?_
              clear hK K
              try simp only [List.getElem_toArray, List.getElem_cons_zero, List.getElem_cons_succ, Act.put, List.setIfInBounds_toArray, List.set_cons_zero, List.set_cons_succ]
              refine wpAnyH_ready (rs := [8]) (by kernel_rfl) (by simp) (AllReadyH.cons rfl (fun K hK => ?_) AllReadyH.nil)
              refine step_append_cells (by rfl) (.tmp 109) (.tmp 111) 24 (by rfl) we.heap.size 46 (.slice none 0 0) 1 24 (by kernel_rfl) (by kernel_rfl) rfl (by omega) (.slice A4_ (r) c4_) (r) ([] ++ (rowV hs9 ls).take r) own4 (by rfl) (_) (1) (_) ([Value.slice A6 n6 c6]) (by rfl) (by rfl) (cells_of_blk fp4 rfl) (fun u hu => by simp at hu; subst hu; rfl) (by unfold maxLen; omega) (by omega) Zb4 ?_
              intro v5 w5_ own5 hg5 st5
              have Hb5 : Below we.heap.size we w5_ := below_grown Hb4 hg5 Hb4.size (fun k hk => own_base own4 k hk)
              have Zb5 : we.heap.size ≤ w5_.heap.size := Nat.le_trans Zb4 hg5.size
              obtain ⟨A5_, c5_, rfl, le5, lm5, -⟩ := own_form own5
              have fZ5 := Blk.grown fZ4 hg5 (Boxed.not_row (B := wd.heap.size) fZ4 (by decide) own4)
              have fp5 := Blk.grown fp4 hg5 (fun e => np4 e.symm)
              have np5 := np_sits st5 np4 fp4.lt
              refine hK.out _ _ Hb5 fun _ => ?_
              clear hK K
              try simp only [List.getElem_toArray, List.getElem_cons_zero, List.getElem_cons_succ, Act.put, List.setIfInBounds_toArray, List.set_cons_zero, List.set_cons_succ]
              refine wpAnyH_ready (rs := [14]) (by kernel_rfl) (by simp) (AllReadyH.cons rfl (fun K hK => ?_) AllReadyH.nil)
              refine step_append_cells (by rfl) (.tmp 112) (.tmp 117) 24 (by rfl) we.heap.size 46 (.slice none 0 0) 1 24 (by kernel_rfl) (by kernel_rfl) rfl (by omega) (.slice A5_ (r + 1) c5_) (r + 1) ([] ++ (rowV hs9 ls).take r ++ [Value.slice A6 n6 c6]) own5 (by rfl) (_) ((n - (r + 1))) (_) ((rowV hs9 ls).drop (r + 1)) (by rfl) (by rw [List.length_drop, hrl]; omega) ((HC11.out.below Hb5)) (fun u hu => rowV_one _ _ u (List.mem_of_mem_drop hu)) (by unfold maxLen; omega) (by omega) Zb5 ?_
              intro v6 w6_ own6 hg6 st6
              have Hb6 : Below we.heap.size we w6_ := below_grown Hb5 hg6 Hb5.size (fun k hk => own_base own5 k hk)
              have Zb6 : we.heap.size ≤ w6_.heap.size := Nat.le_trans Zb5 hg6.size
              obtain ⟨A6_, c6_, rfl, le6, lm6, -⟩ := own_form own6
              have fZ6 := Blk.grown fZ5 hg6 (Boxed.not_row (B := wd.heap.size) fZ5 (by decide) own5)
              have fp6 := Blk.grown fp5 hg6 (fun e => np5 e.symm)
              have np6 := np_sits st6 np5 fp5.lt
              refine hK.out _ _ Hb6 fun _ => ?_
              clear hK K
              try simp only [List.getElem_toArray, List.getElem_cons_zero, List.getElem_cons_succ, Act.put, List.setIfInBounds_toArray, List.set_cons_zero, List.set_cons_succ]
              refine wpAnyH_take (i := 15) (v := ?_) rfl (by kernel_rfl) (by kernel_rfl) (by kernel_rfl) (fun _ _ _ h => h) (Or.inl ⟨by rfl, ?_⟩) Hb6 ?_
              rotate_left
              · intro wS hSw
                go_simp
                try with_reducible rfl
              try simp only [List.getElem_toArray, List.getElem_cons_zero, List.getElem_cons_succ, Act.put, List.setIfInBounds_toArray, List.set_cons_zero, List.set_cons_succ]
              refine wpAnyH_ready (rs := [17]) (by kernel_rfl) (by simp) (AllReadyH.cons rfl (fun K hK => ?_) AllReadyH.nil)
              refine step_put_blkR (by rfl) _ _ _ (by rfl) (wd.heap.size) (#[.slice A6_ (r + 1 + (n - (r + 1))) c6_]) (by rfl) (by rfl) _ _ fZ6 (by kernel_rfl) (by rfl) (by simp [Value.oneCell']) ?_
              intro w7_ fZ7 hg7 hz7
              have Hb7 : Below we.heap.size we w7_ := below_grown Hb6 hg7 Hb6.size (fun k hk => by cases hk; exact loZ1)
              have Zb7 : we.heap.size ≤ w7_.heap.size := Nat.le_trans Zb6 hg7.size
              have own7 := own6.kept hg7 (.inr (Ne.symm (Boxed.not_row (B := wd.heap.size) fZ6 (by decide) own6)))
              refine hK.out _ _ Hb7 fun _ => ?_
              clear hK K
              try simp only [List.getElem_toArray, List.getElem_cons_zero, List.getElem_cons_succ, Act.put, List.setIfInBounds_toArray, List.set_cons_zero, List.set_cons_succ]
              refine wpAnyH_done (by kernel_rfl) ?_ _
              have hown9 := own7
              have hZ9 := fZ7
              go_wp2_with (fail)
              go_meet
              exact ⟨_, _, _, _, rfl, by omega, hZ9, hown9, Hb7⟩
        case rest =>
          obtain ⟨Zb, A7, n7, c7, rfl, hn7, hZ7, hown7, hb7⟩ := hcut
          subst hn7
          obtain ⟨one, hone⟩ : ∃ one, one = l.take k ++ l.drop (k + 1) := ⟨_, rfl⟩
          have hnf := Fix.part_not_full dbl Hlx.out Hkx.out Hck.out
          rw [← hone] at hnf Hone Hlo
          have hsub : one.Sublist l := by
            rw [hone]
            conv => rhs; rw [Fix.cut_at Hkx.out]
            exact List.Sublist.append (List.Sublist.refl _) (List.sublist_cons_self _ _)
          have HRp : Hid (RoundsC wc A7 (Fix.partL ls r one)) := Lib.hid (by
            have h1 := ((HH.out.below HBe.out).below hb7)
            have h0 : HeadsC wc [(A6, c6)] [one] := HeadsC.one (by rw [Hlo.out]; exact hc6) hm6 (Hone.out.below hb7)
            unfold Fix.partL
            refine HeadsC.rounds (((h1.take r).append h0).append (h1.drop (r + 1))) ?_
            have h2 := Cells.own hown7
            rw [rowV_append _ _ _ _ (by simp [HH.out.1]), rowV_append _ _ _ _ (by rw [List.length_take, List.length_take, HH.out.1]), rowV_take, rowV_drop _ _ _ HH.out.1]
            show Cells wc A7 ((rowV hs9 ls).take r ++ [Value.slice A6 one.length c6] ++ (rowV hs9 ls).drop (r + 1))
            rw [Hlo.out]
            simpa using h2)
          have hwfp : ∀ m ∈ Fix.partL ls r one, ∀ x ∈ m, WfM x := fun m hm => by
            unfold Fix.partL at hm
            rcases List.mem_append.1 hm with hm | hm
            · rcases List.mem_append.1 hm with hm | hm
              · exact Hwf.out m (List.mem_of_mem_take hm)
              · rw [List.mem_singleton] at hm
                subst hm
                exact fun x hx => Hwf.out l (List.mem_of_getElem? Hlx.out) x (hsub.mem hx)
            · exact Hwf.out m (List.mem_of_mem_drop hm)
          have hfp : (Fix.partL ls r one).flatten.length ≤ 1000000 := by
            have := (Fix.part_flat Hlx.out hsub).length_le
            have := Hflat.out
            omega
          have hlp : (Fix.partL ls r one).length = n7 := by rw [Fix.part_length one hlr, Hl.out]
          have HFp := Lib.hid (fun W h h' => full_any A7 n7 c7 (Fix.partL ls r one) B m d cl dbl W hlp (by omega) h Hcl.out hmd h' hfp hwfp)
          have HCp := Lib.hid (fun W h h' => check30_any A7 n7 c7 (Fix.partL ls r one) B m d cl W hlp (by omega) h Hcl.out h' hfp hwfp)
          rw [Fix.part_check Hlx.out hsub Hck.out] at HFp HCp
          have HBx := Lib.hid (below_of HBe.out hb7 HBe.out.size)
          have HRl := Lib.hid (HC.out.below HBx.out)
          have HKx := Lib.hid (HK.out.below HBx.out)
          have a0 := cellk' hb7 hbx
          have z0 : wc.cell? ⟨Zb, 0, none⟩ = some (.slice A7 n7 c7) := hZ7.cell 0
          clear hZ7 hown7 hb7 hwfp hfp hlp hsub hone hbx hlt9 HC9 HC11 hA11
          generalize Fix.fullR cl (Fix.partL ls r one) dbl = f2 at *
          generalize Fix.partL ls r one = ps at *
          generalize Fix.fullR cl ls dbl = f1 at *
          clear A11
          go_wp2_with (fail)
          refine (HF1.out wc HRl.out HKx.out).mono ?_
          rintro e wf1 ⟨rfl, hbf⟩
          have HRp1 := Lib.hid (HRp.out.below hbf)
          have HKx1 := Lib.hid (HKx.out.below hbf)
          have HBx1 := Lib.hid (below_of HBx.out hbf HBx.out.size)
          have z1 := cellk' hbf z0
          clear hbf HRp HKx HBx z0 a0 HRl HF1
          go_wp2_with (fail)
          refine (HFp.out wf1 HRp1.out HKx1.out).mono ?_
          rintro e wf2 ⟨rfl, hbf⟩
          have HRp2 := Lib.hid (HRp1.out.below hbf)
          have HKx2 := Lib.hid (HKx1.out.below hbf)
          have HBx2 := Lib.hid (below_of HBx1.out hbf HBx1.out.size)
          have z2 := cellk' hbf z1
          clear hbf HRp1 HKx1 HBx1 z1 HFp
          go_wp2_with (fail)
          refine (HCp.out wf2 HRp2.out HKx2.out).mono ?_
          rintro e wf3 ⟨rfl, hbf⟩
          have HBx3 := Lib.hid (below_of HBx2.out hbf HBx2.out.size)
          clear hbf HRp2 HKx2 HBx2 z2 HCp
          cases f1 <;> cases f2 <;> first | (simp at hnf; done) | skip
          all_goals
            go_wp2_with (fail)
            go_ret
            exact ⟨rfl, HBx3.out⟩
theorem FixturesLess_walk (w : World) (A : Option Addr) (n c : Nat) (ls : List (List (Int × Int))) (hl : ls.length = n) (hnc : n ≤ c) (hcm : c ≤ maxLen) (hC : RoundsC w A ls) (hwf : ∀ l ∈ ls, ∀ x ∈ l, WfM x) (hs : ∀ l ∈ ls, l.length * 16 ≤ reachBytes)
    (B : Option Addr) (m d : Nat) (cl : List Int) (hcl : cl.length = m) (hmd : m ≤ d) (hdm : d ≤ maxLen) (hK : Cells w B (cl.map (Value.int .i64))) (_hw : ∀ x ∈ cl, (Lit.int .i64 x).wf = true) (dbl : Bool) (round : Int) (_wr : (Lit.int .i64 round).wf = true) (at_ : Int) (_wa : (Lit.int .i64 at_).wf = true) :
    Calls Try.prog 7 #[.agg #[.slice A n c], .slice B m d, .bool dbl, .int .i64 round, .int .i64 at_] w (Fine w) := by
  by_cases h : Fix.shortR ls = false ∨ 60 < m ∨ n = 0 ∨ Fix.checkE cl ls ≠ 0
  · exact less_no w A n c ls hl hnc hcm hC hwf hs B m d cl hcl hmd hdm hK dbl round at_ h
  · have h1 : Fix.shortR ls = true := by
      cases hsh : Fix.shortR ls with
      | true => rfl
      | false => exact absurd (.inl hsh) h
    have h4 : Fix.checkE cl ls = 0 := Decidable.byContradiction fun hc => h (.inr (.inr (.inr hc)))
    exact less_yes w A n c ls hl hnc hcm hC hwf hs B m d cl hcl hmd hdm hK dbl round at_ h1 (by omega) (by omega) h4
-- the row
theorem fixturesLess_own : ownKnob Try.prog.godebug = none := by kernel_rfl
theorem fixturesLess_laidOut : laidOutB Try.prog = true := by kernel_rfl
theorem fixturesLess_readable : (Try.f7.params.toList.all fun t => Try.prog.readableRec t && decide (t < Try.prog.types.size)) = true := by kernel_rfl
set_option maxRecDepth 100000 in
theorem fixturesLess_lifted (os : Os) (started : os.Started) (H : Type) (enc : TypeId × Value → H) :
    ReturnsInHanded {} Try.checked os 7 .any (Rows.fixturesLessSpec.pre6 enc Try.prog Try.f7 Rows.fixturesLessRow.domain false) (Rows.fixturesLessSpec.post enc Try.prog Try.f7 false true false false) := by
  refine returnsInHanded_of_change_sized (C := Try.checked) fixturesLess_own started (by kernel_rfl) Try.func7
    (ChangeSpec.witness6 (enc := enc) (C := Try.checked) false ⟨#[], #[.agg #[.slice none 0 0], .slice none 0 0, .bool false, .int .i64 0, .int .i64 0], []⟩ 8 (by kernel_rfl) (by kernel_rfl) (by kernel_rfl) (by kernel_rfl)) ?_
  intro W base args ds gs before hval0 hW hcnd hsz _
  have hval : ∀ (j : Nat) t v, Try.f7.params[j]? = some t → args[j]? = some v → Value.okWide Try.prog W .any base t v := hval0
  have hW' := hW
  obtain ⟨p, q, hA0, hV, rfl, hfz, hnd⟩ := hW
  have hA : DataW.TrodAll enc Try.prog W 0 (fun _ => true) true Try.f7.params.toList args.toList ds p := hA0
  rw [Try.params7] at hA hval
  obtain ⟨v0, vs0, d0, ds0, p0, q0, hargs, rfl, rfl, h0, r0⟩ := trodAll_cons hA
  obtain ⟨v1, vs1, d1, ds1, p1, q1, rfl, rfl, rfl, h1, r1⟩ := trodAll_cons r0
  obtain ⟨v2, vs2, d2, ds2, p2, q2, rfl, rfl, rfl, h2, r2⟩ := trodAll_cons r1
  obtain ⟨v3, vs3, d3, ds3, p3, q3, rfl, rfl, rfl, h3, r3⟩ := trodAll_cons r2
  obtain ⟨v4, vs4, d4, ds4, p4, q4, rfl, rfl, rfl, h4, r4⟩ := trodAll_cons r3
  obtain ⟨rfl, rfl, rfl⟩ := trodAll_nil r4
  obtain rfl : args = #[v0, v1, v2, v3, v4] := by cases args; simp_all
  obtain ⟨rfl, rfl⟩ := trodVars_none hV
  obtain ⟨A0, n0, c0, ls0, rfl, e0, nc0, cm0, g0, w0, z0⟩ := open_list (hval 0 26 v0 rfl rfl) h0
  have z0' := list_reach hsz (j := 0) rfl rfl z0
  obtain ⟨A1, n1, c1, xs1, rfl, l1, nc1, cm1, g1, w1⟩ := open_intslice Try.underlying22 Try.underlying3 (by kernel_rfl) (hval 1 22 v1 rfl rfl) h1
  obtain ⟨a2, rfl, rfl, rfl⟩ := open_bool Try.underlying4 (hval 2 4 v2 rfl rfl) h2
  obtain ⟨a3, rfl, rfl, rfl, w3⟩ := open_int Try.underlying3 (hval 3 3 v3 rfl rfl) h3
  obtain ⟨a4, rfl, rfl, rfl, w4⟩ := open_int Try.underlying3 (hval 4 3 v4 rfl rfl) h4
  refine (FixturesLess_walk W A0 n0 c0 ls0 e0 nc0 cm0 g0 w0 z0' A1 n1 c1 xs1 l1 nc1 cm1 g1 w1 a2 a3 w3 a4 w4).mono fun e W' ⟨he, hb⟩ => ?_
  subst he
  simp only [List.append_nil] at hW'
  refine ⟨_, rfl, law_post fixturesLess_laidOut ?_ (by kernel_rfl) Try.underlying4 rfl hW' rfl rfl rfl hb⟩
  intro t ht
  have hr := List.all_eq_true.1 fixturesLess_readable t ht
  rw [Bool.and_eq_true] at hr
  exact ⟨hr.1, of_decide_eq_true hr.2⟩
theorem fixturesLess_over : Rows.fixturesLessRow.holds Try.pinned (OpenSpec.ofChange Rows.fixturesLessSpec) :=
  OpenClaim.holds_of_wide 7 Try.f7 rfl rfl rfl rfl rfl rfl rfl ⟨rfl, rfl, rfl, rfl, rfl⟩ rfl rfl rfl rfl rfl (by kernel_rfl) Try.func7 (by kernel_rfl)
    (of_decide_eq_true (by kernel_rfl)) (by unfold Func.isWrapper; rw [if_neg (of_decide_eq_false (by kernel_rfl))]; exact ⟨rfl, rfl⟩)
    (fun os started H enc _ => fixturesLess_lifted os started H enc)
theorem fixturesLess_proved : Rows.FixturesLessSaid := fixturesLess_over
#print axioms fixturesLess_proved
end Go.Proofs.Ytpmkebejfnflfaa

