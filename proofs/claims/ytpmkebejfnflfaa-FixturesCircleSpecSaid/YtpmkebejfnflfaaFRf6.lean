/- The walk of the reference's with (fixtures). -/
import Derived.Test.YtpmkebejfnflfaaFRf3
import Derived.Deep.RegionHeld3
namespace Go.Proofs.Ytpmkebejfnflfaa
open Go.RowKit Go.Shelf Go.Lib
set_option linter.unusedVariables false
set_option linter.unusedSimpArgs false
set_option maxHeartbeats 4000000 in
theorem rfirst_any (x y : Int) (w : World) : Calls Try.prog 55 #[.agg #[.int .i64 x, .int .i64 y]] w fun e w' => e = .returned (.int .i64 (Fix.lowM (x, y))) ∧ Below w.heap.size w w' := by
  unfold Fix.lowM
  simp only []
  go_enter Try.func55, Try.ntmps55
  go_wp2_with (fail)
  go_ret
  exact ⟨rfl, (Below.refl _ _).alloc (Nat.le_refl _) _⟩
/-- 's = append(l[:n:n], news...)', at least one: a row of the call's own. -/
theorem run_append_new {P : Program} (w : World) (t ty e : TypeId) (z : Value) (size bytes : Nat) (ht : P.underlying t = some (.slice e)) (hi : (P.info? e).map (fun i => (i.zero, i.size, i.bytes)) = some (some z, size, bytes))
    (hzs : z.cells.size = size) (hsz : 0 < size) (A : Option Addr) (n : Nat) (olds : List Value) (hlo : olds.length = n * size) (ho : Cells w A olds)
    (A' : Option Addr) (m c : Nat) (news : List Value) (hl : news.length = m * size) (hm : 0 < m) (hr : Cells w A' news) (h1 : ∀ u ∈ news, u.oneCell' = true)
    (h63 : n + m ≤ maxLen) (hbytes : (n + m) * bytes ≤ 140737488355328) :
    ∃ v' w', (Builtin.append_ #[t, t] ty #[.slice A n n, .slice A' m c]).run P w = .ok v' w' ∧ w'.ownsRow w.heap.size e size v' (n + m) (olds ++ news) ∧ Below w.heap.size w w' := by
  obtain ⟨i0, hi0, hz0, hz1, hz2⟩ := info_parts hi
  obtain ⟨b', off', rfl, hb', hc'⟩ := hr.addr (by rw [hl]; exact Nat.mul_pos hm hsz)
  rcases Nat.eq_zero_or_pos n with rfl | hn
  · have : olds = [] := List.eq_nil_of_length_eq_zero (by simpa using hlo)
    subst this
    cases A with
    | none =>
      obtain ⟨v', w', hrun, r1, r2, _⟩ := run_append_own (P := P) w w.heap.size t ty e i0 z size bytes ht hi0 hz0 hz1 hz2 hzs hsz (.slice none 0 0) 0 [] (World.ownsRow_nil w _ e size) ⟨b', off', none⟩ m c news hl (cells_add hc') h1 h63 hbytes (Nat.le_refl _)
      exact ⟨v', w', hrun, r1, below_of_grown r2⟩
    | some a =>
      obtain ⟨v', w', hrun, r1, r2⟩ := run_append_arg_grows (P := P) w t ty e i0 z size bytes ht hi0 hz0 hz1 hz2 hzs hsz a 0 0 [] (by simp) (fun j u hu => by simp at hu) ⟨b', off', none⟩ m c news hl (cells_add hc') (by omega) h63 hbytes
      exact ⟨v', w', hrun, r1, below_of_grown r2⟩
  · obtain ⟨b, off, rfl, hb, hc⟩ := ho.addr (by rw [hlo]; exact Nat.mul_pos hn hsz)
    obtain ⟨v', w', hrun, r1, r2⟩ := run_append_arg_grows (P := P) w t ty e i0 z size bytes ht hi0 hz0 hz1 hz2 hzs hsz ⟨b, off, none⟩ n n olds hlo (cells_add hc) ⟨b', off', none⟩ m c news hl (cells_add hc') (by omega) h63 hbytes
    exact ⟨v', w', hrun, r1, below_of_grown r2⟩
theorem wpList_append_new {P : Program} {w : World} {ops : Array Oper} {rest : List Oper} {o : Oper} {a : Act} {Q : Exit → Act → World → Prop} (hgd : o.guard = none) (s x : Operand) (t : TypeId) (ho : o.op = .call { callee := .builtin .append, args := #[s, x], argTypes := #[t, t] })
    (e : TypeId) (z : Value) (size bytes : Nat) (ht : P.underlying t = some (.slice e)) (hi : (P.info? e).map (fun i => (i.zero, i.size, i.bytes)) = some (some z, size, bytes))
    (hzs : z.cells.size = size) (hsz : 0 < size) (A : Option Addr) (n : Nat) (olds : List Value) (hs : a.eval s = .slice A n n) (hlo : olds.length = n * size) (ho' : Cells w A olds)
    (A' : Option Addr) (m c : Nat) (news : List Value) (hx : a.eval x = .slice A' m c) (hl : news.length = m * size) (hm : 0 < m) (hr : Cells w A' news) (h1 : ∀ u ∈ news, u.oneCell' = true)
    (h63 : n + m ≤ maxLen) (hbytes : (n + m) * bytes ≤ 140737488355328)
    (h : ∀ v' w', w'.ownsRow w.heap.size e size v' (n + m) (olds ++ news) → Below w.heap.size w w' → wpList P ops Q rest (a.put o.dst v') w') : wpList P ops Q (o :: rest) a w := by
  obtain ⟨v', w', hrun, r1, r2⟩ := run_append_new (P := P) w t o.type e z size bytes ht hi hzs hsz A n olds hlo ho' A' m c news hl hm hr h1 h63 hbytes
  exact wpList_plain hgd fun _ hK => wp_append_of ho hs hx hrun (hK _ _ (h v' w' r1 r2))
theorem iv_cutIf6 {w : World} {b off : Nat} {l : List (Int × Int)} (h : IvC w (some ⟨b, off, none⟩) l) {i c : Nat} (hc : l.length ≤ c) : IvC w (if c = i then some ⟨b, off, none⟩ else some ⟨b, off + i * 2, none⟩) (l.drop i) := by
  by_cases hci : c = i
  · rw [if_pos hci, List.drop_eq_nil_of_le (by omega)]
    exact IvC.nil_ _ _
  · rw [if_neg hci]
    unfold IvC
    rw [ivV_drop]
    exact Cells.drop_ h (i * 2)
theorem cellk6 {W W' : World} {a : Addr} {v : Value} (hb : Below W.heap.size W W') (h : W.cell? a = some v) : W'.cell? a = some v := (hb.cell (World.block_lt_of_cell? W a h)).trans h
namespace Fix
theorem insM_at : ∀ (l : List Mt) (x : Mt) (k : Nat), k ≤ l.length → (∀ y ∈ l.take k, lowM y < lowM x) → (∀ y, l[k]? = some y → ¬ lowM y < lowM x) → insM l x = l.take k ++ x :: l.drop k
  | [], x, k, _, _, _ => by simp [insM]
  | y :: l, x, 0, _, _, h => by
    have := h y rfl
    simp only [insM, if_neg this, List.take_zero, List.nil_append, List.drop_zero]
  | y :: l, x, k + 1, hk, h1, h2 => by
    have hy := h1 y (by simp)
    simp only [insM, if_pos hy, List.take_succ_cons, List.drop_succ_cons, List.cons_append]
    rw [insM_at l x k (by simpa using hk) (fun z hz => h1 z (by simp [hz])) (fun z hz => h2 z (by simpa using hz))]
end Fix
set_option maxRecDepth 100000 in
set_option maxHeartbeats 8000000 in
theorem with_any (A : Option Addr) (n c : Nat) (l : List (Int × Int)) (x y : Int) (w : World) (hl : l.length = n) (hn : n ≤ 1000000) (hnc : n ≤ c) (hcm : c ≤ maxLen) (hC : IvC w A l) :
    Calls Try.prog 35 #[.slice A n c, .agg #[.int .i64 x, .int .i64 y]] w fun e w' => ∃ A' c', e = .returned (.slice A' (n + 1) c') ∧ w'.ownsRow w.heap.size 51 2 (.slice A' (n + 1) c') (n + 1) (ivV (Fix.insM l (x, y))) ∧ n + 1 ≤ c' ∧ c' ≤ maxLen ∧ Below w.heap.size w w' := by
  have HC := Lib.hid hC
  have Hl := Lib.hid hl
  have HF := Lib.hid (fun a b W => rfirst_any a b W)
  unfold maxLen at hcm
  clear hC hl
  go_enter Try.func35, Try.ntmps35
  go_upto_region 1 with (fail)
  generalize hge : World.alloc _ _ = w0
  have H0 : Blk w0 w.heap.size 51 #[.int .i64 x, .int .i64 y] := by subst hge; exact Blk.new w _ _
  have HB0 := Lib.hid (show Below w.heap.size w w0 by subst hge; exact (Below.refl _ _).alloc (Nat.le_refl _) _)
  clear hge
  have M0 := Lib.hid (show w0.cell? ⟨w.heap.size, 0, none⟩ = some (.int .i64 x) from H0.cell 0)
  have M1 := Lib.hid (show w0.cell? ⟨w.heap.size, 1, none⟩ = some (.int .i64 y) from H0.cell 1)
  clear H0
  go_wp2_with (fail)
  go_loopw [5] (fun i W => ∃ k : Nat, k ≤ n ∧ i = .int .i64 k ∧ Hid (∀ z ∈ l.take k, Fix.lowM z < Fix.lowM (x, y)) ∧ Hid (Below w0.heap.size w0 W)) (fun i _ => n - (intOf i).toNat)
  case atStart => exact ⟨0, Nat.zero_le _, rfl, Lib.hid (by simp), Below.refl _ _⟩
  case round =>
    obtain ⟨wk, rfl⟩ : ∃ wk : World, wk = wr := ⟨_, rfl⟩
    obtain ⟨k, hk, rfl, Hg, hB⟩ := hrel
    have q0 := cellk6 hB.out M0.out
    have q1 := cellk6 hB.out M1.out
    have hkc : (k : Int) ≤ (c : Int) := by omega
    by_cases hlt : k < n
    · obtain ⟨⟨a, b⟩, hx⟩ := getElem?_lt (l := l) (k := k) (by rw [Hl.out]; exact hlt)
      obtain ⟨b1, off1, rfl, hb1, hcs⟩ := ((HC.out.below HB0.out).below hB.out).at_ (by rw [Hl.out]; omega)
      have hc1 := (hcs k _ hx).1
      have hc2 := (hcs k _ hx).2
      have Hx := Lib.hid hx
      have dk : decide ((k : Int) < (n : Int)) = true := by simp; omega
      have dk' : decide (k < n) = true := by simp; omega
      have HF1 := Lib.hid (fun W => HF.out a b W)
      have HF2 := Lib.hid (fun W => HF.out x y W)
      obtain ⟨la, hla⟩ : ∃ la, la = Fix.lowM (a, b) := ⟨_, rfl⟩
      obtain ⟨lx, hlx⟩ : ∃ lx, lx = Fix.lowM (x, y) := ⟨_, rfl⟩
      rw [← hla] at HF1
      rw [← hlx] at HF2
      have Hla := Lib.hid hla
      have Hlx := Lib.hid hlx
      clear hcs hx hla hlx
      by_cases hab : la < lx
      · have dl : decide (la < lx) = true := by simpa using hab
        go_wp2_with (fail)
        go_region_held3 (fun W => W.cell? ⟨w.heap.size, 0, none⟩ = some (.int .i64 x) ∧ W.cell? ⟨w.heap.size, 1, none⟩ = some (.int .i64 y) ∧ W.cell? ⟨b1, off1 + k * 2, none⟩ = some (.int .i64 a) ∧ W.cell? ⟨b1, off1 + k * 2 + 1, none⟩ = some (.int .i64 b) ∧ Below wk.heap.size wk W)
          (first
            | exact ⟨by assumption, by assumption, by assumption, by assumption, by assumption⟩
            | exact ⟨q0, q1, hc1, hc2, below_drewN (Below.refl _ _) 1⟩)
          (first
            | (go_at_call 55; go_split_ands; first | (with_reducible refine (HF1.out _).mono ?_; rintro e wa ⟨rfl, hbwa⟩; have k0 : wa.cell? ⟨w.heap.size, 0, none⟩ = some (.int .i64 x) := cellk6 hbwa (by assumption); have k1 : wa.cell? ⟨w.heap.size, 1, none⟩ = some (.int .i64 y) := cellk6 hbwa (by assumption); have k3 : wa.cell? ⟨b1, off1 + k * 2, none⟩ = some (.int .i64 a) := cellk6 hbwa (by assumption); have k4 : wa.cell? ⟨b1, off1 + k * 2 + 1, none⟩ = some (.int .i64 b) := cellk6 hbwa (by assumption); have k5 : Below wk.heap.size wk wa := below_of (by assumption) hbwa (Below.size (by assumption))) | (with_reducible refine (HF2.out _).mono ?_; rintro e wb ⟨rfl, hbwb⟩; have k0 : wb.cell? ⟨w.heap.size, 0, none⟩ = some (.int .i64 x) := cellk6 hbwb (by assumption); have k1 : wb.cell? ⟨w.heap.size, 1, none⟩ = some (.int .i64 y) := cellk6 hbwb (by assumption); have k3 : wb.cell? ⟨b1, off1 + k * 2, none⟩ = some (.int .i64 a) := cellk6 hbwb (by assumption); have k4 : wb.cell? ⟨b1, off1 + k * 2 + 1, none⟩ = some (.int .i64 b) := cellk6 hbwb (by assumption); have k5 : Below wk.heap.size wk wb := below_of (by assumption) hbwb (Below.size (by assumption))))
            | (fail))
        all_goals
          go_wp2_with (fail)
          go_roundw
          case rel => exact ⟨k + 1, by omega, by go_num, Lib.hid (by rw [take_snoc Hx.out]; intro z hz; rcases List.mem_append.1 hz with hz | hz; (· exact Hg.out z hz); (· simp at hz; subst hz; rw [← Hla.out, ← Hlx.out]; exact hab)), below_of hB.out (by assumption) hB.out.size⟩
          case measure => simp [intOf]; omega
      · have dl : decide (la < lx) = false := by simpa using hab
        have hins : Fix.insM l (x, y) = l.take k ++ (x, y) :: l.drop k := Fix.insM_at l (x, y) k (by rw [Hl.out]; omega) Hg.out (fun z hz => by
          rw [Hx.out] at hz
          injection hz with hz
          rw [← hz, ← Hla.out, ← Hlx.out]; exact hab)
        have Hins := Lib.hid hins
        clear hins
        go_wp2_with (fail)
        go_region_held3 (fun W => W.cell? ⟨w.heap.size, 0, none⟩ = some (.int .i64 x) ∧ W.cell? ⟨w.heap.size, 1, none⟩ = some (.int .i64 y) ∧ W.cell? ⟨b1, off1 + k * 2, none⟩ = some (.int .i64 a) ∧ W.cell? ⟨b1, off1 + k * 2 + 1, none⟩ = some (.int .i64 b) ∧ Below wk.heap.size wk W)
          (first
            | exact ⟨by assumption, by assumption, by assumption, by assumption, by assumption⟩
            | exact ⟨q0, q1, hc1, hc2, below_drewN (Below.refl _ _) 1⟩)
          (first
            | (go_at_call 55; go_split_ands; first | (with_reducible refine (HF1.out _).mono ?_; rintro e wa ⟨rfl, hbwa⟩; have k0 : wa.cell? ⟨w.heap.size, 0, none⟩ = some (.int .i64 x) := cellk6 hbwa (by assumption); have k1 : wa.cell? ⟨w.heap.size, 1, none⟩ = some (.int .i64 y) := cellk6 hbwa (by assumption); have k3 : wa.cell? ⟨b1, off1 + k * 2, none⟩ = some (.int .i64 a) := cellk6 hbwa (by assumption); have k4 : wa.cell? ⟨b1, off1 + k * 2 + 1, none⟩ = some (.int .i64 b) := cellk6 hbwa (by assumption); have k5 : Below wk.heap.size wk wa := below_of (by assumption) hbwa (Below.size (by assumption))) | (with_reducible refine (HF2.out _).mono ?_; rintro e wb ⟨rfl, hbwb⟩; have k0 : wb.cell? ⟨w.heap.size, 0, none⟩ = some (.int .i64 x) := cellk6 hbwb (by assumption); have k1 : wb.cell? ⟨w.heap.size, 1, none⟩ = some (.int .i64 y) := cellk6 hbwb (by assumption); have k3 : wb.cell? ⟨b1, off1 + k * 2, none⟩ = some (.int .i64 a) := cellk6 hbwb (by assumption); have k4 : wb.cell? ⟨b1, off1 + k * 2 + 1, none⟩ = some (.int .i64 b) := cellk6 hbwb (by assumption); have k5 : Below wk.heap.size wk wb := below_of (by assumption) hbwb (Below.size (by assumption))))
            | (fail))
        have hBw : Below w0.heap.size w0 wb := below_of hB.out k5 hB.out.size
        clear q0 q1 hc1 hc2 hb1
        have hkn0 : (k : Int) ≤ (n : Int) := by omega
        have hkc0 : (k : Int) ≤ (c : Int) := by omega
        have hncI : (n : Int) ≤ (c : Int) := by omega
        have hkz : (0 : Int) ≤ (k : Int) := by omega
        obtain ⟨A11, hA11⟩ : ∃ A11, (if c = k then some ⟨b1, off1, none⟩ else some ⟨b1, off1 + k * 2, none⟩ : Option Addr) = A11 := ⟨_, rfl⟩
        have HC11 := Lib.hid (iv_cutIf6 ((HC.out.below HB0.out).below hBw) (i := k) (c := c) (by rw [Hl.out]; exact hnc))
        rw [hA11] at HC11
        have hltm := World.block_lt_of_cell? wb _ k0
        go_upto_region 4 with (fail)
        go_cut [6] (fun s6 wx => ∃ (A6 : Option Addr) (c6 : Nat), s6 = .slice A6 (1 + (n - k)) c6 ∧ wx.ownsRow wb.heap.size 51 2 (.slice A6 (1 + (n - k)) c6) (1 + (n - k)) (ivV [(x, y)] ++ ivV (l.drop k)) ∧ Below wb.heap.size wb wx)
        case first =>
          refine wp_region_held_drew (S := fun W => Below wb.heap.size wb W) (by kernel_rfl) (below_drewN (Below.refl _ _) 1) (fun Hd => ?_)
          have Hd : Below wb.heap.size wb wb.drew := below_drewN (Below.refl _ _) 1
          have Zd : wb.heap.size ≤ wb.drew.heap.size := Nat.le_refl _
          generalize World.drew wb = wd at *
          refine wpAnyH_take (i := 0) (v := ?_) rfl (by kernel_rfl) (by kernel_rfl) (by kernel_rfl) (fun _ _ _ h => h) (Or.inl ⟨by rfl, ?_⟩) Hd ?_
          rotate_left
          · intro wS hSw
            have c1 := (hSw.cell (p := ⟨w.heap.size, 0, none⟩) hltm).trans k0
            have c2 := (hSw.cell (p := ⟨w.heap.size, 1, none⟩) hltm).trans k1
            go_simp
            try with_reducible rfl
          try simp only [List.getElem_toArray, List.getElem_cons_zero, List.getElem_cons_succ, Act.put, List.setIfInBounds_toArray, List.set_cons_zero, List.set_cons_succ]
          refine wpAnyH_take (i := 2) (v := ?_) rfl (by kernel_rfl) (by kernel_rfl) (by kernel_rfl) (fun _ _ _ h => h) (Or.inl ⟨by rfl, ?_⟩) Hd ?_
          rotate_left
          · intro wS hSw
            go_simp
            try with_reducible rfl
          try simp only [List.getElem_toArray, List.getElem_cons_zero, List.getElem_cons_succ, Act.put, List.setIfInBounds_toArray, List.set_cons_zero, List.set_cons_succ]
          refine wpAnyH_take (i := 3) (v := ?_) rfl (by kernel_rfl) (by kernel_rfl) (by kernel_rfl) (fun _ _ _ h => h) (Or.inl ⟨by rfl, ?_⟩) Hd ?_
          rotate_left
          · intro wS hSw
            go_simp
            try with_reducible rfl
          try simp only [List.getElem_toArray, List.getElem_cons_zero, List.getElem_cons_succ, Act.put, List.setIfInBounds_toArray, List.set_cons_zero, List.set_cons_succ]
          refine wpAnyH_take (i := 4) (v := .slice A11 (n - k) (c - k)) rfl (by kernel_rfl) (by kernel_rfl) (by kernel_rfl) (fun _ _ _ h => h) (Or.inl ⟨by rfl, ?_⟩) Hd ?_
          · intro wS hSw
            go_simp
          try simp only [List.getElem_toArray, List.getElem_cons_zero, List.getElem_cons_succ, Act.put, List.setIfInBounds_toArray, List.set_cons_zero, List.set_cons_succ]
          refine wpAnyH_ready (rs := [1]) (by kernel_rfl) (by simp) (AllReadyH.cons rfl (fun K hK => ?_) AllReadyH.nil)
          go_simp
          generalize hge : World.alloc _ _ = w1_
          have own1 : w1_.ownsRow wb.heap.size 51 2 (.slice (some ⟨wd.heap.size, 0, none⟩) 1 1) 1 (ivV [(x, y)]) := by subst hge; exact World.ownsRow_lit (size := 2) wd #[.int .i64 x, .int .i64 y] 1 Zd (by unfold maxLen; omega) rfl
          have hb1 : Below wd.heap.size wd w1_ := by subst hge; exact (Below.refl _ _).alloc (Nat.le_refl _) _
          clear hge
          have Hb1 : Below wb.heap.size wb w1_ := below_of Hd hb1 Hd.size
          have Zb1 : wb.heap.size ≤ w1_.heap.size := Nat.le_trans Zd hb1.size
          refine hK.out _ _ Hb1 fun _ => ?_
          clear hK K
          try simp only [List.getElem_toArray, List.getElem_cons_zero, List.getElem_cons_succ, Act.put, List.setIfInBounds_toArray, List.set_cons_zero, List.set_cons_succ]
          refine wpAnyH_ready (rs := [5]) (by kernel_rfl) (by simp) (AllReadyH.cons rfl (fun K hK => ?_) AllReadyH.nil)
          refine step_append_cells (by rfl) (.tmp 24) (.tmp 27) 46 (by rfl) wb.heap.size 51 (.agg #[.int .i64 0, .int .i64 0]) 2 16 (by kernel_rfl) (by kernel_rfl) rfl (by omega) (.slice (some ⟨wd.heap.size, 0, none⟩) 1 1) (1) (ivV [(x, y)]) own1 (by rfl) (_) ((n - k)) (_) (ivV (l.drop k)) (by rfl) (by rw [ivV_length, List.length_drop, Hl.out] <;> omega) ((HC11.out.below Hb1)) (ivV_one _) (by unfold maxLen; omega) (by omega) Zb1 ?_
          intro v2 w2_ own2 hg2 st2
          have Hb2 : Below wb.heap.size wb w2_ := below_grown Hb1 hg2 Hb1.size (fun k hk => own_base own1 k hk)
          have Zb2 : wb.heap.size ≤ w2_.heap.size := Nat.le_trans Zb1 hg2.size
          obtain ⟨A2_, c2_, rfl, le2, lm2, -⟩ := own_form own2
          refine hK.out _ _ Hb2 fun _ => ?_
          clear hK K
          try simp only [List.getElem_toArray, List.getElem_cons_zero, List.getElem_cons_succ, Act.put, List.setIfInBounds_toArray, List.set_cons_zero, List.set_cons_succ]
          refine wpAnyH_take (i := 6) (v := ?_) rfl (by kernel_rfl) (by kernel_rfl) (by kernel_rfl) (fun _ _ _ h => h) (Or.inl ⟨by rfl, ?_⟩) Hb2 ?_
          rotate_left
          · intro wS hSw
            go_simp
            try with_reducible rfl
          try simp only [List.getElem_toArray, List.getElem_cons_zero, List.getElem_cons_succ, Act.put, List.setIfInBounds_toArray, List.set_cons_zero, List.set_cons_succ]
          refine wpAnyH_done (by kernel_rfl) ?_ _
          have hown9 := own2
          go_wp2_with (fail)
          go_meet
          exact ⟨_, _, rfl, hown9, Hb2⟩
        case rest =>
          obtain ⟨A6, c6, rfl, hown6, hb6⟩ := hcut
          have HCt := Lib.hid (show Cells wc (some ⟨b1, off1, none⟩) (ivV (l.take k)) by rw [ivV_take]; exact Cells.take_ (((HC.out.below HB0.out).below hBw).below hb6) _)
          have HO6 := Lib.hid (Cells.own hown6)
          rw [← ivV_append] at HO6
          have HBc := Lib.hid (below_of HB0.out (below_of hBw hb6 hBw.size) HB0.out.size)
          have hsz : k = k := rfl
          go_wp2_with (at_builtin; refine wpList_append_new rfl (.tmp 32) (.tmp 33) 46 rfl 51 (.agg #[.int .i64 0, .int .i64 0]) 2 16 (by kernel_rfl) (by kernel_rfl) rfl (by omega) (some ⟨b1, off1, none⟩) k (ivV (l.take k)) rfl (by rw [ivV_length, List.length_take, Hl.out, Nat.min_eq_left (by omega)]) HCt.out A6 (1 + (n - k)) c6 (ivV ([(x, y)] ++ l.drop k)) rfl (by rw [ivV_length]; simp [Hl.out] <;> omega) (by omega) HO6.out (ivV_one _) (by unfold maxLen; omega) (by omega) ?_; intro v9 w9 hown9 hb9; obtain ⟨A9, c9, rfl, hc9, hm9, -⟩ := own_form hown9)
          have hn9 : k + (1 + (n - k)) = n + 1 := by omega
          rw [hn9] at hown9 hc9
          try simp only [hn9]
          rw [← ivV_append] at hown9
          have hown10 := own_mono hown9 (HBc.out.size)
          have hfin : ivV (l.take k ++ ([(x, y)] ++ l.drop k)) = ivV (Fix.insM l (x, y)) := by rw [Hins.out]; rfl
          rw [hfin] at hown10
          go_wp2_with (fail)
          go_ret
          exact ⟨A9, c9, rfl, hown10, hc9, hm9, below_of HBc.out hb9 HBc.out.size⟩
    · obtain rfl : n = k := by omega
      have hins : Fix.insM l (x, y) = l.take n ++ (x, y) :: l.drop n := Fix.insM_at l (x, y) n (by rw [Hl.out]; omega) Hg.out (fun z hz => by
        have := (List.getElem?_eq_some_iff.1 hz).1
        rw [Hl.out] at this
        omega)
      have Hins := Lib.hid hins
      have dk : decide ((n : Int) < (n : Int)) = false := by simp
      have dk' : decide (n < n) = false := by simp
      clear hins
      go_wp2_with (fail)
      go_quiet (fail)
      generalize hge : World.drewN _ _ = wb
      have hBw : Below w0.heap.size w0 wb := by subst hge; exact below_drewN hB.out _
      have k0 : wb.cell? ⟨w.heap.size, 0, none⟩ = some (.int .i64 x) := by subst hge; exact q0
      have k1 : wb.cell? ⟨w.heap.size, 1, none⟩ = some (.int .i64 y) := by subst hge; exact q1
      clear hge q0 q1
      rcases Nat.eq_zero_or_pos n with rfl | hpos
      · clear hkc
        cases A with
        | none =>
          have hltm := World.block_lt_of_cell? wb _ k0
          go_upto_region 4 with (fail)
          go_cut [6] (fun s6 wx => ∃ (A6 : Option Addr) (c6 : Nat), s6 = .slice A6 (1 + 0) c6 ∧ wx.ownsRow wb.heap.size 51 2 (.slice A6 (1 + 0) c6) (1 + 0) (ivV [(x, y)]) ∧ Below wb.heap.size wb wx)
          case first =>
            refine wp_region_held_drew (S := fun W => Below wb.heap.size wb W) (by kernel_rfl) (below_drewN (Below.refl _ _) 1) (fun Hd => ?_)
            have Hd : Below wb.heap.size wb wb.drew := below_drewN (Below.refl _ _) 1
            have Zd : wb.heap.size ≤ wb.drew.heap.size := Nat.le_refl _
            generalize World.drew wb = wd at *
            refine wpAnyH_take (i := 0) (v := ?_) rfl (by kernel_rfl) (by kernel_rfl) (by kernel_rfl) (fun _ _ _ h => h) (Or.inl ⟨by rfl, ?_⟩) Hd ?_
            rotate_left
            · intro wS hSw
              have c1 := (hSw.cell (p := ⟨w.heap.size, 0, none⟩) hltm).trans k0
              have c2 := (hSw.cell (p := ⟨w.heap.size, 1, none⟩) hltm).trans k1
              go_simp
              try with_reducible rfl
            try simp only [List.getElem_toArray, List.getElem_cons_zero, List.getElem_cons_succ, Act.put, List.setIfInBounds_toArray, List.set_cons_zero, List.set_cons_succ]
            refine wpAnyH_take (i := 2) (v := ?_) rfl (by kernel_rfl) (by kernel_rfl) (by kernel_rfl) (fun _ _ _ h => h) (Or.inl ⟨by rfl, ?_⟩) Hd ?_
            rotate_left
            · intro wS hSw
              go_simp
              try with_reducible rfl
            try simp only [List.getElem_toArray, List.getElem_cons_zero, List.getElem_cons_succ, Act.put, List.setIfInBounds_toArray, List.set_cons_zero, List.set_cons_succ]
            refine wpAnyH_take (i := 3) (v := ?_) rfl (by kernel_rfl) (by kernel_rfl) (by kernel_rfl) (fun _ _ _ h => h) (Or.inl ⟨by rfl, ?_⟩) Hd ?_
            rotate_left
            · intro wS hSw
              go_simp
              try with_reducible rfl
            try simp only [List.getElem_toArray, List.getElem_cons_zero, List.getElem_cons_succ, Act.put, List.setIfInBounds_toArray, List.set_cons_zero, List.set_cons_succ]
            refine wpAnyH_take (i := 4) (v := ?_) rfl (by kernel_rfl) (by kernel_rfl) (by kernel_rfl) (fun _ _ _ h => h) (Or.inl ⟨by rfl, ?_⟩) Hd ?_
            rotate_left
            · intro wS hSw
              go_simp
              try with_reducible rfl
            try simp only [List.getElem_toArray, List.getElem_cons_zero, List.getElem_cons_succ, Act.put, List.setIfInBounds_toArray, List.set_cons_zero, List.set_cons_succ]
            refine wpAnyH_ready (rs := [1]) (by kernel_rfl) (by simp) (AllReadyH.cons rfl (fun K hK => ?_) AllReadyH.nil)
            go_simp
            generalize hge : World.alloc _ _ = w1_
            have own1 : w1_.ownsRow wb.heap.size 51 2 (.slice (some ⟨wd.heap.size, 0, none⟩) 1 1) 1 (ivV [(x, y)]) := by subst hge; exact World.ownsRow_lit (size := 2) wd #[.int .i64 x, .int .i64 y] 1 Zd (by unfold maxLen; omega) rfl
            have hb1 : Below wd.heap.size wd w1_ := by subst hge; exact (Below.refl _ _).alloc (Nat.le_refl _) _
            clear hge
            have Hb1 : Below wb.heap.size wb w1_ := below_of Hd hb1 Hd.size
            have Zb1 : wb.heap.size ≤ w1_.heap.size := Nat.le_trans Zd hb1.size
            refine hK.out _ _ Hb1 fun _ => ?_
            clear hK K
            try simp only [List.getElem_toArray, List.getElem_cons_zero, List.getElem_cons_succ, Act.put, List.setIfInBounds_toArray, List.set_cons_zero, List.set_cons_succ]
            refine wpAnyH_ready (rs := [5]) (by kernel_rfl) (by simp) (AllReadyH.cons rfl (fun K hK => ?_) AllReadyH.nil)
            refine step_append_cells (by rfl) (.tmp 24) (.tmp 27) 46 (by rfl) wb.heap.size 51 (.agg #[.int .i64 0, .int .i64 0]) 2 16 (by kernel_rfl) (by kernel_rfl) rfl (by omega) (.slice (some ⟨wd.heap.size, 0, none⟩) 1 1) (1) (ivV [(x, y)]) own1 (by rfl) (_) (0) (_) ([]) (by rfl) (rfl) (Cells.nil_ _ _) (fun u hu => by simp at hu) (by unfold maxLen; omega) (by omega) Zb1 ?_
            intro v2 w2_ own2 hg2 st2
            have Hb2 : Below wb.heap.size wb w2_ := below_grown Hb1 hg2 Hb1.size (fun k hk => own_base own1 k hk)
            have Zb2 : wb.heap.size ≤ w2_.heap.size := Nat.le_trans Zb1 hg2.size
            obtain ⟨A2_, c2_, rfl, le2, lm2, -⟩ := own_form own2
            refine hK.out _ _ Hb2 fun _ => ?_
            clear hK K
            try simp only [List.getElem_toArray, List.getElem_cons_zero, List.getElem_cons_succ, Act.put, List.setIfInBounds_toArray, List.set_cons_zero, List.set_cons_succ]
            refine wpAnyH_take (i := 6) (v := ?_) rfl (by kernel_rfl) (by kernel_rfl) (by kernel_rfl) (fun _ _ _ h => h) (Or.inl ⟨by rfl, ?_⟩) Hb2 ?_
            rotate_left
            · intro wS hSw
              go_simp
              try with_reducible rfl
            try simp only [List.getElem_toArray, List.getElem_cons_zero, List.getElem_cons_succ, Act.put, List.setIfInBounds_toArray, List.set_cons_zero, List.set_cons_succ]
            refine wpAnyH_done (by kernel_rfl) ?_ _
            have hown9 := own2
            rw [List.append_nil] at hown9
            go_wp2_with (fail)
            go_meet
            exact ⟨_, _, rfl, hown9, Hb2⟩
          case rest =>
            obtain ⟨A6, c6, rfl, hown6, hb6⟩ := hcut
            have HO6 := Lib.hid (Cells.own hown6)
            have HBc := Lib.hid (below_of HB0.out (below_of hBw hb6 hBw.size) HB0.out.size)
            go_wp2_with (at_builtin; refine wpList_append_new rfl (.tmp 32) (.tmp 33) 46 rfl 51 (.agg #[.int .i64 0, .int .i64 0]) 2 16 (by kernel_rfl) (by kernel_rfl) rfl (by omega) _ 0 [] rfl rfl (Cells.nil_ _ _) A6 (1 + 0) c6 (ivV [(x, y)]) rfl rfl (by omega) HO6.out (ivV_one _) (by unfold maxLen; omega) (by omega) ?_; intro v9 w9 hown9 hb9; obtain ⟨A9, c9, rfl, hc9, hm9, -⟩ := own_form hown9)
            have hl0 : l = [] := List.eq_nil_of_length_eq_zero Hl.out
            have hown10 : w9.ownsRow w.heap.size 51 2 (.slice A9 1 c9) 1 (ivV (Fix.insM l (x, y))) := by subst hl0; exact own_mono hown9 HBc.out.size
            go_wp2_with (fail)
            go_ret
            exact ⟨A9, c9, rfl, hown10, hc9, hm9, below_of HBc.out hb9 HBc.out.size⟩
        | some a =>
          have hltm := World.block_lt_of_cell? wb _ k0
          go_upto_region 4 with (fail)
          go_cut [6] (fun s6 wx => ∃ (A6 : Option Addr) (c6 : Nat), s6 = .slice A6 (1 + 0) c6 ∧ wx.ownsRow wb.heap.size 51 2 (.slice A6 (1 + 0) c6) (1 + 0) (ivV [(x, y)]) ∧ Below wb.heap.size wb wx)
          case first =>
            refine wp_region_held_drew (S := fun W => Below wb.heap.size wb W) (by kernel_rfl) (below_drewN (Below.refl _ _) 1) (fun Hd => ?_)
            have Hd : Below wb.heap.size wb wb.drew := below_drewN (Below.refl _ _) 1
            have Zd : wb.heap.size ≤ wb.drew.heap.size := Nat.le_refl _
            generalize World.drew wb = wd at *
            refine wpAnyH_take (i := 0) (v := ?_) rfl (by kernel_rfl) (by kernel_rfl) (by kernel_rfl) (fun _ _ _ h => h) (Or.inl ⟨by rfl, ?_⟩) Hd ?_
            rotate_left
            · intro wS hSw
              have c1 := (hSw.cell (p := ⟨w.heap.size, 0, none⟩) hltm).trans k0
              have c2 := (hSw.cell (p := ⟨w.heap.size, 1, none⟩) hltm).trans k1
              go_simp
              try with_reducible rfl
            try simp only [List.getElem_toArray, List.getElem_cons_zero, List.getElem_cons_succ, Act.put, List.setIfInBounds_toArray, List.set_cons_zero, List.set_cons_succ]
            refine wpAnyH_take (i := 2) (v := ?_) rfl (by kernel_rfl) (by kernel_rfl) (by kernel_rfl) (fun _ _ _ h => h) (Or.inl ⟨by rfl, ?_⟩) Hd ?_
            rotate_left
            · intro wS hSw
              go_simp
              try with_reducible rfl
            try simp only [List.getElem_toArray, List.getElem_cons_zero, List.getElem_cons_succ, Act.put, List.setIfInBounds_toArray, List.set_cons_zero, List.set_cons_succ]
            refine wpAnyH_take (i := 3) (v := ?_) rfl (by kernel_rfl) (by kernel_rfl) (by kernel_rfl) (fun _ _ _ h => h) (Or.inl ⟨by rfl, ?_⟩) Hd ?_
            rotate_left
            · intro wS hSw
              go_simp
              try with_reducible rfl
            try simp only [List.getElem_toArray, List.getElem_cons_zero, List.getElem_cons_succ, Act.put, List.setIfInBounds_toArray, List.set_cons_zero, List.set_cons_succ]
            refine wpAnyH_take (i := 4) (v := ?_) rfl (by kernel_rfl) (by kernel_rfl) (by kernel_rfl) (fun _ _ _ h => h) (Or.inl ⟨by rfl, ?_⟩) Hd ?_
            rotate_left
            · intro wS hSw
              go_simp
              try with_reducible rfl
            try simp only [List.getElem_toArray, List.getElem_cons_zero, List.getElem_cons_succ, Act.put, List.setIfInBounds_toArray, List.set_cons_zero, List.set_cons_succ]
            refine wpAnyH_ready (rs := [1]) (by kernel_rfl) (by simp) (AllReadyH.cons rfl (fun K hK => ?_) AllReadyH.nil)
            go_simp
            generalize hge : World.alloc _ _ = w1_
            have own1 : w1_.ownsRow wb.heap.size 51 2 (.slice (some ⟨wd.heap.size, 0, none⟩) 1 1) 1 (ivV [(x, y)]) := by subst hge; exact World.ownsRow_lit (size := 2) wd #[.int .i64 x, .int .i64 y] 1 Zd (by unfold maxLen; omega) rfl
            have hb1 : Below wd.heap.size wd w1_ := by subst hge; exact (Below.refl _ _).alloc (Nat.le_refl _) _
            clear hge
            have Hb1 : Below wb.heap.size wb w1_ := below_of Hd hb1 Hd.size
            have Zb1 : wb.heap.size ≤ w1_.heap.size := Nat.le_trans Zd hb1.size
            refine hK.out _ _ Hb1 fun _ => ?_
            clear hK K
            try simp only [List.getElem_toArray, List.getElem_cons_zero, List.getElem_cons_succ, Act.put, List.setIfInBounds_toArray, List.set_cons_zero, List.set_cons_succ]
            refine wpAnyH_ready (rs := [5]) (by kernel_rfl) (by simp) (AllReadyH.cons rfl (fun K hK => ?_) AllReadyH.nil)
            refine step_append_cells (by rfl) (.tmp 24) (.tmp 27) 46 (by rfl) wb.heap.size 51 (.agg #[.int .i64 0, .int .i64 0]) 2 16 (by kernel_rfl) (by kernel_rfl) rfl (by omega) (.slice (some ⟨wd.heap.size, 0, none⟩) 1 1) (1) (ivV [(x, y)]) own1 (by rfl) (_) (0) (_) ([]) (by rfl) (rfl) (Cells.nil_ _ _) (fun u hu => by simp at hu) (by unfold maxLen; omega) (by omega) Zb1 ?_
            intro v2 w2_ own2 hg2 st2
            have Hb2 : Below wb.heap.size wb w2_ := below_grown Hb1 hg2 Hb1.size (fun k hk => own_base own1 k hk)
            have Zb2 : wb.heap.size ≤ w2_.heap.size := Nat.le_trans Zb1 hg2.size
            obtain ⟨A2_, c2_, rfl, le2, lm2, -⟩ := own_form own2
            refine hK.out _ _ Hb2 fun _ => ?_
            clear hK K
            try simp only [List.getElem_toArray, List.getElem_cons_zero, List.getElem_cons_succ, Act.put, List.setIfInBounds_toArray, List.set_cons_zero, List.set_cons_succ]
            refine wpAnyH_take (i := 6) (v := ?_) rfl (by kernel_rfl) (by kernel_rfl) (by kernel_rfl) (fun _ _ _ h => h) (Or.inl ⟨by rfl, ?_⟩) Hb2 ?_
            rotate_left
            · intro wS hSw
              go_simp
              try with_reducible rfl
            try simp only [List.getElem_toArray, List.getElem_cons_zero, List.getElem_cons_succ, Act.put, List.setIfInBounds_toArray, List.set_cons_zero, List.set_cons_succ]
            refine wpAnyH_done (by kernel_rfl) ?_ _
            have hown9 := own2
            rw [List.append_nil] at hown9
            go_wp2_with (fail)
            go_meet
            exact ⟨_, _, rfl, hown9, Hb2⟩
          case rest =>
            obtain ⟨A6, c6, rfl, hown6, hb6⟩ := hcut
            have HO6 := Lib.hid (Cells.own hown6)
            have HBc := Lib.hid (below_of HB0.out (below_of hBw hb6 hBw.size) HB0.out.size)
            go_wp2_with (at_builtin; refine wpList_append_new rfl (.tmp 32) (.tmp 33) 46 rfl 51 (.agg #[.int .i64 0, .int .i64 0]) 2 16 (by kernel_rfl) (by kernel_rfl) rfl (by omega) _ 0 [] rfl rfl (Cells.nil_ _ _) A6 (1 + 0) c6 (ivV [(x, y)]) rfl rfl (by omega) HO6.out (ivV_one _) (by unfold maxLen; omega) (by omega) ?_; intro v9 w9 hown9 hb9; obtain ⟨A9, c9, rfl, hc9, hm9, -⟩ := own_form hown9)
            have hl0 : l = [] := List.eq_nil_of_length_eq_zero Hl.out
            have hown10 : w9.ownsRow w.heap.size 51 2 (.slice A9 1 c9) 1 (ivV (Fix.insM l (x, y))) := by subst hl0; exact own_mono hown9 HBc.out.size
            go_wp2_with (fail)
            go_ret
            exact ⟨A9, c9, rfl, hown10, hc9, hm9, below_of HBc.out hb9 HBc.out.size⟩
      · obtain ⟨b1, off1, rfl, hb1, -⟩ := HC.out.at_ (by rw [Hl.out]; omega)
        have hkn0 : (n : Int) ≤ (n : Int) := by omega
        have hkc0 : (n : Int) ≤ (c : Int) := by omega
        have hncI : (n : Int) ≤ (c : Int) := by omega
        have hkz : (0 : Int) ≤ (n : Int) := by omega
        obtain ⟨A11, hA11⟩ : ∃ A11, (if c = n then some ⟨b1, off1, none⟩ else some ⟨b1, off1 + n * 2, none⟩ : Option Addr) = A11 := ⟨_, rfl⟩
        have HC11 := Lib.hid (iv_cutIf6 ((HC.out.below HB0.out).below hBw) (i := n) (c := c) (by rw [Hl.out]; exact hnc))
        rw [hA11] at HC11
        have hltm := World.block_lt_of_cell? wb _ k0
        go_upto_region 4 with (fail)
        go_cut [6] (fun s6 wx => ∃ (A6 : Option Addr) (c6 : Nat), s6 = .slice A6 (1 + (0)) c6 ∧ wx.ownsRow wb.heap.size 51 2 (.slice A6 (1 + (0)) c6) (1 + (0)) (ivV [(x, y)] ++ ivV (l.drop n)) ∧ Below wb.heap.size wb wx)
        case first =>
          refine wp_region_held_drew (S := fun W => Below wb.heap.size wb W) (by kernel_rfl) (below_drewN (Below.refl _ _) 1) (fun Hd => ?_)
          have Hd : Below wb.heap.size wb wb.drew := below_drewN (Below.refl _ _) 1
          have Zd : wb.heap.size ≤ wb.drew.heap.size := Nat.le_refl _
          generalize World.drew wb = wd at *
          refine wpAnyH_take (i := 0) (v := ?_) rfl (by kernel_rfl) (by kernel_rfl) (by kernel_rfl) (fun _ _ _ h => h) (Or.inl ⟨by rfl, ?_⟩) Hd ?_
          rotate_left
          · intro wS hSw
            have c1 := (hSw.cell (p := ⟨w.heap.size, 0, none⟩) hltm).trans k0
            have c2 := (hSw.cell (p := ⟨w.heap.size, 1, none⟩) hltm).trans k1
            go_simp
            try with_reducible rfl
          try simp only [List.getElem_toArray, List.getElem_cons_zero, List.getElem_cons_succ, Act.put, List.setIfInBounds_toArray, List.set_cons_zero, List.set_cons_succ]
          refine wpAnyH_take (i := 2) (v := ?_) rfl (by kernel_rfl) (by kernel_rfl) (by kernel_rfl) (fun _ _ _ h => h) (Or.inl ⟨by rfl, ?_⟩) Hd ?_
          rotate_left
          · intro wS hSw
            go_simp
            try with_reducible rfl
          try simp only [List.getElem_toArray, List.getElem_cons_zero, List.getElem_cons_succ, Act.put, List.setIfInBounds_toArray, List.set_cons_zero, List.set_cons_succ]
          refine wpAnyH_take (i := 3) (v := ?_) rfl (by kernel_rfl) (by kernel_rfl) (by kernel_rfl) (fun _ _ _ h => h) (Or.inl ⟨by rfl, ?_⟩) Hd ?_
          rotate_left
          · intro wS hSw
            go_simp
            try with_reducible rfl
          try simp only [List.getElem_toArray, List.getElem_cons_zero, List.getElem_cons_succ, Act.put, List.setIfInBounds_toArray, List.set_cons_zero, List.set_cons_succ]
          refine wpAnyH_take (i := 4) (v := .slice A11 (0) (c - n)) rfl (by kernel_rfl) (by kernel_rfl) (by kernel_rfl) (fun _ _ _ h => h) (Or.inl ⟨by rfl, ?_⟩) Hd ?_
          · intro wS hSw
            go_simp
          try simp only [List.getElem_toArray, List.getElem_cons_zero, List.getElem_cons_succ, Act.put, List.setIfInBounds_toArray, List.set_cons_zero, List.set_cons_succ]
          refine wpAnyH_ready (rs := [1]) (by kernel_rfl) (by simp) (AllReadyH.cons rfl (fun K hK => ?_) AllReadyH.nil)
          go_simp
          generalize hge : World.alloc _ _ = w1_
          have own1 : w1_.ownsRow wb.heap.size 51 2 (.slice (some ⟨wd.heap.size, 0, none⟩) 1 1) 1 (ivV [(x, y)]) := by subst hge; exact World.ownsRow_lit (size := 2) wd #[.int .i64 x, .int .i64 y] 1 Zd (by unfold maxLen; omega) rfl
          have hb1 : Below wd.heap.size wd w1_ := by subst hge; exact (Below.refl _ _).alloc (Nat.le_refl _) _
          clear hge
          have Hb1 : Below wb.heap.size wb w1_ := below_of Hd hb1 Hd.size
          have Zb1 : wb.heap.size ≤ w1_.heap.size := Nat.le_trans Zd hb1.size
          refine hK.out _ _ Hb1 fun _ => ?_
          clear hK K
          try simp only [List.getElem_toArray, List.getElem_cons_zero, List.getElem_cons_succ, Act.put, List.setIfInBounds_toArray, List.set_cons_zero, List.set_cons_succ]
          refine wpAnyH_ready (rs := [5]) (by kernel_rfl) (by simp) (AllReadyH.cons rfl (fun K hK => ?_) AllReadyH.nil)
          refine step_append_cells (by rfl) (.tmp 24) (.tmp 27) 46 (by rfl) wb.heap.size 51 (.agg #[.int .i64 0, .int .i64 0]) 2 16 (by kernel_rfl) (by kernel_rfl) rfl (by omega) (.slice (some ⟨wd.heap.size, 0, none⟩) 1 1) (1) (ivV [(x, y)]) own1 (by rfl) (_) ((0)) (_) (ivV (l.drop n)) (by rfl) (by rw [ivV_length, List.length_drop, Hl.out] <;> omega) ((HC11.out.below Hb1)) (ivV_one _) (by unfold maxLen; omega) (by omega) Zb1 ?_
          intro v2 w2_ own2 hg2 st2
          have Hb2 : Below wb.heap.size wb w2_ := below_grown Hb1 hg2 Hb1.size (fun k hk => own_base own1 k hk)
          have Zb2 : wb.heap.size ≤ w2_.heap.size := Nat.le_trans Zb1 hg2.size
          obtain ⟨A2_, c2_, rfl, le2, lm2, -⟩ := own_form own2
          refine hK.out _ _ Hb2 fun _ => ?_
          clear hK K
          try simp only [List.getElem_toArray, List.getElem_cons_zero, List.getElem_cons_succ, Act.put, List.setIfInBounds_toArray, List.set_cons_zero, List.set_cons_succ]
          refine wpAnyH_take (i := 6) (v := ?_) rfl (by kernel_rfl) (by kernel_rfl) (by kernel_rfl) (fun _ _ _ h => h) (Or.inl ⟨by rfl, ?_⟩) Hb2 ?_
          rotate_left
          · intro wS hSw
            go_simp
            try with_reducible rfl
          try simp only [List.getElem_toArray, List.getElem_cons_zero, List.getElem_cons_succ, Act.put, List.setIfInBounds_toArray, List.set_cons_zero, List.set_cons_succ]
          refine wpAnyH_done (by kernel_rfl) ?_ _
          have hown9 := own2
          go_wp2_with (fail)
          go_meet
          exact ⟨_, _, rfl, hown9, Hb2⟩
        case rest =>
          obtain ⟨A6, c6, rfl, hown6, hb6⟩ := hcut
          have HCt := Lib.hid (show Cells wc (some ⟨b1, off1, none⟩) (ivV (l.take n)) by rw [ivV_take]; exact Cells.take_ (((HC.out.below HB0.out).below hBw).below hb6) _)
          have HO6 := Lib.hid (Cells.own hown6)
          rw [← ivV_append] at HO6
          have HBc := Lib.hid (below_of HB0.out (below_of hBw hb6 hBw.size) HB0.out.size)
          have hsz : n = n := rfl
          go_wp2_with (at_builtin; refine wpList_append_new rfl (.tmp 32) (.tmp 33) 46 rfl 51 (.agg #[.int .i64 0, .int .i64 0]) 2 16 (by kernel_rfl) (by kernel_rfl) rfl (by omega) (some ⟨b1, off1, none⟩) n (ivV (l.take n)) rfl (by rw [ivV_length, List.length_take, Hl.out, Nat.min_eq_left (by omega)]) HCt.out A6 (1 + (0)) c6 (ivV ([(x, y)] ++ l.drop n)) rfl (by rw [ivV_length]; simp [Hl.out] <;> omega) (by omega) HO6.out (ivV_one _) (by unfold maxLen; omega) (by omega) ?_; intro v9 w9 hown9 hb9; obtain ⟨A9, c9, rfl, hc9, hm9, -⟩ := own_form hown9)
          have hn9 : n + (1 + (0)) = n + 1 := by omega
          rw [hn9] at hown9 hc9
          try simp only [hn9]
          rw [← ivV_append] at hown9
          have hown10 := own_mono hown9 (HBc.out.size)
          have hfin : ivV (l.take n ++ ([(x, y)] ++ l.drop n)) = ivV (Fix.insM l (x, y)) := by rw [Hins.out]; rfl
          rw [hfin] at hown10
          go_wp2_with (fail)
          go_ret
          exact ⟨A9, c9, rfl, hown10, hc9, hm9, below_of HBc.out hb9 HBc.out.size⟩
end Go.Proofs.Ytpmkebejfnflfaa
