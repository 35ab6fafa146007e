/- The statement DigestSumSpecSaid: for all bytes and every tag, Sum and Tagged match the specification; no condition beside the row's own. -/
import Derived.Test.YtibcmlcjpoemoaaSane2
import Derived.Test.YtibcmlcjpoemoaaRow
import Derived.Test.YtibcmlcjpoemoaaLawB
import Derived.ChangeMaps5
namespace Go.Proofs.Ytibcmlcjpoemoaa
open Go.RowKit Go.WideShapes Go.ChangeShapes Go.ChangeAt
set_option linter.unusedSimpArgs false in
set_option maxRecDepth 100000 in
set_option maxHeartbeats 4000000 in
theorem DigestSumSpec_walk (w : World) (A : Option Addr) (n c : Nat) (xs : List Int) (hl : xs.length = n) (_hnc : n ≤ c) (_hcm : c ≤ maxLen) (hA0 : Cells w A (xs.map (Value.int .u8))) (hw : ∀ x ∈ xs, (Lit.int .u8 x).wf = true)
    (s : ByteArray) (_ws : s.size ≤ maxLen) (many : Int) (hmany : (Lit.int .u8 many).wf = true) :
    Calls Try.prog 3 #[.slice A n c, .string s, .int .u8 many] w (Fine w) := by
  obtain ⟨b, hb, h8, hA⟩ := open_bytes hA0 hw
  have Hb := Lib.hid (hb.trans hl)
  have H8 := Lib.hid h8
  have HA := Lib.hid hA
  have hmb := bounds_u8 hmany
  clear hA0 hw hl hb h8 hA hmany
  obtain ⟨mn, rfl⟩ := Int.eq_ofNat_of_zero_le hmb.1
  have hmn : mn ≤ 255 := by omega
  clear hmb
  by_cases hbig : 300 < n ∨ 300 < s.size
  · have h : 300 < n ∨ (n ≤ 300 ∧ 300 < s.size) := by omega
    clear hbig
    rcases h with h | ⟨h, h1⟩
    · have q : decide ((300 : Int) < (n : Int)) = true := by simp; omega
      have q2 : decide (300 < n) = true := by simp; omega
      go_enter Try.func3, Try.ntmps3
      go_wp2_with (fail)
      refine (sane_any _).mono ?_
      rintro e w1 ⟨rfl, hb1⟩
      go_wp2_with (fail)
      go_ret
      exact ⟨rfl, hb1⟩
    · have q : decide ((300 : Int) < (n : Int)) = false := by simp; omega
      have q2 : decide (300 < n) = false := by simp; omega
      have q3 : decide ((300 : Int) < (s.size : Int)) = true := by simp; omega
      have q4 : decide (300 < s.size) = true := by simp; omega
      go_enter Try.func3, Try.ntmps3
      go_wp2_with (fail)
      refine (sane_any _).mono ?_
      rintro e w1 ⟨rfl, hb1⟩
      go_wp2_with (fail)
      go_ret
      exact ⟨rfl, hb1⟩
  · have hs6 : s.size ≤ 300 := by omega
    have hn6 : n ≤ 300 := by omega
    have q : decide ((300 : Int) < (s.size : Int)) = false := by simp; omega
    have q2 : decide (300 < s.size) = false := by simp; omega
    have q3 : decide ((300 : Int) < (n : Int)) = false := by simp; omega
    have q4 : decide (300 < n) = false := by simp; omega
    obtain ⟨g, hg⟩ : ∃ g, mn + 20 = g := ⟨_, rfl⟩
    have hgI : (mn : Int) + 20 = (g : Int) := by omega
    have hg2 : g ≤ 275 := by omega
    obtain ⟨mk, hmk, hmk1, hmk2, hmk3⟩ := make_letter (P := Try.prog) 22 5 (.int .u8 0) 1 (by kernel_rfl) (by kernel_rfl) rfl g (by omega) (by omega)
    have Hmk1 := Lib.hid hmk1
    have Hmk2 := Lib.hid hmk2
    clear hmk1 hmk2 hbig hg
    go_enter Try.func3, Try.ntmps3
    go_wp2_with (fail)
    refine (sane_any _).mono ?_
    rintro e w0 ⟨rfl, hb0⟩
    go_wp2_with (fail)
    have HG := Lib.hid (show Blk (mk w0) w0.heap.size 5 (arrK .u8 (List.replicate g 0)) by have := Hmk1.out w0; rwa [rep_arrK] at this)
    have HB1 := Lib.hid (hb0.trans ((Hmk2.out w0).mono hb0.size))
    have hG0 : w.heap.size ≤ w0.heap.size := hb0.size
    obtain ⟨G, hG⟩ : ∃ G, w0.heap.size = G := ⟨_, rfl⟩
    obtain ⟨w1, hw1⟩ : ∃ W, mk w0 = W := ⟨_, rfl⟩
    rw [hG, hw1] at HG
    rw [hw1] at HB1
    rw [hG] at hG0
    rw [hG, hw1]
    have HG0 := Lib.hid hG0
    clear hG hw1 hb0 hmk hmk3 hG0
    go_loopw [27] (fun i wr => ∃ (k : Nat) (lg : List Nat), k ≤ g ∧ i = .int .i64 k ∧ Hid (lg.length = g) ∧ Hid (ByteL lg) ∧ Hid (Blk wr G 5 (arrK .u8 lg)) ∧ Hid (w1.grownBy wr (some G))) (fun i _ => g - (intOf i).toNat)
    case atStart => exact ⟨0, List.replicate g 0, by omega, rfl, List.length_replicate, (fun j => by
      rw [List.getD_eq_getElem?_getD, List.getElem?_replicate]
      split <;> decide), HG.out, World.grownBy.refl _ _⟩
    case round =>
      obtain ⟨k, lg, hk, rfl, Hlg, Hlb, Hbk, hgr⟩ := hrel
      by_cases hlk : k < g
      · have hdk : decide ((k : Int) < (g : Int)) = true := by simp; omega
        have hdk2 : decide (k < g) = true := by simp; omega
        have hkI : (k : Int) < (g : Int) := by omega
        have hkI2 : (k : Int) ≤ 275 := by omega
        have e1 := Hbk.out.word (i := k) (by rw [Hlg.out]; exact hlk)
        have f1 := Hbk.out.frozen k
        have hby : IntKind.u8.wrap (k : Int) = ((k % 256 : Nat) : Int) := by rw [IntKind.wrap_u8]; omega
        have Hb2 := Hbk.out.put k (k % 256)
        generalize lg.getD k 0 = old at *
        obtain ⟨kb, hkb⟩ : ∃ x, k % 256 = x := ⟨_, rfl⟩
        rw [hkb] at hby Hb2
        have hkb2 : kb < 256 := by omega
        have hg2' := grown_trans hgr.out (grown_setCell wr ⟨G, k, none⟩ (.int .u8 (kb : Int)))
        by_cases hn0 : 0 < n
        · have hdn : decide ((0 : Int) < (n : Int)) = true := by simp; omega
          have hdn2 : decide (0 < n) = true := by simp; omega
          obtain ⟨m, hm⟩ : ∃ m, k % n = m := ⟨_, rfl⟩
          have hmn2 : m < n := by rw [← hm]; exact Nat.mod_lt _ hn0
          have hmI : (k : Int).tmod (n : Int) = (m : Int) := by rw [Int.tmod_eq_emod_of_nonneg (by omega)]; rw [← hm]; simp
          have hmI2 : (k : Int) % (n : Int) = (m : Int) := by rw [← hm]; simp
          have hmI3 : (m : Int) < (n : Int) := by omega
          obtain ⟨ba, bo, rfl, hbl, hcell⟩ := Cells.addr HA.out (by rw [bytesV_length, Hb.out]; exact hn0)
          have ec : wr.cell? ⟨ba, bo + m, none⟩ = some (.int .u8 ((b.getD m 0 : Nat) : Int)) := by
            have h1 := below_grown HB1.out hgr.out (by have := HB1.out.size; omega) (by simp; exact HG0.out)
            exact (h1.cell (p := ⟨ba, bo + m, none⟩) hbl).trans (hcell m _ (bytesV_get (by rw [Hb.out]; exact hmn2)))
          have ec2 : (wr.setCell ⟨G, k, none⟩ (.int .u8 (kb : Int))).cell? ⟨ba, bo + m, none⟩ = some (.int .u8 ((b.getD m 0 : Nat) : Int)) := by
            rw [World.cell?_setCell_other _ _ _ _ (by intro e; injection e with e; have := HG0.out; omega)]; exact ec
          have e2 := Hb2.word (i := k) (by rw [List.length_set, Hlg.out]; exact hlk)
          have f2 := Hb2.frozen k
          have Hb3 := Lib.hid (Hb2.put k (b.getD m 0))
          have hb8 := H8.out m
          have Hlb2 := Lib.hid ((Hlb.out.set k kb hkb2).set k (b.getD m 0) hb8)
          have hg3 := Lib.hid (grown_trans hg2' (grown_setCell _ ⟨G, k, none⟩ (.int .u8 ((b.getD m 0 : Nat) : Int))))
          generalize b.getD m 0 = bv at *
          generalize (lg.set k kb).getD k 0 = old2 at *
          clear hkb hcell hg2' Hb2 hm ec
          go_wp2_with (fail)
          go_roundw
          case rel => exact ⟨k + 1, (lg.set k kb).set k bv, by omega, by go_num, by show _ = _; simp [Hlg.out], Hlb2.out, Hb3.out, hg3.out⟩
          case measure => simp [intOf]; omega
        · have hdn : decide ((0 : Int) < (n : Int)) = false := by simp; omega
          have hdn2 : decide (0 < n) = false := by simp; omega
          have Hb3 := Lib.hid Hb2
          have Hlb2 := Lib.hid (Hlb.out.set k kb hkb2)
          have hg3 := Lib.hid hg2'
          clear hkb hg2' Hb2
          go_wp2_with (fail)
          go_roundw
          case rel => exact ⟨k + 1, lg.set k kb, by omega, by go_num, by show _ = _; simp [Hlg.out], Hlb2.out, Hb3.out, hg3.out⟩
          case measure => simp [intOf]; omega
      · have hdk : decide ((k : Int) < (g : Int)) = false := by simp; omega
        have hdk2 : decide (k < g) = false := by simp; omega
        have HB2 := Lib.hid (below_grown HB1.out hgr.out (by have := HB1.out.size; omega) (by simp; exact HG0.out))
        have CL := Lib.hid (bytes_lit lg Hbk.out)
        have HA2 := Lib.hid (HA.out.below HB2.out)
        obtain ⟨wo, rfl⟩ : ∃ wo : World, wo = wr := ⟨_, rfl⟩
        go_wp2_with (fail)
        generalize hge : World.alloc _ _ = w3
        have HS3 := Lib.hid (show Blk w3 wo.heap.size 22 #[.slice A n c, .slice (some ⟨G, 0, none⟩) g g] by subst hge; exact Blk.new wo _ _)
        have hb3 : Below wo.heap.size wo w3 := by subst hge; exact (Below.refl _ _).alloc (Nat.le_refl _) _
        have HA3 := Lib.hid (HA2.out.below hb3)
        have CL3 := Lib.hid (CL.out.below hb3)
        have HB3 := Lib.hid (HB2.out.trans (hb3.mono HB2.out.size))
        clear hge hb3
        obtain ⟨L, hL⟩ : ∃ L, wo.heap.size = L := ⟨_, rfl⟩
        rw [hL] at HS3
        rw [hL]
        clear hL
        go_loopw [53] (fun i wr => ∃ k : Nat, k ≤ 2 ∧ i = .int .i64 k ∧ Hid (Below w3.heap.size w3 wr)) (fun i _ => 2 - (intOf i).toNat)
        case atStart => exact ⟨0, by omega, rfl, Below.refl _ _⟩
        case round =>
          obtain ⟨k, hk, rfl, hbw⟩ := hrel
          by_cases hlk : k < 2
          · have hdk : decide ((k : Int) < 2) = true := by simp; omega
            obtain ⟨A', n', c', l', f, hn', hl', hb', hc'⟩ : ∃ A' n' c' l', wr.cell? ⟨L, k, none⟩ = some (.slice A' n' c') ∧ n' ≤ 300 ∧ l'.length = n' ∧ ByteL l' ∧ Cells wr A' (bytesV l') := by
              have hS := HS3.out.below hbw.out
              match k, hlk with
              | 0, _ => exact ⟨A, n, c, b, hS.cell 0, hn6, Hb.out, H8.out, HA3.out.below hbw.out⟩
              | 1, _ => exact ⟨some ⟨G, 0, none⟩, g, g, lg, hS.cell 1, by omega, Hlg.out, Hlb.out, CL3.out.below hbw.out⟩
            have Hl' := Lib.hid hl'; have Hb' := Lib.hid hb'; have Hc' := Lib.hid hc'
            have H1 := Lib.hid (fun W (h : Cells W A' (bytesV l')) => sum_any A' n' c' l' W h hl' (by omega) hb')
            have H2 := Lib.hid (fun W (h : Cells W A' (bytesV l')) => rsum_any A' n' c' l' W h hl' (by omega) hb')
            have H3 := Lib.hid (fun W (h : Cells W A' (bytesV l')) => tagged_any s A' n' c' l' W h hl' (by omega) hb' (by omega))
            have H4 := Lib.hid (fun W (h : Cells W A' (bytesV l')) => rtagged_any s A' n' c' l' W h hl' (by omega) hb' (by omega))
            have D1 := sha_isD l'
            have D2 := tagS_isD (strL s) l'
            generalize sha l' = r1 at *
            generalize tagS (strL s) l' = r2 at *
            have hE1 : ∀ W, (Op.equalIn 10000 26 (.agg (arrK .u8 r1)) (.agg (arrK .u8 r1))).run Try.prog W = .ok true W := fun W => by
              have := run_eqD D1 D1 W
              simpa using this
            have hE2 : ∀ W, (Op.equalIn 10000 26 (.agg (arrK .u8 r2)) (.agg (arrK .u8 r2))).run Try.prog W = .ok true W := fun W => by
              have := run_eqD D2 D2 W
              simpa using this
            have hwI : 0 ≤ k := by omega
            clear hl' hb' hc' D1 D2 hwI
            go_wp2_with (fail)
            refine (H1.out _ Hc'.out).mono ?_
            rintro e w4 ⟨rfl, hb4⟩
            have Hb4 := Lib.hid hb4
            clear hb4
            go_wp2_with (fail)
            refine (H2.out _ (Hc'.out.below Hb4.out)).mono ?_
            rintro e w5 ⟨rfl, hb5⟩
            have Hb5 := Lib.hid (Hb4.out.trans (hb5.mono Hb4.out.size))
            clear hb5
            go_wp2_with (fail)
            refine (H3.out _ (Hc'.out.below Hb5.out)).mono ?_
            rintro e w6 ⟨rfl, hb6⟩
            have Hb6 := Lib.hid (Hb5.out.trans (hb6.mono Hb5.out.size))
            clear hb6
            go_wp2_with (fail)
            refine (H4.out _ (Hc'.out.below Hb6.out)).mono ?_
            rintro e w7 ⟨rfl, hb7⟩
            have Hb7 := Lib.hid (hbw.out.trans ((Hb6.out.trans (hb7.mono Hb6.out.size)).mono hbw.out.size))
            clear hb7
            go_wp2_with (fail)
            go_roundw
            case rel => exact ⟨k + 1, by omega, by go_num, Hb7.out⟩
            case measure => simp [intOf]; omega
          · have hdk : decide ((k : Int) < 2) = false := by simp; omega
            go_wp2_with (fail)
            go_ret
            exact ⟨rfl, HB3.out.trans (hbw.out.mono HB3.out.size)⟩
-- the row
theorem digestSumSpec_own : ownKnob Try.prog.godebug = none := by kernel_rfl
theorem digestSumSpec_laidOut : laidOutB Try.prog = true := by kernel_rfl
theorem digestSumSpec_readable : (Try.f3.params.toList.all fun t => Try.prog.readableRec t && decide (t < Try.prog.types.size)) = true := by kernel_rfl
set_option maxRecDepth 100000 in
theorem digestSumSpec_lifted (os : Os) (started : os.Started) (H : Type) (enc : TypeId × Value → H) :
    ReturnsInHanded {} Try.checked os 3 .any (Rows.digestSumSpecSpec.pre6 enc Try.prog Try.f3 Rows.digestSumSpecRow.domain false) (Rows.digestSumSpecSpec.post enc Try.prog Try.f3 false true false false) := by
  refine returnsInHanded_of_change (C := Try.checked) digestSumSpec_own started (by kernel_rfl) Try.func3
    (ChangeSpec.witness6 (enc := enc) (C := Try.checked) false ⟨#[], #[.slice none 0 0, .string ⟨#[]⟩, .int .u8 0], []⟩ 8 (by kernel_rfl) (by kernel_rfl) (by kernel_rfl) (by kernel_rfl)) ?_
  intro W base args ds gs before hval0 hW hcnd _
  have hval : ∀ (j : Nat) t v, Try.f3.params[j]? = some t → args[j]? = some v → Value.okWide Try.prog W .any base t v := hval0
  have hW' := hW
  obtain ⟨p, q, hA0, hV, rfl, hfz, hnd⟩ := hW
  have hA : DataW.TrodAll enc Try.prog W 0 (fun _ => true) true Try.f3.params.toList args.toList ds p := hA0
  rw [Try.params3] at hA hval
  obtain ⟨v0, vs0, d0, ds0, p0, q0, hargs, rfl, rfl, h0, r0⟩ := trodAll_cons hA
  obtain ⟨v1, vs1, d1, ds1, p1, q1, rfl, rfl, rfl, h1, r1⟩ := trodAll_cons r0
  obtain ⟨v2, vs2, d2, ds2, p2, q2, rfl, rfl, rfl, h2, r2⟩ := trodAll_cons r1
  obtain ⟨rfl, rfl, rfl⟩ := trodAll_nil r2
  obtain rfl : args = #[v0, v1, v2] := by cases args; simp_all
  obtain ⟨rfl, rfl⟩ := trodVars_none hV
  obtain ⟨A0, n0, c0, xs0, rfl, l0, nc0, cm0, g0, w0⟩ := open_intslice Try.underlying22 Try.underlying5 (by kernel_rfl) (hval 0 22 v0 rfl rfl) h0
  obtain ⟨s1, rfl, rfl, rfl, w1⟩ := Go.ChangeMaps.open_string Try.underlying9 (hval 1 9 v1 rfl rfl) h1
  obtain ⟨a2, rfl, rfl, rfl, w2⟩ := open_int Try.underlying5 (hval 2 5 v2 rfl rfl) h2
  refine (DigestSumSpec_walk W A0 n0 c0 xs0 l0 nc0 cm0 g0 w0 s1 w1 a2 w2).mono fun e W' ⟨he, hb⟩ => ?_
  subst he
  simp only [List.append_nil] at hW'
  refine ⟨_, rfl, law_post digestSumSpec_laidOut ?_ (by kernel_rfl) Try.underlying4 rfl hW' rfl rfl rfl hb⟩
  intro t ht
  have hr := List.all_eq_true.1 digestSumSpec_readable t ht
  rw [Bool.and_eq_true] at hr
  exact ⟨hr.1, of_decide_eq_true hr.2⟩
theorem digestSumSpec_over : Rows.digestSumSpecRow.holds Try.pinned (OpenSpec.ofChange Rows.digestSumSpecSpec) :=
  OpenClaim.holds_of_wide 3 Try.f3 rfl rfl rfl rfl rfl rfl rfl ⟨rfl, rfl, rfl, rfl, rfl⟩ rfl rfl rfl rfl rfl (by kernel_rfl) Try.func3 (by kernel_rfl)
    (of_decide_eq_true (by kernel_rfl)) (by unfold Func.isWrapper; rw [if_neg (of_decide_eq_false (by kernel_rfl))]; exact ⟨rfl, rfl⟩)
    (fun os started H enc _ => digestSumSpec_lifted os started H enc)
theorem digestSumSpec_proved : Rows.DigestSumSpecSaid := digestSumSpec_over
#print axioms digestSumSpec_proved
end Go.Proofs.Ytibcmlcjpoemoaa
