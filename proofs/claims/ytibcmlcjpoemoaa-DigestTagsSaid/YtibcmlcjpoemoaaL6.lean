/- The statement DigestTagsSaid: for every tag and all bytes, Tagged is the hash of the hash of the tag and the bytes; no condition beside the row's own. -/
import Derived.Test.YtibcmlcjpoemoaaSane2
import Derived.Test.YtibcmlcjpoemoaaRow
import Derived.Test.YtibcmlcjpoemoaaLawB
import Derived.ChangeMaps5
namespace Go.Proofs.Ytibcmlcjpoemoaa
open Go.RowKit Go.WideShapes Go.ChangeShapes Go.ChangeAt
set_option linter.unusedSimpArgs false in
set_option maxRecDepth 100000 in
set_option maxHeartbeats 4000000 in
theorem DigestTags_walk (w : World) (s : ByteArray) (_ws : s.size ≤ maxLen) (A : Option Addr) (n c : Nat) (xs : List Int) (hl : xs.length = n) (_hnc : n ≤ c) (_hcm : c ≤ maxLen) (hA0 : Cells w A (xs.map (Value.int .u8))) (hw : ∀ x ∈ xs, (Lit.int .u8 x).wf = true) :
    Calls Try.prog 6 #[.string s, .slice A n c] w (Fine w) := by
  obtain ⟨b, hb, h8, hA⟩ := open_bytes hA0 hw
  have Hb := Lib.hid (hb.trans hl)
  have H8 := Lib.hid h8
  have HA := Lib.hid hA
  clear hA0 hw hl hb h8 hA
  by_cases hbig : 600 < s.size ∨ 600 < n
  · have h : 600 < s.size ∨ (s.size ≤ 600 ∧ 600 < n) := by omega
    clear hbig
    rcases h with h | ⟨h, h1⟩
    · have q : decide ((600 : Int) < (s.size : Int)) = true := by simp; omega
      have q2 : decide (600 < s.size) = true := by simp; omega
      go_enter Try.func6, Try.ntmps6
      go_wp2_with (fail)
      refine (sane_any _).mono ?_
      rintro e w1 ⟨rfl, hb1⟩
      go_wp2_with (fail)
      go_ret
      exact ⟨rfl, hb1⟩
    · have q : decide ((600 : Int) < (s.size : Int)) = false := by simp; omega
      have q2 : decide (600 < s.size) = false := by simp; omega
      have q3 : decide ((600 : Int) < (n : Int)) = true := by simp; omega
      have q4 : decide (600 < n) = true := by simp; omega
      go_enter Try.func6, Try.ntmps6
      go_wp2_with (fail)
      refine (sane_any _).mono ?_
      rintro e w1 ⟨rfl, hb1⟩
      go_wp2_with (fail)
      go_ret
      exact ⟨rfl, hb1⟩
  · have hs6 : s.size ≤ 600 := by omega
    have hn6 : n ≤ 600 := by omega
    have q : decide ((600 : Int) < (s.size : Int)) = false := by simp; omega
    have q2 : decide (600 < s.size) = false := by simp; omega
    have q3 : decide ((600 : Int) < (n : Int)) = false := by simp; omega
    have q4 : decide (600 < n) = false := by simp; omega
    obtain ⟨cv, cp, hcv, hcv1, hcv2, hcv3⟩ := conv_letter (P := Try.prog) 9 22 5 s (by kernel_rfl) (by kernel_rfl) (by kernel_rfl)
    have Hcv1 := Lib.hid hcv1
    have Hcv2 := Lib.hid hcv2
    clear hcv1 hcv2 hbig
    go_enter Try.func6, Try.ntmps6
    go_wp2_with (fail)
    refine (sane_any _).mono ?_
    rintro e w0 ⟨rfl, hb0⟩
    go_wp2_with (fail)
    refine (sum_any _ _ _ (strL s) _ (Hcv1.out w0) (strL_length s) (by omega) (strL_byte s)).mono ?_
    rintro e w1 ⟨rfl, hb1⟩
    have HB1 := Lib.hid (hb0.trans (((Hcv2.out w0).trans (hb1.mono (Hcv2.out w0).size)).mono hb0.size))
    have ls := sha_length (strL s)
    have etag := tagS_eq (strL s) b
    clear hb1 hb0
    generalize hsh : sha (strL s) = sh at *
    have Hsh := Lib.hid hsh
    have Ls := Lib.hid ls
    have Etag := Lib.hid etag
    clear hsh ls hcv hcv3 etag
    go_wp2_with (
      (refine wpList_put_blk rfl 26 (.tmp 5) (.tmp 18) rfl w1.heap.size (arrK .u8 sh) rfl rfl 26 (arrK .u8 z32) (Blk.new w1 26 (arrK .u8 z32)) (info32 Ls.out) (by rw [len32 Ls.out, len32 z32_length]) (arrK_all _ _) ?_
       intro w2 HD2 hg2 hz2
       have hb2 : Below w1.heap.size w1 w2 := below_grown ((Below.refl w1.heap.size w1).alloc (Nat.le_refl _) (.cells (arrK .u8 z32) 26)) hg2 (by simp) (by simp)
       have C2 := Lib.hid (show Cells w2 (some ⟨w1.heap.size, 0, none⟩) (bytesV sh) by have := cells_blk HD2; rwa [arrK_bytesV] at this)
       have HB2 := Lib.hid (HB1.out.trans (hb2.mono HB1.out.size))
       clear hg2 hz2 hb2 HD2))
    obtain ⟨r, hr⟩ : ∃ r, sha (sh ++ b) = r := ⟨_, rfl⟩
    have Dr := Lib.hid (show IsD r by rw [← hr]; exact sha_isD _)
    have hEq : ∀ W, (Op.equalIn 10000 26 (.agg (arrK .u8 r)) (.agg (arrK .u8 r))).run Try.prog W = .ok true W := fun W => by
      have := run_eqD Dr.out Dr.out W
      simpa using this
    have HT := Lib.hid (fun W (h : Cells W A (bytesV b)) => tagged_any s A n c b W h Hb.out (by omega) H8.out (by omega))
    rw [Etag.out, hr] at HT
    have HSm := Lib.hid (fun A' c' m W (h : Cells W A' (bytesV (sh ++ b))) (hm : (sh ++ b).length = m) => sum_any A' m c' (sh ++ b) W h hm (by rw [← hm, List.length_append, Ls.out, Hb.out]; omega) ((by rw [← Hsh.out]; exact sha_byte _ : ByteL sh).append H8.out))
    rw [hr] at HSm
    clear hr
    go_region_held3 (fun W => Below w2.heap.size w2 W) (first | assumption | exact below_drewN (Below.refl _ _) 1 | exact Below.alloc (by assumption) (Below.size (by assumption)) _)
      (first
        | (go_at_call 11; refine (HSm.out _ _ _ _ (by have := Cells.own Hown5.out; rwa [List.nil_append, ← bytesV_append] at this) (by rw [List.length_append, Ls.out, Hb.out])).mono ?_; rintro e w6 ⟨rfl, hb6⟩; have hb6' : Below w2.heap.size w2 w6 := below_of (by assumption) hb6 (Below.size (by assumption)))
        | ((refine step_append_cells (by rfl) (.tmp 24) (.tmp 25) 22 (by rfl) w2.heap.size 5 (.int .u8 0) 1 1 (by kernel_rfl) (by kernel_rfl) rfl (by omega) v4 (0 + 32) ([] ++ bytesV sh) Hown4.out (by rfl) A n c (bytesV b) (by rfl) (by rw [bytesV_length, Hb.out, Nat.mul_one]) (by exact HA.out.below (below_of HB2.out (by assumption) HB2.out.size)) (bytesV_one _) (by unfold maxLen; omega) (by omega) (Below.size (by assumption)) ?_; intro v5 w5 hown5 hg5 _; obtain ⟨A5, c5, rfl, -, -, -⟩ := own_form hown5; have hb5 : Below w2.heap.size w2 w5 := below_grown (by assumption) hg5 (Below.size (by assumption)) (own_base Hown4.out); have Hown5 := Lib.hid hown5; clear hown5))
        | ((refine step_append_cells (by rfl) (.tmp 22) (.tmp 23) 22 (by rfl) w2.heap.size 5 (.int .u8 0) 1 1 (by kernel_rfl) (by kernel_rfl) rfl (by omega) (.slice (some ⟨w3.heap.size, 0, none⟩) 0 0) 0 [] (by exact World.ownsRow_lit (size := 1) _ #[] 0 (Below.size (by assumption)) (Nat.zero_le _) rfl) (by rfl) (some ⟨w1.heap.size, 0, none⟩) 32 32 (bytesV sh) (by rfl) (by rw [bytesV_length, Ls.out]) (by exact C2.out.below (by assumption)) (bytesV_one _) (by unfold maxLen; omega) (by omega) (Below.size (by assumption)) ?_; intro v4 w4 hown4 hg4 _; have hb4 : Below w2.heap.size w2 w4 := below_grown (by assumption) hg4 (Below.size (by assumption)) (by intro k hk; simp [Value.ownBlock] at hk; have := hb3'.size; omega); have Hown4 := Lib.hid hown4; clear hown4))
        | ((refine step_append_cells (by rfl) (.tmp 22) (.tmp 23) 22 (by rfl) w2.heap.size 5 (.int .u8 0) 1 1 (by kernel_rfl) (by kernel_rfl) rfl (by omega) (.slice (some ⟨w2.heap.size, 0, none⟩) 0 0) 0 [] (by first | exact own_below (World.ownsRow.drew (World.ownsRow_lit (size := 1) w2 #[] 0 (Nat.le_refl _) (Nat.zero_le _) rfl)) hb3 | exact own_below (World.ownsRow_lit (size := 1) _ #[] 0 (Nat.le_refl _) (Nat.zero_le _) rfl) hb3 | exact World.ownsRow_lit (size := 1) _ #[] 0 (Nat.le_refl _) (Nat.zero_le _) rfl) (by rfl) (some ⟨w1.heap.size, 0, none⟩) 32 32 (bytesV sh) (by rfl) (by rw [bytesV_length, Ls.out]) (by exact C2.out.below (by assumption)) (bytesV_one _) (by unfold maxLen; omega) (by omega) (Below.size (by assumption)) ?_; intro v4 w4 hown4 hg4 _; have hb4 : Below w2.heap.size w2 w4 := below_grown (by assumption) hg4 (Below.size (by assumption)) (by intro k hk; simp [Value.ownBlock] at hk; omega); have Hown4 := Lib.hid hown4; clear hown4))
        | (go_at_call 13; refine (HT.out _ (HA.out.below (below_of HB2.out (by assumption) HB2.out.size))).mono ?_; rintro e w3 ⟨rfl, hb3⟩; have hb3' : Below w2.heap.size w2 w3 := below_of (by assumption) hb3 (Below.size (by assumption)))
        | (fail))
    all_goals
      go_wp2_with (fail)
      go_ret
      exact ⟨rfl, below_of HB2.out (by assumption) HB2.out.size⟩
-- the row
theorem digestTags_own : ownKnob Try.prog.godebug = none := by kernel_rfl
theorem digestTags_laidOut : laidOutB Try.prog = true := by kernel_rfl
theorem digestTags_readable : (Try.f6.params.toList.all fun t => Try.prog.readableRec t && decide (t < Try.prog.types.size)) = true := by kernel_rfl
set_option maxRecDepth 100000 in
theorem digestTags_lifted (os : Os) (started : os.Started) (H : Type) (enc : TypeId × Value → H) :
    ReturnsInHanded {} Try.checked os 6 .any (Rows.digestTagsSpec.pre6 enc Try.prog Try.f6 Rows.digestTagsRow.domain false) (Rows.digestTagsSpec.post enc Try.prog Try.f6 false true false false) := by
  refine returnsInHanded_of_change (C := Try.checked) digestTags_own started (by kernel_rfl) Try.func6
    (ChangeSpec.witness6 (enc := enc) (C := Try.checked) false ⟨#[], #[.string ⟨#[]⟩, .slice none 0 0], []⟩ 8 (by kernel_rfl) (by kernel_rfl) (by kernel_rfl) (by kernel_rfl)) ?_
  intro W base args ds gs before hval0 hW hcnd _
  have hval : ∀ (j : Nat) t v, Try.f6.params[j]? = some t → args[j]? = some v → Value.okWide Try.prog W .any base t v := hval0
  have hW' := hW
  obtain ⟨p, q, hA0, hV, rfl, hfz, hnd⟩ := hW
  have hA : DataW.TrodAll enc Try.prog W 0 (fun _ => true) true Try.f6.params.toList args.toList ds p := hA0
  rw [Try.params6] at hA hval
  obtain ⟨v0, vs0, d0, ds0, p0, q0, hargs, rfl, rfl, h0, r0⟩ := trodAll_cons hA
  obtain ⟨v1, vs1, d1, ds1, p1, q1, rfl, rfl, rfl, h1, r1⟩ := trodAll_cons r0
  obtain ⟨rfl, rfl, rfl⟩ := trodAll_nil r1
  obtain rfl : args = #[v0, v1] := by cases args; simp_all
  obtain ⟨rfl, rfl⟩ := trodVars_none hV
  obtain ⟨s0, rfl, rfl, rfl, w0⟩ := Go.ChangeMaps.open_string Try.underlying9 (hval 0 9 v0 rfl rfl) h0
  obtain ⟨A1, n1, c1, xs1, rfl, l1, nc1, cm1, g1, w1⟩ := open_intslice Try.underlying22 Try.underlying5 (by kernel_rfl) (hval 1 22 v1 rfl rfl) h1
  refine (DigestTags_walk W s0 w0 A1 n1 c1 xs1 l1 nc1 cm1 g1 w1).mono fun e W' ⟨he, hb⟩ => ?_
  subst he
  simp only [List.append_nil] at hW'
  refine ⟨_, rfl, law_post digestTags_laidOut ?_ (by kernel_rfl) Try.underlying4 rfl hW' rfl rfl rfl hb⟩
  intro t ht
  have hr := List.all_eq_true.1 digestTags_readable t ht
  rw [Bool.and_eq_true] at hr
  exact ⟨hr.1, of_decide_eq_true hr.2⟩
theorem digestTags_over : Rows.digestTagsRow.holds Try.pinned (OpenSpec.ofChange Rows.digestTagsSpec) :=
  OpenClaim.holds_of_wide 6 Try.f6 rfl rfl rfl rfl rfl rfl rfl ⟨rfl, rfl, rfl, rfl, rfl⟩ rfl rfl rfl rfl rfl (by kernel_rfl) Try.func6 (by kernel_rfl)
    (of_decide_eq_true (by kernel_rfl)) (by unfold Func.isWrapper; rw [if_neg (of_decide_eq_false (by kernel_rfl))]; exact ⟨rfl, rfl⟩)
    (fun os started H enc _ => digestTags_lifted os started H enc)
theorem digestTags_proved : Rows.DigestTagsSaid := digestTags_over
#print axioms digestTags_proved
end Go.Proofs.Ytibcmlcjpoemoaa
