/- The walk of the reference's Circle (fixtures). -/
import Derived.Test.YtpmkebejfnflfaaFRf6
import Derived.Test.YtpmkebejfnflfaaFCl
import Derived.Test.YtpmkebejfnflfaaFCirF
namespace Go.Proofs.Ytpmkebejfnflfaa
open Go.RowKit Go.Shelf Go.Lib
attribute [local go_sem] Oper.semAt_some
set_option linter.unusedVariables false
set_option linter.unusedSimpArgs false
theorem rcirc_results {tmps : Array Value} {w : World} {L : Nat} {v e : Value} (h4 : tmps.getD 4 undef = .pointer (some ⟨L, 0, none⟩)) (h5 : tmps.getD 5 undef = e) (hb : Blk w L 26 #[v]) :
    (results Try.f12 tmps).run Try.prog w = .ok (.tuple #[.agg #[v], e]) w := by
  have hc := hb.cell 0
  have h4' : tmps[4]?.getD undef = .pointer (some ⟨L, 0, none⟩) := by simpa using h4
  have h5' : tmps[5]?.getD undef = e := by simpa using h5
  have hc' : w.cell? ⟨L, 0, none⟩ = some v := hc
  simp [results, Try.results12, go_sem]
  rw [h4', h5']
  simp [go_sem, hc']
theorem cells_of_blk7 {w : World} {b : Nat} {t : TypeId} {cs : Array Value} {l : List Value} (h : Blk w b t cs) (hc : cs.toList = l) : Cells w (some ⟨b, 0, none⟩) l := by
  refine .inr ⟨b, 0, rfl, h.lt, fun j u hu => ?_⟩
  rw [Nat.zero_add, h.cell j, ← Array.getElem?_toList, hc]
  exact hu
theorem np_sits {v v' : Value} {w : World} {b : Nat} (st : Sits v v' w) (hn : v.ownBlock ≠ some b) (hb : b < w.heap.size) : v'.ownBlock ≠ some b := by
  rcases st with s | ⟨g, s, hl⟩
  · rw [s]; exact hn
  · rw [s]; intro e; injection e with e; omega
namespace Fix
/-- The round so far: the first i pairs. -/
def roundI (cl : List Int) (r i : Nat) : List Mt := (rawM cl ((pairsN (cl.length + cl.length % 2) r).take i)).foldl insM []
theorem roundI_zero (cl : List Int) (r : Nat) : roundI cl r 0 = [] := rfl
theorem roundI_end (cl : List Int) (r : Nat) : roundI cl r ((cl.length + cl.length % 2) / 2) = roundM cl r := by
  unfold roundI roundM sortM
  rw [List.take_of_length_le (by rw [pairsN_length]; exact Nat.le_refl _), rawM_pairs]
theorem roundI_succ {cl : List Int} {r i : Nat} (h : i < (cl.length + cl.length % 2) / 2) : roundI cl r (i + 1) = if keptN cl.length (pairI (cl.length + cl.length % 2) r i) then insM (roundI cl r i) (clubM cl (pairI (cl.length + cl.length % 2) r i)) else roundI cl r i := by
  unfold roundI
  rw [take_snoc (pairsN_get h), rawM_snoc]
  split
  · rw [List.foldl_append]; rfl
  · rw [List.append_nil]
theorem swapL_snoc7 {ls : List (List Mt)} {k : Nat} {l : List Mt} (h : ls[k]? = some l) : swapL (ls.take (k + 1)) = swapL (ls.take k) ++ [l.map swapM] := by
  unfold swapL
  rw [take_snoc h, List.map_append]; rfl
theorem insM_length (l : List Mt) (x : Mt) : (insM l x).length = l.length + 1 := by rw [(insM_perm l x).length_eq]; rfl
theorem roundI_le (cl : List Int) (r i : Nat) : (roundI cl r i).length ≤ i := by
    unfold roundI
    have : ∀ (l a : List Mt), (l.foldl insM a).length = a.length + l.length := fun l a => by rw [(foldl_perm l a).length_eq, List.length_append]
    rw [this]
    have h := rawM_le cl ((pairsN (cl.length + cl.length % 2) r).take i)
    rw [List.length_take] at h
    simp
    omega
end Fix
set_option maxRecDepth 100000 in
set_option maxHeartbeats 16000000 in
theorem rcircle_bad (A : Option Addr) (n c : Nat) (cl : List Int) (double : Bool) (w : World) (hl : cl.length = n) (hnc : n ≤ c) (hcm : c ≤ maxLen) (hA : Ints w A cl) (hv : Fix.validC cl = false) :
    Calls Try.prog 12 #[.slice A n c, .bool double] w (CircPost w cl double) := by
  have HV := Lib.hid (fun W h => rvalid_any A n c cl W hl hnc hcm h)
  rw [hv] at HV
  have Hv := Lib.hid hv
  have HA := Lib.hid hA
  clear hv hl hA
  obtain ⟨R, hR⟩ : ∃ R, R = CircPost w cl double := ⟨_, rfl⟩
  rw [← hR]
  have HR := Lib.hid hR
  clear hR
  go_enter Try.func12, Try.ntmps12
  go_upto_region 1 with (fail)
  generalize hge : World.alloc _ _ = w0
  have H0 := Lib.hid (show Blk w0 w.heap.size 26 #[.slice none 0 0] by subst hge; exact Blk.new w _ _)
  have HB0 := Lib.hid (show Below w.heap.size w w0 by subst hge; exact (Below.refl _ _).alloc (Nat.le_refl _) _)
  clear hge
  go_wp2_with (fail)
  refine (HV.out w0 (HA.out.below HB0.out)).mono ?_
  rintro e w1 ⟨rfl, hb1⟩
  have H1 := H0.out.below hb1
  have hcl := H1.cell 0
  have hfl := H1.frozen 0
  have HB1 := Lib.hid (below_of HB0.out hb1 HB0.out.size)
  clear hb1
  go_wp2_with (fail)
  rw [HR.out]
  refine bodyPost_ret (rcirc_results rfl rfl (by simpa using H1.set_ 0 (.slice none 0 0))) rfl ?_
  exact circPost_bad double Hv.out (below_set HB1.out (Nat.le_refl _) _)
set_option maxRecDepth 100000 in
set_option maxHeartbeats 16000000 in
/-- What holds ahead of round r. -/
def RcRel (w : World) (cl : List Int) (X k : Nat) (ls : List (List (Int × Int))) (W : World) : Prop :=
  ∃ v, Below w.heap.size w W ∧ Blk W w.heap.size 26 #[.slice none 0 0] ∧ Blk W X 26 #[v] ∧ OwnR W w.heap.size v ls
set_option maxRecDepth 100000 in
set_option maxHeartbeats 16000000 in
theorem rcircle_good (A : Option Addr) (n c : Nat) (cl : List Int) (double : Bool) (w : World) (hl : cl.length = n) (hnc : n ≤ c) (hcm : c ≤ maxLen) (hA : Ints w A cl) (hv : Fix.validC cl = true) :
    Calls Try.prog 12 #[.slice A n c, .bool double] w (CircPost w cl double) := by
  have HV := Lib.hid (fun W h => rvalid_any A n c cl W hl hnc hcm h)
  rw [hv] at HV
  have Hv := Lib.hid hv
  have hn2 : 2 ≤ n := by rw [← hl]; exact (Fix.validC_iff.1 hv).1
  have hn24 : n ≤ 24 := by rw [← hl]; exact (Fix.validC_iff.1 hv).2.1
  have HA := Lib.hid hA
  have Hl := Lib.hid hl
  clear hv hl hA
  unfold maxLen at hcm
  obtain ⟨R, hR⟩ : ∃ R, R = CircPost w cl double := ⟨_, rfl⟩
  rw [← hR]
  have HR := Lib.hid hR
  clear hR
  obtain ⟨M, hM⟩ : ∃ M, M = n + n % 2 := ⟨_, rfl⟩
  have hM2 : 2 ≤ M ∧ M ≤ 24 ∧ M % 2 = 0 ∧ n ≤ M ∧ M ≤ n + 1 := by omega
  have HM := Lib.hid (show cl.length + cl.length % 2 = M by rw [Hl.out, hM])
  have HMi := Lib.hid (show ((n : Int) + (n : Int) % 2) = (M : Int) by omega)
  clear hM
  go_enter Try.func12, Try.ntmps12
  go_upto_region 1 with (fail)
  generalize hge : World.alloc _ _ = w0
  have H0 := Lib.hid (show Blk w0 w.heap.size 26 #[.slice none 0 0] by subst hge; exact Blk.new w _ _)
  have HB0 := Lib.hid (show Below w.heap.size w w0 by subst hge; exact (Below.refl _ _).alloc (Nat.le_refl _) _)
  clear hge
  go_wp2_with (fail)
  refine (HV.out w0 (HA.out.below HB0.out)).mono ?_
  rintro e w1 ⟨rfl, hb1⟩
  have H1 := Lib.hid (H0.out.below hb1)
  have HB1 := Lib.hid (below_of HB0.out hb1 HB0.out.size)
  have hs1 : w.heap.size < w1.heap.size := H1.out.lt
  clear hb1 H0 HV
  go_upto_region 5 with (fail)
  rw [HMi.out]
  generalize hge : World.alloc _ _ = w2
  have H2 := Lib.hid (show Blk w2 w.heap.size 26 #[.slice none 0 0] by subst hge; exact H1.out.alloc _)
  have HX2 := Lib.hid (show Blk w2 w1.heap.size 26 #[.slice none 0 0] by subst hge; exact Blk.new w1 _ _)
  have HB2 := Lib.hid (show Below w.heap.size w w2 by subst hge; exact HB1.out.alloc HB1.out.size _)
  clear hge H1
  obtain ⟨X, hX⟩ : ∃ X, w1.heap.size = X := ⟨_, rfl⟩
  rw [hX] at HX2 hs1 ⊢
  clear hX
  have HT0 := Lib.hid (show RcRel w cl X 0 ((Fix.baseM cl).take 0) w2 from ⟨_, HB2.out, H2.out, HX2.out, OwnR.nil_ w2 w.heap.size⟩)
  clear H2 HX2 HB2
  go_wp2_with (fail)
  go_loopw [8] (fun i W => ∃ r : Nat, r ≤ M - 1 ∧ i = .int .i64 r ∧ Hid (RcRel w cl X r ((Fix.baseM cl).take r) W)) (fun i _ => M - 1 - (intOf i).toNat)
  case atStart => exact ⟨0, Nat.zero_le _, rfl, HT0⟩
  case round =>
    obtain ⟨wk, rfl⟩ : ∃ wk : World, wk = wr := ⟨_, rfl⟩
    clear HT0
    obtain ⟨r, hr, rfl, hrel⟩ := hrel
    by_cases hrm : r + 1 < M
    · have dr : decide ((r : Int) ≤ (M : Int) - 2) = true := by simp; omega
      obtain ⟨v, HR0'⟩ := hrel.out
      have HR0 := Lib.hid HR0'
      have HAk := Lib.hid (HA.out.below HR0'.1)
      clear HR0' hrel
      go_upto_region 9 with (fail)
      generalize hge : World.alloc _ _ = w3
      have HO := Lib.hid (show w3.ownsRow wk.heap.size 51 2 (.slice (some ⟨wk.heap.size, 0, none⟩) 0 0) 0 (ivV []) by subst hge; exact World.ownsRow_lit (size := 2) wk #[] 0 (Nat.le_refl _) (Nat.zero_le _) rfl)
      have HB3 := Lib.hid (show Below wk.heap.size wk w3 by subst hge; exact (Below.refl _ _).alloc (Nat.le_refl _) _)
      clear hge
      go_wp2_with (fail)
      go_loopw [10, 9] (fun i v W => ∃ (j q : Nat) (A5 : Option Addr) (c5 : Nat), j ≤ M / 2 ∧ i = .int .i64 j ∧ v = .slice A5 q c5 ∧ q ≤ j ∧ q ≤ c5 ∧ c5 ≤ maxLen ∧ Hid (q = (Fix.roundI cl r j).length) ∧ Hid (W.ownsRow wk.heap.size 51 2 (.slice A5 q c5) q (ivV (Fix.roundI cl r j))) ∧ Hid (Below wk.heap.size wk W)) (fun i _ _ => M / 2 - (intOf i).toNat)
      case atStart => exact ⟨0, 0, _, 0, Nat.zero_le _, rfl, rfl, Nat.le_refl _, Nat.le_refl _, Nat.zero_le _, Lib.hid rfl, HO, HB3⟩
      case round =>
        obtain ⟨wj, rfl⟩ : ∃ wj : World, wj = wr := ⟨_, rfl⟩
        clear HO HB3
        obtain ⟨j, q, A5, c5, hj, rfl, rfl, hqj, hqc, hcm5, Hq, hown, hBj⟩ := hrel
        by_cases hjl : j < M / 2
        · have hjI : (j : Int) ≤ (M : Int) / 2 - 1 := by omega
          have dj : decide ((j : Int) ≤ (M : Int) / 2 - 1) = true := by simp; omega
          have hMz : ¬ ((M : Int) - 1 = 0) := by omega
          have eM : ((M - 1 : Nat) : Int) = (M : Int) - 1 := by omega
          obtain ⟨a, haN⟩ : ∃ a, a = (r + j) % (M - 1) := ⟨_, rfl⟩
          have ha : ((r : Int) + (j : Int)) % ((M : Int) - 1) = (a : Int) := by rw [haN, Int.natCast_emod, eM, Int.natCast_add]
          have eMc := Lib.hid eM
          clear eM
          by_cases hj0 : j = 0
          · have dj0 : decide ((j : Int) = 0) = true := by simp; omega
            have dj0' : ((j : Int) == 0) = true := by simp; omega
            have dp : decide ((j : Int) % 2 = 1) = false := by simp; omega
            have dp' : ((j : Int) % 2 == 1) = false := by simp; omega
            have har : a = r := by rw [haN, hj0, Nat.add_zero]; exact Nat.mod_eq_of_lt (by omega)
            obtain ⟨b, hbN⟩ : ∃ b, b = M - 1 := ⟨_, rfl⟩
            have hb0 : (M : Int) - 1 = (b : Int) := by omega
            by_cases hr2 : r % 2 = 0
            · have dr2 : decide ((r : Int) % 2 = 0) = true := by simp; omega
              have dr2' : ((r : Int) % 2 == 0) = true := by simp; omega
              have hpi : Fix.pairI M r j = (a, b) ∧ (a < M ∧ b < M) := ⟨by unfold Fix.pairI; rw [if_pos hj0, if_pos hr2, har, hbN], by omega, by omega⟩
              have Hb0 := Lib.hid hb0
              have Hha := Lib.hid ha
              clear haN hbN har hb0 ha hj0
              go_upto_region 18 with (fail)
              have ha := Hha.out
              have hb0 := Hb0.out
              rw [ha, hb0]
              obtain ⟨hpi, hab⟩ := hpi
              have HP := Lib.hid hpi
              have Hsucc := Lib.hid (Fix.roundI_succ (cl := cl) (r := r) (i := j) (by rw [HM.out]; exact hjl))
              clear ha hb0 hpi
              by_cases han : a < n
              · have da : decide ((n : Int) ≤ (a : Int)) = false := by simp; omega
                have da' : decide (n ≤ a) = false := by simp; omega
                by_cases hbn : b < n
                · have db : decide ((n : Int) ≤ (b : Int)) = false := by simp; omega
                  have db' : decide (n ≤ b) = false := by simp; omega
                  have hsucc : Fix.roundI cl r (j + 1) = Fix.insM (Fix.roundI cl r j) (cl.getD a 0, cl.getD b 0) := by
                    rw [Hsucc.out, HM.out, HP.out, if_pos (by unfold Fix.keptN; rw [Hl.out]; simp; omega)]
                    rfl
                  have Hs2 := Lib.hid hsucc
                  obtain ⟨xa, hxa⟩ := getElem?_lt (l := cl) (k := a) (by rw [Hl.out]; exact han)
                  obtain ⟨xb, hxb⟩ := getElem?_lt (l := cl) (k := b) (by rw [Hl.out]; exact hbn)
                  rw [getD_of hxa, getD_of hxb] at Hs2
                  obtain ⟨b1, off1, rfl, hb1, hcs⟩ := (HAk.out.below hBj.out).at_ (k := a) (by rw [Hl.out]; exact han)
                  have ca := hcs a xa hxa
                  have cb := hcs b xb hxb
                  have hanI : (a : Int) < (n : Int) := by omega
                  have hbnI : (b : Int) < (n : Int) := by omega
                  have HIv := Lib.hid (show IvC wj A5 (Fix.roundI cl r j) from Cells.own hown.out)
                  have HW := Lib.hid (fun W h => with_any A5 q c5 (Fix.roundI cl r j) xa xb W Hq.out.symm (by omega) hqc hcm5 h)
                  rw [← Hs2.out] at HW
                  clear hcs hxa hxb hsucc Hsucc
                  go_wp2_with (fail)
                  go_region_held3 (fun W => W.cell? ⟨b1, off1 + a, none⟩ = some (.int .i64 xa) ∧ W.cell? ⟨b1, off1 + b, none⟩ = some (.int .i64 xb) ∧ Below wj.heap.size wj W)
                    (first
                      | exact ⟨by assumption, by assumption, by assumption⟩
                      | exact ⟨ca, cb, below_drewN (Below.refl _ _) 1⟩)
                    (first
                      | (go_at_call 35; go_split_ands; refine (HW.out _ (HIv.out.below (by assumption))).mono ?_; rintro e wz ⟨Az, cz, rfl, hownz, hz1, hz2, hbz⟩; have k0 : wz.cell? ⟨b1, off1 + a, none⟩ = some (.int .i64 xa) := cellk6 hbz (by assumption); have k1 : wz.cell? ⟨b1, off1 + b, none⟩ = some (.int .i64 xb) := cellk6 hbz (by assumption); have hownk := own_mono hownz (Nat.le_trans hBj.out.size (Below.size (by assumption))); have k5 : Below wj.heap.size wj wz := below_of (by assumption) hbz (Below.size (by assumption)))
                      | (fail))
                  all_goals
                    go_wp2_with (fail)
                    go_roundw
                    case rel => exact ⟨j + 1, q + 1, Az, cz, by omega, by go_num, rfl, by omega, hz1, hz2, Lib.hid (by rw [Hs2.out, Fix.insM_length, ← Hq.out]), Lib.hid hownk, below_of hBj.out k5 hBj.out.size⟩
                    case measure => simp [intOf]; omega
                · have db : decide ((n : Int) ≤ (b : Int)) = true := by simp; omega
                  have db' : decide (n ≤ b) = true := by simp; omega
                  have hsucc : Fix.roundI cl r (j + 1) = Fix.roundI cl r j := by
                    rw [Hsucc.out, HM.out, HP.out, if_neg (by unfold Fix.keptN; rw [Hl.out]; simp; omega)]
                  have Hs2 := Lib.hid hsucc
                  clear hsucc Hsucc
                  go_wp2_with (fail)
                  go_roundw
                  case rel => exact ⟨j + 1, q, A5, c5, by omega, by go_num, rfl, by omega, hqc, hcm5, Lib.hid (by rw [Hs2.out]; exact Hq.out), Lib.hid (by rw [Hs2.out]; exact hown.out), hBj⟩
                  case measure => simp [intOf]; omega
              · have da : decide ((n : Int) ≤ (a : Int)) = true := by simp; omega
                have da' : decide (n ≤ a) = true := by simp; omega
                have hsucc : Fix.roundI cl r (j + 1) = Fix.roundI cl r j := by
                  rw [Hsucc.out, HM.out, HP.out, if_neg (by unfold Fix.keptN; rw [Hl.out]; simp; omega)]
                have Hs2 := Lib.hid hsucc
                clear hsucc Hsucc
                go_wp2_with (fail)
                go_roundw
                case rel => exact ⟨j + 1, q, A5, c5, by omega, by go_num, rfl, by omega, hqc, hcm5, Lib.hid (by rw [Hs2.out]; exact Hq.out), Lib.hid (by rw [Hs2.out]; exact hown.out), hBj⟩
                case measure => simp [intOf]; omega
            · have dr2 : decide ((r : Int) % 2 = 0) = false := by simp; omega
              have dr2' : ((r : Int) % 2 == 0) = false := by simp; omega
              have hpi : Fix.pairI M r j = (b, a) ∧ (a < M ∧ b < M) := ⟨by unfold Fix.pairI; rw [if_pos hj0, if_neg hr2, har, hbN], by omega, by omega⟩
              have Hb0 := Lib.hid hb0
              have Hha := Lib.hid ha
              clear haN hbN har hb0 ha hj0
              go_upto_region 18 with (fail)
              have ha := Hha.out
              have hb0 := Hb0.out
              rw [ha, hb0]
              obtain ⟨hpi, hab⟩ := hpi
              have HP := Lib.hid hpi
              have Hsucc := Lib.hid (Fix.roundI_succ (cl := cl) (r := r) (i := j) (by rw [HM.out]; exact hjl))
              clear ha hb0 hpi
              by_cases han : a < n
              · have da : decide ((n : Int) ≤ (a : Int)) = false := by simp; omega
                have da' : decide (n ≤ a) = false := by simp; omega
                by_cases hbn : b < n
                · have db : decide ((n : Int) ≤ (b : Int)) = false := by simp; omega
                  have db' : decide (n ≤ b) = false := by simp; omega
                  have hsucc : Fix.roundI cl r (j + 1) = Fix.insM (Fix.roundI cl r j) (cl.getD b 0, cl.getD a 0) := by
                    rw [Hsucc.out, HM.out, HP.out, if_pos (by unfold Fix.keptN; rw [Hl.out]; simp; omega)]
                    rfl
                  have Hs2 := Lib.hid hsucc
                  obtain ⟨xa, hxa⟩ := getElem?_lt (l := cl) (k := a) (by rw [Hl.out]; exact han)
                  obtain ⟨xb, hxb⟩ := getElem?_lt (l := cl) (k := b) (by rw [Hl.out]; exact hbn)
                  rw [getD_of hxa, getD_of hxb] at Hs2
                  obtain ⟨b1, off1, rfl, hb1, hcs⟩ := (HAk.out.below hBj.out).at_ (k := a) (by rw [Hl.out]; exact han)
                  have ca := hcs a xa hxa
                  have cb := hcs b xb hxb
                  have hanI : (a : Int) < (n : Int) := by omega
                  have hbnI : (b : Int) < (n : Int) := by omega
                  have HIv := Lib.hid (show IvC wj A5 (Fix.roundI cl r j) from Cells.own hown.out)
                  have HW := Lib.hid (fun W h => with_any A5 q c5 (Fix.roundI cl r j) xb xa W Hq.out.symm (by omega) hqc hcm5 h)
                  rw [← Hs2.out] at HW
                  clear hcs hxa hxb hsucc Hsucc
                  go_wp2_with (fail)
                  go_region_held3 (fun W => W.cell? ⟨b1, off1 + a, none⟩ = some (.int .i64 xa) ∧ W.cell? ⟨b1, off1 + b, none⟩ = some (.int .i64 xb) ∧ Below wj.heap.size wj W)
                    (first
                      | exact ⟨by assumption, by assumption, by assumption⟩
                      | exact ⟨ca, cb, below_drewN (Below.refl _ _) 1⟩)
                    (first
                      | (go_at_call 35; go_split_ands; refine (HW.out _ (HIv.out.below (by assumption))).mono ?_; rintro e wz ⟨Az, cz, rfl, hownz, hz1, hz2, hbz⟩; have k0 : wz.cell? ⟨b1, off1 + a, none⟩ = some (.int .i64 xa) := cellk6 hbz (by assumption); have k1 : wz.cell? ⟨b1, off1 + b, none⟩ = some (.int .i64 xb) := cellk6 hbz (by assumption); have hownk := own_mono hownz (Nat.le_trans hBj.out.size (Below.size (by assumption))); have k5 : Below wj.heap.size wj wz := below_of (by assumption) hbz (Below.size (by assumption)))
                      | (fail))
                  all_goals
                    go_wp2_with (fail)
                    go_roundw
                    case rel => exact ⟨j + 1, q + 1, Az, cz, by omega, by go_num, rfl, by omega, hz1, hz2, Lib.hid (by rw [Hs2.out, Fix.insM_length, ← Hq.out]), Lib.hid hownk, below_of hBj.out k5 hBj.out.size⟩
                    case measure => simp [intOf]; omega
                · have db : decide ((n : Int) ≤ (b : Int)) = true := by simp; omega
                  have db' : decide (n ≤ b) = true := by simp; omega
                  have hsucc : Fix.roundI cl r (j + 1) = Fix.roundI cl r j := by
                    rw [Hsucc.out, HM.out, HP.out, if_neg (by unfold Fix.keptN; rw [Hl.out]; simp; omega)]
                  have Hs2 := Lib.hid hsucc
                  clear hsucc Hsucc
                  go_wp2_with (fail)
                  go_roundw
                  case rel => exact ⟨j + 1, q, A5, c5, by omega, by go_num, rfl, by omega, hqc, hcm5, Lib.hid (by rw [Hs2.out]; exact Hq.out), Lib.hid (by rw [Hs2.out]; exact hown.out), hBj⟩
                  case measure => simp [intOf]; omega
              · have da : decide ((n : Int) ≤ (a : Int)) = true := by simp; omega
                have da' : decide (n ≤ a) = true := by simp; omega
                have hsucc : Fix.roundI cl r (j + 1) = Fix.roundI cl r j := by
                  rw [Hsucc.out, HM.out, HP.out, if_neg (by unfold Fix.keptN; rw [Hl.out]; simp; omega)]
                have Hs2 := Lib.hid hsucc
                clear hsucc Hsucc
                go_wp2_with (fail)
                go_roundw
                case rel => exact ⟨j + 1, q, A5, c5, by omega, by go_num, rfl, by omega, hqc, hcm5, Lib.hid (by rw [Hs2.out]; exact Hq.out), Lib.hid (by rw [Hs2.out]; exact hown.out), hBj⟩
                case measure => simp [intOf]; omega
          · have dj0 : decide ((j : Int) = 0) = false := by simp; omega
            have dj0' : ((j : Int) == 0) = false := by simp; omega
            obtain ⟨b, hbN⟩ : ∃ b, b = (r + M - 1 - j) % (M - 1) := ⟨_, rfl⟩
            have hb0 : ((r : Int) + (M : Int) - 1 - (j : Int)) % ((M : Int) - 1) = (b : Int) := by
              rw [hbN, Int.natCast_emod, eMc.out]
              congr 1
              omega
            have hbl : b < M := by rw [hbN]; have := Nat.mod_lt (r + M - 1 - j) (show M - 1 > 0 by omega); omega
            have hal : a < M := by rw [haN]; have := Nat.mod_lt (r + j) (show M - 1 > 0 by omega); omega
            by_cases hp : j % 2 = 1
            · have dp : decide ((j : Int) % 2 = 1) = true := by simp; omega
              have dp' : ((j : Int) % 2 == 1) = true := by simp; omega
              have hpi : Fix.pairI M r j = (a, b) ∧ (a < M ∧ b < M) := ⟨by unfold Fix.pairI; rw [if_neg hj0, if_neg (by omega), haN, hbN], hal, hbl⟩
              have Hb0 := Lib.hid hb0
              have Hha := Lib.hid ha
              clear haN hbN hb0 ha
              go_upto_region 18 with (fail)
              have ha := Hha.out
              have hb0 := Hb0.out
              rw [ha, hb0]
              obtain ⟨hpi, hab⟩ := hpi
              have HP := Lib.hid hpi
              have Hsucc := Lib.hid (Fix.roundI_succ (cl := cl) (r := r) (i := j) (by rw [HM.out]; exact hjl))
              clear ha hb0 hpi
              by_cases han : a < n
              · have da : decide ((n : Int) ≤ (a : Int)) = false := by simp; omega
                have da' : decide (n ≤ a) = false := by simp; omega
                by_cases hbn : b < n
                · have db : decide ((n : Int) ≤ (b : Int)) = false := by simp; omega
                  have db' : decide (n ≤ b) = false := by simp; omega
                  have hsucc : Fix.roundI cl r (j + 1) = Fix.insM (Fix.roundI cl r j) (cl.getD a 0, cl.getD b 0) := by
                    rw [Hsucc.out, HM.out, HP.out, if_pos (by unfold Fix.keptN; rw [Hl.out]; simp; omega)]
                    rfl
                  have Hs2 := Lib.hid hsucc
                  obtain ⟨xa, hxa⟩ := getElem?_lt (l := cl) (k := a) (by rw [Hl.out]; exact han)
                  obtain ⟨xb, hxb⟩ := getElem?_lt (l := cl) (k := b) (by rw [Hl.out]; exact hbn)
                  rw [getD_of hxa, getD_of hxb] at Hs2
                  obtain ⟨b1, off1, rfl, hb1, hcs⟩ := (HAk.out.below hBj.out).at_ (k := a) (by rw [Hl.out]; exact han)
                  have ca := hcs a xa hxa
                  have cb := hcs b xb hxb
                  have hanI : (a : Int) < (n : Int) := by omega
                  have hbnI : (b : Int) < (n : Int) := by omega
                  have HIv := Lib.hid (show IvC wj A5 (Fix.roundI cl r j) from Cells.own hown.out)
                  have HW := Lib.hid (fun W h => with_any A5 q c5 (Fix.roundI cl r j) xa xb W Hq.out.symm (by omega) hqc hcm5 h)
                  rw [← Hs2.out] at HW
                  clear hcs hxa hxb hsucc Hsucc
                  go_wp2_with (fail)
                  go_region_held3 (fun W => W.cell? ⟨b1, off1 + a, none⟩ = some (.int .i64 xa) ∧ W.cell? ⟨b1, off1 + b, none⟩ = some (.int .i64 xb) ∧ Below wj.heap.size wj W)
                    (first
                      | exact ⟨by assumption, by assumption, by assumption⟩
                      | exact ⟨ca, cb, below_drewN (Below.refl _ _) 1⟩)
                    (first
                      | (go_at_call 35; go_split_ands; refine (HW.out _ (HIv.out.below (by assumption))).mono ?_; rintro e wz ⟨Az, cz, rfl, hownz, hz1, hz2, hbz⟩; have k0 : wz.cell? ⟨b1, off1 + a, none⟩ = some (.int .i64 xa) := cellk6 hbz (by assumption); have k1 : wz.cell? ⟨b1, off1 + b, none⟩ = some (.int .i64 xb) := cellk6 hbz (by assumption); have hownk := own_mono hownz (Nat.le_trans hBj.out.size (Below.size (by assumption))); have k5 : Below wj.heap.size wj wz := below_of (by assumption) hbz (Below.size (by assumption)))
                      | (fail))
                  all_goals
                    go_wp2_with (fail)
                    go_roundw
                    case rel => exact ⟨j + 1, q + 1, Az, cz, by omega, by go_num, rfl, by omega, hz1, hz2, Lib.hid (by rw [Hs2.out, Fix.insM_length, ← Hq.out]), Lib.hid hownk, below_of hBj.out k5 hBj.out.size⟩
                    case measure => simp [intOf]; omega
                · have db : decide ((n : Int) ≤ (b : Int)) = true := by simp; omega
                  have db' : decide (n ≤ b) = true := by simp; omega
                  have hsucc : Fix.roundI cl r (j + 1) = Fix.roundI cl r j := by
                    rw [Hsucc.out, HM.out, HP.out, if_neg (by unfold Fix.keptN; rw [Hl.out]; simp; omega)]
                  have Hs2 := Lib.hid hsucc
                  clear hsucc Hsucc
                  go_wp2_with (fail)
                  go_roundw
                  case rel => exact ⟨j + 1, q, A5, c5, by omega, by go_num, rfl, by omega, hqc, hcm5, Lib.hid (by rw [Hs2.out]; exact Hq.out), Lib.hid (by rw [Hs2.out]; exact hown.out), hBj⟩
                  case measure => simp [intOf]; omega
              · have da : decide ((n : Int) ≤ (a : Int)) = true := by simp; omega
                have da' : decide (n ≤ a) = true := by simp; omega
                have hsucc : Fix.roundI cl r (j + 1) = Fix.roundI cl r j := by
                  rw [Hsucc.out, HM.out, HP.out, if_neg (by unfold Fix.keptN; rw [Hl.out]; simp; omega)]
                have Hs2 := Lib.hid hsucc
                clear hsucc Hsucc
                go_wp2_with (fail)
                go_roundw
                case rel => exact ⟨j + 1, q, A5, c5, by omega, by go_num, rfl, by omega, hqc, hcm5, Lib.hid (by rw [Hs2.out]; exact Hq.out), Lib.hid (by rw [Hs2.out]; exact hown.out), hBj⟩
                case measure => simp [intOf]; omega
            · have dp : decide ((j : Int) % 2 = 1) = false := by simp; omega
              have dp' : ((j : Int) % 2 == 1) = false := by simp; omega
              have hpi : Fix.pairI M r j = (b, a) ∧ (a < M ∧ b < M) := ⟨by unfold Fix.pairI; rw [if_neg hj0, if_pos (by omega), haN, hbN], hal, hbl⟩
              have Hb0 := Lib.hid hb0
              have Hha := Lib.hid ha
              clear haN hbN hb0 ha
              go_upto_region 18 with (fail)
              have ha := Hha.out
              have hb0 := Hb0.out
              rw [ha, hb0]
              obtain ⟨hpi, hab⟩ := hpi
              have HP := Lib.hid hpi
              have Hsucc := Lib.hid (Fix.roundI_succ (cl := cl) (r := r) (i := j) (by rw [HM.out]; exact hjl))
              clear ha hb0 hpi
              by_cases han : a < n
              · have da : decide ((n : Int) ≤ (a : Int)) = false := by simp; omega
                have da' : decide (n ≤ a) = false := by simp; omega
                by_cases hbn : b < n
                · have db : decide ((n : Int) ≤ (b : Int)) = false := by simp; omega
                  have db' : decide (n ≤ b) = false := by simp; omega
                  have hsucc : Fix.roundI cl r (j + 1) = Fix.insM (Fix.roundI cl r j) (cl.getD b 0, cl.getD a 0) := by
                    rw [Hsucc.out, HM.out, HP.out, if_pos (by unfold Fix.keptN; rw [Hl.out]; simp; omega)]
                    rfl
                  have Hs2 := Lib.hid hsucc
                  obtain ⟨xa, hxa⟩ := getElem?_lt (l := cl) (k := a) (by rw [Hl.out]; exact han)
                  obtain ⟨xb, hxb⟩ := getElem?_lt (l := cl) (k := b) (by rw [Hl.out]; exact hbn)
                  rw [getD_of hxa, getD_of hxb] at Hs2
                  obtain ⟨b1, off1, rfl, hb1, hcs⟩ := (HAk.out.below hBj.out).at_ (k := a) (by rw [Hl.out]; exact han)
                  have ca := hcs a xa hxa
                  have cb := hcs b xb hxb
                  have hanI : (a : Int) < (n : Int) := by omega
                  have hbnI : (b : Int) < (n : Int) := by omega
                  have HIv := Lib.hid (show IvC wj A5 (Fix.roundI cl r j) from Cells.own hown.out)
                  have HW := Lib.hid (fun W h => with_any A5 q c5 (Fix.roundI cl r j) xb xa W Hq.out.symm (by omega) hqc hcm5 h)
                  rw [← Hs2.out] at HW
                  clear hcs hxa hxb hsucc Hsucc
                  go_wp2_with (fail)
                  go_region_held3 (fun W => W.cell? ⟨b1, off1 + a, none⟩ = some (.int .i64 xa) ∧ W.cell? ⟨b1, off1 + b, none⟩ = some (.int .i64 xb) ∧ Below wj.heap.size wj W)
                    (first
                      | exact ⟨by assumption, by assumption, by assumption⟩
                      | exact ⟨ca, cb, below_drewN (Below.refl _ _) 1⟩)
                    (first
                      | (go_at_call 35; go_split_ands; refine (HW.out _ (HIv.out.below (by assumption))).mono ?_; rintro e wz ⟨Az, cz, rfl, hownz, hz1, hz2, hbz⟩; have k0 : wz.cell? ⟨b1, off1 + a, none⟩ = some (.int .i64 xa) := cellk6 hbz (by assumption); have k1 : wz.cell? ⟨b1, off1 + b, none⟩ = some (.int .i64 xb) := cellk6 hbz (by assumption); have hownk := own_mono hownz (Nat.le_trans hBj.out.size (Below.size (by assumption))); have k5 : Below wj.heap.size wj wz := below_of (by assumption) hbz (Below.size (by assumption)))
                      | (fail))
                  all_goals
                    go_wp2_with (fail)
                    go_roundw
                    case rel => exact ⟨j + 1, q + 1, Az, cz, by omega, by go_num, rfl, by omega, hz1, hz2, Lib.hid (by rw [Hs2.out, Fix.insM_length, ← Hq.out]), Lib.hid hownk, below_of hBj.out k5 hBj.out.size⟩
                    case measure => simp [intOf]; omega
                · have db : decide ((n : Int) ≤ (b : Int)) = true := by simp; omega
                  have db' : decide (n ≤ b) = true := by simp; omega
                  have hsucc : Fix.roundI cl r (j + 1) = Fix.roundI cl r j := by
                    rw [Hsucc.out, HM.out, HP.out, if_neg (by unfold Fix.keptN; rw [Hl.out]; simp; omega)]
                  have Hs2 := Lib.hid hsucc
                  clear hsucc Hsucc
                  go_wp2_with (fail)
                  go_roundw
                  case rel => exact ⟨j + 1, q, A5, c5, by omega, by go_num, rfl, by omega, hqc, hcm5, Lib.hid (by rw [Hs2.out]; exact Hq.out), Lib.hid (by rw [Hs2.out]; exact hown.out), hBj⟩
                  case measure => simp [intOf]; omega
              · have da : decide ((n : Int) ≤ (a : Int)) = true := by simp; omega
                have da' : decide (n ≤ a) = true := by simp; omega
                have hsucc : Fix.roundI cl r (j + 1) = Fix.roundI cl r j := by
                  rw [Hsucc.out, HM.out, HP.out, if_neg (by unfold Fix.keptN; rw [Hl.out]; simp; omega)]
                have Hs2 := Lib.hid hsucc
                clear hsucc Hsucc
                go_wp2_with (fail)
                go_roundw
                case rel => exact ⟨j + 1, q, A5, c5, by omega, by go_num, rfl, by omega, hqc, hcm5, Lib.hid (by rw [Hs2.out]; exact Hq.out), Lib.hid (by rw [Hs2.out]; exact hown.out), hBj⟩
                case measure => simp [intOf]; omega
        · obtain rfl : M / 2 = j := by omega
          have hend := Fix.roundI_end cl r
          rw [HM.out] at hend
          have HownB := Lib.hid (show wj.ownsRow wk.heap.size 51 2 (.slice A5 q c5) q (ivV (Fix.roundM cl r)) by have := hown.out; rwa [hend] at this)
          have HqE := Lib.hid (show (Fix.roundM cl r).length = q by rw [Hq.out, hend])
          clear hown Hq hend
          obtain ⟨v, hbw, hb4, hbX, hOR⟩ := (show ∃ v, _ from ⟨v, HR0.out⟩)
          have hB2 := hBj.out
          have Hbw2 := Lib.hid (below_of hbw hB2 hbw.size)
          have bX2 := hbX.below hB2
          have bA2 := hb4.below hB2
          have HOL := Lib.hid (fun b hb' => (hOR.ownBlock b hb').2)
          obtain ⟨hs', g1, g2, g3⟩ := hOR.below hB2
          have hn7 : ((Fix.baseM cl).take r).length = r := by rw [List.length_take, Fix.baseM_length, HM.out]; omega
          rw [hn7] at g2
          have Hn7 := Lib.hid hn7
          obtain ⟨A6, c6, hv6, hc6, hm6, -⟩ := own_form g2
          subst hv6
          have G1 := Lib.hid g1
          have HG2 := Lib.hid g2
          have HG3 := Lib.hid g3
          have HBL := Lib.hid bX2
          have HBA := Lib.hid bA2
          have HNL := Lib.hid (Boxed.not_row (B := X) bX2 (by decide) g2)
          have HNA := Lib.hid (Boxed.not_row (B := w.heap.size) bA2 (by decide) g2)
          have hcl := bX2.cell 0
          have hcl' : wj.cell? ⟨X, 0, none⟩ = some (.slice A6 r c6) := hcl
          clear hcl g1 g2 g3 hbw hb4 hbX hOR bX2 bA2 hB2 hn7
          go_upto_region 7 with (at_builtin; refine push1 rfl (.tmp 101) (.tmp 103) 24 rfl w.heap.size 46 (.slice none 0 0) 24 (by kernel_rfl) (by kernel_rfl) rfl _ _ _ (.slice A5 q c5) HG2.out rfl rfl rfl (by unfold maxLen; omega) (by omega) Hbw2.out.size ?_; intro v' w3' hown' hg3 hsit; have bL3 := Blk.grown HBL.out hg3 HNL.out; have hf3 := bL3.frozen 0; have hcl3 := bL3.cell 0; obtain ⟨A4, c4, rfl, hc4, hm4, -⟩ := own_form hown')
          have hbw3 : Below w.heap.size w w3' := below_grown Hbw2.out hg3 Hbw2.out.size (own_base HG2.out)
          have hbw4 := below_set (i := 0) hbw3 (P := X) (by omega) (.slice A4 (r + 1) c4)
          have bL4 : Blk (w3'.setCell ⟨X, 0, none⟩ (.slice A4 (r + 1) c4)) X 26 #[.slice A4 (r + 1) c4] := by simpa using bL3.set_ 0 (.slice A4 (r + 1) c4)
          have bC3 := Blk.grown HBA.out hg3 HNA.out
          have bC4 := bC3.far (p := ⟨X, 0, none⟩) (by simp; omega) (.slice A4 (r + 1) c4)
          have hin : Inner wj (.slice A6 r c6) A5 (Fix.roundM cl r) := Inner.own (by rw [← HqE.out] at HownB; exact HownB.out) (fun b' hb' => HOL.out b' hb')
          have hOR3 := OwnR.push G1.out HG3.out hg3 hsit (by rw [Hn7.out, HqE.out]; exact hown') (by rw [HqE.out]; exact hqc) hcm5 hin
          rw [← take_snoc (Fix.baseM_get (cl := cl) (r := r) (by rw [HM.out]; omega))] at hOR3
          have HF := Lib.hid (show RcRel w cl X (r + 1) ((Fix.baseM cl).take (r + 1)) (w3'.setCell ⟨X, 0, none⟩ (.slice A4 (r + 1) c4)) from ⟨_, hbw4, bC4, bL4, hOR3.box bL3⟩)
          clear hbw3 hbw4 bL4 bC3 bC4 hin hOR3 bL3 hcl3 hf3 hown' hg3 hsit
          generalize World.setCell _ _ _ = w4 at *
          go_wp2_with (fail)
          go_roundw
          case rel => exact ⟨r + 1, by omega, by go_num, HF⟩
          case measure => simp [intOf]; omega
    · obtain rfl : r = M - 1 := by omega
      have dr : decide ((((M - 1 : Nat) : Int)) ≤ (M : Int) - 2) = false := by simp; omega
      have ht : (Fix.baseM cl).take (M - 1) = Fix.baseM cl := List.take_of_length_le (by rw [Fix.baseM_length, HM.out]; exact Nat.le_refl _)
      obtain ⟨v, hbw, hb4, hbX, hOR⟩ := hrel.out
      rw [ht] at hOR
      obtain ⟨q, hq⟩ : ∃ q, q = (Fix.baseM cl).length := ⟨_, rfl⟩
      obtain ⟨A3, c3, hvL, hc3, hm3, -⟩ := own_form (hOR.choose_spec.2.1)
      rw [← hq] at hvL hc3
      subst hvL
      have Hqq := Lib.hid hq
      have Hqm := Lib.hid (show q = M - 1 by rw [hq, Fix.baseM_length, HM.out])
      have HOR := Lib.hid hOR
      have Hb4 := Lib.hid hb4
      have HbX := Lib.hid hbX
      have Hbw := Lib.hid hbw
      have x0 : wk.cell? ⟨X, 0, none⟩ = some (.slice A3 q c3) := hbX.cell 0
      have f0 := hb4.frozen 0
      have c0 := hb4.cell 0
      clear ht hbw hb4 hbX hOR hq hrel
      cases double with
      | false =>
        go_wp2_with (fail)
        rw [HR.out]
        have b4 : Blk (wk.setCell ⟨w.heap.size, 0, none⟩ (.slice A3 q c3)) w.heap.size 26 #[.slice A3 q c3] := by simpa using Hb4.out.set_ 0 (.slice A3 q c3)
        refine bodyPost_ret (rcirc_results rfl rfl b4) rfl ?_
        obtain ⟨z1, z2, z3, z4⟩ := (HOR.out.box (i := 0) (u := .slice A3 q c3) Hb4.out).rounds
        have e1 : Fix.circE cl = 0 := by unfold Fix.circE; rw [Hv.out]; rfl
        have e2 : Fix.circM cl false = Fix.baseM cl := by unfold Fix.circM; rw [Hv.out]; rfl
        unfold CircPost
        rw [e1, e2]
        exact ⟨A3, _, c3, rfl, z1, z2, z3, z4, below_set Hbw.out (Nat.le_refl _) _⟩
      | true =>
        have Hlen : Hid (∀ l ∈ Fix.baseM cl, l.length ≤ 12) := Lib.hid fun l hl' => by
          obtain ⟨r, -, rfl⟩ := List.mem_map.1 hl'
          have h1 := Fix.roundM_length cl r
          rw [HM.out] at h1
          omega
        obtain ⟨ls, hls⟩ : ∃ ls, ls = Fix.baseM cl := ⟨_, rfl⟩
        have Hls := Lib.hid hls
        rw [← hls] at Hlen Hqq HOR
        have HT1 := Lib.hid (show RcRel w cl X 0 (ls ++ Fix.swapL (ls.take 0)) wk from ⟨_, Hbw.out, Hb4.out, HbX.out, by simpa [Fix.swapL] using HOR.out⟩)
        clear hls HOR Hb4 HbX Hbw c0 f0 x0
        go_wp2_with (fail)
        go_loopw [14] (fun i W => ∃ k : Nat, k ≤ M - 1 ∧ i = .int .i64 k ∧ Hid (RcRel w cl X k (ls ++ Fix.swapL (ls.take k)) W)) (fun i _ => M - 1 - (intOf i).toNat)
        case atStart => exact ⟨0, Nat.zero_le _, rfl, HT1⟩
        case round =>
          obtain ⟨wp, rfl⟩ : ∃ wp : World, wp = wr := ⟨_, rfl⟩
          clear HT1
          obtain ⟨k, hk, rfl, hrel⟩ := hrel
          by_cases hkm : k + 1 < M
          · have dk : decide ((k : Int) ≤ (M : Int) - 2) = true := by simp; omega
            obtain ⟨v, HR0'⟩ := hrel.out
            have HR0 := Lib.hid HR0'
            obtain ⟨hbw, hb4, hbX, hOR⟩ := HR0'
            have hls1 : (ls ++ Fix.swapL (ls.take k)).length = q + k := by rw [List.length_append, Fix.swapL, List.length_map, List.length_take, ← Hqq.out]; have := Hqm.out; omega
            obtain ⟨A6, c6, hv6, hc6, hm6, -⟩ := own_form (hOR.choose_spec.2.1)
            rw [hls1] at hv6 hc6
            subst hv6
            obtain ⟨l, hx0⟩ := getElem?_lt (l := ls) (k := k) (by rw [← Hqq.out, Hqm.out]; omega)
            have hx : (ls ++ Fix.swapL (ls.take k))[k]? = some l := by rw [List.getElem?_append_left (by rw [← Hqq.out, Hqm.out]; omega)]; exact hx0
            obtain ⟨b1, off1, A', c', rfl, hb1, hcell, hlc, hcm', hI⟩ := hOR.rounds.2.2.2.at_ hx
            have hll : l.length ≤ 12 := Hlen.out l (List.mem_of_getElem? hx0)
            obtain ⟨nl, hnl⟩ : ∃ nl, nl = l.length := ⟨_, rfl⟩
            rw [← hnl] at hcell hlc hll
            have xc0 : wp.cell? ⟨X, 0, none⟩ = some (.slice (some ⟨b1, off1, none⟩) (q + k) c6) := hbX.cell 0
            have ltX := hbX.lt
            have HI := Lib.hid hI
            have Hnl := Lib.hid hnl
            have Hx := Lib.hid hx0
            have xc1 := hcell
            have lt1 := hb1
            have hkqI : (k : Int) < ((q + k : Nat) : Int) := by have := Hqm.out; omega
            have hkqI' : (k : Int) < (q : Int) + (k : Int) := by have := Hqm.out; omega
            have hkq : k < q + k := by have := Hqm.out; omega
            have HRR := Lib.hid (show ∃ v, v = .slice (some ⟨b1, off1, none⟩) (q + k) c6 ∧ Below w.heap.size w wp ∧ Blk wp w.heap.size 26 #[.slice none 0 0] ∧ Blk wp X 26 #[v] ∧ OwnR wp w.heap.size v (ls ++ Fix.swapL (ls.take k)) from ⟨_, rfl, hbw, hb4, hbX, hOR⟩)
            have hq24 : q ≤ 23 := by have := Hqm.out; omega
            have HH := Lib.hid hq24
            clear hbw hb4 hbX hOR hI hnl hx hx0 hrel HR0 hls1
            go_upto_region 29 with (fail)
            generalize hge : World.alloc _ _ = w3
            have HO := Lib.hid (show w3.ownsRow wp.heap.size 51 2 (.slice (some ⟨wp.heap.size, 0, none⟩) 0 0) 0 (ivV []) by subst hge; exact World.ownsRow_lit (size := 2) wp #[] 0 (Nat.le_refl _) (Nat.zero_le _) rfl)
            have HB3 := Lib.hid (show Below wp.heap.size wp w3 by subst hge; exact (Below.refl _ _).alloc (Nat.le_refl _) _)
            clear hge
            go_wp2_with (fail)
            go_loopw [16, 15] (fun i bk W => ∃ j : Nat, ∃ A5 c5, j ≤ nl ∧ i = .int .i64 j ∧ bk = .slice A5 j c5 ∧ Hid (W.ownsRow wp.heap.size 51 2 (.slice A5 j c5) j (ivV ((l.take j).map Fix.swapM))) ∧ Hid (Below wp.heap.size wp W)) (fun i _ _ => nl - (intOf i).toNat)
            case atStart => exact ⟨0, _, _, Nat.zero_le _, rfl, rfl, HO, HB3⟩
            case round =>
              obtain ⟨wj, rfl⟩ : ∃ wj : World, wj = wr := ⟨_, rfl⟩
              clear HO HB3
              obtain ⟨j, A5, c5, hj, rfl, rfl, hown, hBj⟩ := hrel
              have yc0 := (hBj.out.cell (p := ⟨X, 0, none⟩) ltX).trans xc0
              have yc1 := (hBj.out.cell (p := ⟨b1, off1 + k, none⟩) lt1).trans xc1
              by_cases hjl : j < nl
              · obtain ⟨⟨x, y⟩, hxy⟩ := getElem?_lt (l := l) (k := j) (by rw [← Hnl.out]; exact hjl)
                obtain ⟨b2, off2, rfl, lt2, hcs⟩ := HI.out.at_ (by rw [← Hnl.out]; omega)
                have xc2 := (hcs j _ hxy).1
                have xc3 := (hcs j _ hxy).2
                have Hxy := Lib.hid hxy
                have hjlI : (j : Int) < (nl : Int) := by omega
                clear hcs hxy
                go_upto_region 32 with (fail)
                clear yc0 yc1
                refine wp_region_held_drew (S := fun W => Below wp.heap.size wp W) (by kernel_rfl) (below_drewN hBj.out 1) (fun Hd => ?_)
                have Hd : Below wp.heap.size wp wj.drew := below_drewN hBj.out 1
                have Zd : wp.heap.size ≤ wj.drew.heap.size := hBj.out.size
                have own0 : wj.drew.ownsRow wp.heap.size 51 2 (.slice A5 j c5) j (ivV ((l.take j).map Fix.swapM)) := own_below hown.out (below_drewN (Below.refl _ _) 1)
                generalize World.drew wj = wd at *
                refine wpAnyH_take (i := 0) (v := ?_) rfl (by kernel_rfl) (by kernel_rfl) (by kernel_rfl) (fun _ _ _ h => h) (Or.inl ⟨by rfl, ?_⟩) Hd ?_
                rotate_left
                · intro wS hSw
                  go_simp
                  try with_reducible rfl
                try simp only [List.getElem_toArray, List.getElem_cons_zero, List.getElem_cons_succ, Act.put, List.setIfInBounds_toArray, List.set_cons_zero, List.set_cons_succ]
                refine wpAnyH_take (i := 1) (v := ?_) rfl (by kernel_rfl) (by kernel_rfl) (by kernel_rfl) (fun _ _ _ h => h) (Or.inl ⟨by rfl, ?_⟩) Hd ?_
                rotate_left
                · intro wS hSw
                  go_simp
                  try with_reducible rfl
                try simp only [List.getElem_toArray, List.getElem_cons_zero, List.getElem_cons_succ, Act.put, List.setIfInBounds_toArray, List.set_cons_zero, List.set_cons_succ]
                refine wpAnyH_take (i := 2) (v := ?_) rfl (by kernel_rfl) (by kernel_rfl) (by kernel_rfl) (fun _ _ _ h => h) (Or.inl ⟨by rfl, ?_⟩) Hd ?_
                rotate_left
                · intro wS hSw
                  have c1 := (hSw.cell (p := ⟨X, 0, none⟩) ltX).trans xc0
                  go_simp
                  try with_reducible rfl
                try simp only [List.getElem_toArray, List.getElem_cons_zero, List.getElem_cons_succ, Act.put, List.setIfInBounds_toArray, List.set_cons_zero, List.set_cons_succ]
                refine wpAnyH_take (i := 3) (v := ?_) rfl (by kernel_rfl) (by kernel_rfl) (by kernel_rfl) (fun _ _ _ h => h) (Or.inl ⟨by rfl, ?_⟩) Hd ?_
                rotate_left
                · intro wS hSw
                  go_simp
                  try with_reducible rfl
                try simp only [List.getElem_toArray, List.getElem_cons_zero, List.getElem_cons_succ, Act.put, List.setIfInBounds_toArray, List.set_cons_zero, List.set_cons_succ]
                refine wpAnyH_take (i := 4) (v := ?_) rfl (by kernel_rfl) (by kernel_rfl) (by kernel_rfl) (fun _ _ _ h => h) (Or.inl ⟨by rfl, ?_⟩) Hd ?_
                rotate_left
                · intro wS hSw
                  go_simp
                  try with_reducible rfl
                try simp only [List.getElem_toArray, List.getElem_cons_zero, List.getElem_cons_succ, Act.put, List.setIfInBounds_toArray, List.set_cons_zero, List.set_cons_succ]
                refine wpAnyH_take (i := 5) (v := ?_) rfl (by kernel_rfl) (by kernel_rfl) (by kernel_rfl) (fun _ _ _ h => h) (Or.inl ⟨by rfl, ?_⟩) Hd ?_
                rotate_left
                · intro wS hSw
                  have c2 := (hSw.cell (p := ⟨b1, off1 + k, none⟩) lt1).trans xc1
                  go_simp
                  try with_reducible rfl
                try simp only [List.getElem_toArray, List.getElem_cons_zero, List.getElem_cons_succ, Act.put, List.setIfInBounds_toArray, List.set_cons_zero, List.set_cons_succ]
                refine wpAnyH_take (i := 6) (v := ?_) rfl (by kernel_rfl) (by kernel_rfl) (by kernel_rfl) (fun _ _ _ h => h) (Or.inl ⟨by rfl, ?_⟩) Hd ?_
                rotate_left
                · intro wS hSw
                  go_simp
                  try with_reducible rfl
                try simp only [List.getElem_toArray, List.getElem_cons_zero, List.getElem_cons_succ, Act.put, List.setIfInBounds_toArray, List.set_cons_zero, List.set_cons_succ]
                refine wpAnyH_take (i := 7) (v := ?_) rfl (by kernel_rfl) (by kernel_rfl) (by kernel_rfl) (fun _ _ _ h => h) (Or.inl ⟨by rfl, ?_⟩) Hd ?_
                rotate_left
                · intro wS hSw
                  go_simp
                  try with_reducible rfl
                try simp only [List.getElem_toArray, List.getElem_cons_zero, List.getElem_cons_succ, Act.put, List.setIfInBounds_toArray, List.set_cons_zero, List.set_cons_succ]
                refine wpAnyH_take (i := 8) (v := ?_) rfl (by kernel_rfl) (by kernel_rfl) (by kernel_rfl) (fun _ _ _ h => h) (Or.inl ⟨by rfl, ?_⟩) Hd ?_
                rotate_left
                · intro wS hSw
                  go_simp
                  try with_reducible rfl
                try simp only [List.getElem_toArray, List.getElem_cons_zero, List.getElem_cons_succ, Act.put, List.setIfInBounds_toArray, List.set_cons_zero, List.set_cons_succ]
                refine wpAnyH_take (i := 9) (v := ?_) rfl (by kernel_rfl) (by kernel_rfl) (by kernel_rfl) (fun _ _ _ h => h) (Or.inl ⟨by rfl, ?_⟩) Hd ?_
                rotate_left
                · intro wS hSw
                  have c3 := (hSw.cell (p := ⟨b2, off2 + j * 2 + 1, none⟩) lt2).trans xc3
                  go_simp
                  try with_reducible rfl
                try simp only [List.getElem_toArray, List.getElem_cons_zero, List.getElem_cons_succ, Act.put, List.setIfInBounds_toArray, List.set_cons_zero, List.set_cons_succ]
                refine wpAnyH_take (i := 10) (v := ?_) rfl (by kernel_rfl) (by kernel_rfl) (by kernel_rfl) (fun _ _ _ h => h) (Or.inl ⟨by rfl, ?_⟩) Hd ?_
                rotate_left
                · intro wS hSw
                  go_simp
                  try with_reducible rfl
                try simp only [List.getElem_toArray, List.getElem_cons_zero, List.getElem_cons_succ, Act.put, List.setIfInBounds_toArray, List.set_cons_zero, List.set_cons_succ]
                refine wpAnyH_take (i := 11) (v := ?_) rfl (by kernel_rfl) (by kernel_rfl) (by kernel_rfl) (fun _ _ _ h => h) (Or.inl ⟨by rfl, ?_⟩) Hd ?_
                rotate_left
                · intro wS hSw
                  have c1 := (hSw.cell (p := ⟨X, 0, none⟩) ltX).trans xc0
                  go_simp
                  try with_reducible rfl
                try simp only [List.getElem_toArray, List.getElem_cons_zero, List.getElem_cons_succ, Act.put, List.setIfInBounds_toArray, List.set_cons_zero, List.set_cons_succ]
                refine wpAnyH_take (i := 12) (v := ?_) rfl (by kernel_rfl) (by kernel_rfl) (by kernel_rfl) (fun _ _ _ h => h) (Or.inl ⟨by rfl, ?_⟩) Hd ?_
                rotate_left
                · intro wS hSw
                  go_simp
                  try with_reducible rfl
                try simp only [List.getElem_toArray, List.getElem_cons_zero, List.getElem_cons_succ, Act.put, List.setIfInBounds_toArray, List.set_cons_zero, List.set_cons_succ]
                refine wpAnyH_take (i := 13) (v := ?_) rfl (by kernel_rfl) (by kernel_rfl) (by kernel_rfl) (fun _ _ _ h => h) (Or.inl ⟨by rfl, ?_⟩) Hd ?_
                rotate_left
                · intro wS hSw
                  go_simp
                  try with_reducible rfl
                try simp only [List.getElem_toArray, List.getElem_cons_zero, List.getElem_cons_succ, Act.put, List.setIfInBounds_toArray, List.set_cons_zero, List.set_cons_succ]
                refine wpAnyH_take (i := 14) (v := ?_) rfl (by kernel_rfl) (by kernel_rfl) (by kernel_rfl) (fun _ _ _ h => h) (Or.inl ⟨by rfl, ?_⟩) Hd ?_
                rotate_left
                · intro wS hSw
                  have c2 := (hSw.cell (p := ⟨b1, off1 + k, none⟩) lt1).trans xc1
                  go_simp
                  try with_reducible rfl
                try simp only [List.getElem_toArray, List.getElem_cons_zero, List.getElem_cons_succ, Act.put, List.setIfInBounds_toArray, List.set_cons_zero, List.set_cons_succ]
                refine wpAnyH_take (i := 15) (v := ?_) rfl (by kernel_rfl) (by kernel_rfl) (by kernel_rfl) (fun _ _ _ h => h) (Or.inl ⟨by rfl, ?_⟩) Hd ?_
                rotate_left
                · intro wS hSw
                  go_simp
                  try with_reducible rfl
                try simp only [List.getElem_toArray, List.getElem_cons_zero, List.getElem_cons_succ, Act.put, List.setIfInBounds_toArray, List.set_cons_zero, List.set_cons_succ]
                refine wpAnyH_take (i := 16) (v := ?_) rfl (by kernel_rfl) (by kernel_rfl) (by kernel_rfl) (fun _ _ _ h => h) (Or.inl ⟨by rfl, ?_⟩) Hd ?_
                rotate_left
                · intro wS hSw
                  go_simp
                  try with_reducible rfl
                try simp only [List.getElem_toArray, List.getElem_cons_zero, List.getElem_cons_succ, Act.put, List.setIfInBounds_toArray, List.set_cons_zero, List.set_cons_succ]
                refine wpAnyH_take (i := 17) (v := ?_) rfl (by kernel_rfl) (by kernel_rfl) (by kernel_rfl) (fun _ _ _ h => h) (Or.inl ⟨by rfl, ?_⟩) Hd ?_
                rotate_left
                · intro wS hSw
                  go_simp
                  try with_reducible rfl
                try simp only [List.getElem_toArray, List.getElem_cons_zero, List.getElem_cons_succ, Act.put, List.setIfInBounds_toArray, List.set_cons_zero, List.set_cons_succ]
                refine wpAnyH_take (i := 18) (v := ?_) rfl (by kernel_rfl) (by kernel_rfl) (by kernel_rfl) (fun _ _ _ h => h) (Or.inl ⟨by rfl, ?_⟩) Hd ?_
                rotate_left
                · intro wS hSw
                  have c3 := (hSw.cell (p := ⟨b2, off2 + j * 2, none⟩) lt2).trans xc2
                  go_simp
                  try with_reducible rfl
                try simp only [List.getElem_toArray, List.getElem_cons_zero, List.getElem_cons_succ, Act.put, List.setIfInBounds_toArray, List.set_cons_zero, List.set_cons_succ]
                refine wpAnyH_take (i := 19) (v := ?_) rfl (by kernel_rfl) (by kernel_rfl) (by kernel_rfl) (fun _ _ _ h => h) (Or.inl ⟨by rfl, ?_⟩) Hd ?_
                rotate_left
                · intro wS hSw
                  go_simp
                  try with_reducible rfl
                try simp only [List.getElem_toArray, List.getElem_cons_zero, List.getElem_cons_succ, Act.put, List.setIfInBounds_toArray, List.set_cons_zero, List.set_cons_succ]
                refine wpAnyH_ready (rs := [20]) (by kernel_rfl) (by simp) (AllReadyH.cons rfl (fun K hK => ?_) AllReadyH.nil)
                go_simp
                generalize hge : World.alloc _ _ = w1_
                have fp1 : Blk w1_ wd.heap.size 51 #[.int .i64 y, .int .i64 x] := by subst hge; exact Blk.new _ _ _
                have hb1 : Below wd.heap.size wd w1_ := by subst hge; exact (Below.refl _ _).alloc (Nat.le_refl _) _
                clear hge
                have Hb1 : Below wp.heap.size wp w1_ := below_of Hd hb1 Hd.size
                have Zb1 : wp.heap.size ≤ w1_.heap.size := Nat.le_trans Zd hb1.size
                have own1 := own_below own0 hb1
                have lop1 : wp.heap.size ≤ wd.heap.size := Zd
                have np1 : (.slice A5 j c5 : Value).ownBlock ≠ some wd.heap.size := fun e => absurd (own0.lt _ e).2 (Nat.lt_irrefl _)
                refine hK.out _ _ Hb1 fun _ => ?_
                clear hK K
                try simp only [List.getElem_toArray, List.getElem_cons_zero, List.getElem_cons_succ, Act.put, List.setIfInBounds_toArray, List.set_cons_zero, List.set_cons_succ]
                refine wpAnyH_ready (rs := [21]) (by kernel_rfl) (by simp) (AllReadyH.cons rfl (fun K hK => ?_) AllReadyH.nil)
                refine step_append_cells (by rfl) (.tmp 126) (.tmp 146) 46 (by rfl) wp.heap.size 51 (.agg #[.int .i64 0, .int .i64 0]) 2 16 (by kernel_rfl) (by kernel_rfl) rfl (by omega) (.slice A5 j c5) (j) (ivV ((l.take j).map Fix.swapM)) own1 (by rfl) (_) (1) (_) (ivV [(y, x)]) (by rfl) (rfl) (cells_of_blk7 fp1 rfl) (ivV_one _) (by unfold maxLen; omega) (by omega) Zb1 ?_
                intro v2 w2_ own2 hg2 st2
                have Hb2 : Below wp.heap.size wp w2_ := below_grown Hb1 hg2 Hb1.size (fun k hk => own_base own1 k hk)
                have Zb2 : wp.heap.size ≤ w2_.heap.size := Nat.le_trans Zb1 hg2.size
                obtain ⟨A2_, c2_, rfl, le2, lm2, -⟩ := own_form own2
                have fp2 := Blk.grown fp1 hg2 (fun e => np1 e.symm)
                have np2 := np_sits st2 np1 fp1.lt
                refine hK.out _ _ Hb2 fun _ => ?_
                clear hK K
                try simp only [List.getElem_toArray, List.getElem_cons_zero, List.getElem_cons_succ, Act.put, List.setIfInBounds_toArray, List.set_cons_zero, List.set_cons_succ]
                refine wpAnyH_take (i := 22) (v := ?_) rfl (by kernel_rfl) (by kernel_rfl) (by kernel_rfl) (fun _ _ _ h => h) (Or.inl ⟨by rfl, ?_⟩) Hb2 ?_
                rotate_left
                · intro wS hSw
                  go_simp
                  try with_reducible rfl
                try simp only [List.getElem_toArray, List.getElem_cons_zero, List.getElem_cons_succ, Act.put, List.setIfInBounds_toArray, List.set_cons_zero, List.set_cons_succ]
                refine wpAnyH_done (by kernel_rfl) ?_ _
                have hown9 := own2
                rw [← ivV_append] at hown9
                go_wp2_with (fail)
                go_roundw
                case rel => exact ⟨j + 1, _, _, by omega, by go_num, rfl, Lib.hid (by rw [take_snoc Hxy.out, List.map_append]; exact hown9), Hb2⟩
                case measure => simp [intOf]; omega
              · obtain rfl : nl = j := by omega
                clear hjl
                have ht : l.take nl = l := by rw [Hnl.out]; exact List.take_of_length_le (Nat.le_refl _)
                have HownB := Lib.hid (show wj.ownsRow wp.heap.size 51 2 (.slice A5 nl c5) nl (ivV (l.map Fix.swapM)) by have := hown.out; rwa [ht] at this)
                obtain ⟨A5', c5', he5, hc5, hm5, -⟩ := own_form HownB.out
                injection he5 with e5a e5b e5c
                subst e5a; subst e5c
                clear ht hown e5b yc0 yc1
                obtain ⟨v, rfl, hbw, hb4, hbX, hOR⟩ := HRR.out
                have hB2 := hBj.out
                have Hbw2 := Lib.hid (below_of hbw hB2 hbw.size)
                have bX2 := hbX.below hB2
                have bA2 := hb4.below hB2
                have HOL := Lib.hid (fun b hb' => (hOR.ownBlock b hb').2)
                obtain ⟨hs', g1, g2, g3⟩ := hOR.below hB2
                have hn7 : (ls ++ Fix.swapL (ls.take k)).length = q + k := by rw [List.length_append, Fix.swapL, List.length_map, List.length_take, ← Hqq.out]; have := Hqm.out; omega
                rw [hn7] at g2
                have Hn7 := Lib.hid hn7
                have G1 := Lib.hid g1
                have HG2 := Lib.hid g2
                have HG3 := Lib.hid g3
                have HBL := Lib.hid bX2
                have HBA := Lib.hid bA2
                have HNL := Lib.hid (Boxed.not_row (B := X) bX2 (by decide) g2)
                have HNA := Lib.hid (Boxed.not_row (B := w.heap.size) bA2 (by decide) g2)
                have hcl' : wj.cell? ⟨X, 0, none⟩ = some (.slice (some ⟨b1, off1, none⟩) (q + k) c6) := bX2.cell 0
                have hcl1 := (hBj.out.cell (p := ⟨b1, off1 + k, none⟩) lt1).trans xc1
                clear g1 g2 g3 hbw hb4 hbX hOR bX2 bA2 hB2 hn7 xc0 xc1
                go_upto_region 27 with (at_builtin; refine push1 rfl (.tmp 149) (.tmp 151) 24 rfl w.heap.size 46 (.slice none 0 0) 24 (by kernel_rfl) (by kernel_rfl) rfl _ _ _ (.slice A5 nl c5) HG2.out rfl rfl rfl (by unfold maxLen; omega) (by omega) Hbw2.out.size ?_; intro v' w3' hown' hg3 hsit; have bL3 := Blk.grown HBL.out hg3 HNL.out; have hf3 := bL3.frozen 0; have hcl3 := bL3.cell 0; obtain ⟨A4, c4, rfl, hc4, hm4, -⟩ := own_form hown')
                have hbw3 : Below w.heap.size w w3' := below_grown Hbw2.out hg3 Hbw2.out.size (own_base HG2.out)
                have hbw4 := below_set (i := 0) hbw3 (P := X) (by omega) (.slice A4 (q + k + 1) c4)
                have bL4 : Blk (w3'.setCell ⟨X, 0, none⟩ (.slice A4 (q + k + 1) c4)) X 26 #[.slice A4 (q + k + 1) c4] := by simpa using bL3.set_ 0 (.slice A4 (q + k + 1) c4)
                have bC3 := Blk.grown HBA.out hg3 HNA.out
                have bC4 := bC3.far (p := ⟨X, 0, none⟩) (by simp; omega) (.slice A4 (q + k + 1) c4)
                have hin : Inner wj (.slice (some ⟨b1, off1, none⟩) (q + k) c6) A5 (l.map Fix.swapM) := Inner.own HownB.out (fun b' hb' => HOL.out b' hb')
                have hll' : (l.map Fix.swapM).length = nl := by rw [List.length_map, Hnl.out]
                have hOR3 := OwnR.push G1.out HG3.out hg3 hsit (by rw [Hn7.out, hll']; exact hown') (by rw [hll']; exact hc5) hm5 hin
                rw [List.append_assoc, ← Fix.swapL_snoc7 Hx.out] at hOR3
                have HF := Lib.hid (show RcRel w cl X (k + 1) (ls ++ Fix.swapL (ls.take (k + 1))) (w3'.setCell ⟨X, 0, none⟩ (.slice A4 (q + k + 1) c4)) from ⟨_, hbw4, bC4, bL4, hOR3.box bL3⟩)
                clear hbw3 hbw4 bL4 bC3 bC4 hin hll' hOR3 bL3 hcl3 hf3 hown' hg3 hsit
                generalize World.setCell _ _ _ = w4 at *
                go_wp2_with (fail)
                go_roundw
                case rel => exact ⟨k + 1, by omega, by go_num, HF⟩
                case measure => simp [intOf]; omega
          · obtain rfl : k = M - 1 := by omega
            have dk : decide ((((M - 1 : Nat) : Int)) ≤ (M : Int) - 2) = false := by simp; omega
            obtain ⟨v, hbw, hb4, hbX, hOR⟩ := hrel.out
            have ht2 : ls.take (M - 1) = ls := List.take_of_length_le (by rw [← Hqq.out, Hqm.out]; exact Nat.le_refl _)
            rw [ht2, Hls.out] at hOR
            obtain ⟨q6, hq6⟩ : ∃ q6, q6 = (Fix.baseM cl ++ Fix.swapL (Fix.baseM cl)).length := ⟨_, rfl⟩
            obtain ⟨A6, c6, hv6, hc6, hm6, -⟩ := own_form (hOR.choose_spec.2.1)
            rw [← hq6] at hv6 hc6
            subst hv6
            have HOR := Lib.hid hOR
            have Hb4 := Lib.hid hb4
            have Hbw := Lib.hid hbw
            have x0 : wp.cell? ⟨X, 0, none⟩ = some (.slice A6 q6 c6) := hbX.cell 0
            have f0 := hb4.frozen 0
            have c0 := hb4.cell 0
            clear ht2 hbw hb4 hbX hOR hq6 hrel
            go_wp2_with (fail)
            rw [HR.out]
            have b4 : Blk (wp.setCell ⟨w.heap.size, 0, none⟩ (.slice A6 q6 c6)) w.heap.size 26 #[.slice A6 q6 c6] := by simpa using Hb4.out.set_ 0 (.slice A6 q6 c6)
            refine bodyPost_ret (rcirc_results rfl rfl b4) rfl ?_
            obtain ⟨z1, z2, z3, z4⟩ := (HOR.out.box (i := 0) (u := .slice A6 q6 c6) Hb4.out).rounds
            have e1 : Fix.circE cl = 0 := by unfold Fix.circE; rw [Hv.out]; rfl
            have e2 : Fix.circM cl true = Fix.baseM cl ++ Fix.swapL (Fix.baseM cl) := by unfold Fix.circM; rw [Hv.out]; rfl
            unfold CircPost
            rw [e1, e2]
            exact ⟨A6, _, c6, rfl, z1, z2, z3, z4, below_set Hbw.out (Nat.le_refl _) _⟩
theorem rcircle_any (A : Option Addr) (n c : Nat) (cl : List Int) (double : Bool) (w : World) (hl : cl.length = n) (hnc : n ≤ c) (hcm : c ≤ maxLen) (hA : Ints w A cl) :
    Calls Try.prog 12 #[.slice A n c, .bool double] w (CircPost w cl double) := by
  cases hv : Fix.validC cl with
  | false => exact rcircle_bad A n c cl double w hl hnc hcm hA hv
  | true => exact rcircle_good A n c cl double w hl hnc hcm hA hv
end Go.Proofs.Ytpmkebejfnflfaa
