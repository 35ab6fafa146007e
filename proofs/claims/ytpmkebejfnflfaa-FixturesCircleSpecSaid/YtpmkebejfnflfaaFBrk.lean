/- The walk of Breaks (fixtures). -/
import Derived.Test.YtpmkebejfnflfaaFPat
namespace Go.Proofs.Ytpmkebejfnflfaa
open Go.RowKit Go.Shelf Go.Lib Go.Sort
namespace Fix
/-- How often a number stands beside its like, up to place k. -/
def brkTo (p : List Int) : Nat → Nat
  | 0 => 0
  | k + 1 => brkTo p k + (if 1 ≤ k ∧ p.getD k 0 = p.getD (k - 1) 0 then 1 else 0)
def playsP (p : List Int) : List Int := p.filter fun x => !decide (x = 0)
def breaksP (p : List Int) : Nat := brkTo (playsP p) (playsP p).length
theorem brkTo_le (p : List Int) : ∀ k, brkTo p k ≤ k
  | 0 => Nat.le_refl _
  | k + 1 => by have := brkTo_le p k; simp only [brkTo]; split <;> omega
theorem brkTo_hit {p : List Int} {k : Nat} (h : 1 ≤ k) (e : p.getD k 0 = p.getD (k - 1) 0) : brkTo p (k + 1) = brkTo p k + 1 := by rw [brkTo, if_pos ⟨h, e⟩]
theorem brkTo_miss {p : List Int} {k : Nat} (e : p.getD k 0 ≠ p.getD (k - 1) 0) : brkTo p (k + 1) = brkTo p k := by rw [brkTo, if_neg (fun h => e h.2)]; rfl
end Fix
theorem zgives_any (x : Int) (W : World) : FnGives Try.prog 43 #[] #[.int .i64 x] (.bool (decide (x = 0))) W := by
  show Calls Try.prog 43 #[.int .i64 x] W _
  by_cases h : x = 0
  · have e : (x == 0) = true := by simpa using h
    rw [decide_eq_true h]
    go_enter Try.func43, Try.ntmps43
    go_wp2_with (fail)
    go_ret
    exact ⟨by first | rfl | (rw [e]), 0, rfl⟩
  · have e : (x == 0) = false := by simpa using h
    rw [decide_eq_false h]
    go_enter Try.func43, Try.ntmps43
    go_wp2_with (fail)
    go_ret
    exact ⟨by first | rfl | (rw [e]), 0, rfl⟩
theorem holds_of_block {w : World} {g n : Nat} {cur : Array Value} {e : TypeId} {l : List Int} (hb : w.heap[g]? = some (.cells cur e (0, 0))) (hl : l.length = n) (ht : cur.toList.take (n * 1) = intV l) : Holds (Value.int .i64) w g 0 l.toArray := by
  intro j hj
  have hj' : j < l.length := by simpa using hj
  refine ⟨?_, by simp [World.frozen?, hb]⟩
  have h1 : (cur.toList.take (n * 1))[j]? = (intV l)[j]? := by rw [ht]
  rw [List.getElem?_take_of_lt (by omega), Array.getElem?_toList, intV, List.getElem?_map, List.getElem?_eq_getElem hj'] at h1
  rw [getElem!_pos _ j hj]
  simp only [World.cell?, hb, Nat.zero_add, Option.isSome_none, Bool.false_eq_true, if_false]
  simpa using h1
theorem grownBy_putRow {α : Type} [Inhabited α] (enc : α → Value) {w : World} {g n : Nat} (F : Array α) : w.grownBy (putRow enc (Sort.ahead w n) g 0 F) (some g) := by
  refine ⟨rfl, rfl, rfl, by simp, fun k hk hne => ?_⟩
  have : g ≠ k := fun e => hne (by rw [e])
  simp [putRow, mapBlock, Sort.ahead, Array.getElem?_modify, this]
set_option maxHeartbeats 2000000 in
theorem delete_any (base : Nat) (v : Value) (n : Nat) (zs : List Int) (w : World) (hz : zs.length = n) (hown : w.ownsRow base 3 1 v n (intV zs)) (hn : n ≤ 1000000) :
    Calls Try.prog 42 #[v, .func (.func 43) #[] #[]] w fun e w' => ∃ A' q c', e = .returned (.slice A' q c') ∧ (Fix.playsP zs).length = q ∧ q ≤ n ∧ Cells w' A' (intV (Fix.playsP zs)) ∧ w.grownBy w' v.ownBlock := by
  have eg : ∀ args w, (callFunc 43 args).run Try.prog w = .ok (.enter 43 args) w := enters_of Try.func43 (by kernel_rfl) rfl
  rcases hown.2 with ⟨rfl, h0⟩ | ⟨g, cap, cur, rfl, hbase, hb, h1, h2, h3, h4⟩
  · obtain rfl : zs = [] := List.eq_nil_of_length_eq_zero (by omega)
    have hI : ∀ W, Calls Try.prog 57 #[.slice none 0 0, .func (.func 43) #[] #[]] W fun e w' => e = .returned (.int .i64 (-1)) ∧ W = w' := fun W => by
      go_enter Try.func57, Try.ntmps57
      go_wp2_with (fail)
      refine wp_loop_rounds 1 ?_
      rw [rounds_succ]
      go_wp2_with (fail)
      go_ret
      exact ⟨rfl, rfl⟩
    clear hown
    go_enter Try.func42, Try.ntmps42
    go_wp2_with ((go_at_call 57; refine (hI _).mono ?_; rintro e w' ⟨rfl, rfl⟩))
    go_ret
    exact ⟨none, 0, 0, rfl, rfl, Nat.zero_le _, .inl rfl, World.grownBy.refl _ _⟩
  · have hH := holds_of_block hb hz h4
    have hcon := AnyE.slices_DeleteFunc Try.delInt (Value.int .i64) (fun _ => rfl) (fun x => decide (x = 0)) 43 #[] eg 0 Try.zeroValue3 g 0 cap zs.toArray w (fun W x _ => zgives_any x W) (fun m os dk x _ => zgives_any x _) hH (by simp; omega) (by simp; omega)
    change Calls Try.prog 42 _ _ _ at hcon
    have es : zs.toArray.size = n := by simpa using hz
    rw [es] at hcon
    refine hcon.mono ?_
    rintro e w' ⟨rfl, q, rfl⟩
    have hle : (Fix.playsP zs).length ≤ n := by rw [← hz]; exact List.length_filter_le _ _
    refine ⟨_, _, _, rfl, rfl, hle, ?_, ?_⟩
    · have hF : ((Fix.playsP zs) ++ List.replicate (n - (Fix.playsP zs).length) 0).toArray.size = zs.toArray.size := by simp; omega
      have hh := holds_putRow (Value.int .i64) (Sort.ahead w q) g 0 zs.toArray _ (holds_ahead _ w q g 0 _ hH) hF
      rcases Nat.eq_zero_or_pos (Fix.playsP zs).length with h | h
      · exact .inl (by rw [List.eq_nil_of_length_eq_zero h]; rfl)
      · refine .inr ⟨g, 0, rfl, ?_, fun j u hj => ?_⟩
        · rw [Sort.size_putRow]; exact (Array.getElem?_eq_some_iff.1 hb).1
        · rw [intV, List.getElem?_map] at hj
          obtain ⟨x, hx, rfl⟩ := Option.map_eq_some_iff.1 hj
          have hjl := (List.getElem?_eq_some_iff.1 hx).1
          have := (hh j (by simp; omega)).1
          rw [getElem!_pos _ j (by simp; omega)] at this
          simp only [List.getElem_toArray] at this
          rw [List.getElem_append_left hjl, (List.getElem?_eq_some_iff.1 hx).2] at this
          exact this
    · exact grownBy_putRow _ _
set_option linter.unusedVariables false in
set_option linter.unusedSimpArgs false in
set_option maxRecDepth 100000 in
set_option maxHeartbeats 8000000 in
theorem breaks_any (A : Option Addr) (n c : Nat) (ls : List (List (Int × Int))) (club : Int) (w : World) (hl : ls.length = n) (hn : n ≤ 1000000) (hC : RoundsC w A ls) (hs : ∀ l ∈ ls, l.length ≤ 1000000) :
    Calls Try.prog 22 #[.agg #[.slice A n c], .int .i64 club] w fun e w' => e = .returned (.int .i64 (Fix.breaksP (ls.map (Fix.patM club)) : Nat)) ∧ Below w.heap.size w w' := by
  have HP := Lib.hid (fun W (h : RoundsC W A ls) => pattern_any A n c ls club W hl hn h hs)
  have HC := Lib.hid hC
  have Hl := Lib.hid (show (ls.map (Fix.patM club)).length = n by rw [List.length_map, hl])
  generalize ls.map (Fix.patM club) = pt at *
  obtain ⟨R, hR⟩ : ∃ R, Fix.breaksP pt = R := ⟨_, rfl⟩
  have HRr := Lib.hid hR
  rw [hR]
  clear hC hl hs hR
  go_enter Try.func22, Try.ntmps22
  go_wp2_with (fail)
  generalize hge : World.alloc _ _ = w1
  have hb1 : Below w.heap.size w w1 := by subst hge; exact (Below.refl _ _).alloc (Nat.le_refl _) _
  have HB1 := Lib.hid hb1
  have HC1 := Lib.hid (HC.out.below hb1)
  clear hge hb1
  refine (HP.out w1 HC1.out).mono ?_
  rintro e w2 ⟨A', c', rfl, hown, h1, h2, hb2⟩
  have Hown := Lib.hid hown
  have HB2 := Lib.hid hb2
  clear hown hb2
  go_wp2_with (fail)
  refine (delete_any w1.heap.size (.slice A' n c') n pt w2 Hl.out Hown.out hn).mono ?_
  rintro e w3 ⟨A3, q, c3, rfl, hq, hqn, hC3, hg⟩
  have HB3 := Lib.hid (show Below w.heap.size w w3 from HB1.out.trans ((below_grown HB2.out hg HB2.out.size (own_base Hown.out)).mono HB1.out.size))
  have HC3 := Lib.hid (show Ints w3 A3 (Fix.playsP pt) from hC3)
  have Hq := Lib.hid hq
  have HR := Lib.hid (show R = Fix.brkTo (Fix.playsP pt) q by rw [← HRr.out]; unfold Fix.breaksP; rw [hq])
  generalize Fix.playsP pt = p at *
  clear hg hq hC3
  go_wp2_with (fail)
  rcases Nat.eq_zero_or_pos q with rfl | hq0
  · go_loopw [4, 6] (fun s i wr => s = .int .i64 0 ∧ i = .int .i64 1 ∧ w3 = wr) (fun _ _ _ => 0)
    case atStart => exact ⟨rfl, rfl, rfl⟩
    case round =>
      obtain ⟨rfl, rfl, rfl⟩ := hrel
      go_wp2_with (fail)
      go_ret
      exact ⟨by rw [HR.out]; rfl, HB3.out⟩
  go_loopw [4, 6] (fun s i wr => ∃ k : Nat, 1 ≤ k ∧ k ≤ q ∧ i = .int .i64 k ∧ s = .int .i64 (Fix.brkTo p k : Nat) ∧ Hid (Below w3.heap.size w3 wr)) (fun _ i _ => q - (intOf i).toNat)
  case atStart => exact ⟨1, by omega, by omega, rfl, by simp [Fix.brkTo], Below.refl _ _⟩
  case round =>
    obtain ⟨k, hk1, hk, rfl, rfl, hB⟩ := hrel
    obtain ⟨wq, rfl⟩ : ∃ wq : World, wq = wr := ⟨_, rfl⟩
    by_cases hlt : k < q
    · have hdk : decide ((k : Int) < (q : Int)) = true := by simp; omega
      have hdk2 : decide (k < q) = true := by simp; omega
      have hkI : (k : Int) < (q : Int) := by omega
      obtain ⟨k', rfl⟩ : ∃ k', k = k' + 1 := ⟨k - 1, by omega⟩
      obtain ⟨j, hj⟩ : ∃ j, k' + 1 = j := ⟨_, rfl⟩
      obtain ⟨x, hx⟩ := getElem?_lt (l := p) (k := j) (by rw [Hq.out]; omega)
      obtain ⟨y, hy⟩ := getElem?_lt (l := p) (k := k') (by rw [Hq.out]; omega)
      obtain ⟨b, off, rfl, hb, hcs⟩ := HC3.out.at_ (k := j) (by rw [Hq.out]; omega)
      have c1 := (hB.out.cell (p := ⟨b, off + j, none⟩) hb).trans (hcs j _ hx)
      have c2 := (hB.out.cell (p := ⟨b, off + k', none⟩) hb).trans (hcs k' _ hy)
      have Gx := Lib.hid (getD_of hx)
      have Gy := Lib.hid (getD_of hy)
      have hble := Fix.brkTo_le p j
      have d4 : (j : Int) - 1 = (k' : Int) := by omega
      have d5 : IntKind.i64.wrap (k' : Int) = (k' : Int) := IntWalk.i64_in _ (by omega)
      have hkI' : (k' : Int) < (q : Int) := by omega
      have hkN' : k' < q := by omega
      have Hj := Lib.hid hj
      rw [hj] at hlt hdk hdk2 hkI hk hk1 ⊢
      by_cases hxy : x = y
      · have e1 : (x == y) = true := by simpa using hxy
        have HS := Lib.hid (show Fix.brkTo p (j + 1) = Fix.brkTo p j + 1 from Fix.brkTo_hit hk1 (by rw [← Hj.out, show k' + 1 - 1 = k' by omega, Hj.out, Gx.out, Gy.out, hxy]))
        generalize Fix.brkTo p j = s at *
        have e2 : IntKind.i64.wrap ((s : Int) + 1) = ((s + 1 : Nat) : Int) := by rw [IntWalk.i64_in _ (by omega)]; omega
        clear hcs hx hy hj
        go_wp2_with (fail)
        go_quiet (fail)
        go_wp2_with (fail)
        go_roundw
        case rel => exact ⟨j + 1, by omega, by omega, by go_num, by rw [HS.out]; first | rfl | (congr 1), below_drewN hB.out _⟩
        case measure => simp [intOf]; omega
      · have e1 : (x == y) = false := by simpa using hxy
        have HS := Lib.hid (show Fix.brkTo p (j + 1) = Fix.brkTo p j from Fix.brkTo_miss (by rw [← Hj.out, show k' + 1 - 1 = k' by omega, Hj.out, Gx.out, Gy.out]; exact hxy))
        generalize Fix.brkTo p j = s at *
        clear hcs hx hy hj
        go_wp2_with (fail)
        go_quiet (fail)
        go_wp2_with (fail)
        go_roundw
        case rel => exact ⟨j + 1, by omega, by omega, by go_num, by rw [HS.out], below_drewN hB.out _⟩
        case measure => simp [intOf]; omega
    · obtain rfl : k = q := by omega
      have hdk : decide ((k : Int) < (k : Int)) = false := by simp
      go_wp2_with (fail)
      go_ret
      exact ⟨by rw [HR.out]; rfl, HB3.out.trans (hB.out.mono HB3.out.size)⟩
end Go.Proofs.Ytpmkebejfnflfaa
