/- Walks and plain laws that the statement rests on: HT, MRcv. -/
import Derived.Deep.RegionHeld
import Derived.Deep.RegionHeld3
import Derived.WalkKit
import Derived.Test.YtkflpoiobpblhaaGreatP00
import Derived.Test.YtkflpoiobpblhaaGreatP39
import Derived.Test.YtkflpoiobpblhaaGreatPS
import Derived.Test.YtkflpoiobpblhaaGreatP44
set_option maxRecDepth 100000
set_option maxHeartbeats 16000000
set_option linter.unusedVariables false
set_option linter.unusedSimpArgs false
namespace Go.Proofs.YtkflpoiobpblhaaGreat
open Go.RowKit
section
variable {P : Program} {ops : Array Oper} {Q : Exit → Act → World → Prop} {md : Region.Mode} {S : World → Prop} {n : Nat}
def wpAnyT (P : Program) (md : Region.Mode) (ops : Array Oper) (Q : Exit → Act → World → Prop) (S : World → Prop) (n : Nat) : Nat → Array Bool → Act → World → Prop
 | 0, listed, a, w => Region.ready md ops listed = [] ∧ Q .normal a w
 | fuel + 1, listed, a, w =>
   (Region.ready md ops listed = [] → Q .normal a w) ∧
   ∀ i ∈ Region.ready md ops listed, wpOp P ops Q i (fun a' w' => (i ≠ n → S w') ∧ wpAnyT P md ops Q S n fuel (listed.setIfInBounds i true) a' w') a w
theorem wpAny_of_T : ∀ (fuel : Nat) (listed : Array Bool) (a : Act) (w : World), wpAnyT P md ops Q S n fuel listed a w → wpAny P md ops Q fuel listed a w
 | 0, _, _, _, h => h
 | fuel + 1, _, _, _, h => ⟨h.1, fun i hi => wpOp_mono (fun a' w' h' => wpAny_of_T fuel _ a' w' h'.2) (h.2 i hi)⟩
def waits (md : Region.Mode) (ops : Array Oper) (n i : Nat) : Bool := match ops[n]? with
 | some o => o.after.any (fun e => Region.binds md e && e.on == i)
 | none => false
theorem wpAnyT_first {i : Nat} {oi : Oper} {v : Value} (hi : ops[i]? = some oi) (hsel : ∀ (j : Nat) (o : Oper) cs b, ops[j]? = some o → o.op ≠ .select cs b)
    (hQ : ∀ c a w, Q (.panic c) (a.put oi.dst v) w → Q (.panic c) a w) (hwt : waits md ops n i = true) :
    ∀ (fuel : Nat) (listed : Array Bool) (a : Act) (w : World),
     (∀ j oj, ops[j]? = some oj → j ≠ i → listed.getD j true = false → (∀ e ∈ oj.after, Region.binds md e = true → e.on ≠ i) → oi.apart ops oj = true) →
     i ∈ Region.ready md ops listed → YieldsIf P ops S oi v a → S w →
     wpAnyT P md ops Q S n fuel (listed.setIfInBounds i true) (a.put oi.dst v) w → wpAnyT P md ops Q S n (fuel + 1) listed a w := by
 intro fuel
 induction fuel with
 | zero =>
   intro listed a w _ hr hy hS H
   refine ⟨fun h => (by rw [h] at hr; cases hr), fun j hj => ?_⟩
   by_cases hji : j = i
   · subst hji; exact hy.wpOp hi hS ⟨fun _ => hS, H⟩
   have := ready_mono hj hji
   rw [H.1] at this
   cases this
 | succ fuel ih =>
   intro listed a w hfree hr hy hS H
   refine ⟨fun h => (by rw [h] at hr; cases hr), fun j hj => ?_⟩
   by_cases hji : j = i
   · subst hji; exact hy.wpOp hi hS ⟨fun _ => hS, H⟩
   have h1 := H.2 j (ready_mono hj hji)
   obtain ⟨hjun, oj, hoj, hall⟩ := mem_ready.1 hj
   have hnot : ∀ e ∈ oj.after, Region.binds md e = true → e.on ≠ i := fun e he hb heq => by
    have h1 := hall e he hb
    have h0 := (mem_ready.1 hr).1
    rw [heq] at h1
    rcases Nat.lt_or_ge i listed.size with h' | h'
    · simp [h'] at h0 h1; rw [h0] at h1; cases h1
    simp [Array.getElem?_eq_none h'] at h1
   have hjn : j ≠ n := fun e => by
    subst e
    unfold waits at hwt
    rw [hoj] at hwt
    simp only [Array.any_eq_true, Bool.and_eq_true, beq_iff_eq] at hwt
    obtain ⟨k, hk, hb, hon⟩ := hwt
    exact hnot _ (Array.getElem_mem hk) hb hon
   have h2 := wpOp_putIf hoj (hfree j oj hoj hji hjun hnot) (fun cs b => hsel i oi cs b hi) (fun cs b => hsel j oj cs b hoj) hQ hy h1
   have hfree' : ∀ k ok, ops[k]? = some ok → k ≠ i → (listed.setIfInBounds j true).getD k true = false →
       (∀ e ∈ ok.after, Region.binds md e = true → e.on ≠ i) → oi.apart ops ok = true := fun k ok hk hki hun hno => by
    refine hfree k ok hk hki ?_ hno
    by_cases hjk : j = k
    · subst hjk; exact hjun
    rw [getD_set_ne true hjk] at hun; exact hun
   refine wpOp_mono (fun a' w' h3 => ⟨fun _ => h3.2.1 hjn, ih (listed.setIfInBounds j true) a' w' hfree' (ready_mono hr (Ne.symm hji)) h3.1 (h3.2.1 hjn) ?_⟩) h2
   rw [Array.setIfInBounds_comm _ _ hji]
   exact h3.2.2
theorem wpAnyT_take {i : Nat} {oi : Oper} {v : Value} {fuel : Nat} {listed : Array Bool} {a : Act} {w : World} (hi : ops[i]? = some oi)
    (hs : Region.noSelect ops = true) (hf : Region.free md ops listed i = true) (hr : (Region.ready md ops listed).contains i = true) (hwt : waits md ops n i = true)
    (hQ : ∀ c a w, Q (.panic c) (a.put oi.dst v) w → Q (.panic c) a w) (hy : YieldsIf P ops S oi v a) (hS : S w)
    (h : wpAnyT P md ops Q S n fuel (listed.setIfInBounds i true) (a.put oi.dst v) w) : wpAnyT P md ops Q S n (fuel + 1) listed a w :=
 wpAnyT_first hi (Region.noSelect_spec hs) hQ hwt fuel listed a w (Region.free_spec hi hf) (by simpa using hr) hy hS h
def AllReadyT (P : Program) (md : Region.Mode) (ops : Array Oper) (Q : Exit → Act → World → Prop) (S : World → Prop) (n fuel : Nat) (listed : Array Bool) (a : Act) (w : World) (rs : List Nat) : Prop :=
 ∀ i ∈ rs, wpOp P ops Q i (fun a' w' => (i ≠ n → S w') ∧ wpAnyT P md ops Q S n fuel (listed.setIfInBounds i true) a' w') a w
variable {fuel : Nat} {listed : Array Bool} {a : Act} {w : World}
theorem AllReadyT.nil : AllReadyT P md ops Q S n fuel listed a w [] := fun _ h => by cases h
theorem AllReadyT.cons {i : Nat} {o : Oper} {rs : List Nat} (ho : ops[i]? = some o)
    (h : ∀ K' : Act → World → Prop, Shut (∀ a w, S w → (S w → wpAnyT P md ops Q S n fuel (listed.setIfInBounds i true) a w) → K' a w) → if Region.wanted o (yielded ops a.tmps) = true then Oper.wp P o a w K' Q else K' (a.put o.dst undef) w)
    (hs : AllReadyT P md ops Q S n fuel listed a w rs) : AllReadyT P md ops Q S n fuel listed a w (i :: rs) := fun j hj => by
 rcases List.mem_cons.1 hj with rfl | hj
 · exact wpOp_step ho (fun K' hK => h K' (fun a w hS hW => hK a w ⟨fun _ => hS, hW hS⟩))
 exact hs j hj
theorem AllReadyT.last {o : Oper} (ho : ops[n]? = some o)
    (h : ∀ K' : Act → World → Prop, Shut (∀ a w, wpAnyT P md ops Q S n fuel (listed.setIfInBounds n true) a w → K' a w) → if Region.wanted o (yielded ops a.tmps) = true then Oper.wp P o a w K' Q else K' (a.put o.dst undef) w) :
    AllReadyT P md ops Q S n fuel listed a w [n] := fun j hj => by
 rcases List.mem_cons.1 hj with rfl | hj
 · exact wpOp_step ho (fun K' hK => h K' (fun a w hW => hK a w ⟨fun h => absurd rfl h, hW⟩))
 cases hj
theorem wpAnyT_ready {rs : List Nat} (hr : Region.ready md ops listed = rs) (hne : rs ≠ []) (h : AllReadyT P md ops Q S n fuel listed a w rs) : wpAnyT P md ops Q S n (fuel + 1) listed a w :=
 ⟨fun h0 => absurd (hr ▸ h0) hne, hr ▸ h⟩
theorem wpAnyT_done (hr : Region.ready md ops listed = []) (h : Q .normal a w) : ∀ fuel, wpAnyT P md ops Q S n fuel listed a w
 | 0 => ⟨hr, h⟩
 | _ + 1 => ⟨fun _ => h, by rw [hr]; simp⟩
theorem wp_region_heldT {id : Nat} (n : Nat) (hm : P.follows .mixedOrders = true) (hS : S w.drew)
    (h : S w.drew → wpAnyT P .any ops Q S n ops.size (Array.replicate ops.size false) a w.drew) : (Code.region id ops true).wp P Q a w :=
 wp_region_any hm (wpAny_of_T _ _ _ _ (h hS))
theorem ug (i : Nat) {oi : Oper} (v : Value) (hi : ops[i]? = some oi) (hy : YieldsIf P ops S oi v a) (hS : S w)
    (h : wpAnyT P md ops Q S n fuel (listed.setIfInBounds i true) (a.put oi.dst v) w) (hs : Region.noSelect ops = true := by kernel_rfl) (hf : Region.free md ops listed i = true := by kernel_rfl) (hr : (Region.ready md ops listed).contains i = true := by kernel_rfl) (hwt : waits md ops n i = true := by kernel_rfl)
    (hQ : ∀ c a w, Q (.panic c) (a.put oi.dst v) w → Q (.panic c) a w := by exact fun _ _ _ h => h) : wpAnyT P md ops Q S n (fuel + 1) listed a w := wpAnyT_take hi hs hf hr hwt hQ hy hS h
theorem uq (i : Nat) {oi : Oper} {v : Value} (hi : ops[i]? = some oi) (hS : S w)
    (h : wpAnyT P md ops Q S n fuel (listed.setIfInBounds i true) (a.put oi.dst v) w) (hs : Region.noSelect ops = true := by kernel_rfl) (hf : Region.free md ops listed i = true := by kernel_rfl) (hr : (Region.ready md ops listed).contains i = true := by kernel_rfl) (hwt : waits md ops n i = true := by kernel_rfl)
    (hQ : ∀ c a w, Q (.panic c) (a.put oi.dst v) w → Q (.panic c) a w := by exact fun _ _ _ h => h) (hw : Region.wanted oi (yielded ops a.tmps) = true := by rfl)
    (hy : ∀ w, S w → (execOp a.eval oi).run P w = .ok (.value v) w := by intro wS hSw; go_simp; try with_reducible rfl) : wpAnyT P md ops Q S n (fuel + 1) listed a w := wpAnyT_take hi hs hf hr hwt hQ (Or.inl ⟨hw, hy⟩) hS h
theorem us (i : Nat) {oi : Oper} {v : Value} (hi : ops[i]? = some oi) (hS : S w) (hy : ∀ w, S w → (execOp a.eval oi).run P w = .ok (.value v) w)
    (h : wpAnyT P md ops Q S n fuel (listed.setIfInBounds i true) (a.put oi.dst v) w) (hs : Region.noSelect ops = true := by kernel_rfl) (hf : Region.free md ops listed i = true := by kernel_rfl) (hr : (Region.ready md ops listed).contains i = true := by kernel_rfl) (hwt : waits md ops n i = true := by kernel_rfl)
    (hQ : ∀ c a w, Q (.panic c) (a.put oi.dst v) w → Q (.panic c) a w := by exact fun _ _ _ h => h) (hw : Region.wanted oi (yielded ops a.tmps) = true := by rfl) : wpAnyT P md ops Q S n (fuel + 1) listed a w := wpAnyT_take hi hs hf hr hwt hQ (Or.inl ⟨hw, hy⟩) hS h
theorem uy (i : Nat) {o : Oper} (ho : ops[i]? = some o)
    (h : ∀ K' : Act → World → Prop, Shut (∀ a w, S w → (S w → wpAnyT P md ops Q S n fuel (listed.setIfInBounds i true) a w) → K' a w) → if Region.wanted o (yielded ops a.tmps) = true then Oper.wp P o a w K' Q else K' (a.put o.dst undef) w)
    (hr : Region.ready md ops listed = [i] := by kernel_rfl) : wpAnyT P md ops Q S n (fuel + 1) listed a w := wpAnyT_ready hr (by simp) (AllReadyT.cons ho h AllReadyT.nil)
theorem ul {o : Oper} (ho : ops[n]? = some o)
    (h : ∀ K' : Act → World → Prop, Shut (∀ a w, wpAnyT P md ops Q S n fuel (listed.setIfInBounds n true) a w → K' a w) → if Region.wanted o (yielded ops a.tmps) = true then Oper.wp P o a w K' Q else K' (a.put o.dst undef) w)
    (hr : Region.ready md ops listed = [n] := by kernel_rfl) : wpAnyT P md ops Q S n (fuel + 1) listed a w := wpAnyT_ready hr (by simp) (AllReadyT.last ho h)
theorem ud (h : Q .normal a w) (fuel : Nat) (hr : Region.ready md ops listed = [] := by kernel_rfl) : wpAnyT P md ops Q S n fuel listed a w := wpAnyT_done hr h fuel
end
theorem folA_early {d : List Nat} (h : d.length = 32) (m no : Int) (I E E' : Value) : (Mir.folA d m no I E).setIfInBounds 35 E' = Mir.folA d m no I E' := by
 obtain ⟨a0, a1, a2, a3, a4, a5, a6, a7, a8, a9, a10, a11, a12, a13, a14, a15, a16, a17, a18, a19, a20, a21, a22, a23, a24, a25, a26, a27, a28, a29, a30, a31, rfl⟩ := list32 h
 rfl
theorem cells_cutIf {w : World} {B : Option Addr} {cs : List Value} {k cb : Nat} (h : Cells w B cs) (hl : cs.length ≤ cb * 38) : Cells w (if cb = k then B else Option.map (fun x => x.add (k * 38)) B) (cs.drop (k * 38)) := by
 by_cases hc : cb = k
 · rw [List.drop_eq_nil_of_le (by rw [← hc]; exact hl)]
   exact Cells.nil_ _ _
 rw [if_neg hc]
 by_cases h0 : cs = []
 · subst h0
   rw [List.drop_nil]
   exact Cells.nil_ _ _
 obtain ⟨b, off, rfl, -, -⟩ := Cells.addr h (List.length_pos_iff.2 h0)
 have := h.drop_ (k * 38)
 simpa [Addr.add_mid] using this
theorem blk_threeB (w : World) (a b c : Array Value) (ta tb tc : TypeId) (w1 : World) (h : ((w.alloc (.cells a ta)).alloc (.cells b tb)).alloc (.cells c tc) = w1) :
    Blk w1 w.heap.size ta a ∧ Blk w1 (w.heap.size + 1) tb b ∧ Blk w1 (w.heap.size + 2) tc c ∧ Below w.heap.size w w1 ∧ w.heap.size + 3 ≤ w1.heap.size := by
 have h4 := blk_fourB w a b c #[] ta tb tc ta _ rfl
 subst h
 have e1 : (w.alloc (.cells a ta)).heap.size = w.heap.size + 1 := by simp
 have e2 : ((w.alloc (.cells a ta)).alloc (.cells b tb)).heap.size = w.heap.size + 2 := by simp
 have h1 := Blk.new w ta a
 have h2 := Blk.new (w.alloc (.cells a ta)) tb b
 have h3 := Blk.new ((w.alloc (.cells a ta)).alloc (.cells b tb)) tc c
 rw [e1] at h2
 rw [e2] at h3
 exact ⟨(h1.alloc _).alloc _, h2.alloc _, h3, (((Below.refl _ _).alloc (Nat.le_refl _) _).alloc (by simp) _).alloc (by simp; omega) _, by simp⟩
def RcO (wb w w' : World) (f : Mir.Fo) (G : Array Value) : Prop :=
 ∀ W', Below wb.heap.size wb W' → (∀ b, w.heap.size ≤ b → b < w'.heap.size → W'.heap[b]? = w'.heap[b]?) → w'.heap.size ≤ W'.heap.size → FolC W' f G
theorem RcO.zero (wb w w' : World) : RcO wb w w' Mir.fo0 (Mir.folA z32 0 0 (.slice none 0 0) (.slice none 0 0)) := fun W' _ _ _ => FolC.zero W'
theorem RcO.now {wb w w' : World} {f : Mir.Fo} {G : Array Value} (h : RcO wb w w' f G) (hb : Below wb.heap.size wb w') : FolC w' f G := h w' hb (fun _ _ _ => rfl) (Nat.le_refl _)
theorem Cells.newS {w w' W' : World} {A : Option Addr} {cs : List Value} (h : Cells w' A cs) (hA : ∀ b off, A = some ⟨b, off, none⟩ → w.heap.size ≤ b) (h2 : ∀ b, w.heap.size ≤ b → b < w'.heap.size → W'.heap[b]? = w'.heap[b]?) (h3 : w'.heap.size ≤ W'.heap.size) : Cells W' A cs := by
 rcases h with h | ⟨b, off, q1, q2, q4⟩
 · exact .inl h
 exact .inr ⟨b, off, q1, Nat.lt_of_lt_of_le q2 h3, fun j u hu => (World.cell?_of_block (a := ⟨b, off + j, none⟩) (h2 b (hA b off q1) q2)).trans (q4 j u hu)⟩
theorem FolO.rcS {wb w w' : World} {ok : Nat → Prop} {f : Mir.Fo} {F : Array Value} (h : FolO wb w' ok f F) (hb : Below wb.heap.size wb w') (hok : ∀ b, ok b → b < wb.heap.size ∨ w.heap.size ≤ b) : RcO wb w w' f F := by
 intro W' h1 h2 h3
 obtain ⟨A, ca, B, cb, za, e, hd, g1, g2, g3, g4, r⟩ := h
 refine ⟨A, ca, B, cb, e, hd, g1 ▸ g2.items h1 ?_, g4.below h1, r⟩
 rcases g3 with g3 | ⟨b, off, q1, q2, q3, q4⟩
 · exact .inl g3
 refine .inr ⟨b, off, q1, Nat.lt_of_lt_of_le q2 h3, fun j u hu => ?_⟩
 have h4 := q4 j u hu
 rcases hok b q3 with q | q
 · rw [hb.cell (p := ⟨b, off + j, none⟩) q] at h4
   exact (h1.cell (p := ⟨b, off + j, none⟩) q).trans h4
 exact (World.cell?_of_block (a := ⟨b, off + j, none⟩) (h2 b q q2)).trans h4
theorem receive_any2 (wb : World) (f : Mir.Fo) (v : Mir.Ve) (F V : Array Value) (w : World) (hbw : Below wb.heap.size wb w) (hF : FolC wb f F) (hV : VerC wb v V) (hs : Mir.SmF f) (hsv : Mir.SmV v) :
    Calls Tryz.prog 17 #[.agg F, .agg V] w fun e w' => ∃ F', e = .returned (.tuple #[.agg F', .int .i64 (Mir.rcv f v).2]) ∧ RcO wb w w' (Mir.rcv f v).1 F' ∧ Below w.heap.size w w' := by
 have HFb := θ hF
 have HVb := θ hV
 have Hbw := θ hbw
 have HBW := θ (fun (W : World) (h : Below w.heap.size w W) => below_of hbw h hbw.size)
 replace hF := hF.below hbw
 replace hV := hV.below hbw
 clear hbw
 obtain ⟨Z, hZ⟩ := exq (Mir.folA z32 0 0 (.slice none 0 0) (.slice none 0 0))
 have iZ := θ (show (Tryz.prog.info? 48).map (·.size) = some Z.size by rw [← hZ]; exact infoFol z32_length ..)
 have aZ := θ (show Z.all (·.oneCell') = true by rw [← hZ]; kernel_rfl)
 have zZ := θ (show Z.size = 36 by rw [← hZ]; exact Mir.folA_size z32_length ..)
 have FZ := θ (fun W => show RcO wb w W Mir.fo0 Z by rw [← hZ]; exact RcO.zero wb w W)
 have HZ := θ hZ
 have iF := θ hF.info
 have zF := θ hF.size
 have aF := θ hF.all
 have iV := θ hV.info
 have zV := θ hV.size
 have aV := θ hV.all
 have HF := θ hF
 have HV := θ hV
 have Hs := θ hs
 have Hsv := θ hsv
 obtain ⟨A, ca, B, cb, hFe, hd, hAb, hBb, hca, hcam, hcb, hcbm⟩ := HFb.out
 have hA := hAb.below Hbw.out
 have hB := hBb.below Hbw.out
 have HAb := θ hAb
 have HBb := θ hBb
 clear hF hAb hBb
 have h0 := hV.c0
 obtain ⟨n1, hn1⟩ := exq f.it.length
 obtain ⟨n2, hn2⟩ := exq f.ea.length
 rw [hn1] at hFe hca
 rw [hn2] at hFe hcb
 have hhi := Mir.folA_hi hd.1 f.many f.no (.slice A n1 ca) (.slice B n2 cb)
 have hlo0 := fun i (hi : i < 32) => Mir.folA_low hd.1 f.many f.no (.slice A n1 ca) (.slice B n2 cb) (i := i) hi
 rw [← hFe] at hhi
 have Hlo := θ (fun i (hi : i < 32) => (show F[i]? = (arrK .u8 f.pub)[i]? from by rw [hFe]; exact hlo0 i hi))
 obtain ⟨many, hmany⟩ := exq f.many
 obtain ⟨no, hno⟩ := exq f.no
 obtain ⟨vn, hvn⟩ := exq v.no
 rw [hmany, hno] at hhi
 rw [hvn] at h0
 have h32 : F[32]? = some (.int .i64 many) := hhi 0
 have h33 : F[33]? = some (.int .i64 no) := hhi 1
 have h34 : F[34]? = some (.slice A n1 ca) := hhi 2
 have h35 : F[35]? = some (.slice B n2 cb) := hhi 3
 have HCk := θ (fun W h => check_any f F W h hs)
 have HVf := θ (fun W h => mverify_any f.pub f.many v V W hd h hsv.1 hsv.2)
 obtain ⟨E1, hE1⟩ := exq (Mir.foE f)
 obtain ⟨E2, hE2⟩ := exq (Mir.verE f.pub f.many v)
 rw [hE1] at HCk
 rw [hE2, hmany] at HVf
 have HE1 := θ hE1
 have HE2 := θ hE2
 obtain ⟨RS, hRS⟩ := exq (Mir.rcv f v)
 rw [hRS]
 have HRS : Hid (RS = if E1 ≠ 0 then (Mir.fo0, E1) else if E2 ≠ 0 then (Mir.fo0, E2) else
  if (f.ea.any fun u => decide (u.no = vn)) = true ∨ vn ≤ no then (Mir.fo0, 450) else
  if no + 1 < vn then (if n2 = 64 then (Mir.fo0, 2) else ({ f with ea := (f.ea.filter fun u => decide (u.no < vn)) ++ [v] ++ (f.ea.filter fun u => !decide (u.no < vn)) }, 0)) else
  if (Mir.apS f v).2 = false then (Mir.fo0, 430) else (Mir.drain f.ea (Mir.apS f v).1, 0)) := θ (by rw [← hRS, ← hE1, ← hE2, ← hno, ← hvn, ← hn2]; rfl)
 have Hpd := θ hd
 have HA := θ hA
 have HBv := θ hB
 have Hn1 := θ hn1
 have Hn2 := θ hn2
 have Hno := θ hno
 have Hmany := θ hmany
 have Hvn := θ hvn
 have hFe' := θ hFe
 have hcaH := θ (And.intro hca hcam)
 have hcbH := θ (And.intro hcb hcbm)
 clear hZ hhi hlo0 hFe hd hA hB hn1 hn2 hno hmany hvn hE1 hE2 hRS hs hsv hca hcam hcb hcbm hV
 by_cases hE1 : E1 = 0
 · by_cases hE2 : E2 = 0
   · subst hE1
     subst hE2
     have hfz := Mir.foE_zero HE1.out
     have HInc := θ (Mir.earlyOk_inc _ _ hfz.2.2.2.2.2.1).2
     have hno0 : 0 ≤ no := by rw [← Hno.out]; exact hfz.2.1
     have hno4 : no ≤ 4096 := by rw [← Hno.out]; exact hfz.2.2.1
     have hn64 : n2 ≤ 64 := by rw [← Hn2.out]; exact hfz.2.2.2.2.1
     have hvz := Mir.verE_zero HE2.out
     rw [Hvn.out] at hvz
     obtain ⟨hvn1, hvn2⟩ := hvz
     clear hfz
     go_enter Tryz.func17, Tryz.ntmps17
     go_upto_region 1 with fail
     generalize hge : World.alloc (World.alloc (World.alloc _ _) _) _ = w1
     have b3 : Blk w1 w.heap.size 48 F ∧ Blk w1 (w.heap.size + 1) 34 V ∧ Blk w1 (w.heap.size + 2) 48 Z ∧ Below w.heap.size w w1 ∧ w.heap.size + 3 ≤ w1.heap.size := by
      rw [← HZ.out]
      exact blk_threeB w F V (Mir.folA z32 0 0 (.slice none 0 0) (.slice none 0 0)) 48 34 48 w1 hge
     have HX := θ b3.1
     have HY := θ b3.2.1
     have HR := θ b3.2.2.1
     have HBw := θ b3.2.2.2.1
     have hz1 := b3.2.2.2.2
     clear hge b3
     go_wp2_with (refine wpList_load_blk rfl 48 (.tmp 2) rfl w.heap.size rfl 48 F _ HX.out Tryz.underlying48 rfl iF.out ?_)
     refine (HCk.out _ (HF.out.below HBw.out)).mono ?_
     rintro e w2 ⟨rfl, hb2⟩
     have HX2 := θ (HX.out.below hb2)
     have HY2 := θ (HY.out.below hb2)
     have HR2 := θ (HR.out.below hb2)
     have HB2 := θ (bo HBw hb2)
     have hz2 := Nat.le_trans hz1 hb2.size
     clear hb2 HX HY HR HBw hz1
     have x32 : w2.cell? ⟨w.heap.size, 32, none⟩ = some (.int .i64 many) := (HX2.out.cell 32).trans h32
     have hpr : w2.rangeAt w.heap.size 0 (f.pub.map fun (n : Nat) => Value.int .u8 (n : Int)) := fun i u hu => by
      have hi : i < 32 := by have := (List.getElem?_eq_some_iff.1 hu).1; rw [List.length_map, Hpd.out.1] at this; exact this
      rw [Nat.zero_add, HX2.out.cell i, Hlo.out i hi, ← Array.getElem?_toList, arrK_toList]
      exact hu
     have Hpr := θ hpr
     clear hpr
     go_wp2_with (first
      | (refine wpList_load_blk rfl 34 (.tmp 3) rfl (w.heap.size + 1) rfl 34 V _ HY2.out Tryz.underlying34 rfl iV.out ?_)
      | (refine wpList_load_mid rfl 29 (.tmp 17) rfl w.heap.size 0 rfl (f.pub.map fun (n : Nat) => Value.int .u8 (n : Int)) (.array 32 5) Hpr.out (by kernel_rfl) rfl (dV_info Hpd.out.1) ?_))
     refine (HVf.out _ (HV.out.below HB2.out)).mono ?_
     rintro e w3 ⟨rfl, hb3⟩
     have HX3 := θ (HX2.out.below hb3)
     have HY3 := θ (HY2.out.below hb3)
     have HR3 := θ (HR2.out.below hb3)
     have HB3 := θ (bo HB2 hb3)
     have hz3 := Nat.le_trans hz2 hb3.size
     clear hb3 x32 Hpr HX2 HY2 HR2 HB2 hz2
     have x33 : w3.cell? ⟨w.heap.size, 33, none⟩ = some (.int .i64 no) := (HX3.out.cell 33).trans h33
     have x35 : w3.cell? ⟨w.heap.size, 35, none⟩ = some (.slice B n2 cb) := (HX3.out.cell 35).trans h35
     have y0 : w3.cell? ⟨w.heap.size + 1, 0, none⟩ = some (.int .i64 vn) := (HY3.out.cell 0).trans h0
     go_wp2_with fail
     refine (vsearch_any B n2 cb f.ea vn w3 Hn2.out (by rw [← Hn2.out]; exact Hs.out.2.2.1) (HBv.out.below HB3.out) HInc.out).mono ?_
     rintro e w4 ⟨k, qq, rfl, hk, hcut, hqq, hb4⟩
     have HX4 := θ (HX3.out.below hb4)
     have HY4 := θ (HY3.out.below hb4)
     have HR4 := θ (HR3.out.below hb4)
     have HB4 := θ (bo HB3 hb4)
     have hz4 := Nat.le_trans hz3 hb4.size
     clear hb4 x33 x35 y0 HX3 HY3 HR3 HB3 hz3
     have x33 : w4.cell? ⟨w.heap.size, 33, none⟩ = some (.int .i64 no) := (HX4.out.cell 33).trans h33
     have x35 : w4.cell? ⟨w.heap.size, 35, none⟩ = some (.slice B n2 cb) := (HX4.out.cell 35).trans h35
     have y0 : w4.cell? ⟨w.heap.size + 1, 0, none⟩ = some (.int .i64 vn) := (HY4.out.cell 0).trans h0
     have hany : (f.ea.any fun u => decide (u.no = vn)) = qq := by
      cases hq : qq with
      | true => exact Mir.any_iff.2 (hqq.out.1 hq)
      | false =>
        cases ha : (f.ea.any fun u => decide (u.no = vn)) with
        | false => rfl
        | true => have := hqq.out.2 (Mir.any_iff.1 ha); rw [hq] at this; cases this
     rw [hany] at HRS
     clear hany
     cases qq with
     | true =>
       go_wp2_with (first
        | (refine wpList_load_blk rfl 48 (.tmp 4) rfl (w.heap.size + 2) rfl 48 Z _ HR4.out Tryz.underlying48 rfl iZ.out ?_)
        | (refine wpList_store_same rfl 48 (.tmp 4) (.tmp 43) rfl (w.heap.size + 2) Z rfl rfl 48 HR4.out iZ.out aZ.out ?_))
       have rr : RS = (Mir.fo0, 450) := by rw [HRS.out]; simp
       exact ret_row2 (u := .int .i64 450) rfl (w.heap.size + 2) 48 Z _ rfl rfl HR4.out Tryz.underlying48 rfl iZ.out rfl ⟨Z, by rw [rr], by rw [rr]; exact FZ.out _, HB4.out⟩
     | false =>
       by_cases hle : vn ≤ no
       · have dle : decide (vn ≤ no) = true := by simpa using hle
         go_wp2_with (first
          | (refine wpList_load_blk rfl 48 (.tmp 4) rfl (w.heap.size + 2) rfl 48 Z _ HR4.out Tryz.underlying48 rfl iZ.out ?_)
          | (refine wpList_store_same rfl 48 (.tmp 4) (.tmp 43) rfl (w.heap.size + 2) Z rfl rfl 48 HR4.out iZ.out aZ.out ?_))
         have rr : RS = (Mir.fo0, 450) := by rw [HRS.out]; simp [hle]
         exact ret_row2 (u := .int .i64 450) rfl (w.heap.size + 2) 48 Z _ rfl rfl HR4.out Tryz.underlying48 rfl iZ.out rfl ⟨Z, by rw [rr], by rw [rr]; exact FZ.out _, HB4.out⟩
       have dle : decide (vn ≤ no) = false := by simpa using hle
       by_cases hgt : no + 1 < vn
       · have dgt : decide (no + 1 < vn) = true := by simpa using hgt
         by_cases h64 : n2 = 64
         · have d64 : ((n2 : Int) == 64) = true := by simp; omega
           have h64' := θ h64
           clear h64
           go_wp2_with (first
            | (refine wpList_load_blk rfl 48 (.tmp 4) rfl (w.heap.size + 2) rfl 48 Z _ HR4.out Tryz.underlying48 rfl iZ.out ?_)
            | (refine wpList_store_same rfl 48 (.tmp 4) (.tmp 54) rfl (w.heap.size + 2) Z rfl rfl 48 HR4.out iZ.out aZ.out ?_))
           have rr : RS = (Mir.fo0, 2) := by rw [HRS.out]; simp [hle, hgt, h64'.out]
           exact ret_row2 (u := .int .i64 2) rfl (w.heap.size + 2) 48 Z _ rfl rfl HR4.out Tryz.underlying48 rfl iZ.out rfl ⟨Z, by rw [rr], by rw [rr]; exact FZ.out _, HB4.out⟩
         have d64 : ((n2 : Int) == 64) = false := by simp; omega
         have hkcb : k ≤ cb := Nat.le_trans hk hcbH.out.1
         obtain ⟨Vs, hv1, hv2b, hv3b⟩ := HBb.out
         have hv2 := hv2b.below Hbw.out
         have hv3 := fun (k : Nat) (v : Mir.Ve) (V : Array Value) (e1 : f.ea[k]? = some v) (e2 : Vs[k]? = some V) => (hv3b k v V e1 e2).below Hbw.out
         have Hv3b := θ hv3b
         clear hv2b hv3b
         have hvs := VersC.sizes hv1 hv3
         have hva : ∀ V ∈ Vs, ∀ u ∈ V.toList, u.oneCell' = true := fun V hV => by
          obtain ⟨i, hi, rfl⟩ := List.getElem_of_mem hV
          obtain ⟨u, hu⟩ := getElem?_lt (l := f.ea) (k := i) (by omega)
          have := (hv3 i u _ hu (List.getElem?_eq_getElem hi)).all
          rw [Array.all_eq_true'] at this
          simpa using this
         have hvl : Vs.length = n2 := by rw [hv1, Hn2.out]
         have f1 := flat38 (Vs.take k) (fun V hV => hvs V (List.mem_of_mem_take hV))
         have f3 := flat38 (Vs.drop k) (fun V hV => hvs V (List.mem_of_mem_drop hV))
         have fa := flat38 Vs hvs
         have hsp : (Vs.map Array.toList).flatten = ((Vs.take k).map Array.toList).flatten ++ ((Vs.drop k).map Array.toList).flatten := by
          rw [← List.flatten_append, ← List.map_append, List.take_append_drop]
         have e1 : (Vs.map Array.toList).flatten.take (k * 38) = ((Vs.take k).map Array.toList).flatten := by
          rw [hsp, List.take_append_of_le_length (by rw [f1.1, List.length_take]; omega), List.take_of_length_le (by rw [f1.1, List.length_take]; omega)]
         have e3 : (Vs.map Array.toList).flatten.drop (k * 38) = ((Vs.drop k).map Array.toList).flatten := by
          rw [hsp, List.drop_append_of_le_length (by rw [f1.1, List.length_take]; omega), show ((Vs.take k).map Array.toList).flatten.drop (k * 38) = [] from List.drop_eq_nil_of_le (by rw [f1.1, List.length_take]; omega), List.nil_append]
         obtain ⟨L1, hL1⟩ := exq (((Vs.take k).map Array.toList).flatten)
         obtain ⟨L3, hL3⟩ := exq (((Vs.drop k).map Array.toList).flatten)
         have hl1 := θ (show L1.length = k * 38 by rw [← hL1, f1.1, List.length_take]; congr 1; omega)
         have hl3 := θ (show L3.length = (n2 - k) * 38 by rw [← hL3, f3.1, List.length_drop, hvl])
         have HL1 := θ (show Cells w B L1 by rw [← hL1, ← e1]; exact hv2.take_ _)
         obtain ⟨XA, hXA⟩ : ∃ x, (if cb = k then B else Option.map (fun x => x.add (k * 38)) B) = x := ⟨_, rfl⟩
         have HL3 := θ (show Cells w XA L3 by rw [← hL3, ← e3, ← hXA]; exact cells_cutIf hv2 (by rw [fa.1, hvl]; exact Nat.mul_le_mul_right _ hcbH.out.1))
         have ho1 := θ (show ∀ u ∈ L1, u.oneCell' = true by
          rw [← hL1]; intro u hu
          obtain ⟨l, hl, hul⟩ := List.mem_flatten.1 hu
          obtain ⟨V', hV', rfl⟩ := List.mem_map.1 hl
          exact hva V' (List.mem_of_mem_take hV') u hul)
         have ho3 := θ (show ∀ u ∈ L3, u.oneCell' = true by
          rw [← hL3]; intro u hu
          obtain ⟨l, hl, hul⟩ := List.mem_flatten.1 hu
          obtain ⟨V', hV', rfl⟩ := List.mem_map.1 hl
          exact hva V' (List.mem_of_mem_drop hV') u hul)
         have HL1e := θ hL1
         have HL3e := θ hL3
         have hltR := θ (show w.heap.size + 2 < w4.heap.size from HR4.out.lt)
         have hGs := θ (show ∀ (A9 : Option Addr) (c9 : Nat), F.setIfInBounds 35 (.slice A9 (k + 1 + (n2 - k)) c9) = Mir.folA f.pub many no (.slice A n1 ca) (.slice A9 (k + 1 + (n2 - k)) c9) from fun A9 c9 => by rw [hFe'.out, Hmany.out, Hno.out]; exact folA_early Hpd.out.1 ..)
         have Hv1 := θ hv1
         have Hv3 := θ hv3
         clear hv2 hvs hva hvl f1 f3 fa hsp e1 e3 hL1 hL3 hv1 hv3
         go_upto_region 13 with fail
         refine wp_region_heldT (S := fun W => Below w.heap.size w W ∧ Blk W w.heap.size 48 F ∧ Blk W (w.heap.size + 1) 34 V) 13 (by kernel_rfl) (⟨below_drewN HB4.out 1, HX4.out, HY4.out⟩) (fun Hd => ?_)
         have Hd : Below w.heap.size w w4.drew := below_drewN HB4.out 1
         have Zd : w.heap.size ≤ w4.drew.heap.size := HB4.out.size
         have fX : Blk w4.drew w.heap.size 48 F := HX4.out
         have fY : Blk w4.drew (w.heap.size + 1) 34 V := HY4.out
         have fR : Blk w4.drew (w.heap.size + 2) 48 Z := HR4.out
         generalize World.drew w4 = wd at *
         refine uq 0 rfl ⟨Hd, fX, fY⟩ ?_
         try simp only [la, Act.put]
         refine us 1 rfl ⟨Hd, fX, fY⟩ (fun wS hSw => by
          have cc := (hSw.2.1.cell 35).trans h35
          go_simp
          try with_reducible rfl) ?_
         try simp only [la, Act.put]
         refine uq 2 rfl ⟨Hd, fX, fY⟩ ?_
         try simp only [la, Act.put]
         refine uq 3 rfl ⟨Hd, fX, fY⟩ ?_
         try simp only [la, Act.put]
         refine ug 4 (.agg (V)) rfl (yields_load_blk (by rfl) _ _ rfl ((w.heap.size + 1)) rfl 34 (V) _ (fun W hW => hW.2.2) Tryz.underlying34 rfl iV.out) ⟨Hd, fX, fY⟩ ?_
         try simp only [la, Act.put]
         refine uq 6 rfl ⟨Hd, fX, fY⟩ ?_
         try simp only [la, Act.put]
         refine us 7 rfl ⟨Hd, fX, fY⟩ (fun wS hSw => by
          have cc := (hSw.2.1.cell 35).trans h35
          go_simp
          try with_reducible rfl) ?_
         try simp only [la, Act.put]
         refine uq 8 rfl ⟨Hd, fX, fY⟩ ?_
         try simp only [la, Act.put]
         refine uq 9 rfl ⟨Hd, fX, fY⟩ ?_
         try simp only [la, Act.put]
         refine uy 5 rfl (fun K hK => ?_)
         refine step_oneV (by rfl) (.tmp 59) (by rfl) V zV.out (by rfl) ?_
         generalize hge : World.alloc _ _ = w1_
         have fE1 : Blk w1_ wd.heap.size 34 (V) := by subst hge; exact Blk.new _ _ _
         have hb1 := al1 hge
         clear hge
         have fX1 := fX.below hb1
         have fY1 := fY.below hb1
         have fR1 := fR.below hb1
         have ltXE1 := fX.lt
         have ltYE1 := fY.lt
         have ltRE1 := fR.lt
         have loE1 : w.heap.size ≤ wd.heap.size := Zd
         have Hb1 := below_of Hd hb1 Hd.size
         have Zb1 := Nat.le_trans Zd hb1.size
         refine hK.out _ _ ⟨Hb1, fX1, fY1⟩ fun _ => ?_
         clear hK K
         try simp only [la, Act.put]
         refine uy 10 rfl (fun K hK => ?_)
         go_simp
         generalize hge : World.alloc _ _ = w2_
         have fP2 : Blk w2_ w1_.heap.size 25 (#[.slice B k cb, .slice (some ⟨wd.heap.size, 0, none⟩) 1 1, .slice XA (n2 - k) (cb - k)]) := by subst hge; exact Blk.new _ _ _
         have hb2 := al1 hge
         clear hge
         have fX2 := fX1.below hb2
         have fY2 := fY1.below hb2
         have fR2 := fR1.below hb2
         have fE2 := fE1.below hb2
         have ltXP2 := fX1.lt
         have ltYP2 := fY1.lt
         have ltRP2 := fR1.lt
         have ltEP2 := fE1.lt
         have loP2 : w.heap.size ≤ w1_.heap.size := Zb1
         have Hb2 := below_of Hb1 hb2 Hb1.size
         have Zb2 := Nat.le_trans Zb1 hb2.size
         refine hK.out _ _ ⟨Hb2, fX2, fY2⟩ fun _ => ?_
         clear hK K
         try simp only [la, Act.put]
         refine uy 11 rfl (fun K hK => ?_)
         go_simp
         have hX9 : w.heap.size < w2_.heap.size := fX2.lt
         have hR9 : w.heap.size + 2 < w2_.heap.size := fR2.lt
         refine (concat3V _ k cb 1 1 (n2 - k) (cb - k) B _ XA L1 V.toList L3 _ (fP2.cell 0) (fP2.cell 1) (fP2.cell 2) (HL1.out.below Hb2) (cells_blk fE2) (HL3.out.below Hb2) hl1.out (by rw [Array.length_toList, zV.out]) hl3.out ho1.out (by have := aV.out; rw [Array.all_eq_true'] at this; simpa using this) ho3.out (by omega) (by omega) (by omega) fP2.lt).mono ?_
         rintro e w3_ ⟨A9, c9, rfl, ho9, hb3⟩
         have fX3 := fX2.below hb3
         have fY3 := fY2.below hb3
         have fR3 := fR2.below hb3
         have fE3 := fE2.below hb3
         have fP3 := fP2.below hb3
         have Hb3 := below_of Hb2 hb3 Hb2.size
         have Zb3 := Nat.le_trans Zb2 hb3.size
         go_wp2_with fail
         refine hK.out _ _ ⟨Hb3, fX3, fY3⟩ fun _ => ?_
         clear hK K
         try simp only [la, Act.put]
         refine uq 12 rfl ⟨Hb3, fX3, fY3⟩ ?_
         try simp only [la, Act.put]
         refine ul rfl (fun K hK => ?_)
         refine step_put_cell (by rfl) _ _ _ (by rfl) (w.heap.size) 35 (.slice A9 (k + 1 + (n2 - k)) c9) (by rfl) (by rfl) _ _ fX3 (by rw [zF.out]; omega) (by kernel_rfl) (by rfl) ?_
         intro w4_ fX4 hg4 hz4
         have neY4 := fY3.lt
         have fY4 := fY3.gx hg4
         have neR4 := fR3.lt
         have fR4 := fR3.gx hg4
         have neE4 := fE3.lt
         have fE4 := fE3.gx hg4
         have neP4 := fP3.lt
         have fP4 := fP3.gx hg4
         have fj4 := ho9.kept hg4 (.inr (fun e => absurd (own_base ho9 _ e) (Nat.not_le.2 hX9)))
         have Hb4 := bgx Hb3 hg4 Hb3.size
         have Zb4 := Nat.le_trans Zb3 hg4.size
         refine hK.out _ _ ?_
         clear hK K
         try simp only [la, Act.put]
         refine ud ?_ _
         have HXE := θ (show Blk w4_ w.heap.size 48 (Mir.folA f.pub many no (.slice A n1 ca) (.slice A9 (k + 1 + (n2 - k)) c9)) from (hGs.out A9 c9) ▸ fX4)
         have HRE := θ fR4
         have HBE := θ Hb4
         have HOE := θ fj4
         obtain ⟨G, hG⟩ := exq (Mir.folA f.pub many no (.slice A n1 ca) (.slice A9 (k + 1 + (n2 - k)) c9))
         have iG := θ (show (Tryz.prog.info? 48).map (·.size) = some G.size by rw [← hG]; exact infoFol Hpd.out.1 ..)
         have aG := θ (show G.all (·.oneCell') = true by rw [← hG]; exact Mir.folA_all Hpd.out.1 rfl rfl)
         have zG := θ (show G.size = 36 by rw [← hG]; exact Mir.folA_size Hpd.out.1 ..)
         rw [hG] at HXE
         have HGG := θ hG
         clear hG hGs
         go_wp2_with (first
          | (refine wpList_put_blk rfl 48 (.tmp 4) (.tmp 68) rfl (w.heap.size + 2) G rfl rfl 48 Z HRE.out iG.out (by rw [zZ.out, zG.out]) aG.out ?_
             intro w6 h6 hg6 hz6
             have hR6 := θ h6
             have hB6 := θ (below_grown HBE.out hg6 HBE.out.size (fun k hk => by cases hk; omega))
             have hO6 := θ (HOE.out.kept hg6 (.inr (fun e => by have := own_base HOE.out _ e; omega)))
             clear h6 hg6 hz6)
          | (refine wpList_load_blk rfl 48 (.tmp 2) rfl w.heap.size rfl 48 G _ HXE.out Tryz.underlying48 rfl iG.out ?_))
         obtain ⟨Aq, cq, hvq, hkq, hmq, -⟩ := own_form hO6.out
         cases hvq
         have hcf := Mir.cut_filter f.ea k vn hcut.out
         have rr : RS = ({ f with ea := f.ea.take k ++ [v] ++ f.ea.drop k }, 0) := by rw [HRS.out, hcf.1, hcf.2]; simp [hle, hgt, h64]
         have hlen : (f.ea.take k ++ [v] ++ f.ea.drop k).length = k + 1 + (n2 - k) := by simp [Hn2.out]; omega
         refine ret_row2 (u := .int .i64 0) rfl (w.heap.size + 2) 48 G _ rfl rfl hR6.out Tryz.underlying48 rfl iG.out rfl ⟨G, by rw [rr], ?_, hB6.out⟩
         rw [rr]
         intro W' hWb hWn hWs
         refine ⟨A, ca, A9, c9, ?_, Hpd.out, HAb.out.below hWb, VersC.insert hWb Hv1.out Hv3b.out HVb.out k (by rw [HL1e.out, HL3e.out]; exact (Cells.own hO6.out).newS (fun b off e => by have h1 := own_base hO6.out b (by rw [e]; rfl); have h2 := hltR.out; omega) hWn hWs), ?_, hcaH.out.2, ?_, hmq⟩
         · show G = Mir.folA f.pub f.many f.no (.slice A f.it.length ca) (.slice A9 (f.ea.take k ++ [v] ++ f.ea.drop k).length c9)
           rw [← HGG.out, hlen, Hmany.out, Hno.out, Hn1.out]
         · show f.it.length ≤ ca
           rw [Hn1.out]; exact hcaH.out.1
         show (f.ea.take k ++ [v] ++ f.ea.drop k).length ≤ c9
         rw [hlen]; exact hkq
       have dgt : decide (no + 1 < vn) = false := by simpa using hgt
       have hokk : ∃ okk : Nat → Prop, okk = fun b => b < wb.heap.size ∨ w.heap.size + 3 ≤ b := ⟨_, rfl⟩
       obtain ⟨okk, hok1⟩ := hokk
       have hokI := θ (show ∀ b, w.heap.size + 3 ≤ b → okk b by rw [hok1]; exact fun b hb => .inr hb)
       have hnX := θ (show ¬ okk w.heap.size by have := Hbw.out.size; rw [hok1]; omega)
       have hnY := θ (show ¬ okk (w.heap.size + 1) by have := Hbw.out.size; rw [hok1]; omega)
       have hnR := θ (show ¬ okk (w.heap.size + 2) by have := Hbw.out.size; rw [hok1]; omega)
       have hokJ := θ (show ∀ b, okk b → b < wb.heap.size ∨ w.heap.size ≤ b by rw [hok1]; intro b hb; omega)
       have HO4 := θ ((HFb.out.folO (ok := okk) (by rw [hok1]; exact fun b hb => .inl hb)).below (HBW.out _ HB4.out))
       clear hok1
       go_wp2_with (first
        | (refine wpList_load_blk rfl 48 (.tmp 2) rfl w.heap.size rfl 48 F _ HX4.out Tryz.underlying48 rfl iF.out ?_)
        | (refine wpList_load_blk rfl 34 (.tmp 3) rfl (w.heap.size + 1) rfl 34 V _ HY4.out Tryz.underlying34 rfl iV.out ?_))
       refine (mapply_any okk f v F V wb w4 (HBW.out _ HB4.out) HO4.out HVb.out (fun b hb => hokI.out b (by omega)) Hs.out Hsv.out (Mir.app_small Hs.out Hsv.out)).mono ?_
       rintro e w5 ⟨F5, rfl, HO5, hb5⟩
       have HB5 := θ (bo HB4 hb5)
       have HX5 := θ (HX4.out.below hb5)
       have HY5 := θ (HY4.out.below hb5)
       have HR5 := θ (HR4.out.below hb5)
       have iF5 := θ (HO5.fol (HBW.out _ HB5.out)).info
       have zF5 := θ (HO5.fol (HBW.out _ HB5.out)).size
       have aF5 := θ (HO5.fol (HBW.out _ HB5.out)).all
       have HO5h := θ HO5
       have Hsg5 := θ (Mir.apS_small Hs.out Hsv.out)
       have Hea5 := θ (Mir.apS_ea f v)
       have Hno5 := θ (Mir.apS_no f v)
       have HRSa : Hid (RS = if (Mir.apS f v).2 = false then (Mir.fo0, 430) else (Mir.drain f.ea (Mir.apS f v).1, 0)) := θ (by rw [HRS.out, if_neg (by simp), if_neg (by simp), if_neg (by rintro (h | h); cases h; omega), if_neg (by omega)])
       clear HRS
       obtain ⟨g5, hg5⟩ := exq (Mir.apS f v)
       rw [hg5] at HO5h Hsg5 Hea5 Hno5 HRSa ⊢
       obtain ⟨g5, ab⟩ := g5
       simp only [] at HO5h Hsg5 Hea5 Hno5 HRSa ⊢
       clear HO5 hb5 hg5 x33 x35 y0 HX4 HY4 HR4 HB4 HO4
       cases ab with
       | false =>
         go_wp2_with (first
          | (refine wpList_put_blk rfl 48 (.tmp 2) (.tmp 73) rfl w.heap.size F5 rfl rfl 48 F HX5.out iF5.out (by rw [zF5.out, zF.out]) aF5.out ?_
             intro w6 h6 hg6 hz6
             have HR6 := θ (HR5.out.grown hg6 (fun e => by injection e with e; omega))
             have HB6 := θ (below_grown HB5.out hg6 HB5.out.size (fun k hk => by cases hk; omega))
             clear h6 hg6 hz6)
          | (refine wpList_load_blk rfl 48 (.tmp 4) rfl (w.heap.size + 2) rfl 48 Z _ HR6.out Tryz.underlying48 rfl iZ.out ?_)
          | (refine wpList_store_same rfl 48 (.tmp 4) (.tmp 77) rfl (w.heap.size + 2) Z rfl rfl 48 HR6.out iZ.out aZ.out ?_))
         have rr : RS = (Mir.fo0, 430) := by rw [HRSa.out]; rfl
         exact ret_row2 (u := .int .i64 430) rfl (w.heap.size + 2) 48 Z _ rfl rfl HR6.out Tryz.underlying48 rfl iZ.out rfl ⟨Z, by rw [rr], by rw [rr]; exact FZ.out _, HB6.out⟩
       | true =>
         obtain ⟨RF, hRF⟩ := exq (Mir.drain f.ea g5)
         have HRS2 : Hid (RS = (RF, 0)) := θ (by rw [HRSa.out, ← hRF]; rfl)
         have hdr0 : Hid (Mir.drain g5.ea g5 = RF) := θ (by rw [Hea5.out]; exact hRF)
         have hb50 : 0 ≤ g5.no ∧ g5.no + g5.ea.length ≤ 10000 := by
          have h1 := Hno5.out
          rw [if_pos rfl, Hvn.out] at h1
          rw [h1, Hea5.out, Hn2.out]
          omega
         clear hRF HRSa
         go_wp2_with (
          (refine wpList_put_blk rfl 48 (.tmp 2) (.tmp 73) rfl w.heap.size F5 rfl rfl 48 F HX5.out iF5.out (by rw [zF5.out, zF.out]) aF5.out ?_
           intro w6 h6 hg6 hz6
           have HX6 := θ h6
           have HY6 := θ (HY5.out.grown hg6 (fun e => by injection e with e; omega))
           have HR6 := θ (HR5.out.grown hg6 (fun e => by injection e with e; omega))
           have HB6 := θ (below_grown HB5.out hg6 HB5.out.size (fun k hk => by cases hk; omega))
           have HO6 := θ (HO5h.out.grown hg6 (fun g e => by injection e with e; subst e; exact hnX.out))
           have hz6' : w.heap.size + 3 ≤ w6.heap.size := HR6.out.lt
           clear h6 hg6 hz6))
         go_loopw [92] (fun _ W => ∃ (g : Mir.Fo) (G U : Array Value), Hid (FolO wb W okk g G) ∧ Hid (Blk W w.heap.size 48 G) ∧ Hid (Blk W (w.heap.size + 1) 34 U) ∧ Hid (U.size = 38) ∧ Hid (Blk W (w.heap.size + 2) 48 Z) ∧ Hid (Mir.SmF g) ∧ Hid (Mir.drain g.ea g = RF) ∧ 0 ≤ g.no ∧ g.no + g.ea.length ≤ 10000 ∧ w.heap.size + 3 ≤ W.heap.size ∧ Hid (Below w.heap.size w W)) (fun _ W => lenV ((W.cell? ⟨w.heap.size, 35, none⟩).getD undef))
         case atStart => exact ⟨g5, F5, V, HO6, HX6, HY6, zV, HR6, Hsg5, hdr0, hb50.1, hb50.2, hz6', HB6⟩
         obtain ⟨wq, rfl⟩ : ∃ v : World, v = wr := ⟨_, rfl⟩
         obtain ⟨g, G, U, HOq, HXq, HYq, HUz, HRq, Hsg, hdr, hn0, hnb, hzq, HBq⟩ := hrel
         have hmes : Hid (lenV ((wq.cell? ⟨w.heap.size, 35, none⟩).getD undef) = g.ea.length) := θ (by
          have c5 : wq.cell? ⟨w.heap.size, 35, none⟩ = G[35]? := HXq.out.cell 35
          obtain ⟨A7, ca7, B7, cb7, z7, hF7, hp7, -⟩ := HOq.out
          rw [hF7, Mir.folA_hi hp7.1 _ _ _ _ 3] at c5
          rw [c5]; rfl)
         obtain ⟨gno, hgno⟩ := exq g.no
         obtain ⟨ne, hne⟩ := exq g.ea.length
         obtain ⟨A', ca', B', cb', za, hGe, hpd', hza, hda', hcA, hvB, hca1, hca2, hcb1, hcb2⟩ := HOq.out
         rw [hne] at hGe hcb1 hnb
         rw [hgno] at hGe hnb hn0
         have iG := θ (HOq.out.fol (HBW.out _ HBq.out)).info
         have aG := θ (HOq.out.fol (HBW.out _ HBq.out)).all
         have zG := θ (HOq.out.fol (HBW.out _ HBq.out)).size
         have g33 : G[33]? = some (.int .i64 gno) := by rw [hGe]; exact Mir.folA_hi hpd'.1 _ _ _ _ 1
         have g35 : G[35]? = some (.slice B' ne cb') := by rw [hGe]; exact Mir.folA_hi hpd'.1 _ _ _ _ 3
         have HGe := θ hGe
         have HPd := θ hpd'
         have HZa := θ hza
         have HDa := θ hda'
         have HcA := θ hcA
         have HvB := θ hvB
         have Hca := θ (And.intro hca1 hca2)
         have Hcb := θ (And.intro hcb1 hcb2)
         have Hgno := θ hgno
         have Hne := θ hne
         have z33 : wq.cell? ⟨w.heap.size, 33, none⟩ = some (.int .i64 gno) := (HXq.out.cell 33).trans g33
         have z35 : wq.cell? ⟨w.heap.size, 35, none⟩ = some (.slice B' ne cb') := (HXq.out.cell 35).trans g35
         have ltX : w.heap.size < wq.heap.size := HXq.out.lt
         clear hGe hpd' hza hda' hcA hvB hca1 hca2 hcb1 hcb2 hgno hne
         cases hea : g.ea with
         | nil =>
           have e0 : ne = 0 := by rw [← Hne.out, hea]; rfl
           have Hea := θ hea
           clear hea
           subst e0
           go_upto_region 18 with fail
           refine wp_region_held_drew (S := fun W => Below wq.heap.size wq W) (by kernel_rfl) (below_drewN (Below.refl _ _) 1) (fun Hd => ?_)
           have Hd : Below wq.heap.size wq wq.drew := below_drewN (Below.refl _ _) 1
           have Zd : wq.heap.size ≤ wq.drew.heap.size := Nat.le_refl _
           generalize World.drew wq = wd at *
           refine tq 0 rfl Hd ?_
           refine ts 1 rfl Hd (fun wS hSw => by
            have cc := (hSw.cell (p := ⟨w.heap.size, 35, none⟩) ltX).trans z35
            go_simp
            try with_reducible rfl) ?_
           try simp only [la, Act.put]
           refine tq 2 rfl Hd ?_
           refine tq 3 rfl Hd ?_
           try simp only [la, Act.put]
           refine tq 4 rfl Hd ?_
           refine tn 5 rfl Hd ?_
           try simp only [la, Act.put]
           refine tn 6 rfl Hd ?_
           refine tn 7 rfl Hd ?_
           try simp only [la, Act.put]
           refine tn 8 rfl Hd ?_
           refine tn 9 rfl Hd ?_
           try simp only [la, Act.put]
           refine tn 10 rfl Hd ?_
           refine tn 11 rfl Hd ?_
           try simp only [la, Act.put]
           refine tn 12 rfl Hd ?_
           refine tn 13 rfl Hd ?_
           try simp only [la, Act.put]
           refine tq 14 rfl Hd ?_
           try simp only [la, Act.put]
           refine td ?_ _
           have HY := Hd
           obtain ⟨wp, rfl⟩ : ∃ v : World, v = wd := ⟨_, rfl⟩
           have HXp := θ (HXq.out.below HY)
           have HYp := θ (HYq.out.below HY)
           have HRp := θ (HRq.out.below HY)
           have HBp := θ (bo HBq HY)
           have HOp := θ (HOq.out.below HY)
           have HcAp := θ (HcA.out.below HY)
           have hzp := Nat.le_trans hzq HY.size
           clear HY HXq HYq HRq HBq HOq hzq z33 z35 ltX HcA
           go_wp2_with (first
            | (refine wpList_put_blk rfl 48 (.tmp 4) (.tmp 107) rfl (w.heap.size + 2) G rfl rfl 48 Z HRp.out iG.out (by rw [zZ.out, zG.out]) aG.out ?_
               intro w9 h9 hg9 hz9
               have hR9 := θ h9
               have hB9 := θ (below_grown HBp.out hg9 HBp.out.size (fun k hk => by cases hk; omega))
               have hO9 := θ (HOp.out.grown hg9 (fun g e => by injection e with e; subst e; exact hnR.out))
               clear h9 hg9 hz9)
            | (refine wpList_load_blk rfl 48 (.tmp 2) rfl w.heap.size rfl 48 G _ HXp.out Tryz.underlying48 rfl iG.out ?_))
           have rr : RS = (g, 0) := by rw [HRS2.out, ← hdr.out, Hea.out, Mir.drain_nil, ← Hea.out]
           exact ret_row2 (u := .int .i64 0) rfl (w.heap.size + 2) 48 G _ rfl rfl hR9.out Tryz.underlying48 rfl iG.out rfl ⟨G, by rw [rr], by rw [rr]; exact hO9.out.rcS (HBW.out _ hB9.out) hokJ.out, hB9.out⟩
         | cons v0 l =>
           have e1 : ne = l.length + 1 := by rw [← Hne.out, hea]; rfl
           have hne0 : 0 < ne := by omega
           have zne : ((0 : Int) < (ne : Int)) := by omega
           obtain ⟨b, off, rfl, hb, hcs⟩ := HvB.out.at_ (by rw [hea]; simp)
           obtain ⟨V0, hV0, hr0⟩ := hcs 0 v0 (by rw [hea]; rfl)
           rw [Nat.zero_mul, Nat.add_zero] at hr0
           have hb := Nat.lt_of_lt_of_le hb Hbw.out.size
           have hr0 : w.rangeAt b off V0.toList := fun j u hu => cellkM Hbw.out (hr0 j u hu)
           have Hr0 := θ hr0
           have HV0 := θ hV0
           have Hea := θ hea
           have He1 := θ e1
           obtain ⟨n0, hn0v⟩ := exq v0.no
           have Hn0v := θ hn0v
           have v0c : wq.cell? ⟨b, off, none⟩ = some (.int .i64 n0) := by
            have h1 := hr0 0 (.int .i64 n0) (by rw [Array.getElem?_toList, hV0.c0, hn0v])
            exact cellkM HBq.out (by simpa using h1)
           have ltb : b < wq.heap.size := Nat.lt_of_lt_of_le hb HBq.out.size
           clear hcs hV0 hr0 hea e1 hn0v
           have ew : IntKind.i64.wrap (gno + 1) = gno + 1 := by rw [IntKind.wrap_i64]; omega
           obtain ⟨bb, dnx⟩ := exq (n0 == gno + 1)
           have Dnx := θ dnx
           go_upto_region 18 with fail
           refine wp_region_held_drew (S := fun W => Below wq.heap.size wq W) (by kernel_rfl) (below_drewN (Below.refl _ _) 1) (fun Hd => ?_)
           have Hd : Below wq.heap.size wq wq.drew := below_drewN (Below.refl _ _) 1
           have Zd : wq.heap.size ≤ wq.drew.heap.size := Nat.le_refl _
           generalize World.drew wq = wd at *
           refine tq 0 rfl Hd ?_
           try simp only [la, Act.put]
           refine ts 1 rfl Hd (fun wS hSw => by
            have cc := (hSw.cell (p := ⟨w.heap.size, 35, none⟩) ltX).trans z35
            go_simp
            try with_reducible rfl) ?_
           refine tq 2 rfl Hd ?_
           try simp only [la, Act.put]
           refine tq 3 rfl Hd ?_
           refine tq 4 rfl Hd ?_
           try simp only [la, Act.put]
           refine tq 5 rfl Hd ?_
           refine ts 6 rfl Hd (fun wS hSw => by
            have cc := (hSw.cell (p := ⟨w.heap.size, 35, none⟩) ltX).trans z35
            go_simp
            try with_reducible rfl) ?_
           try simp only [la, Act.put]
           refine tq 7 rfl Hd ?_
           refine tq 8 rfl Hd ?_
           try simp only [la, Act.put]
           refine ts 9 rfl Hd (fun wS hSw => by
            have cc := (hSw.cell (p := ⟨b, off, none⟩) ltb).trans v0c
            go_simp
            try with_reducible rfl) ?_
           refine tq 10 rfl Hd ?_
           try simp only [la, Act.put]
           refine ts 11 rfl Hd (fun wS hSw => by
            have cc := (hSw.cell (p := ⟨w.heap.size, 33, none⟩) ltX).trans z33
            go_simp
            try with_reducible rfl) ?_
           refine tq 12 rfl Hd ?_
           try simp only [la, Act.put]
           refine tq 13 rfl Hd ?_
           refine tq 14 rfl Hd ?_
           try simp only [la, Act.put]
           refine td ?_ _
           have HY := Hd
           obtain ⟨wp, rfl⟩ : ∃ v : World, v = wd := ⟨_, rfl⟩
           have HXp := θ (HXq.out.below HY)
           have HYp := θ (HYq.out.below HY)
           have HRp := θ (HRq.out.below HY)
           have HBp := θ (bo HBq HY)
           have HOp := θ (HOq.out.below HY)
           have HcAp := θ (HcA.out.below HY)
           have hzp := Nat.le_trans hzq HY.size
           clear HY HXq HYq HRq HBq HOq hzq z33 z35 ltX HcA
           clear dnx
           cases bb with
           | true =>
             have Hnx := θ (show n0 = gno + 1 by simpa using Dnx.out)
             have iV0 := θ (show (Tryz.prog.info? 34).map (·.size) = some V0.toList.length by rw [Array.length_toList]; exact HV0.out.info)
             have iV0c := θ HV0.out.info
             obtain ⟨XB, hXB⟩ := exq ((if cb' = 1 then some (⟨b, off, none⟩ : Addr) else some ⟨b, off + 38, none⟩))
             have HXB := θ hXB
             go_upto_region 19 with fail
             refine wp_region_heldT (S := fun W => Below w.heap.size w W ∧ Blk W w.heap.size 48 G) 9 (by kernel_rfl) (⟨below_drewN HBp.out 1, HXp.out⟩) (fun Hd => ?_)
             have Hd : Below w.heap.size w wp.drew := below_drewN HBp.out 1
             have Zd : w.heap.size ≤ wp.drew.heap.size := HBp.out.size
             have fX : Blk wp.drew w.heap.size 48 G := HXp.out
             have fY : Blk wp.drew (w.heap.size + 1) 34 U := HYp.out
             have fR : Blk wp.drew (w.heap.size + 2) 48 Z := HRp.out
             have fO : CellsO okk wp.drew A' (itZ za) := HcAp.out
             generalize World.drew wp = wd at *
             refine uq 0 rfl ⟨Hd, fX⟩ ?_
             try simp only [la, Act.put]
             refine us 1 rfl ⟨Hd, fX⟩ (fun wS hSw => by
              have cc := (hSw.2.cell 35).trans g35
              go_simp
              try with_reducible rfl) ?_
             try simp only [la, Act.put]
             refine uq 2 rfl ⟨Hd, fX⟩ ?_
             try simp only [la, Act.put]
             refine ug 3 (.agg (V0)) rfl (yieldsIf_load_mid (by rfl) _ _ rfl (b) (off) rfl (V0.toList) _ (fun W hW => (fun j u hu => cellkM hW.1 (Hr0.out j u hu))) Tryz.underlying34 rfl iV0.out) ⟨Hd, fX⟩ ?_
             try simp only [la, Act.put]
             refine uq 4 rfl ⟨Hd, fX⟩ ?_
             try simp only [la, Act.put]
             refine us 5 rfl ⟨Hd, fX⟩ (fun wS hSw => by
              have cc := (hSw.2.cell 35).trans g35
              go_simp
              try with_reducible rfl) ?_
             try simp only [la, Act.put]
             refine ug 6 (.slice XB (ne - 1) (cb' - 1)) rfl (Or.inl ⟨by rfl, ?_⟩) ⟨Hd, fX⟩ ?_
             · intro wS hSw
               go_simp
               first | (intro hh; exfalso; omega) | skip
             try simp only [la, Act.put]
             refine uy 7 rfl (fun K hK => ?_)
             refine step_put_blk (by rfl) _ _ _ (by rfl) ((w.heap.size + 1)) (V0) (by rfl) (by rfl) _ _ fY HV0.out.info (by rw [HUz.out, HV0.out.size]) HV0.out.all ?_
             intro w1_ fY1 hg1 hz1
             have neX1 := fX.lt
             have fX1 := fX.gx hg1
             have neR1 := fR.lt
             have fR1 := fR.gx hg1
             have fO1 := fO.grown hg1 (fun g e => by injection e with e; subst e; exact hnY.out)
             have Hb1 := bgx Hd hg1 Hd.size
             have Zb1 := Nat.le_trans Zd hg1.size
             refine hK.out _ _ ⟨Hb1, fX1⟩ fun _ => ?_
             clear hK K
             try simp only [la, Act.put]
             refine uq 8 rfl ⟨Hb1, fX1⟩ ?_
             try simp only [la, Act.put]
             refine ul rfl (fun K hK => ?_)
             refine step_put_cell (by rfl) _ _ _ (by rfl) (w.heap.size) 35 (.slice XB (ne - 1) (cb' - 1)) (by rfl) (by rfl) _ _ fX1 (by rw [zG.out]; omega) (by kernel_rfl) (by rfl) ?_
             intro w2_ fX2 hg2 hz2
             have neY2 := fY1.lt
             have fY2 := fY1.gx hg2
             have neR2 := fR1.lt
             have fR2 := fR1.gx hg2
             have fO2 := fO1.grown hg2 (fun g e => by injection e with e; subst e; exact hnX.out)
             have Hb2 := bgx Hb1 hg2 Hb1.size
             have Zb2 := Nat.le_trans Zb1 hg2.size
             refine hK.out _ _ ?_
             clear hK K
             try simp only [la, Act.put]
             refine ud ?_ _
             have HX8 := θ (show Blk w2_ w.heap.size 48 (Mir.folA g.pub g.many gno (.slice A' g.it.length ca') (.slice XB (ne - 1) (cb' - 1))) from (by have := fX2; rwa [HGe.out, folA_early HPd.out.1] at this))
             have HY8 := θ fY2
             have HR8 := θ fR2
             have HB8 := θ Hb2
             have hz8 : w.heap.size + 3 ≤ w2_.heap.size := HR8.out.lt
             obtain ⟨G1, hG1⟩ := exq (Mir.folA g.pub g.many gno (.slice A' g.it.length ca') (.slice XB (ne - 1) (cb' - 1)))
             rw [hG1] at HX8
             have HO8 : Hid (FolO wb w2_ okk { g with ea := l } G1) := θ ⟨A', ca', XB, cb' - 1, za, by
              show G1 = Mir.folA g.pub g.many g.no (.slice A' g.it.length ca') (.slice XB l.length (cb' - 1))
              rw [← hG1, Hgno.out, show l.length = ne - 1 by rw [He1.out]; rfl], HPd.out, HZa.out, HDa.out, fO2, by
              have := HvB.out
              rw [Hea.out] at this
              have h2 := VersC.tail_ (c := cb') this (by rw [← He1.out]; exact Hcb.out.1)
              rw [HXB.out] at h2
              exact h2, Hca.out.1, Hca.out.2, by show l.length ≤ cb' - 1; have := Hcb.out.1; have := He1.out; omega, by have := Hcb.out.2; omega⟩
             have iG1 := θ (HO8.out.fol (HBW.out _ HB8.out)).info
             have zG1 := θ (HO8.out.fol (HBW.out _ HB8.out)).size
             have Hsg1 : Hid (Mir.SmF { g with ea := l }) := θ ⟨Hsg.out.1, Hsg.out.2.1, by show l.length ≤ 1000000; have := Hsg.out.2.2.1; rw [Hea.out] at this; simp at this; omega, fun x hx => Hsg.out.2.2.2 x (by rw [Hea.out]; exact List.mem_cons_of_mem _ hx)⟩
             have Hsv0 : Hid (Mir.SmV v0) := θ (Hsg.out.2.2.2 v0 (by rw [Hea.out]; exact List.mem_cons_self))
             clear hG1
             go_wp2_with (first
              | (refine wpList_load_blk rfl 48 (.tmp 2) rfl w.heap.size rfl 48 G1 _ HX8.out Tryz.underlying48 rfl iG1.out ?_)
              | (refine wpList_load_blk rfl 34 (.tmp 3) rfl (w.heap.size + 1) rfl 34 V0 _ HY8.out Tryz.underlying34 rfl iV0c.out ?_))
             refine (mapply_any okk { g with ea := l } v0 G1 V0 wb w2_ (HBW.out _ HB8.out) HO8.out HV0.out (fun b hb => hokI.out b (by omega)) Hsg1.out Hsv0.out (Mir.app_small Hsg1.out Hsv0.out)).mono ?_
             rintro e w5 ⟨F5, rfl, HO5, hb5⟩
             have HB5 := θ (bo HB8 hb5)
             have HX5 := θ (HX8.out.below hb5)
             have HY5 := θ (HY8.out.below hb5)
             have HR5 := θ (HR8.out.below hb5)
             have hz5 := Nat.le_trans hz8 hb5.size
             have HO5h := θ HO5
             have iF5 := θ (HO5.fol (HBW.out _ HB5.out)).info
             have zF5 := θ (HO5.fol (HBW.out _ HB5.out)).size
             have aF5 := θ (HO5.fol (HBW.out _ HB5.out)).all
             have Hsg5 := θ (Mir.apS_small Hsg1.out Hsv0.out)
             have Hea5 := θ (Mir.apS_ea { g with ea := l } v0)
             have Hno5 := θ (Mir.apS_no { g with ea := l } v0)
             have hdr5 : Hid (Mir.drain (Mir.apS { g with ea := l } v0).1.ea (Mir.apS { g with ea := l } v0).1 = RF) := θ (by
              rw [Hea5.out, ← hdr.out, Hea.out, Mir.drain_cons, if_pos (by rw [Hn0v.out, Hgno.out]; exact Hnx.out)])
             obtain ⟨g5, hg5⟩ : ∃ x, Mir.apS { g with ea := l } v0 = x := ⟨_, rfl⟩
             rw [hg5] at HO5h Hsg5 Hea5 Hno5 hdr5 ⊢
             have hb50 : 0 ≤ g5.1.no ∧ g5.1.no + g5.1.ea.length ≤ 10000 := by
              have h1 := Hno5.out
              have h2 := Hn0v.out
              have h3 := Hgno.out
              have h4 := Hnx.out
              have h5 := He1.out
              rw [Hea5.out]
              show 0 ≤ g5.1.no ∧ g5.1.no + (l.length : Int) ≤ 10000
              rw [h1]
              split
              · omega
              show 0 ≤ g.no ∧ g.no + (l.length : Int) ≤ 10000
              omega
             have hl5 : g5.1.ea.length < ne := by rw [Hea5.out, He1.out]; exact Nat.lt_succ_self _
             clear HO5 hb5 hg5
             go_wp2_with (
              (refine wpList_put_blk rfl 48 (.tmp 2) (.tmp 105) rfl w.heap.size F5 rfl rfl 48 G1 HX5.out iF5.out (by rw [zF5.out, zG1.out]) aF5.out ?_
               intro w6 h6 hg6 hz6
               have HX6 := θ h6
               have HY6 := θ (HY5.out.grown hg6 (fun e => by injection e with e; omega))
               have HR6 := θ (HR5.out.grown hg6 (fun e => by injection e with e; omega))
               have HB6 := θ (below_grown HB5.out hg6 HB5.out.size (fun k hk => by cases hk; omega))
               have HO6 := θ (HO5h.out.grown hg6 (fun g e => by injection e with e; subst e; exact hnX.out))
               have hz6' : w.heap.size + 3 ≤ w6.heap.size := HR6.out.lt
               clear h6 hg6 hz6))
             go_roundw
             case rel => exact ⟨_, _, _, _, _, _, _, _, _, _, _, _, _, _, _, _, _, _, _, _, _, _, _, _, _, _, _, _, _, ⟨g5.1, F5, V0, HO6, HX6, HY6, θ HV0.out.size, HR6, Hsg5, hdr5, hb50.1, hb50.2, hz6', HB6⟩, rfl⟩
             case measure =>
              have c5 : w6.cell? ⟨w.heap.size, 35, none⟩ = F5[35]? := HX6.out.cell 35
              obtain ⟨A7, ca7, B7, cb7, z7, hF7, hp7, -⟩ := HO6.out
              rw [hF7, Mir.folA_hi hp7.1 _ _ _ _ 3] at c5
              show lenV ((w6.cell? ⟨w.heap.size, 35, none⟩).getD undef) < _
              rw [c5, hmes.out, Hne.out]
              exact hl5
           | false =>
             have Hnx := θ (show ¬ n0 = gno + 1 by simpa using Dnx.out)
             go_wp2_with (first
              | (refine wpList_put_blk rfl 48 (.tmp 4) (.tmp 107) rfl (w.heap.size + 2) G rfl rfl 48 Z HRp.out iG.out (by rw [zZ.out, zG.out]) aG.out ?_
                 intro w9 h9 hg9 hz9
                 have hR9 := θ h9
                 have hB9 := θ (below_grown HBp.out hg9 HBp.out.size (fun k hk => by cases hk; omega))
                 have hO9 := θ (HOp.out.grown hg9 (fun g e => by injection e with e; subst e; exact hnR.out))
                 clear h9 hg9 hz9)
              | (refine wpList_load_blk rfl 48 (.tmp 2) rfl w.heap.size rfl 48 G _ HXp.out Tryz.underlying48 rfl iG.out ?_))
             have rr : RS = (g, 0) := by rw [HRS2.out, ← hdr.out, Hea.out, Mir.drain_cons, if_neg (by rw [Hn0v.out, Hgno.out]; exact Hnx.out), ← Hea.out]
             exact ret_row2 (u := .int .i64 0) rfl (w.heap.size + 2) 48 G _ rfl rfl hR9.out Tryz.underlying48 rfl iG.out rfl ⟨G, by rw [rr], by rw [rr]; exact hO9.out.rcS (HBW.out _ hB9.out) hokJ.out, hB9.out⟩
   subst hE1
   have dE2 : decide (E2 = 0) = false := by simpa using hE2
   go_enter Tryz.func17, Tryz.ntmps17
   go_upto_region 1 with fail
   generalize hge : World.alloc (World.alloc (World.alloc _ _) _) _ = w1
   have b3 : Blk w1 w.heap.size 48 F ∧ Blk w1 (w.heap.size + 1) 34 V ∧ Blk w1 (w.heap.size + 2) 48 Z ∧ Below w.heap.size w w1 ∧ w.heap.size + 3 ≤ w1.heap.size := by
    rw [← HZ.out]
    exact blk_threeB w F V (Mir.folA z32 0 0 (.slice none 0 0) (.slice none 0 0)) 48 34 48 w1 hge
   have HX := θ b3.1
   have HY := θ b3.2.1
   have HR := θ b3.2.2.1
   have HBw := θ b3.2.2.2.1
   have hz1 := b3.2.2.2.2
   clear hge b3
   go_wp2_with (refine wpList_load_blk rfl 48 (.tmp 2) rfl w.heap.size rfl 48 F _ HX.out Tryz.underlying48 rfl iF.out ?_)
   refine (HCk.out _ (HF.out.below HBw.out)).mono ?_
   rintro e w2 ⟨rfl, hb2⟩
   have HX2 := θ (HX.out.below hb2)
   have HY2 := θ (HY.out.below hb2)
   have HR2 := θ (HR.out.below hb2)
   have HB2 := θ (bo HBw hb2)
   have hz2 := Nat.le_trans hz1 hb2.size
   clear hb2 HX HY HR HBw hz1
   have x32 : w2.cell? ⟨w.heap.size, 32, none⟩ = some (.int .i64 many) := (HX2.out.cell 32).trans h32
   have hpr : w2.rangeAt w.heap.size 0 (f.pub.map fun (n : Nat) => Value.int .u8 (n : Int)) := fun i u hu => by
    have hi : i < 32 := by have := (List.getElem?_eq_some_iff.1 hu).1; rw [List.length_map, Hpd.out.1] at this; exact this
    rw [Nat.zero_add, HX2.out.cell i, Hlo.out i hi, ← Array.getElem?_toList, arrK_toList]
    exact hu
   have Hpr := θ hpr
   clear hpr
   go_wp2_with (first
    | (refine wpList_load_blk rfl 34 (.tmp 3) rfl (w.heap.size + 1) rfl 34 V _ HY2.out Tryz.underlying34 rfl iV.out ?_)
    | (refine wpList_load_mid rfl 29 (.tmp 17) rfl w.heap.size 0 rfl (f.pub.map fun (n : Nat) => Value.int .u8 (n : Int)) (.array 32 5) Hpr.out (by kernel_rfl) rfl (dV_info Hpd.out.1) ?_))
   refine (HVf.out _ (HV.out.below HB2.out)).mono ?_
   rintro e w3 ⟨rfl, hb3⟩
   have HX3 := θ (HX2.out.below hb3)
   have HY3 := θ (HY2.out.below hb3)
   have HR3 := θ (HR2.out.below hb3)
   have HB3 := θ (bo HB2 hb3)
   have hz3 := Nat.le_trans hz2 hb3.size
   clear hb3 x32 Hpr HX2 HY2 HR2 HB2 hz2
   go_wp2_with (first
    | (refine wpList_load_blk rfl 48 (.tmp 4) rfl (w.heap.size + 2) rfl 48 Z _ HR3.out Tryz.underlying48 rfl iZ.out ?_)
    | (refine wpList_store_same rfl 48 (.tmp 4) (.tmp 25) rfl (w.heap.size + 2) Z rfl rfl 48 HR3.out iZ.out aZ.out ?_))
   have rr : RS = (Mir.fo0, E2) := by rw [HRS.out]; rw [if_neg (by simp), if_pos hE2]
   exact ret_row2 (u := .int .i64 E2) rfl (w.heap.size + 2) 48 Z _ rfl rfl HR3.out Tryz.underlying48 rfl iZ.out rfl ⟨Z, by rw [rr], by rw [rr]; exact FZ.out _, HB3.out⟩
 have dE1 : decide (E1 = 0) = false := by simpa using hE1
 go_enter Tryz.func17, Tryz.ntmps17
 go_upto_region 1 with fail
 generalize hge : World.alloc (World.alloc (World.alloc _ _) _) _ = w1
 have b3 : Blk w1 w.heap.size 48 F ∧ Blk w1 (w.heap.size + 1) 34 V ∧ Blk w1 (w.heap.size + 2) 48 Z ∧ Below w.heap.size w w1 ∧ w.heap.size + 3 ≤ w1.heap.size := by
  rw [← HZ.out]
  exact blk_threeB w F V (Mir.folA z32 0 0 (.slice none 0 0) (.slice none 0 0)) 48 34 48 w1 hge
 have HX := θ b3.1
 have HY := θ b3.2.1
 have HR := θ b3.2.2.1
 have HBw := θ b3.2.2.2.1
 have hz1 := b3.2.2.2.2
 clear hge b3
 go_wp2_with (refine wpList_load_blk rfl 48 (.tmp 2) rfl w.heap.size rfl 48 F _ HX.out Tryz.underlying48 rfl iF.out ?_)
 refine (HCk.out _ (HF.out.below HBw.out)).mono ?_
 rintro e w2 ⟨rfl, hb2⟩
 have HX2 := θ (HX.out.below hb2)
 have HY2 := θ (HY.out.below hb2)
 have HR2 := θ (HR.out.below hb2)
 have HB2 := θ (bo HBw hb2)
 have hz2 := Nat.le_trans hz1 hb2.size
 clear hb2 HX HY HR HBw hz1
 go_wp2_with (first
  | (refine wpList_load_blk rfl 48 (.tmp 4) rfl (w.heap.size + 2) rfl 48 Z _ HR2.out Tryz.underlying48 rfl iZ.out ?_)
  | (refine wpList_store_same rfl 48 (.tmp 4) (.tmp 15) rfl (w.heap.size + 2) Z rfl rfl 48 HR2.out iZ.out aZ.out ?_))
 have rr : RS = (Mir.fo0, E1) := by rw [HRS.out]; rw [if_pos hE1]
 exact ret_row2 (u := .int .i64 E1) rfl (w.heap.size + 2) 48 Z _ rfl rfl HR2.out Tryz.underlying48 rfl iZ.out rfl ⟨Z, by rw [rr], by rw [rr]; exact FZ.out _, HB2.out⟩
theorem receive_any (f : Mir.Fo) (v : Mir.Ve) (F V : Array Value) (w : World) (hF : FolC w f F) (hV : VerC w v V) (hs : Mir.SmF f) (hsv : Mir.SmV v) :
    Calls Tryz.prog 17 #[.agg F, .agg V] w fun e w' => ∃ F', e = .returned (.tuple #[.agg F', .int .i64 (Mir.rcv f v).2]) ∧ FolC w' (Mir.rcv f v).1 F' ∧ Below w.heap.size w w' :=
 (receive_any2 w f v F V w (Below.refl _ _) hF hV hs hsv).mono fun _ _ ⟨G, h1, h2, h3⟩ => ⟨G, h1, h2.now h3, h3⟩
end Go.Proofs.YtkflpoiobpblhaaGreat
