/- The walks of Meet (calendar) and of the reference's Meet. -/
import Derived.Test.YtlijdbgknbeefaaDoorIvR
namespace Go.Proofs.YtlijdbgknbeefaaDoor
open Go.RowKit
def meetI (a b : Int × Int) : Int × Int := (max a.1 b.1, min a.2 b.2)
def meetOk (a b : Int × Int) : Bool := Iv.okI a && Iv.okI b && decide ((meetI a b).1 ≤ (meetI a b).2)
def meetV (a b : Int × Int) : Int × Int := if meetOk a b then meetI a b else (0, 0)
def MeetPost (a b : Int × Int) (w : World) (e : Ending) (w' : World) : Prop :=
  e = .returned (.tuple #[.agg #[.int .i64 (meetV a b).1, .int .i64 (meetV a b).2], .bool (meetOk a b)]) ∧ Below w.heap.size w w'
theorem check_of (x y : Int) (W : World) (b : Bool) (h : Iv.okI (x, y) = b) :
    Calls Tryd.prog 22 #[.agg #[.int .i64 x, .int .i64 y]] W fun e w' => e = .returned (.int .i64 (if b then 0 else 10)) ∧ w' = W.alloc (.cells #[.int .i64 x, .int .i64 y] 43) := by
  have := Check_any x y W
  unfold chkE at this
  rwa [h] at this
theorem meet_post {a b : Int × Int} {w w' : World} {r : Bool} {x y : Int} (h : meetOk a b = r) (hv : (x, y) = if r then meetI a b else (0, 0)) (hb : Below w.heap.size w w') : MeetPost a b w (.returned (.tuple #[.agg #[.int .i64 x, .int .i64 y], .bool r])) w' := by
  have e : meetV a b = (x, y) := by unfold meetV; rw [h]; exact hv.symm
  exact ⟨by rw [e, h], hb⟩
theorem blk_at1 (w : World) (a b : Array Value) (t1 t2 : TypeId) : Blk ((w.alloc (.cells a t1)).alloc (.cells b t2)) (w.heap.size + 1) t2 b := by
  have := Blk.new (w.alloc (.cells a t1)) t2 b
  simpa using this
theorem blk_at2 (w : World) (a b c : Array Value) (t1 t2 t3 : TypeId) : Blk (((w.alloc (.cells a t1)).alloc (.cells b t2)).alloc (.cells c t3)) (w.heap.size + 1 + 1) t3 c := by
  have := Blk.new ((w.alloc (.cells a t1)).alloc (.cells b t2)) t3 c
  simpa using this
theorem blk_at3 (w : World) (a b c d : Array Value) (t1 t2 t3 t4 : TypeId) : Blk ((((w.alloc (.cells a t1)).alloc (.cells b t2)).alloc (.cells c t3)).alloc (.cells d t4)) (w.heap.size + 1 + 1 + 1) t4 d := by
  have := Blk.new (((w.alloc (.cells a t1)).alloc (.cells b t2)).alloc (.cells c t3)) t4 d
  simpa using this
set_option linter.unusedSimpArgs false in
set_option maxRecDepth 100000 in
set_option maxHeartbeats 8000000 in
theorem Meet_any (ax ay bx by_ : Int) (w : World) :
    Calls Tryd.prog 24 #[.agg #[.int .i64 ax, .int .i64 ay], .agg #[.int .i64 bx, .int .i64 by_]] w (MeetPost (ax, ay) (bx, by_) w) := by
  obtain ⟨u, hu⟩ : ∃ u, max ax bx = u := ⟨_, rfl⟩
  obtain ⟨v, hv⟩ : ∃ v, min ay by_ = v := ⟨_, rfl⟩
  have Hu := Lib.hid hu
  have Hv := Lib.hid hv
  have hmi : meetI (ax, ay) (bx, by_) = (u, v) := by unfold meetI; rw [← hu, ← hv]
  have Hmi := Lib.hid hmi
  cases h1 : Iv.okI (ax, ay)
  · have Hok := Lib.hid (show meetOk (ax, ay) (bx, by_) = false by unfold meetOk; rw [h1]; rfl)
    have hK1 := Lib.hid (fun W => check_of ax ay W _ h1)
    clear hu hv hmi h1
    go_enter Tryd.func24, Tryd.ntmps24
    go_wp2_with (fail)
    rw [Hu.out, Hv.out]
    generalize hge : World.alloc _ _ = w1
    have HA := Lib.hid (show Blk w1 w.heap.size 43 #[.int .i64 ax, .int .i64 ay] by subst hge; exact ((Blk.new w _ _).alloc _).alloc _)
    have HBb := Lib.hid (show Blk w1 (w.heap.size + 1) 43 #[.int .i64 bx, .int .i64 by_] by subst hge; exact (blk_at1 w _ _ _ _).alloc _)
    have HX := Lib.hid (show Blk w1 (w.heap.size + 1 + 1) 43 #[.int .i64 u, .int .i64 v] by subst hge; exact blk_at2 w _ _ _ _ _ _)
    have HB := Lib.hid (show Below w.heap.size w w1 by subst hge; exact (((Below.refl _ _).alloc (Nat.le_refl _) _).alloc (by simp) _).alloc (by simp; omega) _)
    clear hge
    refine (hK1.out w1).mono ?_
    rintro e w2' ⟨rfl, hw2⟩
    skip
    have hb2 : Below w1.heap.size w1 w2' := by subst hw2; exact (Below.refl _ _).alloc (Nat.le_refl _) _
    have HBb2 := Lib.hid (HBb.out.below hb2)
    have HX2 := Lib.hid (HX.out.below hb2)
    skip
    have HB2 := Lib.hid (below_of HB.out hb2 HB.out.size)
    clear hw2 hb2
    have q0 := HBb2.out.cellv (i := 0) rfl
    have q1 := HBb2.out.cellv (i := 1) rfl
    have p0 := HX2.out.cellv (i := 0) rfl
    have p1 := HX2.out.cellv (i := 1) rfl
    have f0 := HX2.out.frozen 0
    have f1 := HX2.out.frozen 1
    skip
    go_wp2_with (fail)
    have fin : ∀ wz : World, Blk wz (w.heap.size + 1 + 1) 43 #[.int .i64 0, .int .i64 0] → Below w.heap.size w wz → wz.cell? ⟨w.heap.size + 1 + 1, 0, none⟩ = some (.int .i64 0) ∧ wz.cell? ⟨w.heap.size + 1 + 1, 1, none⟩ = some (.int .i64 0) := fun wz h _ => ⟨h.cellv (i := 0) rfl, h.cellv (i := 1) rfl⟩
    first
      | (generalize hge : World.setCell _ _ _ = wz
         have HZ := Lib.hid (show Blk wz (w.heap.size + 1 + 1) 43 #[.int .i64 0, .int .i64 0] by subst hge; exact (HX2.out.set_ 0 _).set_ 1 _)
         have HBz := Lib.hid (show Below w.heap.size w wz by subst hge; exact (HB2.out.setCell (p := ⟨w.heap.size + 1 + 1, 0, none⟩) (by simp; omega) _).setCell (p := ⟨w.heap.size + 1 + 1, 1, none⟩) (by simp; omega) _)
         clear hge
         obtain ⟨z0, z1⟩ := fin wz HZ.out HBz.out
         exact bodyPost_ret (v := .tuple #[.agg #[.int .i64 0, .int .i64 0], .bool false]) (by simp [results, Tryd.results24, go_sem, z0, z1]) rfl (meet_post Hok.out (by rw [Hmi.out]; rfl) HBz.out))
      | (obtain ⟨z0, z1⟩ := fin w2' HX2.out HB2.out
         exact bodyPost_ret (v := .tuple #[.agg #[.int .i64 0, .int .i64 0], .bool false]) (by simp [results, Tryd.results24, go_sem, z0, z1]) rfl (meet_post Hok.out (by rw [Hmi.out]; rfl) HB2.out))
  · cases h2 : Iv.okI (bx, by_)
    · have Hok := Lib.hid (show meetOk (ax, ay) (bx, by_) = false by unfold meetOk; rw [h1, h2]; rfl)
      have hK1 := Lib.hid (fun W => check_of ax ay W _ h1)
      have hK2 := Lib.hid (fun W => check_of bx by_ W _ h2)
      clear hu hv hmi h1 h2
      go_enter Tryd.func24, Tryd.ntmps24
      go_wp2_with (fail)
      rw [Hu.out, Hv.out]
      generalize hge : World.alloc _ _ = w1
      have HA := Lib.hid (show Blk w1 w.heap.size 43 #[.int .i64 ax, .int .i64 ay] by subst hge; exact ((Blk.new w _ _).alloc _).alloc _)
      have HBb := Lib.hid (show Blk w1 (w.heap.size + 1) 43 #[.int .i64 bx, .int .i64 by_] by subst hge; exact (blk_at1 w _ _ _ _).alloc _)
      have HX := Lib.hid (show Blk w1 (w.heap.size + 1 + 1) 43 #[.int .i64 u, .int .i64 v] by subst hge; exact blk_at2 w _ _ _ _ _ _)
      have HB := Lib.hid (show Below w.heap.size w w1 by subst hge; exact (((Below.refl _ _).alloc (Nat.le_refl _) _).alloc (by simp) _).alloc (by simp; omega) _)
      clear hge
      refine (hK1.out w1).mono ?_
      rintro e w2' ⟨rfl, hw2⟩
      skip
      have hb2 : Below w1.heap.size w1 w2' := by subst hw2; exact (Below.refl _ _).alloc (Nat.le_refl _) _
      have HBb2 := Lib.hid (HBb.out.below hb2)
      have HX2 := Lib.hid (HX.out.below hb2)
      skip
      have HB2 := Lib.hid (below_of HB.out hb2 HB.out.size)
      clear hw2 hb2
      have q0 := HBb2.out.cellv (i := 0) rfl
      have q1 := HBb2.out.cellv (i := 1) rfl
      have p0 := HX2.out.cellv (i := 0) rfl
      have p1 := HX2.out.cellv (i := 1) rfl
      have f0 := HX2.out.frozen 0
      have f1 := HX2.out.frozen 1
      skip
      go_wp2_with (fail)
      refine (hK2.out w2').mono ?_
      rintro e w3' ⟨rfl, hw3⟩
      have hb3 : Below w2'.heap.size w2' w3' := by subst hw3; exact (Below.refl _ _).alloc (Nat.le_refl _) _
      have HX3 := Lib.hid (HX2.out.below hb3)
      skip
      have HB3 := Lib.hid (below_of HB2.out hb3 HB2.out.size)
      clear hw3 hb3 q0 q1 p0 p1 f0 f1
      have p0 := HX3.out.cellv (i := 0) rfl
      have p1 := HX3.out.cellv (i := 1) rfl
      have f0 := HX3.out.frozen 0
      have f1 := HX3.out.frozen 1
      skip
      go_wp2_with (fail)
      have fin : ∀ wz : World, Blk wz (w.heap.size + 1 + 1) 43 #[.int .i64 0, .int .i64 0] → Below w.heap.size w wz → wz.cell? ⟨w.heap.size + 1 + 1, 0, none⟩ = some (.int .i64 0) ∧ wz.cell? ⟨w.heap.size + 1 + 1, 1, none⟩ = some (.int .i64 0) := fun wz h _ => ⟨h.cellv (i := 0) rfl, h.cellv (i := 1) rfl⟩
      first
        | (generalize hge : World.setCell _ _ _ = wz
           have HZ := Lib.hid (show Blk wz (w.heap.size + 1 + 1) 43 #[.int .i64 0, .int .i64 0] by subst hge; exact (HX3.out.set_ 0 _).set_ 1 _)
           have HBz := Lib.hid (show Below w.heap.size w wz by subst hge; exact (HB3.out.setCell (p := ⟨w.heap.size + 1 + 1, 0, none⟩) (by simp; omega) _).setCell (p := ⟨w.heap.size + 1 + 1, 1, none⟩) (by simp; omega) _)
           clear hge
           obtain ⟨z0, z1⟩ := fin wz HZ.out HBz.out
           exact bodyPost_ret (v := .tuple #[.agg #[.int .i64 0, .int .i64 0], .bool false]) (by simp [results, Tryd.results24, go_sem, z0, z1]) rfl (meet_post Hok.out (by rw [Hmi.out]; rfl) HBz.out))
        | (obtain ⟨z0, z1⟩ := fin w3' HX3.out HB3.out
           exact bodyPost_ret (v := .tuple #[.agg #[.int .i64 0, .int .i64 0], .bool false]) (by simp [results, Tryd.results24, go_sem, z0, z1]) rfl (meet_post Hok.out (by rw [Hmi.out]; rfl) HB3.out))
    · by_cases h3 : u ≤ v
      · have Hok := Lib.hid (show meetOk (ax, ay) (bx, by_) = true by unfold meetOk; rw [h1, h2, hmi]; simpa using h3)
        have hK1 := Lib.hid (fun W => check_of ax ay W _ h1)
        have hK2 := Lib.hid (fun W => check_of bx by_ W _ h2)
        have h3b : decide (v < u) = false := by simp; omega
        clear hu hv hmi h1 h2
        go_enter Tryd.func24, Tryd.ntmps24
        go_wp2_with (fail)
        rw [Hu.out, Hv.out]
        generalize hge : World.alloc _ _ = w1
        have HA := Lib.hid (show Blk w1 w.heap.size 43 #[.int .i64 ax, .int .i64 ay] by subst hge; exact ((Blk.new w _ _).alloc _).alloc _)
        have HBb := Lib.hid (show Blk w1 (w.heap.size + 1) 43 #[.int .i64 bx, .int .i64 by_] by subst hge; exact (blk_at1 w _ _ _ _).alloc _)
        have HX := Lib.hid (show Blk w1 (w.heap.size + 1 + 1) 43 #[.int .i64 u, .int .i64 v] by subst hge; exact blk_at2 w _ _ _ _ _ _)
        have HB := Lib.hid (show Below w.heap.size w w1 by subst hge; exact (((Below.refl _ _).alloc (Nat.le_refl _) _).alloc (by simp) _).alloc (by simp; omega) _)
        clear hge
        refine (hK1.out w1).mono ?_
        rintro e w2' ⟨rfl, hw2⟩
        skip
        have hb2 : Below w1.heap.size w1 w2' := by subst hw2; exact (Below.refl _ _).alloc (Nat.le_refl _) _
        have HBb2 := Lib.hid (HBb.out.below hb2)
        have HX2 := Lib.hid (HX.out.below hb2)
        skip
        have HB2 := Lib.hid (below_of HB.out hb2 HB.out.size)
        clear hw2 hb2
        have q0 := HBb2.out.cellv (i := 0) rfl
        have q1 := HBb2.out.cellv (i := 1) rfl
        have p0 := HX2.out.cellv (i := 0) rfl
        have p1 := HX2.out.cellv (i := 1) rfl
        have f0 := HX2.out.frozen 0
        have f1 := HX2.out.frozen 1
        skip
        go_wp2_with (fail)
        refine (hK2.out w2').mono ?_
        rintro e w3' ⟨rfl, hw3⟩
        have hb3 : Below w2'.heap.size w2' w3' := by subst hw3; exact (Below.refl _ _).alloc (Nat.le_refl _) _
        have HX3 := Lib.hid (HX2.out.below hb3)
        skip
        have HB3 := Lib.hid (below_of HB2.out hb3 HB2.out.size)
        clear hw3 hb3 q0 q1 p0 p1 f0 f1
        have p0 := HX3.out.cellv (i := 0) rfl
        have p1 := HX3.out.cellv (i := 1) rfl
        have f0 := HX3.out.frozen 0
        have f1 := HX3.out.frozen 1
        skip
        go_wp2_with (fail)
        have fin : ∀ wz : World, Blk wz (w.heap.size + 1 + 1) 43 #[.int .i64 u, .int .i64 v] → Below w.heap.size w wz → wz.cell? ⟨w.heap.size + 1 + 1, 0, none⟩ = some (.int .i64 u) ∧ wz.cell? ⟨w.heap.size + 1 + 1, 1, none⟩ = some (.int .i64 v) := fun wz h _ => ⟨h.cellv (i := 0) rfl, h.cellv (i := 1) rfl⟩
        first
          | (generalize hge : World.setCell _ _ _ = wz
             have HZ := Lib.hid (show Blk wz (w.heap.size + 1 + 1) 43 #[.int .i64 u, .int .i64 v] by subst hge; exact (HX3.out.set_ 0 _).set_ 1 _)
             have HBz := Lib.hid (show Below w.heap.size w wz by subst hge; exact (HB3.out.setCell (p := ⟨w.heap.size + 1 + 1, 0, none⟩) (by simp; omega) _).setCell (p := ⟨w.heap.size + 1 + 1, 1, none⟩) (by simp; omega) _)
             clear hge
             obtain ⟨z0, z1⟩ := fin wz HZ.out HBz.out
             exact bodyPost_ret (v := .tuple #[.agg #[.int .i64 u, .int .i64 v], .bool true]) (by simp [results, Tryd.results24, go_sem, z0, z1]) rfl (meet_post Hok.out (by rw [Hmi.out]; rfl) HBz.out))
          | (obtain ⟨z0, z1⟩ := fin w3' HX3.out HB3.out
             exact bodyPost_ret (v := .tuple #[.agg #[.int .i64 u, .int .i64 v], .bool true]) (by simp [results, Tryd.results24, go_sem, z0, z1]) rfl (meet_post Hok.out (by rw [Hmi.out]; rfl) HB3.out))
      · have Hok := Lib.hid (show meetOk (ax, ay) (bx, by_) = false by unfold meetOk; rw [h1, h2, hmi]; simp; omega)
        have hK1 := Lib.hid (fun W => check_of ax ay W _ h1)
        have hK2 := Lib.hid (fun W => check_of bx by_ W _ h2)
        have h3b : decide (v < u) = true := by simp; omega
        clear hu hv hmi h1 h2
        go_enter Tryd.func24, Tryd.ntmps24
        go_wp2_with (fail)
        rw [Hu.out, Hv.out]
        generalize hge : World.alloc _ _ = w1
        have HA := Lib.hid (show Blk w1 w.heap.size 43 #[.int .i64 ax, .int .i64 ay] by subst hge; exact ((Blk.new w _ _).alloc _).alloc _)
        have HBb := Lib.hid (show Blk w1 (w.heap.size + 1) 43 #[.int .i64 bx, .int .i64 by_] by subst hge; exact (blk_at1 w _ _ _ _).alloc _)
        have HX := Lib.hid (show Blk w1 (w.heap.size + 1 + 1) 43 #[.int .i64 u, .int .i64 v] by subst hge; exact blk_at2 w _ _ _ _ _ _)
        have HB := Lib.hid (show Below w.heap.size w w1 by subst hge; exact (((Below.refl _ _).alloc (Nat.le_refl _) _).alloc (by simp) _).alloc (by simp; omega) _)
        clear hge
        refine (hK1.out w1).mono ?_
        rintro e w2' ⟨rfl, hw2⟩
        skip
        have hb2 : Below w1.heap.size w1 w2' := by subst hw2; exact (Below.refl _ _).alloc (Nat.le_refl _) _
        have HBb2 := Lib.hid (HBb.out.below hb2)
        have HX2 := Lib.hid (HX.out.below hb2)
        skip
        have HB2 := Lib.hid (below_of HB.out hb2 HB.out.size)
        clear hw2 hb2
        have q0 := HBb2.out.cellv (i := 0) rfl
        have q1 := HBb2.out.cellv (i := 1) rfl
        have p0 := HX2.out.cellv (i := 0) rfl
        have p1 := HX2.out.cellv (i := 1) rfl
        have f0 := HX2.out.frozen 0
        have f1 := HX2.out.frozen 1
        skip
        go_wp2_with (fail)
        refine (hK2.out w2').mono ?_
        rintro e w3' ⟨rfl, hw3⟩
        have hb3 : Below w2'.heap.size w2' w3' := by subst hw3; exact (Below.refl _ _).alloc (Nat.le_refl _) _
        have HX3 := Lib.hid (HX2.out.below hb3)
        skip
        have HB3 := Lib.hid (below_of HB2.out hb3 HB2.out.size)
        clear hw3 hb3 q0 q1 p0 p1 f0 f1
        have p0 := HX3.out.cellv (i := 0) rfl
        have p1 := HX3.out.cellv (i := 1) rfl
        have f0 := HX3.out.frozen 0
        have f1 := HX3.out.frozen 1
        skip
        go_wp2_with (fail)
        have fin : ∀ wz : World, Blk wz (w.heap.size + 1 + 1) 43 #[.int .i64 0, .int .i64 0] → Below w.heap.size w wz → wz.cell? ⟨w.heap.size + 1 + 1, 0, none⟩ = some (.int .i64 0) ∧ wz.cell? ⟨w.heap.size + 1 + 1, 1, none⟩ = some (.int .i64 0) := fun wz h _ => ⟨h.cellv (i := 0) rfl, h.cellv (i := 1) rfl⟩
        first
          | (generalize hge : World.setCell _ _ _ = wz
             have HZ := Lib.hid (show Blk wz (w.heap.size + 1 + 1) 43 #[.int .i64 0, .int .i64 0] by subst hge; exact (HX3.out.set_ 0 _).set_ 1 _)
             have HBz := Lib.hid (show Below w.heap.size w wz by subst hge; exact (HB3.out.setCell (p := ⟨w.heap.size + 1 + 1, 0, none⟩) (by simp; omega) _).setCell (p := ⟨w.heap.size + 1 + 1, 1, none⟩) (by simp; omega) _)
             clear hge
             obtain ⟨z0, z1⟩ := fin wz HZ.out HBz.out
             exact bodyPost_ret (v := .tuple #[.agg #[.int .i64 0, .int .i64 0], .bool false]) (by simp [results, Tryd.results24, go_sem, z0, z1]) rfl (meet_post Hok.out (by rw [Hmi.out]; rfl) HBz.out))
          | (obtain ⟨z0, z1⟩ := fin w3' HX3.out HB3.out
             exact bodyPost_ret (v := .tuple #[.agg #[.int .i64 0, .int .i64 0], .bool false]) (by simp [results, Tryd.results24, go_sem, z0, z1]) rfl (meet_post Hok.out (by rw [Hmi.out]; rfl) HB3.out))
set_option linter.unusedSimpArgs false in
set_option maxRecDepth 100000 in
set_option maxHeartbeats 8000000 in
theorem rMeet_any (ax ay bx by_ : Int) (w : World) :
    Calls Tryd.prog 25 #[.agg #[.int .i64 ax, .int .i64 ay], .agg #[.int .i64 bx, .int .i64 by_]] w (MeetPost (ax, ay) (bx, by_) w) := by
  obtain ⟨u, hu⟩ : ∃ u, max ax bx = u := ⟨_, rfl⟩
  obtain ⟨v, hv⟩ : ∃ v, min ay by_ = v := ⟨_, rfl⟩
  have Hu := Lib.hid hu
  have Hv := Lib.hid hv
  have hmi : meetI (ax, ay) (bx, by_) = (u, v) := by unfold meetI; rw [← hu, ← hv]
  have Hmi := Lib.hid hmi
  cases h1 : Iv.okI (ax, ay)
  · have Hok := Lib.hid (show meetOk (ax, ay) (bx, by_) = false by unfold meetOk; rw [h1]; rfl)
    have hK1 := Lib.hid (fun W => rCheck_of ax ay W _ h1)
    clear hu hv hmi h1
    go_enter Tryd.func25, Tryd.ntmps25
    go_wp2_with (fail)
    rw [Hu.out, Hv.out]
    generalize hge : World.alloc _ _ = w1
    have HA := Lib.hid (show Blk w1 w.heap.size 43 #[.int .i64 ax, .int .i64 ay] by subst hge; exact (((Blk.new w _ _).alloc _).alloc _).alloc _)
    have HBb := Lib.hid (show Blk w1 (w.heap.size + 1) 43 #[.int .i64 bx, .int .i64 by_] by subst hge; exact ((blk_at1 w _ _ _ _).alloc _).alloc _)
    have HX := Lib.hid (show Blk w1 (w.heap.size + 1 + 1) 43 #[.int .i64 0, .int .i64 0] by subst hge; exact (blk_at2 w _ _ _ _ _ _).alloc _)
    have HY := Lib.hid (show Blk w1 (w.heap.size + 1 + 1 + 1) 43 #[.int .i64 u, .int .i64 v] by subst hge; exact blk_at3 w _ _ _ _ _ _ _ _)
    have HB := Lib.hid (show Below w.heap.size w w1 by subst hge; exact ((((Below.refl _ _).alloc (Nat.le_refl _) _).alloc (by simp) _).alloc (by simp; omega) _).alloc (by simp; omega) _)
    clear hge
    refine (hK1.out w1).mono ?_
    rintro e w2' ⟨rfl, hw2⟩
    skip
    have hb2 : Below w1.heap.size w1 w2' := by subst hw2; exact (Below.refl _ _).alloc (Nat.le_refl _) _
    have HBb2 := Lib.hid (HBb.out.below hb2)
    have HX2 := Lib.hid (HX.out.below hb2)
    have HY2 := Lib.hid (HY.out.below hb2)
    have HB2 := Lib.hid (below_of HB.out hb2 HB.out.size)
    clear hw2 hb2
    have q0 := HBb2.out.cellv (i := 0) rfl
    have q1 := HBb2.out.cellv (i := 1) rfl
    have p0 := HX2.out.cellv (i := 0) rfl
    have p1 := HX2.out.cellv (i := 1) rfl
    have f0 := HX2.out.frozen 0
    have f1 := HX2.out.frozen 1
    have e0 := HY2.out.cellv (i := 0) rfl
    have e1 := HY2.out.cellv (i := 1) rfl
    go_wp2_with (fail)
    have fin : ∀ wz : World, Blk wz (w.heap.size + 1 + 1) 43 #[.int .i64 0, .int .i64 0] → Below w.heap.size w wz → wz.cell? ⟨w.heap.size + 1 + 1, 0, none⟩ = some (.int .i64 0) ∧ wz.cell? ⟨w.heap.size + 1 + 1, 1, none⟩ = some (.int .i64 0) := fun wz h _ => ⟨h.cellv (i := 0) rfl, h.cellv (i := 1) rfl⟩
    first
      | (generalize hge : World.setCell _ _ _ = wz
         have HZ := Lib.hid (show Blk wz (w.heap.size + 1 + 1) 43 #[.int .i64 0, .int .i64 0] by subst hge; exact (HX2.out.set_ 0 _).set_ 1 _)
         have HBz := Lib.hid (show Below w.heap.size w wz by subst hge; exact (HB2.out.setCell (p := ⟨w.heap.size + 1 + 1, 0, none⟩) (by simp; omega) _).setCell (p := ⟨w.heap.size + 1 + 1, 1, none⟩) (by simp; omega) _)
         clear hge
         obtain ⟨z0, z1⟩ := fin wz HZ.out HBz.out
         exact bodyPost_ret (v := .tuple #[.agg #[.int .i64 0, .int .i64 0], .bool false]) (by simp [results, Tryd.results25, go_sem, z0, z1]) rfl (meet_post Hok.out (by rw [Hmi.out]; rfl) HBz.out))
      | (obtain ⟨z0, z1⟩ := fin w2' HX2.out HB2.out
         exact bodyPost_ret (v := .tuple #[.agg #[.int .i64 0, .int .i64 0], .bool false]) (by simp [results, Tryd.results25, go_sem, z0, z1]) rfl (meet_post Hok.out (by rw [Hmi.out]; rfl) HB2.out))
  · cases h2 : Iv.okI (bx, by_)
    · have Hok := Lib.hid (show meetOk (ax, ay) (bx, by_) = false by unfold meetOk; rw [h1, h2]; rfl)
      have hK1 := Lib.hid (fun W => rCheck_of ax ay W _ h1)
      have hK2 := Lib.hid (fun W => rCheck_of bx by_ W _ h2)
      clear hu hv hmi h1 h2
      go_enter Tryd.func25, Tryd.ntmps25
      go_wp2_with (fail)
      rw [Hu.out, Hv.out]
      generalize hge : World.alloc _ _ = w1
      have HA := Lib.hid (show Blk w1 w.heap.size 43 #[.int .i64 ax, .int .i64 ay] by subst hge; exact (((Blk.new w _ _).alloc _).alloc _).alloc _)
      have HBb := Lib.hid (show Blk w1 (w.heap.size + 1) 43 #[.int .i64 bx, .int .i64 by_] by subst hge; exact ((blk_at1 w _ _ _ _).alloc _).alloc _)
      have HX := Lib.hid (show Blk w1 (w.heap.size + 1 + 1) 43 #[.int .i64 0, .int .i64 0] by subst hge; exact (blk_at2 w _ _ _ _ _ _).alloc _)
      have HY := Lib.hid (show Blk w1 (w.heap.size + 1 + 1 + 1) 43 #[.int .i64 u, .int .i64 v] by subst hge; exact blk_at3 w _ _ _ _ _ _ _ _)
      have HB := Lib.hid (show Below w.heap.size w w1 by subst hge; exact ((((Below.refl _ _).alloc (Nat.le_refl _) _).alloc (by simp) _).alloc (by simp; omega) _).alloc (by simp; omega) _)
      clear hge
      refine (hK1.out w1).mono ?_
      rintro e w2' ⟨rfl, hw2⟩
      skip
      have hb2 : Below w1.heap.size w1 w2' := by subst hw2; exact (Below.refl _ _).alloc (Nat.le_refl _) _
      have HBb2 := Lib.hid (HBb.out.below hb2)
      have HX2 := Lib.hid (HX.out.below hb2)
      have HY2 := Lib.hid (HY.out.below hb2)
      have HB2 := Lib.hid (below_of HB.out hb2 HB.out.size)
      clear hw2 hb2
      have q0 := HBb2.out.cellv (i := 0) rfl
      have q1 := HBb2.out.cellv (i := 1) rfl
      have p0 := HX2.out.cellv (i := 0) rfl
      have p1 := HX2.out.cellv (i := 1) rfl
      have f0 := HX2.out.frozen 0
      have f1 := HX2.out.frozen 1
      have e0 := HY2.out.cellv (i := 0) rfl
      have e1 := HY2.out.cellv (i := 1) rfl
      go_wp2_with (fail)
      refine (hK2.out w2').mono ?_
      rintro e w3' ⟨rfl, hw3⟩
      have hb3 : Below w2'.heap.size w2' w3' := by subst hw3; exact (Below.refl _ _).alloc (Nat.le_refl _) _
      have HX3 := Lib.hid (HX2.out.below hb3)
      have HY3 := Lib.hid (HY2.out.below hb3)
      have HB3 := Lib.hid (below_of HB2.out hb3 HB2.out.size)
      clear hw3 hb3 q0 q1 p0 p1 f0 f1 e0 e1
      have p0 := HX3.out.cellv (i := 0) rfl
      have p1 := HX3.out.cellv (i := 1) rfl
      have f0 := HX3.out.frozen 0
      have f1 := HX3.out.frozen 1
      have e0 := HY3.out.cellv (i := 0) rfl
      have e1 := HY3.out.cellv (i := 1) rfl
      go_wp2_with (fail)
      have fin : ∀ wz : World, Blk wz (w.heap.size + 1 + 1) 43 #[.int .i64 0, .int .i64 0] → Below w.heap.size w wz → wz.cell? ⟨w.heap.size + 1 + 1, 0, none⟩ = some (.int .i64 0) ∧ wz.cell? ⟨w.heap.size + 1 + 1, 1, none⟩ = some (.int .i64 0) := fun wz h _ => ⟨h.cellv (i := 0) rfl, h.cellv (i := 1) rfl⟩
      first
        | (generalize hge : World.setCell _ _ _ = wz
           have HZ := Lib.hid (show Blk wz (w.heap.size + 1 + 1) 43 #[.int .i64 0, .int .i64 0] by subst hge; exact (HX3.out.set_ 0 _).set_ 1 _)
           have HBz := Lib.hid (show Below w.heap.size w wz by subst hge; exact (HB3.out.setCell (p := ⟨w.heap.size + 1 + 1, 0, none⟩) (by simp; omega) _).setCell (p := ⟨w.heap.size + 1 + 1, 1, none⟩) (by simp; omega) _)
           clear hge
           obtain ⟨z0, z1⟩ := fin wz HZ.out HBz.out
           exact bodyPost_ret (v := .tuple #[.agg #[.int .i64 0, .int .i64 0], .bool false]) (by simp [results, Tryd.results25, go_sem, z0, z1]) rfl (meet_post Hok.out (by rw [Hmi.out]; rfl) HBz.out))
        | (obtain ⟨z0, z1⟩ := fin w3' HX3.out HB3.out
           exact bodyPost_ret (v := .tuple #[.agg #[.int .i64 0, .int .i64 0], .bool false]) (by simp [results, Tryd.results25, go_sem, z0, z1]) rfl (meet_post Hok.out (by rw [Hmi.out]; rfl) HB3.out))
    · by_cases h3 : u ≤ v
      · have Hok := Lib.hid (show meetOk (ax, ay) (bx, by_) = true by unfold meetOk; rw [h1, h2, hmi]; simpa using h3)
        have hK1 := Lib.hid (fun W => rCheck_of ax ay W _ h1)
        have hK2 := Lib.hid (fun W => rCheck_of bx by_ W _ h2)
        have h3b : decide (v < u) = false := by simp; omega
        clear hu hv hmi h1 h2
        go_enter Tryd.func25, Tryd.ntmps25
        go_wp2_with (fail)
        rw [Hu.out, Hv.out]
        generalize hge : World.alloc _ _ = w1
        have HA := Lib.hid (show Blk w1 w.heap.size 43 #[.int .i64 ax, .int .i64 ay] by subst hge; exact (((Blk.new w _ _).alloc _).alloc _).alloc _)
        have HBb := Lib.hid (show Blk w1 (w.heap.size + 1) 43 #[.int .i64 bx, .int .i64 by_] by subst hge; exact ((blk_at1 w _ _ _ _).alloc _).alloc _)
        have HX := Lib.hid (show Blk w1 (w.heap.size + 1 + 1) 43 #[.int .i64 0, .int .i64 0] by subst hge; exact (blk_at2 w _ _ _ _ _ _).alloc _)
        have HY := Lib.hid (show Blk w1 (w.heap.size + 1 + 1 + 1) 43 #[.int .i64 u, .int .i64 v] by subst hge; exact blk_at3 w _ _ _ _ _ _ _ _)
        have HB := Lib.hid (show Below w.heap.size w w1 by subst hge; exact ((((Below.refl _ _).alloc (Nat.le_refl _) _).alloc (by simp) _).alloc (by simp; omega) _).alloc (by simp; omega) _)
        clear hge
        refine (hK1.out w1).mono ?_
        rintro e w2' ⟨rfl, hw2⟩
        skip
        have hb2 : Below w1.heap.size w1 w2' := by subst hw2; exact (Below.refl _ _).alloc (Nat.le_refl _) _
        have HBb2 := Lib.hid (HBb.out.below hb2)
        have HX2 := Lib.hid (HX.out.below hb2)
        have HY2 := Lib.hid (HY.out.below hb2)
        have HB2 := Lib.hid (below_of HB.out hb2 HB.out.size)
        clear hw2 hb2
        have q0 := HBb2.out.cellv (i := 0) rfl
        have q1 := HBb2.out.cellv (i := 1) rfl
        have p0 := HX2.out.cellv (i := 0) rfl
        have p1 := HX2.out.cellv (i := 1) rfl
        have f0 := HX2.out.frozen 0
        have f1 := HX2.out.frozen 1
        have e0 := HY2.out.cellv (i := 0) rfl
        have e1 := HY2.out.cellv (i := 1) rfl
        go_wp2_with (fail)
        refine (hK2.out w2').mono ?_
        rintro e w3' ⟨rfl, hw3⟩
        have hb3 : Below w2'.heap.size w2' w3' := by subst hw3; exact (Below.refl _ _).alloc (Nat.le_refl _) _
        have HX3 := Lib.hid (HX2.out.below hb3)
        have HY3 := Lib.hid (HY2.out.below hb3)
        have HB3 := Lib.hid (below_of HB2.out hb3 HB2.out.size)
        clear hw3 hb3 q0 q1 p0 p1 f0 f1 e0 e1
        have p0 := HX3.out.cellv (i := 0) rfl
        have p1 := HX3.out.cellv (i := 1) rfl
        have f0 := HX3.out.frozen 0
        have f1 := HX3.out.frozen 1
        have e0 := HY3.out.cellv (i := 0) rfl
        have e1 := HY3.out.cellv (i := 1) rfl
        go_wp2_with (fail)
        have fin : ∀ wz : World, Blk wz (w.heap.size + 1 + 1) 43 #[.int .i64 u, .int .i64 v] → Below w.heap.size w wz → wz.cell? ⟨w.heap.size + 1 + 1, 0, none⟩ = some (.int .i64 u) ∧ wz.cell? ⟨w.heap.size + 1 + 1, 1, none⟩ = some (.int .i64 v) := fun wz h _ => ⟨h.cellv (i := 0) rfl, h.cellv (i := 1) rfl⟩
        first
          | (generalize hge : World.setCell _ _ _ = wz
             have HZ := Lib.hid (show Blk wz (w.heap.size + 1 + 1) 43 #[.int .i64 u, .int .i64 v] by subst hge; exact (HX3.out.set_ 0 _).set_ 1 _)
             have HBz := Lib.hid (show Below w.heap.size w wz by subst hge; exact (HB3.out.setCell (p := ⟨w.heap.size + 1 + 1, 0, none⟩) (by simp; omega) _).setCell (p := ⟨w.heap.size + 1 + 1, 1, none⟩) (by simp; omega) _)
             clear hge
             obtain ⟨z0, z1⟩ := fin wz HZ.out HBz.out
             exact bodyPost_ret (v := .tuple #[.agg #[.int .i64 u, .int .i64 v], .bool true]) (by simp [results, Tryd.results25, go_sem, z0, z1]) rfl (meet_post Hok.out (by rw [Hmi.out]; rfl) HBz.out))
          | (obtain ⟨z0, z1⟩ := fin w3' HX3.out HB3.out
             exact bodyPost_ret (v := .tuple #[.agg #[.int .i64 u, .int .i64 v], .bool true]) (by simp [results, Tryd.results25, go_sem, z0, z1]) rfl (meet_post Hok.out (by rw [Hmi.out]; rfl) HB3.out))
      · have Hok := Lib.hid (show meetOk (ax, ay) (bx, by_) = false by unfold meetOk; rw [h1, h2, hmi]; simp; omega)
        have hK1 := Lib.hid (fun W => rCheck_of ax ay W _ h1)
        have hK2 := Lib.hid (fun W => rCheck_of bx by_ W _ h2)
        have h3b : decide (v < u) = true := by simp; omega
        clear hu hv hmi h1 h2
        go_enter Tryd.func25, Tryd.ntmps25
        go_wp2_with (fail)
        rw [Hu.out, Hv.out]
        generalize hge : World.alloc _ _ = w1
        have HA := Lib.hid (show Blk w1 w.heap.size 43 #[.int .i64 ax, .int .i64 ay] by subst hge; exact (((Blk.new w _ _).alloc _).alloc _).alloc _)
        have HBb := Lib.hid (show Blk w1 (w.heap.size + 1) 43 #[.int .i64 bx, .int .i64 by_] by subst hge; exact ((blk_at1 w _ _ _ _).alloc _).alloc _)
        have HX := Lib.hid (show Blk w1 (w.heap.size + 1 + 1) 43 #[.int .i64 0, .int .i64 0] by subst hge; exact (blk_at2 w _ _ _ _ _ _).alloc _)
        have HY := Lib.hid (show Blk w1 (w.heap.size + 1 + 1 + 1) 43 #[.int .i64 u, .int .i64 v] by subst hge; exact blk_at3 w _ _ _ _ _ _ _ _)
        have HB := Lib.hid (show Below w.heap.size w w1 by subst hge; exact ((((Below.refl _ _).alloc (Nat.le_refl _) _).alloc (by simp) _).alloc (by simp; omega) _).alloc (by simp; omega) _)
        clear hge
        refine (hK1.out w1).mono ?_
        rintro e w2' ⟨rfl, hw2⟩
        skip
        have hb2 : Below w1.heap.size w1 w2' := by subst hw2; exact (Below.refl _ _).alloc (Nat.le_refl _) _
        have HBb2 := Lib.hid (HBb.out.below hb2)
        have HX2 := Lib.hid (HX.out.below hb2)
        have HY2 := Lib.hid (HY.out.below hb2)
        have HB2 := Lib.hid (below_of HB.out hb2 HB.out.size)
        clear hw2 hb2
        have q0 := HBb2.out.cellv (i := 0) rfl
        have q1 := HBb2.out.cellv (i := 1) rfl
        have p0 := HX2.out.cellv (i := 0) rfl
        have p1 := HX2.out.cellv (i := 1) rfl
        have f0 := HX2.out.frozen 0
        have f1 := HX2.out.frozen 1
        have e0 := HY2.out.cellv (i := 0) rfl
        have e1 := HY2.out.cellv (i := 1) rfl
        go_wp2_with (fail)
        refine (hK2.out w2').mono ?_
        rintro e w3' ⟨rfl, hw3⟩
        have hb3 : Below w2'.heap.size w2' w3' := by subst hw3; exact (Below.refl _ _).alloc (Nat.le_refl _) _
        have HX3 := Lib.hid (HX2.out.below hb3)
        have HY3 := Lib.hid (HY2.out.below hb3)
        have HB3 := Lib.hid (below_of HB2.out hb3 HB2.out.size)
        clear hw3 hb3 q0 q1 p0 p1 f0 f1 e0 e1
        have p0 := HX3.out.cellv (i := 0) rfl
        have p1 := HX3.out.cellv (i := 1) rfl
        have f0 := HX3.out.frozen 0
        have f1 := HX3.out.frozen 1
        have e0 := HY3.out.cellv (i := 0) rfl
        have e1 := HY3.out.cellv (i := 1) rfl
        go_wp2_with (fail)
        have fin : ∀ wz : World, Blk wz (w.heap.size + 1 + 1) 43 #[.int .i64 0, .int .i64 0] → Below w.heap.size w wz → wz.cell? ⟨w.heap.size + 1 + 1, 0, none⟩ = some (.int .i64 0) ∧ wz.cell? ⟨w.heap.size + 1 + 1, 1, none⟩ = some (.int .i64 0) := fun wz h _ => ⟨h.cellv (i := 0) rfl, h.cellv (i := 1) rfl⟩
        first
          | (generalize hge : World.setCell _ _ _ = wz
             have HZ := Lib.hid (show Blk wz (w.heap.size + 1 + 1) 43 #[.int .i64 0, .int .i64 0] by subst hge; exact (HX3.out.set_ 0 _).set_ 1 _)
             have HBz := Lib.hid (show Below w.heap.size w wz by subst hge; exact (HB3.out.setCell (p := ⟨w.heap.size + 1 + 1, 0, none⟩) (by simp; omega) _).setCell (p := ⟨w.heap.size + 1 + 1, 1, none⟩) (by simp; omega) _)
             clear hge
             obtain ⟨z0, z1⟩ := fin wz HZ.out HBz.out
             exact bodyPost_ret (v := .tuple #[.agg #[.int .i64 0, .int .i64 0], .bool false]) (by simp [results, Tryd.results25, go_sem, z0, z1]) rfl (meet_post Hok.out (by rw [Hmi.out]; rfl) HBz.out))
          | (obtain ⟨z0, z1⟩ := fin w3' HX3.out HB3.out
             exact bodyPost_ret (v := .tuple #[.agg #[.int .i64 0, .int .i64 0], .bool false]) (by simp [results, Tryd.results25, go_sem, z0, z1]) rfl (meet_post Hok.out (by rw [Hmi.out]; rfl) HB3.out))
end Go.Proofs.YtlijdbgknbeefaaDoor
