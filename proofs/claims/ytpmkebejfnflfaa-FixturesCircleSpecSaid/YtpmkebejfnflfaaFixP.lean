/- Fixtures: plain words and facts of the circle method. -/
import Derived.Test.YtpmkebejfnflfaaMem
namespace Go.Proofs.Ytpmkebejfnflfaa
namespace Fix
abbrev Mt := Int × Int
def lowM (x : Mt) : Int := min x.1 x.2
def swapM (x : Mt) : Mt := (x.2, x.1)
/-- A match before the first one that is not less. -/
def insM : List Mt → Mt → List Mt
  | [], x => [x]
  | y :: l, x => if lowM y < lowM x then y :: insM l x else x :: y :: l
def sortM (l : List Mt) : List Mt := l.foldl insM []
theorem insM_perm : ∀ (l : List Mt) (x : Mt), (insM l x).Perm (x :: l)
  | [], x => .refl _
  | y :: l, x => by
    unfold insM
    split
    · exact ((insM_perm l x).cons y).trans (List.Perm.swap x y l)
    · exact .refl _
theorem foldl_perm : ∀ (l a : List Mt), (l.foldl insM a).Perm (a ++ l)
  | [], a => by simp
  | x :: l, a => by
    rw [List.foldl_cons]
    refine (foldl_perm l (insM a x)).trans ?_
    refine ((insM_perm a x).append_right l).trans ?_
    simpa using (List.perm_middle (a := x) (l₁ := a) (l₂ := l)).symm
theorem sortM_perm (l : List Mt) : (sortM l).Perm l := by simpa [sortM] using foldl_perm l []
theorem insM_sorted : ∀ (l : List Mt) (x : Mt), l.Pairwise (fun a b => lowM a < lowM b) → (∀ y ∈ l, lowM y ≠ lowM x) → (insM l x).Pairwise (fun a b => lowM a < lowM b)
  | [], x, _, _ => by simp [insM]
  | y :: l, x, h, hn => by
    unfold insM
    have h1 := List.pairwise_cons.1 h
    split
    · rename_i hlt
      refine List.pairwise_cons.2 ⟨fun z hz => ?_, insM_sorted l x h1.2 fun z hz => hn z (List.mem_cons_of_mem _ hz)⟩
      rcases List.mem_cons.1 ((insM_perm l x).mem_iff.1 hz) with rfl | hz
      · exact hlt
      · exact h1.1 z hz
    · rename_i hge
      have hxy : lowM x < lowM y := by have := hn y (by simp); omega
      refine List.pairwise_cons.2 ⟨fun z hz => ?_, h⟩
      rcases List.mem_cons.1 hz with rfl | hz
      · exact hxy
      · exact Int.lt_trans hxy (h1.1 z hz)
theorem foldl_sorted : ∀ (l a : List Mt), a.Pairwise (fun a b => lowM a < lowM b) → ((a ++ l).map lowM).Nodup → (l.foldl insM a).Pairwise (fun a b => lowM a < lowM b)
  | [], a, h, _ => h
  | x :: l, a, h, hn => by
    rw [List.foldl_cons]
    have hp : ((insM a x ++ l).map lowM).Perm ((a ++ x :: l).map lowM) := by
      refine List.Perm.map _ ?_
      refine ((insM_perm a x).append_right l).trans ?_
      simpa using (List.perm_middle (a := x) (l₁ := a) (l₂ := l)).symm
    refine foldl_sorted l (insM a x) (insM_sorted a x h fun y hy e => ?_) (hp.nodup_iff.2 hn)
    rw [List.map_append, List.map_cons] at hn
    have := (List.nodup_append.1 hn).2.2 (lowM y) (List.mem_map_of_mem hy) (lowM x) (by simp)
    exact this e
theorem sortM_sorted {l : List Mt} (h : (l.map lowM).Nodup) : (sortM l).Pairwise (fun a b => lowM a < lowM b) := foldl_sorted l [] .nil (by simpa using h)
theorem sorted_unique : ∀ {s t : List Mt}, s.Perm t → s.Pairwise (fun a b => lowM a < lowM b) → t.Pairwise (fun a b => lowM a < lowM b) → s = t
  | [], t, h, _, _ => (List.nil_perm.1 h).symm ▸ rfl
  | x :: s, [], h, _, _ => absurd (List.perm_nil.1 h) (by simp)
  | x :: s, y :: t, h, hs, ht => by
    have hs1 := List.pairwise_cons.1 hs
    have ht1 := List.pairwise_cons.1 ht
    have hxy : x = y := by
      rcases List.mem_cons.1 (h.mem_iff.1 (List.mem_cons_self (a := x))) with e | hx
      · exact e
      · rcases List.mem_cons.1 (h.mem_iff.2 (List.mem_cons_self (a := y))) with e | hy
        · exact e.symm
        · have := ht1.1 x hx
          have := hs1.1 y hy
          omega
    subst hxy
    rw [sorted_unique (List.Perm.cons_inv h) hs1.2 ht1.2]
/-- What a sort yields is the sort, where the lesser numbers differ. -/
theorem sortM_of {s l : List Mt} (hp : s.Perm l) (hs : s.Pairwise (fun a b => lowM a ≤ lowM b)) (hn : (l.map lowM).Nodup) : s = sortM l := by
  refine sorted_unique (hp.trans (sortM_perm l).symm) ?_ (sortM_sorted hn)
  have hn' : (s.map lowM).Nodup := (hp.map lowM).nodup_iff.2 hn
  have hne : s.Pairwise (fun a b => lowM a ≠ lowM b) := List.pairwise_map.1 hn'
  exact (hs.and hne).imp fun h => by omega

/-- Match i of round r of the circle of m, as indices. -/
def pairI (m r i : Nat) : Nat × Nat :=
  if i = 0 then (if r % 2 = 0 then (r, m - 1) else (m - 1, r))
  else if i % 2 = 0 then ((r + m - 1 - i) % (m - 1), (r + i) % (m - 1)) else ((r + i) % (m - 1), (r + m - 1 - i) % (m - 1))
def idxR (n r : Nat) : List (Nat × Nat) := ((List.range ((n + n % 2) / 2)).map (pairI (n + n % 2) r)).filter fun x => decide (x.1 < n) && decide (x.2 < n)
def clubM (cl : List Int) (x : Nat × Nat) : Mt := (cl.getD x.1 0, cl.getD x.2 0)
def roundM (cl : List Int) (r : Nat) : List Mt := sortM ((idxR cl.length r).map (clubM cl))
def baseM (cl : List Int) : List (List Mt) := (List.range (cl.length + cl.length % 2 - 1)).map (roundM cl)
def circleM (cl : List Int) (double : Bool) : List (List Mt) := if double then baseM cl ++ (baseM cl).map (List.map swapM) else baseM cl
/-- The round in which two meet. -/
def rdI (n i k : Nat) : Nat := if max i k = n + n % 2 - 1 then min i k else ((i + k) * ((n + n % 2) / 2)) % (n + n % 2 - 1)
def flatI (l : List (Nat × Nat)) : List Nat := l.flatMap fun x => [x.1, x.2]
def patI (n c : Nat) : List Int := (List.range (n + n % 2 - 1)).map fun r => if (idxR n r).any (fun x => x.1 == c) then 1 else if (idxR n r).any (fun x => x.2 == c) then -1 else 0
def nodupB : List Nat → Bool
  | [] => true
  | x :: l => !(l.any (fun y => x == y)) && nodupB l
theorem nodupB_iff : ∀ (l : List Nat), nodupB l = true ↔ l.Nodup
  | [] => by simp [nodupB]
  | x :: l => by
    simp only [nodupB, Bool.and_eq_true, nodupB_iff l, List.nodup_cons, Bool.not_eq_true', List.any_eq_false, beq_iff_eq]
    constructor
    · rintro ⟨h, h2⟩; exact ⟨fun hm => h x hm rfl, h2⟩
    · rintro ⟨h, h2⟩; exact ⟨fun y hy e => h (e ▸ hy), h2⟩
def factA (n : Nat) : Bool := (List.range (n + n % 2 - 1)).all fun r => nodupB (flatI (idxR n r)) && (idxR n r).all fun x => rdI n x.1 x.2 == r
def factB (n : Nat) : Bool := (List.range n).all fun i => (List.range i).all fun k => decide (rdI n i k < n + n % 2 - 1) && (idxR n (rdI n i k)).any fun x => (x.1 == i && x.2 == k) || (x.1 == k && x.2 == i)
def factC (n : Nat) : Bool := (List.range n).all fun c => let p := patI n c; decide (p.count 0 = n % 2) && decide (p.count 1 ≤ p.count (-1) + 1) && decide (p.count (-1) ≤ p.count 1 + 1)
def upto24 (f : Nat → Bool) : Bool := (List.range 23).all fun k => f (k + 2)
theorem factA_all : upto24 factA = true := by decide +kernel
theorem factB_all : upto24 factB = true := by decide +kernel
theorem factC_all : upto24 factC = true := by decide +kernel
theorem upto24_at {f : Nat → Bool} (h : upto24 f = true) {n : Nat} (h2 : 2 ≤ n) (h24 : n ≤ 24) : f n = true := by
  have := List.all_eq_true.1 h (n - 2) (List.mem_range.2 (by omega))
  rwa [show n - 2 + 2 = n by omega] at this
end Fix
end Go.Proofs.Ytpmkebejfnflfaa
