/- Signing on lists of numbers. -/
import Derived.Test.YtcijhakofoklcaaPath2
import Derived.Test.YtcijhakofoklcaaSig1
namespace Go.Proofs.Ytcijhakofoklcaa
open Go.RowKit
def secT : List Nat := strL ⟨#[115, 101, 99, 114, 101, 116]⟩
def openT : List Nat := strL ⟨#[111, 112, 101, 110]⟩
def oneT : List Nat := strL ⟨#[111, 110, 101]⟩
def msgT : List Nat := strL ⟨#[109, 101, 115, 115, 97, 103, 101]⟩

theorem twoL_length (i : Nat) : (twoL i).length = 2 := rfl
theorem twoL_byte (i : Nat) : ByteL (twoL i) := fun j => by
  match j with
  | 0 => show i / 256 % 256 < 256; omega
  | 1 => show i % 256 < 256; omega
  | j + 2 => show (0 : Nat) < 256; omega
def bn (b : Bool) : Nat := if b then 1 else 0
theorem bn_le (b : Bool) : bn b ≤ 1 := by unfold bn; split <;> omega
def secS (s : List Nat) (i j b : Nat) : List Nat := tagS secT (s ++ twoL i ++ [j, b])
def hashS (d : List Nat) : List Nat := tagS openT d
theorem secS_isD (s : List Nat) (i j b : Nat) : IsD (secS s i j b) := tagS_isD _ _
theorem hashS_isD (d : List Nat) : IsD (hashS d) := tagS_isD _ _
theorem secS_eq (s : List Nat) (i j b : Nat) : secS s i j b = tagS (strL ⟨#[115, 101, 99, 114, 101, 116]⟩) (s ++ twoL i ++ [j, b]) := rfl
theorem hashS_eq (d : List Nat) : hashS d = tagS (strL ⟨#[111, 112, 101, 110]⟩) d := rfl
/-- The hashes of a one-time key, in order. -/
def bothL (f : Nat → Bool → List Nat) : Nat → List (List Nat)
  | 0 => []
  | k + 1 => bothL f k ++ [f k false] ++ [f k true]
theorem bothL_zero (f : Nat → Bool → List Nat) : bothL f 0 = [] := rfl
theorem bothL_succ (f : Nat → Bool → List Nat) (k : Nat) : bothL f (k + 1) = bothL f k ++ [f k false] ++ [f k true] := rfl
theorem bothL_length (f : Nat → Bool → List Nat) : ∀ k, (bothL f k).length = 2 * k
  | 0 => rfl
  | k + 1 => by rw [bothL_succ, List.length_append, List.length_append, bothL_length f k]; simp; omega
theorem bothL_isL (f : Nat → Bool → List Nat) : ∀ k, (∀ j b, j < k → IsD (f j b)) → IsL (bothL f k)
  | 0, _ => IsL.nil_
  | k + 1, h => by
    rw [bothL_succ]
    exact ((bothL_isL f k fun j b hj => h j b (by omega)).snoc (h k false (by omega))).snoc (h k true (by omega))
theorem bothL_congr {f g : Nat → Bool → List Nat} : ∀ k, (∀ j b, j < k → f j b = g j b) → bothL f k = bothL g k
  | 0, _ => rfl
  | k + 1, h => by
    rw [bothL_succ, bothL_succ, bothL_congr k fun j b hj => h j b (by omega), h k false (by omega), h k true (by omega)]
theorem bothL_flat (f : Nat → Bool → List Nat) (k : Nat) : (bothL f (k + 1)).flatten = (bothL f k).flatten ++ f k false ++ f k true := by rw [bothL_succ]; simp
theorem IsL.flat_byte {l : List (List Nat)} (h : IsL l) : ByteL l.flatten := by
  induction l with
  | nil => exact fun j => by simp
  | cons d l ih =>
    rw [List.flatten_cons]
    exact (h d (by simp)).2.append (ih fun x hx => h x (by simp [hx]))
def pubS (f : Nat → Bool → List Nat) : List Nat := tagS oneT (bothL f 64).flatten
theorem pubS_isD (f : Nat → Bool → List Nat) : IsD (pubS f) := tagS_isD _ _
theorem pubS_eq (f : Nat → Bool → List Nat) : pubS f = tagS (strL ⟨#[111, 110, 101]⟩) (bothL f 64).flatten := rfl
def keyF (s : List Nat) (i : Nat) (j : Nat) (b : Bool) : List Nat := hashS (secS s i j (bn b))
theorem keyF_eq (s : List Nat) (i j : Nat) (b : Bool) : keyF s i j b = hashS (secS s i j (bn b)) := rfl
theorem keyF_isD (s : List Nat) (i j : Nat) (b : Bool) : IsD (keyF s i j b) := hashS_isD _
def pubL (s : List Nat) (m : Nat) : List (List Nat) := (List.range m).map fun i => pubS (keyF s i)
theorem pubL_length (s : List Nat) (m : Nat) : (pubL s m).length = m := by simp [pubL]
theorem pubL_zero (s : List Nat) : pubL s 0 = [] := rfl
theorem pubL_succ (s : List Nat) (m : Nat) : pubL s (m + 1) = pubL s m ++ [pubS (keyF s m)] := by simp [pubL, List.range_succ]
theorem pubL_isL (s : List Nat) (m : Nat) : IsL (pubL s m) := fun d hd => by
  unfold pubL at hd
  rw [List.mem_map] at hd
  obtain ⟨i, _, rfl⟩ := hd
  exact pubS_isD _
theorem pubL_get (s : List Nat) {m i : Nat} (h : i < m) : (pubL s m)[i]? = some (pubS (keyF s i)) := by simp [pubL, h]
/-- The bits that are signed. -/
def msgS (root : List Nat) (i : Nat) (msg : List Nat) : List Nat := tagS msgT (root ++ twoL i ++ msg)
theorem msgS_isD (root : List Nat) (i : Nat) (msg : List Nat) : IsD (msgS root i msg) := tagS_isD _ _
theorem msgS_eq (root : List Nat) (i : Nat) (msg : List Nat) : msgS root i msg = tagS (strL ⟨#[109, 101, 115, 115, 97, 103, 101]⟩) (root ++ twoL i ++ msg) := rfl
def bitS (d : List Nat) (j : Nat) : Bool := d.getD (j / 8) 0 / 2 ^ (7 - j % 8) % 2 == 1
theorem bitS_eq (d : List Nat) (j : Nat) : bitS d j = (d.getD (j / 8) 0 / 2 ^ (7 - j % 8) % 2 == 1) := rfl
def bitL (d : List Nat) (k : Nat) : List Bool := (List.range k).map (bitS d)
theorem bitL_length (d : List Nat) (k : Nat) : (bitL d k).length = k := by simp [bitL]
theorem bitL_zero (d : List Nat) : bitL d 0 = [] := rfl
theorem bitL_succ (d : List Nat) (k : Nat) : bitL d (k + 1) = bitL d k ++ [bitS d k] := by simp [bitL, List.range_succ]
theorem bitL_get (d : List Nat) {k j : Nat} (h : j < k) : (bitL d k).getD j false = bitS d j := by simp [bitL, h]
/-- The parts of a signature. -/
def openL (s : List Nat) (i : Nat) (x : List Bool) (k : Nat) : List (List Nat) := (List.range k).map fun j => secS s i j (bn (x.getD j false))
def closL (s : List Nat) (i : Nat) (x : List Bool) (k : Nat) : List (List Nat) := (List.range k).map fun j => keyF s i j (!x.getD j false)
theorem openL_length (s : List Nat) (i : Nat) (x : List Bool) (k : Nat) : (openL s i x k).length = k := by simp [openL]
theorem closL_length (s : List Nat) (i : Nat) (x : List Bool) (k : Nat) : (closL s i x k).length = k := by simp [closL]
theorem openL_succ (s : List Nat) (i : Nat) (x : List Bool) (k : Nat) : openL s i x (k + 1) = openL s i x k ++ [secS s i k (bn (x.getD k false))] := by simp [openL, List.range_succ]
theorem closL_succ (s : List Nat) (i : Nat) (x : List Bool) (k : Nat) : closL s i x (k + 1) = closL s i x k ++ [keyF s i k (!x.getD k false)] := by simp [closL, List.range_succ]
theorem openL_isL (s : List Nat) (i : Nat) (x : List Bool) (k : Nat) : IsL (openL s i x k) := fun d hd => by
  unfold openL at hd
  rw [List.mem_map] at hd
  obtain ⟨j, _, rfl⟩ := hd
  exact secS_isD _ _ _ _
theorem closL_isL (s : List Nat) (i : Nat) (x : List Bool) (k : Nat) : IsL (closL s i x k) := fun d hd => by
  unfold closL at hd
  rw [List.mem_map] at hd
  obtain ⟨j, _, rfl⟩ := hd
  exact keyF_isD _ _ _ _
theorem openL_get (s : List Nat) (i : Nat) (x : List Bool) {k j : Nat} (h : j < k) : (openL s i x k)[j]? = some (secS s i j (bn (x.getD j false))) := by simp [openL, h]
theorem closL_get (s : List Nat) (i : Nat) (x : List Bool) {k j : Nat} (h : j < k) : (closL s i x k)[j]? = some (keyF s i j (!x.getD j false)) := by simp [closL, h]
/-- What Verify hashes. -/
def verF (x : List Bool) (o c : List (List Nat)) (j : Nat) (b : Bool) : List Nat := if x.getD j false == b then hashS (o.getD j z32) else c.getD j z32
theorem verF_eq (x : List Bool) (o c : List (List Nat)) (j : Nat) (b : Bool) : verF x o c j b = if x.getD j false == b then hashS (o.getD j z32) else c.getD j z32 := rfl
theorem getD_isD {l : List (List Nat)} (h : IsL l) (j : Nat) : IsD (l.getD j z32) := by
  rw [List.getD_eq_getElem?_getD]
  cases hj : l[j]? with
  | none => exact z32_isD
  | some d => exact h d (List.mem_of_getElem? hj)
theorem verF_isD (x : List Bool) {o c : List (List Nat)} (hc : IsL c) (j : Nat) (b : Bool) : IsD (verF x o c j b) := by
  unfold verF
  split
  · exact hashS_isD _
  · exact getD_isD hc j
def verS (root : List Nat) (n at_ : Int) (msg : List Nat) (o c p : List (List Nat)) : Bool :=
  decide (1 ≤ n ∧ n ≤ 4096 ∧ 0 ≤ at_ ∧ at_ < n ∧ o.length = 64 ∧ c.length = 64 ∧ msg.length ≤ 65536) &&
  (okClimb at_ n p.length && decide (climbR (pubS (verF (bitL (msgS root at_.toNat msg) 64) o c)) at_ n p = root))
theorem verF_sign (s : List Nat) (i : Nat) (x y : List Bool) (hxy : ∀ j, j < 64 → y.getD j false = x.getD j false) : ∀ j b, j < 64 → verF y (openL s i x 64) (closL s i x 64) j b = keyF s i j b := by
  intro j b hj
  unfold verF
  have e1 : (openL s i x 64).getD j z32 = secS s i j (bn (x.getD j false)) := by rw [List.getD_eq_getElem?_getD, openL_get s i x hj]; rfl
  have e2 : (closL s i x 64).getD j z32 = keyF s i j (!x.getD j false) := by rw [List.getD_eq_getElem?_getD, closL_get s i x hj]; rfl
  rw [e1, e2, hxy j hj]
  by_cases h : x.getD j false = b
  · rw [h, if_pos (by simp)]; rfl
  · rw [if_neg (by simpa using h)]
    congr 1
    revert h
    cases x.getD j false <;> cases b <;> simp
theorem okClimb_nat {i n m : Nat} (h : i < n) (hn : n ≤ 1000000) : okClimb (i : Int) (n : Int) m = decide (m = (dirsS i n).length) := by
  unfold okClimb
  have : decide (1 ≤ (n : Int) ∧ (n : Int) ≤ 1099511627776 ∧ 0 ≤ (i : Int) ∧ (i : Int) < (n : Int)) = true := by simp; omega
  rw [this, Bool.true_and]
  simp
theorem climbR_nat {i n : Nat} (d : List Nat) (p : List (List Nat)) (h : i < n) (hn : n ≤ 1000000) (hp : p.length = (dirsS i n).length) : climbR d (i : Int) (n : Int) p = climbS d i n p := by
  unfold climbR
  rw [okClimb_nat h hn, hp]
  simp
theorem pathR_nat {l : List (List Nat)} {i : Nat} (h : i < l.length) : pathR l (i : Int) = pathS l i := by
  unfold pathR
  rw [if_pos (by omega)]
  simp
/-- What is signed verifies, for each message with the same bits. -/
theorem ver_sign (s : List Nat) (m i : Nat) (msg : List Nat) (x : List Bool) (hi : i < m) (hm : m ≤ 4096) (hl : msg.length ≤ 65536)
    (hx : ∀ j, j < 64 → (bitL (msgS (treeS (pubL s m)) i msg) 64).getD j false = x.getD j false) :
    verS (treeS (pubL s m)) (m : Int) (i : Int) msg (openL s i x 64) (closL s i x 64) (pathR (pubL s m) (i : Int)) = true := by
  have h1 : (pathR (pubL s m) (i : Int)).length = (dirsS i m).length := by
    rw [pathR_nat (by rw [pubL_length]; exact hi)]
    exact pathS_length m _ _ (pubL_length s m)
  unfold verS
  rw [openL_length, closL_length, okClimb_nat hi (by omega), h1, climbR_nat _ _ hi (by omega) h1, Int.toNat_natCast]
  have e : pubS (verF (bitL (msgS (treeS (pubL s m)) i msg) 64) (openL s i x 64) (closL s i x 64)) = pubS (keyF s i) := by
    unfold pubS
    rw [bothL_congr 64 (verF_sign s i x _ hx)]
  rw [e, pathR_nat (by rw [pubL_length]; exact hi), climb_path m _ _ _ (pubL_length s m) (pubL_get s hi)]
  simp
  omega
attribute [irreducible] secT openT oneT msgT secS hashS bothL pubS keyF pubL msgS bitS bitL openL closL verF
end Go.Proofs.Ytcijhakofoklcaa
