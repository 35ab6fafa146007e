/- Walks and plain laws that the statement rests on: short names of the library's laws of lists. -/
namespace Go.Proofs.YtkflpoiobpblhaaGreat
theorem la0 {α : Type _} {xs : List α} {i : Nat} (h : i < xs.toArray.size) : xs.toArray[i] = xs[i]'(by simpa using h) := rfl
theorem la1 {α : Type _} {a : α} {bs : List α} (h : 0 < (a :: bs).length) : (a :: bs)[0] = a := rfl
theorem la2 {α : Type _} {a : α} {bs : List α} {i : Nat} (h : i + 1 < (a :: bs).length) : (a :: bs)[i + 1] = bs[i]'(by simpa using h) := rfl
theorem la3 {α : Type _} {l : List α} {i : Nat} {a : α} : l.toArray.setIfInBounds i a = (l.set i a).toArray := List.setIfInBounds_toArray ..
theorem la4 {α : Type _} {x : α} {xs : List α} {b : α} : (x :: xs).set 0 b = b :: xs := rfl
theorem la5 {α : Type _} {x : α} {xs : List α} {n : Nat} {b : α} : (x :: xs).set (n + 1) b = x :: xs.set n b := rfl
theorem la {α : Type _} : (∀ (xs : List α) (i : Nat) (h : i < xs.toArray.size), xs.toArray[i] = xs[i]'(by simpa using h)) ∧ (∀ (a : α) (bs : List α) (h : 0 < (a :: bs).length), (a :: bs)[0] = a) ∧ (∀ (a : α) (bs : List α) (i : Nat) (h : i + 1 < (a :: bs).length), (a :: bs)[i + 1] = bs[i]'(by simpa using h)) ∧
    (∀ (l : List α) (i : Nat) (a : α), l.toArray.setIfInBounds i a = (l.set i a).toArray) ∧ (∀ (x : α) (xs : List α) (b : α), (x :: xs).set 0 b = b :: xs) ∧ (∀ (x : α) (xs : List α) (n : Nat) (b : α), (x :: xs).set (n + 1) b = x :: xs.set n b) :=
  ⟨fun _ _ _ => rfl, fun _ _ _ => rfl, fun _ _ _ _ => rfl, fun _ _ _ => List.setIfInBounds_toArray .., fun _ _ _ => rfl, fun _ _ _ _ => rfl⟩
end Go.Proofs.YtkflpoiobpblhaaGreat
