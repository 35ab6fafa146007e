/- A region that draws its order, in the round of a range over a function: from its walk along every order outside of rounds. -/
import Derived.RangeFuncNested
import Derived.RangeFuncBound
import Derived.RangeFuncCalls
import Derived.RangeFuncLeaves
import Derived.Shelf.Abstract
import Derived.Shelf.RegionOpen
import Derived.OwnWalkIn
import Derived.TacticsInMore
import Derived.LoopNIn
import Derived.LoopIn
import Derived.Sort.CutIn
import Derived.Maps.AppendAt
import Derived.Deep.RegionHeld3
import Derived.Test.YtpmkebejfnflfaaFFul
namespace Go.Proofs.Ytpmkebejfnflfaa
open Go.RowKit Go.Shelf
theorem rowsIn_wide {n : Nat} {P : Program} {row : String} {args : Array Value} {w : World} {R : Value → World → Prop} (h : Rows P row args w R) : RowsIn Fence.wide n P row args w R :=
  fun c cs _ => let ⟨v, w', r, s⟩ := h c cs; ⟨v, w', r, stepsIn_wide.2 s⟩
theorem wpOpsIn_of_wpOps {F : Fence} (hF : F = Fence.wide ∨ ∃ l, F = Fence.wide.inRound l) {n : Nat} {P : Program} {ops : Array Oper} {Q : Exit → Act → World → Prop} (hd : ∀ (j : Nat) (o : Oper) (c : Call), ops[j]? = some o → o.op ≠ .defer c) (hL : ¬ LetsOut Q) :
    ∀ (l : List Nat) (a : Act) (w : World), wpOps P ops Q l a w → wpOpsIn F n P ops Q l a w := by
  have hfn : ∀ f, F.fn f := by
    rcases hF with rfl | ⟨l, rfl⟩ <;> exact fun _ => trivial
  have hC : ∀ {f : FuncId} {args : Array Value} {w : World} {R : Ending → World → Prop}, Calls P f args w R → CallsIn F (n - 1) P f args w R := by
    intro f args w R h
    rcases hF with rfl | ⟨l, rfl⟩
    · exact callsIn_wide.2 h
    · exact CallsIn.inRound l (callsIn_wide.2 h)
  have hR : ∀ {row : String} {args : Array Value} {w : World} {R : Value → World → Prop}, Rows P row args w R → RowsIn F (n - 1) P row args w R := by
    intro row args w R h
    rcases hF with rfl | ⟨l, rfl⟩
    · exact rowsIn_wide h
    · exact rowsIn_wide h
  have hdp : F.depth.isSome = true → 1 ≤ n := by
    rcases hF with rfl | ⟨l, rfl⟩ <;> exact fun h => by cases h
  intro l
  induction l with
  | nil => exact fun a w h => h
  | cons i rest ih =>
    intro a w h
    unfold wpOps at h
    unfold wpOpsIn
    cases ho : ops[i]? with
    | none => rw [ho] at h; exact ih a w h
    | some o =>
      rw [ho] at h
      simp only [] at h ⊢
      split
      · rename_i hw
        rw [if_pos hw] at h
        rcases h with h | ⟨_, h⟩
        · refine ⟨fun f _ => hfn f, ?_⟩
          rw [Oper.semAt_eq _ _ _ (fun c => hd i o c ho)]
          unfold Oper.wp at h
          generalize (execOp a.eval o).run P w = r at *
          cases r with
          | ok x w' =>
            cases x <;> simp only [Oper.upon, Oper.uponIn] at h ⊢ <;>
              first
                | exact ih _ _ h
                | exact ⟨hdp, (hC h).mono fun e w'' he => by cases e <;> first | exact ih _ _ he | exact he⟩
                | exact ⟨hdp, (hR h).mono fun v w'' he => ih _ _ he⟩
          | halt x w' => cases x <;> simp only [Oper.upon, Oper.uponIn] at h ⊢ <;> exact h
        · exact absurd h hL
      · rename_i hw
        rw [if_neg hw] at h
        exact ⟨fun f _ => hfn f, ih _ _ h⟩
/-- What follows a region that only ends as it should. -/
def Only (Q : Exit → Act → World → Prop) (e : Exit) (a : Act) (w : World) : Prop := e = .normal ∧ Q .normal a w
theorem only_lets (Q : Exit → Act → World → Prop) : ¬ LetsOut (Only Q) := fun ⟨_, _, h, _⟩ => by cases h
theorem wpIn_region_held {F : Fence} (hF : F = Fence.wide ∨ ∃ l, F = Fence.wide.inRound l) {n : Nat} {P : Program} {ops : Array Oper} {Q : Exit → Act → World → Prop} {S : World → Prop} {id : Nat} {a : Act} {w : World} (hd : ∀ (j : Nat) (o : Oper) (c : Call), ops[j]? = some o → o.op ≠ .defer c)
    (hm : P.follows .mixedOrders = true) (hS : S w.drew) (h : S w.drew → wpAnyH P .any ops (Only Q) S ops.size (Array.replicate ops.size false) a w.drew) : (Code.region id ops true).wpIn F n P Q a w := by
  refine wpIn_mono (Q := Only Q) (wpIn_region_draw fun t => ?_) fun e a w ⟨he, hq⟩ => by rw [he]; exact hq
  simp only [Region.schedule, hm, Bool.true_or, if_true]
  exact wpOpsIn_of_wpOps hF hd (only_lets Q) _ _ _ (wpAny_sound ops.size t _ a _ (wpAny_of_held _ _ _ _ (h hS)))
end Go.Proofs.Ytpmkebejfnflfaa
