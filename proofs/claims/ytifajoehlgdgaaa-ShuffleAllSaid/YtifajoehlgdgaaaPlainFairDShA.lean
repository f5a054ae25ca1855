/- Each one alike: what was reckoned. -/
import Derived.Test.YtifajoehlgdgaaaPShAx
import Derived.Test.YtifajoehlgdgaaaPlainShA
namespace Go.Proofs.Ytifajoehlgdgaaa.PlainFairShA
open Go.RowKit Go.Proofs.YtifajoehlgdgaaaW.PrintWords Go.Proofs.Ytifajoehlgdgaaa.Plain Go.Proofs.Ytifajoehlgdgaaa.PlainShA Go.Proofs.Ytifajoehlgdgaaa.PShA

/-- All rows of draws of n, as they count. -/
def allF : Nat → List (List Int)
  | 0 => [[]]
  | n + 1 => (allF n).flatMap fun l => (List.range (n + 1)).map fun d => l ++ [((d : Nat) : Int)]

set_option maxRecDepth 100000 in
theorem all_small : ∀ m : Fin 6, handoffref02_All.f 1200 ((m.val : Nat) : Int) = some (allF m.val) := by decide +kernel
set_option maxRecDepth 100000 in
theorem all_six : handoffref02_All.f 1200 6 = some (allF 6) := by decide +kernel

theorem all_len : ∀ m : Fin 7, (allF m.val).length ≤ 720 := by decide +kernel

/-- The first one that may be. -/
def firstF (may : List Bool) : List Int → Option Int
  | [] => none
  | x :: r => if 0 ≤ x ∧ x < (may.length : Int) ∧ may.getD x.toNat false = true then some x else firstF may r

/-- How many may be. -/
def cntB (may : List Bool) : Nat := may.count true

/-- One more is first. -/
def stepW (may : List Bool) (ws : List Int) (o : List Int) : List Int := match firstF may o with
  | some x => ws.set x.toNat (rd ws x + 1)
  | none => ws

/-- How many orders there are. -/
def fact : Nat → Int
  | 0 => 1
  | n + 1 => ((n + 1 : Nat) : Int) * fact n

theorem count_small : ∀ m : Fin 7, shuffle_Count.f 100 ((m.val : Nat) : Int) = some (fact m.val) := by decide +kernel

/-- Is each one alike? -/
def fairB (may : List Bool) : Bool :=
  let ws := ((allF may.length).map ord).foldl (stepW may) (List.replicate may.length 0)
  ((allF may.length).all fun l => (firstF may (ord l)).isSome == decide (((cntB may : Nat) : Int) > 0)) && (List.range may.length).all fun j => G ws j == if may.getD j false = true then Int.tdiv (fact may.length) (cntB may : Nat) else 0

/-- All rows of that many yes or no. -/
def mays : Nat → List (List Bool)
  | 0 => [[]]
  | n + 1 => (mays n).flatMap fun l => [false :: l, true :: l]

theorem mem_mays : ∀ (l : List Bool), l ∈ mays l.length
  | [] => by simp [mays]
  | b :: l => by
    simp only [List.length_cons, mays, List.mem_flatMap]
    exact ⟨l, mem_mays l, by cases b <;> simp⟩

set_option maxRecDepth 100000 in
theorem fair_small : ∀ m : Fin 6, (mays m.val).all fairB = true := by decide +kernel
set_option maxRecDepth 100000 in
theorem fair_six : (mays 6).all fairB = true := by decide +kernel
end Go.Proofs.Ytifajoehlgdgaaa.PlainFairShA
