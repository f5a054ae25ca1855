/- The document's pool, as plain data. -/
import Derived.Test.YtfajhdcambkbpaaWWords
namespace Go.Proofs.Ytfajhdcambkbpaa.PoolNKinds
open Go.RowKit Go.Proofs.YtfajhdcambkbpaaW.PrintWords

structure S30 where
  f0 : Int
  f1 : Int
  f2 : List (List Int)
  f3 : List Int
  f4 : Int

def k30 : Kd S30 := Kd.iso (Kd.pair (Kd.int .i64) (Kd.pair (Kd.int .i64) (Kd.pair (Kd.slice 28 (Kd.slice 3 (Kd.int .i64))) (Kd.pair (Kd.slice 3 (Kd.int .i64)) (Kd.int .i64))))) (fun x => (x.f0, x.f1, x.f2, x.f3, x.f4))

theorem pool_open {w : World} {x : S30} {cs : List Value} (h : k30.K w x cs) : ∃ AC cC AM cM, cs = [.int .i64 x.f0, .int .i64 x.f1, .slice AC x.f2.length cC, .slice AM x.f3.length cM, .int .i64 x.f4] ∧ x.f2.length ≤ cC ∧ Kd.C (Kd.slice 3 (Kd.int .i64)) w AC x.f2.length x.f2 ∧ x.f3.length ≤ cM ∧ Kd.C (Kd.int .i64) w AM x.f3.length x.f3 := by
  obtain ⟨_, _, rfl, rfl, _, _, rfl, rfl, _, _, rfl, ⟨AC, cC, rfl, h1, h2⟩, _, _, rfl, ⟨AM, cM, rfl, h3, h4⟩, rfl⟩ := h
  exact ⟨AC, cC, AM, cM, rfl, h1, h2, h3, h4⟩
end Go.Proofs.Ytfajhdcambkbpaa.PoolNKinds
