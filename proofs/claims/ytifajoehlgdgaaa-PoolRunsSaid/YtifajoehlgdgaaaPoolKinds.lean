/- The laws' own structures, as plain data. -/
import Derived.Test.YtifajoehlgdgaaaWWords
namespace Go.Proofs.Ytifajoehlgdgaaa.PoolKinds
open Go.RowKit Go.Proofs.YtifajoehlgdgaaaW.PrintWords

structure S62 where
  f0 : Int
  f1 : Int
  f2 : Int

def k62 : Kd S62 := Kd.iso (Kd.pair (Kd.int .u8) (Kd.pair (Kd.int .u8) (Kd.int .u8))) (fun x => (x.f0, x.f1, x.f2))

structure S69 where
  f0 : Int
  f1 : Int
  f2 : Int

def k69 : Kd S69 := Kd.iso (Kd.pair (Kd.int .i64) (Kd.pair (Kd.int .i64) (Kd.int .i64))) (fun x => (x.f0, x.f1, x.f2))

theorem begun_open {w : World} {x : S62} {cs : List Value} (h : k62.K w x cs) : cs = [.int .u8 x.f0, .int .u8 x.f1, .int .u8 x.f2] := by
  obtain ⟨_, _, rfl, rfl, _, _, rfl, rfl, rfl⟩ := h
  rfl

theorem act_open {w : World} {x : S69} {cs : List Value} (h : k69.K w x cs) : cs = [.int .i64 x.f0, .int .i64 x.f1, .int .i64 x.f2] := by
  obtain ⟨_, _, rfl, rfl, _, _, rfl, rfl, rfl⟩ := h
  rfl

/-- Where the acts stand. -/
theorem act_at {w : World} {A : Option Addr} {n : Nat} {xs : List S69} (h : k69.C w A n xs) (i : Nat) (x : S69) (hi : xs[i]? = some x) :
    ∃ ad, A = some ad ∧ w.cell? (ad.add (i * 3)) = some (.int .i64 x.f0) ∧ w.cell? ⟨(ad.add (i * 3)).block, (ad.add (i * 3)).off + 1, none⟩ = some (.int .i64 x.f1) ∧ w.cell? ⟨(ad.add (i * 3)).block, (ad.add (i * 3)).off + 2, none⟩ = some (.int .i64 x.f2) := by
  obtain ⟨h1, h2, h3⟩ := h
  have hlt := (List.getElem?_eq_some_iff.1 hi).1
  obtain ⟨ad, rfl, h4⟩ := h3 (by omega)
  obtain ⟨cs, hl, hk, hc⟩ := h4 i x hi
  have e := act_open hk
  subst e
  exact ⟨ad, rfl, hc 0 _ rfl, by rw [← add_field ad (i * 3) 1 (by omega)]; exact hc 1 _ rfl, by rw [← add_field ad (i * 3) 2 (by omega)]; exact hc 2 _ rfl⟩
end Go.Proofs.Ytifajoehlgdgaaa.PoolKinds
