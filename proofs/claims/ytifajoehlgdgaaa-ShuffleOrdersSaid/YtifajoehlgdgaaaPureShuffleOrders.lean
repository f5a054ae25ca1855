/- ShuffleOrders: of any draws the order, of any list whether it is one, and its draws, and how many orders there are: as the document has it. -/
import Derived.Test.YtifajoehlgdgaaaPShufx
import Derived.Test.YtifajoehlgdgaaaPlainRShuf
namespace Go.Proofs.Ytifajoehlgdgaaa.Pure
open Go.RowKit Go.Proofs.YtifajoehlgdgaaaW.PrintWords Go.Proofs.Ytifajoehlgdgaaa.Plain Go.Proofs.Ytifajoehlgdgaaa.PlainShuf Go.Proofs.Ytifajoehlgdgaaa.PlainShufR Go.Proofs.Ytifajoehlgdgaaa.PShuf

theorem ShuffleOrders : handofflaw02_ShuffleOrders.Pure := by
  intro ds l n _ _ _ _ _ _ _
  obtain ⟨K, hK⟩ : ∃ K : Nat, 3000000 ≤ K := ⟨_, Nat.le_refl _⟩
  refine ⟨K + 1, ?_⟩
  unfold handofflaw02_ShuffleOrders.f
  rw [alive _ (by omega)]
  simp only [Option.bind_some, if_true]
  by_cases c1 : (ds.length : Int) > 60
  · rw [if_pos c1]; simp [handofflaw02_ShuffleOrders.j0]
  · rw [if_neg c1]
    by_cases c2 : (l.length : Int) > 60
    · rw [decide_eq_true c2]; simp [handofflaw02_ShuffleOrders.j0]
    · rw [decide_eq_false c2]
      simp only [handofflaw02_ShuffleOrders.j0, Bool.false_eq_true, if_false]
      obtain ⟨b, hb, hi, hd⟩ := draws_ok l (by omega) K (by omega)
      obtain ⟨b2, hb2, hi2, hd2⟩ := ref_draws_ok l (by omega) K (by omega)
      have hbb : b = b2 := Bool.eq_iff_iff.2 (hi.trans hi2.symm)
      subst hbb
      obtain ⟨c, hc1, hc2⟩ := count_ok n K (by omega)
      rw [hd, hd2]
      simp only [Option.bind_some]
      rw [order_ok ds (by omega) K (by omega), ref_order_ok ds.length K ds rfl (by omega) (by omega)]
      simp only [Option.bind_some]
      rw [same_ok _ _ (by rw [ord_len]; omega) K (by rw [ord_len]; omega)]
      simp only [Option.bind_some, decide_true, if_true]
      rw [hb, hb2]
      simp only [Option.bind_some, BEq.rfl, if_true]
      rw [same_ok _ _ (by split <;> simp [drw_len]; omega) K (by split <;> simp [drw_len]; omega; omega)]
      simp only [Option.bind_some, decide_true, if_true]
      rw [hc1, hc2]
      simp
end Go.Proofs.Ytifajoehlgdgaaa.Pure
