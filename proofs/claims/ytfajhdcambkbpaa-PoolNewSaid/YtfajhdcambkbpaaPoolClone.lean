/- slices.Clone of whole numbers. -/
import Derived.Test.YtfajhdcambkbpaaWLast
import Derived.Test.YtfajhdcambkbpaaWRepsOne
import Derived.OwnWalk
import Derived.Laws.OwnMore
import Derived.Test.YtfajhdcambkbpaaPoolA
import Derived.WalkSpells
import Derived.Outline
namespace Go.Proofs.Ytfajhdcambkbpaa.PoolClone
open Go.RowKit Go.Proofs.YtfajhdcambkbpaaW.PrintWords Go.Proofs.YtfajhdcambkbpaaW.PrintLast Go.Proofs.YtfajhdcambkbpaaW.PrintMore
theorem info3 : (Try.prog.info? 3).map (fun i => (i.zero, i.size, i.bytes)) = some (some (.int .i64 0), 1, 8) := by kernel_rfl

def slices_Clone_int_int.f (l0 : List Int) : Option (List Int) := if l0.length < 17592186044416 then some l0 else none

set_option maxHeartbeats 1000000 in
theorem slices_Clone_int_int.calls (A0 : Option Addr) (c0 : Nat) (l0 : List Int) (r : List Int) (w : World) (hr0 : Kd.C (Kd.int .i64) w A0 l0.length l0) (hc0 : l0.length ≤ c0) (h : slices_Clone_int_int.f l0 = some r) :
    Calls Try.prog 30 #[.slice A0 l0.length c0] w fun e w' => ∃ v0_ : Value, e = .returned (v0_) ∧ Kd.R (Kd.int .i64) 3 w' w.heap.size (fun _ => True) v0_ r ∧ Below w.heap.size w w' := by
  unfold slices_Clone_int_int.f at h
  split at h
  case isFalse => cases h
  rename_i hlen
  have e := Option.some.inj h
  subst e
  clear h
  have HR := Aside0.mk hr0
  have HL := Aside0.mk hlen
  clear hr0 hlen
  cases A0 with
  | none =>
    have h0 : l0 = [] := by
      rcases Nat.eq_zero_or_pos l0.length with h | h
      · exact List.length_eq_zero_iff.1 h
      · obtain ⟨ad, he, _⟩ := HR.out.2.2 h
        cases he
    subst h0
    have hn := fun (w : World) => Lib.run_eql_slice_nil (P := Try.prog) w 28 3 none 0 c0 0 0 Try.underlying28
    go_enter Try.func30, Try.ntmps30
    go_wp2
    go_ret
    exact ⟨_, rfl, Kd.R_nil _ _ _ _ _, Below.refl _ _⟩
  | some ad =>
    have hn := fun (w : World) => Lib.run_eql_slice_nil (P := Try.prog) w 28 3 (some ad) l0.length c0 0 0 Try.underlying28
    have HB := Aside0.mk (Below.refl w.heap.size w)
    go_enter Try.func30, Try.ntmps30
    go_wp2_with (first | ((with_reducible refine gate_dst (N := 5) rfl ?_); refine Kd.R_lit (Kd.int .i64) w.heap.size 3 ?hg (N := 5) ?hd (xs := ([] : List Int)) (inner := []) (ok := fun _ => True) (okp := fun _ => True) ?hr ?hp (fun _ hk => hk) trivial (Below.refl _ _) (Nat.le_refl _) (by simp) ?_; (case hd => rfl); (case hg => rfl); (case hr => first | (go_simp; done) | (go_simp; rfl)); (case hp => exact (Reps.none _ _)); intro v1 w1 ho hb hg_ hnew_; clear hg_ hnew_; have HO := Aside0.mk ho; have HB1 := Aside0.mk hb; clear ho hb) | ((with_reducible refine gate_builtin (b := .append) (xs := #[.tmp 5, .tmp 6]) rfl ?_); at_builtin; refine Kd.R_append_rows (Kd.int .i64) (w0 := w) w.heap.size rfl (.tmp 5) (.tmp 6) 28 3 (.int .i64 0) 8 rfl Try.underlying28 info3 rfl (by decide) (by omega) v1 [] l0 _ _ _ (fun _ => True) (fun _ => False) rfl rfl ?aO ?aR (fun _ _ h => h) (fun _ h => h.elim) ?aF ?aB ?aS ?aL ?_; (case aR => exact Kd.C_below HR.out HB1.out); (case aB => exact HB1.out); (case aF => exact (fun _ _ => trivial)); (case aO => exact HO.out); (case aS => exact below_size HB1.out); (case aL => have := HL.out; simp; omega); intro v2 w2 ho hb hg hat; have HO2 := Aside0.mk ho; have HB2 := Aside0.mk hb; clear ho hb hg hat))
    go_ret
    exact ⟨_, rfl, by simpa using HO2.out, HB2.out⟩
end Go.Proofs.Ytfajhdcambkbpaa.PoolClone
