-- Out of the translation, by a program of this session.
import Derived.Test.YtjmpaeckpbpclaaWShort
import Derived.Test.YtjmpaeckpbpclaaPPlKx0
import Derived.Test.YtjmpaeckpbpclaaPPlKx4
import Derived.Test.YtjmpaeckpbpclaaPPlKx10
import Derived.Test.YtjmpaeckpbpclaaPPlKx12
import Derived.Test.YtjmpaeckpbpclaaPPlKx16
namespace Go.Proofs.Ytjmpaeckpbpclaa.PPlK
open Go.RowKit Go.Proofs.YtjmpaeckpbpclaaW.PrintWords Go.Proofs.YtjmpaeckpbpclaaW.PrintLast Go.Proofs.YtjmpaeckpbpclaaW.PrintMore
attribute [local go_sem] max2_int min2_int max_two min_two max_three min_three max_four min_four   -- for this text's walks alone
set_option linter.unusedVariables false
set_option linter.unusedSimpArgs false

/-! ### plan_Clone: function 33 -/
/-- What is read of an element, in the world w0, whatever the world is now. -/
def plan_Clone.veil {α : Type} (w0 : World) (d : Kd α) : Kd α where
  sz := d.sz
  E := []
  K := fun _ x cs => d.K w0 x cs
  M := fun _ _ _ x cs => d.K w0 x cs
  K_len := fun h => d.K_len h
  K_one := fun h => d.K_one h
  K_below := fun _ h => h
  K_of_M := fun h => h
  M_mono := fun _ h => h
  M_bound := fun h => h
  M_move := fun _ h => h
  M_lower := fun _ h => h

set_option maxHeartbeats 1000000 in
set_option maxRecDepth 100000 in
theorem plan_Clone.cases (A0 : Option Addr) (c0 : Nat) (l0 : List S116) (w : World) (hr0 : Kd.C k116 w A0 l0.length l0) (hlen : l0.length < 1000000) :
    Calls Try.prog 78 #[.slice A0 l0.length c0] w fun e w' => ∃ v0_ : Value, e = .returned (v0_) ∧ Kd.R k116 116 w' w.heap.size (fun _ => True) v0_ l0 ∧ Below w.heap.size w w' := by
  have HR := Aside0.mk hr0
  have HL := Aside0.mk hlen
  clear hr0 hlen
  cases A0 with
  | none =>
    have h0 : l0 = [] := by
      rcases Nat.eq_zero_or_pos l0.length with h | h
      · exact List.length_eq_zero_iff.1 h
      · obtain ⟨ad, he, _⟩ := HR.out.2.2 h
        cases he
    subst h0
    have hn := fun (w : World) => Lib.run_eql_slice_nil (P := Try.prog) w 37 116 none 0 c0 0 0 Try.underlying37
    go_enter Try.func78, Try.ntmps78
    go_wp2
    go_ret
    exact ⟨_, rfl, Kd.R_nil _ _ _ _ _, Below.refl _ _⟩
  | some ad =>
    have hn := fun (w : World) => Lib.run_eql_slice_nil (P := Try.prog) w 37 116 (some ad) l0.length c0 0 0 Try.underlying37
    go_enter Try.func78, Try.ntmps78
    go_wp2_with (first | ((with_reducible refine gate_dst (N := 5) rfl ?_); refine Kd.R_lit k116 w.heap.size 116 ?hg (N := 5) ?hd (xs := ([] : List S116)) (inner := []) (ok := fun _ => True) (okp := fun _ => True) ?hr ?hp (fun _ hk => hk) trivial (Below.refl _ _) (Nat.le_refl _) (by simp) ?_; (case hd => rfl); (case hg => rfl); (case hr => first | (go_simp; done) | (go_simp; rfl)); (case hp => exact (Reps.none _ _)); intro v1 w1 ho hb hg_ hnew_; clear hg_ hnew_; have HO := Aside0.mk ho; have HB1 := Aside0.mk hb; clear ho hb) | ((with_reducible refine gate_builtin (b := .append) (xs := #[.tmp 5, .tmp 6]) rfl ?_); at_builtin; refine Kd.R_append_rows k116 (Rr := k116.K w1) (w0 := w) w.heap.size rfl (.tmp 5) (.tmp 6) 37 116 (.agg #[(.bool false), (.int .i64 0), (.int .i64 0)]) 24 rfl Try.underlying37 info116 rfl (by decide) (by omega) v1 [] l0 _ _ _ (fun _ => True) (fun _ => False) rfl rfl ?aO ?aR ?aK (fun _ h => h.elim) ?aF ?aB ?aS ?aL ?_; (case aR => exact Kd.C_below HR.out HB1.out); (case aK => exact fun x cs h => by obtain rfl := k116_open h; exact k116_mkM _ _ _ x); (case aB => exact HB1.out); (case aF => exact (fun _ _ => trivial)); (case aO => exact HO.out); (case aS => exact below_size HB1.out); (case aL => have := HL.out; simp; omega); intro v2 w2 ho hb hg hat; have HO2 := Aside0.mk ho; have HB2 := Aside0.mk hb; clear ho hb hg hat))
    go_ret
    exact ⟨_, rfl, by simpa using HO2.out, HB2.out⟩

set_option maxHeartbeats 1000000 in
set_option maxRecDepth 100000 in
theorem plan_Clone.ops (A0 : Option Addr) (c0 : Nat) (l0 : List S39) (w : World) (hr0 : Kd.C k39 w A0 l0.length l0) (hlen : l0.length < 1000000) :
    Calls Try.prog 77 #[.slice A0 l0.length c0] w fun e w' => ∃ v0_ : Value, e = .returned (v0_) ∧ Kd.R (plan_Clone.veil w k39) 39 w' w.heap.size (fun _ => True) v0_ l0 ∧ Below w.heap.size w w' := by
  have HR := Aside0.mk hr0
  have HL := Aside0.mk hlen
  clear hr0 hlen
  cases A0 with
  | none =>
    have h0 : l0 = [] := by
      rcases Nat.eq_zero_or_pos l0.length with h | h
      · exact List.length_eq_zero_iff.1 h
      · obtain ⟨ad, he, _⟩ := HR.out.2.2 h
        cases he
    subst h0
    have hn := fun (w : World) => Lib.run_eql_slice_nil (P := Try.prog) w 111 39 none 0 c0 0 0 Try.underlying111
    go_enter Try.func77, Try.ntmps77
    go_wp2
    go_ret
    exact ⟨_, rfl, Kd.R_nil _ _ _ _ _, Below.refl _ _⟩
  | some ad =>
    have hn := fun (w : World) => Lib.run_eql_slice_nil (P := Try.prog) w 111 39 (some ad) l0.length c0 0 0 Try.underlying111
    go_enter Try.func77, Try.ntmps77
    go_wp2_with (first | ((with_reducible refine gate_dst (N := 5) rfl ?_); refine Kd.R_lit (plan_Clone.veil w k39) w.heap.size 39 ?hg (N := 5) ?hd (xs := ([] : List S39)) (inner := []) (ok := fun _ => True) (okp := fun _ => True) ?hr ?hp (fun _ hk => hk) trivial (Below.refl _ _) (Nat.le_refl _) (by simp) ?_; (case hd => rfl); (case hg => rfl); (case hr => first | (go_simp; done) | (go_simp; rfl)); (case hp => exact (Reps.none _ _)); intro v1 w1 ho hb hg_ hnew_; clear hg_ hnew_; have HO := Aside0.mk ho; have HB1 := Aside0.mk hb; clear ho hb) | ((with_reducible refine gate_builtin (b := .append) (xs := #[.tmp 5, .tmp 6]) rfl ?_); at_builtin; refine Kd.R_append_rows (plan_Clone.veil w k39) (Rr := k39.K w) (w0 := w) w.heap.size rfl (.tmp 5) (.tmp 6) 111 39 (.agg #[(.int .i64 0), (.int .i64 0), (.int .i64 0), (.int .i64 0), (.slice none 0 0), (.bool false)]) 64 rfl Try.underlying111 info39 rfl (show 0 < 6 by decide) (by omega) v1 [] l0 _ _ _ (fun _ => True) (fun _ => False) rfl rfl ?aO ?aR ?aK (fun _ h => h.elim) ?aF ?aB ?aS ?aL ?_; (case aR => exact ReadsRow.imp_ HR.out HB1.out (fun _ _ h => h)); (case aK => exact fun x cs h => h); (case aB => exact HB1.out); (case aF => exact (fun _ _ => trivial)); (case aO => exact HO.out); (case aS => exact below_size HB1.out); (case aL => have := HL.out; simp; omega); intro v2 w2 ho hb hg hat; have HO2 := Aside0.mk ho; have HB2 := Aside0.mk hb; clear ho hb hg hat))
    go_ret
    exact ⟨_, rfl, by simpa using HO2.out, HB2.out⟩

/-- A row of ops, of which the first i have cases of their own; the others' are read in the world w1. -/
structure plan_Clone.Mid (w0 w1 w : World) (gm n cap i N1 : Nat) (l : List S39) (cs : Array Value) : Prop where
  heap : w.heap[gm]? = some (.cells cs 39 (0, 0))
  size : cs.size = cap * 6
  ncap : n ≤ cap
  cmax : cap ≤ maxLen
  llen : l.length = n
  ints : ∀ (j : Nat) (x : S39), l[j]? = some x → cs[j * 6]? = some (.int .i64 x.f0) ∧ cs[j * 6 + 1]? = some (.int .i64 x.f1) ∧ cs[j * 6 + 2]? = some (.int .i64 x.f2) ∧ cs[j * 6 + 3]? = some (.int .i64 x.f3) ∧ cs[j * 6 + 5]? = some (.bool x.f5)
  done : ∀ (j : Nat) (x : S39), j < i → l[j]? = some x → ∃ u, cs[j * 6 + 4]? = some u ∧ Kd.R k116 116 w w0.heap.size (fun k => N1 ≤ k ∧ k ≠ gm) u x.f4
  rest : ∀ (j : Nat) (x : S39), i ≤ j → l[j]? = some x → ∃ A c, cs[j * 6 + 4]? = some (.slice A x.f4.length c) ∧ Kd.C k116 w1 A x.f4.length x.f4
  gmN : N1 ≤ gm
  base : w0.heap.size ≤ N1

namespace plan_Clone
variable {w0 w1 w w2 : World} {gm n cap i N1 : Nat} {l : List S39} {cs : Array Value}

theorem drop_at {l : List Value} {a b : Nat} (q : Nat) (h : q < b) : ((l.drop a).take b)[q]? = l[a + q]? := by
  rw [List.getElem?_take_of_lt h, List.getElem?_drop]

theorem mid_made {v : Value} (hr : Kd.R (veil w1 k39) 39 w w1.heap.size (fun _ => True) v l) (hl : 0 < l.length) (hb : w0.heap.size ≤ w1.heap.size) :
    ∃ gm cap cs, v = .slice (some ⟨gm, 0, none⟩) l.length cap ∧ Mid w0 w1 w gm l.length cap 0 w1.heap.size l cs := by
  obtain ⟨_, inner, ⟨hl1, ho⟩, hrep⟩ := hr
  rcases ho with ⟨_, h0⟩ | ⟨g, cap, cur, rfl, hg1, hg2, hg3, hg4, hg5, hg6⟩
  · omega
  have hk : ∀ (j : Nat) (x : S39), l[j]? = some x → ∃ A c, (∀ q, q < 6 → cur[j * 6 + q]? = [.int .i64 x.f0, .int .i64 x.f1, .int .i64 x.f2, .int .i64 x.f3, .slice A x.f4.length c, .bool x.f5][q]?) ∧ Kd.C k116 w1 A x.f4.length x.f4 := by
    intro j x hj
    have h1 := hrep.2 j x hj
    obtain ⟨A, c, e, _, hc⟩ := k39_open (show k39.K w1 x _ from h1)
    have e2 : List.take 6 (List.drop (j * 6) inner) = _ := e
    refine ⟨A, c, fun q hq => ?_, hc⟩
    rw [← e2, drop_at q hq, ← hg6]
    have hjl : j < l.length := (List.getElem?_eq_some_iff.1 hj).1
    have hlt : j * 6 + q < l.length * 6 := by omega
    show _ = (List.take (l.length * 6) cur.toList)[j * 6 + q]?
    rw [List.getElem?_take_of_lt hlt, Array.getElem?_toList]
  refine ⟨g, cap, cur, rfl, { heap := hg2, size := hg5, ncap := hg3, cmax := hg4, llen := rfl, ints := fun j x hj => ?_, done := fun j x h0 => by omega, rest := fun j x _ hj => ?_, gmN := hg1, base := hb }⟩
  · obtain ⟨A, c, hq, _⟩ := hk j x hj
    exact ⟨hq 0 (by omega), hq 1 (by omega), hq 2 (by omega), hq 3 (by omega), hq 5 (by omega)⟩
  · obtain ⟨A, c, hq, hc⟩ := hk j x hj
    exact ⟨A, c, hq 4 (by omega), hc⟩

theorem Mid.below (h : Mid w0 w1 w gm n cap i N1 l cs) (hb : Below w.heap.size w w2) : Mid w0 w1 w2 gm n cap i N1 l cs :=
  { h with
    heap := blk_below h.heap hb
    done := fun j x hj hx => by
      obtain ⟨u, hu, hr⟩ := h.done j x hj hx
      exact ⟨u, hu, Kd.R_below hr hb⟩ }

theorem Mid.put (h : Mid w0 w1 w gm n cap i N1 l cs) (hi : i < n) {x : S39} (hx : l[i]? = some x) {u : Value} (hu : Kd.R k116 116 w w0.heap.size (fun k => N1 ≤ k ∧ k ≠ gm) u x.f4) :
    Mid w0 w1 (w.setCell ⟨gm, i * 6 + 4, none⟩ u) gm n cap (i + 1) N1 l (cs.setIfInBounds (i * 6 + 4) u) :=
  { heap := blk_put h.heap (i * 6 + 4) u rfl, size := by rw [Array.size_setIfInBounds]; exact h.size, ncap := h.ncap, cmax := h.cmax, llen := h.llen
    ints := fun j y hj => by
      obtain ⟨h0, h1, h2, h3, h5⟩ := h.ints j y hj
      refine ⟨?_, ?_, ?_, ?_, ?_⟩ <;> rw [Array.getElem?_setIfInBounds_ne (by omega)] <;> assumption
    done := fun j y hj hy => by
      have hs := h.size
      have hc := h.ncap
      by_cases e : j = i
      · subst e
        obtain rfl : x = y := by rw [hx] at hy; exact Option.some.inj hy
        exact ⟨u, by rw [Array.getElem?_setIfInBounds_self, if_pos (by omega)], Kd.R_far hu (fun k hk => hk.2) u⟩
      · obtain ⟨u2, hu2, hr⟩ := h.done j y (by omega) hy
        exact ⟨u2, by rw [Array.getElem?_setIfInBounds_ne (by omega)]; exact hu2, Kd.R_far hr (fun k hk => hk.2) u⟩
    rest := fun j y hj hy => by
      obtain ⟨A, c, hc, hC⟩ := h.rest j y (by omega) hy
      exact ⟨A, c, by rw [Array.getElem?_setIfInBounds_ne (by omega)]; exact hc, hC⟩
    gmN := h.gmN, base := h.base }

theorem Mid.done' (h : Mid w0 w1 w gm n cap n N1 l cs) : Kd.R k39 39 w w0.heap.size (fun k => N1 ≤ k) (.slice (some ⟨gm, 0, none⟩) n cap) l := by
  have hsz := h.size
  have hnc := h.ncap
  have hln := h.llen
  refine ⟨fun k hk => by obtain rfl : gm = k := by simpa [Value.ownBlock] using hk
                         exact h.gmN, cs.toList.take (n * 6), ⟨?_, .inr ⟨gm, cap, cs, by rw [hln], Nat.le_trans h.base h.gmN, h.heap, by rw [hln]; exact hnc, h.cmax, hsz, ?_⟩⟩, ?_, ?_⟩
  · rw [List.length_take, Array.length_toList, hln]
    show min (n * 6) cs.size = n * 6
    omega
  · show cs.toList.take (l.length * 6) = _
    rw [hln]
  · rw [List.length_take, Array.length_toList, hln]
    show min (n * 6) cs.size = n * 6
    omega
  · intro j x hj
    have hjl : j < n := by rw [← hln]; exact (List.getElem?_eq_some_iff.1 hj).1
    obtain ⟨h0, h1, h2, h3, h5⟩ := h.ints j x hj
    obtain ⟨u, h4, hr⟩ := h.done j x hjl hj
    have e : List.take 6 (List.drop (j * 6) (cs.toList.take (n * 6))) = [.int .i64 x.f0, .int .i64 x.f1, .int .i64 x.f2, .int .i64 x.f3, u, .bool x.f5] := by
      apply List.ext_getElem?
      intro q
      by_cases hq : q < 6
      · rw [drop_at q hq, List.getElem?_take_of_lt (by omega), Array.getElem?_toList]
        rcases (show q = 0 ∨ q = 1 ∨ q = 2 ∨ q = 3 ∨ q = 4 ∨ q = 5 by omega) with rfl | rfl | rfl | rfl | rfl | rfl <;> simpa using ‹_›
      · rw [List.getElem?_eq_none (by simp; omega), List.getElem?_eq_none (by simp; omega)]
    show k39.M _ _ _ _ (List.take 6 (List.drop (j * 6) (cs.toList.take (n * 6))))
    rw [e]
    exact k39_mkM _ _ _ _ (Kd.R_mono hr (fun k hk => ⟨hk.1, by simp only [Value.ownBlock]; intro he; injection he with he; exact hk.2 he⟩))

/-- An empty row of one's own is one of whatever kind. -/
theorem none_of {α β : Type} {d : Kd α} {d' : Kd β} {e base : Nat} {ok : Nat → Prop} {v : Value} (hsz : d.sz = d'.sz) (h : d.R e w base ok v []) : d'.R e w base ok v [] := by
  obtain ⟨h0, inner, ho, hr⟩ := h
  rw [hsz] at ho
  have hi : inner = [] := List.length_eq_zero_iff.1 (by have := hr.1; simpa using this)
  subst hi
  exact ⟨h0, [], ho, Reps.none _ _⟩
end plan_Clone

def plan_Clone.ok (l0 : List (List S39)) : Bool := l0.length < 1000000 && l0.all (fun l => l.length < 1000000 && l.all (fun x => x.f4.length < 1000000))
def plan_Clone.f (l0 : List (List S39)) : Option (List (List S39)) := if plan_Clone.ok l0 = true then some l0 else none

theorem plan_Clone.ok_at {l0 : List (List S39)} (h : plan_Clone.ok l0 = true) : l0.length < 1000000 ∧ ∀ l ∈ l0, l.length < 1000000 ∧ ∀ x ∈ l, x.f4.length < 1000000 := by
  simp only [plan_Clone.ok, Bool.and_eq_true, decide_eq_true_eq, List.all_eq_true] at h
  exact ⟨h.1, fun l hl => ⟨(h.2 l hl).1, fun x hx => (h.2 l hl).2 x hx⟩⟩

open plan_Clone in
set_option maxHeartbeats 4000000 in
set_option maxRecDepth 100000 in
theorem plan_Clone.calls (A0 : Option Addr) (c0 : Nat) (l0 : List (List S39)) (r : List (List S39)) (w : World) (hr0 : Kd.C (Kd.slice 39 k39) w A0 l0.length l0) (_hc0 : l0.length ≤ c0) (h : plan_Clone.f l0 = some r) :
  Calls Try.prog 33 #[.slice A0 l0.length c0] w fun e w' => ∃ v0_ : Value, e = .returned (v0_) ∧ Kd.R (Kd.slice 39 k39) 111 w' w.heap.size (fun _ => True) v0_ r ∧ Below w.heap.size w w' := by
 have hu39 := Try.underlying39
 have hu111 := Try.underlying111
 unfold plan_Clone.f at h
 by_cases hq : plan_Clone.ok l0 = true
 case neg => rw [if_neg hq] at h; cases h
 rw [if_pos hq] at h
 obtain rfl := Option.some.inj h
 obtain ⟨hn0, hall0⟩ := ok_at hq
 have hall := Aside0.mk hall0
 have hm := Kd.C_max hr0
 have HR := Aside0.mk hr0
 have HB := Aside0.mk (Below.refl w.heap.size w)
 have HN := Aside0.mk hn0
 clear h hq hr0 hall0 hn0
 go_enter Try.func33, Try.ntmps33
 go_wp2_with fail
 go_loopg [3, 10] l0.length (fun kq v3 v10 wr => ∃ (i : Nat) (u3 : Value), v10 = .int .i64 i ∧ v3 = u3 ∧ i ≤ l0.length ∧ Aside0 (kq = l0.length - i) ∧ Aside0 (Kd.R (Kd.slice 39 k39) 111 wr w.heap.size (fun _ => True) u3 (l0.take i)) ∧ Aside0 (Below w.heap.size w wr))
 case atStart => exact ⟨0, _, rfl, rfl, by omega, ⟨by omega⟩, ⟨Kd.R_nil _ _ _ _ _⟩, HB⟩
 case round =>
  clear HB
  obtain ⟨i, u3, rfl, rfl, hi, HK, HO, HB⟩ := hrel
  by_cases ci : i < l0.length
  ·have d1 : decide ((i : Int) < (l0.length : Int)) = true := decide_eq_true (by omega)
   have d1' : decide (i < l0.length) = true := decide_eq_true ci
   obtain ⟨ad, A4, c4, rfl, h0, h1, h2⟩ := at_L7 (Kd.C_below HR.out HB.out) (i : Int) (by omega) (by omega)
   obtain ⟨l, hl⟩ : ∃ l, rd_L7 l0 (i : Int) = l := ⟨_, rfl⟩
   rw [hl] at h0 h1 h2
   simp only [Int.toNat_natCast] at h0
   have hil : l0[i]? = some l := by
    rw [← hl]
    unfold rd_L7
    simp [List.getD_eq_getElem?_getD, ci]
   have htake : l0.take (i + 1) = l0.take i ++ [l] := by rw [List.take_add_one, hil]; rfl
   have hmem : l ∈ l0 := List.mem_of_getElem? hil
   have HLL := Aside0.mk (hall.out l hmem)
   have HTK := Aside0.mk htake
   have HCL := Aside0.mk h2
   obtain ⟨w4, hw4⟩ : ∃ x, x = wr := ⟨_, rfl⟩
   subst hw4
   clear hl hil htake hmem h1 h2
   go_wp2_with fail
   go_at_call 77
   refine (plan_Clone.ops A4 c4 l w4 HCL.out HLL.out.1).mono ?_
   rintro e w5 ⟨v, rfl, hr, hb⟩
   obtain ⟨N1, hN1⟩ : ∃ N, w4.heap.size = N := ⟨_, rfl⟩
   have hbN : w.heap.size ≤ N1 := by have := HB.out.size; omega
   have hOlt := Kd.R_mono (Kd.R_bound HO.out) (ok' := fun k => k < N1) (fun k hk => by have := hk.2.2.1; omega)
   have HO5 := Aside0.mk (Kd.R_below hOlt hb)
   have HV5 := Aside0.mk hr
   have HB5 := Aside0.mk (below_step HB.out hb)
   have HBN := Aside0.mk hbN
   have HB4 := Aside0.mk hb
   have HN1 := Aside0.mk hN1
   have HC5 := Aside0.mk HCL.out
   have hOB : Aside0 (∀ k, u3.ownBlock = some k → k < N1) := ⟨fun k hk => by have := Kd.R_lt HO.out k hk; omega⟩
   clear hr hb hOlt hbN HO HB h0 HCL hN1
   by_cases hl0 : l = []
   ·subst hl0
    obtain ⟨Av, cv, rfl⟩ := Kd.R_slice HV5.out
    have HV6 := Aside0.mk (Kd.R_mono (Kd.R_bound (none_of (d := veil w4 k39) (d' := k39) rfl HV5.out)) (ok' := fun k => N1 ≤ k) (fun k hk => by have := hk.2.1; have := HN1.out; omega))
    have HV7 : Aside0 (Kd.R k39 39 w5 w.heap.size (fun k => N1 ≤ k) (.slice Av 0 cv) []) := ⟨Kd.R_lower HV6.out (by have := HN1.out; have := HBN.out; omega)⟩
    clear HV5 HV6 HC5
    go_wp2_with fail
    refine wp_loop_rounds 1 ?_
    rw [rounds_succ]
    go_wp2_with (first | ((with_reducible refine gate_builtin (b := .append) (xs := #[.tmp 32, .tmp 34]) rfl ?_); at_builtin; refine Kd.R_append (Kd.slice 39 k39) (w0 := w) w.heap.size rfl (.tmp 32) (.tmp 34) 45 111 (.slice none 0 0) 24 rfl Try.underlying45 info111 rfl (by decide) (by omega) u3 (l0.take i) ([] : List S39) [.slice Av 0 cv] (fun _ => True) (fun k => N1 ≤ k) rfl rfl ?aP ?aK ?aF ?aO ?aB ?aS ?aL ?_; (case aP => exact Kd.M_row HV7.out); (case aK => exact fun k hk => ⟨trivial, fun e => by have := hOB.out k e.symm; omega⟩); (case aF => exact (fun _ _ => trivial)); (case aO => exact Kd.R_mono HO5.out (fun _ _ => trivial)); (case aB => exact HB5.out); (case aS => exact below_size HB5.out); (case aL => have := HN.out; rw [List.length_take]; omega); intro v6 w6 ho hb hg hat; rw [← HTK.out] at ho; have HO6 := Aside0.mk ho; have HB6 := Aside0.mk hb; clear ho hb hg hat))
    go_roundg (l0.length - (i + 1))
    case measure => have := HK.out; omega
    case rel => exact ⟨i + 1, _, by go_num, rfl, by omega, ⟨rfl⟩, HO6, HB6⟩
   ·have hpos : 0 < l.length := by
     rcases Nat.eq_zero_or_pos l.length with h | h
     ·exact absurd (List.length_eq_zero_iff.1 h) hl0
     ·exact h
    obtain ⟨gm, cap, cs0, rfl, hmid⟩ := mid_made (w0 := w) HV5.out hpos (by have := HN1.out; have := HBN.out; omega)
    obtain ⟨n, hn⟩ : ∃ n, l.length = n := ⟨_, rfl⟩
    rw [hn] at hmid
    rw [HN1.out] at hmid
    have HM := Aside0.mk hmid
    have hn9 : n < 1000000 := by have := HLL.out.1; omega
    have hgl : Aside0 (l.length = n) := ⟨hn⟩
    rw [hn]
    clear hmid HV5 hpos hl0 hn
    go_wp2_with fail
    go_loopg [18] n (fun kq v18 wr => ∃ (j : Nat) (cs : Array Value), v18 = .int .i64 j ∧ j ≤ n ∧ Aside0 (kq = n - j) ∧ Aside0 (Mid w w4 wr gm n cap j N1 l cs) ∧ Aside0 (Kd.R (Kd.slice 39 k39) 111 wr w.heap.size (fun k => k < N1) u3 (l0.take i)) ∧ Aside0 (Below w.heap.size w wr) ∧ Aside0 (Below w4.heap.size w4 wr))
    case atStart => exact ⟨0, cs0, rfl, by omega, ⟨by omega⟩, HM, HO5, HB5, HB4⟩
    case round =>
     clear HM HO5 HB5 HB4
     obtain ⟨j, cs, rfl, hj, HKj, HM, HO, HB, HB4⟩ := hrel
     by_cases cj : j < n
     ·have d2 : decide ((j : Int) < (n : Int)) = true := decide_eq_true (by omega)
      have d2' : decide (j < n) = true := decide_eq_true cj
      obtain ⟨x, hx⟩ : ∃ x, l[j]? = some x := ⟨_, List.getElem?_eq_getElem (by have := hgl.out; omega)⟩
      obtain ⟨A8, c8, hc8, hC8⟩ := HM.out.rest j x (Nat.le_refl _) hx
      have HX := Aside0.mk hx
      have HXL := Aside0.mk (HLL.out.2 x (List.mem_of_getElem? hx))
      have HC8 := Aside0.mk hc8
      obtain ⟨wr2, hwr⟩ : ∃ x, x = wr := ⟨_, rfl⟩
      subst hwr
      have HCC : Aside0 (Kd.C k116 wr2 A8 x.f4.length x.f4) := ⟨Kd.C_below hC8 HB4.out⟩
      have hcell : wr2.cell? ⟨gm, j * 6 + 4, none⟩ = some (.slice A8 x.f4.length c8) := (blk_cell HM.out.heap _).trans HC8.out
      have p1 := eq_true (show 0 ≤ (j : Int) by omega)
      have p2 := eq_true (show (j : Int) < (n : Int) by omega)
      have p3 := eq_true cj
      clear hx hc8 hC8
      go_wp2_with fail
      go_at_call 78
      refine (plan_Clone.cases A8 c8 x.f4 wr2 HCC.out HXL.out).mono ?_
      rintro e w7 ⟨v7, rfl, hr7, hb7⟩
      have hgm := blk_lt HM.out.heap
      have hgN := HM.out.gmN
      have HV7 := Aside0.mk (Kd.R_lower (Kd.R_mono (Kd.R_bound hr7) (ok' := fun k => N1 ≤ k ∧ k ≠ gm) (fun k hk => by have := hk.2.1; omega)) HB.out.size)
      obtain ⟨A9, c9, rfl⟩ := Kd.R_slice hr7
      have HM7 := Aside0.mk (HM.out.below hb7)
      have HO7 := Aside0.mk (Kd.R_below HO.out hb7)
      have HB7 := Aside0.mk (below_step HB.out hb7)
      have HB47 := Aside0.mk (below_step HB4.out hb7)
      have hcell7 : w7.cell? ⟨gm, j * 6 + 4, none⟩ = some (.slice A8 x.f4.length c8) := (blk_cell HM7.out.heap _).trans HC8.out
      have hfs7 := blk_frozen HM7.out.heap (j * 6 + 4)
      clear hr7 hb7 hgm hgN HM HO HB HB4 hcell HCC
      go_wp2_with fail
      go_roundg (n - (j + 1))
      case measure => have := HKj.out; omega
      case rel => exact ⟨j + 1, cs.setIfInBounds (j * 6 + 4) (.slice A9 x.f4.length c9), by go_num, by omega, ⟨rfl⟩, ⟨HM7.out.put cj HX.out HV7.out⟩, ⟨Kd.R_far HO7.out (fun k hk => by have := HM7.out.gmN; show k ≠ gm; omega) _⟩, ⟨below_set HB7.out (Nat.le_trans HM7.out.base HM7.out.gmN)⟩, ⟨below_set HB47.out (by have := HM7.out.gmN; have := HN1.out; omega)⟩⟩
     ·have d2 : decide ((j : Int) < (n : Int)) = false := decide_eq_false (by omega)
      have d2' : decide (j < n) = false := decide_eq_false cj
      obtain rfl : j = n := by omega
      have HV7 := Aside0.mk HM.out.done'
      obtain ⟨wr2, hwr⟩ : ∃ x, x = wr := ⟨_, rfl⟩
      subst hwr
      clear HM HB4
      go_wp2_with (first | ((with_reducible refine gate_builtin (b := .append) (xs := #[.tmp 32, .tmp 34]) rfl ?_); at_builtin; refine Kd.R_append (Kd.slice 39 k39) (w0 := w) w.heap.size rfl (.tmp 32) (.tmp 34) 45 111 (.slice none 0 0) 24 rfl Try.underlying45 info111 rfl (by decide) (by omega) u3 (l0.take i) l [.slice (some ⟨gm, 0, none⟩) j cap] (fun _ => True) (fun k => N1 ≤ k) rfl rfl ?aP ?aK ?aF ?aO ?aB ?aS ?aL ?_; (case aP => have hq := hgl.out; subst hq; exact Kd.M_row HV7.out); (case aK => exact fun k hk => ⟨trivial, fun e => by have := hOB.out k e.symm; omega⟩); (case aF => exact (fun _ _ => trivial)); (case aO => exact Kd.R_mono HO.out (fun _ _ => trivial)); (case aB => exact HB.out); (case aS => exact below_size HB.out); (case aL => have := HN.out; rw [List.length_take]; omega); intro v6 w6 ho hb hg hat; rw [← HTK.out] at ho; have HO6 := Aside0.mk ho; have HB6 := Aside0.mk hb; clear ho hb hg hat))
      go_roundg (l0.length - (i + 1))
      case measure => have := HK.out; omega
      case rel => exact ⟨i + 1, _, by go_num, rfl, by omega, ⟨rfl⟩, HO6, HB6⟩
  ·have d1 : decide ((i : Int) < (l0.length : Int)) = false := decide_eq_false (by omega)
   have d1' : decide (i < l0.length) = false := decide_eq_false ci
   obtain rfl : i = l0.length := by omega
   have HO2 := HO.out
   rw [List.take_length] at HO2
   have HO3 := Aside0.mk HO2
   clear HO2 HO
   go_wp2_with fail
   go_ret
   exact ⟨_, rfl, HO3.out, HB.out⟩

/-! ### handofflaw10_PlanBack: function 7 -/
def handofflaw10_PlanBack.j0 : Nat → List Int → List Int → Bool → Option (Bool)
  | 0, _, _, _ => none
  | k + 1, x0, x1, x20 => if x20 = true then (some true) else ((plan_Decode.f k x0).bind fun bt355 => ((plan_Encode.f k bt355.1).bind fun bt359 => ((some (([] : List Int) : List Int)).bind fun y363 => (if y363.length + bt359.1.length < 140737488355328 then ((some (y363 ++ bt359.1 : List Int)).bind fun y366 => (if y366.length + x1.length < 140737488355328 then ((plan_Decode.f k (y366 ++ x1)).bind fun bt372 => (if bt359.2 = 0 then ((plan_Right.f k bt355.1).bind fun t376 => (if t376 = true then ((handoffref10_Same.f k bt355.1 bt372.1).bind fun t377 => (if t377 = true then (if bt372.2 = (bt359.1.length : Int) then (if bt355.2 ≤ (x0.length : Int) then (if bt355.2 = (x0.length : Int) then ((plan_Clone.f bt355.1).bind fun t378 => ((handoffref10_Same.f k t378 bt355.1).bind fun t381 => (some t381))) else (if bt355.2 = (bt359.1.length : Int) then ((plan_Clone.f bt355.1).bind fun t382 => ((handoffref10_Same.f k t382 bt355.1).bind fun t385 => (some t385))) else (some false))) else (some false)) else (some false)) else (some false))) else (some false))) else (some false))) else (none))) else (none)))))
def handofflaw10_PlanBack.f (k : Nat) (l0 : List Int) (l1 : List Int) : Option (Bool) := (handofflaw10_planAlive.f k).bind fun t354 => (if t354 = true then (if (l0.length : Int) > 2000 then (handofflaw10_PlanBack.j0 k l0 l1 true) else (handofflaw10_PlanBack.j0 k l0 l1 (decide ((l1.length : Int) > 100)))) else (some false))
theorem handofflaw10_PlanBack.mono_l : ∀ k, (∀ y0 y1 y2, LeO (handofflaw10_PlanBack.j0 k y0 y1 y2) (handofflaw10_PlanBack.j0 (k + 1) y0 y1 y2))
 | 0 => fun _ _ _ r h => by simp [handofflaw10_PlanBack.j0] at h
 | k + 1 => by
  have ih0 := handofflaw10_PlanBack.mono_l k
  all_goals intros
  all_goals first | unfold handofflaw10_PlanBack.j0
  all_goals (repeat' first | with_reducible first | apply ih0 | exact handofflaw10_planAlive.mono _ | exact handoffref10_Same.mono _ _ _ | exact plan_Decode.mono _ _ | exact plan_Encode.mono _ _ | exact plan_Right.mono _ _ | exact LeO.refl _ | exact LeO.none _ | refine LeO.ite ?_ ?_ | refine LeO.bind ?_ (fun _ => ?_) | apply ih0 | exact handofflaw10_planAlive.mono _ | exact handoffref10_Same.mono _ _ _ | exact plan_Decode.mono _ _ | exact plan_Encode.mono _ _ | exact plan_Right.mono _ _ | exact LeO.none _ | refine LeO.ite ?_ ?_ | refine LeO.bind ?_ (fun _ => ?_))
theorem handofflaw10_PlanBack.mono : ∀ a0 a1 k, LeO (handofflaw10_PlanBack.f k a0 a1) (handofflaw10_PlanBack.f (k + 1) a0 a1) := by
 intro a0 a1 k
 have ih0 := handofflaw10_PlanBack.mono_l k
 unfold handofflaw10_PlanBack.f
 repeat' first | with_reducible first | apply ih0 | exact handofflaw10_planAlive.mono _ | exact handoffref10_Same.mono _ _ _ | exact plan_Decode.mono _ _ | exact plan_Encode.mono _ _ | exact plan_Right.mono _ _ | exact LeO.refl _ | exact LeO.none _ | refine LeO.ite ?_ ?_ | refine LeO.bind ?_ (fun _ => ?_) | apply ih0 | exact handofflaw10_planAlive.mono _ | exact handoffref10_Same.mono _ _ _ | exact plan_Decode.mono _ _ | exact plan_Encode.mono _ _ | exact plan_Right.mono _ _ | exact LeO.none _ | refine LeO.ite ?_ ?_ | refine LeO.bind ?_ (fun _ => ?_)
set_option maxHeartbeats 8000000 in
set_option maxRecDepth 100000 in
theorem handofflaw10_PlanBack.calls (k : Nat) (A0 : Option Addr) (c0 : Nat) (l0 : List Int) (A1 : Option Addr) (c1 : Nat) (l1 : List Int) (r : Bool) (w : World) (hr0 : Kd.C (Kd.int .u8) w A0 l0.length l0) (hc0 : l0.length ≤ c0) (hr1 : Kd.C (Kd.int .u8) w A1 l1.length l1) (hc1 : l1.length ≤ c1) (h : handofflaw10_PlanBack.f k l0 l1 = some r) :
  Calls Try.prog 7 #[.slice A0 l0.length c0, .slice A1 l1.length c1] w fun e w' => e = .returned (.bool r) ∧ Below w.heap.size w w' := by
 have HR0 := Aside0.mk hr0
 have HC0 := Aside0.mk hc0
 clear hr0 hc0
 have HR1 := Aside0.mk hr1
 have HC1 := Aside0.mk hc1
 clear hr1 hc1
 have HB := Aside0.mk (Below.refl w.heap.size w)
 have H : ((handofflaw10_planAlive.f k).bind fun t354 => (if t354 = true then (if (l0.length : Int) > 2000 then (handofflaw10_PlanBack.j0 k l0 l1 true) else (handofflaw10_PlanBack.j0 k l0 l1 (decide ((l1.length : Int) > 100)))) else (some false))) = some r := h
 clear h
 replace H := Option.bind_eq_some_iff.mp H
 obtain ⟨t354, A30, H⟩ := H
 try dsimp only at H
 have A3 := Aside0.mk A30
 clear A30
 by_cases c4 : t354 = true
 ·subst c4
  have H1 : (if (l0.length : Int) > 2000 then (handofflaw10_PlanBack.j0 k l0 l1 true) else (handofflaw10_PlanBack.j0 k l0 l1 (decide ((l1.length : Int) > 100)))) = some r := by rw [if_pos rfl] at H; exact H
  clear H
  have H := H1
  clear H1
  have HC5 := Aside0.mk H
  clear H
  go_enter Try.func7, Try.ntmps7
  go_upto_region 3 with (first | ((with_reducible refine gate_callee (f := 20) rfl ?_); refine goesL_ (some 11) rfl rfl Try.func20 (by kernel_rfl) rfl #[] rfl (by (try simp only [List.map_toArray, List.map_cons, List.map_nil]); first | done | rfl | simp) ?_; (with_reducible refine (handofflaw10_planAlive.calls k  true _ A3.out).mono ?_); rintro e w6 ⟨rfl, hb⟩; refine ⟨_, rfl, ?_⟩; have n0_ := Aside0.mk (below_step (below_w HB.out) hb); clear HB; have HB := n0_; clear n0_; (try clear hb); (try clear hb2); (try clear hk); (try clear hi)))
  (try simp only [Act.put, List.setIfInBounds_toArray, List.set_cons_zero, List.set_cons_succ])
  go_cut [20] (fun v20 wc => ∃ (kq : Nat) (x20_4 : Bool), v20 = .bool x20_4 ∧ Aside0 (handofflaw10_PlanBack.j0 kq l0 l1 x20_4 = some r) ∧ Aside0 (kq ≤ k) ∧ Aside0 (Below w.heap.size w wc))
  case first =>
   have H := HC5.out
   clear HC5
   by_cases c7 : (l0.length : Int) > 2000
   ·rw [if_pos c7] at H
    have c7b0 : decide (2000 < (l0.length : Int)) = true := decide_eq_true c7
    have c7b1 : decide (2000 < l0.length) = true := decide_eq_true (by omega)
    clear c7
    (first | rw [c7b0] | (simp only [i64_w, i32_w]; rw [c7b0]) | skip)
    have H' := Aside0.mk H
    clear H
    go_wp2
    go_meet
    case rel => exact ⟨_, (true), (by first | rfl | (simp; done) | (simp [*]; done)), H', ⟨by first | omega | exact Nat.le_refl _⟩, ⟨below_w HB.out⟩⟩
   ·rw [if_neg c7] at H
    have c7b0 : decide (2000 < (l0.length : Int)) = false := decide_eq_false c7
    have c7b1 : decide (2000 < l0.length) = false := decide_eq_false (by omega)
    clear c7
    (first | rw [c7b0] | (simp only [i64_w, i32_w]; rw [c7b0]) | skip)
    have H' := Aside0.mk H
    clear H
    go_wp2
    go_meet
    case rel => exact ⟨_, (decide ((l1.length : Int) > 100)), (by first | rfl | (simp; done) | (simp [*]; done)), H', ⟨by first | omega | exact Nat.le_refl _⟩, ⟨below_w HB.out⟩⟩
  case rest =>
   clear HC5
   (try clear c1); (try clear c4)
   obtain ⟨kq, x20_4, rfl, HA, HJ4, HB⟩ := hcut
   cases kq with
   | zero => exact absurd HA.out (by simp [handofflaw10_PlanBack.j0])
   | succ kj4 =>
    have H := HA.out
    clear HA
    simp only [handofflaw10_PlanBack.j0] at H
    by_cases c8 : x20_4 = true
    ·subst c8
     have H1 : (some true) = some r := by rw [if_pos rfl] at H; exact H
     clear H
     have H := H1
     clear H1
     obtain rfl := Option.some.inj H
     go_wp2
     go_ret
     exact ⟨by first | rfl | (simp [errW_none, errW_some] <;> rfl) | (simp [*, errW_none, errW_some] <;> rfl), by exact below_w HB.out⟩
    ·replace c8 := Bool.eq_false_iff.mpr c8
     subst c8
     have H1 : ((plan_Decode.f kj4 l0).bind fun bt355 => ((plan_Encode.f kj4 bt355.1).bind fun bt359 => ((some (([] : List Int) : List Int)).bind fun y363 => (if y363.length + bt359.1.length < 140737488355328 then ((some (y363 ++ bt359.1 : List Int)).bind fun y366 => (if y366.length + l1.length < 140737488355328 then ((plan_Decode.f kj4 (y366 ++ l1)).bind fun bt372 => (if bt359.2 = 0 then ((plan_Right.f kj4 bt355.1).bind fun t376 => (if t376 = true then ((handoffref10_Same.f kj4 bt355.1 bt372.1).bind fun t377 => (if t377 = true then (if bt372.2 = (bt359.1.length : Int) then (if bt355.2 ≤ (l0.length : Int) then (if bt355.2 = (l0.length : Int) then ((plan_Clone.f bt355.1).bind fun t378 => ((handoffref10_Same.f kj4 t378 bt355.1).bind fun t381 => (some t381))) else (if bt355.2 = (bt359.1.length : Int) then ((plan_Clone.f bt355.1).bind fun t382 => ((handoffref10_Same.f kj4 t382 bt355.1).bind fun t385 => (some t385))) else (some false))) else (some false)) else (some false)) else (some false))) else (some false))) else (some false))) else (none))) else (none))))) = some r := by rw [if_neg (show ¬ (false = true) by decide)] at H; exact H
     clear H
     have H := H1
     clear H1
     replace H := Option.bind_eq_some_iff.mp H
     obtain ⟨⟨t355, t356⟩, A90, H⟩ := H
     try dsimp only at H
     have A9 := Aside0.mk A90
     clear A90
     replace H := Option.bind_eq_some_iff.mp H
     obtain ⟨⟨t359, t360⟩, A100, H⟩ := H
     try dsimp only at H
     have A10 := Aside0.mk A100
     clear A100
     obtain ⟨y363, hy363⟩ : ∃ y_ : List Int, y_ = (([] : List Int)) := ⟨_, rfl⟩
     replace H : (if y363.length + t359.length < 140737488355328 then ((some (y363 ++ t359 : List Int)).bind fun y366 => (if y366.length + l1.length < 140737488355328 then ((plan_Decode.f kj4 (y366 ++ l1)).bind fun bt372 => (if t360 = 0 then ((plan_Right.f kj4 t355).bind fun t376 => (if t376 = true then ((handoffref10_Same.f kj4 t355 bt372.1).bind fun t377 => (if t377 = true then (if bt372.2 = (t359.length : Int) then (if t356 ≤ (l0.length : Int) then (if t356 = (l0.length : Int) then ((plan_Clone.f t355).bind fun t378 => ((handoffref10_Same.f kj4 t378 t355).bind fun t381 => (some t381))) else (if t356 = (t359.length : Int) then ((plan_Clone.f t355).bind fun t382 => ((handoffref10_Same.f kj4 t382 t355).bind fun t385 => (some t385))) else (some false))) else (some false)) else (some false)) else (some false))) else (some false))) else (some false))) else (none))) else (none)) = some r := by first | (rw [hy363]; with_reducible exact H) | (have H2_ := (Option.bind_some _ _).symm.trans H; rw [hy363]; with_reducible exact H2_) | (have H2_ := (Option.bind_some _ _).symm.trans H; with_reducible exact H2_) | with_reducible exact H | (rw [hy363]; exact H) | exact H
     have Ny363 := Aside0.mk hy363
     clear hy363
     by_cases c11 : y363.length + t359.length < 140737488355328
     ·rw [if_pos c11] at H
      have LMc11 := Aside0.mk c11
      clear c11
      obtain ⟨y366, hy366⟩ : ∃ y_ : List Int, y_ = (y363 ++ t359) := ⟨_, rfl⟩
      replace H : (if y366.length + l1.length < 140737488355328 then ((plan_Decode.f kj4 (y366 ++ l1)).bind fun bt372 => (if t360 = 0 then ((plan_Right.f kj4 t355).bind fun t376 => (if t376 = true then ((handoffref10_Same.f kj4 t355 bt372.1).bind fun t377 => (if t377 = true then (if bt372.2 = (t359.length : Int) then (if t356 ≤ (l0.length : Int) then (if t356 = (l0.length : Int) then ((plan_Clone.f t355).bind fun t378 => ((handoffref10_Same.f kj4 t378 t355).bind fun t381 => (some t381))) else (if t356 = (t359.length : Int) then ((plan_Clone.f t355).bind fun t382 => ((handoffref10_Same.f kj4 t382 t355).bind fun t385 => (some t385))) else (some false))) else (some false)) else (some false)) else (some false))) else (some false))) else (some false))) else (none)) = some r := by first | (rw [hy366]; with_reducible exact H) | (have H2_ := (Option.bind_some _ _).symm.trans H; rw [hy366]; with_reducible exact H2_) | (have H2_ := (Option.bind_some _ _).symm.trans H; with_reducible exact H2_) | with_reducible exact H | (rw [hy366]; exact H) | exact H
      have Ny366 := Aside0.mk hy366
      clear hy366
      by_cases c12 : y366.length + l1.length < 140737488355328
      ·rw [if_pos c12] at H
       have LMc12 := Aside0.mk c12
       clear c12
       obtain ⟨y369, hy369⟩ : ∃ y_ : List Int, y_ = (y366 ++ l1) := ⟨_, rfl⟩
       replace H : ((plan_Decode.f kj4 y369).bind fun bt372 => (if t360 = 0 then ((plan_Right.f kj4 t355).bind fun t376 => (if t376 = true then ((handoffref10_Same.f kj4 t355 bt372.1).bind fun t377 => (if t377 = true then (if bt372.2 = (t359.length : Int) then (if t356 ≤ (l0.length : Int) then (if t356 = (l0.length : Int) then ((plan_Clone.f t355).bind fun t378 => ((handoffref10_Same.f kj4 t378 t355).bind fun t381 => (some t381))) else (if t356 = (t359.length : Int) then ((plan_Clone.f t355).bind fun t382 => ((handoffref10_Same.f kj4 t382 t355).bind fun t385 => (some t385))) else (some false))) else (some false)) else (some false)) else (some false))) else (some false))) else (some false))) = some r := by first | (rw [hy369]; with_reducible exact H) | (have H2_ := (Option.bind_some _ _).symm.trans H; rw [hy369]; with_reducible exact H2_) | (have H2_ := (Option.bind_some _ _).symm.trans H; with_reducible exact H2_) | with_reducible exact H | (rw [hy369]; exact H) | exact H
       have Ny369 := Aside0.mk hy369
       clear hy369
       replace H := Option.bind_eq_some_iff.mp H
       obtain ⟨⟨t372, t373⟩, A130, H⟩ := H
       try dsimp only at H
       have A13 := Aside0.mk A130
       clear A130
       by_cases c14 : t360 = 0
       ·rw [if_pos c14] at H
        have c14b0 : (t360 == 0) = true := beq_iff_eq.mpr c14
        have c14b1 : (t360 != 0) = false := bne_eq_false_iff_eq.mpr c14
        clear c14
        replace H := Option.bind_eq_some_iff.mp H
        obtain ⟨t376, A150, H⟩ := H
        try dsimp only at H
        have A15 := Aside0.mk A150
        clear A150
        by_cases c16 : t376 = true
        ·subst c16
         have H1 : ((handoffref10_Same.f kj4 t355 t372).bind fun t377 => (if t377 = true then (if t373 = (t359.length : Int) then (if t356 ≤ (l0.length : Int) then (if t356 = (l0.length : Int) then ((plan_Clone.f t355).bind fun t378 => ((handoffref10_Same.f kj4 t378 t355).bind fun t381 => (some t381))) else (if t356 = (t359.length : Int) then ((plan_Clone.f t355).bind fun t382 => ((handoffref10_Same.f kj4 t382 t355).bind fun t385 => (some t385))) else (some false))) else (some false)) else (some false)) else (some false))) = some r := by rw [if_pos rfl] at H; exact H
         clear H
         have H := H1
         clear H1
         replace H := Option.bind_eq_some_iff.mp H
         obtain ⟨t377, A170, H⟩ := H
         try dsimp only at H
         have A17 := Aside0.mk A170
         clear A170
         by_cases c18 : t377 = true
         ·subst c18
          have H1 : (if t373 = (t359.length : Int) then (if t356 ≤ (l0.length : Int) then (if t356 = (l0.length : Int) then ((plan_Clone.f t355).bind fun t378 => ((handoffref10_Same.f kj4 t378 t355).bind fun t381 => (some t381))) else (if t356 = (t359.length : Int) then ((plan_Clone.f t355).bind fun t382 => ((handoffref10_Same.f kj4 t382 t355).bind fun t385 => (some t385))) else (some false))) else (some false)) else (some false)) = some r := by rw [if_pos rfl] at H; exact H
          clear H
          have H := H1
          clear H1
          by_cases c19 : t373 = (t359.length : Int)
          ·rw [if_pos c19] at H
           have c19b0 : (t373 == (t359.length : Int)) = true := beq_iff_eq.mpr c19
           have c19b1 : (t373 != (t359.length : Int)) = false := bne_eq_false_iff_eq.mpr c19
           clear c19
           by_cases c20 : t356 ≤ (l0.length : Int)
           ·rw [if_pos c20] at H
            have c20b0 : decide (t356 ≤ (l0.length : Int)) = true := decide_eq_true c20
            clear c20
            by_cases c21 : t356 = (l0.length : Int)
            ·rw [if_pos c21] at H
             have c21b0 : (t356 == (l0.length : Int)) = true := beq_iff_eq.mpr c21
             have c21b1 : (t356 != (l0.length : Int)) = false := bne_eq_false_iff_eq.mpr c21
             clear c21
             replace H := Option.bind_eq_some_iff.mp H
             obtain ⟨t378, A220, H⟩ := H
             try dsimp only at H
             have A22 := Aside0.mk A220
             clear A220
             replace H := Option.bind_eq_some_iff.mp H
             obtain ⟨t381, A230, H⟩ := H
             try dsimp only at H
             have A23 := Aside0.mk A230
             clear A230
             obtain rfl := Option.some.inj H
             go_wp2_with (first | ((with_reducible refine gate_callee (f := 28) rfl ?_); refine goesL_ (some 23) rfl rfl Try.func28 (by kernel_rfl) rfl #[.slice A0 l0.length c0] rfl (by (try simp only [List.map_toArray, List.map_cons, List.map_nil]); first | done | rfl | simp) ?_; (with_reducible refine (plan_Decode.calls kj4 _ _ l0 t355 t356 _ ?side1 ?side2 A9.out).mono ?_); (case side1 => exact Kd.C_w (Kd.C_below HR0.out HB.out)); (case side2 => exact HC0.out); rintro e w24 ⟨v357, rfl, ho0, hb⟩; refine ⟨_, rfl, ?_⟩; have n0_ := Aside0.mk (Kd.R_lower ho0 (below_size (below_w HB.out))); have n1_ := Aside0.mk (below_step (below_w HB.out) hb); clear HB; have HO358 := n0_; have HB := n1_; clear n0_ n1_; (try clear hb); (try clear hb2); (try clear hk); (try clear hi); (try clear ho0); obtain ⟨Ao25, co25, eo25⟩ := Kd.R_slice HO358.out; subst eo25) | ((with_reducible refine gate_callee (f := 25) rfl ?_); refine goesL_ (some 28) rfl rfl Try.func25 (by kernel_rfl) rfl #[.slice Ao25 t355.length co25] rfl (by (try simp only [List.map_toArray, List.map_cons, List.map_nil]); first | done | rfl | simp) ?_; (with_reducible refine (plan_Encode.calls kj4 _ _ t355 t359 t360 _ ?side1 ?side2 A10.out).mono ?_); (case side1 => exact Kd.C_w (Kd.R_reads' HO358.out).2.2); (case side2 => exact (Kd.R_reads' HO358.out).2.1); rintro e w26 ⟨v361, rfl, ho0, hb⟩; refine ⟨_, rfl, ?_⟩; have n0_ := Aside0.mk (Kd.R_below (by exact Kd.R_w HO358.out) hb); have n1_ := Aside0.mk (Kd.R_lower ho0 (below_size (below_w HB.out))); have n2_ := Aside0.mk (below_step (below_w HB.out) hb); clear HO358; clear HB; have HO358 := n0_; have HO362 := n1_; have HB := n2_; clear n0_ n1_ n2_; (try clear hb); (try clear hb2); (try clear hk); (try clear hi); (try clear ho0)) | ((with_reducible refine gate_dst (N := 32) rfl ?_); (try (refine gate_guard (by rfl) ?_; dsimp only)); refine Kd.R_lit (Kd.int .u8) _ 5 ?hg (N := 32) ?hd (xs := ([] : List Int)) (inner := []) (ok := fun _ => True) (okp := fun _ => True) ?hr ?hp (fun _ hk => hk) trivial (Below.refl _ _) (Nat.le_refl _) (by simp) ?_; (case hd => rfl); (case hg => rfl); (case hr => first | (go_simp; done) | (go_simp; rfl)); (case hp => exact (Reps.none _ _)); intro v364 w27 ho28 hb hg_ hnew_; clear hg_ hnew_; (first | rw [← Ny363.out] at ho28 | (simp only [Int.reduceToNat] at ho28; rw [← Ny363.out] at ho28)); have n0_ := Aside0.mk (Kd.R_below (by exact Kd.R_w HO358.out) hb); have n1_ := Aside0.mk (Kd.R_elder' (by exact Kd.R_w HO362.out) (Kd.R_base ho28) hb); have n2_ := Aside0.mk (Kd.R_lower (Kd.R_new' ho28 (Kd.R_lt (by exact Kd.R_w HO362.out))) (below_size (below_w HB.out))); have n3_ := Aside0.mk (below_step (below_w HB.out) hb); clear HO358; clear HO362; clear HB; have HO358 := n0_; have HO362 := n1_; have HO365 := n2_; have HB := n3_; clear n0_ n1_ n2_ n3_; clear hb ho28; obtain ⟨Ao30, co30, eo30⟩ := Kd.R_slice HO362.out; subst eo30) | ((with_reducible refine gate_builtin (b := .append) (xs := #[.tmp 32, .tmp 33]) rfl ?_); (try (refine gate_guard (by rfl) ?_; dsimp only)); at_builtin; refine Kd.R_append_rows (Kd.int .u8) (w0 := w) w.heap.size rfl (.tmp 32) (.tmp 33) 42 5 (.int .u8 0) 1 rfl Try.underlying42 info5 rfl (by decide) (by omega) v364 y363 t359 _ _ _ (fun k_ => some k_ ≠ (.slice Ao30 t359.length co30 : Value).ownBlock) (fun _ => False) rfl rfl ?aO ?aR (fun _ _ h => h) (fun _ h => h.elim) ?aF ?aB ?aS ?aL ?_; (case aR => exact Kd.C_w (Kd.R_reads' HO362.out).2.2); (case aB => exact (below_w HB.out)); (case aF => exact (fun k_ hk => Kd.fresh' (Kd.R_lt (by exact Kd.R_w HO362.out)) k_ hk)); (case aO => exact (by apply Kd.R_w; exact Kd.R_mono HO365.out (fun _ hk => hk.2))); (case aS => exact (below_size (below_w HB.out))); (case aL => have := LMc11.out; omega); intro v367 w29 ho hb hg hat; rw [← Ny366.out] at ho; have n0_ := Aside0.mk (Kd.R_over' (by exact Kd.R_w HO358.out) (Kd.R_typed (by exact Kd.R_w HO365.out)) (by decide) hg); have n1_ := Aside0.mk (Kd.R_after (ok := (fun _ => True)) (by exact Kd.R_w HO362.out) hg hat); have n2_ := Aside0.mk (hb); have n3_ := Aside0.mk (ho); clear HO358; clear HO362; clear HB; clear HO365; have HO358 := n0_; have HO362 := n1_; have HB := n2_; have HO368 := n3_; clear n0_ n1_ n2_ n3_; clear ho hb hg hat) | ((with_reducible refine gate_builtin (b := .append) (xs := #[.tmp 34, .tmp 35]) rfl ?_); (try (refine gate_guard (by rfl) ?_; dsimp only)); at_builtin; refine Kd.R_append_rows (Kd.int .u8) (w0 := w) w.heap.size rfl (.tmp 34) (.tmp 35) 42 5 (.int .u8 0) 1 rfl Try.underlying42 info5 rfl (by decide) (by omega) v367 y366 l1 _ _ _ (fun k_ => some k_ ≠ (.slice Ao30 t359.length co30 : Value).ownBlock) (fun _ => False) rfl rfl ?aO ?aR (fun _ _ h => h) (fun _ h => h.elim) ?aF ?aB ?aS ?aL ?_; (case aR => exact Kd.C_w (Kd.C_below HR1.out HB.out)); (case aB => exact (below_w HB.out)); (case aF => exact (fun k_ hk => Kd.fresh' (Kd.R_lt (by exact Kd.R_w HO362.out)) k_ hk)); (case aO => exact (by exact Kd.R_w HO368.out)); (case aS => exact (below_size (below_w HB.out))); (case aL => have := LMc12.out; omega); intro v370 w31 ho hb hg hat; rw [← Ny369.out] at ho; have n0_ := Aside0.mk (Kd.R_over' (by exact Kd.R_w HO358.out) (Kd.R_typed (by exact Kd.R_w HO368.out)) (by decide) hg); have n1_ := Aside0.mk (Kd.R_after (ok := (fun _ => True)) (by exact Kd.R_w HO362.out) hg hat); have n2_ := Aside0.mk (hb); have n3_ := Aside0.mk (ho); clear HO358; clear HO362; clear HB; clear HO368; have HO358 := n0_; have HO362 := n1_; have HB := n2_; have HO371 := n3_; clear n0_ n1_ n2_ n3_; clear ho hb hg hat; obtain ⟨Ao32, co32, eo32⟩ := Kd.R_slice HO371.out; subst eo32) | ((with_reducible refine gate_callee (f := 28) rfl ?_); refine goesL_ (some 37) rfl rfl Try.func28 (by kernel_rfl) rfl #[.slice Ao32 y369.length co32] rfl (by (try simp only [List.map_toArray, List.map_cons, List.map_nil]); first | done | rfl | simp) ?_; (with_reducible refine (plan_Decode.calls kj4 _ _ y369 t372 t373 _ ?side1 ?side2 A13.out).mono ?_); (case side1 => exact Kd.C_w (Kd.R_reads' HO371.out).2.2); (case side2 => exact (Kd.R_reads' HO371.out).2.1); rintro e w33 ⟨v374, rfl, ho0, hb⟩; refine ⟨_, rfl, ?_⟩; have n0_ := Aside0.mk (Kd.R_elder' (by exact Kd.R_w HO358.out) (Kd.R_base ho0) hb); have n1_ := Aside0.mk (Kd.R_below (by exact Kd.R_w HO362.out) hb); have n2_ := Aside0.mk (Kd.R_below (by exact Kd.R_w HO371.out) hb); have n3_ := Aside0.mk (Kd.R_lower (Kd.R_new' ho0 (Kd.R_lt (by exact Kd.R_w HO358.out))) (below_size (below_w HB.out))); have n4_ := Aside0.mk (below_step (below_w HB.out) hb); clear HO358; clear HO362; clear HO371; clear HB; have HO358 := n0_; have HO362 := n1_; have HO371 := n2_; have HO375 := n3_; have HB := n4_; clear n0_ n1_ n2_ n3_ n4_; (try clear hb); (try clear hb2); (try clear hk); (try clear hi); (try clear ho0)) | (go_at_call 30; (with_reducible refine (plan_Right.calls kj4 _ _ t355 true _ ?side1 ?side2 A15.out).mono ?_); (case side1 => exact Kd.C_w (Kd.R_reads' HO358.out).2.2); (case side2 => exact (Kd.R_reads' HO358.out).2.1); rintro e w34 ⟨rfl, hb⟩; have n0_ := Aside0.mk (Kd.R_below (by exact Kd.R_w HO358.out) hb); have n1_ := Aside0.mk (Kd.R_below (by exact Kd.R_w HO362.out) hb); have n2_ := Aside0.mk (Kd.R_below (by exact Kd.R_w HO371.out) hb); have n3_ := Aside0.mk (Kd.R_below (by exact Kd.R_w HO375.out) hb); have n4_ := Aside0.mk (below_step (below_w HB.out) hb); clear HO358; clear HO362; clear HO371; clear HO375; clear HB; have HO358 := n0_; have HO362 := n1_; have HO371 := n2_; have HO375 := n3_; have HB := n4_; clear n0_ n1_ n2_ n3_ n4_; (try clear hb); (try clear hb2); (try clear hk); (try clear hi); obtain ⟨Ao35, co35, eo35⟩ := Kd.R_slice HO375.out; subst eo35) | (go_at_call 32; (with_reducible refine (handoffref10_Same.calls kj4 _ _ t355 _ _ t372 true _ ?side1 ?side2 ?side3 ?side4 A17.out).mono ?_); (case side1 => exact Kd.C_w (Kd.R_reads' HO358.out).2.2); (case side2 => exact (Kd.R_reads' HO358.out).2.1); (case side3 => exact Kd.C_w (Kd.R_reads' HO375.out).2.2); (case side4 => exact (Kd.R_reads' HO375.out).2.1); rintro e w36 ⟨rfl, hb⟩; have n0_ := Aside0.mk (Kd.R_below (by exact Kd.R_w HO358.out) hb); have n1_ := Aside0.mk (Kd.R_below (by exact Kd.R_w HO362.out) hb); have n2_ := Aside0.mk (Kd.R_below (by exact Kd.R_w HO371.out) hb); have n3_ := Aside0.mk (Kd.R_below (by exact Kd.R_w HO375.out) hb); have n4_ := Aside0.mk (below_step (below_w HB.out) hb); clear HO358; clear HO362; clear HO371; clear HO375; clear HB; have HO358 := n0_; have HO362 := n1_; have HO371 := n2_; have HO375 := n3_; have HB := n4_; clear n0_ n1_ n2_ n3_ n4_; (try clear hb); (try clear hb2); (try clear hk); (try clear hi)) | (go_at_call 33; (with_reducible refine (plan_Clone.calls _ _ t355 t378 _ ?side1 ?side2 A22.out).mono ?_); (case side1 => exact Kd.C_w (Kd.R_reads' HO358.out).2.2); (case side2 => exact (Kd.R_reads' HO358.out).2.1); rintro e w37 ⟨v379, rfl, ho0, hb⟩; have n0_ := Aside0.mk (Kd.R_elder' (by exact Kd.R_w HO358.out) (Kd.R_base ho0) hb); have n1_ := Aside0.mk (Kd.R_below (by exact Kd.R_w HO362.out) hb); have n2_ := Aside0.mk (Kd.R_below (by exact Kd.R_w HO371.out) hb); have n3_ := Aside0.mk (Kd.R_elder' (by exact Kd.R_w HO375.out) (Kd.R_base ho0) hb); have n4_ := Aside0.mk (Kd.R_lower (Kd.R_new' (Kd.R_new' ho0 (Kd.R_lt (by exact Kd.R_w HO358.out))) (Kd.R_lt (by exact Kd.R_w HO375.out))) (below_size (below_w HB.out))); have n5_ := Aside0.mk (below_step (below_w HB.out) hb); clear HO358; clear HO362; clear HO371; clear HO375; clear HB; have HO358 := n0_; have HO362 := n1_; have HO371 := n2_; have HO375 := n3_; have HO380 := n4_; have HB := n5_; clear n0_ n1_ n2_ n3_ n4_ n5_; (try clear hb); (try clear hb2); (try clear hk); (try clear hi); (try clear ho0); obtain ⟨Ao38, co38, eo38⟩ := Kd.R_slice HO380.out; subst eo38) | (go_at_call 32; (with_reducible refine (handoffref10_Same.calls kj4 _ _ t378 _ _ t355 t381 _ ?side1 ?side2 ?side3 ?side4 A23.out).mono ?_); (case side1 => exact Kd.C_w (Kd.R_reads' HO380.out).2.2); (case side2 => exact (Kd.R_reads' HO380.out).2.1); (case side3 => exact Kd.C_w (Kd.R_reads' HO358.out).2.2); (case side4 => exact (Kd.R_reads' HO358.out).2.1); rintro e w39 ⟨rfl, hb⟩; have n0_ := Aside0.mk (Kd.R_below (by exact Kd.R_w HO358.out) hb); have n1_ := Aside0.mk (Kd.R_below (by exact Kd.R_w HO362.out) hb); have n2_ := Aside0.mk (Kd.R_below (by exact Kd.R_w HO371.out) hb); have n3_ := Aside0.mk (Kd.R_below (by exact Kd.R_w HO375.out) hb); have n4_ := Aside0.mk (Kd.R_below (by exact Kd.R_w HO380.out) hb); have n5_ := Aside0.mk (below_step (below_w HB.out) hb); clear HO358; clear HO362; clear HO371; clear HO375; clear HO380; clear HB; have HO358 := n0_; have HO362 := n1_; have HO371 := n2_; have HO375 := n3_; have HO380 := n4_; have HB := n5_; clear n0_ n1_ n2_ n3_ n4_ n5_; (try clear hb); (try clear hb2); (try clear hk); (try clear hi)))
             go_ret
             exact ⟨by first | rfl | (simp [errW_none, errW_some] <;> rfl) | (simp [*, errW_none, errW_some] <;> rfl), by exact below_w HB.out⟩
            ·rw [if_neg c21] at H
             have c21b0 : (t356 == (l0.length : Int)) = false := beq_eq_false_iff_ne.mpr c21
             have c21b1 : (t356 != (l0.length : Int)) = true := bne_iff_ne.mpr c21
             by_cases c40 : t356 = (t359.length : Int)
             ·rw [if_pos c40] at H
              have c40b0 : (t356 == (t359.length : Int)) = true := beq_iff_eq.mpr c40
              have c40b1 : (t356 != (t359.length : Int)) = false := bne_eq_false_iff_eq.mpr c40
              clear c40
              replace H := Option.bind_eq_some_iff.mp H
              obtain ⟨t382, A410, H⟩ := H
              try dsimp only at H
              have A41 := Aside0.mk A410
              clear A410
              replace H := Option.bind_eq_some_iff.mp H
              obtain ⟨t385, A420, H⟩ := H
              try dsimp only at H
              have A42 := Aside0.mk A420
              clear A420
              obtain rfl := Option.some.inj H
              go_wp2_with (first | ((with_reducible refine gate_callee (f := 28) rfl ?_); refine goesL_ (some 23) rfl rfl Try.func28 (by kernel_rfl) rfl #[.slice A0 l0.length c0] rfl (by (try simp only [List.map_toArray, List.map_cons, List.map_nil]); first | done | rfl | simp) ?_; (with_reducible refine (plan_Decode.calls kj4 _ _ l0 t355 t356 _ ?side1 ?side2 A9.out).mono ?_); (case side1 => exact Kd.C_w (Kd.C_below HR0.out HB.out)); (case side2 => exact HC0.out); rintro e w43 ⟨v357, rfl, ho0, hb⟩; refine ⟨_, rfl, ?_⟩; have n0_ := Aside0.mk (Kd.R_lower ho0 (below_size (below_w HB.out))); have n1_ := Aside0.mk (below_step (below_w HB.out) hb); clear HB; have HO358 := n0_; have HB := n1_; clear n0_ n1_; (try clear hb); (try clear hb2); (try clear hk); (try clear hi); (try clear ho0); obtain ⟨Ao44, co44, eo44⟩ := Kd.R_slice HO358.out; subst eo44) | ((with_reducible refine gate_callee (f := 25) rfl ?_); refine goesL_ (some 28) rfl rfl Try.func25 (by kernel_rfl) rfl #[.slice Ao44 t355.length co44] rfl (by (try simp only [List.map_toArray, List.map_cons, List.map_nil]); first | done | rfl | simp) ?_; (with_reducible refine (plan_Encode.calls kj4 _ _ t355 t359 t360 _ ?side1 ?side2 A10.out).mono ?_); (case side1 => exact Kd.C_w (Kd.R_reads' HO358.out).2.2); (case side2 => exact (Kd.R_reads' HO358.out).2.1); rintro e w45 ⟨v361, rfl, ho0, hb⟩; refine ⟨_, rfl, ?_⟩; have n0_ := Aside0.mk (Kd.R_below (by exact Kd.R_w HO358.out) hb); have n1_ := Aside0.mk (Kd.R_lower ho0 (below_size (below_w HB.out))); have n2_ := Aside0.mk (below_step (below_w HB.out) hb); clear HO358; clear HB; have HO358 := n0_; have HO362 := n1_; have HB := n2_; clear n0_ n1_ n2_; (try clear hb); (try clear hb2); (try clear hk); (try clear hi); (try clear ho0)) | ((with_reducible refine gate_dst (N := 32) rfl ?_); (try (refine gate_guard (by rfl) ?_; dsimp only)); refine Kd.R_lit (Kd.int .u8) _ 5 ?hg (N := 32) ?hd (xs := ([] : List Int)) (inner := []) (ok := fun _ => True) (okp := fun _ => True) ?hr ?hp (fun _ hk => hk) trivial (Below.refl _ _) (Nat.le_refl _) (by simp) ?_; (case hd => rfl); (case hg => rfl); (case hr => first | (go_simp; done) | (go_simp; rfl)); (case hp => exact (Reps.none _ _)); intro v364 w46 ho47 hb hg_ hnew_; clear hg_ hnew_; (first | rw [← Ny363.out] at ho47 | (simp only [Int.reduceToNat] at ho47; rw [← Ny363.out] at ho47)); have n0_ := Aside0.mk (Kd.R_below (by exact Kd.R_w HO358.out) hb); have n1_ := Aside0.mk (Kd.R_elder' (by exact Kd.R_w HO362.out) (Kd.R_base ho47) hb); have n2_ := Aside0.mk (Kd.R_lower (Kd.R_new' ho47 (Kd.R_lt (by exact Kd.R_w HO362.out))) (below_size (below_w HB.out))); have n3_ := Aside0.mk (below_step (below_w HB.out) hb); clear HO358; clear HO362; clear HB; have HO358 := n0_; have HO362 := n1_; have HO365 := n2_; have HB := n3_; clear n0_ n1_ n2_ n3_; clear hb ho47; obtain ⟨Ao49, co49, eo49⟩ := Kd.R_slice HO362.out; subst eo49) | ((with_reducible refine gate_builtin (b := .append) (xs := #[.tmp 32, .tmp 33]) rfl ?_); (try (refine gate_guard (by rfl) ?_; dsimp only)); at_builtin; refine Kd.R_append_rows (Kd.int .u8) (w0 := w) w.heap.size rfl (.tmp 32) (.tmp 33) 42 5 (.int .u8 0) 1 rfl Try.underlying42 info5 rfl (by decide) (by omega) v364 y363 t359 _ _ _ (fun k_ => some k_ ≠ (.slice Ao49 t359.length co49 : Value).ownBlock) (fun _ => False) rfl rfl ?aO ?aR (fun _ _ h => h) (fun _ h => h.elim) ?aF ?aB ?aS ?aL ?_; (case aR => exact Kd.C_w (Kd.R_reads' HO362.out).2.2); (case aB => exact (below_w HB.out)); (case aF => exact (fun k_ hk => Kd.fresh' (Kd.R_lt (by exact Kd.R_w HO362.out)) k_ hk)); (case aO => exact (by apply Kd.R_w; exact Kd.R_mono HO365.out (fun _ hk => hk.2))); (case aS => exact (below_size (below_w HB.out))); (case aL => have := LMc11.out; omega); intro v367 w48 ho hb hg hat; rw [← Ny366.out] at ho; have n0_ := Aside0.mk (Kd.R_over' (by exact Kd.R_w HO358.out) (Kd.R_typed (by exact Kd.R_w HO365.out)) (by decide) hg); have n1_ := Aside0.mk (Kd.R_after (ok := (fun _ => True)) (by exact Kd.R_w HO362.out) hg hat); have n2_ := Aside0.mk (hb); have n3_ := Aside0.mk (ho); clear HO358; clear HO362; clear HB; clear HO365; have HO358 := n0_; have HO362 := n1_; have HB := n2_; have HO368 := n3_; clear n0_ n1_ n2_ n3_; clear ho hb hg hat) | ((with_reducible refine gate_builtin (b := .append) (xs := #[.tmp 34, .tmp 35]) rfl ?_); (try (refine gate_guard (by rfl) ?_; dsimp only)); at_builtin; refine Kd.R_append_rows (Kd.int .u8) (w0 := w) w.heap.size rfl (.tmp 34) (.tmp 35) 42 5 (.int .u8 0) 1 rfl Try.underlying42 info5 rfl (by decide) (by omega) v367 y366 l1 _ _ _ (fun k_ => some k_ ≠ (.slice Ao49 t359.length co49 : Value).ownBlock) (fun _ => False) rfl rfl ?aO ?aR (fun _ _ h => h) (fun _ h => h.elim) ?aF ?aB ?aS ?aL ?_; (case aR => exact Kd.C_w (Kd.C_below HR1.out HB.out)); (case aB => exact (below_w HB.out)); (case aF => exact (fun k_ hk => Kd.fresh' (Kd.R_lt (by exact Kd.R_w HO362.out)) k_ hk)); (case aO => exact (by exact Kd.R_w HO368.out)); (case aS => exact (below_size (below_w HB.out))); (case aL => have := LMc12.out; omega); intro v370 w50 ho hb hg hat; rw [← Ny369.out] at ho; have n0_ := Aside0.mk (Kd.R_over' (by exact Kd.R_w HO358.out) (Kd.R_typed (by exact Kd.R_w HO368.out)) (by decide) hg); have n1_ := Aside0.mk (Kd.R_after (ok := (fun _ => True)) (by exact Kd.R_w HO362.out) hg hat); have n2_ := Aside0.mk (hb); have n3_ := Aside0.mk (ho); clear HO358; clear HO362; clear HB; clear HO368; have HO358 := n0_; have HO362 := n1_; have HB := n2_; have HO371 := n3_; clear n0_ n1_ n2_ n3_; clear ho hb hg hat; obtain ⟨Ao51, co51, eo51⟩ := Kd.R_slice HO371.out; subst eo51) | ((with_reducible refine gate_callee (f := 28) rfl ?_); refine goesL_ (some 37) rfl rfl Try.func28 (by kernel_rfl) rfl #[.slice Ao51 y369.length co51] rfl (by (try simp only [List.map_toArray, List.map_cons, List.map_nil]); first | done | rfl | simp) ?_; (with_reducible refine (plan_Decode.calls kj4 _ _ y369 t372 t373 _ ?side1 ?side2 A13.out).mono ?_); (case side1 => exact Kd.C_w (Kd.R_reads' HO371.out).2.2); (case side2 => exact (Kd.R_reads' HO371.out).2.1); rintro e w52 ⟨v374, rfl, ho0, hb⟩; refine ⟨_, rfl, ?_⟩; have n0_ := Aside0.mk (Kd.R_elder' (by exact Kd.R_w HO358.out) (Kd.R_base ho0) hb); have n1_ := Aside0.mk (Kd.R_below (by exact Kd.R_w HO362.out) hb); have n2_ := Aside0.mk (Kd.R_below (by exact Kd.R_w HO371.out) hb); have n3_ := Aside0.mk (Kd.R_lower (Kd.R_new' ho0 (Kd.R_lt (by exact Kd.R_w HO358.out))) (below_size (below_w HB.out))); have n4_ := Aside0.mk (below_step (below_w HB.out) hb); clear HO358; clear HO362; clear HO371; clear HB; have HO358 := n0_; have HO362 := n1_; have HO371 := n2_; have HO375 := n3_; have HB := n4_; clear n0_ n1_ n2_ n3_ n4_; (try clear hb); (try clear hb2); (try clear hk); (try clear hi); (try clear ho0)) | (go_at_call 30; (with_reducible refine (plan_Right.calls kj4 _ _ t355 true _ ?side1 ?side2 A15.out).mono ?_); (case side1 => exact Kd.C_w (Kd.R_reads' HO358.out).2.2); (case side2 => exact (Kd.R_reads' HO358.out).2.1); rintro e w53 ⟨rfl, hb⟩; have n0_ := Aside0.mk (Kd.R_below (by exact Kd.R_w HO358.out) hb); have n1_ := Aside0.mk (Kd.R_below (by exact Kd.R_w HO362.out) hb); have n2_ := Aside0.mk (Kd.R_below (by exact Kd.R_w HO371.out) hb); have n3_ := Aside0.mk (Kd.R_below (by exact Kd.R_w HO375.out) hb); have n4_ := Aside0.mk (below_step (below_w HB.out) hb); clear HO358; clear HO362; clear HO371; clear HO375; clear HB; have HO358 := n0_; have HO362 := n1_; have HO371 := n2_; have HO375 := n3_; have HB := n4_; clear n0_ n1_ n2_ n3_ n4_; (try clear hb); (try clear hb2); (try clear hk); (try clear hi); obtain ⟨Ao54, co54, eo54⟩ := Kd.R_slice HO375.out; subst eo54) | (go_at_call 32; (with_reducible refine (handoffref10_Same.calls kj4 _ _ t355 _ _ t372 true _ ?side1 ?side2 ?side3 ?side4 A17.out).mono ?_); (case side1 => exact Kd.C_w (Kd.R_reads' HO358.out).2.2); (case side2 => exact (Kd.R_reads' HO358.out).2.1); (case side3 => exact Kd.C_w (Kd.R_reads' HO375.out).2.2); (case side4 => exact (Kd.R_reads' HO375.out).2.1); rintro e w55 ⟨rfl, hb⟩; have n0_ := Aside0.mk (Kd.R_below (by exact Kd.R_w HO358.out) hb); have n1_ := Aside0.mk (Kd.R_below (by exact Kd.R_w HO362.out) hb); have n2_ := Aside0.mk (Kd.R_below (by exact Kd.R_w HO371.out) hb); have n3_ := Aside0.mk (Kd.R_below (by exact Kd.R_w HO375.out) hb); have n4_ := Aside0.mk (below_step (below_w HB.out) hb); clear HO358; clear HO362; clear HO371; clear HO375; clear HB; have HO358 := n0_; have HO362 := n1_; have HO371 := n2_; have HO375 := n3_; have HB := n4_; clear n0_ n1_ n2_ n3_ n4_; (try clear hb); (try clear hb2); (try clear hk); (try clear hi)) | (go_at_call 33; (with_reducible refine (plan_Clone.calls _ _ t355 t382 _ ?side1 ?side2 A41.out).mono ?_); (case side1 => exact Kd.C_w (Kd.R_reads' HO358.out).2.2); (case side2 => exact (Kd.R_reads' HO358.out).2.1); rintro e w56 ⟨v383, rfl, ho0, hb⟩; have n0_ := Aside0.mk (Kd.R_elder' (by exact Kd.R_w HO358.out) (Kd.R_base ho0) hb); have n1_ := Aside0.mk (Kd.R_below (by exact Kd.R_w HO362.out) hb); have n2_ := Aside0.mk (Kd.R_below (by exact Kd.R_w HO371.out) hb); have n3_ := Aside0.mk (Kd.R_elder' (by exact Kd.R_w HO375.out) (Kd.R_base ho0) hb); have n4_ := Aside0.mk (Kd.R_lower (Kd.R_new' (Kd.R_new' ho0 (Kd.R_lt (by exact Kd.R_w HO358.out))) (Kd.R_lt (by exact Kd.R_w HO375.out))) (below_size (below_w HB.out))); have n5_ := Aside0.mk (below_step (below_w HB.out) hb); clear HO358; clear HO362; clear HO371; clear HO375; clear HB; have HO358 := n0_; have HO362 := n1_; have HO371 := n2_; have HO375 := n3_; have HO384 := n4_; have HB := n5_; clear n0_ n1_ n2_ n3_ n4_ n5_; (try clear hb); (try clear hb2); (try clear hk); (try clear hi); (try clear ho0); obtain ⟨Ao57, co57, eo57⟩ := Kd.R_slice HO384.out; subst eo57) | (go_at_call 32; (with_reducible refine (handoffref10_Same.calls kj4 _ _ t382 _ _ t355 t385 _ ?side1 ?side2 ?side3 ?side4 A42.out).mono ?_); (case side1 => exact Kd.C_w (Kd.R_reads' HO384.out).2.2); (case side2 => exact (Kd.R_reads' HO384.out).2.1); (case side3 => exact Kd.C_w (Kd.R_reads' HO358.out).2.2); (case side4 => exact (Kd.R_reads' HO358.out).2.1); rintro e w58 ⟨rfl, hb⟩; have n0_ := Aside0.mk (Kd.R_below (by exact Kd.R_w HO358.out) hb); have n1_ := Aside0.mk (Kd.R_below (by exact Kd.R_w HO362.out) hb); have n2_ := Aside0.mk (Kd.R_below (by exact Kd.R_w HO371.out) hb); have n3_ := Aside0.mk (Kd.R_below (by exact Kd.R_w HO375.out) hb); have n4_ := Aside0.mk (Kd.R_below (by exact Kd.R_w HO384.out) hb); have n5_ := Aside0.mk (below_step (below_w HB.out) hb); clear HO358; clear HO362; clear HO371; clear HO375; clear HO384; clear HB; have HO358 := n0_; have HO362 := n1_; have HO371 := n2_; have HO375 := n3_; have HO384 := n4_; have HB := n5_; clear n0_ n1_ n2_ n3_ n4_ n5_; (try clear hb); (try clear hb2); (try clear hk); (try clear hi)))
              go_ret
              exact ⟨by first | rfl | (simp [errW_none, errW_some] <;> rfl) | (simp [*, errW_none, errW_some] <;> rfl), by exact below_w HB.out⟩
             ·rw [if_neg c40] at H
              have c40b0 : (t356 == (t359.length : Int)) = false := beq_eq_false_iff_ne.mpr c40
              have c40b1 : (t356 != (t359.length : Int)) = true := bne_iff_ne.mpr c40
              obtain rfl := Option.some.inj H
              go_wp2_with (first | ((with_reducible refine gate_callee (f := 28) rfl ?_); refine goesL_ (some 23) rfl rfl Try.func28 (by kernel_rfl) rfl #[.slice A0 l0.length c0] rfl (by (try simp only [List.map_toArray, List.map_cons, List.map_nil]); first | done | rfl | simp) ?_; (with_reducible refine (plan_Decode.calls kj4 _ _ l0 t355 t356 _ ?side1 ?side2 A9.out).mono ?_); (case side1 => exact Kd.C_w (Kd.C_below HR0.out HB.out)); (case side2 => exact HC0.out); rintro e w59 ⟨v357, rfl, ho0, hb⟩; refine ⟨_, rfl, ?_⟩; have n0_ := Aside0.mk (Kd.R_lower ho0 (below_size (below_w HB.out))); have n1_ := Aside0.mk (below_step (below_w HB.out) hb); clear HB; have HO358 := n0_; have HB := n1_; clear n0_ n1_; (try clear hb); (try clear hb2); (try clear hk); (try clear hi); (try clear ho0); obtain ⟨Ao60, co60, eo60⟩ := Kd.R_slice HO358.out; subst eo60) | ((with_reducible refine gate_callee (f := 25) rfl ?_); refine goesL_ (some 28) rfl rfl Try.func25 (by kernel_rfl) rfl #[.slice Ao60 t355.length co60] rfl (by (try simp only [List.map_toArray, List.map_cons, List.map_nil]); first | done | rfl | simp) ?_; (with_reducible refine (plan_Encode.calls kj4 _ _ t355 t359 t360 _ ?side1 ?side2 A10.out).mono ?_); (case side1 => exact Kd.C_w (Kd.R_reads' HO358.out).2.2); (case side2 => exact (Kd.R_reads' HO358.out).2.1); rintro e w61 ⟨v361, rfl, ho0, hb⟩; refine ⟨_, rfl, ?_⟩; have n0_ := Aside0.mk (Kd.R_below (by exact Kd.R_w HO358.out) hb); have n1_ := Aside0.mk (Kd.R_lower ho0 (below_size (below_w HB.out))); have n2_ := Aside0.mk (below_step (below_w HB.out) hb); clear HO358; clear HB; have HO358 := n0_; have HO362 := n1_; have HB := n2_; clear n0_ n1_ n2_; (try clear hb); (try clear hb2); (try clear hk); (try clear hi); (try clear ho0)) | ((with_reducible refine gate_dst (N := 32) rfl ?_); (try (refine gate_guard (by rfl) ?_; dsimp only)); refine Kd.R_lit (Kd.int .u8) _ 5 ?hg (N := 32) ?hd (xs := ([] : List Int)) (inner := []) (ok := fun _ => True) (okp := fun _ => True) ?hr ?hp (fun _ hk => hk) trivial (Below.refl _ _) (Nat.le_refl _) (by simp) ?_; (case hd => rfl); (case hg => rfl); (case hr => first | (go_simp; done) | (go_simp; rfl)); (case hp => exact (Reps.none _ _)); intro v364 w62 ho63 hb hg_ hnew_; clear hg_ hnew_; (first | rw [← Ny363.out] at ho63 | (simp only [Int.reduceToNat] at ho63; rw [← Ny363.out] at ho63)); have n0_ := Aside0.mk (Kd.R_below (by exact Kd.R_w HO358.out) hb); have n1_ := Aside0.mk (Kd.R_elder' (by exact Kd.R_w HO362.out) (Kd.R_base ho63) hb); have n2_ := Aside0.mk (Kd.R_lower (Kd.R_new' ho63 (Kd.R_lt (by exact Kd.R_w HO362.out))) (below_size (below_w HB.out))); have n3_ := Aside0.mk (below_step (below_w HB.out) hb); clear HO358; clear HO362; clear HB; have HO358 := n0_; have HO362 := n1_; have HO365 := n2_; have HB := n3_; clear n0_ n1_ n2_ n3_; clear hb ho63; obtain ⟨Ao65, co65, eo65⟩ := Kd.R_slice HO362.out; subst eo65) | ((with_reducible refine gate_builtin (b := .append) (xs := #[.tmp 32, .tmp 33]) rfl ?_); (try (refine gate_guard (by rfl) ?_; dsimp only)); at_builtin; refine Kd.R_append_rows (Kd.int .u8) (w0 := w) w.heap.size rfl (.tmp 32) (.tmp 33) 42 5 (.int .u8 0) 1 rfl Try.underlying42 info5 rfl (by decide) (by omega) v364 y363 t359 _ _ _ (fun k_ => some k_ ≠ (.slice Ao65 t359.length co65 : Value).ownBlock) (fun _ => False) rfl rfl ?aO ?aR (fun _ _ h => h) (fun _ h => h.elim) ?aF ?aB ?aS ?aL ?_; (case aR => exact Kd.C_w (Kd.R_reads' HO362.out).2.2); (case aB => exact (below_w HB.out)); (case aF => exact (fun k_ hk => Kd.fresh' (Kd.R_lt (by exact Kd.R_w HO362.out)) k_ hk)); (case aO => exact (by apply Kd.R_w; exact Kd.R_mono HO365.out (fun _ hk => hk.2))); (case aS => exact (below_size (below_w HB.out))); (case aL => have := LMc11.out; omega); intro v367 w64 ho hb hg hat; rw [← Ny366.out] at ho; have n0_ := Aside0.mk (Kd.R_over' (by exact Kd.R_w HO358.out) (Kd.R_typed (by exact Kd.R_w HO365.out)) (by decide) hg); have n1_ := Aside0.mk (Kd.R_after (ok := (fun _ => True)) (by exact Kd.R_w HO362.out) hg hat); have n2_ := Aside0.mk (hb); have n3_ := Aside0.mk (ho); clear HO358; clear HO362; clear HB; clear HO365; have HO358 := n0_; have HO362 := n1_; have HB := n2_; have HO368 := n3_; clear n0_ n1_ n2_ n3_; clear ho hb hg hat) | ((with_reducible refine gate_builtin (b := .append) (xs := #[.tmp 34, .tmp 35]) rfl ?_); (try (refine gate_guard (by rfl) ?_; dsimp only)); at_builtin; refine Kd.R_append_rows (Kd.int .u8) (w0 := w) w.heap.size rfl (.tmp 34) (.tmp 35) 42 5 (.int .u8 0) 1 rfl Try.underlying42 info5 rfl (by decide) (by omega) v367 y366 l1 _ _ _ (fun k_ => some k_ ≠ (.slice Ao65 t359.length co65 : Value).ownBlock) (fun _ => False) rfl rfl ?aO ?aR (fun _ _ h => h) (fun _ h => h.elim) ?aF ?aB ?aS ?aL ?_; (case aR => exact Kd.C_w (Kd.C_below HR1.out HB.out)); (case aB => exact (below_w HB.out)); (case aF => exact (fun k_ hk => Kd.fresh' (Kd.R_lt (by exact Kd.R_w HO362.out)) k_ hk)); (case aO => exact (by exact Kd.R_w HO368.out)); (case aS => exact (below_size (below_w HB.out))); (case aL => have := LMc12.out; omega); intro v370 w66 ho hb hg hat; rw [← Ny369.out] at ho; have n0_ := Aside0.mk (Kd.R_over' (by exact Kd.R_w HO358.out) (Kd.R_typed (by exact Kd.R_w HO368.out)) (by decide) hg); have n1_ := Aside0.mk (Kd.R_after (ok := (fun _ => True)) (by exact Kd.R_w HO362.out) hg hat); have n2_ := Aside0.mk (hb); have n3_ := Aside0.mk (ho); clear HO358; clear HO362; clear HB; clear HO368; have HO358 := n0_; have HO362 := n1_; have HB := n2_; have HO371 := n3_; clear n0_ n1_ n2_ n3_; clear ho hb hg hat; obtain ⟨Ao67, co67, eo67⟩ := Kd.R_slice HO371.out; subst eo67) | ((with_reducible refine gate_callee (f := 28) rfl ?_); refine goesL_ (some 37) rfl rfl Try.func28 (by kernel_rfl) rfl #[.slice Ao67 y369.length co67] rfl (by (try simp only [List.map_toArray, List.map_cons, List.map_nil]); first | done | rfl | simp) ?_; (with_reducible refine (plan_Decode.calls kj4 _ _ y369 t372 t373 _ ?side1 ?side2 A13.out).mono ?_); (case side1 => exact Kd.C_w (Kd.R_reads' HO371.out).2.2); (case side2 => exact (Kd.R_reads' HO371.out).2.1); rintro e w68 ⟨v374, rfl, ho0, hb⟩; refine ⟨_, rfl, ?_⟩; have n0_ := Aside0.mk (Kd.R_elder' (by exact Kd.R_w HO358.out) (Kd.R_base ho0) hb); have n1_ := Aside0.mk (Kd.R_below (by exact Kd.R_w HO362.out) hb); have n2_ := Aside0.mk (Kd.R_below (by exact Kd.R_w HO371.out) hb); have n3_ := Aside0.mk (Kd.R_lower (Kd.R_new' ho0 (Kd.R_lt (by exact Kd.R_w HO358.out))) (below_size (below_w HB.out))); have n4_ := Aside0.mk (below_step (below_w HB.out) hb); clear HO358; clear HO362; clear HO371; clear HB; have HO358 := n0_; have HO362 := n1_; have HO371 := n2_; have HO375 := n3_; have HB := n4_; clear n0_ n1_ n2_ n3_ n4_; (try clear hb); (try clear hb2); (try clear hk); (try clear hi); (try clear ho0)) | (go_at_call 30; (with_reducible refine (plan_Right.calls kj4 _ _ t355 true _ ?side1 ?side2 A15.out).mono ?_); (case side1 => exact Kd.C_w (Kd.R_reads' HO358.out).2.2); (case side2 => exact (Kd.R_reads' HO358.out).2.1); rintro e w69 ⟨rfl, hb⟩; have n0_ := Aside0.mk (Kd.R_below (by exact Kd.R_w HO358.out) hb); have n1_ := Aside0.mk (Kd.R_below (by exact Kd.R_w HO362.out) hb); have n2_ := Aside0.mk (Kd.R_below (by exact Kd.R_w HO371.out) hb); have n3_ := Aside0.mk (Kd.R_below (by exact Kd.R_w HO375.out) hb); have n4_ := Aside0.mk (below_step (below_w HB.out) hb); clear HO358; clear HO362; clear HO371; clear HO375; clear HB; have HO358 := n0_; have HO362 := n1_; have HO371 := n2_; have HO375 := n3_; have HB := n4_; clear n0_ n1_ n2_ n3_ n4_; (try clear hb); (try clear hb2); (try clear hk); (try clear hi); obtain ⟨Ao70, co70, eo70⟩ := Kd.R_slice HO375.out; subst eo70) | (go_at_call 32; (with_reducible refine (handoffref10_Same.calls kj4 _ _ t355 _ _ t372 true _ ?side1 ?side2 ?side3 ?side4 A17.out).mono ?_); (case side1 => exact Kd.C_w (Kd.R_reads' HO358.out).2.2); (case side2 => exact (Kd.R_reads' HO358.out).2.1); (case side3 => exact Kd.C_w (Kd.R_reads' HO375.out).2.2); (case side4 => exact (Kd.R_reads' HO375.out).2.1); rintro e w71 ⟨rfl, hb⟩; have n0_ := Aside0.mk (Kd.R_below (by exact Kd.R_w HO358.out) hb); have n1_ := Aside0.mk (Kd.R_below (by exact Kd.R_w HO362.out) hb); have n2_ := Aside0.mk (Kd.R_below (by exact Kd.R_w HO371.out) hb); have n3_ := Aside0.mk (Kd.R_below (by exact Kd.R_w HO375.out) hb); have n4_ := Aside0.mk (below_step (below_w HB.out) hb); clear HO358; clear HO362; clear HO371; clear HO375; clear HB; have HO358 := n0_; have HO362 := n1_; have HO371 := n2_; have HO375 := n3_; have HB := n4_; clear n0_ n1_ n2_ n3_ n4_; (try clear hb); (try clear hb2); (try clear hk); (try clear hi)))
              go_ret
              exact ⟨by first | rfl | (simp [errW_none, errW_some] <;> rfl) | (simp [*, errW_none, errW_some] <;> rfl), by exact below_w HB.out⟩
           ·rw [if_neg c20] at H
            have c20b0 : decide (t356 ≤ (l0.length : Int)) = false := decide_eq_false c20
            clear c20
            obtain rfl := Option.some.inj H
            go_wp2_with (first | ((with_reducible refine gate_callee (f := 28) rfl ?_); refine goesL_ (some 23) rfl rfl Try.func28 (by kernel_rfl) rfl #[.slice A0 l0.length c0] rfl (by (try simp only [List.map_toArray, List.map_cons, List.map_nil]); first | done | rfl | simp) ?_; (with_reducible refine (plan_Decode.calls kj4 _ _ l0 t355 t356 _ ?side1 ?side2 A9.out).mono ?_); (case side1 => exact Kd.C_w (Kd.C_below HR0.out HB.out)); (case side2 => exact HC0.out); rintro e w72 ⟨v357, rfl, ho0, hb⟩; refine ⟨_, rfl, ?_⟩; have n0_ := Aside0.mk (Kd.R_lower ho0 (below_size (below_w HB.out))); have n1_ := Aside0.mk (below_step (below_w HB.out) hb); clear HB; have HO358 := n0_; have HB := n1_; clear n0_ n1_; (try clear hb); (try clear hb2); (try clear hk); (try clear hi); (try clear ho0); obtain ⟨Ao73, co73, eo73⟩ := Kd.R_slice HO358.out; subst eo73) | ((with_reducible refine gate_callee (f := 25) rfl ?_); refine goesL_ (some 28) rfl rfl Try.func25 (by kernel_rfl) rfl #[.slice Ao73 t355.length co73] rfl (by (try simp only [List.map_toArray, List.map_cons, List.map_nil]); first | done | rfl | simp) ?_; (with_reducible refine (plan_Encode.calls kj4 _ _ t355 t359 t360 _ ?side1 ?side2 A10.out).mono ?_); (case side1 => exact Kd.C_w (Kd.R_reads' HO358.out).2.2); (case side2 => exact (Kd.R_reads' HO358.out).2.1); rintro e w74 ⟨v361, rfl, ho0, hb⟩; refine ⟨_, rfl, ?_⟩; have n0_ := Aside0.mk (Kd.R_below (by exact Kd.R_w HO358.out) hb); have n1_ := Aside0.mk (Kd.R_lower ho0 (below_size (below_w HB.out))); have n2_ := Aside0.mk (below_step (below_w HB.out) hb); clear HO358; clear HB; have HO358 := n0_; have HO362 := n1_; have HB := n2_; clear n0_ n1_ n2_; (try clear hb); (try clear hb2); (try clear hk); (try clear hi); (try clear ho0)) | ((with_reducible refine gate_dst (N := 32) rfl ?_); (try (refine gate_guard (by rfl) ?_; dsimp only)); refine Kd.R_lit (Kd.int .u8) _ 5 ?hg (N := 32) ?hd (xs := ([] : List Int)) (inner := []) (ok := fun _ => True) (okp := fun _ => True) ?hr ?hp (fun _ hk => hk) trivial (Below.refl _ _) (Nat.le_refl _) (by simp) ?_; (case hd => rfl); (case hg => rfl); (case hr => first | (go_simp; done) | (go_simp; rfl)); (case hp => exact (Reps.none _ _)); intro v364 w75 ho76 hb hg_ hnew_; clear hg_ hnew_; (first | rw [← Ny363.out] at ho76 | (simp only [Int.reduceToNat] at ho76; rw [← Ny363.out] at ho76)); have n0_ := Aside0.mk (Kd.R_below (by exact Kd.R_w HO358.out) hb); have n1_ := Aside0.mk (Kd.R_elder' (by exact Kd.R_w HO362.out) (Kd.R_base ho76) hb); have n2_ := Aside0.mk (Kd.R_lower (Kd.R_new' ho76 (Kd.R_lt (by exact Kd.R_w HO362.out))) (below_size (below_w HB.out))); have n3_ := Aside0.mk (below_step (below_w HB.out) hb); clear HO358; clear HO362; clear HB; have HO358 := n0_; have HO362 := n1_; have HO365 := n2_; have HB := n3_; clear n0_ n1_ n2_ n3_; clear hb ho76; obtain ⟨Ao78, co78, eo78⟩ := Kd.R_slice HO362.out; subst eo78) | ((with_reducible refine gate_builtin (b := .append) (xs := #[.tmp 32, .tmp 33]) rfl ?_); (try (refine gate_guard (by rfl) ?_; dsimp only)); at_builtin; refine Kd.R_append_rows (Kd.int .u8) (w0 := w) w.heap.size rfl (.tmp 32) (.tmp 33) 42 5 (.int .u8 0) 1 rfl Try.underlying42 info5 rfl (by decide) (by omega) v364 y363 t359 _ _ _ (fun k_ => some k_ ≠ (.slice Ao78 t359.length co78 : Value).ownBlock) (fun _ => False) rfl rfl ?aO ?aR (fun _ _ h => h) (fun _ h => h.elim) ?aF ?aB ?aS ?aL ?_; (case aR => exact Kd.C_w (Kd.R_reads' HO362.out).2.2); (case aB => exact (below_w HB.out)); (case aF => exact (fun k_ hk => Kd.fresh' (Kd.R_lt (by exact Kd.R_w HO362.out)) k_ hk)); (case aO => exact (by apply Kd.R_w; exact Kd.R_mono HO365.out (fun _ hk => hk.2))); (case aS => exact (below_size (below_w HB.out))); (case aL => have := LMc11.out; omega); intro v367 w77 ho hb hg hat; rw [← Ny366.out] at ho; have n0_ := Aside0.mk (Kd.R_over' (by exact Kd.R_w HO358.out) (Kd.R_typed (by exact Kd.R_w HO365.out)) (by decide) hg); have n1_ := Aside0.mk (Kd.R_after (ok := (fun _ => True)) (by exact Kd.R_w HO362.out) hg hat); have n2_ := Aside0.mk (hb); have n3_ := Aside0.mk (ho); clear HO358; clear HO362; clear HB; clear HO365; have HO358 := n0_; have HO362 := n1_; have HB := n2_; have HO368 := n3_; clear n0_ n1_ n2_ n3_; clear ho hb hg hat) | ((with_reducible refine gate_builtin (b := .append) (xs := #[.tmp 34, .tmp 35]) rfl ?_); (try (refine gate_guard (by rfl) ?_; dsimp only)); at_builtin; refine Kd.R_append_rows (Kd.int .u8) (w0 := w) w.heap.size rfl (.tmp 34) (.tmp 35) 42 5 (.int .u8 0) 1 rfl Try.underlying42 info5 rfl (by decide) (by omega) v367 y366 l1 _ _ _ (fun k_ => some k_ ≠ (.slice Ao78 t359.length co78 : Value).ownBlock) (fun _ => False) rfl rfl ?aO ?aR (fun _ _ h => h) (fun _ h => h.elim) ?aF ?aB ?aS ?aL ?_; (case aR => exact Kd.C_w (Kd.C_below HR1.out HB.out)); (case aB => exact (below_w HB.out)); (case aF => exact (fun k_ hk => Kd.fresh' (Kd.R_lt (by exact Kd.R_w HO362.out)) k_ hk)); (case aO => exact (by exact Kd.R_w HO368.out)); (case aS => exact (below_size (below_w HB.out))); (case aL => have := LMc12.out; omega); intro v370 w79 ho hb hg hat; rw [← Ny369.out] at ho; have n0_ := Aside0.mk (Kd.R_over' (by exact Kd.R_w HO358.out) (Kd.R_typed (by exact Kd.R_w HO368.out)) (by decide) hg); have n1_ := Aside0.mk (Kd.R_after (ok := (fun _ => True)) (by exact Kd.R_w HO362.out) hg hat); have n2_ := Aside0.mk (hb); have n3_ := Aside0.mk (ho); clear HO358; clear HO362; clear HB; clear HO368; have HO358 := n0_; have HO362 := n1_; have HB := n2_; have HO371 := n3_; clear n0_ n1_ n2_ n3_; clear ho hb hg hat; obtain ⟨Ao80, co80, eo80⟩ := Kd.R_slice HO371.out; subst eo80) | ((with_reducible refine gate_callee (f := 28) rfl ?_); refine goesL_ (some 37) rfl rfl Try.func28 (by kernel_rfl) rfl #[.slice Ao80 y369.length co80] rfl (by (try simp only [List.map_toArray, List.map_cons, List.map_nil]); first | done | rfl | simp) ?_; (with_reducible refine (plan_Decode.calls kj4 _ _ y369 t372 t373 _ ?side1 ?side2 A13.out).mono ?_); (case side1 => exact Kd.C_w (Kd.R_reads' HO371.out).2.2); (case side2 => exact (Kd.R_reads' HO371.out).2.1); rintro e w81 ⟨v374, rfl, ho0, hb⟩; refine ⟨_, rfl, ?_⟩; have n0_ := Aside0.mk (Kd.R_elder' (by exact Kd.R_w HO358.out) (Kd.R_base ho0) hb); have n1_ := Aside0.mk (Kd.R_below (by exact Kd.R_w HO362.out) hb); have n2_ := Aside0.mk (Kd.R_below (by exact Kd.R_w HO371.out) hb); have n3_ := Aside0.mk (Kd.R_lower (Kd.R_new' ho0 (Kd.R_lt (by exact Kd.R_w HO358.out))) (below_size (below_w HB.out))); have n4_ := Aside0.mk (below_step (below_w HB.out) hb); clear HO358; clear HO362; clear HO371; clear HB; have HO358 := n0_; have HO362 := n1_; have HO371 := n2_; have HO375 := n3_; have HB := n4_; clear n0_ n1_ n2_ n3_ n4_; (try clear hb); (try clear hb2); (try clear hk); (try clear hi); (try clear ho0)) | (go_at_call 30; (with_reducible refine (plan_Right.calls kj4 _ _ t355 true _ ?side1 ?side2 A15.out).mono ?_); (case side1 => exact Kd.C_w (Kd.R_reads' HO358.out).2.2); (case side2 => exact (Kd.R_reads' HO358.out).2.1); rintro e w82 ⟨rfl, hb⟩; have n0_ := Aside0.mk (Kd.R_below (by exact Kd.R_w HO358.out) hb); have n1_ := Aside0.mk (Kd.R_below (by exact Kd.R_w HO362.out) hb); have n2_ := Aside0.mk (Kd.R_below (by exact Kd.R_w HO371.out) hb); have n3_ := Aside0.mk (Kd.R_below (by exact Kd.R_w HO375.out) hb); have n4_ := Aside0.mk (below_step (below_w HB.out) hb); clear HO358; clear HO362; clear HO371; clear HO375; clear HB; have HO358 := n0_; have HO362 := n1_; have HO371 := n2_; have HO375 := n3_; have HB := n4_; clear n0_ n1_ n2_ n3_ n4_; (try clear hb); (try clear hb2); (try clear hk); (try clear hi); obtain ⟨Ao83, co83, eo83⟩ := Kd.R_slice HO375.out; subst eo83) | (go_at_call 32; (with_reducible refine (handoffref10_Same.calls kj4 _ _ t355 _ _ t372 true _ ?side1 ?side2 ?side3 ?side4 A17.out).mono ?_); (case side1 => exact Kd.C_w (Kd.R_reads' HO358.out).2.2); (case side2 => exact (Kd.R_reads' HO358.out).2.1); (case side3 => exact Kd.C_w (Kd.R_reads' HO375.out).2.2); (case side4 => exact (Kd.R_reads' HO375.out).2.1); rintro e w84 ⟨rfl, hb⟩; have n0_ := Aside0.mk (Kd.R_below (by exact Kd.R_w HO358.out) hb); have n1_ := Aside0.mk (Kd.R_below (by exact Kd.R_w HO362.out) hb); have n2_ := Aside0.mk (Kd.R_below (by exact Kd.R_w HO371.out) hb); have n3_ := Aside0.mk (Kd.R_below (by exact Kd.R_w HO375.out) hb); have n4_ := Aside0.mk (below_step (below_w HB.out) hb); clear HO358; clear HO362; clear HO371; clear HO375; clear HB; have HO358 := n0_; have HO362 := n1_; have HO371 := n2_; have HO375 := n3_; have HB := n4_; clear n0_ n1_ n2_ n3_ n4_; (try clear hb); (try clear hb2); (try clear hk); (try clear hi)))
            go_ret
            exact ⟨by first | rfl | (simp [errW_none, errW_some] <;> rfl) | (simp [*, errW_none, errW_some] <;> rfl), by exact below_w HB.out⟩
          ·rw [if_neg c19] at H
           have c19b0 : (t373 == (t359.length : Int)) = false := beq_eq_false_iff_ne.mpr c19
           have c19b1 : (t373 != (t359.length : Int)) = true := bne_iff_ne.mpr c19
           obtain rfl := Option.some.inj H
           go_wp2_with (first | ((with_reducible refine gate_callee (f := 28) rfl ?_); refine goesL_ (some 23) rfl rfl Try.func28 (by kernel_rfl) rfl #[.slice A0 l0.length c0] rfl (by (try simp only [List.map_toArray, List.map_cons, List.map_nil]); first | done | rfl | simp) ?_; (with_reducible refine (plan_Decode.calls kj4 _ _ l0 t355 t356 _ ?side1 ?side2 A9.out).mono ?_); (case side1 => exact Kd.C_w (Kd.C_below HR0.out HB.out)); (case side2 => exact HC0.out); rintro e w85 ⟨v357, rfl, ho0, hb⟩; refine ⟨_, rfl, ?_⟩; have n0_ := Aside0.mk (Kd.R_lower ho0 (below_size (below_w HB.out))); have n1_ := Aside0.mk (below_step (below_w HB.out) hb); clear HB; have HO358 := n0_; have HB := n1_; clear n0_ n1_; (try clear hb); (try clear hb2); (try clear hk); (try clear hi); (try clear ho0); obtain ⟨Ao86, co86, eo86⟩ := Kd.R_slice HO358.out; subst eo86) | ((with_reducible refine gate_callee (f := 25) rfl ?_); refine goesL_ (some 28) rfl rfl Try.func25 (by kernel_rfl) rfl #[.slice Ao86 t355.length co86] rfl (by (try simp only [List.map_toArray, List.map_cons, List.map_nil]); first | done | rfl | simp) ?_; (with_reducible refine (plan_Encode.calls kj4 _ _ t355 t359 t360 _ ?side1 ?side2 A10.out).mono ?_); (case side1 => exact Kd.C_w (Kd.R_reads' HO358.out).2.2); (case side2 => exact (Kd.R_reads' HO358.out).2.1); rintro e w87 ⟨v361, rfl, ho0, hb⟩; refine ⟨_, rfl, ?_⟩; have n0_ := Aside0.mk (Kd.R_below (by exact Kd.R_w HO358.out) hb); have n1_ := Aside0.mk (Kd.R_lower ho0 (below_size (below_w HB.out))); have n2_ := Aside0.mk (below_step (below_w HB.out) hb); clear HO358; clear HB; have HO358 := n0_; have HO362 := n1_; have HB := n2_; clear n0_ n1_ n2_; (try clear hb); (try clear hb2); (try clear hk); (try clear hi); (try clear ho0)) | ((with_reducible refine gate_dst (N := 32) rfl ?_); (try (refine gate_guard (by rfl) ?_; dsimp only)); refine Kd.R_lit (Kd.int .u8) _ 5 ?hg (N := 32) ?hd (xs := ([] : List Int)) (inner := []) (ok := fun _ => True) (okp := fun _ => True) ?hr ?hp (fun _ hk => hk) trivial (Below.refl _ _) (Nat.le_refl _) (by simp) ?_; (case hd => rfl); (case hg => rfl); (case hr => first | (go_simp; done) | (go_simp; rfl)); (case hp => exact (Reps.none _ _)); intro v364 w88 ho89 hb hg_ hnew_; clear hg_ hnew_; (first | rw [← Ny363.out] at ho89 | (simp only [Int.reduceToNat] at ho89; rw [← Ny363.out] at ho89)); have n0_ := Aside0.mk (Kd.R_below (by exact Kd.R_w HO358.out) hb); have n1_ := Aside0.mk (Kd.R_elder' (by exact Kd.R_w HO362.out) (Kd.R_base ho89) hb); have n2_ := Aside0.mk (Kd.R_lower (Kd.R_new' ho89 (Kd.R_lt (by exact Kd.R_w HO362.out))) (below_size (below_w HB.out))); have n3_ := Aside0.mk (below_step (below_w HB.out) hb); clear HO358; clear HO362; clear HB; have HO358 := n0_; have HO362 := n1_; have HO365 := n2_; have HB := n3_; clear n0_ n1_ n2_ n3_; clear hb ho89; obtain ⟨Ao91, co91, eo91⟩ := Kd.R_slice HO362.out; subst eo91) | ((with_reducible refine gate_builtin (b := .append) (xs := #[.tmp 32, .tmp 33]) rfl ?_); (try (refine gate_guard (by rfl) ?_; dsimp only)); at_builtin; refine Kd.R_append_rows (Kd.int .u8) (w0 := w) w.heap.size rfl (.tmp 32) (.tmp 33) 42 5 (.int .u8 0) 1 rfl Try.underlying42 info5 rfl (by decide) (by omega) v364 y363 t359 _ _ _ (fun k_ => some k_ ≠ (.slice Ao91 t359.length co91 : Value).ownBlock) (fun _ => False) rfl rfl ?aO ?aR (fun _ _ h => h) (fun _ h => h.elim) ?aF ?aB ?aS ?aL ?_; (case aR => exact Kd.C_w (Kd.R_reads' HO362.out).2.2); (case aB => exact (below_w HB.out)); (case aF => exact (fun k_ hk => Kd.fresh' (Kd.R_lt (by exact Kd.R_w HO362.out)) k_ hk)); (case aO => exact (by apply Kd.R_w; exact Kd.R_mono HO365.out (fun _ hk => hk.2))); (case aS => exact (below_size (below_w HB.out))); (case aL => have := LMc11.out; omega); intro v367 w90 ho hb hg hat; rw [← Ny366.out] at ho; have n0_ := Aside0.mk (Kd.R_over' (by exact Kd.R_w HO358.out) (Kd.R_typed (by exact Kd.R_w HO365.out)) (by decide) hg); have n1_ := Aside0.mk (Kd.R_after (ok := (fun _ => True)) (by exact Kd.R_w HO362.out) hg hat); have n2_ := Aside0.mk (hb); have n3_ := Aside0.mk (ho); clear HO358; clear HO362; clear HB; clear HO365; have HO358 := n0_; have HO362 := n1_; have HB := n2_; have HO368 := n3_; clear n0_ n1_ n2_ n3_; clear ho hb hg hat) | ((with_reducible refine gate_builtin (b := .append) (xs := #[.tmp 34, .tmp 35]) rfl ?_); (try (refine gate_guard (by rfl) ?_; dsimp only)); at_builtin; refine Kd.R_append_rows (Kd.int .u8) (w0 := w) w.heap.size rfl (.tmp 34) (.tmp 35) 42 5 (.int .u8 0) 1 rfl Try.underlying42 info5 rfl (by decide) (by omega) v367 y366 l1 _ _ _ (fun k_ => some k_ ≠ (.slice Ao91 t359.length co91 : Value).ownBlock) (fun _ => False) rfl rfl ?aO ?aR (fun _ _ h => h) (fun _ h => h.elim) ?aF ?aB ?aS ?aL ?_; (case aR => exact Kd.C_w (Kd.C_below HR1.out HB.out)); (case aB => exact (below_w HB.out)); (case aF => exact (fun k_ hk => Kd.fresh' (Kd.R_lt (by exact Kd.R_w HO362.out)) k_ hk)); (case aO => exact (by exact Kd.R_w HO368.out)); (case aS => exact (below_size (below_w HB.out))); (case aL => have := LMc12.out; omega); intro v370 w92 ho hb hg hat; rw [← Ny369.out] at ho; have n0_ := Aside0.mk (Kd.R_over' (by exact Kd.R_w HO358.out) (Kd.R_typed (by exact Kd.R_w HO368.out)) (by decide) hg); have n1_ := Aside0.mk (Kd.R_after (ok := (fun _ => True)) (by exact Kd.R_w HO362.out) hg hat); have n2_ := Aside0.mk (hb); have n3_ := Aside0.mk (ho); clear HO358; clear HO362; clear HB; clear HO368; have HO358 := n0_; have HO362 := n1_; have HB := n2_; have HO371 := n3_; clear n0_ n1_ n2_ n3_; clear ho hb hg hat; obtain ⟨Ao93, co93, eo93⟩ := Kd.R_slice HO371.out; subst eo93) | ((with_reducible refine gate_callee (f := 28) rfl ?_); refine goesL_ (some 37) rfl rfl Try.func28 (by kernel_rfl) rfl #[.slice Ao93 y369.length co93] rfl (by (try simp only [List.map_toArray, List.map_cons, List.map_nil]); first | done | rfl | simp) ?_; (with_reducible refine (plan_Decode.calls kj4 _ _ y369 t372 t373 _ ?side1 ?side2 A13.out).mono ?_); (case side1 => exact Kd.C_w (Kd.R_reads' HO371.out).2.2); (case side2 => exact (Kd.R_reads' HO371.out).2.1); rintro e w94 ⟨v374, rfl, ho0, hb⟩; refine ⟨_, rfl, ?_⟩; have n0_ := Aside0.mk (Kd.R_elder' (by exact Kd.R_w HO358.out) (Kd.R_base ho0) hb); have n1_ := Aside0.mk (Kd.R_below (by exact Kd.R_w HO362.out) hb); have n2_ := Aside0.mk (Kd.R_below (by exact Kd.R_w HO371.out) hb); have n3_ := Aside0.mk (Kd.R_lower (Kd.R_new' ho0 (Kd.R_lt (by exact Kd.R_w HO358.out))) (below_size (below_w HB.out))); have n4_ := Aside0.mk (below_step (below_w HB.out) hb); clear HO358; clear HO362; clear HO371; clear HB; have HO358 := n0_; have HO362 := n1_; have HO371 := n2_; have HO375 := n3_; have HB := n4_; clear n0_ n1_ n2_ n3_ n4_; (try clear hb); (try clear hb2); (try clear hk); (try clear hi); (try clear ho0)) | (go_at_call 30; (with_reducible refine (plan_Right.calls kj4 _ _ t355 true _ ?side1 ?side2 A15.out).mono ?_); (case side1 => exact Kd.C_w (Kd.R_reads' HO358.out).2.2); (case side2 => exact (Kd.R_reads' HO358.out).2.1); rintro e w95 ⟨rfl, hb⟩; have n0_ := Aside0.mk (Kd.R_below (by exact Kd.R_w HO358.out) hb); have n1_ := Aside0.mk (Kd.R_below (by exact Kd.R_w HO362.out) hb); have n2_ := Aside0.mk (Kd.R_below (by exact Kd.R_w HO371.out) hb); have n3_ := Aside0.mk (Kd.R_below (by exact Kd.R_w HO375.out) hb); have n4_ := Aside0.mk (below_step (below_w HB.out) hb); clear HO358; clear HO362; clear HO371; clear HO375; clear HB; have HO358 := n0_; have HO362 := n1_; have HO371 := n2_; have HO375 := n3_; have HB := n4_; clear n0_ n1_ n2_ n3_ n4_; (try clear hb); (try clear hb2); (try clear hk); (try clear hi); obtain ⟨Ao96, co96, eo96⟩ := Kd.R_slice HO375.out; subst eo96) | (go_at_call 32; (with_reducible refine (handoffref10_Same.calls kj4 _ _ t355 _ _ t372 true _ ?side1 ?side2 ?side3 ?side4 A17.out).mono ?_); (case side1 => exact Kd.C_w (Kd.R_reads' HO358.out).2.2); (case side2 => exact (Kd.R_reads' HO358.out).2.1); (case side3 => exact Kd.C_w (Kd.R_reads' HO375.out).2.2); (case side4 => exact (Kd.R_reads' HO375.out).2.1); rintro e w97 ⟨rfl, hb⟩; have n0_ := Aside0.mk (Kd.R_below (by exact Kd.R_w HO358.out) hb); have n1_ := Aside0.mk (Kd.R_below (by exact Kd.R_w HO362.out) hb); have n2_ := Aside0.mk (Kd.R_below (by exact Kd.R_w HO371.out) hb); have n3_ := Aside0.mk (Kd.R_below (by exact Kd.R_w HO375.out) hb); have n4_ := Aside0.mk (below_step (below_w HB.out) hb); clear HO358; clear HO362; clear HO371; clear HO375; clear HB; have HO358 := n0_; have HO362 := n1_; have HO371 := n2_; have HO375 := n3_; have HB := n4_; clear n0_ n1_ n2_ n3_ n4_; (try clear hb); (try clear hb2); (try clear hk); (try clear hi)))
           go_ret
           exact ⟨by first | rfl | (simp [errW_none, errW_some] <;> rfl) | (simp [*, errW_none, errW_some] <;> rfl), by exact below_w HB.out⟩
         ·replace c18 := Bool.eq_false_iff.mpr c18
          subst c18
          have H1 : (some false) = some r := by rw [if_neg (show ¬ (false = true) by decide)] at H; exact H
          clear H
          have H := H1
          clear H1
          obtain rfl := Option.some.inj H
          go_wp2_with (first | ((with_reducible refine gate_callee (f := 28) rfl ?_); refine goesL_ (some 23) rfl rfl Try.func28 (by kernel_rfl) rfl #[.slice A0 l0.length c0] rfl (by (try simp only [List.map_toArray, List.map_cons, List.map_nil]); first | done | rfl | simp) ?_; (with_reducible refine (plan_Decode.calls kj4 _ _ l0 t355 t356 _ ?side1 ?side2 A9.out).mono ?_); (case side1 => exact Kd.C_w (Kd.C_below HR0.out HB.out)); (case side2 => exact HC0.out); rintro e w98 ⟨v357, rfl, ho0, hb⟩; refine ⟨_, rfl, ?_⟩; have n0_ := Aside0.mk (Kd.R_lower ho0 (below_size (below_w HB.out))); have n1_ := Aside0.mk (below_step (below_w HB.out) hb); clear HB; have HO358 := n0_; have HB := n1_; clear n0_ n1_; (try clear hb); (try clear hb2); (try clear hk); (try clear hi); (try clear ho0); obtain ⟨Ao99, co99, eo99⟩ := Kd.R_slice HO358.out; subst eo99) | ((with_reducible refine gate_callee (f := 25) rfl ?_); refine goesL_ (some 28) rfl rfl Try.func25 (by kernel_rfl) rfl #[.slice Ao99 t355.length co99] rfl (by (try simp only [List.map_toArray, List.map_cons, List.map_nil]); first | done | rfl | simp) ?_; (with_reducible refine (plan_Encode.calls kj4 _ _ t355 t359 t360 _ ?side1 ?side2 A10.out).mono ?_); (case side1 => exact Kd.C_w (Kd.R_reads' HO358.out).2.2); (case side2 => exact (Kd.R_reads' HO358.out).2.1); rintro e w100 ⟨v361, rfl, ho0, hb⟩; refine ⟨_, rfl, ?_⟩; have n0_ := Aside0.mk (Kd.R_below (by exact Kd.R_w HO358.out) hb); have n1_ := Aside0.mk (Kd.R_lower ho0 (below_size (below_w HB.out))); have n2_ := Aside0.mk (below_step (below_w HB.out) hb); clear HO358; clear HB; have HO358 := n0_; have HO362 := n1_; have HB := n2_; clear n0_ n1_ n2_; (try clear hb); (try clear hb2); (try clear hk); (try clear hi); (try clear ho0)) | ((with_reducible refine gate_dst (N := 32) rfl ?_); (try (refine gate_guard (by rfl) ?_; dsimp only)); refine Kd.R_lit (Kd.int .u8) _ 5 ?hg (N := 32) ?hd (xs := ([] : List Int)) (inner := []) (ok := fun _ => True) (okp := fun _ => True) ?hr ?hp (fun _ hk => hk) trivial (Below.refl _ _) (Nat.le_refl _) (by simp) ?_; (case hd => rfl); (case hg => rfl); (case hr => first | (go_simp; done) | (go_simp; rfl)); (case hp => exact (Reps.none _ _)); intro v364 w101 ho102 hb hg_ hnew_; clear hg_ hnew_; (first | rw [← Ny363.out] at ho102 | (simp only [Int.reduceToNat] at ho102; rw [← Ny363.out] at ho102)); have n0_ := Aside0.mk (Kd.R_below (by exact Kd.R_w HO358.out) hb); have n1_ := Aside0.mk (Kd.R_elder' (by exact Kd.R_w HO362.out) (Kd.R_base ho102) hb); have n2_ := Aside0.mk (Kd.R_lower (Kd.R_new' ho102 (Kd.R_lt (by exact Kd.R_w HO362.out))) (below_size (below_w HB.out))); have n3_ := Aside0.mk (below_step (below_w HB.out) hb); clear HO358; clear HO362; clear HB; have HO358 := n0_; have HO362 := n1_; have HO365 := n2_; have HB := n3_; clear n0_ n1_ n2_ n3_; clear hb ho102; obtain ⟨Ao104, co104, eo104⟩ := Kd.R_slice HO362.out; subst eo104) | ((with_reducible refine gate_builtin (b := .append) (xs := #[.tmp 32, .tmp 33]) rfl ?_); (try (refine gate_guard (by rfl) ?_; dsimp only)); at_builtin; refine Kd.R_append_rows (Kd.int .u8) (w0 := w) w.heap.size rfl (.tmp 32) (.tmp 33) 42 5 (.int .u8 0) 1 rfl Try.underlying42 info5 rfl (by decide) (by omega) v364 y363 t359 _ _ _ (fun k_ => some k_ ≠ (.slice Ao104 t359.length co104 : Value).ownBlock) (fun _ => False) rfl rfl ?aO ?aR (fun _ _ h => h) (fun _ h => h.elim) ?aF ?aB ?aS ?aL ?_; (case aR => exact Kd.C_w (Kd.R_reads' HO362.out).2.2); (case aB => exact (below_w HB.out)); (case aF => exact (fun k_ hk => Kd.fresh' (Kd.R_lt (by exact Kd.R_w HO362.out)) k_ hk)); (case aO => exact (by apply Kd.R_w; exact Kd.R_mono HO365.out (fun _ hk => hk.2))); (case aS => exact (below_size (below_w HB.out))); (case aL => have := LMc11.out; omega); intro v367 w103 ho hb hg hat; rw [← Ny366.out] at ho; have n0_ := Aside0.mk (Kd.R_over' (by exact Kd.R_w HO358.out) (Kd.R_typed (by exact Kd.R_w HO365.out)) (by decide) hg); have n1_ := Aside0.mk (Kd.R_after (ok := (fun _ => True)) (by exact Kd.R_w HO362.out) hg hat); have n2_ := Aside0.mk (hb); have n3_ := Aside0.mk (ho); clear HO358; clear HO362; clear HB; clear HO365; have HO358 := n0_; have HO362 := n1_; have HB := n2_; have HO368 := n3_; clear n0_ n1_ n2_ n3_; clear ho hb hg hat) | ((with_reducible refine gate_builtin (b := .append) (xs := #[.tmp 34, .tmp 35]) rfl ?_); (try (refine gate_guard (by rfl) ?_; dsimp only)); at_builtin; refine Kd.R_append_rows (Kd.int .u8) (w0 := w) w.heap.size rfl (.tmp 34) (.tmp 35) 42 5 (.int .u8 0) 1 rfl Try.underlying42 info5 rfl (by decide) (by omega) v367 y366 l1 _ _ _ (fun k_ => some k_ ≠ (.slice Ao104 t359.length co104 : Value).ownBlock) (fun _ => False) rfl rfl ?aO ?aR (fun _ _ h => h) (fun _ h => h.elim) ?aF ?aB ?aS ?aL ?_; (case aR => exact Kd.C_w (Kd.C_below HR1.out HB.out)); (case aB => exact (below_w HB.out)); (case aF => exact (fun k_ hk => Kd.fresh' (Kd.R_lt (by exact Kd.R_w HO362.out)) k_ hk)); (case aO => exact (by exact Kd.R_w HO368.out)); (case aS => exact (below_size (below_w HB.out))); (case aL => have := LMc12.out; omega); intro v370 w105 ho hb hg hat; rw [← Ny369.out] at ho; have n0_ := Aside0.mk (Kd.R_over' (by exact Kd.R_w HO358.out) (Kd.R_typed (by exact Kd.R_w HO368.out)) (by decide) hg); have n1_ := Aside0.mk (Kd.R_after (ok := (fun _ => True)) (by exact Kd.R_w HO362.out) hg hat); have n2_ := Aside0.mk (hb); have n3_ := Aside0.mk (ho); clear HO358; clear HO362; clear HB; clear HO368; have HO358 := n0_; have HO362 := n1_; have HB := n2_; have HO371 := n3_; clear n0_ n1_ n2_ n3_; clear ho hb hg hat; obtain ⟨Ao106, co106, eo106⟩ := Kd.R_slice HO371.out; subst eo106) | ((with_reducible refine gate_callee (f := 28) rfl ?_); refine goesL_ (some 37) rfl rfl Try.func28 (by kernel_rfl) rfl #[.slice Ao106 y369.length co106] rfl (by (try simp only [List.map_toArray, List.map_cons, List.map_nil]); first | done | rfl | simp) ?_; (with_reducible refine (plan_Decode.calls kj4 _ _ y369 t372 t373 _ ?side1 ?side2 A13.out).mono ?_); (case side1 => exact Kd.C_w (Kd.R_reads' HO371.out).2.2); (case side2 => exact (Kd.R_reads' HO371.out).2.1); rintro e w107 ⟨v374, rfl, ho0, hb⟩; refine ⟨_, rfl, ?_⟩; have n0_ := Aside0.mk (Kd.R_elder' (by exact Kd.R_w HO358.out) (Kd.R_base ho0) hb); have n1_ := Aside0.mk (Kd.R_below (by exact Kd.R_w HO362.out) hb); have n2_ := Aside0.mk (Kd.R_below (by exact Kd.R_w HO371.out) hb); have n3_ := Aside0.mk (Kd.R_lower (Kd.R_new' ho0 (Kd.R_lt (by exact Kd.R_w HO358.out))) (below_size (below_w HB.out))); have n4_ := Aside0.mk (below_step (below_w HB.out) hb); clear HO358; clear HO362; clear HO371; clear HB; have HO358 := n0_; have HO362 := n1_; have HO371 := n2_; have HO375 := n3_; have HB := n4_; clear n0_ n1_ n2_ n3_ n4_; (try clear hb); (try clear hb2); (try clear hk); (try clear hi); (try clear ho0)) | (go_at_call 30; (with_reducible refine (plan_Right.calls kj4 _ _ t355 true _ ?side1 ?side2 A15.out).mono ?_); (case side1 => exact Kd.C_w (Kd.R_reads' HO358.out).2.2); (case side2 => exact (Kd.R_reads' HO358.out).2.1); rintro e w108 ⟨rfl, hb⟩; have n0_ := Aside0.mk (Kd.R_below (by exact Kd.R_w HO358.out) hb); have n1_ := Aside0.mk (Kd.R_below (by exact Kd.R_w HO362.out) hb); have n2_ := Aside0.mk (Kd.R_below (by exact Kd.R_w HO371.out) hb); have n3_ := Aside0.mk (Kd.R_below (by exact Kd.R_w HO375.out) hb); have n4_ := Aside0.mk (below_step (below_w HB.out) hb); clear HO358; clear HO362; clear HO371; clear HO375; clear HB; have HO358 := n0_; have HO362 := n1_; have HO371 := n2_; have HO375 := n3_; have HB := n4_; clear n0_ n1_ n2_ n3_ n4_; (try clear hb); (try clear hb2); (try clear hk); (try clear hi); obtain ⟨Ao109, co109, eo109⟩ := Kd.R_slice HO375.out; subst eo109) | (go_at_call 32; (with_reducible refine (handoffref10_Same.calls kj4 _ _ t355 _ _ t372 false _ ?side1 ?side2 ?side3 ?side4 A17.out).mono ?_); (case side1 => exact Kd.C_w (Kd.R_reads' HO358.out).2.2); (case side2 => exact (Kd.R_reads' HO358.out).2.1); (case side3 => exact Kd.C_w (Kd.R_reads' HO375.out).2.2); (case side4 => exact (Kd.R_reads' HO375.out).2.1); rintro e w110 ⟨rfl, hb⟩; have n0_ := Aside0.mk (Kd.R_below (by exact Kd.R_w HO358.out) hb); have n1_ := Aside0.mk (Kd.R_below (by exact Kd.R_w HO362.out) hb); have n2_ := Aside0.mk (Kd.R_below (by exact Kd.R_w HO371.out) hb); have n3_ := Aside0.mk (Kd.R_below (by exact Kd.R_w HO375.out) hb); have n4_ := Aside0.mk (below_step (below_w HB.out) hb); clear HO358; clear HO362; clear HO371; clear HO375; clear HB; have HO358 := n0_; have HO362 := n1_; have HO371 := n2_; have HO375 := n3_; have HB := n4_; clear n0_ n1_ n2_ n3_ n4_; (try clear hb); (try clear hb2); (try clear hk); (try clear hi)))
          go_ret
          exact ⟨by first | rfl | (simp [errW_none, errW_some] <;> rfl) | (simp [*, errW_none, errW_some] <;> rfl), by exact below_w HB.out⟩
        ·replace c16 := Bool.eq_false_iff.mpr c16
         subst c16
         have H1 : (some false) = some r := by rw [if_neg (show ¬ (false = true) by decide)] at H; exact H
         clear H
         have H := H1
         clear H1
         obtain rfl := Option.some.inj H
         go_wp2_with (first | ((with_reducible refine gate_callee (f := 28) rfl ?_); refine goesL_ (some 23) rfl rfl Try.func28 (by kernel_rfl) rfl #[.slice A0 l0.length c0] rfl (by (try simp only [List.map_toArray, List.map_cons, List.map_nil]); first | done | rfl | simp) ?_; (with_reducible refine (plan_Decode.calls kj4 _ _ l0 t355 t356 _ ?side1 ?side2 A9.out).mono ?_); (case side1 => exact Kd.C_w (Kd.C_below HR0.out HB.out)); (case side2 => exact HC0.out); rintro e w111 ⟨v357, rfl, ho0, hb⟩; refine ⟨_, rfl, ?_⟩; have n0_ := Aside0.mk (Kd.R_lower ho0 (below_size (below_w HB.out))); have n1_ := Aside0.mk (below_step (below_w HB.out) hb); clear HB; have HO358 := n0_; have HB := n1_; clear n0_ n1_; (try clear hb); (try clear hb2); (try clear hk); (try clear hi); (try clear ho0); obtain ⟨Ao112, co112, eo112⟩ := Kd.R_slice HO358.out; subst eo112) | ((with_reducible refine gate_callee (f := 25) rfl ?_); refine goesL_ (some 28) rfl rfl Try.func25 (by kernel_rfl) rfl #[.slice Ao112 t355.length co112] rfl (by (try simp only [List.map_toArray, List.map_cons, List.map_nil]); first | done | rfl | simp) ?_; (with_reducible refine (plan_Encode.calls kj4 _ _ t355 t359 t360 _ ?side1 ?side2 A10.out).mono ?_); (case side1 => exact Kd.C_w (Kd.R_reads' HO358.out).2.2); (case side2 => exact (Kd.R_reads' HO358.out).2.1); rintro e w113 ⟨v361, rfl, ho0, hb⟩; refine ⟨_, rfl, ?_⟩; have n0_ := Aside0.mk (Kd.R_below (by exact Kd.R_w HO358.out) hb); have n1_ := Aside0.mk (Kd.R_lower ho0 (below_size (below_w HB.out))); have n2_ := Aside0.mk (below_step (below_w HB.out) hb); clear HO358; clear HB; have HO358 := n0_; have HO362 := n1_; have HB := n2_; clear n0_ n1_ n2_; (try clear hb); (try clear hb2); (try clear hk); (try clear hi); (try clear ho0)) | ((with_reducible refine gate_dst (N := 32) rfl ?_); (try (refine gate_guard (by rfl) ?_; dsimp only)); refine Kd.R_lit (Kd.int .u8) _ 5 ?hg (N := 32) ?hd (xs := ([] : List Int)) (inner := []) (ok := fun _ => True) (okp := fun _ => True) ?hr ?hp (fun _ hk => hk) trivial (Below.refl _ _) (Nat.le_refl _) (by simp) ?_; (case hd => rfl); (case hg => rfl); (case hr => first | (go_simp; done) | (go_simp; rfl)); (case hp => exact (Reps.none _ _)); intro v364 w114 ho115 hb hg_ hnew_; clear hg_ hnew_; (first | rw [← Ny363.out] at ho115 | (simp only [Int.reduceToNat] at ho115; rw [← Ny363.out] at ho115)); have n0_ := Aside0.mk (Kd.R_below (by exact Kd.R_w HO358.out) hb); have n1_ := Aside0.mk (Kd.R_elder' (by exact Kd.R_w HO362.out) (Kd.R_base ho115) hb); have n2_ := Aside0.mk (Kd.R_lower (Kd.R_new' ho115 (Kd.R_lt (by exact Kd.R_w HO362.out))) (below_size (below_w HB.out))); have n3_ := Aside0.mk (below_step (below_w HB.out) hb); clear HO358; clear HO362; clear HB; have HO358 := n0_; have HO362 := n1_; have HO365 := n2_; have HB := n3_; clear n0_ n1_ n2_ n3_; clear hb ho115; obtain ⟨Ao117, co117, eo117⟩ := Kd.R_slice HO362.out; subst eo117) | ((with_reducible refine gate_builtin (b := .append) (xs := #[.tmp 32, .tmp 33]) rfl ?_); (try (refine gate_guard (by rfl) ?_; dsimp only)); at_builtin; refine Kd.R_append_rows (Kd.int .u8) (w0 := w) w.heap.size rfl (.tmp 32) (.tmp 33) 42 5 (.int .u8 0) 1 rfl Try.underlying42 info5 rfl (by decide) (by omega) v364 y363 t359 _ _ _ (fun k_ => some k_ ≠ (.slice Ao117 t359.length co117 : Value).ownBlock) (fun _ => False) rfl rfl ?aO ?aR (fun _ _ h => h) (fun _ h => h.elim) ?aF ?aB ?aS ?aL ?_; (case aR => exact Kd.C_w (Kd.R_reads' HO362.out).2.2); (case aB => exact (below_w HB.out)); (case aF => exact (fun k_ hk => Kd.fresh' (Kd.R_lt (by exact Kd.R_w HO362.out)) k_ hk)); (case aO => exact (by apply Kd.R_w; exact Kd.R_mono HO365.out (fun _ hk => hk.2))); (case aS => exact (below_size (below_w HB.out))); (case aL => have := LMc11.out; omega); intro v367 w116 ho hb hg hat; rw [← Ny366.out] at ho; have n0_ := Aside0.mk (Kd.R_over' (by exact Kd.R_w HO358.out) (Kd.R_typed (by exact Kd.R_w HO365.out)) (by decide) hg); have n1_ := Aside0.mk (Kd.R_after (ok := (fun _ => True)) (by exact Kd.R_w HO362.out) hg hat); have n2_ := Aside0.mk (hb); have n3_ := Aside0.mk (ho); clear HO358; clear HO362; clear HB; clear HO365; have HO358 := n0_; have HO362 := n1_; have HB := n2_; have HO368 := n3_; clear n0_ n1_ n2_ n3_; clear ho hb hg hat) | ((with_reducible refine gate_builtin (b := .append) (xs := #[.tmp 34, .tmp 35]) rfl ?_); (try (refine gate_guard (by rfl) ?_; dsimp only)); at_builtin; refine Kd.R_append_rows (Kd.int .u8) (w0 := w) w.heap.size rfl (.tmp 34) (.tmp 35) 42 5 (.int .u8 0) 1 rfl Try.underlying42 info5 rfl (by decide) (by omega) v367 y366 l1 _ _ _ (fun k_ => some k_ ≠ (.slice Ao117 t359.length co117 : Value).ownBlock) (fun _ => False) rfl rfl ?aO ?aR (fun _ _ h => h) (fun _ h => h.elim) ?aF ?aB ?aS ?aL ?_; (case aR => exact Kd.C_w (Kd.C_below HR1.out HB.out)); (case aB => exact (below_w HB.out)); (case aF => exact (fun k_ hk => Kd.fresh' (Kd.R_lt (by exact Kd.R_w HO362.out)) k_ hk)); (case aO => exact (by exact Kd.R_w HO368.out)); (case aS => exact (below_size (below_w HB.out))); (case aL => have := LMc12.out; omega); intro v370 w118 ho hb hg hat; rw [← Ny369.out] at ho; have n0_ := Aside0.mk (Kd.R_over' (by exact Kd.R_w HO358.out) (Kd.R_typed (by exact Kd.R_w HO368.out)) (by decide) hg); have n1_ := Aside0.mk (Kd.R_after (ok := (fun _ => True)) (by exact Kd.R_w HO362.out) hg hat); have n2_ := Aside0.mk (hb); have n3_ := Aside0.mk (ho); clear HO358; clear HO362; clear HB; clear HO368; have HO358 := n0_; have HO362 := n1_; have HB := n2_; have HO371 := n3_; clear n0_ n1_ n2_ n3_; clear ho hb hg hat; obtain ⟨Ao119, co119, eo119⟩ := Kd.R_slice HO371.out; subst eo119) | ((with_reducible refine gate_callee (f := 28) rfl ?_); refine goesL_ (some 37) rfl rfl Try.func28 (by kernel_rfl) rfl #[.slice Ao119 y369.length co119] rfl (by (try simp only [List.map_toArray, List.map_cons, List.map_nil]); first | done | rfl | simp) ?_; (with_reducible refine (plan_Decode.calls kj4 _ _ y369 t372 t373 _ ?side1 ?side2 A13.out).mono ?_); (case side1 => exact Kd.C_w (Kd.R_reads' HO371.out).2.2); (case side2 => exact (Kd.R_reads' HO371.out).2.1); rintro e w120 ⟨v374, rfl, ho0, hb⟩; refine ⟨_, rfl, ?_⟩; have n0_ := Aside0.mk (Kd.R_elder' (by exact Kd.R_w HO358.out) (Kd.R_base ho0) hb); have n1_ := Aside0.mk (Kd.R_below (by exact Kd.R_w HO362.out) hb); have n2_ := Aside0.mk (Kd.R_below (by exact Kd.R_w HO371.out) hb); have n3_ := Aside0.mk (Kd.R_lower (Kd.R_new' ho0 (Kd.R_lt (by exact Kd.R_w HO358.out))) (below_size (below_w HB.out))); have n4_ := Aside0.mk (below_step (below_w HB.out) hb); clear HO358; clear HO362; clear HO371; clear HB; have HO358 := n0_; have HO362 := n1_; have HO371 := n2_; have HO375 := n3_; have HB := n4_; clear n0_ n1_ n2_ n3_ n4_; (try clear hb); (try clear hb2); (try clear hk); (try clear hi); (try clear ho0)) | (go_at_call 30; (with_reducible refine (plan_Right.calls kj4 _ _ t355 false _ ?side1 ?side2 A15.out).mono ?_); (case side1 => exact Kd.C_w (Kd.R_reads' HO358.out).2.2); (case side2 => exact (Kd.R_reads' HO358.out).2.1); rintro e w121 ⟨rfl, hb⟩; have n0_ := Aside0.mk (Kd.R_below (by exact Kd.R_w HO358.out) hb); have n1_ := Aside0.mk (Kd.R_below (by exact Kd.R_w HO362.out) hb); have n2_ := Aside0.mk (Kd.R_below (by exact Kd.R_w HO371.out) hb); have n3_ := Aside0.mk (Kd.R_below (by exact Kd.R_w HO375.out) hb); have n4_ := Aside0.mk (below_step (below_w HB.out) hb); clear HO358; clear HO362; clear HO371; clear HO375; clear HB; have HO358 := n0_; have HO362 := n1_; have HO371 := n2_; have HO375 := n3_; have HB := n4_; clear n0_ n1_ n2_ n3_ n4_; (try clear hb); (try clear hb2); (try clear hk); (try clear hi)))
         go_ret
         exact ⟨by first | rfl | (simp [errW_none, errW_some] <;> rfl) | (simp [*, errW_none, errW_some] <;> rfl), by exact below_w HB.out⟩
       ·rw [if_neg c14] at H
        have c14b0 : (t360 == 0) = false := beq_eq_false_iff_ne.mpr c14
        have c14b1 : (t360 != 0) = true := bne_iff_ne.mpr c14
        obtain rfl := Option.some.inj H
        go_wp2_with (first | ((with_reducible refine gate_callee (f := 28) rfl ?_); refine goesL_ (some 23) rfl rfl Try.func28 (by kernel_rfl) rfl #[.slice A0 l0.length c0] rfl (by (try simp only [List.map_toArray, List.map_cons, List.map_nil]); first | done | rfl | simp) ?_; (with_reducible refine (plan_Decode.calls kj4 _ _ l0 t355 t356 _ ?side1 ?side2 A9.out).mono ?_); (case side1 => exact Kd.C_w (Kd.C_below HR0.out HB.out)); (case side2 => exact HC0.out); rintro e w122 ⟨v357, rfl, ho0, hb⟩; refine ⟨_, rfl, ?_⟩; have n0_ := Aside0.mk (Kd.R_lower ho0 (below_size (below_w HB.out))); have n1_ := Aside0.mk (below_step (below_w HB.out) hb); clear HB; have HO358 := n0_; have HB := n1_; clear n0_ n1_; (try clear hb); (try clear hb2); (try clear hk); (try clear hi); (try clear ho0); obtain ⟨Ao123, co123, eo123⟩ := Kd.R_slice HO358.out; subst eo123) | ((with_reducible refine gate_callee (f := 25) rfl ?_); refine goesL_ (some 28) rfl rfl Try.func25 (by kernel_rfl) rfl #[.slice Ao123 t355.length co123] rfl (by (try simp only [List.map_toArray, List.map_cons, List.map_nil]); first | done | rfl | simp) ?_; (with_reducible refine (plan_Encode.calls kj4 _ _ t355 t359 t360 _ ?side1 ?side2 A10.out).mono ?_); (case side1 => exact Kd.C_w (Kd.R_reads' HO358.out).2.2); (case side2 => exact (Kd.R_reads' HO358.out).2.1); rintro e w124 ⟨v361, rfl, ho0, hb⟩; refine ⟨_, rfl, ?_⟩; have n0_ := Aside0.mk (Kd.R_below (by exact Kd.R_w HO358.out) hb); have n1_ := Aside0.mk (Kd.R_lower ho0 (below_size (below_w HB.out))); have n2_ := Aside0.mk (below_step (below_w HB.out) hb); clear HO358; clear HB; have HO358 := n0_; have HO362 := n1_; have HB := n2_; clear n0_ n1_ n2_; (try clear hb); (try clear hb2); (try clear hk); (try clear hi); (try clear ho0)) | ((with_reducible refine gate_dst (N := 32) rfl ?_); (try (refine gate_guard (by rfl) ?_; dsimp only)); refine Kd.R_lit (Kd.int .u8) _ 5 ?hg (N := 32) ?hd (xs := ([] : List Int)) (inner := []) (ok := fun _ => True) (okp := fun _ => True) ?hr ?hp (fun _ hk => hk) trivial (Below.refl _ _) (Nat.le_refl _) (by simp) ?_; (case hd => rfl); (case hg => rfl); (case hr => first | (go_simp; done) | (go_simp; rfl)); (case hp => exact (Reps.none _ _)); intro v364 w125 ho126 hb hg_ hnew_; clear hg_ hnew_; (first | rw [← Ny363.out] at ho126 | (simp only [Int.reduceToNat] at ho126; rw [← Ny363.out] at ho126)); have n0_ := Aside0.mk (Kd.R_below (by exact Kd.R_w HO358.out) hb); have n1_ := Aside0.mk (Kd.R_elder' (by exact Kd.R_w HO362.out) (Kd.R_base ho126) hb); have n2_ := Aside0.mk (Kd.R_lower (Kd.R_new' ho126 (Kd.R_lt (by exact Kd.R_w HO362.out))) (below_size (below_w HB.out))); have n3_ := Aside0.mk (below_step (below_w HB.out) hb); clear HO358; clear HO362; clear HB; have HO358 := n0_; have HO362 := n1_; have HO365 := n2_; have HB := n3_; clear n0_ n1_ n2_ n3_; clear hb ho126; obtain ⟨Ao128, co128, eo128⟩ := Kd.R_slice HO362.out; subst eo128) | ((with_reducible refine gate_builtin (b := .append) (xs := #[.tmp 32, .tmp 33]) rfl ?_); (try (refine gate_guard (by rfl) ?_; dsimp only)); at_builtin; refine Kd.R_append_rows (Kd.int .u8) (w0 := w) w.heap.size rfl (.tmp 32) (.tmp 33) 42 5 (.int .u8 0) 1 rfl Try.underlying42 info5 rfl (by decide) (by omega) v364 y363 t359 _ _ _ (fun k_ => some k_ ≠ (.slice Ao128 t359.length co128 : Value).ownBlock) (fun _ => False) rfl rfl ?aO ?aR (fun _ _ h => h) (fun _ h => h.elim) ?aF ?aB ?aS ?aL ?_; (case aR => exact Kd.C_w (Kd.R_reads' HO362.out).2.2); (case aB => exact (below_w HB.out)); (case aF => exact (fun k_ hk => Kd.fresh' (Kd.R_lt (by exact Kd.R_w HO362.out)) k_ hk)); (case aO => exact (by apply Kd.R_w; exact Kd.R_mono HO365.out (fun _ hk => hk.2))); (case aS => exact (below_size (below_w HB.out))); (case aL => have := LMc11.out; omega); intro v367 w127 ho hb hg hat; rw [← Ny366.out] at ho; have n0_ := Aside0.mk (Kd.R_over' (by exact Kd.R_w HO358.out) (Kd.R_typed (by exact Kd.R_w HO365.out)) (by decide) hg); have n1_ := Aside0.mk (Kd.R_after (ok := (fun _ => True)) (by exact Kd.R_w HO362.out) hg hat); have n2_ := Aside0.mk (hb); have n3_ := Aside0.mk (ho); clear HO358; clear HO362; clear HB; clear HO365; have HO358 := n0_; have HO362 := n1_; have HB := n2_; have HO368 := n3_; clear n0_ n1_ n2_ n3_; clear ho hb hg hat) | ((with_reducible refine gate_builtin (b := .append) (xs := #[.tmp 34, .tmp 35]) rfl ?_); (try (refine gate_guard (by rfl) ?_; dsimp only)); at_builtin; refine Kd.R_append_rows (Kd.int .u8) (w0 := w) w.heap.size rfl (.tmp 34) (.tmp 35) 42 5 (.int .u8 0) 1 rfl Try.underlying42 info5 rfl (by decide) (by omega) v367 y366 l1 _ _ _ (fun k_ => some k_ ≠ (.slice Ao128 t359.length co128 : Value).ownBlock) (fun _ => False) rfl rfl ?aO ?aR (fun _ _ h => h) (fun _ h => h.elim) ?aF ?aB ?aS ?aL ?_; (case aR => exact Kd.C_w (Kd.C_below HR1.out HB.out)); (case aB => exact (below_w HB.out)); (case aF => exact (fun k_ hk => Kd.fresh' (Kd.R_lt (by exact Kd.R_w HO362.out)) k_ hk)); (case aO => exact (by exact Kd.R_w HO368.out)); (case aS => exact (below_size (below_w HB.out))); (case aL => have := LMc12.out; omega); intro v370 w129 ho hb hg hat; rw [← Ny369.out] at ho; have n0_ := Aside0.mk (Kd.R_over' (by exact Kd.R_w HO358.out) (Kd.R_typed (by exact Kd.R_w HO368.out)) (by decide) hg); have n1_ := Aside0.mk (Kd.R_after (ok := (fun _ => True)) (by exact Kd.R_w HO362.out) hg hat); have n2_ := Aside0.mk (hb); have n3_ := Aside0.mk (ho); clear HO358; clear HO362; clear HB; clear HO368; have HO358 := n0_; have HO362 := n1_; have HB := n2_; have HO371 := n3_; clear n0_ n1_ n2_ n3_; clear ho hb hg hat; obtain ⟨Ao130, co130, eo130⟩ := Kd.R_slice HO371.out; subst eo130) | ((with_reducible refine gate_callee (f := 28) rfl ?_); refine goesL_ (some 37) rfl rfl Try.func28 (by kernel_rfl) rfl #[.slice Ao130 y369.length co130] rfl (by (try simp only [List.map_toArray, List.map_cons, List.map_nil]); first | done | rfl | simp) ?_; (with_reducible refine (plan_Decode.calls kj4 _ _ y369 t372 t373 _ ?side1 ?side2 A13.out).mono ?_); (case side1 => exact Kd.C_w (Kd.R_reads' HO371.out).2.2); (case side2 => exact (Kd.R_reads' HO371.out).2.1); rintro e w131 ⟨v374, rfl, ho0, hb⟩; refine ⟨_, rfl, ?_⟩; have n0_ := Aside0.mk (Kd.R_elder' (by exact Kd.R_w HO358.out) (Kd.R_base ho0) hb); have n1_ := Aside0.mk (Kd.R_below (by exact Kd.R_w HO362.out) hb); have n2_ := Aside0.mk (Kd.R_below (by exact Kd.R_w HO371.out) hb); have n3_ := Aside0.mk (Kd.R_lower (Kd.R_new' ho0 (Kd.R_lt (by exact Kd.R_w HO358.out))) (below_size (below_w HB.out))); have n4_ := Aside0.mk (below_step (below_w HB.out) hb); clear HO358; clear HO362; clear HO371; clear HB; have HO358 := n0_; have HO362 := n1_; have HO371 := n2_; have HO375 := n3_; have HB := n4_; clear n0_ n1_ n2_ n3_ n4_; (try clear hb); (try clear hb2); (try clear hk); (try clear hi); (try clear ho0)))
        go_ret
        exact ⟨by first | rfl | (simp [errW_none, errW_some] <;> rfl) | (simp [*, errW_none, errW_some] <;> rfl), by exact below_w HB.out⟩
      ·rw [if_neg c12] at H
       exact absurd H (by simp)
     ·rw [if_neg c11] at H
      exact absurd H (by simp)
 ·replace c4 := Bool.eq_false_iff.mpr c4
  subst c4
  have H1 : (some false) = some r := by rw [if_neg (show ¬ (false = true) by decide)] at H; exact H
  clear H
  have H := H1
  clear H1
  obtain rfl := Option.some.inj H
  go_enter Try.func7, Try.ntmps7
  go_wp2_with (first | ((with_reducible refine gate_callee (f := 20) rfl ?_); refine goesL_ (some 11) rfl rfl Try.func20 (by kernel_rfl) rfl #[] rfl (by (try simp only [List.map_toArray, List.map_cons, List.map_nil]); first | done | rfl | simp) ?_; (with_reducible refine (handofflaw10_planAlive.calls k  false _ A3.out).mono ?_); rintro e w132 ⟨rfl, hb⟩; refine ⟨_, rfl, ?_⟩; have n0_ := Aside0.mk (below_step (below_w HB.out) hb); clear HB; have HB := n0_; clear n0_; (try clear hb); (try clear hb2); (try clear hk); (try clear hi)))
  go_ret
  exact ⟨by first | rfl | (simp [errW_none, errW_some] <;> rfl) | (simp [*, errW_none, errW_some] <;> rfl), by exact below_w HB.out⟩

/-- THE ONE PURE STATEMENT of handofflaw10_PlanBack: yours. -/
def handofflaw10_PlanBack.Pure : Prop := ∀ (l0 : List Int) (l1 : List Int), l0.length ≤ maxLen → l0.length * 1 ≤ 140737488351232 → (∀ x ∈ l0, (Lit.int .u8 x).wf = true) → l1.length ≤ maxLen → l1.length * 1 ≤ 140737488351232 → (∀ x ∈ l1, (Lit.int .u8 x).wf = true) → ∃ k, handofflaw10_PlanBack.f k l0 l1 = some true
theorem handofflaw10_PlanBack.walk (P : handofflaw10_PlanBack.Pure) (a0 : Option Addr) (len0 cap0 : Nat) (z0 : List Int) (a1 : Option Addr) (len1 cap1 : Nat) (z1 : List Int) (w : World) (w0 : (a0 = none ∧ len0 = 0 ∧ cap0 = 0 ∧ z0 = []) ∨ ∃ x, a0 = some x ∧ len0 ≤ cap0 ∧ cap0 ≤ maxLen ∧ z0.length = cap0 ∧ (∀ i, i < z0.length → w.cell? (x.add i) = some (.int .u8 (z0.getD i 0))) ∧ ∀ n ∈ z0, (Lit.int .u8 n).wf = true) (y0 : len0 * 1 ≤ 140737488351232) (w1 : (a1 = none ∧ len1 = 0 ∧ cap1 = 0 ∧ z1 = []) ∨ ∃ x, a1 = some x ∧ len1 ≤ cap1 ∧ cap1 ≤ maxLen ∧ z1.length = cap1 ∧ (∀ i, i < z1.length → w.cell? (x.add i) = some (.int .u8 (z1.getD i 0))) ∧ ∀ n ∈ z1, (Lit.int .u8 n).wf = true) (y1 : len1 * 1 ≤ 140737488351232) :
    Calls Try.prog 7 #[.slice a0 len0 cap0, .slice a1 len1 cap1] w fun e w' => e = .returned (.bool true) ∧ Below w.heap.size w w' := by
  obtain ⟨l0, rfl, hr0, hm0, hw0, hc0⟩ := ReadsInt.ofRowC w0
  obtain ⟨l1, rfl, hr1, hm1, hw1, hc1⟩ := ReadsInt.ofRowC w1
  obtain ⟨k, h⟩ := P l0 l1 hm0 y0 hw0 hm1 y1 hw1
  refine (handofflaw10_PlanBack.calls k _ _ l0 _ _ l1 true w (Kd.C_of_reads (d := (0 : Int)) (h1 := fun _ => rfl) hr0) hc0 (Kd.C_of_reads (d := (0 : Int)) (h1 := fun _ => rfl) hr1) hc1 h).mono ?_
  rintro e w' ⟨rfl, hd⟩
  exact ⟨rfl, hd⟩

end Go.Proofs.Ytjmpaeckpbpclaa.PPlK
