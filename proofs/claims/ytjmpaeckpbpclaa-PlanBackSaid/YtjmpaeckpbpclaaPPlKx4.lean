-- Out of the translation, by a program of this session.
import Derived.Test.YtjmpaeckpbpclaaWShort
import Derived.Test.YtjmpaeckpbpclaaPPlKx0
import Derived.Test.YtjmpaeckpbpclaaPPlKx2
import Derived.Test.YtjmpaeckpbpclaaPPlKx3
namespace Go.Proofs.Ytjmpaeckpbpclaa.PPlK
open Go.RowKit Go.Proofs.YtjmpaeckpbpclaaW.PrintWords Go.Proofs.YtjmpaeckpbpclaaW.PrintLast Go.Proofs.YtjmpaeckpbpclaaW.PrintMore
attribute [local go_sem] max2_int min2_int max_two min_two max_three min_three max_four min_four   -- for this text's walks alone
set_option linter.unusedVariables false
set_option linter.unusedSimpArgs false

/-! ### plan_Decode: function 28 -/
/-- Rows that are filled one after another: the one at i grows, in blocks from N1 on. -/
structure plan_Decode.Mid (w0 w : World) (gr gp n cap i N1 : Nat) (P : List (List S39)) (cs : Array Value) : Prop where
  heap : w.heap[gp]? = some (.cells cs 111 (0, 0))
  size : cs.size = cap
  ncap : n ≤ cap
  cmax : cap ≤ maxLen
  plen : P.length = i
  done : ∀ (j : Nat) (l : List S39), P[j]? = some l → ∃ u, cs[j]? = some u ∧ Kd.R k39 39 w w0.heap.size (fun k => (k ≠ gp ∧ k ≠ gr) ∧ k < N1) u l
  rest : ∀ j : Nat, i < j → j < n → ∃ u, cs[j]? = some u ∧ Kd.R k39 39 w w0.heap.size (fun _ => False) u []
  gpN : gp < N1
  grN : gr < N1
  ne : gp ≠ gr
  NS : N1 ≤ w.heap.size
  base : w0.heap.size ≤ gp

/-- The same between two of them. -/
structure plan_Decode.Rows (w0 w : World) (gr gp n cap i : Nat) (P : List (List S39)) (cs : Array Value) : Prop where
  heap : w.heap[gp]? = some (.cells cs 111 (0, 0))
  size : cs.size = cap
  ncap : n ≤ cap
  cmax : cap ≤ maxLen
  plen : P.length = i
  done : ∀ (j : Nat) (l : List S39), P[j]? = some l → ∃ u, cs[j]? = some u ∧ Kd.R k39 39 w w0.heap.size (fun k => k ≠ gp ∧ k ≠ gr) u l
  rest : ∀ j : Nat, i ≤ j → j < n → ∃ u, cs[j]? = some u ∧ Kd.R k39 39 w w0.heap.size (fun _ => False) u []
  gpN : gp < w.heap.size
  grN : gr < w.heap.size
  ne : gp ≠ gr
  base : w0.heap.size ≤ gp

namespace plan_Decode
variable {w0 w w1 : World} {gr gp n cap i N1 : Nat} {P : List (List S39)} {cs : Array Value}

theorem Mid.step (h : Mid w0 w gr gp n cap i N1 P cs) (hs : w.heap.size ≤ w1.heap.size) (hm : ∀ k, k ≠ gr → k < N1 → w1.heap[k]? = w.heap[k]?) : Mid w0 w1 gr gp n cap i N1 P cs :=
  { h with
    heap := (hm gp h.ne h.gpN).trans h.heap
    done := fun j l hj => by
      obtain ⟨u, hu, hr⟩ := h.done j l hj
      exact ⟨u, hu, Kd.R_step hr (fun k hk _ => hm k hk.1.2 hk.2)⟩
    rest := fun j hj hn => by
      obtain ⟨u, hu, hr⟩ := h.rest j hj hn
      exact ⟨u, hu, Kd.R_step hr (fun k hk _ => hk.elim)⟩
    NS := Nat.le_trans h.NS hs }

theorem Rows.step (h : Rows w0 w gr gp n cap i P cs) (hs : w.heap.size ≤ w1.heap.size) (hm : ∀ k, k ≠ gr → k < w.heap.size → w1.heap[k]? = w.heap[k]?) : Rows w0 w1 gr gp n cap i P cs :=
  { h with
    heap := (hm gp h.ne h.gpN).trans h.heap
    done := fun j l hj => by
      obtain ⟨u, hu, hr⟩ := h.done j l hj
      exact ⟨u, hu, Kd.R_step hr (fun k hk hl => hm k hk.2 hl)⟩
    rest := fun j hj hn => by
      obtain ⟨u, hu, hr⟩ := h.rest j hj hn
      exact ⟨u, hu, Kd.R_step hr (fun k hk _ => hk.elim)⟩
    gpN := Nat.lt_of_lt_of_le h.gpN hs
    grN := Nat.lt_of_lt_of_le h.grN hs }

theorem Rows.mid (h : Rows w0 w gr gp n cap i P cs) (hi : i < n) : ∃ v, cs[i]? = some v ∧ Kd.R k39 39 w w0.heap.size (fun k => w.heap.size ≤ k) v [] ∧ Mid w0 w gr gp n cap i w.heap.size P cs := by
  obtain ⟨v, hv, hr⟩ := h.rest i (Nat.le_refl _) hi
  refine ⟨v, hv, Kd.R_mono hr (fun _ hk => hk.elim), { h with
    done := fun j l hj => ?_, rest := fun j hj hn => h.rest j (by omega) hn, NS := Nat.le_refl _ }⟩
  obtain ⟨u, hu, hr⟩ := h.done j l hj
  exact ⟨u, hu, Kd.R_mono (Kd.R_bound hr) (fun k hk => ⟨hk.1, hk.2.2.1⟩)⟩

theorem Mid.rows (h : Mid w0 w gr gp n cap i N1 P cs) {v : Value} {cur : List S39} (hv : cs[i]? = some v) (hr : Kd.R k39 39 w w0.heap.size (fun k => N1 ≤ k) v cur) : Rows w0 w gr gp n cap (i + 1) (P ++ [cur]) cs :=
  { heap := h.heap, size := h.size, ncap := h.ncap, cmax := h.cmax, plen := by rw [List.length_append, h.plen]; rfl,
    done := fun j l hj => by
      rcases Nat.lt_or_ge j P.length with hl | hl
      · rw [List.getElem?_append_left hl] at hj
        obtain ⟨u, hu, hr⟩ := h.done j l hj
        exact ⟨u, hu, Kd.R_mono hr (fun k hk => hk.1)⟩
      · rw [List.getElem?_append_right hl] at hj
        have he : j - P.length = 0 := by
          rcases Nat.eq_zero_or_pos (j - P.length) with h0 | h0
          · exact h0
          · rw [List.getElem?_eq_none (by simp; omega)] at hj; cases hj
        rw [he] at hj
        obtain rfl : cur = l := by simpa using hj
        obtain rfl : j = i := by have := h.plen; omega
        exact ⟨v, hv, Kd.R_mono hr (fun k hk => ⟨fun e => by have := h.gpN; omega, fun e => by have := h.grN; omega⟩)⟩
    rest := fun j hj hn => h.rest j (by omega) hn
    gpN := Nat.lt_of_lt_of_le h.gpN h.NS, grN := Nat.lt_of_lt_of_le h.grN h.NS, ne := h.ne, base := h.base }

theorem Mid.store (h : Mid w0 w gr gp n cap i N1 P cs) (v : Value) : Mid w0 (w.setCell ⟨gp, i, none⟩ v) gr gp n cap i N1 P (cs.setIfInBounds i v) :=
  { heap := blk_put h.heap i v rfl, size := by rw [Array.size_setIfInBounds]; exact h.size, ncap := h.ncap, cmax := h.cmax, plen := h.plen,
    done := fun j l hj => by
      obtain ⟨u, hu, hr⟩ := h.done j l hj
      have hlt : j < P.length := by
        rcases Nat.lt_or_ge j P.length with hl | hl
        · exact hl
        · rw [List.getElem?_eq_none hl] at hj; cases hj
      refine ⟨u, ?_, Kd.R_far hr (fun k hk => hk.1.1) v⟩
      rw [Array.getElem?_setIfInBounds_ne (by have := h.plen; omega)]
      exact hu
    rest := fun j hj hn => by
      obtain ⟨u, hu, hr⟩ := h.rest j hj hn
      refine ⟨u, ?_, Kd.R_far hr (fun k hk => hk.elim) v⟩
      rw [Array.getElem?_setIfInBounds_ne (by omega)]
      exact hu
    gpN := h.gpN, grN := h.grN, ne := h.ne, base := h.base
    NS := by have := h.NS; simpa [World.setCell] using this }

theorem Mid.stored (h : Mid w0 w gr gp n cap i N1 P cs) (hi : i < n) (v : Value) : (cs.setIfInBounds i v)[i]? = some v := by
  have h1 := h.size
  have h2 := h.ncap
  rw [Array.getElem?_setIfInBounds_self, if_pos (by omega)]

theorem Rows.done' (h : Rows w0 w gr gp n cap n P cs) : Kd.R (Kd.slice 39 k39) 111 w w0.heap.size (fun _ => True) (.slice (some ⟨gp, 0, none⟩) n cap) P := by
  have hsz := h.size
  have hnc := h.ncap
  refine ⟨fun _ _ => trivial, cs.toList.take n, ⟨?_, .inr ⟨gp, cap, cs, by rw [h.plen], h.base, h.heap, by rw [h.plen]; exact hnc, h.cmax, ?_, ?_⟩⟩, ?_, ?_⟩
  · rw [List.length_take, Array.length_toList, h.plen]
    show min n cs.size = n * 1
    omega
  · show cs.size = cap * 1
    omega
  · show cs.toList.take (P.length * 1) = _
    rw [h.plen, Nat.mul_one]
  · rw [List.length_take, Array.length_toList, h.plen]
    show min n cs.size = n * 1
    omega
  · intro j p hj
    obtain ⟨u, hu, hr⟩ := h.done j p hj
    have hlt : j < P.length := by
      rcases Nat.lt_or_ge j P.length with hl | hl
      · exact hl
      · rw [List.getElem?_eq_none hl] at hj; cases hj
    rw [h.plen] at hlt
    have e : List.take 1 (List.drop j (cs.toList.take n)) = [u] := by
      have h1 : (cs.toList.take n)[j]? = some u := by rw [List.getElem?_take_of_lt hlt, Array.getElem?_toList]; exact hu
      obtain ⟨hj2, h2⟩ := List.getElem?_eq_some_iff.1 h1
      rw [List.drop_eq_getElem_cons hj2, h2]
      rfl
    show (Kd.slice 39 k39).M _ _ _ _ (List.take 1 (List.drop (j * 1) (cs.toList.take n)))
    rw [Nat.mul_one, e]
    exact ⟨u, rfl, Kd.R_mono hr (fun k hk => ⟨trivial, by simp only [Value.ownBlock]; intro he; injection he with he; exact hk.1 he⟩)⟩

/-- Rows as they are made: none holds a thing yet. -/
theorem rows_made {v1 : Value} {b0 : Nat} (hr : Kd.R (Kd.slice 39 k39) 111 w w0.heap.size (fun k => k = b0) v1 (List.replicate n [])) (hb : ∃ b, v1.ownBlock = some b ∧ b0 ≤ b) (hg : gr < b0) (hw : w0.heap.size ≤ b0) :
    ∃ cap cs, v1 = .slice (some ⟨b0, 0, none⟩) n cap ∧ Rows w0 w gr b0 n cap 0 [] cs := by
  obtain ⟨hok, inner, ⟨hl, ho⟩, hrep⟩ := hr
  obtain ⟨b, hb1, hb2⟩ := hb
  obtain rfl := hok b hb1
  rcases ho with ⟨rfl, _⟩ | ⟨g, cap, cur, rfl, hg1, hg2, hg3, hg4, hg5, hg6⟩
  · simp [Value.ownBlock] at hb1
  obtain rfl : g = b := by simpa [Value.ownBlock] using hb1
  rw [List.length_replicate] at hg3 hg6 hl
  refine ⟨cap, cur, by rw [List.length_replicate], { heap := hg2, size := by have h1 := hg5; show cur.size = cap; rw [h1]; exact Nat.mul_one _, ncap := hg3, cmax := hg4, plen := rfl, done := fun j l hj => by simp at hj, rest := fun j _ hj => ?_, gpN := blk_lt hg2, grN := Nat.lt_trans hg (blk_lt hg2), ne := by omega, base := hw }⟩
  have h1 := hrep.2 j [] (by rw [List.getElem?_replicate, if_pos hj])
  obtain ⟨u, hu, hr⟩ := h1
  refine ⟨u, ?_, Kd.R_mono hr (fun k hk => hk.2 (by rw [hk.1]; rfl))⟩
  have h2 : (List.take 1 (List.drop (j * 1) inner))[0]? = some u := by
    have h3 : List.take (Kd.slice 39 k39).sz (List.drop (j * (Kd.slice 39 k39).sz) inner) = List.take 1 (List.drop (j * 1) inner) := rfl
    rw [h3] at hu
    rw [hu]
    rfl
  rw [List.getElem?_take_of_lt (by omega), List.getElem?_drop, Nat.mul_one, Nat.add_zero] at h2
  rw [← hg6] at h2
  have h4 : cur.toList[j]? = some u := by
    rw [← h2, List.getElem?_take_of_lt]
    show j < n * 1
    omega
  rw [Array.getElem?_toList] at h4
  exact h4
end plan_Decode
def plan_Decode.T8 : Bool × List (List Nat × List Nat) := (true, [([], []), ([], []), ([], []), ([], []), ([2, 3], [2, 3]), ([4], [4]), ([], []), ([6], [6]), ([7], [7]), ([5, 8, 7], [5, 8]), ([0, 1, 0, 1, 2, 3, 4, 5, 6, 7, 8, 9], [0, 1]), ([10, 9, 9, 0, 1, 2, 3, 4, 5, 6, 7, 8, 9], [9, 10])])
def plan_Decode.B8 : List Nat := [0, 0, 0, 0, 12, 28, 0, 64, 192, 508, 1023, 2047]
theorem plan_Decode.tab8 : rtab .any (opsOf Try.f28 8) = plan_Decode.T8 := by kernel_rfl
theorem plan_Decode.bits8 : waitsOk plan_Decode.T8.2 plan_Decode.B8 = true := by kernel_rfl

def plan_Decode.ops (k : Nat) (b : List Int) : Nat → Int → List S39 → Option (List S39 × Int)
  | 0, a, l => some (l, a)
  | m + 1, a, l => (plan_reader_one.f k b a).bind fun t => if l.length < 1000000 then plan_Decode.ops k b m t.2.2.2.2.2.2 (l ++ [⟨t.1, t.2.1, t.2.2.1, t.2.2.2.1, t.2.2.2.2.1, t.2.2.2.2.2.1⟩]) else none
def plan_Decode.gs (k : Nat) (b : List Int) : Nat → Int → List (List S39) → Option (List (List S39) × Int)
  | 0, a, p => some (p, a)
  | m + 1, a, p => (plan_reader_next.f b a 17).bind fun t => if 0 ≤ t.1 ∧ t.1 < 1000 then (plan_Decode.ops k b t.1.toNat t.2 []).bind fun u => plan_Decode.gs k b m u.2 (p ++ [u.1]) else none
def plan_Decode.f (k : Nat) (l0 : List Int) : Option (List (List S39) × Int) := (plan_reader_next.f l0 0 8).bind fun t => if 0 ≤ t.1 ∧ t.1 < 1000 then plan_Decode.gs k l0 (t.1.toNat + 1) t.2 [] else none
theorem plan_Decode.ops_mono (k : Nat) (b : List Int) : ∀ m a l, LeO (plan_Decode.ops k b m a l) (plan_Decode.ops (k + 1) b m a l) := by
  intro m
  induction m with
  | zero => exact fun a l => LeO.refl _
  | succ m ih => exact fun a l => LeO.bind (plan_reader_one.mono _ _ _) (fun t => LeO.ite (ih _ _) (LeO.none _))
theorem plan_Decode.gs_mono (k : Nat) (b : List Int) : ∀ m a p, LeO (plan_Decode.gs k b m a p) (plan_Decode.gs (k + 1) b m a p) := by
  intro m
  induction m with
  | zero => exact fun a l => LeO.refl _
  | succ m ih => exact fun a l => LeO.bind (LeO.refl _) (fun t => LeO.ite (LeO.bind (plan_Decode.ops_mono k b _ _ _) (fun u => ih _ _)) (LeO.none _))
theorem plan_Decode.mono : ∀ a0 k, LeO (plan_Decode.f k a0) (plan_Decode.f (k + 1) a0) := fun a0 k => LeO.bind (LeO.refl _) (fun _ => LeO.ite (plan_Decode.gs_mono k a0 _ _ _) (LeO.none _))

open plan_Decode in
set_option maxHeartbeats 4000000 in
set_option maxRecDepth 100000 in
theorem plan_Decode.calls (k : Nat) (A0 : Option Addr) (c0 : Nat) (l0 : List Int) (r1 : List (List S39)) (r2 : Int) (w : World) (hr0 : Kd.C (Kd.int .u8) w A0 l0.length l0) (_hc0 : l0.length ≤ c0) (h : plan_Decode.f k l0 = some (r1, r2)) :
  Calls Try.prog 28 #[.slice A0 l0.length c0] w fun e w' => ∃ v0_ : Value, e = .returned (.tuple #[v0_, .int .i64 r2]) ∧ Kd.R (Kd.slice 39 k39) 111 w' w.heap.size (fun _ => True) v0_ r1 ∧ Below w.heap.size w w' := by
 have hu39 := Try.underlying39
 have hu111 := Try.underlying111

 have H0 := Option.bind_eq_some_iff.mp h
 obtain ⟨⟨t0, a0⟩, A1, H1⟩ := H0
 simp only at H1
 by_cases ct : 0 ≤ t0 ∧ t0 < 1000
 ·rw [if_pos ct] at H1
  obtain ⟨m, rfl⟩ := Int.eq_ofNat_of_zero_le ct.1
  rw [Int.toNat_natCast] at H1
  have hm : m < 1000 := by omega
  obtain ⟨n, hn⟩ : ∃ n, n = m + 1 := ⟨_, rfl⟩
  rw [← hn] at H1
  have HI := Aside0.mk (IsS125.new w w A0 c0 l0 0 (Below.refl _ _) hr0)
  have HG := Aside0.mk H1
  have HA := Aside0.mk A1
  clear h A1 H1 ct hr0
  go_enter Try.func28, Try.ntmps28
  go_wp2_with fail
  go_at_call 70
  refine (plan_reader_next.calls w.heap.size l0 0 8 m a0 w _ HI.out (below_alloc (Below.refl _ _) _) HA.out).mono ?_
  rintro e w2 ⟨rfl, hI, hB, hK⟩
  have hlt2 : w.heap.size < w2.heap.size := hI.lt
  have HI2 := Aside0.mk hI
  have HB2 := Aside0.mk hB
  clear hI hB hK HI HA
  go_wp2_with ((with_reducible refine gate_dst (N := 12) rfl ?_); (try (refine gate_guard (by rfl) ?_; dsimp only)); refine Kd.R_make (Kd.slice 39 k39) (w0 := w) w.heap.size 111 rfl (N := 12) rfl 45 _ _ rfl (1 + (m : Int)) rfl rfl Try.underlying45 (.slice none 0 0) 24 info111 rfl (by decide) (by omega) [] (ok := fun k => k = w2.heap.size) (okp := fun _ => False) ?hz (fun _ hk => hk.elim) rfl (by omega) (by omega) HB2.out (Nat.le_of_lt hlt2) ?_; (case hz => exact ⟨_, rfl, Kd.R_nil _ _ _ _ _⟩); intro v3 w3 ho hb hg hnew; rw [show (1 + (m : Int)).toNat = n by omega] at ho; have HB3 := Aside0.mk hb; have HG3 := Aside0.mk hg; obtain ⟨cap, cs0, e3, hrw⟩ := rows_made (w0 := w) (n := n) (gr := w.heap.size) ho hnew hlt2 (Nat.le_of_lt hlt2); subst e3; have HRW := Aside0.mk hrw; have hnb : n ≤ 1000 := (by omega); clear ho hb hg hnew hrw hn hm)
  have HI3 : Aside0 (IsS125 w w3 w.heap.size l0 a0) := ⟨HI2.out.grown HG3.out (by simp)⟩
  clear HG3 HI2 HB2 hlt2
  go_loopg [15] n (fun kq v15 wr => ∃ (i : Nat) (a : Int) (P : List (List S39)) (cs : Array Value), v15 = .int .i64 i ∧ i ≤ n ∧ Aside0 (kq = n - i) ∧ Aside0 (gs k l0 (n - i) a P = some (r1, r2)) ∧ Aside0 (Rows w wr w.heap.size w2.heap.size n cap i P cs) ∧ Aside0 (IsS125 w wr w.heap.size l0 a) ∧ Aside0 (Below w.heap.size w wr))
  case atStart => exact ⟨0, a0, [], cs0, rfl, by omega, ⟨by omega⟩, HG, HRW, HI3, HB3⟩
  case round =>
   clear HRW HI3 HB3 HG
   obtain ⟨i, a, P, cs, rfl, hi, HK, HG, HRW, HI, HB⟩ := hrel
   by_cases ci : i < n
   ·have d1 : decide ((i : Int) < (n : Int)) = true := decide_eq_true (by omega)
    have d1' : decide (i < n) = true := decide_eq_true ci
    obtain ⟨q, hq⟩ : ∃ q, n - i = q + 1 := ⟨n - i - 1, by omega⟩
    have hG := HG.out
    rw [hq] at hG
    obtain ⟨⟨t, a1⟩, A2, hG1⟩ := Option.bind_eq_some_iff.mp hG
    simp only at hG1
    by_cases c2 : 0 ≤ t ∧ t < 1000
    ·rw [if_pos c2] at hG1
     obtain ⟨⟨cu, au⟩, A3, hG2⟩ := Option.bind_eq_some_iff.mp hG1
     simp only at hG2
     obtain ⟨m2, rfl⟩ := Int.eq_ofNat_of_zero_le c2.1
     rw [Int.toNat_natCast] at A3
     have hm2 : m2 < 1000 := by omega
     have HA2 := Aside0.mk A2
     have HA3 := Aside0.mk A3
     have HG2 : Aside0 (gs k l0 (n - (i + 1)) au (P ++ [cu]) = some (r1, r2)) := ⟨by rw [show n - (i + 1) = q by omega]; exact hG2⟩
     clear hG hG1 hG2 A2 A3 c2 HG hq
     go_wp2_with fail
     go_at_call 70
     refine (plan_reader_next.calls w.heap.size l0 a 17 m2 a1 w _ HI.out HB.out HA2.out).mono ?_
     rintro e w5 ⟨rfl, hI, hB, hK⟩
     obtain ⟨v0, hv, hr, hmid⟩ := (HRW.out.step hK.1 (fun k hk hl => hK.2 k hl hk (by simp))).mid ci
     obtain ⟨N1, hN1⟩ : ∃ N, w5.heap.size = N := ⟨_, rfl⟩
     rw [hN1] at hr hmid
     have HM0 := Aside0.mk hmid
     have HV0 := Aside0.mk (And.intro hv hr)
     have HI0 := Aside0.mk hI
     have HB0 := Aside0.mk hB
     clear hmid hv hr hI hB hK HRW HI HB hN1 HA2
     go_wp2_with fail
     go_loopg [20] m2 (fun kq v20 wr => ∃ (j : Nat) (a3 : Int) (cur : List S39) (v : Value) (cs : Array Value), v20 = .int .i64 j ∧ j ≤ m2 ∧ Aside0 (kq = m2 - j) ∧ Aside0 (ops k l0 (m2 - j) a3 cur = some (cu, au)) ∧ Aside0 (Mid w wr w.heap.size w2.heap.size n cap i N1 P cs) ∧ Aside0 (cs[i]? = some v ∧ Kd.R k39 39 wr w.heap.size (fun k => N1 ≤ k) v cur) ∧ Aside0 (IsS125 w wr w.heap.size l0 a3) ∧ Aside0 (Below w.heap.size w wr))
     case atStart => exact ⟨0, a1, [], v0, cs, rfl, by omega, ⟨by omega⟩, HA3, HM0, HV0, HI0, HB0⟩
     case round =>
      clear HM0 HV0 HI0 HB0 HA3
      obtain ⟨j, a3, cur, v, cs, rfl, hj, HKj, HA, HM, HV, HI, HB⟩ := hrel
      by_cases cj : j < m2
      ·have d2 : decide ((j : Int) < (m2 : Int)) = true := decide_eq_true (by omega)
       have d2' : decide (j < m2) = true := decide_eq_true cj
       have hA := HA.out
       obtain ⟨q, hq⟩ : ∃ q, m2 - j = q + 1 := ⟨m2 - j - 1, by omega⟩
       rw [hq] at hA
       obtain ⟨⟨q1, q2, q3, q4, q5, q6, q7⟩, A4, hA1⟩ := Option.bind_eq_some_iff.mp hA
       simp only at hA1
       have hcl : cur.length < 1000000 := by
        rcases Nat.lt_or_ge cur.length 1000000 with h1 | h1
        ·exact h1
        ·rw [if_neg (by omega)] at hA1; cases hA1
       rw [if_pos hcl] at hA1
       have HCL := Aside0.mk hcl
       have HA4 := Aside0.mk A4
       obtain ⟨cur2, hc2⟩ : ∃ y, y = cur ++ [(⟨q1, q2, q3, q4, q5, q6⟩ : S39)] := ⟨_, rfl⟩
       have HA5 : Aside0 (ops k l0 (m2 - (j + 1)) q7 cur2 = some (cu, au)) := ⟨by rw [show m2 - (j + 1) = q by omega, hc2]; exact hA1⟩
       have HC2 := Aside0.mk hc2
       clear hA hA1 A4 hq hcl HA hc2
       obtain ⟨wr2, hwr⟩ : ∃ x, x = wr := ⟨_, rfl⟩
       subst hwr
       have hcell : wr2.cell? ⟨w2.heap.size, i, none⟩ = some v := (blk_cell HM.out.heap i).trans HV.out.1
       have p1 := eq_true (show 0 ≤ (i : Int) by omega)
       have p2 := eq_true (show (i : Int) < (n : Int) by omega)
       have p3 := eq_true ci
       go_wp2_with fail
       refine start_ (n := 12) (S := fun w' => w'.cell? ⟨w2.heap.size, i, none⟩ = some v) (ds := [11]) #[false, false, false, false, false, false, false, false, false, false, false, false] (by kernel_rfl) rfl rfl hcell (fun hHeld => ?_); refine with_tabW plan_Decode.tab8 plan_Decode.bits8 (fun HT_ HW_ => ?_)
       have HMd : Aside0 (Mid w wr2.drew w.heap.size w2.heap.size n cap i N1 P cs) := ⟨HM.out.step (Nat.le_refl _) (fun _ _ _ => rfl)⟩
       have HVd : Aside0 (cs[i]? = some v ∧ Kd.R k39 39 wr2.drew w.heap.size (fun k => N1 ≤ k) v cur) := ⟨HV.out.1, Kd.R_drew HV.out.2⟩
       have HId : Aside0 (IsS125 w wr2.drew w.heap.size l0 a3) := ⟨HI.out.drew⟩
       have HBd : Aside0 (Below w.heap.size w wr2.drew) := ⟨below_drew HB.out⟩
       clear HM HV HI HB hcell
       have HM := HMd
       have HV := HVd
       have HI := HId
       have HB := HBd
       clear HMd HVd HId HBd
       generalize wr2.drew = w10 at HM HV HI HB hHeld ⊢
       refine pure_ (i := 0) (N := some 22) (v := ?_) (a' := ?_) #[true, false, false, false, false, false, false, false, false, false, false, false] rfl rfl (any_of HT_.out (by kernel_rfl)) (fun _ _ _ h => h) (Or.inl ⟨by rfl, ?_⟩) ?_ ?_
       rotate_left
       ·intro w'
        go_simp
        with_reducible rfl
       rotate_left
       ·simp only [Act.put, List.setIfInBounds_toArray, List.set_cons_zero, List.set_cons_succ, i64_w, i32_w]
        rfl
       refine pure_ (i := 1) (N := some 23) (v := ?_) (a' := ?_) #[true, true, false, false, false, false, false, false, false, false, false, false] rfl rfl (any_of HT_.out (by kernel_rfl)) (fun _ _ _ h => h) (Or.inl ⟨by rfl, ?_⟩) ?_ ?_
       rotate_left
       ·intro w'
        go_simp
        with_reducible rfl
       rotate_left
       ·simp only [Act.put, List.setIfInBounds_toArray, List.set_cons_zero, List.set_cons_succ, i64_w, i32_w]
        rfl
       refine pure_ (i := 2) (N := some 24) (v := ?_) (a' := ?_) #[true, true, true, false, false, false, false, false, false, false, false, false] rfl rfl (any_of HT_.out (by kernel_rfl)) (fun _ _ _ h => h) (Or.inl ⟨by rfl, ?_⟩) ?_ ?_
       rotate_left
       ·intro w'
        go_simp
        with_reducible rfl
       rotate_left
       ·simp only [Act.put, List.setIfInBounds_toArray, List.set_cons_zero, List.set_cons_succ, i64_w, i32_w]
        rfl
       refine pure_ (i := 3) (N := some 25) (v := ?_) (a' := ?_) #[true, true, true, true, false, false, false, false, false, false, false, false] rfl rfl (any_of HT_.out (by kernel_rfl)) (fun _ _ _ h => h) (Or.inl ⟨by rfl, ?_⟩) ?_ ?_
       rotate_left
       ·intro w'
        go_simp
        with_reducible rfl
       rotate_left
       ·simp only [Act.put, List.setIfInBounds_toArray, List.set_cons_zero, List.set_cons_succ, i64_w, i32_w]
        rfl
       refine pure_ (i := 4) (N := some 26) (v := ?_) (a' := ?_) #[true, true, true, true, true, false, false, false, false, false, false, false] rfl rfl (any_of HT_.out (by kernel_rfl)) (fun _ _ _ h => h) (Or.inl ⟨by rfl, ?_⟩) ?_ ?_
       rotate_left
       ·intro w'
        go_simp
        with_reducible rfl
       rotate_left
       ·simp only [Act.put, List.setIfInBounds_toArray, List.set_cons_zero, List.set_cons_succ, i64_w, i32_w]
        rfl
       refine pure_ (i := 6) (N := some 28) (v := ?_) (a' := ?_) #[true, true, true, true, true, false, true, false, false, false, false, false] rfl rfl (any_of HT_.out (by kernel_rfl)) (fun _ _ _ h => h) (Or.inl ⟨by rfl, ?_⟩) ?_ ?_
       rotate_left
       ·intro w'
        go_simp
        with_reducible rfl
       rotate_left
       ·simp only [Act.put, List.setIfInBounds_toArray, List.set_cons_zero, List.set_cons_succ, i64_w, i32_w]
        rfl
       refine take_ (i := 5) (N := some 27) (v := ?_) (a' := ?_) #[true, true, true, true, true, true, true, false, false, false, false, false] rfl rfl (take_ofW HT_.out HW_.out (by kernel_rfl)) (fun _ _ _ h => h) (Or.inl ⟨by rfl, ?_⟩) hHeld ?_ ?_
       rotate_left
       ·intro w' s0
        go_simp
        with_reducible rfl
       rotate_left
       ·simp only [Act.put, List.setIfInBounds_toArray, List.set_cons_zero, List.set_cons_succ, i64_w, i32_w]
        rfl
       refine one_ (i := 7) (N := some 29) #[true, true, true, true, true, true, true, true, false, false, false, false] rfl rfl (one_of HT_.out (by kernel_rfl)) (by decide) (fun K hK => ?_)
       refine goes_ Try.func71 (by kernel_rfl) rfl #[.pointer (some ⟨w.heap.size, 0, none⟩)] (by rfl) rfl rfl (by (try simp only [List.map_toArray, List.map_cons, List.map_nil]); first | done | rfl) ?_
       refine (plan_reader_one.calls k w.heap.size l0 a3 q1 q2 q3 q4 q5 q6 q7 w w10 HI.out HB.out HA4.out).mono ?_
       rintro e w11 ⟨v4, rfl, hr4, hI, hB, hKp⟩
       refine ⟨_, rfl, ?_⟩
       have HM2 := Aside0.mk (HM.out.step hKp.1 (fun k hk hl => hKp.2 k (Nat.lt_of_lt_of_le hl HM.out.NS) hk (by simp)))
       have hvlt : ∀ k, v.ownBlock = some k → k < w10.heap.size := Kd.R_lt HV.out.2
       have HV2 := Aside0.mk (And.intro HV.out.1 (Kd.R_step HV.out.2 (fun k hk hl => hKp.2 k hl (fun e => by have := HM.out.grN; omega) (by simp))))
       have HV4 : Aside0 (Kd.R k116 116 w11 w.heap.size (fun k => N1 ≤ k ∧ some k ≠ v.ownBlock) v4 q5) := ⟨Kd.R_lower (Kd.R_mono (Kd.R_bound hr4) (fun k hk => ⟨Nat.le_trans HM.out.NS hk.2.1, fun e => by have h1 := hvlt k e.symm; have h2 := hk.2.1; omega⟩)) HB.out.size⟩
       have HL2 := Aside0.mk (show ∀ k, v.ownBlock = some k → k < w11.heap.size from fun k hk => Nat.lt_of_lt_of_le (hvlt k hk) hKp.1)
       have HI2 := Aside0.mk hI
       have HB2 := Aside0.mk hB
       clear HM HV HI HB hr4 hI hB hKp hvlt hHeld
       refine hK.out _ _ ((blk_cell HM2.out.heap i).trans HV2.out.1) (fun hHeld => ?_)
       clear hK K
       refine norm_ (a' := ?_) ?_ ?_
       rotate_left
       ·show Act.put _ (some 29) _ = _
        simp only [Act.put, List.setIfInBounds_toArray, List.set_cons_zero, List.set_cons_succ, i64_w, i32_w]
        rfl
       refine one_ (i := 8) (N := some 30) #[true, true, true, true, true, true, true, true, true, false, false, false] rfl rfl (one_of HT_.out (by kernel_rfl)) (by decide) (fun K hK => ?_)
       refine Kd.R_lit_step k39 (w0 := w) w.heap.size 39 ?hg (N := 30) ?hd (xs := ([(⟨q1, q2, q3, q4, q5, q6⟩ : S39)] : List S39)) (inner := [.int .i64 q1, .int .i64 q2, .int .i64 q3, .int .i64 q4, v4, .bool q6]) (ok := fun k => N1 ≤ k ∧ some k ≠ v.ownBlock) (okp := fun k => N1 ≤ k ∧ some k ≠ v.ownBlock) ?hr ?hp (fun _ hk => hk) ⟨HM2.out.NS, fun e => Nat.lt_irrefl _ (HL2.out _ e.symm)⟩ HB2.out (below_size HB2.out) (by simp) ?_
       (case hd => rfl)
       (case hg => rfl)
       (case hr => first | (go_simp; done) | (go_simp; rfl))
       (case hp => exact (Reps.none _ _).snoc (k39_mkM _ _ _ _ HV4.out) rfl)
       intro v5 w12 ho hb hg_ hnew_
       have HM3 := Aside0.mk (HM2.out.step hg_.size (fun k hk hl => hg_.block k (Nat.lt_of_lt_of_le hl HM2.out.NS) (by simp)))
       have HV3 := Aside0.mk (And.intro HV2.out.1 (Kd.R_grown HV2.out.2 hg_ (by simp)))
       have HI3 := Aside0.mk (HI2.out.grown hg_ (by simp))
       have HB3 := Aside0.mk hb
       have HO3 := Aside0.mk ho
       clear HM2 HV2 HV4 HL2 HI2 HB2 ho hb hg_ hnew_ hHeld
       obtain ⟨Ao, co, eo⟩ := Kd.R_slice HO3.out
       subst eo
       refine hK.out _ _ ((blk_cell HM3.out.heap i).trans HV3.out.1) (fun hHeld => ?_)
       clear hK K
       refine norm_ (a' := ?_) ?_ ?_
       rotate_left
       ·show Act.put _ (some 30) _ = _
        simp only [Act.put, List.setIfInBounds_toArray, List.set_cons_zero, List.set_cons_succ, i64_w, i32_w]
        rfl
       refine one_ (i := 9) (N := some 31) #[true, true, true, true, true, true, true, true, true, true, false, false] rfl rfl (one_of HT_.out (by kernel_rfl)) (by decide) (fun K hK => ?_)
       obtain ⟨inn, hown, hrep⟩ := HO3.out.2
       refine Kd.R_append_rows_step k39 (Rr := k39.M w12 w.heap.size (fun k => (N1 ≤ k ∧ some k ≠ v.ownBlock) ∧ some k ≠ (Value.slice Ao ([(⟨q1, q2, q3, q4, q5, q6⟩ : S39)] : List S39).length co).ownBlock)) (w0 := w) w.heap.size (by rfl) (.tmp 27) (.tmp 30) 111 39 (.agg #[(.int .i64 0), (.int .i64 0), (.int .i64 0), (.int .i64 0), (.slice none 0 0), (.bool false)]) 64 rfl Try.underlying111 info39 rfl (by decide) (by omega) v cur [(⟨q1, q2, q3, q4, q5, q6⟩ : S39)] Ao 1 co (fun k => N1 ≤ k) (fun k => (N1 ≤ k ∧ some k ≠ v.ownBlock) ∧ some k ≠ (Value.slice Ao ([(⟨q1, q2, q3, q4, q5, q6⟩ : S39)] : List S39).length co).ownBlock) rfl rfl HV3.out.2 ?aR (fun _ _ h => h) (fun _ h => h.1) ?aF HB3.out (below_size HB3.out) ?aL ?_
       (case aR => obtain ⟨A', c', he, hrd⟩ := own_reads_row hown hrep rfl; injection he with he1 he2 he3; subst he1; exact hrd)
       (case aF => exact fun k hk => Nat.le_trans HM3.out.NS hk)
       (case aL => have := HCL.out; omega)
       intro v6 w13 ho hb hg hat
       rw [← HC2.out] at ho
       obtain ⟨A6, c6, e6⟩ := Kd.R_slice ho
       subst e6
       have HM4 := Aside0.mk (HM3.out.step hg.size (fun k hk hl => hg.block k (Nat.lt_of_lt_of_le hl HM3.out.NS) (fun e => by have := HV3.out.2.1 k e.symm; omega)))
       have HI4 := Aside0.mk (HI3.out.grown hg (fun e => by have := HV3.out.2.1 _ e.symm; have := HM3.out.grN; omega))
       have HB4 := Aside0.mk hb
       have HO4 := Aside0.mk ho
       have HC4 := Aside0.mk HV3.out.1
       clear HM3 HV3 HI3 HB3 HO3 ho hb hg hat hown hrep hHeld
       refine hK.out _ _ ((blk_cell HM4.out.heap i).trans HC4.out) (fun hHeld => ?_)
       clear hK K
       refine norm_ (a' := ?_) ?_ ?_
       rotate_left
       ·show Act.put _ (some 31) _ = _
        simp only [Act.put, List.setIfInBounds_toArray, List.set_cons_zero, List.set_cons_succ, i64_w, i32_w]
        rfl
       refine pure_ (i := 10) (N := some 32) (v := ?_) (a' := ?_) #[true, true, true, true, true, true, true, true, true, true, true, false] rfl rfl (any_of HT_.out (by kernel_rfl)) (fun _ _ _ h => h) (Or.inl ⟨by rfl, ?_⟩) ?_ ?_
       rotate_left
       ·intro w'
        go_simp
        with_reducible rfl
       rotate_left
       ·simp only [Act.put, List.setIfInBounds_toArray, List.set_cons_zero, List.set_cons_succ, i64_w, i32_w]
        rfl
       refine last_ (i := 11) (N := none) #[true, true, true, true, true, true, true, true, true, true, true, true] rfl rfl (one_of HT_.out (by kernel_rfl)) (by decide) (fun K hK => ?_)
       have hs16 : w13.cell? ⟨w2.heap.size, i, none⟩ = some v := (blk_cell HM4.out.heap i).trans HC4.out
       have hfs16 := blk_frozen HM4.out.heap i
       refine skip_ (w1 := ?_) (by rfl) rfl ?_ ?_
       rotate_left
       ·go_simp
        rfl
       refine hK.out _ _ ?_
       clear hK K
       refine done_ (done_of HT_.out (by kernel_rfl)) ?_
       go_wp2_with fail
       go_roundg (m2 - (j + 1))
       case measure => have := HKj.out; omega
       case rel => exact ⟨j + 1, q7, cur2, _, cs.setIfInBounds i (.slice A6 cur2.length c6), by go_num, by omega, ⟨rfl⟩, HA5, ⟨HM4.out.store (.slice A6 cur2.length c6)⟩, ⟨HM4.out.stored ci (.slice A6 cur2.length c6), Kd.R_far HO4.out (fun k hk e => by have := HM4.out.gpN; have : k = w2.heap.size := e; omega) (.slice A6 cur2.length c6)⟩, ⟨HI4.out.far (fun e => HM4.out.ne e.symm) (.slice A6 cur2.length c6)⟩, ⟨below_set HB4.out HM4.out.base⟩⟩
      ·have d2 : decide ((j : Int) < (m2 : Int)) = false := decide_eq_false (by omega)
       have d2' : decide (j < m2) = false := decide_eq_false cj
       have hA := HA.out
       rw [show m2 - j = 0 by omega] at hA
       obtain ⟨rfl, rfl⟩ : cur = cu ∧ a3 = au := by simpa [ops] using hA
       clear hA HA
       go_wp2_with fail
       go_roundg (n - (i + 1))
       case measure => have := HK.out; omega
       case rel => exact ⟨i + 1, a3, P ++ [cur], cs, by go_num, by omega, ⟨rfl⟩, HG2, ⟨HM.out.rows HV.out.1 HV.out.2⟩, HI, HB⟩
    ·rw [if_neg c2] at hG1
     cases hG1
   ·have d1 : decide ((i : Int) < (n : Int)) = false := decide_eq_false (by omega)
    have d1' : decide (i < n) = false := decide_eq_false ci
    obtain rfl : i = n := by omega
    have hG := HG.out
    rw [Nat.sub_self] at hG
    obtain ⟨rfl, rfl⟩ : P = r1 ∧ a = r2 := by simpa [gs] using hG
    obtain ⟨A5, c5, hblk, _, _⟩ := HI.out
    have hc1 : wr.cell? ⟨w.heap.size, 1, none⟩ = some (.int .i64 a) := (blk_cell hblk 1).trans rfl
    clear hG HG hblk
    go_wp2_with fail
    go_quiet (fail)
    go_wp2_with fail
    go_ret2
    exact ⟨_, rfl, Kd.R_drewN HRW.out.done' _, pw_below_drewN HB.out _⟩
 ·rw [if_neg ct] at H1
  cases H1

/-! ### handofflaw10_planAlive: function 20 -/
def handofflaw10_planAlive.f (k : Nat)  : Option (Bool) := (plan_Decode.f k (([0, 1, 1, 3, 200] : List Int))).bind fun bt143 => (if bt143.2 = 5 then (if (bt143.1.length : Int) = 1 then (if 0 < (bt143.1.length : Int) then (if ((rd_L7 bt143.1 0).length : Int) = 1 then (if 0 < ((rd_L7 bt143.1 0).length : Int) then ((plan_SameOp.f k ((rd_T39 (rd_L7 bt143.1 0) 0).f0) ((rd_T39 (rd_L7 bt143.1 0) 0).f1) ((rd_T39 (rd_L7 bt143.1 0) 0).f2) ((rd_T39 (rd_L7 bt143.1 0) 0).f3) ((rd_T39 (rd_L7 bt143.1 0) 0).f4) ((rd_T39 (rd_L7 bt143.1 0) 0).f5) 2 3 0 200 ([] : List (S116)) false).bind fun t150 => (some t150)) else (none)) else (some false)) else (none)) else (some false)) else (some false))
theorem handofflaw10_planAlive.mono : ∀ k, LeO (handofflaw10_planAlive.f k ) (handofflaw10_planAlive.f (k + 1) ) := by
 intro  k
 unfold handofflaw10_planAlive.f
 repeat' first | with_reducible first | exact plan_Decode.mono _ _ | exact plan_SameOp.mono _ _ _ _ _ _ _ _ _ _ _ _ _ | exact LeO.refl _ | exact LeO.none _ | refine LeO.ite ?_ ?_ | refine LeO.bind ?_ (fun _ => ?_) | exact plan_Decode.mono _ _ | exact plan_SameOp.mono _ _ _ _ _ _ _ _ _ _ _ _ _ | exact LeO.none _ | refine LeO.ite ?_ ?_ | refine LeO.bind ?_ (fun _ => ?_)
set_option maxHeartbeats 8000000 in
set_option maxRecDepth 100000 in
theorem handofflaw10_planAlive.calls (k : Nat)  (r : Bool) (w : World) (h : handofflaw10_planAlive.f k  = some r) :
  Calls Try.prog 20 #[] w fun e w' => e = .returned (.bool r) ∧ Below w.heap.size w w' := by
 have hu39 := Try.underlying39
 have HB := Aside0.mk (Below.refl w.heap.size w)
 have H : ((plan_Decode.f k (([0, 1, 1, 3, 200] : List Int))).bind fun bt143 => (if bt143.2 = 5 then (if (bt143.1.length : Int) = 1 then (if 0 < (bt143.1.length : Int) then (if ((rd_L7 bt143.1 0).length : Int) = 1 then (if 0 < ((rd_L7 bt143.1 0).length : Int) then ((plan_SameOp.f k ((rd_T39 (rd_L7 bt143.1 0) 0).f0) ((rd_T39 (rd_L7 bt143.1 0) 0).f1) ((rd_T39 (rd_L7 bt143.1 0) 0).f2) ((rd_T39 (rd_L7 bt143.1 0) 0).f3) ((rd_T39 (rd_L7 bt143.1 0) 0).f4) ((rd_T39 (rd_L7 bt143.1 0) 0).f5) 2 3 0 200 ([] : List (S116)) false).bind fun t150 => (some t150)) else (none)) else (some false)) else (none)) else (some false)) else (some false))) = some r := h
 clear h
 obtain ⟨y140, hy140⟩ : ∃ y_ : List Int, y_ = (([0, 1, 1, 3, 200] : List Int)) := ⟨_, rfl⟩
 replace H : ((plan_Decode.f k y140).bind fun bt143 => (if bt143.2 = 5 then (if (bt143.1.length : Int) = 1 then (if 0 < (bt143.1.length : Int) then (if ((rd_L7 bt143.1 0).length : Int) = 1 then (if 0 < ((rd_L7 bt143.1 0).length : Int) then ((plan_SameOp.f k ((rd_T39 (rd_L7 bt143.1 0) 0).f0) ((rd_T39 (rd_L7 bt143.1 0) 0).f1) ((rd_T39 (rd_L7 bt143.1 0) 0).f2) ((rd_T39 (rd_L7 bt143.1 0) 0).f3) ((rd_T39 (rd_L7 bt143.1 0) 0).f4) ((rd_T39 (rd_L7 bt143.1 0) 0).f5) 2 3 0 200 ([] : List (S116)) false).bind fun t150 => (some t150)) else (none)) else (some false)) else (none)) else (some false)) else (some false))) = some r := by first | (rw [hy140]; with_reducible exact H) | (have H2_ := (Option.bind_some _ _).symm.trans H; rw [hy140]; with_reducible exact H2_) | (have H2_ := (Option.bind_some _ _).symm.trans H; with_reducible exact H2_) | with_reducible exact H | (rw [hy140]; exact H) | exact H
 have Ny140 := Aside0.mk hy140
 clear hy140
 replace H := Option.bind_eq_some_iff.mp H
 obtain ⟨⟨t143, t144⟩, A10, H⟩ := H
 try dsimp only at H
 have A1 := Aside0.mk A10
 clear A10
 by_cases c2 : t144 = 5
 ·rw [if_pos c2] at H
  have c2b0 : (t144 == 5) = true := beq_iff_eq.mpr c2
  have c2b1 : (t144 != 5) = false := bne_eq_false_iff_eq.mpr c2
  clear c2
  by_cases c3 : (t143.length : Int) = 1
  ·rw [if_pos c3] at H
   have c3b0 : ((t143.length : Int) == 1) = true := beq_iff_eq.mpr c3
   have c3b1 : ((t143.length : Int) != 1) = false := bne_eq_false_iff_eq.mpr c3
   clear c3
   by_cases c4 : 0 < (t143.length : Int)
   ·rw [if_pos c4] at H
    have c4b0 : decide (0 < (t143.length : Int)) = true := decide_eq_true c4
    have c4b1 : decide (0 < t143.length) = true := decide_eq_true (by omega)
    clear c4
    by_cases c5 : ((rd_L7 t143 0).length : Int) = 1
    ·rw [if_pos c5] at H
     have c5b0 : (((rd_L7 t143 0).length : Int) == 1) = true := beq_iff_eq.mpr c5
     have c5b1 : (((rd_L7 t143 0).length : Int) != 1) = false := bne_eq_false_iff_eq.mpr c5
     clear c5
     by_cases c6 : 0 < ((rd_L7 t143 0).length : Int)
     ·rw [if_pos c6] at H
      have c6b0 : decide (0 < ((rd_L7 t143 0).length : Int)) = true := decide_eq_true c6
      have c6b1 : decide (0 < (rd_L7 t143 0).length) = true := decide_eq_true (by omega)
      clear c6
      replace H := Option.bind_eq_some_iff.mp H
      obtain ⟨t150, A70, H⟩ := H
      replace H : (some t150) = some r := H
      have A7 := Aside0.mk A70
      clear A70
      obtain rfl := Option.some.inj H
      go_enter Try.func20, Try.ntmps20
      go_wp2_with (first | ((with_reducible refine gate_dst (N := 4) rfl ?_); (try (refine gate_guard (by rfl) ?_; dsimp only)); refine Kd.R_lit (Kd.int .u8) _ 5 ?hg (N := 4) ?hd (xs := ([0, 1, 1, 3, 200] : List Int)) (inner := [.int .u8 0, .int .u8 1, .int .u8 1, .int .u8 3, .int .u8 200]) (ok := fun _ => True) (okp := fun _ => True) ?hr ?hp (fun _ hk => hk) trivial (Below.refl _ _) (Nat.le_refl _) (by simp) ?_; (case hd => rfl); (case hg => rfl); (case hr => first | (go_simp; done) | (go_simp; rfl)); (case hp => exact (Reps.one (show Kd.M (Kd.int .u8) _ _ _ 0 [.int .u8 0] from rfl) (Reps.one (show Kd.M (Kd.int .u8) _ _ _ 1 [.int .u8 1] from rfl) (Reps.one (show Kd.M (Kd.int .u8) _ _ _ 1 [.int .u8 1] from rfl) (Reps.one (show Kd.M (Kd.int .u8) _ _ _ 3 [.int .u8 3] from rfl) (Reps.one (show Kd.M (Kd.int .u8) _ _ _ 200 [.int .u8 200] from rfl) (Reps.none _ _))))))); intro v141 w8 ho9 hb hg_ hnew_; clear hg_ hnew_; (first | rw [← Ny140.out] at ho9 | (simp only [Int.reduceToNat] at ho9; rw [← Ny140.out] at ho9)); have n0_ := Aside0.mk (Kd.R_lower ho9 (below_size (below_w HB.out))); have n1_ := Aside0.mk (below_step (below_w HB.out) hb); clear HB; have HO142 := n0_; have HB := n1_; clear n0_ n1_; clear hb ho9; obtain ⟨Ao10, co10, eo10⟩ := Kd.R_slice HO142.out; subst eo10) | ((with_reducible refine gate_callee (f := 28) rfl ?_); refine goesL_ (some 5) rfl rfl Try.func28 (by kernel_rfl) rfl #[.slice Ao10 y140.length co10] rfl (by (try simp only [List.map_toArray, List.map_cons, List.map_nil]); first | done | rfl | simp) ?_; (with_reducible refine (plan_Decode.calls k _ _ y140 t143 t144 _ ?side1 ?side2 A1.out).mono ?_); (case side1 => exact Kd.C_w (Kd.R_reads' HO142.out).2.2); (case side2 => exact (Kd.R_reads' HO142.out).2.1); rintro e w11 ⟨v145, rfl, ho0, hb⟩; refine ⟨_, rfl, ?_⟩; have n0_ := Aside0.mk (Kd.R_below (by exact Kd.R_w HO142.out) hb); have n1_ := Aside0.mk (Kd.R_lower ho0 (below_size (below_w HB.out))); have n2_ := Aside0.mk (below_step (below_w HB.out) hb); clear HO142; clear HB; have HO142 := n0_; have HO146 := n1_; have HB := n2_; clear n0_ n1_ n2_; (try clear hb); (try clear hb2); (try clear hk); (try clear hi); (try clear ho0); obtain ⟨Ao12, co12, eo12⟩ := Kd.R_slice HO146.out; subst eo12; have p147 : 0 ≤ (0 : Int) := (by omega); have q147 : 0 < (t143.length : Int) := of_decide_eq_true (by first | (with_reducible assumption) | assumption); obtain ⟨ad147, A147_0, c147_0, e147, hx147_0, hl147_0, hi147_0⟩ := at_L7 (Kd.R_reads' HO146.out).2.2 0 p147 q147; cases e147; obtain ⟨ce147, hce147, hMe147, hcc147⟩ := Kd.R_get HO146.out [] 0 p147 (by first | exact q147 | exact of_decide_eq_true (by first | (with_reducible assumption) | assumption) | (have e_ := (Kd.R_reads' HO146.out).1; omega)); obtain ⟨ve147_0, rfl, ge147_0⟩ := hMe147; have hv147_0 := hcc147 0 _ rfl; rw [Nat.add_zero, show ((Kd.slice 39 k39)).sz = 1 from rfl, Nat.mul_one] at hv147_0; replace hv147_0 := Option.some.inj (hv147_0.symm.trans hx147_0); rw [hv147_0] at ge147_0; have HL147_0 := Aside0.mk (show Kd.R k39 39 _ _ _ _ (rd_L7 t143 0) from ge147_0); clear hv147_0 ge147_0; clear hcc147 hce147; have qi147 : (0 < t143.length) = True := eq_true (by omega); (try rw [show ((0 : Int)).toNat = 0 from rfl] at hx147_0); (try rw [Addr.add_zero'] at hx147_0); have HR147_0 := Aside0.mk hi147_0; have HC147_0 := Aside0.mk hl147_0; clear hi147_0 hl147_0; replace p147 := eq_true p147; replace q147 := eq_true q147; have p148 : 0 ≤ (0 : Int) := (by omega); have q148 : 0 < (t143.length : Int) := of_decide_eq_true (by first | (with_reducible assumption) | assumption); obtain ⟨ad148, A148_0, c148_0, e148, hx148_0, hl148_0, hi148_0⟩ := at_L7 (Kd.R_reads' HO146.out).2.2 0 p148 q148; obtain rfl : ad147 = ad148 := (by injection e148); obtain ⟨ce148, hce148, hMe148, hcc148⟩ := Kd.R_get HO146.out [] 0 p148 (by first | exact q148 | exact of_decide_eq_true (by first | (with_reducible assumption) | assumption) | (have e_ := (Kd.R_reads' HO146.out).1; omega)); obtain ⟨ve148_0, rfl, ge148_0⟩ := hMe148; have hv148_0 := hcc148 0 _ rfl; rw [Nat.add_zero, show ((Kd.slice 39 k39)).sz = 1 from rfl, Nat.mul_one] at hv148_0; replace hv148_0 := Option.some.inj (hv148_0.symm.trans hx148_0); rw [hv148_0] at ge148_0; have HL148_0 := Aside0.mk (show Kd.R k39 39 _ _ _ _ (rd_L7 t143 0) from ge148_0); clear hv148_0 ge148_0; clear hcc148 hce148; have qi148 : (0 < t143.length) = True := eq_true (by omega); (try rw [show ((0 : Int)).toNat = 0 from rfl] at hx148_0); (try rw [Addr.add_zero'] at hx148_0); have HR148_0 := Aside0.mk hi148_0; have HC148_0 := Aside0.mk hl148_0; clear hi148_0 hl148_0; replace p148 := eq_true p148; replace q148 := eq_true q148; have ea_ := Option.some.inj (hx147_0.symm.trans hx148_0); injection ea_ with ea_ en_ ec_; subst ea_; subst ec_; clear en_; have p149 : 0 ≤ (0 : Int) := (by omega); have q149 : 0 < ((rd_L7 t143 0).length : Int) := of_decide_eq_true (by first | (with_reducible assumption) | assumption); obtain ⟨ad149, A149_4, c149_4, e149, hx149_0, hx149_1, hx149_2, hx149_3, hx149_4, hx149_5, hl149_4, hi149_4⟩ := at_T39 (by repeat (first | (with_reducible exact HR148_0.out) | (with_reducible refine Kd.C_alloc ?_ _) | (with_reducible refine Kd.C_drewN ?_ _) | (with_reducible refine Kd.C_drew ?_) | exact HR148_0.out)) 0 p149 q149; cases e149; obtain ⟨ce149, hce149, hMe149, hcc149⟩ := Kd.R_get HL148_0.out z39 0 p149 (by first | exact q149 | exact of_decide_eq_true (by first | (with_reducible assumption) | assumption) | (have e_ := (Kd.R_reads' HL148_0.out).1; omega)); obtain ⟨ve149_4, rfl, ge149_4⟩ := k39_openM hMe149; have hv149_4 := hcc149 4 _ rfl; rw [add_field _ _ 4 (by omega)] at hv149_4; replace hv149_4 := Option.some.inj (hv149_4.symm.trans hx149_4); rw [hv149_4] at ge149_4; have HL149_4 := Aside0.mk (show Kd.R k116 116 _ _ _ _ ((rd_T39 (rd_L7 t143 0) 0).f4) from ge149_4); clear hv149_4 ge149_4; clear hcc149 hce149; have qi149 : (0 < (rd_L7 t143 0).length) = True := eq_true (by omega); (try rw [show ((0 : Int)).toNat = 0 from rfl] at hx149_0); (try rw [show 0 * 6 = 0 from rfl] at hx149_0); (try rw [Addr.add_zero'] at hx149_0); (try rw [show ((0 : Int)).toNat = 0 from rfl] at hx149_1); (try rw [show 0 * 6 = 0 from rfl] at hx149_1); (try rw [Addr.add_zero'] at hx149_1); (try rw [show ((0 : Int)).toNat = 0 from rfl] at hx149_2); (try rw [show 0 * 6 = 0 from rfl] at hx149_2); (try rw [Addr.add_zero'] at hx149_2); (try rw [show ((0 : Int)).toNat = 0 from rfl] at hx149_3); (try rw [show 0 * 6 = 0 from rfl] at hx149_3); (try rw [Addr.add_zero'] at hx149_3); (try rw [show ((0 : Int)).toNat = 0 from rfl] at hx149_4); (try rw [show 0 * 6 = 0 from rfl] at hx149_4); (try rw [Addr.add_zero'] at hx149_4); (try rw [show ((0 : Int)).toNat = 0 from rfl] at hx149_5); (try rw [show 0 * 6 = 0 from rfl] at hx149_5); (try rw [Addr.add_zero'] at hx149_5); have HR149_4 := Aside0.mk hi149_4; have HC149_4 := Aside0.mk hl149_4; clear hi149_4 hl149_4; replace p149 := eq_true p149; replace q149 := eq_true q149) | (go_at_call 23; (refine (plan_SameOp.calls k ((rd_T39 (rd_L7 t143 0) 0).f0) ((rd_T39 (rd_L7 t143 0) 0).f1) ((rd_T39 (rd_L7 t143 0) 0).f2) ((rd_T39 (rd_L7 t143 0) 0).f3) _ _ ((rd_T39 (rd_L7 t143 0) 0).f4) ((rd_T39 (rd_L7 t143 0) 0).f5) 2 3 0 200 _ _ ([] : List (S116)) false t150 _ ?side1 ?side2 ?side3 ?side4 A7.out).mono ?_); (case side1 => repeat (first | exact (by repeat (first | (with_reducible exact HR149_4.out) | (with_reducible refine Kd.C_alloc ?_ _) | (with_reducible refine Kd.C_drewN ?_ _) | (with_reducible refine Kd.C_drew ?_) | exact HR149_4.out)) | (with_reducible refine Kd.C_alloc ?_ _) | (with_reducible refine Kd.C_drewN ?_ _) | (with_reducible refine Kd.C_drew ?_))); (case side2 => exact HC149_4.out); (case side3 => exact Kd.C_nil _ _); (case side4 => exact Nat.le_refl _); rintro e w13 ⟨rfl, hb⟩; have n0_ := Aside0.mk (Kd.R_below (by exact Kd.R_w HO142.out) hb); have n1_ := Aside0.mk (Kd.R_below (by exact Kd.R_w HO146.out) hb); have n2_ := Aside0.mk (Kd.R_below (by exact Kd.R_w HL147_0.out) hb); have n3_ := Aside0.mk (Kd.R_below (by exact Kd.R_w HL148_0.out) hb); have n4_ := Aside0.mk (Kd.R_below (by exact Kd.R_w HL149_4.out) hb); have n5_ := Aside0.mk (Kd.C_below (by repeat (first | (with_reducible exact HR147_0.out) | (with_reducible refine Kd.C_alloc ?_ _) | (with_reducible refine Kd.C_drewN ?_ _) | (with_reducible refine Kd.C_drew ?_) | exact HR147_0.out)) hb); have n6_ := Aside0.mk (Kd.C_below (by repeat (first | (with_reducible exact HR148_0.out) | (with_reducible refine Kd.C_alloc ?_ _) | (with_reducible refine Kd.C_drewN ?_ _) | (with_reducible refine Kd.C_drew ?_) | exact HR148_0.out)) hb); have n7_ := Aside0.mk (Kd.C_below (by repeat (first | (with_reducible exact HR149_4.out) | (with_reducible refine Kd.C_alloc ?_ _) | (with_reducible refine Kd.C_drewN ?_ _) | (with_reducible refine Kd.C_drew ?_) | exact HR149_4.out)) hb); have n8_ := Aside0.mk (below_step (below_w HB.out) hb); clear HO142; clear HO146; clear HL147_0; clear HL148_0; clear HL149_4; clear HR147_0; clear HR148_0; clear HR149_4; clear HB; have HO142 := n0_; have HO146 := n1_; have HL147_0 := n2_; have HL148_0 := n3_; have HL149_4 := n4_; have HR147_0 := n5_; have HR148_0 := n6_; have HR149_4 := n7_; have HB := n8_; clear n0_ n1_ n2_ n3_ n4_ n5_ n6_ n7_ n8_; (try clear hb); (try clear hb2); (try clear hk); (try clear hi)))
      go_ret
      exact ⟨by first | rfl | (simp [errW_none, errW_some] <;> rfl) | (simp [*, errW_none, errW_some] <;> rfl), by exact below_w HB.out⟩
     ·rw [if_neg c6] at H
      exact absurd H (by simp)
    ·rw [if_neg c5] at H
     have c5b0 : (((rd_L7 t143 0).length : Int) == 1) = false := beq_eq_false_iff_ne.mpr c5
     have c5b1 : (((rd_L7 t143 0).length : Int) != 1) = true := bne_iff_ne.mpr c5
     obtain rfl := Option.some.inj H
     go_enter Try.func20, Try.ntmps20
     go_wp2_with (first | ((with_reducible refine gate_dst (N := 4) rfl ?_); (try (refine gate_guard (by rfl) ?_; dsimp only)); refine Kd.R_lit (Kd.int .u8) _ 5 ?hg (N := 4) ?hd (xs := ([0, 1, 1, 3, 200] : List Int)) (inner := [.int .u8 0, .int .u8 1, .int .u8 1, .int .u8 3, .int .u8 200]) (ok := fun _ => True) (okp := fun _ => True) ?hr ?hp (fun _ hk => hk) trivial (Below.refl _ _) (Nat.le_refl _) (by simp) ?_; (case hd => rfl); (case hg => rfl); (case hr => first | (go_simp; done) | (go_simp; rfl)); (case hp => exact (Reps.one (show Kd.M (Kd.int .u8) _ _ _ 0 [.int .u8 0] from rfl) (Reps.one (show Kd.M (Kd.int .u8) _ _ _ 1 [.int .u8 1] from rfl) (Reps.one (show Kd.M (Kd.int .u8) _ _ _ 1 [.int .u8 1] from rfl) (Reps.one (show Kd.M (Kd.int .u8) _ _ _ 3 [.int .u8 3] from rfl) (Reps.one (show Kd.M (Kd.int .u8) _ _ _ 200 [.int .u8 200] from rfl) (Reps.none _ _))))))); intro v141 w14 ho15 hb hg_ hnew_; clear hg_ hnew_; (first | rw [← Ny140.out] at ho15 | (simp only [Int.reduceToNat] at ho15; rw [← Ny140.out] at ho15)); have n0_ := Aside0.mk (Kd.R_lower ho15 (below_size (below_w HB.out))); have n1_ := Aside0.mk (below_step (below_w HB.out) hb); clear HB; have HO142 := n0_; have HB := n1_; clear n0_ n1_; clear hb ho15; obtain ⟨Ao16, co16, eo16⟩ := Kd.R_slice HO142.out; subst eo16) | ((with_reducible refine gate_callee (f := 28) rfl ?_); refine goesL_ (some 5) rfl rfl Try.func28 (by kernel_rfl) rfl #[.slice Ao16 y140.length co16] rfl (by (try simp only [List.map_toArray, List.map_cons, List.map_nil]); first | done | rfl | simp) ?_; (with_reducible refine (plan_Decode.calls k _ _ y140 t143 t144 _ ?side1 ?side2 A1.out).mono ?_); (case side1 => exact Kd.C_w (Kd.R_reads' HO142.out).2.2); (case side2 => exact (Kd.R_reads' HO142.out).2.1); rintro e w17 ⟨v145, rfl, ho0, hb⟩; refine ⟨_, rfl, ?_⟩; have n0_ := Aside0.mk (Kd.R_below (by exact Kd.R_w HO142.out) hb); have n1_ := Aside0.mk (Kd.R_lower ho0 (below_size (below_w HB.out))); have n2_ := Aside0.mk (below_step (below_w HB.out) hb); clear HO142; clear HB; have HO142 := n0_; have HO146 := n1_; have HB := n2_; clear n0_ n1_ n2_; (try clear hb); (try clear hb2); (try clear hk); (try clear hi); (try clear ho0); obtain ⟨Ao18, co18, eo18⟩ := Kd.R_slice HO146.out; subst eo18; have p147 : 0 ≤ (0 : Int) := (by omega); have q147 : 0 < (t143.length : Int) := of_decide_eq_true (by first | (with_reducible assumption) | assumption); obtain ⟨ad147, A147_0, c147_0, e147, hx147_0, hl147_0, hi147_0⟩ := at_L7 (Kd.R_reads' HO146.out).2.2 0 p147 q147; cases e147; obtain ⟨ce147, hce147, hMe147, hcc147⟩ := Kd.R_get HO146.out [] 0 p147 (by first | exact q147 | exact of_decide_eq_true (by first | (with_reducible assumption) | assumption) | (have e_ := (Kd.R_reads' HO146.out).1; omega)); obtain ⟨ve147_0, rfl, ge147_0⟩ := hMe147; have hv147_0 := hcc147 0 _ rfl; rw [Nat.add_zero, show ((Kd.slice 39 k39)).sz = 1 from rfl, Nat.mul_one] at hv147_0; replace hv147_0 := Option.some.inj (hv147_0.symm.trans hx147_0); rw [hv147_0] at ge147_0; have HL147_0 := Aside0.mk (show Kd.R k39 39 _ _ _ _ (rd_L7 t143 0) from ge147_0); clear hv147_0 ge147_0; clear hcc147 hce147; have qi147 : (0 < t143.length) = True := eq_true (by omega); (try rw [show ((0 : Int)).toNat = 0 from rfl] at hx147_0); (try rw [Addr.add_zero'] at hx147_0); have HR147_0 := Aside0.mk hi147_0; have HC147_0 := Aside0.mk hl147_0; clear hi147_0 hl147_0; replace p147 := eq_true p147; replace q147 := eq_true q147))
     go_ret
     exact ⟨by first | rfl | (simp [errW_none, errW_some] <;> rfl) | (simp [*, errW_none, errW_some] <;> rfl), by exact below_w HB.out⟩
   ·rw [if_neg c4] at H
    exact absurd H (by simp)
  ·rw [if_neg c3] at H
   have c3b0 : ((t143.length : Int) == 1) = false := beq_eq_false_iff_ne.mpr c3
   have c3b1 : ((t143.length : Int) != 1) = true := bne_iff_ne.mpr c3
   obtain rfl := Option.some.inj H
   go_enter Try.func20, Try.ntmps20
   go_wp2_with (first | ((with_reducible refine gate_dst (N := 4) rfl ?_); (try (refine gate_guard (by rfl) ?_; dsimp only)); refine Kd.R_lit (Kd.int .u8) _ 5 ?hg (N := 4) ?hd (xs := ([0, 1, 1, 3, 200] : List Int)) (inner := [.int .u8 0, .int .u8 1, .int .u8 1, .int .u8 3, .int .u8 200]) (ok := fun _ => True) (okp := fun _ => True) ?hr ?hp (fun _ hk => hk) trivial (Below.refl _ _) (Nat.le_refl _) (by simp) ?_; (case hd => rfl); (case hg => rfl); (case hr => first | (go_simp; done) | (go_simp; rfl)); (case hp => exact (Reps.one (show Kd.M (Kd.int .u8) _ _ _ 0 [.int .u8 0] from rfl) (Reps.one (show Kd.M (Kd.int .u8) _ _ _ 1 [.int .u8 1] from rfl) (Reps.one (show Kd.M (Kd.int .u8) _ _ _ 1 [.int .u8 1] from rfl) (Reps.one (show Kd.M (Kd.int .u8) _ _ _ 3 [.int .u8 3] from rfl) (Reps.one (show Kd.M (Kd.int .u8) _ _ _ 200 [.int .u8 200] from rfl) (Reps.none _ _))))))); intro v141 w19 ho20 hb hg_ hnew_; clear hg_ hnew_; (first | rw [← Ny140.out] at ho20 | (simp only [Int.reduceToNat] at ho20; rw [← Ny140.out] at ho20)); have n0_ := Aside0.mk (Kd.R_lower ho20 (below_size (below_w HB.out))); have n1_ := Aside0.mk (below_step (below_w HB.out) hb); clear HB; have HO142 := n0_; have HB := n1_; clear n0_ n1_; clear hb ho20; obtain ⟨Ao21, co21, eo21⟩ := Kd.R_slice HO142.out; subst eo21) | ((with_reducible refine gate_callee (f := 28) rfl ?_); refine goesL_ (some 5) rfl rfl Try.func28 (by kernel_rfl) rfl #[.slice Ao21 y140.length co21] rfl (by (try simp only [List.map_toArray, List.map_cons, List.map_nil]); first | done | rfl | simp) ?_; (with_reducible refine (plan_Decode.calls k _ _ y140 t143 t144 _ ?side1 ?side2 A1.out).mono ?_); (case side1 => exact Kd.C_w (Kd.R_reads' HO142.out).2.2); (case side2 => exact (Kd.R_reads' HO142.out).2.1); rintro e w22 ⟨v145, rfl, ho0, hb⟩; refine ⟨_, rfl, ?_⟩; have n0_ := Aside0.mk (Kd.R_below (by exact Kd.R_w HO142.out) hb); have n1_ := Aside0.mk (Kd.R_lower ho0 (below_size (below_w HB.out))); have n2_ := Aside0.mk (below_step (below_w HB.out) hb); clear HO142; clear HB; have HO142 := n0_; have HO146 := n1_; have HB := n2_; clear n0_ n1_ n2_; (try clear hb); (try clear hb2); (try clear hk); (try clear hi); (try clear ho0); obtain ⟨Ao23, co23, eo23⟩ := Kd.R_slice HO146.out; subst eo23))
   go_ret
   exact ⟨by first | rfl | (simp [errW_none, errW_some] <;> rfl) | (simp [*, errW_none, errW_some] <;> rfl), by exact below_w HB.out⟩
 ·rw [if_neg c2] at H
  have c2b0 : (t144 == 5) = false := beq_eq_false_iff_ne.mpr c2
  have c2b1 : (t144 != 5) = true := bne_iff_ne.mpr c2
  obtain rfl := Option.some.inj H
  go_enter Try.func20, Try.ntmps20
  go_wp2_with (first | ((with_reducible refine gate_dst (N := 4) rfl ?_); (try (refine gate_guard (by rfl) ?_; dsimp only)); refine Kd.R_lit (Kd.int .u8) _ 5 ?hg (N := 4) ?hd (xs := ([0, 1, 1, 3, 200] : List Int)) (inner := [.int .u8 0, .int .u8 1, .int .u8 1, .int .u8 3, .int .u8 200]) (ok := fun _ => True) (okp := fun _ => True) ?hr ?hp (fun _ hk => hk) trivial (Below.refl _ _) (Nat.le_refl _) (by simp) ?_; (case hd => rfl); (case hg => rfl); (case hr => first | (go_simp; done) | (go_simp; rfl)); (case hp => exact (Reps.one (show Kd.M (Kd.int .u8) _ _ _ 0 [.int .u8 0] from rfl) (Reps.one (show Kd.M (Kd.int .u8) _ _ _ 1 [.int .u8 1] from rfl) (Reps.one (show Kd.M (Kd.int .u8) _ _ _ 1 [.int .u8 1] from rfl) (Reps.one (show Kd.M (Kd.int .u8) _ _ _ 3 [.int .u8 3] from rfl) (Reps.one (show Kd.M (Kd.int .u8) _ _ _ 200 [.int .u8 200] from rfl) (Reps.none _ _))))))); intro v141 w24 ho25 hb hg_ hnew_; clear hg_ hnew_; (first | rw [← Ny140.out] at ho25 | (simp only [Int.reduceToNat] at ho25; rw [← Ny140.out] at ho25)); have n0_ := Aside0.mk (Kd.R_lower ho25 (below_size (below_w HB.out))); have n1_ := Aside0.mk (below_step (below_w HB.out) hb); clear HB; have HO142 := n0_; have HB := n1_; clear n0_ n1_; clear hb ho25; obtain ⟨Ao26, co26, eo26⟩ := Kd.R_slice HO142.out; subst eo26) | ((with_reducible refine gate_callee (f := 28) rfl ?_); refine goesL_ (some 5) rfl rfl Try.func28 (by kernel_rfl) rfl #[.slice Ao26 y140.length co26] rfl (by (try simp only [List.map_toArray, List.map_cons, List.map_nil]); first | done | rfl | simp) ?_; (with_reducible refine (plan_Decode.calls k _ _ y140 t143 t144 _ ?side1 ?side2 A1.out).mono ?_); (case side1 => exact Kd.C_w (Kd.R_reads' HO142.out).2.2); (case side2 => exact (Kd.R_reads' HO142.out).2.1); rintro e w27 ⟨v145, rfl, ho0, hb⟩; refine ⟨_, rfl, ?_⟩; have n0_ := Aside0.mk (Kd.R_below (by exact Kd.R_w HO142.out) hb); have n1_ := Aside0.mk (Kd.R_lower ho0 (below_size (below_w HB.out))); have n2_ := Aside0.mk (below_step (below_w HB.out) hb); clear HO142; clear HB; have HO142 := n0_; have HO146 := n1_; have HB := n2_; clear n0_ n1_ n2_; (try clear hb); (try clear hb2); (try clear hk); (try clear hi); (try clear ho0)))
  go_ret
  exact ⟨by first | rfl | (simp [errW_none, errW_some] <;> rfl) | (simp [*, errW_none, errW_some] <;> rfl), by exact below_w HB.out⟩

/-! ### plan_within: function 63 -/
def plan_within.f (a0 : Bool) (a1 : Int) (a2 : Int) : Option (Bool) := if a0 = true then (if a1 ≥ 0 then (some (decide (a1 ≤ a2))) else (some false)) else (if a1 ≥ 0 then (some (decide (a1 ≤ 0))) else (some false))
set_option maxHeartbeats 8000000 in
set_option maxRecDepth 100000 in
theorem plan_within.calls (a0 : Bool) (a1 : Int) (a2 : Int) (r : Bool) (w : World) (h : plan_within.f a0 a1 a2 = some r) :
  Calls Try.prog 63 #[.bool a0, .int .i64 a1, .int .i64 a2] w fun e w' => e = .returned (.bool r) ∧ Drawn0 w w' := by
 have H : (if a0 = true then (if a1 ≥ 0 then (some (decide (a1 ≤ a2))) else (some false)) else (if a1 ≥ 0 then (some (decide (a1 ≤ 0))) else (some false))) = some r := h
 clear h
 by_cases c4 : a0 = true
 ·subst c4
  have H1 : (if a1 ≥ 0 then (some (decide (a1 ≤ a2))) else (some false)) = some r := by rw [if_pos rfl] at H; exact H
  clear H
  have H := H1
  clear H1
  by_cases c5 : a1 ≥ 0
  ·rw [if_pos c5] at H
   have c5b0 : decide (0 ≤ a1) = true := decide_eq_true c5
   clear c5
   obtain rfl := Option.some.inj H
   go_enter Try.func63, Try.ntmps63
   go_wp2
   go_ret
   exact ⟨by first | rfl | (simp; done) | (simp [*]; done), by repeat (first | exact Drawn0.refl _ | apply Drawn0.step)⟩
  ·rw [if_neg c5] at H
   have c5b0 : decide (0 ≤ a1) = false := decide_eq_false c5
   clear c5
   obtain rfl := Option.some.inj H
   go_enter Try.func63, Try.ntmps63
   go_wp2
   go_ret
   exact ⟨by first | rfl | (simp; done) | (simp [*]; done), by repeat (first | exact Drawn0.refl _ | apply Drawn0.step)⟩
 ·replace c4 := Bool.eq_false_iff.mpr c4
  subst c4
  have H1 : (if a1 ≥ 0 then (some (decide (a1 ≤ 0))) else (some false)) = some r := by rw [if_neg (show ¬ (false = true) by decide)] at H; exact H
  clear H
  have H := H1
  clear H1
  by_cases c6 : a1 ≥ 0
  ·rw [if_pos c6] at H
   have c6b0 : decide (0 ≤ a1) = true := decide_eq_true c6
   clear c6
   obtain rfl := Option.some.inj H
   go_enter Try.func63, Try.ntmps63
   go_wp2
   go_ret
   exact ⟨by first | rfl | (simp; done) | (simp [*]; done), by repeat (first | exact Drawn0.refl _ | apply Drawn0.step)⟩
  ·rw [if_neg c6] at H
   have c6b0 : decide (0 ≤ a1) = false := decide_eq_false c6
   clear c6
   obtain rfl := Option.some.inj H
   go_enter Try.func63, Try.ntmps63
   go_wp2
   go_ret
   exact ⟨by first | rfl | (simp; done) | (simp [*]; done), by repeat (first | exact Drawn0.refl _ | apply Drawn0.step)⟩

/-! ### plan_value: function 64 -/
def plan_value.f (a0 : Bool) (a1 : Int) : Option (Bool) := if a1 ≥ 0 then (if a1 ≤ 255 then (if a0 = true then (some true) else (some (a1 == 0))) else (some false)) else (some false)
set_option maxHeartbeats 8000000 in
set_option maxRecDepth 100000 in
theorem plan_value.calls (a0 : Bool) (a1 : Int) (r : Bool) (w : World) (h : plan_value.f a0 a1 = some r) :
  Calls Try.prog 64 #[.bool a0, .int .i64 a1] w fun e w' => e = .returned (.bool r) ∧ Drawn0 w w' := by
 have H : (if a1 ≥ 0 then (if a1 ≤ 255 then (if a0 = true then (some true) else (some (a1 == 0))) else (some false)) else (some false)) = some r := h
 clear h
 by_cases c3 : a1 ≥ 0
 ·rw [if_pos c3] at H
  have c3b0 : decide (0 ≤ a1) = true := decide_eq_true c3
  clear c3
  by_cases c4 : a1 ≤ 255
  ·rw [if_pos c4] at H
   have c4b0 : decide (a1 ≤ 255) = true := decide_eq_true c4
   clear c4
   by_cases c5 : a0 = true
   ·subst c5
    have H1 : (some true) = some r := by rw [if_pos rfl] at H; exact H
    clear H
    have H := H1
    clear H1
    obtain rfl := Option.some.inj H
    go_enter Try.func64, Try.ntmps64
    go_wp2
    go_ret
    exact ⟨by first | rfl | (simp; done) | (simp [*]; done), by repeat (first | exact Drawn0.refl _ | apply Drawn0.step)⟩
   ·replace c5 := Bool.eq_false_iff.mpr c5
    subst c5
    have H1 : (some (a1 == 0)) = some r := by rw [if_neg (show ¬ (false = true) by decide)] at H; exact H
    clear H
    have H := H1
    clear H1
    obtain rfl := Option.some.inj H
    go_enter Try.func64, Try.ntmps64
    go_wp2
    go_ret
    exact ⟨by first | rfl | (simp; done) | (simp [*]; done), by repeat (first | exact Drawn0.refl _ | apply Drawn0.step)⟩
  ·rw [if_neg c4] at H
   have c4b0 : decide (a1 ≤ 255) = false := decide_eq_false c4
   clear c4
   obtain rfl := Option.some.inj H
   go_enter Try.func64, Try.ntmps64
   go_wp2
   go_ret
   exact ⟨by first | rfl | (simp; done) | (simp [*]; done), by repeat (first | exact Drawn0.refl _ | apply Drawn0.step)⟩
 ·rw [if_neg c3] at H
  have c3b0 : decide (0 ≤ a1) = false := decide_eq_false c3
  clear c3
  obtain rfl := Option.some.inj H
  go_enter Try.func64, Try.ntmps64
  go_wp2
  go_ret
  exact ⟨by first | rfl | (simp; done) | (simp [*]; done), by repeat (first | exact Drawn0.refl _ | apply Drawn0.step)⟩

end Go.Proofs.Ytjmpaeckpbpclaa.PPlK
