/- Package pool: a pool that is made of rows: walked. -/
import Derived.Test.YtfajhdcambkbpaaPoolNP
import Derived.Test.YtfajhdcambkbpaaPoolS
import Derived.Deep.DeepCutAuto
import Derived.Deep.CutBlock
namespace Go.Proofs.Ytfajhdcambkbpaa.Pool
open Go.RowKit Go.Proofs.YtfajhdcambkbpaaW.PrintWords Go.Proofs.YtfajhdcambkbpaaW.PrintMore

theorem PoolAt.mk' {w : World} {base : Nat} {S : Nat → Prop} {ow : Nat → Nat} {p c : Nat} {vo vm : Value} {hs : List Value} {P : PoolM} (h : PoolIn w base S ow p c vo vm hs P) : PoolAt w base S p P := ⟨ow, c, vo, vm, hs, h⟩

theorem layR_cons (fresh x : Int) (r : List Int) (out : List Bool) (c : Int) : layR fresh (x :: r) out c = if 0 ≤ x ∧ x < fresh ∧ out.getD x.toNat false = true then layR fresh r (out.set x.toNat false) (c - 1) else (out, c, false) := rfl

/-- A row is laid. -/
def laid (P : PoolM) (row : List Int) : PoolM := { P with out := (layR P.fresh row P.out P.count).1, count := (layR P.fresh row P.out P.count).2.1 }

def fine (P : PoolM) (row : List Int) : Bool := (layR P.fresh row P.out P.count).2.2
def laidRow (P : PoolM) (row : List Int) : List Int := if fine P row = true then row else []

theorem laid_no {P : PoolM} {row : List Int} {out : List Bool} {n : Int} (h : layR P.fresh row P.out P.count = (out, n, false)) : laid P row = { P with out := out, count := n } ∧ fine P row = false ∧ laidRow P row = [] := by
  unfold laid laidRow fine
  rw [h]
  exact ⟨rfl, rfl, rfl⟩

theorem laid_yes {P : PoolM} {row : List Int} {out : List Bool} {n : Int} (h : layR P.fresh row P.out P.count = (out, n, true)) : laid P row = { P with out := out, count := n } ∧ fine P row = true ∧ laidRow P row = row := by
  unfold laid laidRow fine
  rw [h]
  exact ⟨rfl, rfl, rfl⟩

/-- What lay leaves. -/
def LayPost (w0 w : World) (S : Nat → Prop) (p : Nat) (P : PoolM) (row : List Int) (e : Ending) (w' : World) : Prop := ∃ v, e = .returned (.tuple #[v, .bool (fine P row)]) ∧ PoolAt w' w0.heap.size S p (laid P row) ∧ Kd.R (Kd.int .i64) 3 w' w0.heap.size (fun k => w.heap.size ≤ k) v (laidRow P row) ∧ Below w0.heap.size w0 w' ∧ Kept w w' S

set_option maxRecDepth 100000 in
set_option maxHeartbeats 2000000 in
theorem lay_calls (w0 w : World) (S : Nat → Prop) (p : Nat) (P : PoolM) (A : Option Addr) (c : Nat) (row : List Int) (hB : Below w0.heap.size w0 w) (h : PoolAt w w0.heap.size S p P) (hr : Kd.C (Kd.int .i64) w0 A row.length row) (hc : row.length ≤ c) (hl : row.length ≤ 1000) (hf : P.fresh ≤ P.out.length) (hn : -1000000 ≤ P.count ∧ P.count ≤ 1000000) :
    Calls Try.prog 29 #[.pointer (some ⟨p, 0, none⟩), .slice A row.length c] w (LayPost w0 w S p P row) := by
  have HR := Aside0.mk hr
  have HH := Aside0.mk h
  have HB := Aside0.mk hB
  have hS : ∀ k, S k → S k := fun _ h => h
  have HN := Aside0.mk hn
  have HFO := Aside0.mk hf
  clear hr h hB hn hf hS
  go_enter Try.func29, Try.ntmps29
  go_wp2_with fail
  go_loopg [10] row.length (fun kq v10 wr => ∃ (i : Nat) (out : List Bool) (n : Int), v10 = .int .i64 i ∧ i ≤ row.length ∧ Aside0 (kq = row.length - i) ∧ Aside0 (PoolAt wr w0.heap.size S p { P with out := out, count := n }) ∧ Aside0 (layR P.fresh row P.out P.count = layR P.fresh (row.drop i) out n) ∧ Aside0 (out.length = P.out.length) ∧ P.count - i ≤ n ∧ n ≤ P.count ∧ Aside0 (Below w0.heap.size w0 wr) ∧ Aside0 (Kept w wr S))
  case atStart => exact ⟨0, P.out, P.count, rfl, by omega, ⟨by omega⟩, HH, ⟨by rw [List.drop_zero]⟩, ⟨rfl⟩, by omega, by omega, HB, ⟨Kept.refl _ _⟩⟩
  case round =>
    clear HH HB
    obtain ⟨i, out, n, rfl, hi, HK, HH, HL, HO, hn1, hn2, HB, HKe⟩ := hrel
    have hnb1 : -1000000 ≤ P.count := HN.out.1
    have hnb2 : P.count ≤ 1000000 := HN.out.2
    by_cases ci : i < row.length
    · have d1 : decide ((i : Int) < (row.length : Int)) = true := decide_eq_true (by omega)
      have d1' : decide (i < row.length) = true := decide_eq_true ci
      obtain ⟨ad, rfl, hx⟩ := Kd.at_int (Kd.C_below HR.out HB.out) (i : Int) (by omega) (by omega)
      rw [Int.toNat_natCast] at hx
      obtain ⟨x, hx'⟩ : ∃ x, rd row (i : Int) = x := ⟨_, rfl⟩
      rw [hx'] at hx
      have hd : row.drop i = x :: row.drop (i + 1) := by
        rw [List.drop_eq_getElem_cons ci, ← hx']
        congr 1
        unfold rd
        simp [List.getD_eq_getElem?_getD, ci]
      have hL := HL.out
      rw [hd, layR_cons] at hL
      clear hx' hd HL
      obtain ⟨ow, cc, vo, vm, hs, hin⟩ := HH.out
      have hfr : wr.cell? ⟨p, 3, none⟩ = some (.int .i64 P.fresh) := (blk_cell hin.blk 3).trans rfl
      have HIN := Aside0.mk hin
      have HLL := Aside0.mk hL
      clear hin hL
      by_cases c0 : 0 ≤ x
      · have e0 : decide (x < 0) = false := decide_eq_false (by omega)
        by_cases c1 : x < P.fresh
        · have e1 : decide (P.fresh ≤ x) = false := decide_eq_false (by omega)
          have c1' : x < (out.length : Int) := by have := HFO.out; have := HO.out; omega
          obtain ⟨go, cap, hv, hgS, hgw, hgb, hd1, hd2, hd3⟩ := PoolIn.out_at HIN.out x c0 c1'
          simp only at hv hd1 hd2
          have hne : ¬ (p = go) := fun e => by have h1 := HIN.out.op; rw [e, hgw] at h1; omega
          have hne' : ¬ (go = p) := fun e => hne e.symm
          obtain ⟨b, hb⟩ : ∃ b, rdOf false out x = b := ⟨_, rfl⟩
          rw [hb] at hd2
          have HBE := Aside0.mk (show out.getD x.toNat false = b from hb)
          have HV := Aside0.mk hv
          have HG := Aside0.mk (And.intro hgS hgb)
          clear hv hb hgS hgw hgb
          cases b with
          | true =>
            have hct : wr.cell? ⟨p, 5, none⟩ = some (.int .i64 n) := (blk_cell HIN.out.blk 5).trans rfl
            have hcf : wr.frozen? ⟨p, 5, none⟩ = false := blk_frozen HIN.out.blk 5
            have HL2 : Aside0 (layR P.fresh row P.out P.count = layR P.fresh (row.drop (i + 1)) (out.set x.toNat false) (n - 1)) := ⟨by rw [HLL.out, if_pos ⟨c0, c1, HBE.out⟩]⟩
            clear HLL
            go_wp2_with fail
            go_roundg (row.length - (i + 1))
            case measure => have := HK.out; omega
            case rel => exact ⟨i + 1, out.set x.toNat false, n - 1, by go_num, by omega, ⟨rfl⟩, ⟨ow, cc, vo, vm, hs, (HIN.out.set_out HV.out x false).set_count (n - 1)⟩, HL2, ⟨by rw [List.length_set]; exact HO.out⟩, by omega, by omega, ⟨below_set (below_set HB.out HG.out.2) HIN.out.bp⟩, ⟨Kept.setCell (Kept.setCell HKe.out (.inl HG.out.1) _) (.inl HIN.out.sp) _⟩⟩
          | false =>
            have HL2 : Aside0 (layR P.fresh row P.out P.count = (out, n, false)) := ⟨by rw [HLL.out, if_neg (by rw [HBE.out]; simp)]⟩
            clear HLL
            go_wp2_with fail
            go_ret2
            obtain ⟨q1, q2, q3⟩ := laid_no HL2.out
            unfold LayPost
            rw [q1, q2, q3]
            exact ⟨_, rfl, HH.out, Kd.R_nil _ _ _ _ _, HB.out, HKe.out⟩
        · have e1 : decide (P.fresh ≤ x) = true := decide_eq_true (by omega)
          have HL2 : Aside0 (layR P.fresh row P.out P.count = (out, n, false)) := ⟨by rw [HLL.out, if_neg (by omega)]⟩
          clear HLL
          go_wp2_with fail
          go_ret2
          obtain ⟨q1, q2, q3⟩ := laid_no HL2.out
          unfold LayPost
          rw [q1, q2, q3]
          exact ⟨_, rfl, HH.out, Kd.R_nil _ _ _ _ _, HB.out, HKe.out⟩
      · have e0 : decide (x < 0) = true := decide_eq_true (by omega)
        have HL2 : Aside0 (layR P.fresh row P.out P.count = (out, n, false)) := ⟨by rw [HLL.out, if_neg (by omega)]⟩
        clear HLL
        go_wp2_with fail
        go_ret2
        obtain ⟨q1, q2, q3⟩ := laid_no HL2.out
        unfold LayPost
        rw [q1, q2, q3]
        exact ⟨_, rfl, HH.out, Kd.R_nil _ _ _ _ _, HB.out, HKe.out⟩
    · have d1 : decide ((i : Int) < (row.length : Int)) = false := decide_eq_false (by omega)
      have d1' : decide (i < row.length) = false := decide_eq_false ci
      have HL2 : Aside0 (layR P.fresh row P.out P.count = (out, n, true)) := ⟨by rw [HL.out, List.drop_of_length_le (by omega)]; rfl⟩
      clear HL
      have HCL := Aside0.mk (PoolClone.slices_Clone_int_int.calls A c row row wr (Kd.C_below HR.out HB.out) hc (by unfold PoolClone.slices_Clone_int_int.f; rw [if_pos (by omega)]))
      go_wp2_with (go_at_call 30; refine HCL.out.mono ?_; rintro e w' ⟨v, rfl, hr, hb⟩; have HR2 := Aside0.mk hr; have HB2 := Aside0.mk hb; clear hr hb)
      go_ret2
      obtain ⟨q1, q2, q3⟩ := laid_yes HL2.out
      unfold LayPost
      rw [q1, q2, q3]
      refine ⟨_, rfl, HH.out.step (fun k _ hl => HB2.out.block k hl), ?_, HB.out.trans (HB2.out.mono HB.out.size), HKe.out.below HB2.out⟩
      have h1 := Kd.R_bound HR2.out
      exact Kd.R_lower (Kd.R_mono h1 (fun k hk => by have := hk.2.1; have := HKe.out.1; omega)) HB.out.size

theorem PoolIn.relabel {w : World} {base : Nat} {S S' : Nat → Prop} {ow ow' : Nat → Nat} {p c : Nat} {vo vm : Value} {hs : List Value} {P : PoolM} (h : PoolIn w base S ow p c vo vm hs P) (hS : ∀ k, S k → S' k) (ho : ∀ k, S k → ow' k = ow k) : PoolIn w base S' ow' p c vo vm hs P :=
  { h with
    sp := hS _ h.sp
    op := (ho _ h.sp).trans h.op
    sc := hS _ h.sc
    oc := (ho _ h.sc).trans h.oc
    out := Kd.R_mono h.out (fun k hk => ⟨hS k hk.1, (ho k hk.1).trans hk.2⟩)
    mid := Kd.R_mono h.mid (fun k hk => ⟨hS k hk.1, (ho k hk.1).trans hk.2⟩)
    row := fun g hg => Kd.R_mono (h.row g hg) (fun k hk => ⟨hS k hk.1, (ho k hk.1).trans hk.2⟩) }

/-- A cache is a row that lies in a block of its own. -/
theorem PoolIn.new_row {w : World} {base N : Nat} {S S' : Nat → Prop} {ow : Nat → Nat} {p c : Nat} {vo vm : Value} {hs : List Value} {P : PoolM} (h : PoolIn w base S ow p c vo vm hs P) (hN : ∀ k, S k → k < N) (hS : ∀ k, S k → S' k) {g : Nat} (hg : g < hs.length) {v : Value} {own : List Int} (hr : Kd.R (Kd.int .i64) 3 w base (fun b => S' b ∧ N ≤ b) v own) :
    ∃ ow', PoolIn (w.setCell ⟨c, g, none⟩ v) base S' ow' p c vo vm (hs.set g v) { P with caches := P.caches.set g own } := by
  refine ⟨fun b => if b < N then ow b else 4 + g, ?_⟩
  have h1 := h.relabel (S' := S') (ow' := fun b => if b < N then ow b else 4 + g) hS (fun k hk => if_pos (hN k hk))
  exact h1.set_row hg (Kd.R_mono hr (fun k hk => ⟨hk.1, by rw [if_neg (by omega)]⟩))

theorem PoolIn.new_mid {w : World} {base N : Nat} {S S' : Nat → Prop} {ow : Nat → Nat} {p c : Nat} {vo vm : Value} {hs : List Value} {P : PoolM} (h : PoolIn w base S ow p c vo vm hs P) (hN : ∀ k, S k → k < N) (hS : ∀ k, S k → S' k) {v : Value} {mid : List Int} (hr : Kd.R (Kd.int .i64) 3 w base (fun b => S' b ∧ N ≤ b) v mid) :
    ∃ ow', PoolIn (w.setCell ⟨p, 2, none⟩ v) base S' ow' p c vo v hs { P with middle := mid } := by
  refine ⟨fun b => if b < N then ow b else 3, ?_⟩
  have h1 := h.relabel (S' := S') (ow' := fun b => if b < N then ow b else 3) hS (fun k hk => if_pos (hN k hk))
  exact h1.set_mid (Kd.R_mono hr (fun k hk => ⟨hk.1, by rw [if_neg (by omega)]⟩))

/-- What Of leaves. -/
def OfPost (w0 : World) (size most : Int) (cs : List (List Int)) (mid : List Int) (fresh : Int) (e : Ending) (w' : World) : Prop :=
  (RightIs size most cs mid fresh → ∃ p P S, e = .returned (.tuple #[.pointer (some ⟨p, 0, none⟩), .int .i64 0]) ∧ PoolAt w' w0.heap.size S p P ∧ P.Right ∧ P.caches = cs ∧ P.middle = mid ∧ P.fresh = fresh) ∧
  (¬ RightIs size most cs mid fresh → e = .returned (.tuple #[.pointer none, .int .i64 1])) ∧ Below w0.heap.size w0 w'

theorem ofPost_no {w0 w' : World} {size most fresh : Int} {cs : List (List Int)} {mid : List Int} (h : ¬ RightIs size most cs mid fresh) (hb : Below w0.heap.size w0 w') : OfPost w0 size most cs mid fresh (.returned (.tuple #[.pointer none, .int .i64 1])) w' :=
  ⟨fun h1 => absurd h1 h, fun _ => rfl, hb⟩

theorem mark_step (n k : Nat) (hk : k < n) : (List.replicate k true ++ List.replicate (n - k) false).set k true = List.replicate (k + 1) true ++ List.replicate (n - (k + 1)) false := by
  rw [List.set_append_right _ _ (by simp), List.length_replicate, Nat.sub_self, show n - k = (n - (k + 1)) + 1 by omega, List.replicate_succ, List.set_cons_zero, show List.replicate (k + 1) true = List.replicate k true ++ [true] from List.replicate_succ', List.append_assoc]
  rfl

theorem flat_le (cs : List (List Int)) (hr : ∀ row ∈ cs, row.length ≤ 100) (g : Nat) : (cs.take g).flatten.length ≤ cs.length * 100 := by
  have : ∀ (c : List (List Int)), (∀ row ∈ c, row.length ≤ 100) → c.flatten.length ≤ c.length * 100 := by
    intro c
    induction c with
    | nil => intro _; simp
    | cons a c ih =>
      intro h
      have h1 := h a (by simp)
      have h2 := ih (fun row hr => h row (by simp [hr]))
      simp only [List.flatten_cons, List.length_append, List.length_cons]
      omega
  have h1 := this (cs.take g) (fun row hm => hr row (List.mem_of_mem_take hm))
  have h2 : (cs.take g).length ≤ cs.length := by rw [List.length_take]; omega
  omega

set_option maxRecDepth 100000 in
set_option maxHeartbeats 4000000 in
theorem of_calls (w0 w : World) (hB : Below w0.heap.size w0 w) (size most fresh : Int) (AC : Option Addr) (cC : Nat) (cs : List (List Int)) (AM : Option Addr) (cM : Nat) (mid : List Int) (hC : Kd.C (Kd.slice 3 (Kd.int .i64)) w0 AC cs.length cs) (hM : Kd.C (Kd.int .i64) w0 AM mid.length mid) (hcM : mid.length ≤ cM) (hl : cs.length ≤ 20) (hr : ∀ row ∈ cs, row.length ≤ 100) (hm : mid.length ≤ 100) :
    Calls Try.prog 15 #[.int .i64 size, .int .i64 most, .slice AC cs.length cC, .slice AM mid.length cM, .int .i64 fresh] w (OfPost w0 size most cs mid fresh) := by
  have HC := Aside0.mk hC
  have HM := Aside0.mk hM
  have HCM := Aside0.mk hcM
  have HRW := Aside0.mk hr
  have HB := Aside0.mk hB
  clear hC hM hcM hr hB
  go_enter Try.func15, Try.ntmps15
  by_cases hn : 0 ≤ size ∧ size ≤ 64 ∧ 0 ≤ (cs.length : Int) ∧ (cs.length : Int) ≤ 8 ∧ 1 ≤ most ∧ most ≤ 16
  · obtain ⟨n, rfl⟩ := Int.eq_ofNat_of_zero_le hn.1
    have HN := Aside0.mk hn
    have hn64 : n ≤ 64 := by omega
    have hT8 : cs.length ≤ 8 := by omega
    clear hn
    go_wp2_with fail
    go_at_call 14
    refine (new_calls w n cs.length most HN.out).mono ?_
    rintro e w1 ⟨p, rfl, h1, b1⟩
    have H1 := Aside0.mk (PoolAt.lower h1 HB.out.size)
    have B1 := Aside0.mk (HB.out.trans (b1.mono HB.out.size))
    have B1W := Aside0.mk b1.size
    clear h1 b1
    by_cases c0 : fresh < 0
    · have e0 : decide (fresh < 0) = true := decide_eq_true c0
      go_wp2_with fail
      go_ret2
      exact ofPost_no (fun h => by have := h.2.1; omega) B1.out
    · have e0 : decide (fresh < 0) = false := decide_eq_false c0
      by_cases c1 : (n : Int) < fresh
      · have e1 : decide ((n : Int) < fresh) = true := decide_eq_true c1
        go_wp2_with fail
        go_ret2
        exact ofPost_no (fun h => by have := h.2.2.1; omega) B1.out
      · have e1 : decide ((n : Int) < fresh) = false := decide_eq_false c1
        obtain ⟨f, rfl⟩ := Int.eq_ofNat_of_zero_le (show 0 ≤ fresh by omega)
        have hfn : f ≤ n := by omega
        have e1' : decide (n < f) = false := decide_eq_false (by omega)
        clear c0 c1
        obtain ⟨ow, c, vo, vm, hs, hin⟩ := H1.out
        have hfc : w1.cell? ⟨p, 3, none⟩ = some (.int .i64 0) := (blk_cell hin.blk 3).trans rfl
        have hff : w1.frozen? ⟨p, 3, none⟩ = false := blk_frozen hin.blk 3
        have hcc : w1.cell? ⟨p, 5, none⟩ = some (.int .i64 0) := (blk_cell hin.blk 5).trans rfl
        have hcf : w1.frozen? ⟨p, 5, none⟩ = false := blk_frozen hin.blk 5
        have hbp := hin.bp
        have H2 := Aside0.mk (PoolAt.mk' ((hin.set_fresh f).set_count f))
        have B2 := Aside0.mk (below_set (v := .int .i64 f) (j := 5) (below_set (v := .int .i64 f) (j := 3) B1.out hbp) hbp)
        have hsz2 : ((w1.setCell ⟨p, 3, none⟩ (.int .i64 f)).setCell ⟨p, 5, none⟩ (.int .i64 f)).heap.size = w1.heap.size := by simp [World.setCell]
        have HSZ := Aside0.mk hsz2
        clear hin H1 B1 hbp hsz2
        go_wp2_with fail
        generalize ((w1.setCell ⟨p, 3, none⟩ (.int .i64 f)).setCell ⟨p, 5, none⟩ (.int .i64 f)) = w2 at *
        have hst : ({ ({ PoolM.new n cs.length most with fresh := (f : Int) } : PoolM) with count := (f : Int) } : PoolM) = { given n cs.length most f with out := List.replicate 0 true ++ List.replicate (n - 0) false } := by simp [PoolM.new, given]
        rw [hst] at H2
        clear hst hfc hff hcc hcf
        go_loopg [50] f (fun kq v50 wr => ∃ (i : Nat), v50 = .int .i64 i ∧ i ≤ f ∧ Aside0 (kq = f - i) ∧ Aside0 (PoolAt wr w0.heap.size (fun b => w.heap.size ≤ b) p { given n cs.length most f with out := List.replicate i true ++ List.replicate (n - i) false }) ∧ Aside0 (Below w0.heap.size w0 wr) ∧ Aside0 (w.heap.size ≤ wr.heap.size))
        case atStart => exact ⟨0, rfl, by omega, ⟨by omega⟩, H2, B2, ⟨by rw [HSZ.out]; exact B1W.out⟩⟩
        case round =>
          clear H2 B2 HSZ B1W
          obtain ⟨i, rfl, hi, HK, HH, HB2, HSZ⟩ := hrel
          by_cases ci : i < f
          · have d1 : decide ((i : Int) < (f : Int)) = true := decide_eq_true (by omega)
            have d1' : decide (i < f) = true := decide_eq_true ci
            obtain ⟨ow, c, vo, vm, hs, hin⟩ := HH.out
            obtain ⟨go, cap, hv, hgS, hgw, hgb, hd1, hd2, hd3⟩ := PoolIn.out_at hin (i : Int) (by omega) (by simp; omega)
            simp only [Int.toNat_natCast] at hd2 hd3
            have hlen : (List.replicate i true ++ List.replicate (n - i) false).length = n := by simp; omega
            have hd1' : wr.cell? ⟨p, 0, none⟩ = some (.slice (some ⟨go, 0, none⟩) n cap) := by rw [← hlen]; exact hd1
            have hin' : i < n := by omega
            have H3 := Aside0.mk (PoolAt.mk' (hin.set_out hv (i : Int) true))
            rw [Int.toNat_natCast] at H3
            simp only at H3
            rw [mark_step n i hin'] at H3
            have HG := Aside0.mk hgb
            have HSZ2 : Aside0 (w.heap.size ≤ (wr.setCell ⟨go, i, none⟩ (.bool true)).heap.size) := ⟨by have := HSZ.out; simpa [World.setCell] using this⟩
            clear hin hv hgS hgw hgb hd1 hlen HH
            go_wp2_with fail
            go_roundg (f - (i + 1))
            case measure => have := HK.out; omega
            case rel => exact ⟨i + 1, by go_num, by omega, ⟨rfl⟩, H3, ⟨below_set HB2.out HG.out⟩, HSZ2⟩
          · have d1 : decide ((i : Int) < (f : Int)) = false := decide_eq_false (by omega)
            have d1' : decide (i < f) = false := decide_eq_false ci
            have e : i = f := by omega
            clear ci HK hi
            subst e
            have HH2 : Aside0 (PoolAt wr w0.heap.size (fun b => w.heap.size ≤ b) p (ofUpto cs (given n cs.length most i, true) 0).1) := HH
            clear HH
            go_wp2_with fail
            obtain ⟨wo, rfl⟩ : ∃ wo : World, wo = wr := ⟨_, rfl⟩
            go_loopg [15, 62] cs.length (fun kq v15 v62 wr => ∃ (g : Nat), v62 = .int .i64 g ∧ v15 = .bool (ofUpto cs (given n cs.length most i, true) g).2 ∧ g ≤ cs.length ∧ Aside0 (kq = cs.length - g) ∧ Aside0 (PoolAt wr w0.heap.size (fun b => w.heap.size ≤ b) p (ofUpto cs (given n cs.length most i, true) g).1) ∧ Aside0 (Below w0.heap.size w0 wr) ∧ Aside0 (w.heap.size ≤ wr.heap.size))
            case atStart => exact ⟨0, rfl, rfl, by omega, ⟨by omega⟩, HH2, HB2, HSZ⟩
            case round =>
              clear HH2 HB2 HSZ
              obtain ⟨g, rfl, rfl, hg, HK, HH, HB2, HSZ⟩ := hrel
              have HU := Aside0.mk (upto_is cs n most i hfn g hg)
              by_cases cg : g < cs.length
              · have d2 : decide ((g : Int) < (cs.length : Int)) = true := decide_eq_true (by omega)
                have d2' : decide (g < cs.length) = true := decide_eq_true cg
                have HST := Aside0.mk (show ofUpto cs (given n cs.length most i, true) (g + 1) = ofStep (ofUpto cs (given n cs.length most i, true) g) g (cs.getD g []) from rfl)
                obtain ⟨ad, rfl, A0, c0, hx, hl0, hc0⟩ := rows_at HC.out g cg
                obtain ⟨row, hrow⟩ : ∃ row, cs.getD g [] = row := ⟨_, rfl⟩
                obtain ⟨⟨P, ok⟩, hs⟩ : ∃ s, ofUpto cs (given n cs.length most i, true) g = s := ⟨_, rfl⟩
                have hrl : row.length ≤ 100 := by
                  rw [← hrow, List.getD_eq_getElem?_getD, List.getElem?_eq_getElem cg]
                  exact HRW.out _ (List.getElem_mem cg)
                have HS := Aside0.mk hs
                rw [hs] at HH HU HST
                rw [hrow] at hx hl0 hc0 HST
                rw [hs]
                have hxr := pw_cell_below HB2.out hx
                have HLC := Aside0.mk (And.intro hl0 hc0)
                clear hx hl0 hc0 hrow hs
                have HFL := Aside0.mk (flat_le cs HRW.out g)
                simp only at HH
                go_wp2_with fail
                go_at_call 29
                refine (lay_calls w0 wr (fun b => w.heap.size ≤ b ∧ b < wr.heap.size) p P A0 c0 row HB2.out HH.out.bound HLC.out.2 HLC.out.1 (by omega) (by have h1 := HU.out.fr; have h2 := HU.out.out; simp only at h1 h2; omega) (by have h1 := HU.out.count; have h2 := HFL.out; simp only at h1; omega)).mono ?_
                rintro e w3 ⟨v, rfl, h3, hr3, hb3, hk3⟩
                obtain ⟨A3, c3, rfl⟩ := Kd.R_slice hr3
                obtain ⟨ow, c, vo, vm, hs, hin⟩ := h3
                have hsl : hs.length = cs.length := hin.len.trans HU.out.takers
                have hc1 : w3.cell? ⟨p, 1, none⟩ = some (.slice (some ⟨c, 0, none⟩) cs.length cs.length) := by rw [← hsl]; exact (blk_cell hin.blk 1).trans rfl
                have hgh : g < hs.length := by omega
                obtain ⟨vg, hvg⟩ : ∃ vg, w3.cell? ⟨c, g, none⟩ = some vg := ⟨hs[g], by rw [blk_cell hin.hdr g]; simp [hgh]⟩
                have hfg : w3.frozen? ⟨c, g, none⟩ = false := blk_frozen hin.hdr g
                have h4 := PoolIn.new_row (N := wr.heap.size) (S' := fun b => w.heap.size ≤ b) hin (fun k hk => hk.2) (fun k hk => hk.1) hgh (Kd.R_mono hr3 (fun k hk => ⟨Nat.le_trans HSZ.out hk, hk⟩))
                have hpm : P.most = most := HU.out.mo
                have H4 := Aside0.mk h4
                have HBC := Aside0.mk (And.intro hb3 hin.bc)
                have HSZ3 : Aside0 (w.heap.size ≤ (w3.setCell ⟨c, g, none⟩ (.slice A3 (laidRow P row).length c3)).heap.size) := ⟨by have := HSZ.out; have := hk3.1; simp [World.setCell]; omega⟩
                have HPM := Aside0.mk hpm
                have HSD : Aside0 (∀ b, b = (ok && fine P row && decide ((row.length : Int) ≤ most)) → ofUpto cs (given n cs.length most i, true) (g + 1) = ({ laid P row with caches := (laid P row).caches.set g (laidRow P row) }, b)) := ⟨fun b hb => by rw [HST.out, hb, ← hpm]; rfl⟩
                clear hin hr3 hb3 hk3 h4 hpm hsl hxr HST HH HB2
                obtain ⟨fi, hfi⟩ : ∃ fi, fine P row = fi := ⟨_, rfl⟩
                rw [hfi] at HSD ⊢
                clear hfi
                obtain ⟨lr, hlr⟩ : ∃ lr, laidRow P row = lr := ⟨_, rfl⟩
                rw [hlr] at HSD H4 HSZ3 ⊢
                clear hlr
                have key : ∀ b, b = (ok && fi && decide ((row.length : Int) ≤ most)) → ∃ g_1 : Nat, (Value.int .i64 ((g : Int) + 1)) = .int .i64 g_1 ∧ Value.bool b = .bool (ofUpto cs (given n cs.length most i, true) g_1).2 ∧ g_1 ≤ cs.length ∧ Aside0 (cs.length - (g + 1) = cs.length - g_1) ∧ Aside0 (PoolAt (w3.setCell ⟨c, g, none⟩ (.slice A3 lr.length c3)) w0.heap.size (fun b => w.heap.size ≤ b) p (ofUpto cs (given n cs.length most i, true) g_1).1) ∧ Aside0 (Below w0.heap.size w0 (w3.setCell ⟨c, g, none⟩ (.slice A3 lr.length c3))) ∧ Aside0 (w.heap.size ≤ (w3.setCell ⟨c, g, none⟩ (.slice A3 lr.length c3)).heap.size) := fun b hb => by
                  refine ⟨g + 1, by go_num, ?_, by omega, ⟨rfl⟩, ?_, ⟨below_set HBC.out.1 HBC.out.2⟩, HSZ3⟩
                  · rw [HSD.out b hb]
                  · rw [HSD.out b hb]
                    obtain ⟨ow', h5⟩ := H4.out
                    exact ⟨PoolAt.mk' h5⟩
                have KEY := Aside0.mk key
                clear key H4 HBC HSZ3 HSD
                cases ok with
                | false =>
                  go_wp2_with fail
                  go_roundg (cs.length - (g + 1))
                  case measure => have := HK.out; omega
                  case rel => exact KEY.out false (by simp)
                | true =>
                  cases fi with
                  | false =>
                    go_wp2_with fail
                    go_roundg (cs.length - (g + 1))
                    case measure => have := HK.out; omega
                    case rel => exact KEY.out false (by simp)
                  | true =>
                    by_cases cm : (row.length : Int) ≤ most
                    · have dm : decide ((row.length : Int) ≤ most) = true := decide_eq_true cm
                      go_wp2_with fail
                      go_roundg (cs.length - (g + 1))
                      case measure => have := HK.out; omega
                      case rel => exact KEY.out true (by simp [cm])
                    · have dm : decide ((row.length : Int) ≤ most) = false := decide_eq_false cm
                      go_wp2_with fail
                      go_roundg (cs.length - (g + 1))
                      case measure => have := HK.out; omega
                      case rel => exact KEY.out false (by simp [cm])
              · have d2 : decide ((g : Int) < (cs.length : Int)) = false := decide_eq_false (by omega)
                have d2' : decide (g < cs.length) = false := decide_eq_false cg
                have e : g = cs.length := by omega
                clear cg HK hg
                subst e
                have HD := Aside0.mk (done_is cs mid n most i hfn hn64 hT8 ⟨by have := HN.out; omega, by have := HN.out; omega⟩)
                obtain ⟨⟨P, ok⟩, hs⟩ : ∃ s, ofUpto cs (given n cs.length most i, true) cs.length = s := ⟨_, rfl⟩
                rw [hs] at HH HU HD ⊢
                clear hs
                have HFL := Aside0.mk (flat_le cs HRW.out cs.length)
                simp only at HH
                go_wp2_with fail
                go_at_call 29
                refine (lay_calls w0 wr (fun b => w.heap.size ≤ b ∧ b < wr.heap.size) p P AM cM mid HB2.out HH.out.bound HM.out HCM.out (by omega) (by have h1 := HU.out.fr; have h2 := HU.out.out; simp only at h1 h2; omega) (by have h1 := HU.out.count; have h2 := HFL.out; simp only at h1; omega)).mono ?_
                rintro e w3 ⟨v, rfl, h3, hr3, hb3, hk3⟩
                obtain ⟨A3, c3, rfl⟩ := Kd.R_slice hr3
                obtain ⟨ow, c, vo, vm, hs, hin⟩ := h3
                have h4 := PoolIn.new_mid (N := wr.heap.size) (S' := fun b => w.heap.size ≤ b) hin (fun k hk => hk.2) (fun k hk => hk.1) (Kd.R_mono hr3 (fun k hk => ⟨Nat.le_trans HSZ.out hk, hk⟩))
                have hp2 : w3.cell? ⟨p, 2, none⟩ = some vm := (blk_cell hin.blk 2).trans rfl
                have hpf : w3.frozen? ⟨p, 2, none⟩ = false := blk_frozen hin.blk 2
                have HBP := Aside0.mk (And.intro hb3 hin.bp)
                have hdone : ofDone (P, ok) mid = ({ laid P mid with middle := laidRow P mid }, ok && fine P mid) := rfl
                have HD2 : Aside0 (((ok && fine P mid) = true ↔ RightIs n most cs mid i) ∧ ((ok && fine P mid) = true → ({ laid P mid with middle := laidRow P mid } : PoolM).Right ∧ P.caches = cs ∧ laidRow P mid = mid ∧ P.fresh = i)) := ⟨HD.out⟩
                have H4 := Aside0.mk h4
                clear hin hr3 hb3 hk3 h4 HD hdone HH HB2
                obtain ⟨fi, hfi⟩ : ∃ fi, fine P mid = fi := ⟨_, rfl⟩
                rw [hfi] at HD2 ⊢
                clear hfi
                obtain ⟨lr, hlr⟩ : ∃ lr, laidRow P mid = lr := ⟨_, rfl⟩
                rw [hlr] at HD2 H4 ⊢
                clear hlr
                cases ok with
                | false =>
                  go_wp2_with fail
                  go_ret2
                  exact ofPost_no (fun h => by have := HD2.out.1.2 h; simp at this) (below_set HBP.out.1 HBP.out.2)
                | true =>
                  cases fi with
                  | false =>
                    go_wp2_with fail
                    go_ret2
                    exact ofPost_no (fun h => by have := HD2.out.1.2 h; simp at this) (below_set HBP.out.1 HBP.out.2)
                  | true =>
                    go_wp2_with fail
                    go_ret2
                    obtain ⟨ow', h5⟩ := H4.out
                    obtain ⟨q1, q2, q3, q4⟩ := HD2.out.2 rfl
                    exact ⟨fun _ => ⟨p, _, _, rfl, PoolAt.mk' h5, q1, q2, q3, q4⟩, fun h => absurd (HD2.out.1.1 rfl) h, below_set HBP.out.1 HBP.out.2⟩
  · have hn' : ¬ RightIs size most cs mid fresh := fun h => hn ⟨h.1.1, h.1.2.1, by omega, by have := h.1.2.2.1; omega, h.1.2.2.2⟩
    have HN := Aside0.mk hn
    clear hn
    go_wp2_with fail
    go_at_call 14
    refine (new_no w size cs.length most HN.out).mono ?_
    rintro e w1 ⟨rfl, rfl⟩
    go_wp2_with fail
    go_ret2
    exact ofPost_no hn' HB.out
end Go.Proofs.Ytfajhdcambkbpaa.Pool
