/- Package pool: the document's pool in memory, and what its functions make of it. -/
import Derived.Test.YtifajoehlgdgaaaPoolS
import Derived.Test.YtifajoehlgdgaaaPoolP
namespace Go.Proofs.Ytifajoehlgdgaaa.Pool
open Go.RowKit Go.Proofs.YtifajoehlgdgaaaW.PrintWords Go.Proofs.YtifajoehlgdgaaaW.PrintMore

/-- The rows of the document's pool, in blocks of their own. -/
structure Doc (W w : World) (D : Nat → Prop) (P : PoolM) (AC : Option Addr) (cC : Nat) (AM : Option Addr) (cM : Nat) : Prop where
  rows : Kd.V (Kd.slice 3 (Kd.int .i64)) 25 w W.heap.size (fun k => D k ∧ some k ≠ (Value.slice AM P.middle.length cM).ownBlock) (.slice AC P.caches.length cC) P.caches
  mid : Kd.R (Kd.int .i64) 3 w W.heap.size D (.slice AM P.middle.length cM) P.middle
  own : ∀ k, D k → k < w.heap.size

variable {W w w' : World} {S D : Nat → Prop} {p : Nat} {P : PoolM} {n T : Nat} {m : Int} {AC AM : Option Addr} {cC cM : Nat}

theorem Doc.step (h : Doc W w D P AC cC AM cM) (hs : w.heap.size ≤ w'.heap.size) (hm : ∀ k, D k → k < w.heap.size → w'.heap[k]? = w.heap[k]?) : Doc W w' D P AC cC AM cM where
  rows := Kd.V_step h.rows (fun k hk hl => hm k hk.1 hl)
  mid := Kd.R_step h.mid hm
  own := fun k hk => Nat.lt_of_lt_of_le (h.own k hk) hs

theorem Doc.below (h : Doc W w D P AC cC AM cM) (hb : Below w.heap.size w w') : Doc W w' D P AC cC AM cM := h.step hb.size (fun k _ hl => hb.block k hl)

theorem Doc.rowsC (h : Doc W w D P AC cC AM cM) : P.caches.length ≤ cC ∧ Kd.C (Kd.slice 3 (Kd.int .i64)) w AC P.caches.length P.caches := (Kd.V_reads' h.rows).2

theorem Doc.midC (h : Doc W w D P AC cC AM cM) : P.middle.length ≤ cM ∧ Kd.C (Kd.int .i64) w AM P.middle.length P.middle := (Kd.R_reads' h.mid).2

/-- What a call that makes another pool of the document's leaves. -/
structure Made (W w w' : World) (D D' : Nat → Prop) (P' : PoolM) (AC : Option Addr) (cC : Nat) (AM : Option Addr) (cM : Nat) : Prop where
  doc : Doc W w' D' P' AC cC AM cM
  below : Below W.heap.size W w'
  kept : ∀ k, ¬ D k → k < w.heap.size → w'.heap[k]? = w.heap[k]? ∧ ¬ D' k
  size : w.heap.size ≤ w'.heap.size

theorem made_of (v2 v3 : Value) (P' : PoolM) (hb : Below W.heap.size W w') (hv : Kd.V (Kd.slice 3 (Kd.int .i64)) 25 w' W.heap.size (fun k => ((D k ∨ D k) ∨ w.heap.size ≤ k) ∧ some k ≠ v3.ownBlock) v2 P'.caches) (hr : Kd.R (Kd.int .i64) 3 w' W.heap.size (fun k => D k ∨ w.heap.size ≤ k) v3 P'.middle) (hk : Kept w w' D) :
    ∃ D' AC cC AM cM, v2 = .slice AC P'.caches.length cC ∧ v3 = .slice AM P'.middle.length cM ∧ Made W w w' D D' P' AC cC AM cM := by
  obtain ⟨AC, cC, rfl⟩ := Kd.V_slice hv
  obtain ⟨AM, cM, rfl⟩ := Kd.R_slice hr
  refine ⟨fun k => (D k ∨ w.heap.size ≤ k) ∧ k < w'.heap.size, AC, cC, AM, cM, rfl, rfl, ⟨?_, ?_, fun k hk => hk.2⟩, hb, fun k hn hl => ⟨hk.2 k hl hn, fun h => h.1.elim hn (fun h2 => by omega)⟩, hk.1⟩
  · exact Kd.V_mono (Kd.V_bound hv) (fun k hk => ⟨⟨hk.1.1.elim (fun h => .inl (h.elim id id)) .inr, hk.2⟩, hk.1.2⟩)
  · exact Kd.R_mono (Kd.R_bound hr) (fun k hk => ⟨hk.1, hk.2.2.1⟩)

theorem take_doc (hb : Below W.heap.size W w) (h : Doc W w D P AC cC AM cM) (hR : P.Right) (g : Nat) (hg : g < P.caches.length) :
    Calls Try.prog 51 #[.agg #[.int .i64 P.out.length, .int .i64 P.most, .slice AC P.caches.length cC, .slice AM P.middle.length cM, .int .i64 P.fresh], .int .i64 g] w fun e w' => ∃ D' P' x b AC' cC' AM' cM', P.take g = some (P', x, b) ∧ P'.out.length = P.out.length ∧ P'.most = P.most ∧
      e = .returned (.tuple #[.agg #[.int .i64 P.out.length, .int .i64 P.most, .slice AC' P'.caches.length cC', .slice AM' P'.middle.length cM', .int .i64 P'.fresh], .int .i64 x, .bool b]) ∧ Made W w w' D D' P' AC' cC' AM' cM' := by
  obtain ⟨P', x, b, ht, _, hm, ho, _⟩ := take_right P g hR hg
  refine (PPoolR.handoffref05_Take.calls 101 P.out.length P.most D AC cC P.caches D _ P.middle P.fresh g P'.out.length P'.most P'.caches P'.middle P'.fresh x b W w hb h.rows h.mid (ref_take P hR g hg P' x b ht 101 (by omega))).mono ?_
  rintro e w' ⟨v2, v3, rfl, hv, hr, hb', hk⟩
  obtain ⟨D', AC', cC', AM', cM', rfl, rfl, hd⟩ := made_of v2 v3 P' hb' hv hr hk
  exact ⟨D', P', x, b, AC', cC', AM', cM', ht, ho, hm, by rw [ho, hm], hd⟩

theorem take_doc_no (hb : Below W.heap.size W w) (h : Doc W w D P AC cC AM cM) (g n m : Int) (hg : ¬ (0 ≤ g ∧ g < (P.caches.length : Int))) :
    Calls Try.prog 51 #[.agg #[.int .i64 n, .int .i64 m, .slice AC P.caches.length cC, .slice AM P.middle.length cM, .int .i64 P.fresh], .int .i64 g] w fun e w' => ∃ D' AC' cC' AM' cM',
      e = .returned (.tuple #[.agg #[.int .i64 n, .int .i64 m, .slice AC' P.caches.length cC', .slice AM' P.middle.length cM', .int .i64 P.fresh], .int .i64 0, .bool false]) ∧ Made W w w' D D' P AC' cC' AM' cM' := by
  refine (PPoolR.handoffref05_Take.calls 1 n m D AC cC P.caches D _ P.middle P.fresh g n m P.caches P.middle P.fresh 0 false W w hb h.rows h.mid (ref_take_no P g hg 0 n m P.fresh P.middle)).mono ?_
  rintro e w' ⟨v2, v3, rfl, hv, hr, hb', hk⟩
  obtain ⟨D', AC', cC', AM', cM', rfl, rfl, hd⟩ := made_of v2 v3 P hb' hv hr hk
  exact ⟨D', AC', cC', AM', cM', rfl, hd⟩

theorem give_doc (hb : Below W.heap.size W w) (h : Doc W w D P AC cC AM cM) (hR : P.Right) (g : Nat) (x : Int) (hg : g < P.caches.length) (hx : P.live x = true) :
    Calls Try.prog 52 #[.agg #[.int .i64 P.out.length, .int .i64 P.most, .slice AC P.caches.length cC, .slice AM P.middle.length cM, .int .i64 P.fresh], .int .i64 g, .int .i64 x] w fun e w' => ∃ D' AC' cC' AM' cM',
      e = .returned (.tuple #[.agg #[.int .i64 P.out.length, .int .i64 P.most, .slice AC' (P.give g x).caches.length cC', .slice AM' (P.give g x).middle.length cM', .int .i64 (P.give g x).fresh], .bool true]) ∧ Made W w w' D D' (P.give g x) AC' cC' AM' cM' := by
  have ho : (P.give g x).out.length = P.out.length := by have := (give_right P g x hR hg hx).2.2.2.1; rw [this, List.length_set]
  have hf : (P.give g x).fresh = P.fresh := rfl
  refine (PPoolR.handoffref05_Give.calls 101 P.out.length P.most D AC cC P.caches D _ P.middle P.fresh g x (P.give g x).out.length P.most (P.give g x).caches (P.give g x).middle P.fresh true W w hb h.rows h.mid (ref_give P hR g x hg hx 101 (by omega))).mono ?_
  rintro e w' ⟨v2, v3, rfl, hv, hr, hb', hk⟩
  obtain ⟨D', AC', cC', AM', cM', rfl, rfl, hd⟩ := made_of v2 v3 (P.give g x) hb' hv hr hk
  exact ⟨D', AC', cC', AM', cM', by rw [ho, hf], hd⟩

theorem give_doc_no (hb : Below W.heap.size W w) (h : Doc W w D P AC cC AM cM) (hR : P.Right) (g x n m : Int) (hn : ¬ (0 ≤ g ∧ g < (P.caches.length : Int) ∧ P.live x = true)) :
    Calls Try.prog 52 #[.agg #[.int .i64 n, .int .i64 m, .slice AC P.caches.length cC, .slice AM P.middle.length cM, .int .i64 P.fresh], .int .i64 g, .int .i64 x] w fun e w' => ∃ D' AC' cC' AM' cM',
      e = .returned (.tuple #[.agg #[.int .i64 n, .int .i64 m, .slice AC' P.caches.length cC', .slice AM' P.middle.length cM', .int .i64 P.fresh], .bool false]) ∧ Made W w w' D D' P AC' cC' AM' cM' := by
  refine (PPoolR.handoffref05_Give.calls 101 n m D AC cC P.caches D _ P.middle P.fresh g x n m P.caches P.middle P.fresh false W w hb h.rows h.mid (ref_give_no P hR g x hn 101 (by omega) n m)).mono ?_
  rintro e w' ⟨v2, v3, rfl, hv, hr, hb', hk⟩
  obtain ⟨D', AC', cC', AM', cM', rfl, rfl, hd⟩ := made_of v2 v3 P hb' hv hr hk
  exact ⟨D', AC', cC', AM', cM', rfl, hd⟩

theorem live_doc (h : Doc W w D P AC cC AM cM) (hR : P.Right) (x n m : Int) :
    Calls Try.prog 55 #[.agg #[.int .i64 n, .int .i64 m, .slice AC P.caches.length cC, .slice AM P.middle.length cM, .int .i64 P.fresh], .int .i64 x] w fun e w' => e = .returned (.bool (P.live x)) ∧ Below w.heap.size w w' :=
  PPoolR.handoffref05_Live.calls 101 n m AC cC P.caches AM cM P.middle P.fresh x (P.live x) w h.rowsC.2 h.rowsC.1 h.midC.2 h.midC.1 (ref_live P hR x 101 (by omega) n m)
end Go.Proofs.Ytifajoehlgdgaaa.Pool
