/- Package pool: what becomes of a pool's parts where one of them is written. -/
import Derived.Test.YtfajhdcambkbpaaPoolA
namespace Go.Proofs.Ytfajhdcambkbpaa.Pool
open Go.RowKit Go.Proofs.YtfajhdcambkbpaaW.PrintWords

/-- One cache and the middle turned. -/
def PoolM.rows (P : PoolM) (g : Nat) (mid own : List Int) : PoolM := { P with middle := mid, caches := P.caches.set g own }

section
variable {w : World} {base : Nat} {S : Nat → Prop} {ow : Nat → Nat} {p c : Nat} {vo vm : Value} {hs : List Value} {P : PoolM}

theorem PoolIn.pc (h : PoolIn w base S ow p c vo vm hs P) : p ≠ c := fun e => by have h1 := h.op; have h2 := h.oc; rw [e] at h1; omega

/-- A row of one part, moved where blocks of another part alone have turned. -/
theorem part_move {α : Type} {d : Kd α} {e : Nat} {w w1 : World} {base : Nat} {S S' : Nat → Prop} {ow ow' : Nat → Nat} {v : Value} {xs : List α} {t : Nat} (h : d.R e w base (fun b => S b ∧ ow b = t) v xs)
    (hm : ∀ k, S k → ow k = t → k < w.heap.size → w1.heap[k]? = w.heap[k]?) (hS : ∀ k, S k → S' k) (ho : ∀ k, k < w.heap.size → ow' k = ow k) : d.R e w1 base (fun b => S' b ∧ ow' b = t) v xs :=
  Kd.R_mono (Kd.R_step (Kd.R_bound h) (fun k hk hl => hm k hk.1.1 hk.1.2 hl)) (fun k hk => ⟨hS k hk.1.1, by rw [ho k hk.2.2.1]; exact hk.1.2⟩)

/-- The middle is another row of the same block. -/
theorem PoolIn.set_mid (h : PoolIn w base S ow p c vo vm hs P) {vm' : Value} {mid' : List Int} (hr : Kd.R (Kd.int .i64) 3 w base (fun b => S b ∧ ow b = 3) vm' mid') :
    PoolIn (w.setCell ⟨p, 2, none⟩ vm') base S ow p c vo vm' hs { P with middle := mid' } where
  sp := h.sp
  op := h.op
  bp := h.bp
  blk := blk_put h.blk 2 _ rfl
  sc := h.sc
  oc := h.oc
  bc := h.bc
  hdr := blk_far h.hdr h.pc.symm _
  len := h.len
  out := Kd.R_far h.out (fun k hk e => by have := hk.2; rw [show k = p from e, h.op] at this; omega) _
  mid := Kd.R_far hr (fun k hk e => by have := hk.2; rw [show k = p from e, h.op] at this; omega) _
  row := fun g hg => Kd.R_far (h.row g hg) (fun k hk e => by have := hk.2; rw [show k = p from e, h.op] at this; omega) _

theorem getD_set_same {α : Type} {l : List α} {i : Nat} {x d : α} (h : i < l.length) : (l.set i x).getD i d = x := by
  simp [List.getD_eq_getElem?_getD, h]

theorem getD_set_ne {α : Type} {l : List α} {i j : Nat} {x d : α} (h : i ≠ j) : (l.set i x).getD j d = l.getD j d := by
  simp [List.getD_eq_getElem?_getD, h]

/-- One cache is another row of the same block. -/
theorem PoolIn.set_row (h : PoolIn w base S ow p c vo vm hs P) {g : Nat} (hg : g < hs.length) {v' : Value} {own' : List Int} (hr : Kd.R (Kd.int .i64) 3 w base (fun b => S b ∧ ow b = 4 + g) v' own') :
    PoolIn (w.setCell ⟨c, g, none⟩ v') base S ow p c vo vm (hs.set g v') { P with caches := P.caches.set g own' } where
  sp := h.sp
  op := h.op
  bp := h.bp
  blk := by rw [List.length_set]; exact blk_far h.blk h.pc _
  sc := h.sc
  oc := h.oc
  bc := h.bc
  hdr := blk_put h.hdr g v' (by simp)
  len := by simpa using h.len
  out := Kd.R_far h.out (fun k hk e => by have := hk.2; rw [show k = c from e, h.oc] at this; omega) _
  mid := Kd.R_far h.mid (fun k hk e => by have := hk.2; rw [show k = c from e, h.oc] at this; omega) _
  row := fun g' hg' => by
    rw [List.length_set] at hg'
    by_cases e : g = g'
    · subst e
      rw [getD_set_same hg, getD_set_same (by rw [← h.len]; exact hg)]
      exact Kd.R_far hr (fun k hk e => by have := hk.2; rw [show k = c from e, h.oc] at this; omega) _
    · rw [getD_set_ne e, getD_set_ne e]
      exact Kd.R_far (h.row g' hg') (fun k hk e => by have := hk.2; rw [show k = c from e, h.oc] at this; omega) _

/-- A cache has grown, maybe into a new block. -/
theorem PoolIn.push_row (h : PoolIn w base S ow p c vo vm hs P) {g : Nat} (hg : g < hs.length) {w1 : World} {v' : Value} {own' : List Int} (hb : ∀ k, (hs.getD g undef).ownBlock = some k → ow k = 4 + g)
    (hgr : w.grownBy w1 (hs.getD g undef).ownBlock) (hr : Kd.R (Kd.int .i64) 3 w1 base (fun b => S b ∧ (ow b = 4 + g ∨ w.heap.size ≤ b)) v' own') :
    ∃ ow', PoolIn (w1.setCell ⟨c, g, none⟩ v') base S ow' p c vo vm (hs.set g v') { P with caches := P.caches.set g own' } := by
  refine ⟨fun b => if b < w.heap.size then ow b else 4 + g, ?_⟩
  have hmove : ∀ k, k < w.heap.size → ow k ≠ 4 + g → w1.heap[k]? = w.heap[k]? := fun k hk hne => hgr.block k hk (fun e => hne (hb k e.symm))
  have hp := blk_lt h.blk
  have hc := blk_lt h.hdr
  have how : ∀ k, k < w.heap.size → (if k < w.heap.size then ow k else 4 + g) = ow k := fun k hk => if_pos hk
  refine { sp := h.sp, op := by rw [how _ hp]; exact h.op, bp := h.bp, blk := ?_, sc := h.sc, oc := by rw [how _ hc]; exact h.oc, bc := h.bc, hdr := ?_, len := by simpa using h.len, out := ?_, mid := ?_, row := ?_ }
  · rw [List.length_set]
    exact blk_far ((hmove p hp (by rw [h.op]; omega)).trans h.blk) h.pc _
  · exact blk_put ((hmove c hc (by rw [h.oc]; omega)).trans h.hdr) g v' (by simp)
  · exact Kd.R_far (part_move h.out (fun k _ ho hl => hmove k hl (by rw [ho]; omega)) (fun _ hk => hk) how) (fun k hk e => by
      have h2 := hk.2
      rw [show k = c from e, how c hc, h.oc] at h2; omega) _
  · exact Kd.R_far (part_move h.mid (fun k _ ho hl => hmove k hl (by rw [ho]; omega)) (fun _ hk => hk) how) (fun k hk e => by
      have h2 := hk.2
      rw [show k = c from e, how c hc, h.oc] at h2; omega) _
  · intro g' hg'
    rw [List.length_set] at hg'
    by_cases e : g = g'
    · subst e
      rw [getD_set_same hg, getD_set_same (by rw [← h.len]; exact hg)]
      refine Kd.R_far (Kd.R_mono hr (fun k hk => ⟨hk.1, ?_⟩)) (fun k hk e => ?_) _
      · have h2 := hk.2
        rw [show k = c from e, how c hc, h.oc] at h2; omega
      · by_cases hkl : k < w.heap.size
        · rw [how k hkl]
          rcases hk.2 with h1 | h1
          · exact h1
          · omega
        · exact if_neg hkl
    · rw [getD_set_ne e, getD_set_ne e]
      exact Kd.R_far (part_move (h.row g' hg') (fun k _ ho hl => hmove k hl (by rw [ho]; omega)) (fun _ hk => hk) how) (fun k hk e => by
        have h2 := hk.2
        rw [show k = c from e, how c hc, h.oc] at h2; omega) _

/-- The middle has grown, maybe into a new block. -/
theorem PoolIn.push_mid (h : PoolIn w base S ow p c vo vm hs P) {w1 : World} {v' : Value} {mid' : List Int} (hb : ∀ k, vm.ownBlock = some k → ow k = 3)
    (hgr : w.grownBy w1 vm.ownBlock) (hr : Kd.R (Kd.int .i64) 3 w1 base (fun b => S b ∧ (ow b = 3 ∨ w.heap.size ≤ b)) v' mid') :
    ∃ ow', PoolIn (w1.setCell ⟨p, 2, none⟩ v') base S ow' p c vo v' hs { P with middle := mid' } := by
  refine ⟨fun b => if b < w.heap.size then ow b else 3, ?_⟩
  have hmove : ∀ k, k < w.heap.size → ow k ≠ 3 → w1.heap[k]? = w.heap[k]? := fun k hk hne => hgr.block k hk (fun e => hne (hb k e.symm))
  have hp := blk_lt h.blk
  have hc := blk_lt h.hdr
  have how : ∀ k, k < w.heap.size → (if k < w.heap.size then ow k else 3) = ow k := fun k hk => if_pos hk
  have far : ∀ {t k : Nat}, (if k < w.heap.size then ow k else 3) = t → t ≠ 0 → k ≠ p := fun {t k} h1 h2 e => by rw [e, how p hp, h.op] at h1; omega
  refine { sp := h.sp, op := by rw [how _ hp]; exact h.op, bp := h.bp, blk := ?_, sc := h.sc, oc := by rw [how _ hc]; exact h.oc, bc := h.bc, hdr := ?_, len := h.len, out := ?_, mid := ?_, row := ?_ }
  · exact blk_put ((hmove p hp (by rw [h.op]; omega)).trans h.blk) 2 v' rfl
  · exact blk_far ((hmove c hc (by rw [h.oc]; omega)).trans h.hdr) h.pc.symm _
  · exact Kd.R_far (part_move h.out (fun k _ ho hl => hmove k hl (by rw [ho]; omega)) (fun _ hk => hk) how) (fun k hk => far hk.2 (by omega)) _
  · refine Kd.R_far (Kd.R_mono hr (fun k hk => ⟨hk.1, ?_⟩)) (fun k (hk : S k ∧ _) => far hk.2 (by omega)) _
    by_cases hkl : k < w.heap.size
    · rw [how k hkl]
      rcases hk.2 with h1 | h1
      · exact h1
      · omega
    · exact if_neg hkl
  · intro g' hg'
    exact Kd.R_far (part_move (h.row g' hg') (fun k _ ho hl => hmove k hl (by rw [ho]; omega)) (fun _ hk => hk) how) (fun k hk => far hk.2 (by omega)) _
/-- A bool of out is written. -/
theorem PoolIn.set_out (h : PoolIn w base S ow p c vo vm hs P) {go n cap : Nat} (hv : vo = .slice (some ⟨go, 0, none⟩) n cap) (x : Int) (b : Bool) :
    PoolIn (w.setCell ⟨go, x.toNat, none⟩ (.bool b)) base S ow p c vo vm hs { P with out := P.out.set x.toNat b } := by
  have hgo : S go ∧ ow go = 1 := h.out.1 go (by rw [hv]; simp [Value.ownBlock])
  have hne : ∀ {k t : Nat}, ow k = t → t ≠ 1 → k ≠ go := fun h1 h2 e => by rw [e, hgo.2] at h1; omega
  have ho := h.out
  rw [hv] at ho
  exact { sp := h.sp, op := h.op, bp := h.bp, blk := blk_far h.blk (hne h.op (by omega)) _, sc := h.sc, oc := h.oc, bc := h.bc, hdr := blk_far h.hdr (hne h.oc (by omega)) _, len := h.len
          out := by rw [hv]; exact (Kd.R_putg ho x b).1
          mid := Kd.R_far h.mid (fun k hk => hne hk.2 (by omega)) _
          row := fun g hg => Kd.R_far (h.row g hg) (fun k hk => hne hk.2 (by omega)) _ }

/-- How many are out, or were ever given out. -/
theorem PoolIn.set_count (h : PoolIn w base S ow p c vo vm hs P) (n : Int) : PoolIn (w.setCell ⟨p, 5, none⟩ (.int .i64 n)) base S ow p c vo vm hs { P with count := n } where
  sp := h.sp
  op := h.op
  bp := h.bp
  blk := blk_put h.blk 5 _ rfl
  sc := h.sc
  oc := h.oc
  bc := h.bc
  hdr := blk_far h.hdr h.pc.symm _
  len := h.len
  out := Kd.R_far h.out (fun k hk e => by have := hk.2; rw [show k = p from e, h.op] at this; omega) _
  mid := Kd.R_far h.mid (fun k hk e => by have := hk.2; rw [show k = p from e, h.op] at this; omega) _
  row := fun g hg => Kd.R_far (h.row g hg) (fun k hk e => by have := hk.2; rw [show k = p from e, h.op] at this; omega) _

theorem PoolIn.set_fresh (h : PoolIn w base S ow p c vo vm hs P) (n : Int) : PoolIn (w.setCell ⟨p, 3, none⟩ (.int .i64 n)) base S ow p c vo vm hs { P with fresh := n } where
  sp := h.sp
  op := h.op
  bp := h.bp
  blk := blk_put h.blk 3 _ rfl
  sc := h.sc
  oc := h.oc
  bc := h.bc
  hdr := blk_far h.hdr h.pc.symm _
  len := h.len
  out := Kd.R_far h.out (fun k hk e => by have := hk.2; rw [show k = p from e, h.op] at this; omega) _
  mid := Kd.R_far h.mid (fun k hk e => by have := hk.2; rw [show k = p from e, h.op] at this; omega) _
  row := fun g hg => Kd.R_far (h.row g hg) (fun k hk e => by have := hk.2; rw [show k = p from e, h.op] at this; omega) _

/-- Where a bool of out stands. -/
theorem PoolIn.out_at (h : PoolIn w base S ow p c vo vm hs P) (x : Int) (h0 : 0 ≤ x) (h1 : x < P.out.length) :
    ∃ go cap, vo = .slice (some ⟨go, 0, none⟩) P.out.length cap ∧ S go ∧ ow go = 1 ∧ base ≤ go ∧ w.cell? ⟨p, 0, none⟩ = some (.slice (some ⟨go, 0, none⟩) P.out.length cap) ∧ w.cell? ⟨go, x.toNat, none⟩ = some (.bool (rdOf false P.out x)) ∧ w.frozen? ⟨go, x.toNat, none⟩ = false := by
  obtain ⟨go, cap, hv, hb, _⟩ := Kd.R_form h.out (by omega)
  have hgo : S go ∧ ow go = 1 := h.out.1 go (by rw [hv]; simp [Value.ownBlock])
  have ho := h.out
  rw [hv] at ho
  obtain ⟨h2, h3⟩ := Kd.R_celln false ho x h0 h1
  exact ⟨go, cap, hv, hgo.1, hgo.2, hb, by rw [← hv]; exact (blk_cell h.blk 0).trans rfl, h2, h3⟩

/-- A cache: its header, and where its last one stands. -/
theorem PoolIn.row_at (h : PoolIn w base S ow p c vo vm hs P) {g : Nat} (hg : g < hs.length) {own : List Int} (ho : P.caches.getD g [] = own) :
    ∃ A cap, hs.getD g undef = .slice A own.length cap ∧ own.length ≤ cap ∧ w.cell? ⟨c, g, none⟩ = some (.slice A own.length cap) ∧ w.frozen? ⟨c, g, none⟩ = false ∧ (0 < own.length → ∃ go, A = some ⟨go, 0, none⟩ ∧ w.cell? ⟨go, own.length - 1, none⟩ = some (.int .i64 (rd own ((own.length : Int) - 1)))) := by
  have hr := h.row g hg
  rw [ho] at hr
  obtain ⟨A, cap, hv⟩ := Kd.R_slice hr
  refine ⟨A, cap, hv, ?_, ?_, blk_frozen h.hdr g, fun hp => ?_⟩
  · rw [hv] at hr; exact (Kd.R_reads' hr).2.1
  · rw [← hv, blk_cell h.hdr g]
    simp [List.getD_eq_getElem?_getD, hg]
  · obtain ⟨go, cap', hv', _⟩ := Kd.R_form hr hp
    rw [hv'] at hr hv
    injection hv with h1
    have h2 := (Kd.R_celln 0 hr ((own.length : Int) - 1) (by omega) (by omega)).1
    rw [show ((own.length : Int) - 1).toNat = own.length - 1 by omega] at h2
    exact ⟨go, h1.symm, h2⟩

/-- The last one of a cache comes out. -/
theorem PoolIn.pop_row (h : PoolIn w base S ow p c vo vm hs P) {g : Nat} (hg : g < hs.length) {own : List Int} (ho : P.caches.getD g [] = own) {go cap : Nat} (hv : hs.getD g undef = .slice (some ⟨go, 0, none⟩) own.length cap) :
    PoolIn (w.setCell ⟨c, g, none⟩ (.slice (some ⟨go, 0, none⟩) (own.length - 1) cap)) base S ow p c vo vm (hs.set g (.slice (some ⟨go, 0, none⟩) (own.length - 1) cap)) { P with caches := P.caches.set g (own.take (own.length - 1)) } := by
  refine h.set_row hg ?_
  have hr := h.row g hg
  rw [ho, hv] at hr
  exact Kd.R_take hr (by omega)
end
end Go.Proofs.Ytfajhdcambkbpaa.Pool
