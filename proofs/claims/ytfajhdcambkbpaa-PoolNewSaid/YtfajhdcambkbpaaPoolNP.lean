/- Package pool: what becomes of a pool that is made of rows; plain. -/
import Derived.Test.YtfajhdcambkbpaaPureRunsX
import Derived.Test.YtfajhdcambkbpaaPPoolRx6
namespace Go.Proofs.Ytfajhdcambkbpaa.Pool
open Go.RowKit Go.Proofs.YtfajhdcambkbpaaW.PrintWords Go.Proofs.Ytfajhdcambkbpaa.PPoolR

/-- A row is laid: each of its things was out, and is so no more; false: one wasn't. -/
def layR (fresh : Int) : List Int → List Bool → Int → List Bool × Int × Bool
  | [], out, c => (out, c, true)
  | x :: r, out, c => if 0 ≤ x ∧ x < fresh ∧ out.getD x.toNat false = true then layR fresh r (out.set x.toNat false) (c - 1) else (out, c, false)

theorem layR_len (fresh : Int) : ∀ (row : List Int) (out : List Bool) (c : Int), (layR fresh row out c).1.length = out.length
  | [], _, _ => rfl
  | x :: r, out, c => by
    unfold layR
    split
    · rw [layR_len fresh r, List.length_set]
    · rfl

theorem layR_count (fresh : Int) : ∀ (row : List Int) (out : List Bool) (c : Int), c - row.length ≤ (layR fresh row out c).2.1 ∧ (layR fresh row out c).2.1 ≤ c
  | [], _, c => by simp [layR]
  | x :: r, out, c => by
    unfold layR
    have h := layR_count fresh r (out.set x.toNat false) (c - 1)
    split
    · simp only [List.length_cons]; omega
    · simp only [List.length_cons]; omega

/-- Which things are out: all that were given, but for those that are used. -/
def Marks (fresh : Int) (out : List Bool) (used : List Int) : Prop := ∀ x : Int, (0 ≤ x ∧ x < (out.length : Int) ∧ out.getD x.toNat false = true) ↔ (0 ≤ x ∧ x < fresh ∧ x ∉ used)

theorem marks_set {fresh : Int} {out : List Bool} {used : List Int} (h : Marks fresh out used) {x : Int} (hx : 0 ≤ x) : Marks fresh (out.set x.toNat false) (used ++ [x]) := by
  intro y
  have hy := h y
  rw [List.length_set]
  by_cases e : y = x
  · subst e
    constructor
    · rintro ⟨h1, h2, h3⟩
      simp [List.getD_eq_getElem?_getD, List.getElem?_set] at h3
      split at h3 <;> simp at h3
    · rintro ⟨_, _, h3⟩
      exact absurd (by simp) h3
  · have hg : 0 ≤ y → (out.set x.toNat false).getD y.toNat false = out.getD y.toNat false := fun h0 => by
      have hne : ¬ x.toNat = y.toNat := by omega
      simp [List.getD_eq_getElem?_getD, hne]
    constructor
    · rintro ⟨h1, h2, h3⟩
      rw [hg h1] at h3
      obtain ⟨k1, k2, k3⟩ := hy.1 ⟨h1, h2, h3⟩
      exact ⟨k1, k2, by simp [k3, e]⟩
    · rintro ⟨h1, h2, h3⟩
      obtain ⟨k1, k2, k3⟩ := hy.2 ⟨h1, h2, fun hm => h3 (by simp [hm])⟩
      exact ⟨k1, k2, by rw [hg h1]; exact k3⟩

theorem layR_spec {fresh : Int} : ∀ (row : List Int) (out : List Bool) (c : Int) (used : List Int), fresh ≤ out.length → Marks fresh out used →
    ((layR fresh row out c).2.2 = true ↔ (row.Nodup ∧ ∀ x ∈ row, 0 ≤ x ∧ x < fresh ∧ x ∉ used)) ∧
    ((layR fresh row out c).2.2 = true → Marks fresh (layR fresh row out c).1 (used ++ row) ∧ (layR fresh row out c).2.1 = c - row.length)
  | [], out, c, used, _, hm => ⟨by simp [layR], fun _ => by simpa [layR] using hm⟩
  | x :: r, out, c, used, hf, hm => by
    unfold layR
    split
    · rename_i hx
      obtain ⟨x0, x1, x2⟩ := hx
      have hu : x ∉ used := ((hm x).1 ⟨x0, by omega, x2⟩).2.2
      obtain ⟨h1, h2⟩ := layR_spec r (out.set x.toNat false) (c - 1) (used ++ [x]) (by rw [List.length_set]; exact hf) (marks_set hm x0)
      refine ⟨?_, fun h => ?_⟩
      · rw [h1]
        constructor
        · rintro ⟨k1, k2⟩
          refine ⟨List.nodup_cons.2 ⟨fun hin => (k2 x hin).2.2 (by simp), k1⟩, fun y hy => ?_⟩
          rcases List.mem_cons.1 hy with rfl | hy
          · exact ⟨x0, x1, hu⟩
          · obtain ⟨j1, j2, j3⟩ := k2 y hy
            exact ⟨j1, j2, fun hin => j3 (by simp [hin])⟩
        · rintro ⟨k1, k2⟩
          obtain ⟨k3, k4⟩ := List.nodup_cons.1 k1
          refine ⟨k4, fun y hy => ?_⟩
          obtain ⟨j1, j2, j3⟩ := k2 y (List.mem_cons_of_mem _ hy)
          refine ⟨j1, j2, fun hin => ?_⟩
          rcases List.mem_append.1 hin with hin | hin
          · exact j3 hin
          · rw [List.mem_singleton.1 hin] at hy
            exact k3 hy
      · obtain ⟨k1, k2⟩ := h2 h
        rw [List.append_assoc] at k1
        refine ⟨k1, ?_⟩
        rw [k2, List.length_cons]
        omega
    · rename_i hx
      refine ⟨?_, fun h => by simp at h⟩
      constructor
      · intro h; simp at h
      · rintro ⟨_, k2⟩
        exfalso
        obtain ⟨j1, j2, j3⟩ := k2 x (by simp)
        exact hx ⟨j1, j2, ((hm x).2 ⟨j1, j2, j3⟩).2.2⟩

/-- One row more. -/
def ofStep (s : PoolM × Bool) (g : Nat) (row : List Int) : PoolM × Bool :=
  ({ s.1 with out := (layR s.1.fresh row s.1.out s.1.count).1, count := (layR s.1.fresh row s.1.out s.1.count).2.1, caches := s.1.caches.set g (if (layR s.1.fresh row s.1.out s.1.count).2.2 = true then row else []) },
    s.2 && (layR s.1.fresh row s.1.out s.1.count).2.2 && decide ((row.length : Int) ≤ s.1.most))

/-- The first rows. -/
def ofUpto (cs : List (List Int)) (s : PoolM × Bool) : Nat → PoolM × Bool
  | 0 => s
  | g + 1 => ofStep (ofUpto cs s g) g (cs.getD g [])

/-- The middle, last. -/
def ofDone (s : PoolM × Bool) (row : List Int) : PoolM × Bool :=
  ({ s.1 with out := (layR s.1.fresh row s.1.out s.1.count).1, count := (layR s.1.fresh row s.1.out s.1.count).2.1, middle := if (layR s.1.fresh row s.1.out s.1.count).2.2 = true then row else [] }, s.2 && (layR s.1.fresh row s.1.out s.1.count).2.2)

def given (size : Nat) (takers : Nat) (most : Int) (fresh : Nat) : PoolM := { out := List.replicate fresh true ++ List.replicate (size - fresh) false, caches := List.replicate takers [], middle := [], fresh := fresh, most := most, count := fresh }

structure UptoIs (cs : List (List Int)) (size : Nat) (most : Int) (fresh : Nat) (g : Nat) (s : PoolM × Bool) : Prop where
  out : s.1.out.length = size
  fr : s.1.fresh = fresh
  mo : s.1.most = most
  mid : s.1.middle = []
  takers : s.1.caches.length = cs.length
  count : s.1.count ≤ fresh ∧ (fresh : Int) - (cs.take g).flatten.length ≤ s.1.count
  row : ∀ i, (s.1.caches.getD i []).length ≤ (cs.getD i []).length
  ok : s.2 = true ↔ ((cs.take g).flatten.Nodup ∧ (∀ x ∈ (cs.take g).flatten, 0 ≤ x ∧ x < (fresh : Int)) ∧ ∀ i, i < g → ((cs.getD i []).length : Int) ≤ most)
  done : s.2 = true → Marks fresh s.1.out (cs.take g).flatten ∧ s.1.count = fresh - (cs.take g).flatten.length ∧ s.1.caches = cs.take g ++ List.replicate (cs.length - g) []

theorem given_marks (size fresh : Nat) (_hf : fresh ≤ size) : Marks fresh (List.replicate fresh true ++ List.replicate (size - fresh) false) [] := by
  intro x
  simp only [List.length_append, List.length_replicate, List.not_mem_nil, not_false_eq_true, and_true]
  constructor
  · rintro ⟨h1, h2, h3⟩
    refine ⟨h1, ?_⟩
    rw [List.getD_eq_getElem?_getD] at h3
    by_cases c : x.toNat < fresh
    · omega
    · rw [List.getElem?_append_right (by simp; omega)] at h3
      simp [List.getElem?_replicate] at h3
      split at h3 <;> simp at h3
  · rintro ⟨h1, h2⟩
    refine ⟨h1, by omega, ?_⟩
    rw [List.getD_eq_getElem?_getD, List.getElem?_append_left (by simp; omega), List.getElem?_replicate, if_pos (by omega)]
    rfl

theorem take_flat (cs : List (List Int)) (g : Nat) (hg : g < cs.length) : (cs.take (g + 1)).flatten = (cs.take g).flatten ++ cs.getD g [] := by
  rw [List.take_add_one, List.flatten_append]
  simp [List.getD_eq_getElem?_getD, List.getElem?_eq_getElem hg]

theorem upto_is (cs : List (List Int)) (size : Nat) (most : Int) (fresh : Nat) (hf : fresh ≤ size) : ∀ g, g ≤ cs.length → UptoIs cs size most fresh g (ofUpto cs (given size cs.length most fresh, true) g)
  | 0, _ =>
    { out := by simp [ofUpto, given]; omega
      fr := rfl
      mo := rfl
      mid := rfl
      takers := by simp [ofUpto, given]
      count := by simp [ofUpto, given]
      row := fun i => by
        simp only [ofUpto, given, List.getD_eq_getElem?_getD, List.getElem?_replicate]
        split <;> simp
      ok := by simp [ofUpto]
      done := fun _ => ⟨by simpa [ofUpto, given] using given_marks size fresh hf, by simp [ofUpto, given], by simp [ofUpto, given]⟩ }
  | g + 1, hg => by
    have h := upto_is cs size most fresh hf g (by omega)
    have hst : ofUpto cs (given size cs.length most fresh, true) (g + 1) = ofStep (ofUpto cs (given size cs.length most fresh, true) g) g (cs.getD g []) := rfl
    rw [hst]
    obtain ⟨⟨P, ok⟩, hs⟩ : ∃ s, ofUpto cs (given size cs.length most fresh, true) g = s := ⟨_, rfl⟩
    rw [hs] at h ⊢
    obtain ⟨h1, h2, h3, h4, h5, h6, h7, h8, h9⟩ := h
    simp only at h1 h2 h3 h4 h5 h6 h7 h8 h9
    have hfl := take_flat cs g (by omega)
    have hlc := layR_count P.fresh (cs.getD g []) P.out P.count
    have hset : ∀ (v : List Int) (i : Nat), (P.caches.set g v).getD i [] = if g = i then v else P.caches.getD i [] := fun v i => by
      simp only [List.getD_eq_getElem?_getD, List.getElem?_set]
      split
      · rename_i e; subst e; rw [if_pos (by omega)]; rfl
      · rfl
    refine { out := by simp [ofStep, layR_len, h1], fr := h2, mo := h3, mid := h4, takers := by simp [ofStep, h5], count := ?_, row := ?_, ok := ?_, done := ?_ }
    · rw [hfl, List.length_append]
      simp only [ofStep]
      omega
    · intro i
      simp only [ofStep, hset]
      split
      · rename_i e; subst e; split <;> simp
      · exact h7 i
    · simp only [ofStep, Bool.and_eq_true, decide_eq_true_eq]
      rw [h3]
      by_cases hok : ok = true
      · subst hok
        obtain ⟨k1, k2, k3⟩ := h8.1 rfl
        obtain ⟨m1, m2, m3⟩ := h9 rfl
        obtain ⟨j1, j2⟩ := layR_spec (cs.getD g []) P.out P.count _ (by rw [h1]; omega) m1
        rw [h2, j1, hfl]
        constructor
        · rintro ⟨⟨_, n1, n2⟩, n3⟩
          refine ⟨List.nodup_append.2 ⟨k1, n1, fun a ha b hb e => (n2 b hb).2.2 (e ▸ ha)⟩, fun x hx => ?_, fun i hi => ?_⟩
          · rcases List.mem_append.1 hx with hx | hx
            · exact k2 x hx
            · exact ⟨(n2 x hx).1, (n2 x hx).2.1⟩
          · by_cases e : i = g
            · rw [e]; exact n3
            · exact k3 i (by omega)
        · rintro ⟨n1, n2, n3⟩
          obtain ⟨o1, o2, o3⟩ := List.nodup_append.1 n1
          exact ⟨⟨rfl, o2, fun x hx => ⟨(n2 x (List.mem_append.2 (.inr hx))).1, (n2 x (List.mem_append.2 (.inr hx))).2, fun hin => o3 x hin x hx rfl⟩⟩, n3 g (by omega)⟩
      · constructor
        · rintro ⟨⟨n1, _⟩, _⟩
          exact absurd n1 hok
        · rintro ⟨n1, n2, n3⟩
          exfalso
          rw [hfl] at n1 n2
          exact hok (h8.2 ⟨(List.nodup_append.1 n1).1, fun x hx => n2 x (List.mem_append.2 (.inl hx)), fun i hi => n3 i (by omega)⟩)
    · simp only [ofStep, Bool.and_eq_true, decide_eq_true_eq]
      rintro ⟨⟨rfl, n1⟩, _⟩
      obtain ⟨m1, m2, m3⟩ := h9 rfl
      rw [h2] at n1
      obtain ⟨j1, j2⟩ := (layR_spec (cs.getD g []) P.out P.count _ (by rw [h1]; omega) m1).2 n1
      rw [h2, hfl]
      refine ⟨j1, by rw [j2, m2, List.length_append]; omega, ?_⟩
      rw [if_pos n1, m3, List.set_append_right _ _ (by simp; omega)]
      rw [show g - (cs.take g).length = 0 by simp; omega, List.take_add_one, List.append_assoc]
      congr 1
      rw [show cs.length - g = (cs.length - (g + 1)) + 1 by omega, List.replicate_succ, List.set_cons_zero]
      simp [List.getD_eq_getElem?_getD, List.getElem?_eq_getElem (show g < cs.length by omega)]

/-- Is it one that can be? -/
def RightIs (size most : Int) (cs : List (List Int)) (mid : List Int) (fresh : Int) : Prop :=
  (0 ≤ size ∧ size ≤ 64 ∧ cs.length ≤ 8 ∧ 1 ≤ most ∧ most ≤ 16) ∧ 0 ≤ fresh ∧ fresh ≤ size ∧ (∀ row ∈ cs, (row.length : Int) ≤ most) ∧ (mid ++ cs.flatten).Nodup ∧ ∀ x ∈ mid ++ cs.flatten, 0 ≤ x ∧ x < fresh

theorem done_is (cs : List (List Int)) (mid : List Int) (size : Nat) (most : Int) (fresh : Nat) (hf : fresh ≤ size) (hs : size ≤ 64) (ht : cs.length ≤ 8) (hm : 1 ≤ most ∧ most ≤ 16) :
    let s := ofDone (ofUpto cs (given size cs.length most fresh, true) cs.length) mid
    (s.2 = true ↔ RightIs size most cs mid fresh) ∧ (s.2 = true → s.1.Right ∧ s.1.caches = cs ∧ s.1.middle = mid ∧ s.1.fresh = fresh) := by
  intro s
  have h := upto_is cs size most fresh hf cs.length (Nat.le_refl _)
  have hs1 : s = ofDone (ofUpto cs (given size cs.length most fresh, true) cs.length) mid := rfl
  obtain ⟨⟨P, ok⟩, he⟩ : ∃ s, ofUpto cs (given size cs.length most fresh, true) cs.length = s := ⟨_, rfl⟩
  rw [he] at h hs1
  rw [hs1]
  obtain ⟨h1, h2, h3, h4, h5, h6, h7, h8, h9⟩ := h
  rw [List.take_length] at h6 h8 h9
  simp only at h1 h2 h3 h4 h5 h6 h7 h8 h9
  have hrow : (∀ i, i < cs.length → ((cs.getD i []).length : Int) ≤ most) ↔ ∀ row ∈ cs, (row.length : Int) ≤ most := by
    constructor
    · intro h row hr
      obtain ⟨i, hi, rfl⟩ := List.getElem_of_mem hr
      have := h i hi
      simpa [List.getD_eq_getElem?_getD, List.getElem?_eq_getElem hi] using this
    · intro h i hi
      have := h cs[i] (List.getElem_mem hi)
      simpa [List.getD_eq_getElem?_getD, List.getElem?_eq_getElem hi] using this
  have hiff : (ofDone (P, ok) mid).2 = true ↔ RightIs size most cs mid fresh := by
    simp only [ofDone, Bool.and_eq_true]
    unfold RightIs
    by_cases hok : ok = true
    · subst hok
      obtain ⟨k1, k2, k3⟩ := h8.1 rfl
      obtain ⟨m1, m2, m3⟩ := h9 rfl
      rw [h2, (layR_spec mid P.out P.count _ (by rw [h1]; omega) m1).1]
      constructor
      · rintro ⟨_, n1, n2⟩
        refine ⟨by omega, by omega, by omega, hrow.1 k3, List.nodup_append.2 ⟨n1, k1, fun a ha b hb e => (n2 a ha).2.2 (e ▸ hb)⟩, fun x hx => ?_⟩
        rcases List.mem_append.1 hx with hx | hx
        · exact ⟨(n2 x hx).1, (n2 x hx).2.1⟩
        · exact k2 x hx
      · rintro ⟨_, _, _, _, n1, n2⟩
        obtain ⟨o1, o2, o3⟩ := List.nodup_append.1 n1
        exact ⟨rfl, o1, fun x hx => ⟨(n2 x (List.mem_append.2 (.inl hx))).1, (n2 x (List.mem_append.2 (.inl hx))).2, fun hin => o3 x hx x hin rfl⟩⟩
    · constructor
      · rintro ⟨n1, _⟩
        exact absurd n1 hok
      · rintro ⟨_, _, _, n0, n1, n2⟩
        exfalso
        exact hok (h8.2 ⟨(List.nodup_append.1 n1).2.1, fun x hx => n2 x (List.mem_append.2 (.inr hx)), hrow.2 n0⟩)
  refine ⟨hiff, fun hd => ?_⟩
  have hR := hiff.1 hd
  simp only [ofDone, Bool.and_eq_true] at hd
  obtain ⟨rfl, n1⟩ := hd
  obtain ⟨m1, m2, m3⟩ := h9 rfl
  have n1' := n1
  rw [h2] at n1'
  obtain ⟨j1, j2⟩ := (layR_spec mid P.out P.count _ (by rw [h1]; omega) m1).2 n1'
  rw [Nat.sub_self, List.replicate_zero, List.append_nil] at m3
  obtain ⟨_, q1, q2, q3, q4, q5⟩ := hR
  have hall : (ofDone (P, true) mid).1.all = mid ++ cs.flatten := by
    simp only [PoolM.all, ofDone, if_pos n1, m3]
  refine ⟨?_, m3, by simp only [ofDone, if_pos n1], h2⟩
  have hmost : (ofDone (P, true) mid).1.most = most := h3
  have hfresh : (ofDone (P, true) mid).1.fresh = fresh := h2
  have hol : (ofDone (P, true) mid).1.out.length = size := by simp only [ofDone]; rw [layR_len]; exact h1
  refine { most := by rw [hmost]; exact hm, takers := by show P.caches.length ≤ 8; omega, size := by omega, fresh := by rw [hfresh]; omega, nodup := by rw [hall]; exact q4, small := by rw [hall, hfresh]; exact q5, live := fun x => ?_, count := ?_, own := fun g => ?_ }
  · rw [live_mem, hall, hfresh]
    have := j1 x
    simp only [ofDone]
    rw [h2]
    rw [this]
    simp only [List.mem_append, not_or, and_comm]
  · rw [hall, hfresh, List.length_append]
    simp only [ofDone]
    rw [h2, j2, m2]
    omega
  · rw [hmost]
    show ((P.caches.getD g []).length : Int) ≤ most
    rw [m3]
    by_cases hg : g < cs.length
    · exact hrow.2 q3 g hg
    · rw [List.getD_eq_getElem?_getD, List.getElem?_eq_none (by omega)]
      simp; omega

theorem ref_right_l1 (fresh : Int) (l : List Int) (hl : l.length ≤ 3000) (size most fr : Int) (cs : List (List Int)) (m0 : List Int) (hfr : fr = fresh) : ∀ (d k : Nat) (i : Nat), l.length - i ≤ d → i ≤ l.length → d + 4000 < k →
    ∃ b, handoffref05_Right.l1 k l l (l.length : Int) (i : Int) size most cs m0 fr = some b ∧ (b = true ↔ ∀ j, i ≤ j → ∀ h : j < l.length, 0 ≤ l[j] ∧ l[j] < fresh ∧ l[j] ∉ l.take j) := by
  subst hfr
  intro d
  induction d with
  | zero =>
    intro k i hd hi hk
    obtain ⟨k, rfl⟩ : ∃ m, k = m + 1 := ⟨k - 1, by omega⟩
    simp only [handoffref05_Right.l1]
    rw [if_neg (by omega)]
    exact ⟨true, rfl, by simp; intro j h1 h2; omega⟩
  | succ d ih =>
    intro k i hd hi hk
    obtain ⟨k, rfl⟩ : ∃ m, k = m + 1 := ⟨k - 1, by omega⟩
    simp only [handoffref05_Right.l1]
    by_cases c : i < l.length
    · have hrd : rd l (i : Int) = l[i] := by unfold rd; simp [List.getD_eq_getElem?_getD, c]
      have hw : wrap64 ((i : Int) + 1) = ((i + 1 : Nat) : Int) := by unfold wrap64; omega
      rw [if_pos (by omega), if_pos (by omega), if_pos (by omega), hrd]
      by_cases c1 : l[i] < 0
      · rw [if_pos c1]
        exact ⟨false, rfl, by simp only [Bool.false_eq_true, false_iff]; intro h; have := h i (Nat.le_refl _) c; omega⟩
      · rw [if_neg c1]
        by_cases c2 : l[i] ≥ fr
        · rw [if_pos c2]
          exact ⟨false, rfl, by simp only [Bool.false_eq_true, false_iff]; intro h; have := h i (Nat.le_refl _) c; omega⟩
        · rw [if_neg c2, if_pos (by omega), Int.toNat_natCast, ref_has _ _ (by rw [List.length_take]; omega) k (by rw [List.length_take]; omega)]
          simp only [Option.bind_some]
          by_cases c3 : l[i] ∈ l.take i
          · rw [if_pos (by simpa using c3)]
            exact ⟨false, rfl, by simp only [Bool.false_eq_true, false_iff]; intro h; exact (h i (Nat.le_refl _) c).2.2 c3⟩
          · rw [if_neg (by simpa using c3), hw]
            obtain ⟨b, hb, hi2⟩ := ih k (i + 1) (by omega) (by omega) (by omega)
            refine ⟨b, hb, hi2.trans ⟨fun h j hj hl => ?_, fun h j hj hl => h j (by omega) hl⟩⟩
            by_cases e : j = i
            · subst e; exact ⟨by omega, by omega, c3⟩
            · exact h j (by omega) hl
    · rw [if_neg (by omega)]
      exact ⟨true, rfl, by simp; intro j h1 h2; omega⟩

theorem nodup_take : ∀ (l : List Int), l.Nodup ↔ ∀ j, ∀ h : j < l.length, l[j] ∉ l.take j := by
  intro l
  constructor
  · intro h j hj hin
    obtain ⟨i, hi, he⟩ := List.getElem_of_mem hin
    rw [List.getElem_take] at he
    have hij : i < j := by rw [List.length_take] at hi; omega
    exact (List.pairwise_iff_getElem.1 h i j (by omega) hj hij) he
  · intro h
    refine List.pairwise_iff_getElem.2 (fun i j hi hj hij he => h j hj ?_)
    rw [← he]
    exact List.mem_take_iff_getElem.2 ⟨i, by omega, rfl⟩

theorem ref_right_l0 (size most fr : Int) (cs : List (List Int)) (m0 : List Int) (hc : cs.length ≤ 20) (hr : ∀ row ∈ cs, row.length ≤ 100) (hm : m0.length ≤ 100) : ∀ (d k : Nat) (i : Nat), cs.length - i ≤ d → i ≤ cs.length → d + 8000 < k →
    ∃ b, handoffref05_Right.l0 k cs (cs.length : Int) (i : Int) size most cs m0 fr = some b ∧ (b = true ↔ (∀ j, i ≤ j → ∀ h : j < cs.length, ((cs[j]).length : Int) ≤ most) ∧ (m0 ++ cs.flatten).Nodup ∧ ∀ x ∈ m0 ++ cs.flatten, 0 ≤ x ∧ x < fr) := by
  have hfl : cs.flatten.length ≤ 2000 := by
    have : ∀ (c : List (List Int)), (∀ row ∈ c, row.length ≤ 100) → c.flatten.length ≤ c.length * 100 := by
      intro c
      induction c with
      | nil => intro _; simp
      | cons a c ih =>
        intro h
        have h1 := h a (by simp)
        have h2 := ih (fun row hr => h row (by simp [hr]))
        simp only [List.flatten_cons, List.length_append, List.length_cons]
        omega
    have := this cs hr
    omega
  have last : ∀ k, 7000 < k → ∃ b, (handoffref05_all.f k size most cs m0 fr).bind (fun t124 => handoffref05_Right.l1 k t124 t124 (t124.length : Int) 0 size most cs m0 fr) = some b ∧ (b = true ↔ (m0 ++ cs.flatten).Nodup ∧ ∀ x ∈ m0 ++ cs.flatten, 0 ≤ x ∧ x < fr) := by
    intro k hk
    have h6 := ref_all_l0 cs (by omega) cs.length k 0 m0 (by omega) (by omega) (by omega) (by rw [List.drop_zero]; omega)
    rw [List.drop_zero] at h6
    have ha : handoffref05_all.f k size most cs m0 fr = some (m0 ++ cs.flatten) := by
      unfold handoffref05_all.f
      simp only [Option.bind_some, List.length_nil, List.nil_append]
      rw [if_pos (by omega)]
      exact h6
    rw [ha]
    simp only [Option.bind_some]
    obtain ⟨b, hb, hi⟩ := ref_right_l1 fr (m0 ++ cs.flatten) (by rw [List.length_append]; omega) size most fr cs m0 rfl (m0 ++ cs.flatten).length k 0 (by omega) (by omega) (by rw [List.length_append]; omega)
    refine ⟨b, hb, hi.trans ?_⟩
    rw [nodup_take]
    constructor
    · intro h
      refine ⟨fun j hj => (h j (by omega) hj).2.2, fun x hx => ?_⟩
      obtain ⟨j, hj, rfl⟩ := List.getElem_of_mem hx
      exact ⟨(h j (by omega) hj).1, (h j (by omega) hj).2.1⟩
    · rintro ⟨h1, h2⟩ j _ hj
      exact ⟨(h2 _ (List.getElem_mem hj)).1, (h2 _ (List.getElem_mem hj)).2, h1 j hj⟩
  intro d
  induction d with
  | zero =>
    intro k i hd hi hk
    obtain ⟨k, rfl⟩ : ∃ m, k = m + 1 := ⟨k - 1, by omega⟩
    simp only [handoffref05_Right.l0]
    rw [if_neg (by omega)]
    obtain ⟨b, hb, h⟩ := last k (by omega)
    exact ⟨b, hb, h.trans ⟨fun h => ⟨fun j h1 h2 => by omega, h⟩, fun h => h.2⟩⟩
  | succ d ih =>
    intro k i hd hi hk
    obtain ⟨k, rfl⟩ : ∃ m, k = m + 1 := ⟨k - 1, by omega⟩
    simp only [handoffref05_Right.l0]
    by_cases c : i < cs.length
    · have hrd : rd_L1 cs (i : Int) = cs[i] := by unfold rd_L1; simp [List.getD_eq_getElem?_getD, c]
      have hw : wrap64 ((i : Int) + 1) = ((i + 1 : Nat) : Int) := by unfold wrap64; omega
      rw [if_pos (by omega), if_pos (by omega), if_pos (by omega), hrd]
      by_cases c1 : ((cs[i]).length : Int) > most
      · rw [if_pos c1]
        exact ⟨false, rfl, by simp only [Bool.false_eq_true, false_iff]; rintro ⟨h, _⟩; have := h i (Nat.le_refl _) c; omega⟩
      · rw [if_neg c1, hw]
        obtain ⟨b, hb, hi2⟩ := ih k (i + 1) (by omega) (by omega) (by omega)
        refine ⟨b, hb, hi2.trans ⟨fun h => ⟨fun j hj hl => ?_, h.2⟩, fun h => ⟨fun j hj hl => h.1 j (by omega) hl, h.2⟩⟩⟩
        by_cases e : j = i
        · subst e; omega
        · exact h.1 j (by omega) hl
    · rw [if_neg (by omega)]
      obtain ⟨b, hb, h⟩ := last k (by omega)
      exact ⟨b, hb, h.trans ⟨fun h => ⟨fun j h1 h2 => by omega, h⟩, fun h => h.2⟩⟩

def CanIs (size takers most : Int) : Prop := 0 ≤ size ∧ size ≤ 64 ∧ 0 ≤ takers ∧ takers ≤ 8 ∧ 1 ≤ most ∧ most ≤ 16

theorem ref_can (size takers most : Int) : ∃ b, handoffref05_Can.f size takers most = some b ∧ (b = true ↔ CanIs size takers most) := by
  unfold handoffref05_Can.f CanIs
  repeat' split
  all_goals refine ⟨_, rfl, ?_⟩
  all_goals simp
  all_goals omega

theorem ref_right (size most fr : Int) (cs : List (List Int)) (m0 : List Int) (hc : cs.length ≤ 20) (hr : ∀ row ∈ cs, row.length ≤ 100) (hm : m0.length ≤ 100) :
    ∃ b, handoffref05_Right.f 10000 size most cs m0 fr = some b ∧ (b = true ↔ RightIs size most cs m0 fr) := by
  obtain ⟨b, hb, hi⟩ := ref_can size cs.length most
  unfold handoffref05_Right.f
  rw [hb]
  simp only [Option.bind_some]
  have hrow : (∀ j, 0 ≤ j → ∀ h : j < cs.length, ((cs[j]).length : Int) ≤ most) ↔ ∀ row ∈ cs, (row.length : Int) ≤ most := by
    constructor
    · intro h row hr
      obtain ⟨i, hi, rfl⟩ := List.getElem_of_mem hr
      exact h i (by omega) hi
    · intro h i _ hi
      exact h cs[i] (List.getElem_mem hi)
  unfold CanIs at hi
  unfold RightIs
  by_cases c : b = true
  · rw [if_pos c]
    have hi' := hi.1 c
    by_cases c1 : fr < 0
    · rw [if_pos c1]
      exact ⟨false, rfl, by simp only [Bool.false_eq_true, false_iff]; rintro ⟨_, h, _⟩; omega⟩
    · rw [if_neg c1]
      by_cases c2 : fr > size
      · rw [decide_eq_true c2]
        exact ⟨false, rfl, by simp only [Bool.false_eq_true, false_iff]; rintro ⟨_, _, h, _⟩; omega⟩
      · rw [decide_eq_false c2]
        simp only [handoffref05_Right.j0]
        rw [if_neg (by simp)]
        obtain ⟨b2, hb2, h2⟩ := ref_right_l0 size most fr cs m0 hc hr hm cs.length 9999 0 (by omega) (by omega) (by omega)
        refine ⟨b2, hb2, h2.trans ?_⟩
        rw [hrow]
        constructor
        · rintro ⟨h1, h3, h4⟩
          exact ⟨by omega, by omega, by omega, h1, h3, h4⟩
        · rintro ⟨_, _, _, h1, h3, h4⟩
          exact ⟨h1, h3, h4⟩
  · rw [if_neg c]
    exact ⟨false, rfl, by simp only [Bool.false_eq_true, false_iff]; rintro ⟨h, _⟩; exact c (hi.2 (by omega))⟩
end Go.Proofs.Ytfajhdcambkbpaa.Pool
