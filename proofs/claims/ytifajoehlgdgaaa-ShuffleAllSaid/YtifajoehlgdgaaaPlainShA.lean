/- Orders that are made of draws, in plain lists: both programs' functions come to one list function each. -/
import Derived.Test.YtifajoehlgdgaaaPShAx
import Derived.Test.YtifajoehlgdgaaaPlain
namespace Go.Proofs.Ytifajoehlgdgaaa.PlainShA
open Go.RowKit Go.Proofs.YtifajoehlgdgaaaW.PrintWords Go.Proofs.Ytifajoehlgdgaaa.Plain Go.Proofs.Ytifajoehlgdgaaa.PShA

theorem alive (k : Nat) (hk : 60 ≤ k) : handofflaw02_shuffleAlive.f k = some true := at_rounds (fun k => handofflaw02_shuffleAlive.mono k) hk (by decide +kernel)

/-- A draw as it counts, of n. -/
def cnt (d : Int) (n : Nat) : Nat := (d % (n : Int)).toNat

theorem cnt_lt (d : Int) {n : Nat} (h : 0 < n) : cnt d n < n := by
  unfold cnt
  have h1 := Int.emod_nonneg d (show (n : Int) ≠ 0 by omega)
  have h2 := Int.emod_lt_of_pos d (show (0 : Int) < (n : Int) by omega)
  omega

theorem tmod_emod (d : Int) {n : Nat} : Int.tmod d n = if d < 0 ∧ d % (n : Int) ≠ 0 then d % (n : Int) - n else d % (n : Int) := by
  rw [Int.tmod_eq_emod]
  by_cases h1 : 0 ≤ d
  · rw [if_pos (.inl h1), if_neg (by omega)]; omega
  · by_cases h2 : (n : Int) ∣ d
    · rw [if_pos (.inr h2), if_neg (by rintro ⟨_, h3⟩; exact h3 (Int.emod_eq_zero_of_dvd h2))]; omega
    · rw [if_neg (by rintro (h3 | h3); exact h1 h3; exact h2 h3), if_pos ⟨by omega, fun h3 => h2 (Int.dvd_of_emod_eq_zero h3)⟩]
      simp

theorem counts_ok (d : Int) {n : Nat} (h : 0 < n) (hn : n ≤ 1000) : shuffle_counts.f d (n : Int) = some ((cnt d n : Nat) : Int) := by
  unfold shuffle_counts.f
  have h1 := Int.emod_nonneg d (show (n : Int) ≠ 0 by omega)
  have h2 := Int.emod_lt_of_pos d (show (0 : Int) < (n : Int) by omega)
  have h3 := @tmod_emod d n
  rw [if_neg (by omega), h3]
  unfold cnt
  by_cases c : d < 0 ∧ d % (n : Int) ≠ 0
  · rw [if_pos c, if_pos (by omega), wid (by omega) (by omega)]
    congr 1; omega
  · rw [if_neg c, if_neg (by omega)]
    congr 1; omega

/-- One thing more, by a draw. -/
def put (out : List Int) (d : Int) : List Int := sw (out ++ [(out.length : Int)]) out.length (cnt d (out.length + 1))

/-- The order that draws make. -/
def ord (ds : List Int) : List Int := ds.foldl put []

theorem put_len (out : List Int) (d : Int) : (put out d).length = out.length + 1 := by simp [put, sw_len]

theorem ord_snoc (ds : List Int) (d : Int) : ord (ds ++ [d]) = put (ord ds) d := by simp [ord]

theorem foldl_put_len (ds : List Int) : ∀ out, (ds.foldl put out).length = out.length + ds.length := by
  induction ds with
  | nil => simp
  | cons d ds ih => intro out; rw [List.foldl_cons, ih, put_len, List.length_cons]; omega

theorem ord_len (ds : List Int) : (ord ds).length = ds.length := by
  have := foldl_put_len ds []
  simpa [ord] using this

theorem sw_comm {x : List Int} {i j : Nat} (hi : i < x.length) (hj : j < x.length) : sw x i j = sw x j i := by
  apply ext_G (by rw [sw_len, sw_len])
  intro k hk
  rw [sw_G hi hj, sw_G hj hi]
  by_cases h1 : k = j
  · rw [if_pos h1]
    by_cases h2 : k = i
    · rw [if_pos h2]; subst h1; subst h2; rfl
    · rw [if_neg h2, if_pos h1]
  · rw [if_neg h1]
    by_cases h2 : k = i
    · rw [if_pos h2, if_pos h2]
    · rw [if_neg h2, if_neg h2, if_neg h1]

theorem order_l0 (ds : List Int) (hs : ds.length ≤ 900) : ∀ (m k : Nat) (out : List Int) (i : Nat), i ≤ ds.length → ds.length - i ≤ m → out.length = i → m < k → shuffle_Order.l0 k out ds (ds.length : Int) (i : Int) = some ((ds.drop i).foldl put out) := by
  intro m
  induction m with
  | zero =>
    intro k out i hi hd ho hk
    obtain ⟨k, rfl⟩ : ∃ m, k = m + 1 := ⟨k - 1, by omega⟩
    simp only [shuffle_Order.l0]
    rw [if_neg (by omega), List.drop_eq_nil_of_le (by omega)]
    rfl
  | succ m ih =>
    intro k out i hi hd ho hk
    obtain ⟨k, rfl⟩ : ∃ m, k = m + 1 := ⟨k - 1, by omega⟩
    simp only [shuffle_Order.l0]
    by_cases c : i < ds.length
    · have hc := cnt_lt (G ds i) (show 0 < i + 1 by omega)
      rw [if_pos (by omega), if_pos (by omega), if_pos (by omega), rd_nat, wid (x := (i : Int) + 1) (by omega) (by omega), show ((i : Int) + 1) = ((i + 1 : Nat) : Int) by omega, counts_ok _ (by omega) (by omega)]
      simp only [Option.bind_some]
      rw [if_pos (by omega), if_pos (by omega), if_pos (by simp; omega), if_pos (by simp; omega), rd_nat, rd_nat, Int.toNat_natCast, Int.toNat_natCast, drop_G c, List.foldl_cons]
      have e : ((out ++ [(i : Int)]).set i (G (out ++ [(i : Int)]) (cnt (G ds i) (i + 1)))).set (cnt (G ds i) (i + 1)) (G (out ++ [(i : Int)]) i) = put out (G ds i) := by
        unfold put sw
        rw [ho]
      rw [e]
      exact ih k (put out (G ds i)) (i + 1) (by omega) (by omega) (by rw [put_len]; omega) (by omega)
    · rw [if_neg (by omega), List.drop_eq_nil_of_le (by omega)]
      rfl

theorem order_ok (ds : List Int) (hs : ds.length ≤ 900) (k : Nat) (hk : ds.length < k) : shuffle_Order.f k ds = some (ord ds) :=
  order_l0 ds hs ds.length k [] 0 (Nat.zero_le _) (by omega) rfl hk

/-! ### a list that is an order: each of 0, .., n - 1 once -/
def iota (n : Nat) : List Int := (List.range n).map fun i : Nat => (i : Int)

/-- It is one. -/
def IsOrd (l : List Int) : Prop := l.Perm (iota l.length)

theorem iota_succ (n : Nat) : iota (n + 1) = iota n ++ [(n : Int)] := by simp [iota, List.range_succ]

theorem mem_iota {n : Nat} {a : Int} : a ∈ iota n ↔ 0 ≤ a ∧ a < n := by
  unfold iota
  rw [List.mem_map]
  constructor
  · rintro ⟨i, hi, rfl⟩
    have := List.mem_range.1 hi
    omega
  · intro h
    exact ⟨a.toNat, List.mem_range.2 (by omega), by omega⟩

theorem iota_nodup (n : Nat) : (iota n).Nodup := by
  unfold iota List.Nodup
  rw [List.pairwise_map]
  exact List.nodup_range.imp (fun h1 h2 => h1 (by omega))

theorem iota_len (n : Nat) : (iota n).length = n := by simp [iota]

theorem perm_of_nodup : ∀ (l R : List Int), l.Nodup → (∀ a ∈ l, a ∈ R) → R.length ≤ l.length → l.Perm R
  | [], R, _, _, h => by
    have : R = [] := List.length_eq_zero_iff.1 (by simpa using h)
    subst this
    exact List.Perm.refl _
  | a :: l, R, hn, hs, h => by
    rw [List.nodup_cons] at hn
    have ha := hs a List.mem_cons_self
    have hR := List.perm_cons_erase ha
    have ih := perm_of_nodup l (R.erase a) hn.2 (fun b hb => (List.mem_erase_of_ne (fun e => hn.1 (by rw [← e]; exact hb))).2 (hs b (List.mem_cons_of_mem _ hb))) (by
      rw [List.length_erase_of_mem ha]
      have : R.length ≤ l.length + 1 := h
      omega)
    exact (List.Perm.cons a ih).trans hR.symm

theorem isOrd_iff (l : List Int) : IsOrd l ↔ (∀ a ∈ l, 0 ≤ a ∧ a < l.length) ∧ l.Nodup := by
  constructor
  · intro h
    exact ⟨fun a ha => mem_iota.1 (h.mem_iff.1 ha), h.nodup_iff.2 (iota_nodup _)⟩
  · intro ⟨h1, h2⟩
    exact perm_of_nodup l _ h2 (fun a ha => mem_iota.2 (h1 a ha)) (by rw [iota_len]; exact Nat.le_refl _)

/-- Up to place i all is well. -/
def Good (l : List Int) (i : Nat) : Prop := (∀ a ∈ l.take i, 0 ≤ a ∧ a < l.length) ∧ (l.take i).Nodup

theorem good_succ {l : List Int} {i : Nat} (h : i < l.length) : Good l (i + 1) ↔ Good l i ∧ 0 ≤ G l i ∧ G l i < l.length ∧ G l i ∉ l.take i := by
  unfold Good
  rw [take_G h, List.nodup_append]
  constructor
  · rintro ⟨h1, h2, _, h3⟩
    have := h1 (G l i) (List.mem_append_right _ (List.mem_singleton.2 rfl))
    exact ⟨⟨fun a ha => h1 a (List.mem_append_left _ ha), h2⟩, this.1, this.2, fun hm => h3 _ hm _ (List.mem_singleton.2 rfl) rfl⟩
  · rintro ⟨⟨h1, h2⟩, h3, h4, h5⟩
    refine ⟨fun a ha => ?_, h2, by simp, fun a ha b hb e => ?_⟩
    · rcases List.mem_append.1 ha with h | h
      · exact h1 a h
      · rw [List.mem_singleton.1 h]; exact ⟨h3, h4⟩
    · rw [List.mem_singleton.1 hb] at e
      exact h5 (e ▸ ha)

theorem good_mono {l : List Int} {i j : Nat} (h : i ≤ j) (hg : Good l j) : Good l i := by
  have e : l.take i = (l.take j).take i := by rw [List.take_take, Nat.min_eq_left h]
  unfold Good
  rw [e]
  exact ⟨fun a ha => hg.1 a (List.mem_of_mem_take ha), hg.2.sublist (List.take_sublist _ _)⟩

theorem is_l0 (l : List Int) (hs : l.length ≤ 900) : ∀ (m k : Nat) (seen : List Bool) (i : Nat), i ≤ l.length → l.length - i ≤ m → seen.length = l.length → m < k → Good l i → (∀ j, j < l.length → (seen.getD j false = true ↔ (j : Int) ∈ l.take i)) →
    ∃ b, shuffle_Is.l0 k l seen l (l.length : Int) (i : Int) = some b ∧ (b = true ↔ Good l l.length) := by
  intro m
  induction m with
  | zero =>
    intro k seen i hi hd hl hk hg hsn
    obtain ⟨k, rfl⟩ : ∃ m, k = m + 1 := ⟨k - 1, by omega⟩
    have : i = l.length := by omega
    subst this
    simp only [shuffle_Is.l0]
    rw [if_neg (by omega)]
    exact ⟨true, rfl, by simp [hg]⟩
  | succ m ih =>
    intro k seen i hi hd hl hk hg hsn
    obtain ⟨k, rfl⟩ : ∃ m, k = m + 1 := ⟨k - 1, by omega⟩
    by_cases c : i < l.length
    · have hgs := good_succ (l := l) c
      simp only [shuffle_Is.l0]
      rw [if_pos (by omega), if_pos (by omega), if_pos (by omega), rd_nat]
      have bad : ¬ (0 ≤ G l i ∧ G l i < l.length ∧ G l i ∉ l.take i) → (false = true ↔ Good l l.length) := fun h => by
        simp only [Bool.false_eq_true, false_iff]
        exact fun hg' => h (hgs.1 (good_mono (by omega) hg')).2
      by_cases c1 : G l i < 0
      · rw [if_pos c1]; exact ⟨false, rfl, bad (by omega)⟩
      · rw [if_neg c1]
        by_cases c2 : G l i ≥ (l.length : Int)
        · rw [if_pos c2]; exact ⟨false, rfl, bad (by omega)⟩
        · rw [if_neg c2, if_pos (by omega), if_pos (by omega)]
          obtain ⟨j, hj⟩ : ∃ j : Nat, G l i = (j : Int) := ⟨(G l i).toNat, by omega⟩
          have hsj := hsn j (by omega)
          rw [hj] at hgs bad c2 ⊢
          have e : rdOf false seen (j : Int) = seen.getD j false := by simp [rdOf]
          rw [e]
          by_cases c3 : seen.getD j false = true
          · rw [if_pos c3]
            exact ⟨false, rfl, bad (fun h => h.2.2 (hsj.1 c3))⟩
          · rw [if_neg c3, wid (by omega) (by omega), show ((i : Int) + 1) = ((i + 1 : Nat) : Int) by omega, Int.toNat_natCast]
            refine ih k (seen.set j true) (i + 1) (by omega) (by omega) (by simpa using hl) (by omega) (hgs.2 ⟨hg, by omega, by omega, fun h => c3 (hsj.2 h)⟩) (fun t ht => ?_)
            rw [take_G c, hj, List.mem_append, List.mem_singleton]
            rw [List.getD_eq_getElem?_getD, List.getElem?_set]
            by_cases e2 : j = t
            · subst e2
              rw [if_pos rfl, if_pos (by omega)]
              simp
            · rw [if_neg e2, ← List.getD_eq_getElem?_getD, hsn t ht]
              constructor
              · exact fun h => .inl h
              · rintro (h | h)
                · exact h
                · omega
    · have : i = l.length := by omega
      subst this
      simp only [shuffle_Is.l0]
      rw [if_neg (by omega)]
      exact ⟨true, rfl, by simp [hg]⟩

theorem is_ok (l : List Int) (hs : l.length ≤ 900) (k : Nat) (hk : l.length < k) : ∃ b, shuffle_Is.f k l = some b ∧ (b = true ↔ IsOrd l) := by
  unfold shuffle_Is.f
  rw [if_pos (by omega), if_pos (by omega), Int.toNat_natCast]
  obtain ⟨b, hb, hiff⟩ := is_l0 l hs l.length k (List.replicate l.length false) 0 (Nat.zero_le _) (by omega) (by simp) hk ⟨by simp, by simp⟩ (fun j hj => by simp [List.getD_eq_getElem?_getD, hj])
  refine ⟨b, hb, hiff.trans ?_⟩
  rw [isOrd_iff]
  unfold Good
  rw [List.take_length]

/-! ### draws out of an order -/
/-- Where a number stands first; the length, if nowhere. -/
def pos (l : List Int) (v : Int) : Nat := l.idxOf v

theorem index_l0 (l : List Int) (v : Int) (hs : l.length ≤ 900) : ∀ (m k i : Nat), i ≤ l.length → l.length - i ≤ m → m < k → v ∉ l.take i → v ∈ l → slices_Index_int_int.l0 k l v (l.length : Int) (i : Int) = some ((pos l v : Nat) : Int) := by
  intro m
  induction m with
  | zero =>
    intro k i hi hd hk hn hm
    exact absurd hm (by rw [List.take_of_length_le (by omega)] at hn; exact hn)
  | succ m ih =>
    intro k i hi hd hk hn hm
    obtain ⟨k, rfl⟩ : ∃ m, k = m + 1 := ⟨k - 1, by omega⟩
    have c : i < l.length := by
      rcases Nat.lt_or_ge i l.length with h | h
      · exact h
      · exact absurd hm (by rw [List.take_of_length_le h] at hn; exact hn)
    simp only [slices_Index_int_int.l0]
    rw [if_pos (by omega), if_pos (by omega), if_pos (by omega), rd_nat]
    by_cases e : v = G l i
    · rw [if_pos e]
      congr 2
      unfold pos
      have h1 : l = l.take i ++ G l i :: l.drop (i + 1) := by rw [← drop_G c, List.take_append_drop]
      rw [h1, List.idxOf_append, if_neg hn, e, List.idxOf_cons_self, List.length_take]
      omega
    · rw [if_neg e, wid (by omega) (by omega), show ((i : Int) + 1) = ((i + 1 : Nat) : Int) by omega]
      exact ih k (i + 1) (by omega) (by omega) (by omega) (by
        rw [take_G c, List.mem_append, List.mem_singleton]
        rintro (h | h)
        · exact hn h
        · exact e h) hm

theorem index_ok (l : List Int) (v : Int) (hs : l.length ≤ 900) (k : Nat) (hk : l.length < k) (hm : v ∈ l) : slices_Index_int_int.f k l v = some ((pos l v : Nat) : Int) :=
  index_l0 l v hs l.length k 0 (Nat.zero_le _) (by omega) hk (by simp) hm

/-- The order before its greatest number came. -/
def nx (l : List Int) : List Int := (l.set (pos l ((l.length - 1 : Nat) : Int)) (G l (l.length - 1))).take (l.length - 1)

/-- The draws of an order of n numbers. -/
def drw : Nat → List Int → List Int
  | 0, _ => []
  | n + 1, l => drw n (nx l) ++ [((pos l (n : Int) : Nat) : Int)]

theorem nx_sw {l : List Int} {n : Nat} (hl : l.length = n + 1) (h : IsOrd l) : pos l (n : Int) < l.length ∧ sw l (pos l (n : Int)) n = nx l ++ [(n : Int)] := by
  have hm : (n : Int) ∈ l := h.mem_iff.2 (mem_iota.2 (by omega))
  have hp : pos l (n : Int) < l.length := List.idxOf_lt_length_of_mem hm
  have hG : G l (pos l (n : Int)) = (n : Int) := by rw [← G_get hp]; exact List.getElem_idxOf hp
  refine ⟨hp, ?_⟩
  unfold nx sw
  rw [show l.length - 1 = n by omega, hG]
  have hlen : (l.set (pos l (n : Int)) (G l n)).length = n + 1 := by simpa using hl
  have e : (l.set (pos l (n : Int)) (G l n)) = (l.set (pos l (n : Int)) (G l n)).take n ++ [G (l.set (pos l (n : Int)) (G l n)) n] := by
    rw [← take_G (by omega), List.take_of_length_le (by omega)]
  conv => lhs; rw [e]
  rw [List.set_append_right _ _ (by rw [List.length_take, hlen]; omega), List.length_take, hlen, Nat.min_eq_left (by omega), Nat.sub_self, List.set_cons_zero]

theorem nx_ord {l : List Int} {n : Nat} (hl : l.length = n + 1) (h : IsOrd l) : (nx l).length = n ∧ IsOrd (nx l) := by
  obtain ⟨hp, hsw⟩ := nx_sw hl h
  have hlen : (nx l).length = n := by
    have := congrArg List.length hsw
    rw [sw_len, List.length_append, hl] at this
    simpa using this.symm
  refine ⟨hlen, ?_⟩
  have h1 : (nx l ++ [(n : Int)]).Perm (iota (n + 1)) := by
    rw [← hsw]
    have h2 : l.Perm (iota (n + 1)) := by have := h; unfold IsOrd at this; rwa [hl] at this
    exact (sw_perm hp (by omega)).trans h2
  rw [iota_succ, List.perm_append_right_iff] at h1
  unfold IsOrd
  rw [hlen]
  exact h1

theorem drw_len : ∀ (n : Nat) (l : List Int), (drw n l).length = n
  | 0, _ => rfl
  | n + 1, l => by simp [drw, drw_len n]

theorem draws_l0 : ∀ (n k : Nat) (l out : List Int), l.length = n → n ≤ 900 → n ≤ out.length → out.length ≤ 900 → 2 * n + 905 < k → IsOrd l → shuffle_Draws.l0 k l out ((n : Int) - 1) = some (drw n l ++ out.drop n, true) := by
  intro n
  induction n with
  | zero =>
    intro k l out hl _ _ _ hk _
    obtain ⟨k, rfl⟩ : ∃ m, k = m + 1 := ⟨k - 1, by omega⟩
    simp only [shuffle_Draws.l0]
    rw [if_neg (by omega)]
    simp [drw]
  | succ n ih =>
    intro k l out hl hn ho ho2 hk h
    obtain ⟨k, rfl⟩ : ∃ m, k = m + 1 := ⟨k - 1, by omega⟩
    obtain ⟨hp, hsw⟩ := nx_sw hl h
    obtain ⟨hnl, hno⟩ := nx_ord hl h
    have hm : (n : Int) ∈ l := h.mem_iff.2 (mem_iota.2 (by omega))
    simp only [shuffle_Draws.l0]
    rw [show (((n + 1 : Nat) : Int) - 1) = (n : Int) by omega, if_pos (by omega), index_ok l _ (by omega) k (by omega) hm]
    simp only [Option.bind_some]
    rw [if_pos (by omega), if_pos (by omega), if_pos (by omega), if_pos (by omega), if_pos (by omega), if_pos (by omega), rd_nat, Int.toNat_natCast, Int.toNat_natCast, wid (by omega) (by omega)]
    have e : (l.set (pos l (n : Int)) (G l n)).take n = nx l := by unfold nx; rw [show l.length - 1 = n by omega]
    rw [e, ih k (nx l) _ hnl (by omega) (by simp; omega) (by simpa using ho2) (by omega) hno]
    congr 2
    rw [List.drop_set, if_neg (by omega), Nat.sub_self, drop_G (by omega), List.set_cons_zero]
    simp [drw]

theorem draws_ok (l : List Int) (hs : l.length ≤ 900) (k : Nat) (hk : 3000 < k) : ∃ b, shuffle_Is.f k l = some b ∧ (b = true ↔ IsOrd l) ∧ shuffle_Draws.f k l = some (if b = true then (drw l.length l, true) else ([], false)) := by
  obtain ⟨b, hb, hiff⟩ := is_ok l hs k (by omega)
  refine ⟨b, hb, hiff, ?_⟩
  unfold shuffle_Draws.f slices_Clone_int_int.f
  rw [hb]
  simp only [Option.bind_some]
  by_cases c : b = true
  · rw [if_pos c, if_pos (by omega)]
    simp only [Option.bind_some]
    rw [if_pos (by omega), if_pos (by omega), if_pos c, wid (by omega) (by omega), Int.toNat_natCast, draws_l0 l.length k l _ rfl hs (by simp) (by simpa using hs) (by omega) (hiff.1 c)]
    simp
  · rw [if_neg c, if_neg c]

/-! ### an order and its draws -/
theorem put_at (o : List Int) (d : Int) : G (put o d) (cnt d (o.length + 1)) = (o.length : Int) := by
  have hc := cnt_lt d (show 0 < o.length + 1 by omega)
  unfold put
  rw [sw_G (by simp) (by simpa using hc), if_pos rfl, G_app_at]

theorem put_ord {o : List Int} (h : IsOrd o) (d : Int) : IsOrd (put o d) := by
  have hc := cnt_lt d (show 0 < o.length + 1 by omega)
  unfold IsOrd
  rw [put_len, iota_succ]
  unfold put
  refine (sw_perm (by simp) (by simpa using hc)).trans ?_
  exact List.Perm.append_right _ h

theorem ord_isOrd_from (ds : List Int) : ∀ o, IsOrd o → IsOrd (ds.foldl put o) := by
  induction ds with
  | nil => intro o h; exact h
  | cons d ds ih => intro o h; exact ih _ (put_ord h d)

theorem ord_isOrd (ds : List Int) : IsOrd (ord ds) := ord_isOrd_from ds [] (List.Perm.refl _)

theorem pos_of {l : List Int} {v : Int} {i : Nat} (hn : l.Nodup) (hi : i < l.length) (h : G l i = v) : pos l v = i := by
  have hm : v ∈ l := by rw [← h]; exact G_mem hi
  have hp : pos l v < l.length := List.idxOf_lt_length_of_mem hm
  have hG : G l (pos l v) = v := by rw [← G_get hp]; exact List.getElem_idxOf hp
  rcases Nat.lt_trichotomy (pos l v) i with h1 | h1 | h1
  · exact absurd ((List.pairwise_iff_getElem.1 hn) _ _ hp hi h1) (by rw [G_get, G_get, hG, h]; simp)
  · exact h1
  · exact absurd ((List.pairwise_iff_getElem.1 hn) _ _ hi hp h1) (by rw [G_get, G_get, hG, h]; simp)

theorem nx_put {o : List Int} (h : IsOrd o) (d : Int) : pos (put o d) (o.length : Int) = cnt d (o.length + 1) ∧ nx (put o d) = o := by
  have hc := cnt_lt d (show 0 < o.length + 1 by omega)
  have hp : pos (put o d) (o.length : Int) = cnt d (o.length + 1) := pos_of ((isOrd_iff _).1 (put_ord h d)).2 (by rw [put_len]; exact hc) (put_at o d)
  refine ⟨hp, ?_⟩
  have hsw := (nx_sw (put_len o d) (put_ord h d)).2
  rw [hp] at hsw
  have e : sw (put o d) (cnt d (o.length + 1)) o.length = o ++ [(o.length : Int)] := by
    apply ext_G (by rw [sw_len, put_len]; simp)
    intro k hk
    rw [sw_len, put_len] at hk
    rw [sw_G (by rw [put_len]; exact hc) (by rw [put_len]; omega)]
    unfold put
    rw [sw_G (by simp) (by simpa using hc), sw_G (by simp) (by simpa using hc), sw_G (by simp) (by simpa using hc)]
    by_cases h1 : k = o.length
    · subst h1
      rw [if_pos rfl, if_pos rfl]
    · rw [if_neg h1]
      by_cases h2 : k = cnt d (o.length + 1)
      · rw [if_pos h2]
        by_cases h3 : o.length = cnt d (o.length + 1)
        · omega
        · rw [if_neg h3, if_pos rfl, h2]
      · rw [if_neg h2, if_neg h2, if_neg h1]
  rw [e] at hsw
  exact (List.append_inj_left' hsw (by simp)).symm

/-- The draws of an order that draws made: as they count. -/
def cnts (ds : List Int) : List Int := ds.zipIdx.map fun p => ((cnt p.1 (p.2 + 1) : Nat) : Int)

theorem cnts_len (ds : List Int) : (cnts ds).length = ds.length := by simp [cnts]

theorem cnts_snoc (ds : List Int) (d : Int) : cnts (ds ++ [d]) = cnts ds ++ [((cnt d (ds.length + 1) : Nat) : Int)] := by
  simp [cnts, List.zipIdx_append]

theorem snoc_ind {P : List Int → Prop} (h0 : P []) (h1 : ∀ l a, P l → P (l ++ [a])) : ∀ l, P l := by
  intro l
  have : ∀ n (l : List Int), l.length = n → P l := by
    intro n
    induction n with
    | zero => intro l hl; rw [List.length_eq_zero_iff.1 hl]; exact h0
    | succ n ih =>
      intro l hl
      have e : l = l.take n ++ [G l n] := by rw [← take_G (by omega), List.take_of_length_le (by omega)]
      rw [e]
      exact h1 _ _ (ih _ (by rw [List.length_take]; omega))
  exact this _ l rfl

theorem drw_ord (ds : List Int) : drw ds.length (ord ds) = cnts ds := by
  induction ds using snoc_ind with
  | h0 => rfl
  | h1 l a ih =>
    rw [List.length_append, List.length_singleton, ord_snoc, cnts_snoc]
    obtain ⟨h1, h2⟩ := nx_put (ord_isOrd l) a
    rw [ord_len] at h1
    show drw l.length (nx (put (ord l) a)) ++ [((pos (put (ord l) a) (l.length : Int) : Nat) : Int)] = _
    rw [h1, h2, ih]

theorem cnt_small {i n : Nat} (h : i < n) : cnt (i : Int) n = i := by
  unfold cnt
  rw [Int.emod_eq_of_lt (by omega) (by omega)]
  omega

theorem ord_cnts (ds : List Int) : ord (cnts ds) = ord ds := by
  induction ds using snoc_ind with
  | h0 => rfl
  | h1 l a ih =>
    rw [cnts_snoc, ord_snoc, ord_snoc, ih]
    unfold put
    rw [ord_len, cnt_small (cnt_lt a (by omega))]

theorem cnts_G {ds : List Int} {i : Nat} (h : i < ds.length) : G (cnts ds) i = ((cnt (G ds i) (i + 1) : Nat) : Int) := by
  rw [← G_get (by rw [cnts_len]; exact h)]
  simp [cnts, G_get]

/-- A comparison of two lists. -/
theorem same_l0 (a b : List Int) (hl : a.length = b.length) (hs : a.length ≤ 17592186044416) : ∀ (d k i : Nat), i ≤ a.length → a.length - i ≤ d → d < k → (∀ j, j < i → G a j = G b j) → handoffref02_Same.l0 k a b (a.length : Int) (i : Int) = some (decide (a = b)) := by
  intro d
  induction d with
  | zero =>
    intro k i hi hd hk he
    obtain ⟨k, rfl⟩ : ∃ m, k = m + 1 := ⟨k - 1, by omega⟩
    simp only [handoffref02_Same.l0]
    rw [if_neg (by omega), decide_eq_true (ext_G hl (fun j hj => he j (by omega)))]
  | succ d ih =>
    intro k i hi hd hk he
    obtain ⟨k, rfl⟩ : ∃ m, k = m + 1 := ⟨k - 1, by omega⟩
    simp only [handoffref02_Same.l0]
    by_cases c : i < a.length
    · rw [if_pos (by omega), if_pos (by omega), if_pos (by omega), if_pos (by omega), rd_nat, rd_nat]
      by_cases e : G a i = G b i
      · rw [if_pos e, wid (by omega) (by omega)]
        exact ih k (i + 1) (by omega) (by omega) (by omega) (fun j hj => by
          by_cases h : j = i
          · subst h; exact e
          · exact he j (by omega))
      · rw [if_neg e, decide_eq_false (fun h => e (by rw [h]))]
    · rw [if_neg (by omega), decide_eq_true (ext_G hl (fun j hj => he j (by omega)))]

theorem same_ok (a b : List Int) (hs : a.length ≤ 17592186044416) (k : Nat) (hk : a.length < k) : handoffref02_Same.f k a b = some (decide (a = b)) := by
  unfold handoffref02_Same.f
  by_cases c : a.length = b.length
  · rw [if_pos (by omega)]
    exact same_l0 a b c hs a.length k 0 (Nat.zero_le _) (by omega) hk (fun j hj => by omega)
  · rw [if_neg (by omega), decide_eq_false (fun h => c (by rw [h]))]

end Go.Proofs.Ytifajoehlgdgaaa.PlainShA
