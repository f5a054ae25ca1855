/- Package pool: a pool that is as the document's is told so. -/
import Derived.Test.YtfajhdcambkbpaaPoolE
import Derived.Test.YtfajhdcambkbpaaPureRunsX
import Derived.Deep.RegionHeld3
namespace Go.Proofs.Ytfajhdcambkbpaa.Pool
open Go.RowKit Go.Proofs.YtfajhdcambkbpaaW.PrintWords Go.Proofs.YtfajhdcambkbpaaW.PrintMore Go.Proofs.Ytfajhdcambkbpaa.PPool

theorem same_l0 (l : List Int) (hl : l.length ≤ 1000000) : ∀ (d k : Nat) (i : Nat), l.length - i ≤ d → i ≤ l.length → d < k → handoffref02_Same.l0 k l l (l.length : Int) (i : Int) = some true := by
  intro d
  induction d with
  | zero =>
    intro k i hd hi hk
    obtain ⟨k, rfl⟩ : ∃ m, k = m + 1 := ⟨k - 1, by omega⟩
    simp only [handoffref02_Same.l0]
    rw [if_neg (by omega)]
  | succ d ih =>
    intro k i hd hi hk
    obtain ⟨k, rfl⟩ : ∃ m, k = m + 1 := ⟨k - 1, by omega⟩
    simp only [handoffref02_Same.l0]
    by_cases c : (i : Int) < (l.length : Int)
    · have hw : wrap64 ((i : Int) + 1) = ((i + 1 : Nat) : Int) := by unfold wrap64; omega
      have hi2 := ih k (i + 1) (by omega) (by omega) (by omega)
      rw [hw, hi2]
      simp [c]
    · rw [if_neg c]

theorem same_refl (l : List Int) (hl : l.length ≤ 1000000) : handoffref02_Same.f (l.length + 1) l l = some true := by
  unfold handoffref02_Same.f
  rw [if_pos rfl]
  exact same_l0 l hl l.length (l.length + 1) 0 (by omega) (by omega) (by omega)

/-- Of nobody there is no cache. -/
theorem cache_no (w : World) (base : Nat) (S : Nat → Prop) (p : Nat) (P : PoolM) (g : Int) (h : PoolAt w base S p P) (hn : ¬ (0 ≤ g ∧ g < (P.caches.length : Int))) :
    Calls Try.prog 21 #[.pointer (some ⟨p, 0, none⟩), .int .i64 g] w fun e w' => e = .returned (.slice none 0 0) ∧ w = w' := by
  have HT := Aside0.mk (taker_calls w base S p P g h)
  have hd : decide (0 ≤ g ∧ g < (P.caches.length : Int)) = false := decide_eq_false hn
  clear hn h
  go_enter Try.func21, Try.ntmps21
  go_wp2_with (go_at_call 23; refine HT.out.mono ?_; rintro e w' ⟨rfl, rfl⟩; rw [hd])
  go_ret
  exact ⟨rfl, rfl⟩

/-- What the comparison finds in memory: the pool, and the document's rows. -/
structure Seen (W w : World) (base : Nat) (S : Nat → Prop) (p bx : Nat) (P : PoolM) (n m : Int) (AC : Option Addr) (cC : Nat) (AM : Option Addr) (cM : Nat) : Prop where
  lies : PoolAt w base S p P
  rows : Kd.C (Kd.slice 3 (Kd.int .i64)) w AC P.caches.length P.caches
  mid : Kd.C (Kd.int .i64) w AM P.middle.length P.middle
  box : w.heap[bx]? = some (.cells #[.int .i64 n, .int .i64 m, .slice AC P.caches.length cC, .slice AM P.middle.length cM, .int .i64 P.fresh] 30 (0, 0))
  below : Below W.heap.size W w

theorem Seen.step {W w w' : World} {base : Nat} {S : Nat → Prop} {p bx : Nat} {P : PoolM} {n m : Int} {AC AM : Option Addr} {cC cM : Nat} (h : Seen W w base S p bx P n m AC cC AM cM) (hb : Below w.heap.size w w') : Seen W w' base S p bx P n m AC cC AM cM where
  lies := h.lies.step (fun k _ hl => hb.block k hl)
  rows := Kd.C_below h.rows hb
  mid := Kd.C_below h.mid hb
  box := blk_below h.box hb
  below := h.below.trans (hb.mono h.below.size)

/-- All that is held while the last test runs: its cells, and what was seen. -/
def SeenAt (W w : World) (base : Nat) (S : Nat → Prop) (p bx : Nat) (P : PoolM) (n m : Int) (AC : Option Addr) (cC : Nat) (AM : Option Addr) (cM : Nat) : Prop :=
  w.cell? ⟨bx, 0, none⟩ = some (.int .i64 n) ∧ w.cell? ⟨bx, 1, none⟩ = some (.int .i64 m) ∧ w.cell? ⟨bx, 2, none⟩ = some (.slice AC P.caches.length cC) ∧ w.cell? ⟨bx, 3, none⟩ = some (.slice AM P.middle.length cM) ∧ w.cell? ⟨bx, 4, none⟩ = some (.int .i64 P.fresh) ∧ Aside0 (Seen W w base S p bx P n m AC cC AM cM)

theorem Seen.at {W w : World} {base : Nat} {S : Nat → Prop} {p bx : Nat} {P : PoolM} {n m : Int} {AC AM : Option Addr} {cC cM : Nat} (h : Seen W w base S p bx P n m AC cC AM cM) : SeenAt W w base S p bx P n m AC cC AM cM :=
  ⟨(blk_cell h.box 0).trans rfl, (blk_cell h.box 1).trans rfl, (blk_cell h.box 2).trans rfl, (blk_cell h.box 3).trans rfl, (blk_cell h.box 4).trans rfl, ⟨h⟩⟩

/-- Where a row of rows stands. -/
theorem rows_at {w : World} {A : Option Addr} {xs : List (List Int)} (h : Kd.C (Kd.slice 3 (Kd.int .i64)) w A xs.length xs) (g : Nat) (hg : g < xs.length) :
    ∃ ad, A = some ad ∧ ∃ A0 c0, w.cell? (ad.add g) = some (.slice A0 (xs.getD g []).length c0) ∧ (xs.getD g []).length ≤ c0 ∧ Kd.C (Kd.int .i64) w A0 (xs.getD g []).length (xs.getD g []) := by
  obtain ⟨ad, A0, c0, h1, h2, h3, h4⟩ := PPoolR.at_L1 h (g : Int) (by omega) (by omega)
  have e : PPoolR.rd_L1 xs (g : Int) = xs.getD g [] := by unfold PPoolR.rd_L1; rw [Int.toNat_natCast]
  rw [e] at h2 h3 h4
  rw [Int.toNat_natCast] at h2
  exact ⟨ad, h1, A0, c0, h2, h3, h4⟩

variable {W w : World} {base : Nat} {S : Nat → Prop} {p bx : Nat} {P : PoolM} {n m : Int} {AC AM : Option Addr} {cC cM : Nat}

theorem SeenAt.seen (h : SeenAt W w base S p bx P n m AC cC AM cM) : Seen W w base S p bx P n m AC cC AM cM := h.2.2.2.2.2.out

theorem mid_seen (h : SeenAt W w base S p bx P n m AC cC AM cM) (hs : P.middle.length ≤ 1000000) :
    Calls Try.prog 25 #[.pointer (some ⟨p, 0, none⟩)] w fun e w' => ∃ A c, e = .returned (.slice A P.middle.length c) ∧ Aside0 (Kd.C (Kd.int .i64) w' A P.middle.length P.middle ∧ P.middle.length ≤ c) ∧ SeenAt W w' base S p bx P n m AC cC AM cM :=
  (middle_calls w base S p P h.seen.lies hs).mono fun _ _ ⟨v, he, hr, hb⟩ => by
    obtain ⟨A, c, rfl⟩ := Kd.R_slice hr
    exact ⟨A, c, he, ⟨(Kd.R_reads' hr).2.2, (Kd.R_reads' hr).2.1⟩, (h.seen.step hb).at⟩

theorem same_seen (h : SeenAt W w base S p bx P n m AC cC AM cM) (hs : P.middle.length ≤ 1000000) (hcM : P.middle.length ≤ cM) {A : Option Addr} {c : Nat} (hr : Aside0 (Kd.C (Kd.int .i64) w A P.middle.length P.middle ∧ P.middle.length ≤ c)) :
    Calls Try.prog 20 #[.slice A P.middle.length c, .slice AM P.middle.length cM] w fun e w' => e = .returned (.bool true) ∧ SeenAt W w' base S p bx P n m AC cC AM cM :=
  (same_calls _ A c _ AM cM _ true _ hr.out.1 hr.out.2 h.seen.mid hcM (same_refl _ hs)).mono fun _ _ ⟨he, ⟨⟨m3, hw⟩⟩⟩ => ⟨he, hw ▸ (h.seen.step (pw_below_drewN (Below.refl _ _) m3)).at⟩

theorem fresh_seen (h : SeenAt W w base S p bx P n m AC cC AM cM) :
    Calls Try.prog 19 #[.pointer (some ⟨p, 0, none⟩)] w fun e w' => e = .returned (.int .i64 P.fresh) ∧ SeenAt W w' base S p bx P n m AC cC AM cM :=
  (fresh_calls w base S p P h.seen.lies).mono fun _ _ ⟨he, hw⟩ => ⟨he, hw ▸ h.seen.at⟩

theorem count_seen (h : SeenAt W w base S p bx P n m AC cC AM cM) :
    Calls Try.prog 18 #[.pointer (some ⟨p, 0, none⟩)] w fun e w' => e = .returned (.int .i64 P.count) ∧ SeenAt W w' base S p bx P n m AC cC AM cM :=
  (count_calls w base S p P h.seen.lies).mono fun _ _ ⟨he, hw⟩ => ⟨he, hw ▸ h.seen.at⟩

theorem ref_count_seen (h : SeenAt W w base S p bx P n m AC cC AM cM) (hr : Aside0 P.Right) (hcC : P.caches.length ≤ cC) (hcM : P.middle.length ≤ cM) :
    Calls Try.prog 26 #[.agg #[.int .i64 n, .int .i64 m, .slice AC P.caches.length cC, .slice AM P.middle.length cM, .int .i64 P.fresh]] w fun e w' => e = .returned (.int .i64 P.count) ∧ SeenAt W w' base S p bx P n m AC cC AM cM :=
  (PPoolR.handoffref05_Count.calls 101 n m AC cC P.caches AM cM P.middle P.fresh P.count w h.seen.rows hcC h.seen.mid hcM (ref_count P hr.out 101 (by omega) n m)).mono fun _ _ ⟨he, hb⟩ => ⟨he, (h.seen.step hb).at⟩

theorem no_seen (h : SeenAt W w base S p bx P n m AC cC AM cM) (g : Int) (hg : ¬ (0 ≤ g ∧ g < (P.caches.length : Int))) :
    Calls Try.prog 21 #[.pointer (some ⟨p, 0, none⟩), .int .i64 g] w fun e w' => e = .returned (.slice none 0 0) ∧ SeenAt W w' base S p bx P n m AC cC AM cM :=
  (cache_no w base S p P g h.seen.lies hg).mono fun _ _ ⟨he, hw⟩ => ⟨he, hw ▸ h.seen.at⟩

set_option maxRecDepth 100000 in
set_option maxHeartbeats 1000000 in
theorem same_pool (W : World) (base : Nat) (S : Nat → Prop) (p : Nat) (P : PoolM) (n m : Int) (AC AM : Option Addr) (cC cM : Nat) (h : PoolAt W base S p P) (hr : P.Right) (hR : Kd.C (Kd.slice 3 (Kd.int .i64)) W AC P.caches.length P.caches) (hcC : P.caches.length ≤ cC) (hM : Kd.C (Kd.int .i64) W AM P.middle.length P.middle) (hcM : P.middle.length ≤ cM) :
    Calls Try.prog 11 #[.pointer (some ⟨p, 0, none⟩), .agg #[.int .i64 n, .int .i64 m, .slice AC P.caches.length cC, .slice AM P.middle.length cM, .int .i64 P.fresh]] W fun e w' => e = .returned (.bool true) ∧ Below W.heap.size W w' := by
  have hbig : ∀ g, (P.kept g).length ≤ 1000000 := fun g => by
    have h1 := all_bounds P hr g.toNat
    unfold PoolM.kept
    split
    · omega
    · simp
  have hm64 : P.middle.length ≤ 1000000 := by have := (all_bounds P hr 0).1; omega
  have ht8 : P.caches.length ≤ 8 := hr.takers
  have HS := Aside0.mk (show Seen W (W.alloc (.cells #[.int .i64 n, .int .i64 m, .slice AC P.caches.length cC, .slice AM P.middle.length cM, .int .i64 P.fresh] 30)) base S p W.heap.size P n m AC cC AM cM from
    { lies := h.step (fun k _ hl => Below.heap_alloc W _ k hl), rows := Kd.C_alloc hR _, mid := Kd.C_alloc hM _, box := blk_new W _, below := below_alloc (Below.refl _ _) _ })
  have HBIG := Aside0.mk hbig
  have HC := Aside0.mk hcC
  have HCM := Aside0.mk hcM
  have HR := Aside0.mk hr
  clear h hr hR hcC hM hcM hbig
  go_enter Try.func11, Try.ntmps11
  go_wp2_with fail
  generalize (W.alloc (.cells #[.int .i64 n, .int .i64 m, .slice AC P.caches.length cC, .slice AM P.middle.length cM, .int .i64 P.fresh] 30)) = w1 at *
  generalize hbx : W.heap.size = bx at HS ⊢
  have HBX := Aside0.mk hbx
  clear hbx
  have hx2 := HS.out.at.2.2.1
  go_wp2_with fail
  go_loopg [10] P.caches.length (fun kq v10 wr => ∃ g : Nat, v10 = .int .i64 g ∧ Aside0 (g ≤ P.caches.length) ∧ Aside0 (kq = P.caches.length - g) ∧ Aside0 (Seen W wr base S p bx P n m AC cC AM cM))
  case atStart => exact ⟨0, rfl, ⟨by omega⟩, ⟨by omega⟩, HS⟩
  case round =>
    clear HS hx2
    obtain ⟨g, rfl, HG, HK, HH⟩ := hrel
    by_cases cg : g < P.caches.length
    · have d3 : decide ((g : Int) < (P.caches.length : Int)) = true := decide_eq_true (by omega)
      have d3' : decide (g < P.caches.length) = true := decide_eq_true cg
      obtain ⟨ad, rfl, A0, c0, hx, hl, hc⟩ := rows_at HH.out.rows g cg
      obtain ⟨L, hL⟩ : ∃ L, P.caches.getD g [] = L := ⟨_, rfl⟩
      have hk : P.kept (g : Int) = L := by unfold PoolM.kept; rw [if_pos (by omega), Int.toNat_natCast, hL]
      rw [hL] at hx hl hc
      have HKP := Aside0.mk hk
      have HGT := Aside0.mk cg
      have HLC := Aside0.mk hl
      have HRD := Aside0.mk hc
      clear hk hl hc hL
      go_wp2_with fail
      go_at_call 21
      refine (cache_calls wr _ _ p P g HH.out.lies (HBIG.out _)).mono ?_
      rw [HKP.out]
      rintro e w2 ⟨v, rfl, hr2, b2⟩
      obtain ⟨A2, c2, rfl⟩ := Kd.R_slice hr2
      have HR2 := Aside0.mk hr2
      have H2 := Aside0.mk (HH.out.step b2)
      have HRD2 := Aside0.mk (Kd.C_below HRD.out b2)
      have hsm := HBIG.out g
      rw [HKP.out] at hsm
      have HSM := Aside0.mk hsm
      clear hr2 b2 hx hsm
      go_wp2_with fail
      go_at_call 20
      refine (same_calls _ A2 c2 _ A0 c0 _ true _ (Kd.R_reads' HR2.out).2.2 (Kd.R_reads' HR2.out).2.1 HRD2.out HLC.out (same_refl _ HSM.out)).mono ?_
      rintro e w3 ⟨rfl, ⟨⟨m3, rfl⟩⟩⟩
      go_wp2_with fail
      go_roundg (P.caches.length - (g + 1))
      case measure => have := HK.out; have := HGT.out; omega
      case rel => exact ⟨g + 1, by go_num, ⟨HGT.out⟩, ⟨rfl⟩, ⟨H2.out.step (pw_below_drewN (Below.refl _ _) _)⟩⟩
    · have d3 : decide ((g : Int) < (P.caches.length : Int)) = false := decide_eq_false (by omega)
      have hgT : g = P.caches.length := by have := HG.out; omega
      clear cg HG
      subst hgT
      go_wp2_with fail
      have h0 : SeenAt W wr.drew base S p bx P n m AC cC AM cM := (HH.out.step (below_drew (Below.refl _ _))).at
      have hP : wr.drew.heap.size = wr.heap.size := rfl
      go_region_held3 (fun w' => w'.cell? ⟨bx, 0, none⟩ = some (.int .i64 n) ∧ w'.cell? ⟨bx, 1, none⟩ = some (.int .i64 m) ∧ w'.cell? ⟨bx, 2, none⟩ = some (.slice AC P.caches.length cC) ∧ w'.cell? ⟨bx, 3, none⟩ = some (.slice AM P.middle.length cM) ∧ w'.cell? ⟨bx, 4, none⟩ = some (.int .i64 P.fresh) ∧ Aside0 (Seen W w' base S p bx P n m AC cC AM cM)) (first | exact h0 | (have h_ := (by assumption : SeenAt W _ base S p bx P n m AC cC AM cM); exact h_))
        (first
          | (go_at_call 25; refine (mid_seen (W := W) (base := base) (S := S) (p := p) (bx := bx) (P := P) (n := n) (m := m) (AC := AC) (AM := AM) (cC := cC) (cM := cM) ?h1 hm64).mono ?_; (case h1 => assumption); rintro e w2 ⟨A2, c2, rfl, hr2, h2⟩)
          | (go_at_call 20; refine (same_seen (W := W) (base := base) (S := S) (p := p) (bx := bx) (P := P) (n := n) (m := m) (AC := AC) (AM := AM) (cC := cC) (cM := cM) ?h1 hm64 HCM.out ?h2).mono ?_; (case h1 => assumption); (case h2 => assumption); rintro e w2 ⟨rfl, h2⟩)
          | (go_at_call 19; refine (fresh_seen (W := W) (base := base) (S := S) (p := p) (bx := bx) (P := P) (n := n) (m := m) (AC := AC) (AM := AM) (cC := cC) (cM := cM) ?h1).mono ?_; (case h1 => assumption); rintro e w2 ⟨rfl, h2⟩)
          | (go_at_call 18; refine (count_seen (W := W) (base := base) (S := S) (p := p) (bx := bx) (P := P) (n := n) (m := m) (AC := AC) (AM := AM) (cC := cC) (cM := cM) ?h1).mono ?_; (case h1 => assumption); rintro e w2 ⟨rfl, h2⟩)
          | (go_at_call 26; refine (ref_count_seen (W := W) (base := base) (S := S) (p := p) (bx := bx) (P := P) (n := n) (m := m) (AC := AC) (AM := AM) (cC := cC) (cM := cM) ?h1 HR HC.out HCM.out).mono ?_; (case h1 => assumption); rintro e w2 ⟨rfl, h2⟩)
          | (go_at_call 21; refine (no_seen (W := W) (base := base) (S := S) (p := p) (bx := bx) (P := P) (n := n) (m := m) (AC := AC) (AM := AM) (cC := cC) (cM := cM) ?h1 _ ?h2).mono ?_; (case h1 => assumption); (case h2 => omega); rintro e w2 ⟨rfl, h2⟩))
      all_goals
        go_wp2_with fail
        go_ret
        have h_ := (by assumption : SeenAt W _ base S p bx P n m AC cC AM cM)
        exact ⟨rfl, h_.seen.below⟩
end Go.Proofs.Ytfajhdcambkbpaa.Pool
