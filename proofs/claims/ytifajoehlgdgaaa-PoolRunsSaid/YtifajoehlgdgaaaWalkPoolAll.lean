/- The walk of PoolAll: one taker gets all, and gives all back. -/
import Derived.Test.YtifajoehlgdgaaaPoolH
namespace Go.Proofs.Ytifajoehlgdgaaa.WalkPoolAll
open Go.RowKit Go.Proofs.YtifajoehlgdgaaaW.PrintWords Go.Proofs.YtifajoehlgdgaaaW.PrintMore Go.Proofs.Ytifajoehlgdgaaa.Pool
attribute [local go_sem] max2_int max_two

theorem lit_none (w : World) (base : Nat) (ok : Nat → Prop) (hb : base ≤ w.heap.size) (hok : ok w.heap.size) : Kd.R (Kd.int .i64) 3 (w.alloc (.cells #[] 3)) base ok (.slice (some ⟨w.heap.size, 0, none⟩) 0 0) [] := by
  refine ⟨fun k hk => ?_, [], ?_, ⟨rfl, fun j p hj => by simp at hj⟩⟩
  · have : w.heap.size = k := by simpa [Value.ownBlock] using hk
    subst this
    exact hok
  · have h2 := World.ownsRow_lit (base := base) (e := 3) (size := 1) w #[] 0 hb (by unfold maxLen; omega) (by simp)
    rw [show (Kd.int .i64).sz = 1 from rfl]
    simpa using h2

theorem u8 {a : Int} (h : (Lit.int .u8 a).wf = true) : 0 ≤ a ∧ a ≤ 255 := by
  have e1 : IntKind.u8.min = 0 := rfl
  have e2 : IntKind.u8.max = 255 := rfl
  simp [Lit.wf] at h
  omega

/-- Which ones are in hand: those in the row, and the one that was taken last. -/
def hand (l : List Int) (x : Int) (ok : Bool) : List Int := if ok then x :: l else l

set_option maxHeartbeats 4000000 in
theorem walk (W : World) (a0 : Int) (_w0 : (Lit.int .u8 a0).wf = true) (a1 : Int) (_w1 : (Lit.int .u8 a1).wf = true) (a2 : Int) (_w2 : (Lit.int .u8 a2).wf = true) :
    Calls Try.prog 12 #[.int .u8 a0, .int .u8 a1, .int .u8 a2] W fun e w' => e = .returned (.bool true) ∧ Below W.heap.size W w' := by
  have r0 := u8 _w0
  have r1 := u8 _w1
  have r2 := u8 _w2
  clear _w0 _w1 _w2
  go_enter Try.func12, Try.ntmps12
  go_wp2_with fail
  go_at_call 45
  refine (alive_calls _).mono ?_
  rintro e w1 ⟨rfl, b1⟩
  have B1 := Aside0.mk b1
  clear b1
  go_wp2_with fail
  obtain ⟨n, hn⟩ : ∃ n : Int, a0 % 65 = n := ⟨_, rfl⟩
  obtain ⟨m, hm⟩ : ∃ m : Int, 1 + a1 % 16 = m := ⟨_, rfl⟩
  rw [hn, hm]
  have n0 : 0 ≤ n := by omega
  have n1 : n ≤ 64 := by omega
  have m0 : 1 ≤ m := by omega
  have m1 : m ≤ 16 := by omega
  clear hn hm r0 r1
  go_at_call 46
  refine (new_hold W w1 B1.out n 1 m (by omega)).mono ?_
  rintro e w2 ⟨p, rfl, h2, _⟩
  have H2 := Aside0.mk h2
  clear h2 B1
  obtain ⟨P0, hP0⟩ : ∃ P, PoolM.new n 1 m = P := ⟨_, rfl⟩
  have hz : P0.count = 0 := by rw [← hP0]; rfl
  rw [hP0] at H2
  have HZ := Aside0.mk hz
  clear hP0 hz
  go_wp2_with fail
  go_loopg [10] 5 (fun kq v10 wr => ∃ (S : Nat → Prop) (P : PoolM) (k : Int), v10 = .int .i64 k ∧ 0 ≤ k ∧ k ≤ 4 ∧ Aside0 (kq = (5 - k).toNat) ∧ Aside0 (P.count = 0) ∧ Aside0 (Hold W wr S p P n.toNat 1 m))
  case atStart => exact ⟨_, P0, 0, rfl, by omega, by omega, ⟨rfl⟩, HZ, H2⟩
  case round =>
    clear H2 HZ
    obtain ⟨S, P, k, rfl, k0, k4, HK, HZ, HH⟩ := hrel
    by_cases c : k ≤ a2 % 4
    · have c1 : decide (k ≤ a2 % 4) = true := decide_eq_true c
      go_wp2_with fail
      have hL := Aside0.mk (lit_none wr W.heap.size (fun b => ¬ (S b ∧ b < wr.heap.size)) HH.out.below.size (by omega))
      have H1 := Aside0.mk (HH.out.bound.step (w' := wr.alloc (.cells #[] 3)) (below_alloc HH.out.below _) (fun k _ hl => Below.heap_alloc wr _ k hl))
      go_at_call 47
      refine (take_hold H1.out 0 (by omega)).mono ?_
      rintro e w3 ⟨S3, P3, x, ok, rfl, h3, _, hsep, htrue, hfalse⟩
      have H3 := Aside0.mk h3
      have hr3 := hsep hL.out
      have HR3 := Aside0.mk hr3
      have hlv : ∀ y ∈ hand [] x ok, P3.live y = true := by
        intro y hy
        cases ok with
        | true =>
          have ht := htrue rfl
          have hy2 : y = x := by simpa [hand] using hy
          subst hy2
          exact (live_set (P := P) (b := true) ⟨ht.1, by rw [HH.out.size]; exact ht.2.1⟩ ht.2.2.2.1 y).2 (by rw [if_pos rfl])
        | false => cases hy
      have hct : P3.count = (hand [] x ok).length := by
        cases ok with
        | true => rw [(htrue rfl).2.2.2.2, HZ.out]; rfl
        | false => rw [(hfalse rfl).2.1, HZ.out]; rfl
      have hend : ok = false → P3.count = n := fun e => by have := (hfalse e).2.2 rfl; omega
      have HLV := Aside0.mk hlv
      have HCT := Aside0.mk hct
      have HEND := Aside0.mk hend
      clear h3 hsep htrue hfalse hr3 hlv hct hend H1 hL HH HZ
      go_wp2_with fail
      go_loopg [11, 12, 13] 70 (fun kq v11 v12 v13 wr => ∃ (S : Nat → Prop) (P : PoolM) (A : Option Addr) (cp : Nat) (l : List Int) (x : Int) (ok : Bool), v11 = .slice A l.length cp ∧ v12 = .int .i64 x ∧ v13 = .bool ok ∧ Aside0 (kq = 70 - l.length) ∧ Aside0 (Hold W wr S p P n.toNat 1 m) ∧ Aside0 (Kd.R (Kd.int .i64) 3 wr W.heap.size (fun b => ¬ S b) (.slice A l.length cp) l) ∧ Aside0 (hand l x ok).Nodup ∧ Aside0 (∀ y ∈ hand l x ok, P.live y = true) ∧ Aside0 (P.count = (hand l x ok).length) ∧ Aside0 (ok = false → P.count = n))
      case atStart => exact ⟨S3, P3, _, _, [], x, ok, rfl, rfl, rfl, ⟨rfl⟩, H3, HR3, ⟨by cases ok <;> simp [hand]⟩, HLV, HCT, HEND⟩
      case round =>
        clear H3 HR3 HLV HCT HEND
        obtain ⟨S, P, A, cp, l, x, ok, rfl, rfl, rfl, HK2, HH, HR, HND, HLV, HCT, HEND⟩ := hrel
        have hle := HH.out.count_le
        rw [HCT.out] at hle
        cases ok with
        | true =>
          have hl : (l.length : Int) ≤ n := by simp [hand] at hle; omega
          have hl2 : l.length + 1 ≤ 64 := by simp [hand] at hle; omega
          have HL2 := Aside0.mk hl2
          have c2 : decide ((l.length : Int) ≤ n) = true := decide_eq_true hl
          clear hle hl2
          go_wp2_with ((with_reducible refine gate_builtin (b := .append) (xs := #[.tmp 61, .tmp 63]) rfl ?_); at_builtin; refine Kd.R_append (Kd.int .i64) (w0 := W) W.heap.size rfl (.tmp 61) (.tmp 63) 25 3 (.int .i64 0) 8 rfl Try.underlying25 infoI rfl (by decide) (by omega) (.slice A l.length cp) l x [.int .i64 x] (fun b => ¬ (S b ∧ b < wr.heap.size)) (fun _ => False) rfl rfl rfl (fun _ h => h.elim) ?aF ?aO ?aB ?aS ?aL ?_; (case aF => exact fun k hk => by omega); (case aO => exact Kd.R_mono HR.out (fun k hk h => hk h.1)); (case aB => exact HH.out.below); (case aS => exact HH.out.below.size); (case aL => have := HL2.out; omega); intro v1 w1 hr hb hg hat; obtain ⟨A1, k1, hv1⟩ := Kd.R_slice hr; subst hv1; have HR1 := Aside0.mk hr; have HB1 := Aside0.mk hb; have HG1 := Aside0.mk hg; clear hr hb hg hat)
          have H4 := Aside0.mk (HH.out.bound.step HB1.out (fun k hk hl => HG1.out.block k hl (fun e => HR.out.1 k e.symm hk.1)))
          go_at_call 47
          refine (take_hold H4.out 0 (by omega)).mono ?_
          rintro e w3 ⟨S3, P3, x3, ok3, rfl, h3, _, hsep, htrue, hfalse⟩
          have H5 := Aside0.mk h3
          have HR5 := Aside0.mk (hsep HR1.out)
          have hxl : ∀ y ∈ l ++ [x], P.live y = true := fun y hy => HLV.out y (by rw [List.mem_append, List.mem_singleton] at hy; simp only [hand, if_true, List.mem_cons]; exact hy.symm)
          have hnd : (l ++ [x]).Nodup := by
            have h := HND.out
            simp only [hand, if_true, List.nodup_cons] at h
            rw [List.nodup_append]
            exact ⟨h.2, by simp, fun a ha b hb e => by rw [List.mem_singleton] at hb; subst hb; subst e; exact h.1 ha⟩
          have hlv : ∀ y ∈ hand (l ++ [x]) x3 ok3, P3.live y = true := by
            intro y hy
            cases ok3 with
            | true =>
              have ht := htrue rfl
              refine (live_set (P := P) (b := true) ⟨ht.1, by rw [HH.out.size]; exact ht.2.1⟩ ht.2.2.2.1 y).2 ?_
              split
              · rfl
              · rename_i hne
                simp only [hand, if_true, List.mem_cons] at hy
                exact hxl y (hy.resolve_left hne)
            | false =>
              rw [live_cong (hfalse rfl).1]
              exact hxl y hy
          have hnd2 : (hand (l ++ [x]) x3 ok3).Nodup := by
            cases ok3 with
            | true =>
              have ht := htrue rfl
              simp only [hand, if_true, List.nodup_cons]
              refine ⟨fun hm => ?_, hnd⟩
              have h1 := hxl x3 hm
              rw [ht.2.2.1] at h1
              cases h1
            | false => exact hnd
          have hct : P3.count = (hand (l ++ [x]) x3 ok3).length := by
            have h := HCT.out
            simp only [hand, if_true, List.length_cons] at h
            cases ok3 with
            | true => rw [(htrue rfl).2.2.2.2, h]; simp [hand]
            | false => rw [(hfalse rfl).2.1, h]; simp [hand]
          have hend : ok3 = false → P3.count = n := fun e => by have := (hfalse e).2.2 rfl; omega
          have HLV5 := Aside0.mk hlv
          have HND5 := Aside0.mk hnd2
          have HCT5 := Aside0.mk hct
          have HEND5 := Aside0.mk hend
          clear h3 hsep htrue hfalse hlv hct hend hxl hnd hnd2 H4 HR HH HR1 HB1 HG1 HLV HND HCT HEND
          go_wp2_with fail
          go_roundg (70 - (l.length + 1))
          case measure => have := HK2.out; have := HL2.out; omega
          case rel => exact ⟨S3, P3, A1, k1, l ++ [x], x3, ok3, by simp, rfl, rfl, ⟨by simp⟩, H5, by simpa using HR5, HND5, HLV5, HCT5, HEND5⟩
        | false =>
          have hln : (l.length : Int) = n := by have h1 := HEND.out rfl; have h2 := HCT.out; simp only [hand] at h2; rw [h1] at h2; exact h2.symm
          have bq : ((l.length : Int) == n) = true := by simp [hln]
          have bn : ((l.length : Int) != n) = false := by simp [hln]
          have HLN := Aside0.mk hln
          have HNDL : Aside0 l.Nodup := ⟨HND.out⟩
          have HLVL : Aside0 (∀ y ∈ l, P.live y = true) := ⟨HLV.out⟩
          have HCN : Aside0 (P.count = n) := ⟨HEND.out rfl⟩
          clear hle hln HND HLV HCT HEND
          go_wp2_with fail
          go_at_call 48
          refine (count_calls _ _ _ p P HH.out.lies).mono ?_
          rintro e w3 ⟨rfl, rfl⟩
          rw [HCN.out]
          go_wp2_with fail
          go_loopg [77] l.length (fun kq v77 wr => ∃ (S : Nat → Prop) (P : PoolM) (i : Int), v77 = .int .i64 i ∧ 0 ≤ i ∧ i ≤ (l.length : Int) ∧ Aside0 (kq = l.length - i.toNat) ∧ Aside0 (Hold W wr S p P n.toNat 1 m) ∧ Aside0 (Kd.R (Kd.int .i64) 3 wr W.heap.size (fun b => ¬ S b) (.slice A l.length cp) l) ∧ Aside0 (∀ j, i.toNat ≤ j → ∀ y, l[j]? = some y → P.live y = true) ∧ Aside0 (P.count = (l.length : Int) - i))
          case atStart => exact ⟨S, P, 0, rfl, by omega, by omega, ⟨by simp⟩, HH, HR, ⟨fun j _ y hy => HLVL.out y (List.mem_of_getElem? hy)⟩, ⟨by rw [HCN.out, HLN.out]; omega⟩⟩
          case round =>
            clear HH HR HLVL HCN
            obtain ⟨S, P, i, rfl, i0, i1, HK3, HH, HR, HLV, HCT⟩ := hrel
            by_cases ci : i < (l.length : Int)
            · have d1 : decide (i < (l.length : Int)) = true := decide_eq_true ci
              obtain ⟨ad, rfl, hx⟩ := Kd.at_int (Kd.R_reads' HR.out).2.2 i i0 ci
              obtain ⟨y, hy⟩ : ∃ y, rd l i = y := ⟨_, rfl⟩
              have hy2 : l[i.toNat]? = some y := by
                rw [← hy]
                unfold rd
                simp [List.getD_eq_getElem?_getD, show i.toNat < l.length by omega]
              rw [hy] at hx
              have hyl := HLV.out i.toNat (Nat.le_refl _) y hy2
              have hi := ci
              have hwr : wrap64 (i + 1) = i + 1 := by unfold wrap64; have := HLN.out; omega
              have HY2 := Aside0.mk hy2
              have HYL := Aside0.mk hyl
              clear hy hy2 hyl
              go_wp2_with fail
              go_at_call 49
              refine (give_hold HH.out 0 y (by omega) HYL.out).mono ?_
              rintro e w4 ⟨S4, rfl, h4, hsep, ho4, hn4⟩
              have H4 := Aside0.mk h4
              have HR4 := Aside0.mk (hsep HR.out)
              have hx4 : 0 ≤ y ∧ y < (P.out.length : Int) := by have := live_mem.1 HYL.out; exact ⟨this.1, this.2.1⟩
              have hno : (P.give 0 y).live y = false := by
                cases e : (P.give 0 y).live y
                · rfl
                · have := (live_set (P := P) (b := false) hx4 ho4 y).1 e
                  rw [if_pos rfl] at this
                  cases this
              have HNO := Aside0.mk hno
              have HO4 := Aside0.mk ho4
              have HN4 := Aside0.mk hn4
              have HX4 := Aside0.mk hx4
              clear h4 hsep ho4 hn4 hno hx4 HH HR
              go_wp2_with fail
              go_at_call 49
              refine (give_no p _ 0 y w4 _ _ H4.out.lies (fun h => by rw [HNO.out] at h; cases h.2.2)).mono ?_
              rintro e w5 ⟨rfl, rfl⟩
              go_wp2_with fail
              go_roundg (l.length - (i + 1).toNat)
              case measure => have := HK3.out; omega
              case rel =>
                refine ⟨S4, P.give 0 y, i + 1, by first | rfl | rw [hwr], by omega, by omega, ⟨rfl⟩, H4, HR4, ⟨fun j hj z hz => ?_⟩, ⟨by rw [HN4.out, HCT.out]; omega⟩⟩
                refine (live_set (P := P) (b := false) HX4.out HO4.out z).2 ?_
                split
                · rename_i e
                  subst e
                  have h1 := (List.getElem?_inj (by have := (List.getElem?_eq_some_iff.1 hz).1; exact this) HNDL.out).1 (hz.trans HY2.out.symm)
                  omega
                · exact HLV.out j (by omega) z hz
            · have d1 : decide (i < (l.length : Int)) = false := decide_eq_false ci
              have hc0 : P.count = 0 := by rw [HCT.out]; omega
              have HC0 := Aside0.mk hc0
              clear hc0
              go_wp2_with fail
              go_roundg (5 - (k + 1)).toNat
              case measure => have := HK.out; omega
              case rel => exact ⟨S, P, k + 1, rfl, by omega, by omega, ⟨rfl⟩, HC0, HH⟩
    · have c1 : decide (k ≤ a2 % 4) = false := decide_eq_false c
      go_wp2_with fail
      go_at_call 48
      refine (count_calls _ _ _ p P HH.out.lies).mono ?_
      rintro e w3 ⟨rfl, rfl⟩
      rw [HZ.out]
      go_wp2_with fail
      go_ret
      exact ⟨rfl, HH.out.below⟩
end Go.Proofs.Ytifajoehlgdgaaa.WalkPoolAll
