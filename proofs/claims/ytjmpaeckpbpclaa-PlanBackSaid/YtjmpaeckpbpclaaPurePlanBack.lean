/- PlanBack, the plain law: any bytes make a plan that can be, which comes back from its own bytes. -/
import Derived.Test.YtjmpaeckpbpclaaPlanAgain
namespace Go.Proofs.Ytjmpaeckpbpclaa.Pure
open Go.RowKit Go.Proofs.Ytjmpaeckpbpclaa.PPlK Go.Proofs.YtjmpaeckpbpclaaW.PrintWords Go.Proofs.YtjmpaeckpbpclaaW.PrintLast Go.Proofs.Ytjmpaeckpbpclaa.PlanRead Go.Proofs.Ytjmpaeckpbpclaa.PlanPut Go.Proofs.Ytjmpaeckpbpclaa.PlanEnc Go.Proofs.Ytjmpaeckpbpclaa.PlanRight Go.Proofs.Ytjmpaeckpbpclaa.PlanAgain Go.Proofs.Ytjmpaeckpbpclaa.PlanBytesPure
set_option linter.unusedSimpArgs false

theorem bits8 (b : Bool) : 0 ≤ bitv b ∧ bitv b < 256 := by cases b <;> decide
theorem mods (a : Int) : 0 ≤ a % 256 ∧ a % 256 < 256 := ⟨Int.emod_nonneg _ (by decide), Int.emod_lt_of_pos _ (by decide)⟩
theorem in_if {P : Prop} [Decidable P] {s : List Int} {x : Int} (h : x ∈ if P then s else []) : x ∈ s := by split at h; exact h; cases h
theorem cb_in (l : List S116) : ∀ d i, ∀ x ∈ cb l i d, 0 ≤ x ∧ x < 256 := by
  intro d
  induction d with
  | zero => intro i x hx; cases hx
  | succ d ih =>
    intro i x hx
    rcases List.mem_append.1 hx with hx | hx
    · unfold caseBytes at hx
      rcases List.mem_append.1 hx with hx | hx
      · simp only [List.mem_cons, List.not_mem_nil, or_false] at hx
        rcases hx with rfl | rfl
        · exact bits8 _
        · exact mods _
      · have := in_if hx
        rw [List.mem_singleton] at this
        subst this
        exact mods _
    · exact ih _ x hx
theorem put_in (o : S39) : ∀ x ∈ putBytes o, 0 ≤ x ∧ x < 256 := by
  intro x hx
  unfold putBytes at hx
  rcases List.mem_append.1 hx with hx | hx
  · rcases List.mem_append.1 hx with hx | hx
    · rcases List.mem_append.1 hx with hx | hx
      · rcases List.mem_append.1 hx with hx | hx
        · rw [List.mem_singleton] at hx; subst hx; exact mods _
        · have := in_if hx; rw [List.mem_singleton] at this; subst this; exact mods _
      · have := in_if hx; rw [List.mem_singleton] at this; subst this; exact mods _
    · have := in_if hx; rw [List.mem_singleton] at this; subst this; exact mods _
  · rcases List.mem_append.1 (in_if hx) with hx | hx
    · simp only [List.mem_cons, List.not_mem_nil, or_false] at hx
      rcases hx with rfl | rfl
      · exact mods _
      · exact bits8 _
    · exact cb_in _ _ _ x hx
theorem plan_in (p : List (List S39)) : ∀ x ∈ planBytes p, 0 ≤ x ∧ x < 256 := by
  intro x hx
  unfold planBytes at hx
  rcases List.mem_append.1 hx with hx | hx
  · rw [List.mem_singleton] at hx; subst hx; exact mods _
  · rw [gsBytes_eq p p.length 0 (by omega)] at hx
    obtain ⟨l, _, hx⟩ := List.mem_flatMap.1 hx
    rcases List.mem_append.1 hx with hx | hx
    · rw [List.mem_singleton] at hx; subst hx; exact mods _
    · obtain ⟨o, _, hx⟩ := List.mem_flatMap.1 hx
      exact put_in o x hx
theorem rows_length (row : List S39) (hr : row.length ≤ 16) (hf : allFine row) : (rowBytes row 0 row.length).length ≤ 480 := by
  have := rowBytes_length row hf row.length 0 (by omega)
  omega
theorem gs_length (p : List (List S39)) (hp : planFine p) : ∀ d i, i + d = p.length → (gsBytes p i d).length ≤ 500 * d := by
  intro d
  induction d with
  | zero => intro i h; simp [gsBytes]
  | succ d ih =>
    intro i h
    have h1 := ih (i + 1) (by omega)
    obtain ⟨h2, h3⟩ := hp.2 i (by omega)
    have h4 := rows_length _ h2 h3
    rw [gsBytes_succ, List.length_append, List.length_append, List.length_singleton]
    omega
theorem encode_is (p : List (List S39)) (hp : planFine p) (k : Nat) (hk : 3000 ≤ k) (h1 : plan_Right.f k p = some true) : plan_Encode.f k p = some (planBytes p, 0) := by
  have h8 := hp.1
  have e1 := plan_l0 p hp p.length 0 k [(wrap64 ((p.length : Int) - 1)) % 256] (by omega) (by omega) (by rw [List.length_singleton]; omega)
  rw [Int.natCast_zero] at e1
  unfold plan_Encode.f
  rw [h1]
  simp only [Option.bind_some, if_true]
  exact e1

theorem PlanBack : handofflaw10_PlanBack.Pure := by
  intro b more hm1 _ hwf hm2 _ hwf2
  have u8 : ∀ {a : Int}, (Lit.int .u8 a).wf = true → 0 ≤ a ∧ a < 256 := by
    intro a h
    have e1 : IntKind.u8.min = 0 := rfl
    have e2 : IntKind.u8.max = 255 := rfl
    simp [Lit.wf] at h
    omega
  have hb : ∀ x ∈ b, 0 ≤ x ∧ x < 256 := fun x hx => u8 (hwf x hx)
  have hb2 : ∀ x ∈ more, 0 ≤ x ∧ x < 256 := fun x hx => u8 (hwf2 x hx)
  refine ⟨5001, ?_⟩
  unfold handofflaw10_PlanBack.f
  rw [alive _ (by omega)]
  simp only [Option.bind_some, if_true]
  by_cases c1 : (b.length : Int) > 2000
  · rw [if_pos c1, handofflaw10_PlanBack.j0, if_pos rfl]
  · rw [if_neg c1, handofflaw10_PlanBack.j0]
    by_cases c2 : (more.length : Int) > 100
    · rw [decide_eq_true c2, if_pos rfl]
    · rw [decide_eq_false c2, if_neg (by simp)]
      obtain ⟨hok, hlen⟩ := plan_made hb
      obtain ⟨p, hp⟩ : ∃ p, (rdPlan b).1 = p := ⟨_, rfl⟩
      have d1 := plan_decode hb (by omega) 5000 (by omega)
      rw [hp] at hok hlen d1
      have hfine := fine_of p hok
      have hsz : ∀ l ∈ p, l.length ≤ 16 ∧ ∀ o ∈ l, o.f4.length ≤ 6 := by
        have h := hok
        unfold okPlan at h
        simp only [Bool.and_eq_true, decide_eq_true_eq, List.all_eq_true] at h
        intro l hl
        have h1 := h.2 l hl
        simp only [okRow, Bool.and_eq_true, decide_eq_true_eq, List.all_eq_true] at h1
        exact ⟨h1.1, fun o ho => ((ok_op o).1 (h1.2 o ho)).1.2.2.2.2.2.2.2.2.1⟩
      have h8 := hfine.1
      have hsm : small p := ⟨by omega, fun l hl => ⟨by have := (hsz l hl).1; omega, fun o ho => by have := (hsz l hl).2 o ho; omega⟩⟩
      have r1 := plan_right_is p hsm 5000 (by omega)
      rw [hok] at r1
      have e1 := encode_is p hfine 5000 (by omega) r1
      have hx := plan_in p
      have hxl : (planBytes p).length ≤ 4001 := by
        have := gs_length p hfine p.length 0 (by omega)
        unfold planBytes
        rw [List.length_append, List.length_singleton]
        omega
      have d2 := plan_decode (b := planBytes p ++ more) (fun x h => by rcases List.mem_append.1 h with h | h; exact hx x h; exact hb2 x h) (by rw [List.length_append]; omega) 5000 (by omega)
      rw [plan_back p hok more] at d2
      have hup : upto (planBytes p ++ more) (planBytes p).length = ((planBytes p).length : Int) := by
        unfold upto
        rw [List.length_append]
        congr 1
        omega
      simp only [hup] at d2
      have hs := same_is p (by omega) (fun l hl => ⟨by have := (hsz l hl).1; omega, (hsz l hl).2⟩) 5000 (by omega)
      have hcl : plan_Clone.f p = some p := by
        unfold plan_Clone.f
        rw [if_pos]
        simp only [plan_Clone.ok, Bool.and_eq_true, decide_eq_true_eq, List.all_eq_true]
        exact ⟨by omega, fun l hl => ⟨by have := (hsz l hl).1; omega, fun o ho => by have := (hsz l hl).2 o ho; omega⟩⟩
      obtain ⟨n, hn⟩ : ∃ n, n = upto b (rdPlan b).2 := ⟨_, rfl⟩
      rw [← hn] at d1
      have hn1 : n ≤ (b.length : Int) := by rw [hn]; unfold upto; omega
      have hn2 : n = (b.length : Int) ∨ n = ((planBytes p).length : Int) := by rw [hn, ← hlen]; unfold upto; omega
      rw [d1]
      simp only [Option.bind_some]
      rw [e1]
      simp only [Option.bind_some, List.nil_append, List.length_nil]
      rw [if_pos (by omega), if_pos (by omega), d2]
      simp only [Option.bind_some, if_true]
      rw [r1]
      simp only [Option.bind_some, if_true]
      rw [hs]
      simp only [Option.bind_some, if_true]
      rw [if_pos hn1, hcl]
      simp only [Option.bind_some]
      rw [hs]
      simp only [Option.bind_some]
      by_cases c : n = (b.length : Int)
      · rw [if_pos c]
      · rw [if_neg c, if_pos (hn2.resolve_left c)]
end Go.Proofs.Ytjmpaeckpbpclaa.Pure
