/- How the arguments of a law read as plain lists and structures: for each kind of value, what the form's reading says of its cells. -/
import Derived.Test.YthgepdaociipmaaWWords
import Derived.Test.YthgepdaociipmaaWSized
import Derived.Deep.Slices
import Derived.ChangeSame
namespace Go.Proofs.Ythgepdaociipmaa.Open
open Go.RowKit Go.Proofs.YthgepdaociipmaaW.PrintWords
open Go.ChangeShapes Go.WideShapes

/-- What reads at type t is of kind d, and good. -/
def Opens {α : Type} (P : Program) (t : TypeId) (d : Kd α) (good : α → Prop) : Prop :=
  ∀ {H : Type} (enc : TypeId × Value → H) (W : World) (base : Nat) (spare : Nat → Bool) (held : Bool) (fuel : Nat) (cs : List Value) (y : DataW H × List MemPlace),
    DataW.trod enc P W base spare held fuel t cs = some y → ∃ x : α, d.K W x cs ∧ good x

theorem opens_int {P : Program} {t : TypeId} {k : IntKind} (ht : P.underlying t = some (.int k)) : Opens P t (Kd.int k) (fun x => (Lit.int k x).wf = true) := by
  intro H enc W base spare held fuel cs y h
  obtain ⟨n, rfl, _, hw⟩ := DataW.trod_int ht h
  exact ⟨n, rfl, hw⟩

theorem opens_bool {P : Program} {t : TypeId} (ht : P.underlying t = some .bool) : Opens P t Kd.bool (fun _ => True) := by
  intro H enc W base spare held fuel cs y h
  obtain ⟨n, rfl, _⟩ := DataW.trod_bool ht h
  exact ⟨n, rfl, trivial⟩

theorem opens_string {P : Program} {t : TypeId} (ht : P.underlying t = some .string) : Opens P t Kd.string (fun s => s.size ≤ maxLen) := by
  intro H enc W base spare held fuel cs y h
  obtain ⟨s, rfl, _, hs⟩ := DataW.trod_string ht h
  exact ⟨s, rfl, hs⟩

theorem opens_slice {α : Type} {P : Program} {t e : TypeId} {d : Kd α} {good : α → Prop} (ht : P.underlying t = some (.slice e)) (he : P.cellsOf e = d.sz) (hd : Opens P e d good) :
    Opens P t (Kd.slice e d) (fun xs => ∀ x ∈ xs, good x) := by
  intro H enc W base spare held fuel cs y h
  rcases Go.Deep.open_slice ht h with ⟨rfl, _⟩ | ⟨a, len, cap, m, n, D, Pl, rfl, hb, hl, hm, hmm, _, hel⟩
  · exact ⟨[], ⟨none, 0, rfl, Nat.le_refl _, rfl, by simp, fun hn => absurd hn (Nat.lt_irrefl _)⟩, fun x hx => by cases hx⟩
  · have hlm : len ≤ m := by rw [hmm]; split <;> omega
    have hx : ∀ i, i < len → ∃ x : α, good x ∧ ∃ cs', W.cells? base (a.add (i * P.cellsOf e)) (P.cellsOf e) = some cs' ∧ d.K W x cs' := by
      intro i hi
      obtain ⟨cs', h1, h2⟩ := hel i (by omega)
      obtain ⟨x, hk, hg⟩ := hd enc W base spare held n cs' _ h2
      exact ⟨x, hg, cs', h1, hk⟩
    by_cases h0 : len = 0
    · subst h0
      exact ⟨[], ⟨some a, cap, rfl, Nat.zero_le _, rfl, by simp, fun hn => absurd hn (Nat.lt_irrefl _)⟩, fun x hx => by cases hx⟩
    · obtain ⟨x0, _⟩ := hx 0 (by omega)
      haveI : Inhabited α := ⟨x0⟩
      obtain ⟨f, hf⟩ := Go.Deep.choose_lt (p := fun i x => good x ∧ ∃ cs', W.cells? base (a.add (i * P.cellsOf e)) (P.cellsOf e) = some cs' ∧ d.K W x cs') hx
      have hlen : ((List.range len).map f).length = len := by simp
      refine ⟨(List.range len).map f, ⟨some a, cap, by rw [hlen], by rw [hlen]; exact hl, rfl, ?_, fun _ => ⟨a, rfl, ?_⟩⟩, ?_⟩
      · rw [hlen]; unfold maxLen at hm; omega
      · intro j p hj
        have hj' : j < len := by have := (List.getElem?_eq_some_iff.1 hj).1; simpa using this
        obtain ⟨hg, cs', h1, hk⟩ := hf j hj'
        have hp : p = f j := by
          rw [List.getElem?_map, List.getElem?_range hj'] at hj
          simpa using hj.symm
        subst hp
        obtain ⟨_, hcl, hcc⟩ := World.cells?_some h1
        refine ⟨cs', d.K_len hk, hk, fun i u hu => ?_⟩
        have hi : i < cs'.length := (List.getElem?_eq_some_iff.1 hu).1
        have := hcc i (by rw [← hcl]; exact hi)
        rw [Go.Deep.add_add, he] at this
        rw [this, hu]
      · intro x hxm
        obtain ⟨i, hi, rfl⟩ := List.mem_map.1 hxm
        exact (hf i (List.mem_range.1 hi)).1

/-- Fields in line, from cell o on. -/
def OpensF {α : Type} (P : Program) (o : Nat) (fs : List Field) (d : Kd α) (good : α → Prop) : Prop :=
  ∀ {H : Type} (enc : TypeId × Value → H) (W : World) (base : Nat) (spare : Nat → Bool) (held : Bool) (fuel : Nat) (cs : List Value) (ys : List (DataW H × List MemPlace)),
    cs.length = d.sz → ys.length = fs.length → (∀ (i : Nat) (f : Field), fs[i]? = some f → DataW.trod enc P W base spare held fuel f.type ((cs.drop (f.offset - o)).take (P.cellsOf f.type)) = ys[i]?) → ∃ x : α, d.K W x cs ∧ good x

theorem opensF_one {α : Type} {P : Program} {o : Nat} {f : Field} {d : Kd α} {good : α → Prop} (ho : f.offset = o) (hc : P.cellsOf f.type = d.sz) (h : Opens P f.type d good) : OpensF P o [f] d good := by
  intro H enc W base spare held fuel cs ys hl hy hf
  have h0 := hf 0 f rfl
  match ys, hy with
  | [y], _ =>
    rw [ho, Nat.sub_self, List.drop_zero, hc, ← hl, List.take_length] at h0
    exact h enc W base spare held fuel cs y h0

theorem opensF_cons {α β : Type} {P : Program} {o : Nat} {f : Field} {fs : List Field} {d : Kd α} {d' : Kd β} {good : α → Prop} {good' : β → Prop} (ho : f.offset = o) (hc : P.cellsOf f.type = d.sz) (h : Opens P f.type d good)
    (hmono : ∀ g ∈ fs, o + d.sz ≤ g.offset) (hs : OpensF P (o + d.sz) fs d' good') : OpensF P o (f :: fs) (Kd.pair d d') (fun x => good x.1 ∧ good' x.2) := by
  intro H enc W base spare held fuel cs ys hl hy hf
  match ys, hy with
  | y :: ys, hy =>
    have hl' : cs.length = d.sz + d'.sz := hl
    have h0 := hf 0 f rfl
    rw [ho, Nat.sub_self, List.drop_zero, hc] at h0
    obtain ⟨x, hx, hg⟩ := h enc W base spare held fuel _ y h0
    obtain ⟨x', hx', hg'⟩ := hs enc W base spare held fuel (cs.drop d.sz) ys (by rw [List.length_drop]; omega) (by simpa using hy) (fun i g hi => by
      have h1 := hf (i + 1) g hi
      have hm := hmono g (List.mem_of_getElem? hi)
      rw [List.drop_drop, show d.sz + (g.offset - (o + d.sz)) = g.offset - o by omega]
      simpa using h1)
    exact ⟨(x, x'), ⟨_, _, (List.take_append_drop d.sz cs).symm, hx, hx'⟩, hg, hg'⟩

theorem opens_struct {α β : Type} {P : Program} {t : TypeId} {fs : Array Field} {d : Kd α} {good : α → Prop} (f : β → α) (g : α → β) (hfg : ∀ x, f (g x) = x) (ht : P.underlying t = some (.struct fs)) (hc : P.cellsOf t = d.sz) (h : OpensF P 0 fs.toList d good) :
    Opens P t (Kd.iso d f) (fun y => good (f y)) := by
  intro H enc W base spare held fuel cs y hy
  obtain ⟨xs, n, _, _, hl, hlen, hf⟩ := DataW.trod_struct ht hy
  obtain ⟨x, hx, hg⟩ := h enc W base spare held n cs xs (by rw [hl, hc]) (by rw [hlen]; simp) (fun i f hi => by
    rw [Nat.sub_zero]
    exact hf i f (by simpa using hi))
  exact ⟨g x, by show d.K W (f (g x)) cs; rw [hfg]; exact hx, by show good (f (g x)); rw [hfg]; exact hg⟩

/-- A slice argument. -/
theorem open_arg {α : Type} {H : Type} {enc : TypeId × Value → H} {P : Program} {W : World} {base : Nat} {spare : Nat → Bool} {held : Bool} {t e : TypeId} {d : Kd α} {good : List α → Prop} {A : Option Addr} {len cap : Nat} {x : DataW H} {ps : List MemPlace}
    (ho : Opens P t (Kd.slice e d) good) (h : DataW.Trod enc P W base spare held t (.slice A len cap) x ps) : ∃ xs : List α, len = xs.length ∧ xs.length ≤ cap ∧ Kd.C d W A xs.length xs ∧ good xs := by
  obtain ⟨fuel, hf⟩ := h
  obtain ⟨xs, ⟨A', c', he, hl, hC⟩, hg⟩ := ho enc W base spare held fuel _ _ hf
  simp [Value.cells] at he
  obtain ⟨rfl, rfl, rfl⟩ := he
  exact ⟨xs, rfl, hl, hC, hg⟩

/-- No slice is longer than its weight allows. -/
theorem sized_any {H : Type} {enc : TypeId × Value → H} {P : Program} {W : World} {base : Nat} {held : Bool} {t e : TypeId} {a : Option Addr} {len cap : Nat} {d : DataW H} {ps : List MemPlace} {ts : List TypeId} {ds : List (DataW H)} {j : Nat}
    (hsz : (DataW.weightsEach P ts ds).all (· ≤ reachBytes) = true) (ht : ts[j]? = some t) (hd : ds[j]? = some d) (hu : P.underlying t = some (.slice e)) {B : Nat} (hB : P.bytesOf e = B)
    (h : DataW.Trod enc P W base (fun _ => true) held t (.slice a len cap) d ps) : cap * B ≤ 140737488351232 := by
  obtain ⟨fuel, hf⟩ := h
  rcases Go.Deep.open_slice hu hf with ⟨hcs, _⟩ | ⟨x, l, c, m, n, D, Pl, hcs, hb, hl, _, hmm, hx, _⟩
  · simp [Value.cells] at hcs
    obtain ⟨rfl, rfl, rfl⟩ := hcs
    simp
  · simp [Value.cells] at hcs
    obtain ⟨rfl, rfl, rfl⟩ := hcs
    obtain ⟨hx, _⟩ := Prod.mk.inj hx
    subst hx
    have z := sized_slice hsz ht hd hu
    rw [hB] at z
    have e1 : m = cap := by simpa using hmm
    have h1 : ((List.range len).map D).length + ((List.range (m - len)).map fun j => D (len + j)).length = cap := by
      simp; omega
    rw [h1] at z
    exact z
end Go.Proofs.Ythgepdaociipmaa.Open
