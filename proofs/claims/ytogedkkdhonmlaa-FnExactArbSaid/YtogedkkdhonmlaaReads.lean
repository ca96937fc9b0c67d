import Derived.Test.YtogedkkdhonmlaaF0
import Derived.Deep.Slices
import Derived.Deep.Fields
import Derived.ChangeSame
import Derived.WideShapes
namespace Go.Proofs.Ytogedkkdhonmlaa.P
open Go Go.RowKit Go.Deep Go.Proofs.YtogedkkdhonmlaaW.PrintWords
set_option linter.unusedVariables false
/-! ### What is read as data is read as a kind -/
def Reads (P : Program) (t : TypeId) {α : Type} (d : Kd α) (B : α → Prop) : Prop :=
  ∀ (H : Type) (enc : TypeId × Value → H) (w : World) (base : Nat) (spare : Nat → Bool) (held : Bool) (fuel : Nat) (cs : List Value) (x : DataW H × List MemPlace), DataW.trod enc P w base spare held fuel t cs = some x → ∃ v : α, d.K w v cs ∧ B v
theorem reads_int {P : Program} {t : TypeId} {k : IntKind} (h : P.underlying t = some (.int k)) : Reads P t (Kd.int k) (fun n => (Lit.int k n).wf = true) := by
  intro H enc w base spare held fuel cs x hx
  obtain ⟨n, hc, _, hw⟩ := DataW.trod_int h hx
  exact ⟨n, hc, hw⟩
theorem reads_bool {P : Program} {t : TypeId} (h : P.underlying t = some .bool) : Reads P t Kd.bool (fun _ => True) := by
  intro H enc w base spare held fuel cs x hx
  obtain ⟨n, hc, _⟩ := DataW.trod_bool h hx
  exact ⟨n, hc, trivial⟩
theorem reads_string {P : Program} {t : TypeId} (h : P.underlying t = some .string) : Reads P t Kd.string (fun s => s.size ≤ maxLen) := by
  intro H enc w base spare held fuel cs x hx
  obtain ⟨n, hc, _, hw⟩ := DataW.trod_string h hx
  exact ⟨n, hc, hw⟩
theorem reads_slice {P : Program} {t e : TypeId} {α : Type} {d : Kd α} {B : α → Prop} (h : P.underlying t = some (.slice e)) (hc : P.cellsOf e = d.sz) (hd : Reads P e d B) : Reads P t (Kd.slice e d) (fun xs => xs.length ≤ maxLen ∧ ∀ x ∈ xs, B x) := by
  intro H enc w base spare held fuel cs x hx
  rcases open_slice h hx with ⟨rfl, _⟩ | ⟨a, len, cap, m, n, D, Pl, rfl, _, hl, hm, hmm, _, hi⟩
  · exact ⟨[], ⟨none, 0, rfl, Nat.le_refl _, rfl, by simp, fun h => absurd h (by simp)⟩, by simp [maxLen], fun x hx => by cases hx⟩
  · have hlm : len ≤ m := by rw [hmm]; split <;> omega
    have key : ∀ i : Fin len, ∃ v : α, B v ∧ ∃ c, c.length = d.sz ∧ d.K w v c ∧ ∀ j u, c[j]? = some u → w.cell? (a.add (i.val * d.sz + j)) = some u := by
      intro i
      obtain ⟨cs', h1, h2⟩ := hi i.val (by omega)
      obtain ⟨v, hk, hb⟩ := hd H enc w base spare held n cs' _ h2
      obtain ⟨_, hcl, hat⟩ := World.cells?_some h1
      refine ⟨v, hb, cs', d.K_len hk, hk, fun j u hj => ?_⟩
      have hjl : j < cs'.length := (List.getElem?_eq_some_iff.1 hj).1
      have := hat j (by omega)
      rw [← hc, ← Go.Deep.add_add, this, hj]
    have hv : ∃ f : Fin len → α, ∀ i, B (f i) ∧ ∃ c, c.length = d.sz ∧ d.K w (f i) c ∧ ∀ j u, c[j]? = some u → w.cell? (a.add (i.val * d.sz + j)) = some u := ⟨fun i => (key i).choose, fun i => (key i).choose_spec⟩
    obtain ⟨f, hf⟩ := hv
    have hml : len ≤ 9223372036854775807 := by simp only [maxLen] at hm; omega
    refine ⟨List.ofFn f, ⟨some a, cap, by rw [List.length_ofFn], by rw [List.length_ofFn]; exact hl, rfl, by rw [List.length_ofFn]; exact hml, fun _ => ⟨a, rfl, fun j p hj => ?_⟩⟩, by rw [List.length_ofFn]; omega, fun x hx => ?_⟩
    · obtain ⟨hjl, rfl⟩ := List.getElem?_eq_some_iff.1 hj
      rw [List.length_ofFn] at hjl
      rw [List.getElem_ofFn]
      obtain ⟨_, c, h1, h2, h3⟩ := hf ⟨j, hjl⟩
      exact ⟨c, h1, h2, h3⟩
    · obtain ⟨i, rfl⟩ := (List.mem_ofFn).1 hx
      exact (hf i).1
/-- Fields that lie one behind the other, from place o on. -/
def ReadsFields (P : Program) (fs : List Field) (o : Nat) {α : Type} (d : Kd α) (B : α → Prop) : Prop :=
  ∀ (H : Type) (enc : TypeId × Value → H) (w : World) (base : Nat) (spare : Nat → Bool) (held : Bool) (fuel : Nat) (cs : List Value), cs.length = o + d.sz →
    (∀ f ∈ fs, ∃ x, DataW.trod enc P w base spare held fuel f.type ((cs.drop f.offset).take (P.cellsOf f.type)) = some x) → ∃ v : α, d.K w v (cs.drop o) ∧ B v
theorem rf_last {P : Program} {f : Field} {o : Nat} {α : Type} {d : Kd α} {B : α → Prop} (ho : f.offset = o) (hc : P.cellsOf f.type = d.sz) (hd : Reads P f.type d B) : ReadsFields P [f] o d B := by
  intro H enc w base spare held fuel cs hl hf
  obtain ⟨x, hx⟩ := hf f (by simp)
  rw [ho, hc, List.take_of_length_le (by rw [List.length_drop]; omega)] at hx
  exact hd H enc w base spare held fuel _ _ hx
theorem rf_cons {P : Program} {f : Field} {fs : List Field} {o : Nat} {α β : Type} {a : Kd α} {b : Kd β} {A : α → Prop} {B : β → Prop} (ho : f.offset = o) (hc : P.cellsOf f.type = a.sz) (ha : Reads P f.type a A) (hb : ReadsFields P fs (o + a.sz) b B) :
    ReadsFields P (f :: fs) o (Kd.pair a b) (fun x => A x.1 ∧ B x.2) := by
  intro H enc w base spare held fuel cs hl hf
  have hl' : cs.length = o + (a.sz + b.sz) := hl
  obtain ⟨x, hx⟩ := hf f List.mem_cons_self
  rw [ho, hc] at hx
  obtain ⟨v, hv, hA⟩ := ha H enc w base spare held fuel _ _ hx
  obtain ⟨u, hu, hB⟩ := hb H enc w base spare held fuel cs (by omega) (fun g hg => hf g (List.mem_cons_of_mem _ hg))
  refine ⟨(v, u), ⟨(cs.drop o).take a.sz, cs.drop (o + a.sz), ?_, hv, hu⟩, hA, hB⟩
  rw [← List.drop_drop, List.take_append_drop]
theorem reads_struct {P : Program} {t : TypeId} {fs : Array Field} {α β : Type} {d : Kd α} {B : α → Prop} (f : β → α) (g : α → β) (hfg : ∀ x, f (g x) = x) (h : P.underlying t = some (.struct fs)) (hc : P.cellsOf t = d.sz) (hr : ReadsFields P fs.toList 0 d B) : Reads P t (Kd.iso d f) (fun x => B (f x)) := by
  intro H enc w base spare held fuel cs x hx
  obtain ⟨xs, n, _, _, hl, hxl, hg⟩ := DataW.trod_struct h hx
  obtain ⟨v, hv, hB⟩ := hr H enc w base spare held n cs (by rw [hl, hc]; omega) (fun fd hfd => by
    obtain ⟨i, hi, rfl⟩ := List.getElem_of_mem hfd
    have hi' : i < fs.size := by simpa using hi
    have := hg i fs[i] (by rw [Array.getElem?_eq_getElem hi'])
    rw [List.getElem?_eq_getElem (show i < xs.length by omega)] at this
    rw [Array.getElem_toList]
    exact ⟨_, this⟩)
  refine ⟨g v, ?_, by show B (f (g v)); rw [hfg]; exact hB⟩
  show d.K w (f (g v)) cs
  rw [hfg]
  exact hv
end Go.Proofs.Ytogedkkdhonmlaa.P
