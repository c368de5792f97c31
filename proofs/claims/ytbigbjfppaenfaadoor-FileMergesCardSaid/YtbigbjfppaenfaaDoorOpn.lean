/- What reads at a type is of a kind: the inputs opened, type by type, with the form's reach. -/
import Derived.Test.YtbigbjfppaenfaaDoorWWords
import Derived.ChangeArms
import Derived.DataElems
import Derived.Deep.Slices
import Derived.SizedLaws
namespace Go.Proofs.YtbigbjfppaenfaaDoorOpn
open Go.RowKit Go.Proofs.YtbigbjfppaenfaaDoorW.PrintWords
set_option linter.unusedVariables false
/-- whatever reads at 't' has cells of the kind 'k', and what they say has 'q' -/
structure Opens {α : Type} (P : Program) (t : TypeId) (k : Kd α) (q : α → Prop) : Prop where
  out : ∀ (H : Type) (enc : TypeId × Value → H) (w : World) (base : Nat) (spare : Nat → Bool) (held : Bool) (fuel : Nat) (cs : List Value) (x : DataW H × List MemPlace), DataW.trod enc P w base spare held fuel t cs = some x → (∀ n ∈ x.1.weights P t, n ≤ reachBytes) → ∃ a, k.K w a cs ∧ q a
/-- the same of fields that lie one behind the other from 'off' on -/
structure OpensF {α : Type} (P : Program) (fs : List Field) (off : Nat) (k : Kd α) (q : α → Prop) : Prop where
  out : ∀ (H : Type) (enc : TypeId × Value → H) (w : World) (base : Nat) (spare : Nat → Bool) (held : Bool) (n : Nat) (cs : List Value), cs.length = off + k.sz → (∀ f, f ∈ fs → ∃ y, DataW.trod enc P w base spare held n f.type ((cs.drop f.offset).take (P.cellsOf f.type)) = some y ∧ ∀ n ∈ y.1.weights P f.type, n ≤ reachBytes) → ∃ a, k.K w a (cs.drop off) ∧ q a
variable {P : Program} {t e : TypeId} {α β : Type} {k : Kd α} {q : α → Prop} {k2 : Kd β} {q2 : β → Prop}
theorem opens_int {i : IntKind} (ht : P.underlying t = some (.int i)) : Opens P t (Kd.int i) (fun n => (Lit.int i n).wf = true) := by
  refine ⟨fun H enc w base spare held fuel cs x h hwt => ?_⟩
  obtain ⟨n, rfl, _, hw⟩ := DataW.trod_int ht h
  exact ⟨n, rfl, hw⟩
theorem opens_bool (ht : P.underlying t = some .bool) : Opens P t Kd.bool (fun _ => True) := by
  refine ⟨fun H enc w base spare held fuel cs x h hwt => ?_⟩
  obtain ⟨b, rfl, _⟩ := DataW.trod_bool ht h
  exact ⟨b, rfl, trivial⟩
theorem opens_string (ht : P.underlying t = some .string) : Opens P t Kd.string (fun s => s.size ≤ reachBytes) := by
  refine ⟨fun H enc w base spare held fuel cs x h hwt => ?_⟩
  obtain ⟨s, rfl, rfl, hs⟩ := DataW.trod_string ht h
  have h1 := hwt s.data.toList.length (by simp [DataW.weights])
  have e : s.data.toList.length = s.size := Array.length_toList
  exact ⟨s, rfl, by rw [← e]; exact h1⟩
theorem weightsAll_mem {H : Type} {P : Program} {e : TypeId} : ∀ {ds : List (DataW H)} {d : DataW H}, d ∈ ds → ∀ n ∈ d.weights P e, n ∈ DataW.weightsAll P e ds := by
  intro ds
  induction ds with
  | nil => intro d h; cases h
  | cons d0 ds ih =>
    intro d h n hn
    simp only [DataW.weightsAll, List.mem_append]
    rcases List.mem_cons.1 h with rfl | h
    · exact .inl hn
    · exact .inr (ih h n hn)
theorem mapM_cells {w : World} {a : Addr} {n : Nat} {cs : List Value} (h : (List.range n).mapM (fun i => w.cell? (a.add i)) = some cs) : cs.length = n ∧ ∀ i u, cs[i]? = some u → w.cell? (a.add i) = some u := by
  have hl := mapM_some_length h
  refine ⟨by simpa using hl, fun i u hu => ?_⟩
  have hi : i < n := by
    have := (List.getElem?_eq_some_iff.1 hu).1
    simp at hl
    omega
  have := mapM_some_get h i i (by simp [hi])
  rw [this, hu]
theorem opens_slice (ht : P.underlying t = some (.slice e)) (he : Opens P e k q) (hs : P.cellsOf e = k.sz) : Opens P t (Kd.slice e k) (fun xs => xs.length * P.bytesOf e ≤ reachBytes ∧ ∀ x, x ∈ xs → q x) := by
  refine ⟨fun H enc w base spare held fuel cs x h hwt => ?_⟩
  rcases DataW.trod_slice ht h with ⟨rfl, _⟩ | ⟨a, len, cap, elems, rest, n, _, rfl, rfl, _, hl, hm, hlen, hget, _⟩
  · exact ⟨[], ⟨none, 0, rfl, Nat.le_refl _, rfl, Nat.zero_le _, fun h => absurd h (Nat.lt_irrefl _)⟩, by simp, fun x hx => by cases hx⟩
  · have hwl : (elems.length + rest.length) * P.bytesOf e ≤ reachBytes := hwt _ (by simp [DataW.weights, ht])
    have hwe : ∀ y, y ∈ elems → ∀ n ∈ y.1.weights P e, n ≤ reachBytes := by
      intro y hy n hn
      refine hwt n ?_
      simp only [DataW.weights, ht, List.mem_cons, List.mem_append]
      exact .inr (.inl (weightsAll_mem (List.mem_map_of_mem hy) n hn))
    have hx : ∀ i, i < len → ∃ y : α × List Value, k.K w y.1 y.2 ∧ q y.1 ∧ y.2.length = k.sz ∧ ∀ j u, y.2[j]? = some u → w.cell? (a.add (i * k.sz + j)) = some u := by
      intro i hi
      have h1 := hget i hi
      rw [List.getElem?_eq_getElem (by omega : i < elems.length)] at h1
      obtain ⟨cs', h2, h3⟩ := Option.bind_eq_some_iff.1 h1
      obtain ⟨y, hy, hq⟩ := he.out _ _ _ _ _ _ _ _ _ h3 (hwe _ (List.getElem_mem (by omega)))
      unfold World.cells? at h2
      split at h2
      · obtain ⟨h4, h5⟩ := mapM_cells h2
        rw [hs] at h4 h5
        exact ⟨(y, cs'), hy, hq, h4, fun j u hj => by rw [← Addr.add_add]; exact h5 j u hj⟩
      · cases h2
    by_cases h0 : 0 < len
    case neg =>
      obtain rfl : len = 0 := by omega
      exact ⟨[], ⟨some a, cap, rfl, Nat.zero_le _, rfl, Nat.zero_le _, fun h => absurd h (Nat.lt_irrefl _)⟩, by simp, fun x hx => by cases hx⟩
    have hc : ∃ f : Nat → α × List Value, ∀ i, i < len → k.K w (f i).1 (f i).2 ∧ q (f i).1 ∧ (f i).2.length = k.sz ∧ ∀ j u, (f i).2[j]? = some u → w.cell? (a.add (i * k.sz + j)) = some u := by
      obtain ⟨y0, _⟩ := hx 0 h0
      refine ⟨fun i => if h : i < len then (hx i h).choose else y0, fun i hi => ?_⟩
      simp only [dif_pos hi]
      exact (hx i hi).choose_spec
    obtain ⟨f, hf⟩ := hc
    refine ⟨(List.range len).map (fun i => (f i).1), ⟨some a, cap, by simp, by simpa using hl, by simp, ?_, fun _ => ⟨a, rfl, fun j p hp => ?_⟩⟩, by simp; exact Nat.le_trans (Nat.mul_le_mul_right _ (by omega)) hwl, fun x hx => ?_⟩
    · simp
      have : maxLen ≤ 9223372036854775807 := by decide
      omega
    · rw [List.getElem?_map] at hp
      obtain ⟨j', hj, rfl⟩ := Option.map_eq_some_iff.1 hp
      have hj2 : j < len := by
        have := (List.getElem?_eq_some_iff.1 hj).1
        simpa using this
      obtain rfl : j = j' := by simpa [List.getElem?_range hj2] using hj
      obtain ⟨h1, h2, h3, h4⟩ := hf j hj2
      exact ⟨(f j).2, h3, h1, h4⟩
    · obtain ⟨i, hi, rfl⟩ := List.mem_map.1 hx
      exact (hf i (by simpa using hi)).2.1
theorem opensF_one {f : Field} {off : Nat} (h : Opens P f.type k q) (ho : f.offset = off) (hs : P.cellsOf f.type = k.sz) : OpensF P [f] off k q := by
  refine ⟨fun H enc w base spare held n cs hl hf => ?_⟩
  obtain ⟨y, hy, hwy⟩ := hf f (List.mem_singleton.2 rfl)
  obtain ⟨a, ha, hq⟩ := h.out _ _ _ _ _ _ _ _ _ hy hwy
  rw [ho, hs, List.take_of_length_le (by simp; omega)] at ha
  exact ⟨a, ha, hq⟩
theorem opensF_cons {f : Field} {fs : List Field} {off : Nat} (h : Opens P f.type k q) (ho : f.offset = off) (hs : P.cellsOf f.type = k.sz) (hr : OpensF P fs (off + k.sz) k2 q2) : OpensF P (f :: fs) off (Kd.pair k k2) (fun x => q x.1 ∧ q2 x.2) := by
  refine ⟨fun H enc w base spare held n cs hl hf => ?_⟩
  obtain ⟨y, hy, hwy⟩ := hf f (List.mem_cons_self ..)
  obtain ⟨a, ha, hq⟩ := h.out _ _ _ _ _ _ _ _ _ hy hwy
  rw [ho, hs] at ha
  obtain ⟨b, hb, hq2⟩ := hr.out H enc w base spare held n cs (by rw [hl]; show off + (k.sz + k2.sz) = _; omega) (fun f hf' => hf f (List.mem_cons_of_mem _ hf'))
  refine ⟨(a, b), ⟨_, _, ?_, ha, hb⟩, hq, hq2⟩
  rw [← List.drop_drop, List.take_append_drop]
theorem opens_struct {fs : Array Field} (ht : P.underlying t = some (.struct fs)) (hf : OpensF P fs.toList 0 k q) (hs : P.cellsOf t = k.sz) : Opens P t k q := by
  refine ⟨fun H enc w base spare held fuel cs x h hwt => ?_⟩
  obtain ⟨xs, n, _, rfl, hl, hlen, hx⟩ := DataW.trod_struct ht h
  obtain ⟨a, ha, hq⟩ := hf.out H enc w base spare held n cs (by omega) (fun f hm => by
    obtain ⟨i, hi, hg⟩ := List.getElem_of_mem hm
    have h0 : fs[i]? = some f := by rw [← hg]; simp at hi ⊢
    have h1 := hx i f h0
    have hi2 : i < xs.length := by simp at hi; omega
    rw [List.getElem?_eq_getElem hi2] at h1
    refine ⟨_, h1, fun n hn => hwt n ?_⟩
    simp only [DataW.weights, ht]
    exact DataW.weights_mem_each (j := i) (t := f.type) (d := (xs[i]).1) (by rw [List.getElem?_map, Array.getElem?_toList, h0]; rfl) (by rw [List.getElem?_map, List.getElem?_eq_getElem hi2]; rfl) n hn)
  exact ⟨a, by simpa using ha, hq⟩
theorem opens_iso {γ : Type} (h : Opens P t k q) (f : γ → α) (g : α → γ) (hf : ∀ a, f (g a) = a) : Opens P t (Kd.iso k f) (fun x => q (f x)) := by
  refine ⟨fun H enc w base spare held fuel cs x hx hw => ?_⟩
  obtain ⟨a, ha, hq⟩ := h.out _ _ _ _ _ _ _ _ _ hx hw
  refine ⟨g a, ?_, ?_⟩
  · show k.K w (f (g a)) cs
    rw [hf]; exact ha
  · show q (f (g a))
    rw [hf]; exact hq
end Go.Proofs.YtbigbjfppaenfaaDoorOpn
