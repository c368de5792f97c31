/- slices.Reverse at a row of the call's own settings. -/
import Derived.Shelf.SlicesQ.Reverse
import Derived.Test.YtbigbjfppaenfaaDoorProg
import Derived.Test.YtbigbjfppaenfaaDoorFileT
namespace Go.Proofs
open Go.Shelf
def Tryd.reverse37_ren : Go.Shelf.Ren := ⟨fun | 35 => 28 | n => n, fun | 22 => 23 | 23 => 37 | 3 => 3 | 4 => 4 | 0 => 0 | n => n, fun | n => n⟩
theorem Tryd.reverse37 : Go.Proofs.SlLaysE0.n35 Tryd.prog Tryd.reverse37_ren := {
  mixed := by kernel_rfl
  f35 := ⟨Tryd.f28.name, by decide, Tryd.func28.trans (congrArg some (by kernel_rfl))⟩
  t0 := Tryd.underlying0
  a0 := Tryd.isAgg0
  z0 := Tryd.sizeOf0
  v0 := Tryd.zeroValue0
  t3 := Tryd.underlying3
  a3 := Tryd.isAgg3
  z3 := Tryd.sizeOf3
  v3 := Tryd.zeroValue3
  t4 := Tryd.underlying4
  a4 := Tryd.isAgg4
  z4 := Tryd.sizeOf4
  v4 := Tryd.zeroValue4
  t22 := Tryd.underlying23
  a22 := Tryd.isAgg23
  z22 := Tryd.sizeOf23
  v22 := Tryd.zeroValue23 }
end Go.Proofs
namespace Go.Proofs.YtbigbjfppaenfaaDoor.Lines
open Go.RowKit Go.Shelf Go.Sort Go.Proofs.YtbigbjfppaenfaaDoorW.PrintWords Go.Proofs.YtbigbjfppaenfaaDoorW.PrintLast
set_option linter.unusedVariables false
def cells37 (x : S37) : List Value := [.string x.f0, .string x.f1, .string x.f2, .int .i64 x.f3]
theorem flatMap_get {α : Type} (k : Nat) (enc : α → List Value) (hk : ∀ x, (enc x).length = k) : ∀ (l : List α) (i c : Nat) (x : α), l[i]? = some x → c < k → (l.flatMap enc)[i * k + c]? = (enc x)[c]? := by
  intro l
  induction l with
  | nil => intro i c x h; simp at h
  | cons b l ih =>
    intro i c x h hc
    rw [List.flatMap_cons]
    cases i with
    | zero =>
      obtain rfl : b = x := by simpa using h
      rw [Nat.zero_mul, Nat.zero_add, List.getElem?_append_left (by rw [hk]; exact hc)]
    | succ i =>
      have h2 := ih i c x (by simpa using h) hc
      have e : (i + 1) * k + c = i * k + c + k := by rw [Nat.add_mul, Nat.one_mul]; omega
      rw [List.getElem?_append_right (by rw [hk, e]; omega), hk, e, Nat.add_sub_cancel]
      exact h2
theorem flatMap_len {α : Type} (k : Nat) (enc : α → List Value) (hk : ∀ x, (enc x).length = k) : ∀ l : List α, (l.flatMap enc).length = l.length * k := by
  intro l
  induction l with
  | nil => simp
  | cons b l ih => rw [List.flatMap_cons, List.length_append, hk, ih, List.length_cons, Nat.add_mul, Nat.one_mul, Nat.add_comm]
theorem flatK_list {α : Type} [Inhabited α] (k : Nat) (h0 : 0 < k) (enc : α → List Value) (hk : ∀ x, (enc x).length = k) (l : List α) : (flatK enc k l.toArray).toList = l.flatMap enc := by
  apply List.ext_getElem?
  intro j
  by_cases hj : j < l.length * k
  · have hd : j / k < l.length := Nat.div_lt_of_lt_mul (by rw [Nat.mul_comm]; exact hj)
    obtain ⟨x, hx⟩ : ∃ x, l[j / k]? = some x := ⟨_, List.getElem?_eq_getElem hd⟩
    have hm : j % k < k := Nat.mod_lt _ h0
    have e : j / k * k + j % k = j := by rw [Nat.mul_comm]; exact Nat.div_add_mod j k
    have h1 := flatMap_get k enc hk l (j / k) (j % k) x hx hm
    rw [e] at h1
    have h2 := get_flatK enc k l.toArray j (by simpa using hj)
    have hlt : j < (flatK enc k l.toArray).size := by simpa using hj
    rw [getElem!_pos _ j hlt] at h2
    have h3 : l.toArray[j / k]! = x := by
      rw [getElem!_pos _ _ (by simpa using hd)]
      have := (List.getElem?_eq_some_iff.1 hx).2
      simpa using this
    rw [h3] at h2
    have h4 : j % k < (enc x).length := by rw [hk]; exact hm
    rw [getElem!_pos (enc x) (j % k) h4] at h2
    rw [h1, List.getElem?_eq_getElem h4, Array.getElem?_toList, Array.getElem?_eq_getElem hlt, h2]
  · rw [List.getElem?_eq_none (by simpa using hj), List.getElem?_eq_none (by rw [flatMap_len k enc hk]; omega)]
theorem putRow_block {w : World} {g n : Nat} {cur : Array Value} {e : TypeId} {fr : Nat × Nat} (F : Array Value) (hb : w.heap[g]? = some (.cells cur e fr)) :
    (putRow id (Sort.ahead w n) g 0 F).heap[g]? = some (.cells (putCells id 0 F cur) e fr) := by
  simp [putRow, mapBlock, Sort.ahead, Array.getElem?_modify, hb, onCells]
theorem putRow_grown {w : World} {g n : Nat} (F : Array Value) : w.grownBy (putRow id (Sort.ahead w n) g 0 F) (some g) := by
  refine ⟨rfl, rfl, rfl, by simp [putRow, mapBlock, Sort.ahead], fun k hk hne => ?_⟩
  have : g ≠ k := fun e => hne (by rw [e])
  simp [putRow, mapBlock, Sort.ahead, Array.getElem?_modify, this]
theorem take_put (cur F : Array Value) (h : F.size ≤ cur.size) : (putCells id 0 F cur).toList.take F.size = F.toList := by
  apply List.ext_getElem?
  intro j
  by_cases hj : j < F.size
  · rw [List.getElem?_take_of_lt hj, Array.getElem?_toList]
    simp [putCells, hj, show j < cur.size by omega]
  · rw [List.getElem?_take_eq_none (by omega), List.getElem?_eq_none (by simp; omega)]
instance : Inhabited S37 := ⟨z37⟩
theorem cells37_len (x : S37) : (cells37 x).length = 4 := rfl
theorem cells37_one (x : S37) : ∀ v, v ∈ cells37 x → v.oneCell' = true := fun v hv => by
  simp only [cells37, List.mem_cons, List.not_mem_nil, or_false] at hv
  rcases hv with rfl | rfl | rfl | rfl <;> rfl
theorem reverse_calls {W : World} {N : Nat} {v : Value} {xs : List S37} (h : W.ownsRow N 37 4 v xs.length (xs.flatMap cells37)) :
    Calls Tryd.prog 28 #[v] W fun e W' => e = .returned (.tuple #[]) ∧ W'.ownsRow N 37 4 v xs.length (xs.reverse.flatMap cells37) ∧ W.grownBy W' v.ownBlock := by
  rcases h.2 with ⟨rfl, h0⟩ | ⟨g, cap, cur, rfl, hbase, hb, h1, h2, h3, h4⟩
  · have hx : xs = [] := List.length_eq_zero_iff.1 h0
    subst hx
    refine (AnyQ.slices_Reverse_empty Tryd.reverse37 none 0 W).mono ?_
    rintro e W' ⟨rfl, rfl⟩
    exact ⟨rfl, World.ownsRow_nil .., ⟨rfl, rfl, rfl, Nat.le_refl _, fun _ _ _ => rfl⟩⟩
  · have hF := flatK_list 4 (by decide) cells37 cells37_len
    have hH : HoldsK cells37 4 W g 0 xs.toArray := by
      intro j hj
      have hj' : j < xs.length * 4 := by simpa using hj
      refine ⟨?_, by simp [World.frozen?, hb]⟩
      have hcur : cur[j]? = some (flatK cells37 4 xs.toArray)[j]! := by
        rw [getElem!_pos _ j hj]
        have e1 : (cur.toList.take (xs.length * 4))[j]? = (xs.flatMap cells37)[j]? := by rw [h4]
        rw [List.getElem?_take_of_lt hj', ← hF xs, Array.getElem?_toList, Array.getElem?_toList, Array.getElem?_eq_getElem hj] at e1
        exact e1
      simp only [World.cell?, hb, Nat.zero_add, Option.isSome_none, Bool.false_eq_true, if_false]
      rw [hcur]
      rfl
    have hm : maxLen ≤ 9223372036854775807 := by decide
    have hc := AnyQ.slices_Reverse Tryd.reverse37 4 Tryd.isAgg37 Tryd.sizeOf37 cells37 cells37_len cells37_one g 0 cap xs.toArray W hH (by simp; omega)
    have hs : xs.toArray.size = xs.length := by simp
    rw [hs] at hc
    refine (show Calls Tryd.prog 28 #[.slice (some ⟨g, 0, none⟩) xs.length cap] W (fun e w' => e = .returned (.tuple #[]) ∧ ∃ n, w' = putRowK cells37 4 (Sort.ahead W n) g 0 xs.toArray.reverse) from hc).mono ?_
    rintro e W' ⟨rfl, q, rfl⟩
    have hsz : (flatK cells37 4 xs.toArray.reverse).size = xs.length * 4 := by simp
    have hFr : (flatK cells37 4 xs.toArray.reverse).toList = xs.reverse.flatMap cells37 := by
      have := hF xs.reverse
      rwa [← List.reverse_toArray] at this
    refine ⟨rfl, ⟨by rw [flatMap_len 4 cells37 cells37_len, List.length_reverse], .inr ⟨g, cap, _, rfl, hbase, putRow_block _ hb, h1, h2, by simp [putCells, h3], ?_⟩⟩, putRow_grown _⟩
    have := take_put cur (flatK cells37 4 xs.toArray.reverse) (by rw [hsz, h3]; exact Nat.mul_le_mul_right 4 h1)
    rw [hsz, hFr] at this
    exact this
end Go.Proofs.YtbigbjfppaenfaaDoor.Lines
