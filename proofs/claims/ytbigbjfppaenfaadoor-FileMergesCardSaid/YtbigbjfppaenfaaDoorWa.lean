/- A set of settings' keys; a row laid behind an own row; slices.Backward over settings, walked. -/
import Derived.Test.YtbigbjfppaenfaaDoorMOf
import Derived.Test.YtbigbjfppaenfaaDoorMg
import Derived.Test.YtbigbjfppaenfaaDoorRev
import Derived.Test.YtbigbjfppaenfaaDoorEvZ
import Derived.DeepKeys4
import Derived.Maps.OwnIn
import Derived.Maps.AppendAt
namespace Go.Proofs.YtbigbjfppaenfaaDoor.Lines
open Go.RowKit Go.Shelf Go.WideMaps Go.Proofs.YtbigbjfppaenfaaDoorW.PrintWords Go.Proofs.YtbigbjfppaenfaaDoorW.PrintLast
attribute [local go_sem] Oper.semAt_some
set_option linter.unusedVariables false
set_option linter.unusedSimpArgs false
/-! #### keys -/
theorem laidOut : laidOutB Tryd.prog = true := by kernel_rfl
theorem row69 : (69 : TypeId) < Tryd.prog.types.size := of_decide_eq_true (by kernel_rfl)
theorem wide69 : (match Tryd.prog.underlying 69 with | some (.array _ _) | some (.struct _) => true | _ => false) = true := by rw [Tryd.underlying69]
set_option maxRecDepth 100000 in
theorem law69 : KeyLaw Tryd.prog 69 := deep_law_laid laidOut (m := 2) (by omega) row69 (by kernel_rfl) wide69
theorem keyed69 : Maps.Keyed Tryd.prog 69 := Maps.Keyed.of_law law69
theorem ktype69 : Tryd.prog.keyType 69 = true := by kernel_rfl
theorem cells69 : Tryd.prog.cellsOf 69 = 2 := by kernel_rfl
theorem cells9 : Tryd.prog.cellsOf 9 = 1 := by kernel_rfl
def kl69 (a b : ByteArray) : Lit := .string (keyBytes [.string a.data.toList, .string b.data.toList])
theorem key69 {a b : ByteArray} (ha : a.size ≤ maxLen) (hb : b.size ≤ maxLen) : keyOf Tryd.prog 69 (.agg #[.string a, .string b]) = some (kl69 a b) := by
  obtain ⟨m, hm⟩ : ∃ m, Tryd.prog.types.size = m + 1 := ⟨Tryd.prog.types.size - 1, by have : (69 : Nat) < Tryd.prog.types.size := row69; omega⟩
  unfold keyOf
  simp only [Tryd.underlying69]
  rw [if_pos (by simp [ktype69, Value.formed, Tryd.underlying69, cells69]), hm]
  unfold Program.keyLits
  simp only [Tryd.underlying69, Value.cells]
  rw [if_pos (by rw [cells69]; simp)]
  simp [List.mapM_cons, cells9, Program.keyLits, Tryd.underlying9, ha, hb, kl69]
theorem kl69_key (a b : ByteArray) : WideAt.IsKeyLit (kl69 a b) := trivial
/-- a text that a key can be made of -/
def Short37 (s : S37) : Prop := s.f0.size ≤ maxLen ∧ s.f1.size ≤ maxLen
theorem ba_eq_list {a b : ByteArray} (h : a.data.toList = b.data.toList) : a = b := by
  apply ByteArray.ext
  exact Array.toList_inj.1 h
theorem toList_data (a : ByteArray) : a.toList = a.data.toList := by
  first | exact ByteArray.toList_eq a | exact ByteArray.data_toList.symm | simp
theorem kl69_same {s t : S37} (hs : Short37 s) (ht : Short37 t) : (kl69 s.f0 s.f1).sameKey (kl69 t.f0 t.f1) = sameK s t := by
  have e : ((kl69 s.f0 s.f1).sameKey (kl69 t.f0 t.f1) = true) ↔ s.f0 = t.f0 ∧ s.f1 = t.f1 := by
    constructor
    · intro h
      have h2 := WideAt.sameKey_eq h
      have h3 := key69 ht.1 ht.2
      rw [← h2] at h3
      have := keyed69.inj (key69 hs.1 hs.2) h3
      simpa using this
    · rintro ⟨h0, h1⟩
      rw [h0, h1]
      simp [kl69, Lit.sameKey]
  rw [Bool.eq_iff_iff, e]
  simp only [sameK, Bool.and_eq_true, decide_eq_true_eq]
  constructor
  · rintro ⟨h0, h1⟩
    exact ⟨by rw [h0], by rw [h1]⟩
  · rintro ⟨h0, h1⟩
    rw [toList_data, toList_data] at h0 h1
    exact ⟨ba_eq_list h0, ba_eq_list h1⟩
/-- the set of what is gone -/
def goneD (g : List S37) : DataW Unit := Maps.setOf (.agg []) (g.reverse.map (fun s => kl69 s.f0 s.f1))
theorem goneD_nil : goneD [] = .map [] := rfl
theorem goneD_cons (t : S37) (g : List S37) : goneD (t :: g) = (goneD g).put (kl69 t.f0 t.f1) (.agg []) := by
  simp only [goneD, List.reverse_cons, List.map_append, List.map_cons, List.map_nil]
  exact Maps.setOf_snoc _ _ _
theorem goneD_has {g : List S37} {t : S37} (hg : ∀ s ∈ g, Short37 s) (ht : Short37 t) : Maps.has (goneD g) (kl69 t.f0 t.f1) = g.any (fun s => sameK t s) := by
  rw [goneD, Maps.has_setOf _ _ _ (by intro x hx; obtain ⟨s, _, rfl⟩ := List.mem_map.1 hx; exact kl69_key _ _), List.any_map, List.any_reverse, Bool.eq_iff_iff, List.any_eq_true, List.any_eq_true]
  constructor
  · rintro ⟨s, hs, h⟩
    refine ⟨s, hs, ?_⟩
    have := kl69_same (hg s hs) ht
    simp only [Function.comp] at h
    rw [h] at this
    simp only [sameK, Bool.and_eq_true, decide_eq_true_eq] at this ⊢
    have h2 := this.symm
    simp only [Bool.and_eq_true, decide_eq_true_eq] at h2
    exact ⟨h2.1.symm, h2.2.symm⟩
  · rintro ⟨s, hs, h⟩
    refine ⟨s, hs, ?_⟩
    simp only [Function.comp]
    rw [kl69_same (hg s hs) ht]
    simp only [sameK, Bool.and_eq_true, decide_eq_true_eq] at h ⊢
    exact ⟨h.1.symm, h.2.symm⟩
/-- one setting of the walk backward -/
def bstep (st : List S37 × List S37) (t : S37) : List S37 × List S37 :=
  if empK t then (t :: st.1, st.2) else if st.1.any (fun x => sameK t x) then st else (st.1, st.2 ++ [t])
theorem bkw_bstep : ∀ (ys : List S37) (g out : List S37), bkw g ys out = (ys.foldl bstep (g, out)).2 := by
  intro ys
  induction ys with
  | nil => intro g out; rfl
  | cons t ys ih =>
    intro g out
    rw [bkw, List.foldl_cons, bstep]
    dsimp only
    split
    · exact ih _ _
    · split
      · exact ih _ _
      · exact ih _ _
theorem bstep_mem {t : S37} {st : List S37 × List S37} {s : S37} (h : s ∈ (bstep st t).1 ∨ s ∈ (bstep st t).2) : s = t ∨ s ∈ st.1 ∨ s ∈ st.2 := by
  unfold bstep at h
  split at h
  · rcases h with h | h
    · rcases List.mem_cons.1 h with h | h
      · exact .inl h
      · exact .inr (.inl h)
    · exact .inr (.inr h)
  · split at h
    · rcases h with h | h
      · exact .inr (.inl h)
      · exact .inr (.inr h)
    · rcases h with h | h
      · exact .inr (.inl h)
      · rcases List.mem_append.1 h with h | h
        · exact .inr (.inr h)
        · exact .inl (List.mem_singleton.1 h)
theorem bfold_len : ∀ (ys : List S37) (st : List S37 × List S37), (ys.foldl bstep st).2.length ≤ st.2.length + ys.length := by
  intro ys
  induction ys with
  | nil => intro st; simp
  | cons t ys ih =>
    intro st
    have h1 := ih (bstep st t)
    have h2 : (bstep st t).2.length ≤ st.2.length + 1 := by
      unfold bstep
      split
      · exact Nat.le_succ _
      · split
        · exact Nat.le_succ _
        · simp
    simp only [List.foldl_cons, List.length_cons]
    omega
/-! #### rows of settings -/
theorem C37_news {w : World} {A : Option Addr} {n : Nat} {xs : List S37} (h : Kd.C k37 w A n xs) : ∀ ad, A = some ad → ∀ j u, (xs.flatMap cells37)[j]? = some u → w.cell? (ad.add j) = some u := by
  rintro ad rfl j u hj
  have hl : j < (xs.flatMap cells37).length := (List.getElem?_eq_some_iff.1 hj).1
  rw [flatMap_len 4 cells37 cells37_len] at hl
  have hd : j / 4 < xs.length := by omega
  obtain ⟨x, hx⟩ : ∃ x, xs[j / 4]? = some x := ⟨_, List.getElem?_eq_getElem hd⟩
  have e : j / 4 * 4 + j % 4 = j := by omega
  have h1 := flatMap_get 4 cells37 cells37_len xs (j / 4) (j % 4) x hx (by omega)
  rw [e, hj] at h1
  obtain ⟨hn, _, hc⟩ := h
  obtain ⟨ad', e1, hc⟩ := hc (by omega)
  obtain rfl := Option.some.inj e1
  obtain ⟨c, _, hk, hcell⟩ := hc (j / 4) x hx
  obtain rfl := k37_open hk
  have h2 : w.cell? (ad.add (j / 4 * 4 + j % 4)) = some u := hcell (j % 4) u h1.symm
  rwa [e] at h2
theorem C37_own {w : World} {base : Nat} {A : Option Addr} {c : Nat} {xs : List S37} (h : w.ownsRow base 37 4 (.slice A xs.length c) xs.length (xs.flatMap cells37)) : Kd.C k37 w A xs.length xs := by
  rcases h.2 with ⟨e, h0⟩ | ⟨g, cap, cur, e, hbase, hb, h1, h2, h3, h4⟩
  · exact ⟨rfl, by rw [h0]; decide, fun hp => by omega⟩
  · have hm : maxLen ≤ 9223372036854775807 := by decide
    refine ⟨rfl, by omega, fun hp => ?_⟩
    obtain ⟨rfl, rfl⟩ : A = some ⟨g, 0, none⟩ ∧ c = cap := by simpa using e
    refine ⟨_, rfl, fun j x hx => ⟨cells37 x, rfl, k37_mk w x, fun i u hu => ?_⟩⟩
    have hj : j < xs.length := (List.getElem?_eq_some_iff.1 hx).1
    have hi : i < 4 := (List.getElem?_eq_some_iff.1 hu).1
    have h5 := flatMap_get 4 cells37 cells37_len xs j i x hx hi
    rw [← h4, List.getElem?_take_of_lt (by omega), Array.getElem?_toList, hu] at h5
    have e2 : (⟨g, 0, none⟩ : Addr).add (j * 4 + i) = ⟨g, j * 4 + i, none⟩ := by
      unfold Addr.add
      split
      · rename_i h0
        rw [h0]
      · simp
    show w.cell? ((⟨g, 0, none⟩ : Addr).add (j * 4 + i)) = some u
    rw [e2]
    simp [World.cell?, hb, h5]
theorem flat_one (xs : List S37) : ∀ u ∈ xs.flatMap cells37, u.oneCell' = true := by
  intro u hu
  obtain ⟨x, _, hx⟩ := List.mem_flatMap.1 hu
  exact cells37_one x u hx
theorem run_append_none {P : Program} {w : World} (base : Nat) (t ty e : TypeId) (i : TypeInfo) (size : Nat) (ht : P.underlying t = some (.slice e)) (hi : P.info? e = some i) (hsize : i.size = size) (v : Value) (n : Nat) (xs : List Value) (hown : w.ownsRow base e size v n xs) (c : Nat) :
    (Builtin.append_ #[t, t] ty #[v, .slice none 0 c]).run P w = .ok v w := by
  subst hsize
  rcases hown.2 with ⟨rfl, rfl⟩ | ⟨g, cap, cur, rfl, hbg, hg, hnc, hcm, hcs, htake⟩
  · simp [Builtin.append_, run_underlying ht, sizeOf, typeInfo, hi, Builtin.lenOf, Builtin.firstCells]
  · simp [Builtin.append_, run_underlying ht, sizeOf, typeInfo, hi, Builtin.lenOf, Builtin.firstCells, hnc, storeCells]
theorem info37p : ∃ i, Tryd.prog.info? 37 = some i ∧ i.zero = some (.agg #[(.string ⟨#[]⟩), (.string ⟨#[]⟩), (.string ⟨#[]⟩), (.int .i64 0)]) ∧ i.size = 4 ∧ i.bytes = 56 := by
  obtain ⟨i0, hi, hz0, hz1, hz2⟩ := info_parts info37
  exact ⟨i0, hi, hz0, hz1, hz2⟩
/-- a row of settings that is read, laid behind an own row of settings -/
theorem run_append37 {W : World} {base : Nat} {v : Value} {xs ys : List S37} {A : Option Addr} {c : Nat} (ty : TypeId) (hown : W.ownsRow base 37 4 v xs.length (xs.flatMap cells37)) (hC : Kd.C k37 W A ys.length ys) (hlen : xs.length + ys.length ≤ 1000000) (hbase : base ≤ W.heap.size) :
    ∃ A' c' W', (Builtin.append_ #[23, 23] ty #[v, .slice A ys.length c]).run Tryd.prog W = .ok (.slice A' (xs ++ ys).length c') W' ∧ W'.ownsRow base 37 4 (.slice A' (xs ++ ys).length c') (xs ++ ys).length ((xs ++ ys).flatMap cells37) ∧ W.grownBy W' v.ownBlock ∧ ((Value.slice A' (xs ++ ys).length c').ownBlock = v.ownBlock ∨ (Value.slice A' (xs ++ ys).length c').ownBlock = some W.heap.size) := by
  obtain ⟨i0, hi, hz0, hz1, hz2⟩ := info37p
  have hm : (1000000 : Nat) ≤ maxLen := by decide
  cases A with
  | none =>
    have hy : ys = [] := by
      cases ys with
      | nil => rfl
      | cons y ys =>
        obtain ⟨ad, e, _⟩ := hC.2.2 (by simp)
        cases e
    subst hy
    have hr := run_append_none (P := Tryd.prog) base 23 ty 37 i0 4 Tryd.underlying23 hi hz1 v xs.length _ hown c
    obtain ⟨A', c', rfl⟩ := own_slice hown
    exact ⟨A', c', W, by simpa using hr, by simpa using hown, ⟨rfl, rfl, rfl, Nat.le_refl _, fun _ _ _ => rfl⟩, .inl (by simp)⟩
  | some ad =>
    obtain ⟨v', W', hr, h2, h3, h4, h5⟩ := run_append_own_at (P := Tryd.prog) W base 23 ty 37 i0 _ 4 56 Tryd.underlying23 hi hz0 hz1 hz2 rfl (by decide) v xs.length _ hown ad ys.length c (ys.flatMap cells37) (flatMap_len 4 cells37 cells37_len ys) (C37_news hC ad rfl) (flat_one ys) (by omega) (by omega) hbase
    rw [← List.flatMap_append] at h2
    have hl : xs.length + ys.length = (xs ++ ys).length := by simp
    rw [hl] at h2
    obtain ⟨A', c', rfl⟩ := own_slice h2
    exact ⟨A', c', W', hr, h2, h3, h5⟩
/-- .. at the operation -/
theorem wpListIn_append37 {F : Fence} {nF : Nat} (W : World) {ops : Array Oper} {rest : List Oper} {o : Oper} {a : Act} {Q : Exit → Act → World → Prop} (hgd : o.guard = none) (s x : Operand)
    (ho : o.op = .call { callee := .builtin .append, args := #[s, x], argTypes := #[23, 23] }) {base : Nat} {v : Value} {xs ys : List S37} {A : Option Addr} {c : Nat} (hs : a.eval s = v) (hx : a.eval x = .slice A ys.length c)
    (hown : W.ownsRow base 37 4 v xs.length (xs.flatMap cells37)) (hC : Kd.C k37 W A ys.length ys) (hlen : xs.length + ys.length ≤ 1000000) (hbase : base ≤ W.heap.size)
    (h : ∀ A' c' W', W'.ownsRow base 37 4 (.slice A' (xs ++ ys).length c') (xs ++ ys).length ((xs ++ ys).flatMap cells37) → W.grownBy W' v.ownBlock → ((Value.slice A' (xs ++ ys).length c').ownBlock = v.ownBlock ∨ (Value.slice A' (xs ++ ys).length c').ownBlock = some W.heap.size) → wpListIn F nF Tryd.prog ops Q rest (a.put o.dst (.slice A' (xs ++ ys).length c')) W') :
    wpListIn F nF Tryd.prog ops Q (o :: rest) a W := by
  refine wpListIn_plain hgd fun K hK => ?_
  obtain ⟨A', c', W', hr, h2, h3, h5⟩ := run_append37 (ty := o.type) hown hC hlen hbase
  unfold Oper.wpIn
  refine ⟨by simp [Oper.about, ho, resolve, Target.leads, Sem.run_pure], ?_⟩
  rw [Oper.semAt_plain F _ _ (by rw [ho]; intro c hc'; cases hc')]
  simp [execOp, ho, resolve, invoke, builtin, hs, hx, Result.andThen] at hr ⊢
  rw [hr]
  simp [Result.andThen]
  have hf := h A' c' W' h2 h3 h5
  rw [List.length_append] at hf
  exact hK _ _ hf
end Go.Proofs.YtbigbjfppaenfaaDoor.Lines
