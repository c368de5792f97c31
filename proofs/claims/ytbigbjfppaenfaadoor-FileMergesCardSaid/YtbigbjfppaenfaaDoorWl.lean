/- FileMerges: what is collected. -/
import Derived.Test.YtbigbjfppaenfaaDoorWj
import Derived.Test.YtbigbjfppaenfaaDoorWe
import Derived.Test.YtbigbjfppaenfaaDoorMSame
namespace Go.Proofs.YtbigbjfppaenfaaDoor.Lines
open Go.RowKit Go.Shelf Go.Proofs.YtbigbjfppaenfaaDoorW.PrintWords Go.Proofs.YtbigbjfppaenfaaDoorW.PrintLast
attribute [local go_sem] Oper.semAt_some
attribute [local go_sem high] eqA37
attribute [local go_sem high] eqA69
set_option linter.unusedVariables false
set_option linter.unusedSimpArgs false
/-- a row of settings that lies there, in a block of settings -/
structure Rw (A : Option Addr) (c : Nat) (xs : List S37) (W : World) : Prop where
  rd : Kd.C k37 W A xs.length xs
  cap : xs.length ≤ c
  row : ∀ ad, A = some ad → ∃ cs fr, W.heap[ad.block]? = some (Obj.cells cs 37 fr)
theorem Rw.turn {A : Option Addr} {c : Nat} {xs : List S37} {W W' : World} (h : Rw A c xs W) (t : Turn (fun _ => False) W W') : Rw A c xs W' :=
  ⟨C37_turn h.rd t, h.cap, fun ad e => by obtain ⟨cs, fr, hr⟩ := h.row ad e; exact ⟨cs, fr, t.heap hr (fun h => h)⟩⟩
theorem Rw.set {A : Option Addr} {c B : Nat} {xs : List S37} {W W' : World} {v : Value} {ty : TypeId} (h : Rw A c xs W) (t : Turn (fun k => k = B) W W') (hb : Boxed W B ty v) (hne : ty ≠ 37 := by decide) : Rw A c xs W' := by
  have key : ∀ ad, A = some ad → ¬ (ad.block = B) := by
    rintro ad e rfl
    obtain ⟨cs, fr, hr⟩ := h.row ad e
    rw [show W.heap[ad.block]? = _ from hb] at hr
    cases hr
    exact hne rfl
  exact ⟨C37_on h.rd (fun ad e => by obtain ⟨cs, fr, hr⟩ := h.row ad e; rw [t.heap hr (key ad e), hr]), h.cap, fun ad e => by obtain ⟨cs, fr, hr⟩ := h.row ad e; exact ⟨cs, fr, t.heap hr (key ad e)⟩⟩
theorem Rw.of_own {M : Nat} {A : Option Addr} {c : Nat} {xs : List S37} {W : World} (h : W.ownsRow M 37 4 (.slice A xs.length c) xs.length (xs.flatMap cells37)) : Rw A c xs W := by
  refine ⟨C37_own h, ?_, ?_⟩
  · rcases h.2 with ⟨e, h0⟩ | ⟨g, cap, cur, e, _, _, h1, _⟩
    · omega
    · cases e
      exact h1
  · rintro ad rfl
    obtain ⟨cells, hc⟩ := own_typed h ad.block rfl
    exact ⟨_, _, hc⟩
theorem Rw.of_R {b : Nat} {A : Option Addr} {m c : Nat} {xs : List S37} {W : World} (h : Kd.R k37 37 W b (fun _ => True) (.slice A m c) xs) : Rw A c xs W := by
  obtain ⟨A', c', e, hl, hC⟩ := Kd.R_reads h
  cases e
  refine ⟨hC, hl, ?_⟩
  rintro ad rfl
  obtain ⟨inner, ho⟩ := Kd.R_own h
  obtain ⟨cells, hc⟩ := own_typed ho ad.block rfl
  exact ⟨_, _, hc⟩
/-- nothing below n0 has turned: what came in reads as it did -/
structure Gr (n0 : Nat) (w W : World) : Prop where
  size : w.heap.size = n0
  bel : Below n0 w W
theorem Gr.turn {n0 : Nat} {w W W' : World} (h : Gr n0 w W) (t : Turn (fun _ => False) W W') : Gr n0 w W' := ⟨h.size, h.bel.trans (t.toBelow (fun _ _ h => h) (by have := h.size; have := h.bel.size; omega))⟩
theorem Gr.far {n0 B : Nat} {w W W' W0 : World} (h : Gr n0 w W) (t : Turn (fun k => k = B) W W') (_ : Below n0 W0 W) (hB : n0 ≤ B) : Gr n0 w W' := ⟨h.size, h.bel.trans (t.toBelow (fun k hk e => by omega) (by have := h.size; have := h.bel.size; omega))⟩
theorem Gr.files {n0 : Nat} {w W : World} {A : Option Addr} {xs : List S25} (h : Gr n0 w W) (hr : Kd.C k25 w A xs.length xs) : Kd.C k25 W A xs.length xs := Kd.C_below hr (by rw [h.size]; exact h.bel)
theorem box_ne {W : World} {B B' : Nat} {t t' : TypeId} {v v' : Value} (h : Boxed W B t v) (k : Boxed W B' t' v') (hne : t ≠ t') : ¬ (B = B') := by
  rintro rfl
  have k' : W.heap[B]? = some (Obj.cells #[v'] t' (0, 0)) := k
  rw [show W.heap[B]? = some (Obj.cells #[v] t (0, 0)) from h] at k'
  simp at k'
  exact hne k'.2
theorem ne_boxes {W : World} {B B' : Nat} {t t' : TypeId} {v v' : Value} (_ : Boxed W B t v) (_ : Boxed W B' t' v') (hne : B ≠ B') : ¬ (B = B') := hne
theorem mfold_mem : ∀ (xs acc : List S37) (s : S37), s ∈ xs.foldl mstep acc → s ∈ xs ∨ s ∈ acc := by
  intro xs
  induction xs with
  | nil => intro acc s h; exact .inr h
  | cons t xs ih =>
    intro acc s h
    rcases ih _ _ h with h | h
    · exact .inl (List.mem_cons_of_mem _ h)
    · unfold mstep at h
      split at h
      · exact .inr (List.mem_filter.1 h).1
      · rcases List.mem_append.1 h with h | h
        · exact .inr h
        · exact .inl (by rw [List.mem_singleton.1 h]; exact List.mem_cons_self)
/-- a setting whose texts are short -/
def Few37 (s : S37) : Prop := s.f0.size + s.f1.size + s.f2.size ≤ 500
theorem merges_plain {l0 : List S25} (hl : (l0.flatMap (fun f => f.f0)).length ≤ 200) (hf : ∀ f ∈ l0, ∀ s ∈ f.f0, fits s) (hT : ∀ f ∈ l0, ∀ s ∈ f.f0, s.f0.size < 3074457345618258602 ∧ s.f1.size < 3074457345618258602 ∧ s.f2.size < 3074457345618258602) :
    (flatF l0).length ≤ 500000 ∧ (∀ s ∈ flatF l0, Short37 s) ∧ ∀ s ∈ flatF l0, Few37 s := by
  have h5 : ∀ s ∈ flatF l0, Few37 s := by
    intro s hs
    obtain ⟨f, hff, hsf⟩ := List.mem_flatMap.1 hs
    obtain ⟨a, b, c⟩ := hT f hff s hsf
    exact fits_size (hf f hff s hsf) a b c
  have hm : (500 : Nat) ≤ maxLen := by decide
  refine ⟨by unfold flatF; omega, fun s hs => ?_, h5⟩
  have := h5 s hs
  unfold Few37 at this
  exact ⟨by omega, by omega⟩
theorem merged_plain {l0 : List S25} {rr : List S37} (hl : (l0.flatMap (fun f => f.f0)).length ≤ 200) (h5 : ∀ s ∈ flatF l0, Few37 s) (hrr : (flatF l0).foldl mstep [] = rr) : rr.length ≤ 200 ∧ ∀ s ∈ rr, Few37 s := by
  subst hrr
  refine ⟨?_, fun s hs => ?_⟩
  · have := fold_len (flatF l0) []
    unfold flatF at this ⊢
    simp only [List.length_nil] at this
    omega
  · rcases mfold_mem _ _ _ hs with h | h
    · exact h5 s h
    · cases h
theorem sfold_mem : ∀ (xs : List S37) (acc : List ByteArray) (a : ByteArray), a ∈ xs.foldl sstep acc → (∃ s ∈ xs, s.f0 = a) ∨ a ∈ acc := by
  intro xs
  induction xs with
  | nil => intro acc a h; exact .inr h
  | cons t xs ih =>
    intro acc a h
    rcases ih _ _ h with ⟨s, hs, e⟩ | h
    · exact .inl ⟨s, List.mem_cons_of_mem _ hs, e⟩
    · unfold sstep at h
      split at h
      · exact .inr h
      · rcases List.mem_append.1 h with h | h
        · exact .inr h
        · exact .inl ⟨t, List.mem_cons_self, (List.mem_singleton.1 h).symm⟩
theorem sfold_len : ∀ (xs : List S37) (acc : List ByteArray), (xs.foldl sstep acc).length ≤ acc.length + xs.length := by
  intro xs
  induction xs with
  | nil => intro acc; simp
  | cons t xs ih => intro acc; have h1 := ih (sstep acc t); have h2 := sstep_len acc t; simp only [List.foldl_cons, List.length_cons]; omega
theorem wide_few : ∀ (xs : List S37), (∀ s ∈ xs, Few37 s) → wide xs ≤ xs.length * 502 := by
  intro xs
  induction xs with
  | nil => intro _; simp [wide]
  | cons t xs ih =>
    intro h
    have h1 := ih (fun s hs => h s (List.mem_cons_of_mem _ hs))
    have h2 := h t List.mem_cons_self
    unfold Few37 at h2
    simp only [wide, List.map_cons, List.sum_cons, List.length_cons] at h1 ⊢
    omega
theorem wides_few {xs : List S37} {m : Nat} (hm : wide xs ≤ m) : ∀ (l : List ByteArray), (∀ a ∈ l, a.size ≤ 500) → wides xs l ≤ l.length * (503 + m) := by
  intro l
  induction l with
  | nil => intro _; simp [wides]
  | cons a l ih =>
    intro h
    have h1 := ih (fun s hs => h s (List.mem_cons_of_mem _ hs))
    have h2 := h a List.mem_cons_self
    simp only [wides, List.map_cons, List.sum_cons, List.length_cons] at h1 ⊢
    rw [Nat.add_mul, Nat.one_mul]
    omega
theorem ptfold_size (xs : List S37) : ∀ (l : List ByteArray) (acc : ByteArray), (l.foldl (ptstep xs) acc).size ≤ acc.size + wides xs l := by
  intro l
  induction l with
  | nil => intro acc; simp [wides]
  | cons a l ih =>
    intro acc
    have h1 := ih (ptstep xs acc a)
    have h2 := ptstep_size xs acc a
    simp only [List.foldl_cons, wides, List.map_cons, List.sum_cons] at h1 ⊢
    omega
theorem print_fits {rr : List S37} (hl : rr.length ≤ 200) (hf : ∀ s ∈ rr, Few37 s) : (∀ pre x, (∃ rest, pre ++ x :: rest = rr.foldl sstep []) → (pre.foldl (ptstep rr) (⟨#[]⟩ : ByteArray)).size + (x.size + 3) + wide rr ≤ 140737488355328) ∧ wides rr (rr.foldl sstep []) ≤ 9223372036854775807 ∧ (rr.foldl sstep []).length ≤ 200 ∧ (∀ s ∈ rr, s.f0.size ≤ maxLen) := by
  have hw : wide rr ≤ 100400 := Nat.le_trans (wide_few rr hf) (by omega)
  have hs : (rr.foldl sstep []).length ≤ 200 := Nat.le_trans (sfold_len rr []) (by simp; exact hl)
  have ha : ∀ a ∈ rr.foldl sstep [], a.size ≤ 500 := by
    intro a h
    rcases sfold_mem rr [] a h with ⟨s, hs, rfl⟩ | h
    · have := hf s hs
      unfold Few37 at this
      omega
    · cases h
  have hW := wides_few hw _ ha
  have hW2 : wides rr (rr.foldl sstep []) ≤ 20180600 := Nat.le_trans hW (by have := Nat.mul_le_mul_right (503 + 100400) hs; omega)
  refine ⟨?_, by omega, hs, fun s hs' => ?_⟩
  · rintro pre x ⟨rest, h⟩
    have h1 := ptfold_size rr pre (⟨#[]⟩ : ByteArray)
    have h2 : wides rr pre + (x.size + 3 + wide rr) ≤ wides rr (rr.foldl sstep []) := by
      rw [← h]
      unfold wides
      rw [List.map_append, List.sum_append, List.map_cons, List.sum_cons]
      omega
    have h3 : (⟨#[]⟩ : ByteArray).size = 0 := rfl
    rw [h3] at h1
    generalize (pre.foldl (ptstep rr) (⟨#[]⟩ : ByteArray)).size = z at h1 ⊢
    generalize wides rr (rr.foldl sstep []) = y at h2 hW2
    generalize wides rr pre = u at h1 h2
    omega
  · have := hf s hs'
    unfold Few37 at this
    have hm : (500 : Nat) ≤ maxLen := by decide
    omega
/-- what lies there behind both merges -/
structure M5 (n0 Bs Bm Br : Nat) (stop : Int) (rr : List S37) (A1 : Option Addr) (c1 : Nat) (A2 : Option Addr) (c2 : Nat) (w w2 W : World) : Prop where
  m : Boxed W Bm 25 (.slice A1 rr.length c1)
  r : Boxed W Br 25 (.slice A2 rr.length c2)
  u : Rw A1 c1 rr W
  v : Rw A2 c2 rr W
  s : Boxed W Bs 3 (.int .i64 stop)
  g : Gr n0 w W
  l : Below n0 w2 W
theorem q_ne {k h2 : Nat} (h : k < h2) : ¬ (k = h2 ∨ h2 + 2 ≤ k) := by omega
theorem row_cell {W : World} {M e : Nat} {A : Option Addr} {n c : Nat} {xs : List Value} {j : Nat} {u : Value} (h : W.ownsRow M e 1 (.slice A n c) n xs) (hx : xs[j]? = some u) : ∃ ad, A = some ad ∧ W.cell? (ad.add j) = some u := by
  have hj : j < n := by
    have h1 := (List.getElem?_eq_some_iff.1 hx).1
    have h2 := h.1
    omega
  rcases h.2 with ⟨e0, h0⟩ | ⟨g, cap, cur, e0, hbase, hb, h1, h2, h3, h4⟩
  · omega
  · obtain ⟨rfl, rfl⟩ : A = some ⟨g, 0, none⟩ ∧ c = cap := by simpa using e0
    refine ⟨_, rfl, ?_⟩
    have h5 : (cur.toList.take (n * 1))[j]? = xs[j]? := by rw [h4]
    rw [List.getElem?_take_of_lt (by omega), Array.getElem?_toList, hx] at h5
    have e2 : (⟨g, 0, none⟩ : Addr).add j = ⟨g, j, none⟩ := by
      unfold Addr.add
      split
      · rename_i h0
        rw [h0]
      · simp
    rw [e2]
    simp [World.cell?, hb, h5]
theorem five_le {n : Nat} (h : 12 ≤ n) : 6 ≤ n - 1 := by omega
theorem ref_lt {m : Nat} (h : m ≤ 200) : m < 8796093022208 := by omega
theorem sec_lt {m : Nat} (h : m ≤ 200) : m < 9223372036854775807 := by omega
theorem Cstr_own {w : World} {base : Nat} {A : Option Addr} {c : Nat} {xs : List ByteArray} (h : w.ownsRow base 9 1 (.slice A xs.length c) xs.length (strsV xs)) : Kd.C Kd.string w A xs.length xs ∧ xs.length ≤ c := by
  rcases h.2 with ⟨e, h0⟩ | ⟨g, cap, cur, e, hbase, hb, h1, h2, h3, h4⟩
  · exact ⟨⟨rfl, by rw [h0]; decide, fun hp => by omega⟩, by omega⟩
  · have hm : maxLen ≤ 9223372036854775807 := by decide
    obtain ⟨e1, e2⟩ : A = some ⟨g, 0, none⟩ ∧ c = cap := by simpa using e
    refine ⟨⟨rfl, by omega, fun hp => ⟨⟨g, 0, none⟩, e1, fun j x hx => ⟨[.string x], rfl, rfl, fun i u hu => ?_⟩⟩⟩, by omega⟩
    have hi : i = 0 := by
      have := (List.getElem?_eq_some_iff.1 hu).1
      simp at this
      exact this
    subst hi
    obtain rfl : Value.string x = u := by simpa using hu
    obtain ⟨ad, e3, hc⟩ := row_cell h (j := j) (u := .string x) (by simp [strsV, hx])
    rw [e1] at e3
    cases e3
    have e4 : j * Kd.string.sz + 0 = j := by show j * 1 + 0 = j; omega
    rw [e4]
    exact hc
theorem fin_ok {n k : Nat} (h : wrap64 ((k : Int) + 1) = ((k + 1 : Nat) : Int)) (hlt : k < n) : Value.int .i64 (wrap64 ((k : Int) + 1)) = Value.int .i64 ((k + 1 : Nat) : Int) ∧ n - (intOf (Value.int .i64 (wrap64 ((k : Int) + 1)))).toNat < n - (intOf (Value.int .i64 (k : Int))).toNat := by
  rw [h]
  exact ⟨rfl, up_meas hlt⟩
theorem lim_le {α : Type} (n : Int) (l : List α) : (lim n l).length ≤ l.length := by
  unfold lim
  split
  · rw [List.length_take]
    omega
  · exact Nat.le_refl _
theorem hitsF_step {sec key : ByteArray} {rr : List S37} {k : Nat} (h : k < rr.length) : hitsF sec key 0 (rr.take (k + 1)) = hitsF sec key 0 (rr.take k) ++ (if hit sec key (rr[k]) then [(k, (rr[k]).f2)] else []) := by
  rw [take_snoc h, hitsF_append]
  congr 1
  have e : (rr.take k).length = k := by simp; omega
  rw [e, Nat.zero_add, hitsF]
  rfl
theorem hitsF_rest {sec key : ByteArray} {rr : List S37} (k : Nat) (h : k ≤ rr.length) : hitsF sec key 0 rr = hitsF sec key 0 (rr.take k) ++ hitsF sec key k (rr.drop k) := by
  have e : (rr.take k).length = k := by simp; omega
  conv => lhs; rw [← List.take_append_drop k rr, hitsF_append, e, Nat.zero_add]
theorem Rw.far {A : Option Addr} {c : Nat} {xs : List S37} {W W' : World} {q : Nat → Prop} (h : Rw A c xs W) (t : Turn q W W') (hq : ∀ ad, A = some ad → ¬ q ad.block) : Rw A c xs W' :=
  ⟨C37_on h.rd (fun ad e => by obtain ⟨cs, fr, hr⟩ := h.row ad e; rw [t.heap hr (hq ad e), hr]), h.cap, fun ad e => by obtain ⟨cs, fr, hr⟩ := h.row ad e; exact ⟨cs, fr, t.heap hr (hq ad e)⟩⟩
theorem Gr.turnq {n0 : Nat} {w W W' : World} {q : Nat → Prop} (h : Gr n0 w W) (t : Turn q W W') (hq : ∀ k, k < n0 → ¬ q k) : Gr n0 w W' := ⟨h.size, h.bel.trans (t.toBelow hq (by have := h.size; have := h.bel.size; omega))⟩
theorem hits_few (sec key : ByteArray) (rr : List S37) (hl : rr.length ≤ 200) : (hitsF sec key 0 rr).length ≤ 200 := Nat.le_trans (hitsF_len sec key rr 0) hl
def Goes (stop : Int) (m : Nat) : Prop := ∀ l : Nat, 1 ≤ l → l ≤ m → (l : Int) ≠ stop
theorem goes_all {α : Type} {stop : Int} {ys : List α} (h : Goes stop ys.length) : lim stop ys = ys := by
  refine lim_all ?_
  rcases Int.lt_or_le stop 1 with h1 | h1
  · exact .inl h1
  · refine .inr ?_
    rcases Int.lt_or_le (ys.length : Int) stop with h2 | h2
    · exact h2
    · exact absurd (by omega) (h stop.toNat (by omega) (by omega))
theorem stops_at {α : Type} {stop : Int} {pre ys : List α} (hp : pre <+: ys) (h1 : 1 ≤ pre.length) (h2 : (pre.length : Int) = stop) : lim stop ys = pre := by
  obtain ⟨t, rfl⟩ := hp
  unfold lim
  rw [if_pos (by omega), show stop.toNat = pre.length from by omega]
  exact List.take_left' rfl
theorem Co.turn0 {Ba Bb Bs M : Nat} {stop : Int} {ps : List Nat} {vs : List ByteArray} {pv qv : Value} {W W' : World} (h : Co Ba Bb Bs M stop ps vs pv qv W) (t : Turn (fun _ => False) W W') : Co Ba Bb Bs M stop ps vs pv qv W' :=
  ⟨t.boxed h.a (fun h => h), t.boxed h.b (fun h => h), t.boxed h.s (fun h => h), t.row h.p (fun _ _ h => h), t.row h.q (fun _ _ h => h), Nat.le_trans h.m t.size⟩
/-- All, with the law's own function: what it collects -/
theorem col_in (n : Nat) (hn : 6 ≤ n) (n0 h : Nat) (stop : Int) (rr : List S37) (A : Option Addr) (c : Nat) (sec key : ByteArray) (w13 : World) (hl : rr.length ≤ 200) (hn0 : n0 < h) (hs : Boxed w13 n0 3 (.int .i64 stop)) (ha : Boxed w13 h 50 (.slice none 0 0)) (hb : Boxed w13 (h + 1) 39 (.slice none 0 0))
    (h1 : Boxed w13 (h + 2) 25 (.slice A rr.length c)) (h2 : Boxed w13 (h + 3) 9 (.string sec)) (h3 : Boxed w13 (h + 4) 9 (.string key)) (hsz : w13.heap.size = h + 5) (hv : Rw A c rr w13) (hA : ∀ ad, A = some ad → ad.block < h) :
    CallsIn Fence.wide n Tryd.prog 29 #[.func (.func 20) #[] #[.pointer (some ⟨h, 0, none⟩), .pointer (some ⟨h + 1, 0, none⟩), .pointer (some ⟨n0, 0, none⟩)], .pointer (some ⟨h + 2, 0, none⟩), .pointer (some ⟨h + 3, 0, none⟩), .pointer (some ⟨h + 4, 0, none⟩)] w13 fun e W' => (∃ v, e = .returned v) ∧
      ∃ pv qv, Co h (h + 1) n0 (h + 5) stop ((lim stop (hitsF sec key 0 rr)).map Prod.fst) ((lim stop (hitsF sec key 0 rr)).map Prod.snd) pv qv W' ∧ Turn (fun k => k = h ∨ k = h + 1 ∨ h + 5 ≤ k) w13 W' := by
  have hit := hits_few sec key rr hl
  refine (all_in_c20 h (h + 1) n0 (h + 2) (h + 3) (h + 4) c n (by omega) (fun k => k = h + 2 ∨ k = h + 3 ∨ k = h + 4 ∨ ∃ ad, A = some ad ∧ k = ad.block) A rr sec key
    (fun pre W => ∃ pv qv, Co h (h + 1) n0 (h + 5) stop (pre.map Prod.fst) (pre.map Prod.snd) pv qv W ∧ Turn (fun k => k = h ∨ k = h + 1 ∨ h + 5 ≤ k) w13 W ∧ Goes stop pre.length)
    (fun pre W => ∃ pv qv, Co h (h + 1) n0 (h + 5) stop (pre.map Prod.fst) (pre.map Prod.snd) pv qv W ∧ Turn (fun k => k = h ∨ k = h + 1 ∨ h + 5 ≤ k) w13 W ∧ 1 ≤ pre.length ∧ (pre.length : Int) = stop)
    w13 ?hJ (.inl rfl) (.inr (.inl rfl)) (.inr (.inr (.inl rfl))) (fun ad e => .inr (.inr (.inr ⟨ad, e, rfl⟩))) ?hY h1 h2 h3 hv.rd ?h0).mono ?_
  case hJ =>
    rintro s W1 W2 ⟨pv, qv, hC, hT, hG⟩ t
    exact ⟨pv, qv, hC.turn0 t, hT.trans (t.mono (fun _ _ h => h.elim)), hG⟩
  case h0 => exact ⟨_, _, ⟨ha, hb, hs, World.ownsRow_nil .., World.ownsRow_nil .., by omega⟩, Turn.refl _ _, fun l h1 h2 => by simp at h2; omega⟩
  case hY =>
    rintro pre x W1 ⟨pv, qv, hC, hT, hG⟩ ⟨rest, hrest⟩
    have hlen : pre.length + 1 ≤ 200 := by
      have := congrArg List.length hrest
      simp at this
      omega
    obtain ⟨Ap, cp, rfl⟩ := own_slice hC.p
    obtain ⟨Aq, cq, rfl⟩ := own_slice hC.q
    refine (hit_in (n - 1) h (h + 1) n0 (h + 5) stop _ _ Ap Aq cp cq W1 x.1 x.2 _ _ rfl rfl hC (by omega) (by omega) (by simp; omega) (by simp; omega)).mono ?_
    rintro e W' ⟨pv', qv', rfl, hC', hT'⟩
    have hT2 : Turn (fun k => k = h ∨ k = h + 1 ∨ h + 5 ≤ k) w13 W' := by
      refine hT.trans (hT'.mono ?_)
      rintro k _ (e | e | e | e)
      · exact .inl e
      · exact .inr (.inl e)
      · exact .inr (.inr (own_base hC.p k e))
      · exact .inr (.inr (own_base hC.q k e))
    have e1 : (pre ++ [x]).map Prod.fst = pre.map Prod.fst ++ [x.1] := by simp
    have e2 : (pre ++ [x]).map Prod.snd = pre.map Prod.snd ++ [x.2] := by simp
    refine ⟨_, rfl, KeepT.of_turn hT' ?_ ?_, fun hb => ?_, fun hb => ?_⟩
    · intro k hk
      have hlt : k < h + 5 ∧ k ≠ h ∧ k ≠ h + 1 := by
        rcases hk with rfl | rfl | rfl | ⟨ad, e, rfl⟩
        · omega
        · omega
        · omega
        · have := hA ad e
          omega
      refine ⟨by have := hT.size; omega, ?_⟩
      rintro (e | e | e | e)
      · omega
      · omega
      · have := own_base hC.p k e
        omega
      · have := own_base hC.q k e
        omega
    · rintro k _ (rfl | rfl | e | e)
      · exact ⟨_, _, _, hC.a, by decide⟩
      · exact ⟨_, _, _, hC.b, by decide⟩
      · obtain ⟨cells, hc⟩ := own_typed hC.p k e
        exact ⟨_, _, _, hc, by decide⟩
      · obtain ⟨cells, hc⟩ := own_typed hC.q k e
        exact ⟨_, _, _, hc, by decide⟩
    · refine ⟨pv', qv', by rw [e1, e2]; exact hC', hT2, ?_⟩
      intro l hl1 hl2
      simp only [List.length_append, List.length_cons, List.length_nil] at hl2
      rcases Nat.lt_or_ge pre.length l with h9 | h9
      · simp only [List.length_map, Bool.and_eq_true, bne_iff_ne, decide_eq_true_eq] at hb
        intro e9
        exact hb.1 (by omega)
      · exact hG l hl1 h9
    · refine ⟨pv', qv', by rw [e1, e2]; exact hC', hT2, by simp, ?_⟩
      simp only [List.length_map, Bool.and_eq_false_iff, bne_eq_false_iff_eq, decide_eq_false_iff_not] at hb
      simp only [List.length_append, List.length_cons, List.length_nil]
      rcases hb with hb | hb
      · omega
      · omega
  · rintro e W' ⟨hv', (⟨ys, rfl, pv, qv, hC, hT, hG⟩ | ⟨pre, hp, pv, qv, hC, hT, hl1, hl2⟩)⟩
    · exact ⟨hv', pv, qv, by rw [goes_all hG]; exact hC, hT⟩
    · exact ⟨hv', pv, qv, by rw [stops_at hp hl1 hl2]; exact hC, hT⟩
/-- Sections, with the law's own function: what it collects -/
theorem secs_in (n : Nat) (hn : 6 ≤ n) (h : Nat) (rr : List S37) (A : Option Addr) (c : Nat) (W0 : World) (hl : rr.length ≤ 200) (hb : Boxed W0 h 39 (.slice none 0 0)) (h1 : Boxed W0 (h + 1) 25 (.slice A rr.length c)) (hsz : W0.heap.size = h + 2) (hv : Rw A c rr W0) (hA : ∀ ad, A = some ad → ad.block < h)
    (hsh : ∀ s ∈ rr, s.f0.size ≤ maxLen) (hsl : (rr.foldl sstep []).length ≤ 200) :
    CallsIn Fence.wide n Tryd.prog 32 #[.func (.func 22) #[] #[.pointer (some ⟨h, 0, none⟩)], .pointer (some ⟨h + 1, 0, none⟩)] W0 fun e W' => (∃ v, e = .returned v) ∧
      ∃ An cn, Boxed W' h 39 (.slice An (rr.foldl sstep []).length cn) ∧ W'.ownsRow (h + 2) 9 1 (.slice An (rr.foldl sstep []).length cn) (rr.foldl sstep []).length (strsV (rr.foldl sstep [])) ∧ Turn (fun k => k = h ∨ h + 2 ≤ k) W0 W' := by
  refine (sections_c22 h (h + 1) c n (by omega) (fun k => k = h + 1 ∨ ∃ ad, A = some ad ∧ k = ad.block) A rr
    (fun pre W => ∃ An cn, Boxed W h 39 (.slice An pre.length cn) ∧ W.ownsRow (h + 2) 9 1 (.slice An pre.length cn) pre.length (strsV pre) ∧ Turn (fun k => k = h ∨ h + 2 ≤ k) W0 W)
    (fun pre W => False) W0 ?hJ (.inl rfl) (fun ad e => .inr ⟨ad, e, rfl⟩) (fun ad e => by have := hA ad e; omega) ?hY h1 hv.rd hsh (by omega) ?h0).mono ?_
  case hJ =>
    rintro s W1 W2 ⟨An, cn, hB, hR, hT⟩ t
    have nm : ∀ k cs ty fr, (W0.heap.size ≤ k ∧ ∃ es clock, W1.heap[k]? = some (Obj.map es clock)) → W1.heap[k]? ≠ some (Obj.cells cs ty fr) := by
      rintro k cs ty fr ⟨_, es, clock, hm⟩ e
      rw [hm] at e
      cases e
    refine ⟨An, cn, t.boxed hB (fun hq => nm _ _ _ _ hq hB), t.row hR (fun k e hq => ?_), hT.trans (t.mono (fun k _ hq => .inr (by have := hq.1; omega)))⟩
    obtain ⟨cells, hc⟩ := own_typed hR k e
    exact nm _ _ _ _ hq hc
  case h0 => exact ⟨_, _, hb, World.ownsRow_nil .., Turn.refl _ _⟩
  case hY =>
    rintro pre x W1 ⟨An, cn, hB, hR, hT⟩ ⟨rest, hrest⟩
    have hlen : pre.length + 1 ≤ 200 := by
      have := congrArg List.length hrest
      simp at this
      omega
    refine (sec_in (n - 1) h (h + 2) pre An cn W1 x hB hR (by have := hT.size; omega) (by omega)).mono ?_
    rintro e W' ⟨A', c', rfl, hB', hR', hT'⟩
    have hT2 : Turn (fun k => k = h ∨ h + 2 ≤ k) W0 W' := by
      refine hT.trans (hT'.mono ?_)
      rintro k _ (e | e)
      · exact .inl e
      · exact .inr (own_base hR k e)
    refine ⟨_, rfl, KeepT.of_turn hT' ?_ ?_, fun _ => ⟨A', c', hB', hR', hT2⟩, fun hb => ?_⟩
    · intro k hk
      have hlt : k < h + 2 ∧ k ≠ h := by
        rcases hk with rfl | ⟨ad, e, rfl⟩
        · omega
        · have := hA ad e
          omega
      refine ⟨by have := hT.size; omega, ?_⟩
      rintro (e | e)
      · omega
      · have := own_base hR k e
        omega
    · rintro k _ (rfl | e)
      · exact ⟨_, _, _, hB, by decide⟩
      · obtain ⟨cells, hc⟩ := own_typed hR k e
        exact ⟨_, _, _, hc, by decide⟩
    · have : decide ((pre.length : Int) + 1 ≤ 300) = true := decide_eq_true (by omega)
      rw [this] at hb
      cases hb
  · rintro e W' ⟨hv', (⟨ys, rfl, An, cn, hB, hR, hT⟩ | ⟨pre, hp, hF⟩)⟩
    · exact ⟨hv', An, cn, hB, hR, hT⟩
    · exact hF.elim
end Go.Proofs.YtbigbjfppaenfaaDoor.Lines
