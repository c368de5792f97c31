/- line.Lines over that iterator: each whole line read, or the first error and where. -/
import Derived.Test.YtaihipdebmcmhaaDoorLinesW
import Derived.Test.YtaihipdebmcmhaaDoorLinesF1
import Derived.Maps.AppendAt
namespace Go.Proofs.YtaihipdebmcmhaaDoor.Lines
open Go.RowKit Go.Shelf Go.Proofs.YtaihipdebmcmhaaDoorW.PrintWords Go.Proofs.YtaihipdebmcmhaaDoorW.PrintLast
attribute [local go_sem] Oper.semAt_some
set_option linter.unusedVariables false
/-- what line.read tells of a text: kind, key, value, number, error -/
abbrev Told := Int × ByteArray × ByteArray × Int × Int
def Told.err (x : Told) : Int := x.2.2.2.2
def mkL (R : List UInt8 → Told) (x : Int × List UInt8) : S31 := ⟨(R x.2).1, (R x.2).2.1, (R x.2).2.2.1, x.1⟩
def cells31 (x : S31) : List Value := [.int .i64 x.f0, .string x.f1, .string x.f2, .int .i64 x.f3]
def coll (R : List UInt8 → Told) (l : List (Int × List UInt8)) : List S31 × Int × Int :=
  match l.find? (fun x => (R x.2).err != 0) with
  | some x => ([], x.1, (R x.2).err)
  | none => (l.map (mkL R), 0, 0)
theorem find_none {R : List UInt8 → Told} {l : List (Int × List UInt8)} (h : ∀ x ∈ l, (R x.2).err = 0) : l.find? (fun x => (R x.2).err != 0) = none := by
  rw [List.find?_eq_none]
  intro x hx
  simp [h x hx]
theorem find_first {R : List UInt8 → Told} {l t : List (Int × List UInt8)} {x : Int × List UInt8} (h : ∀ y ∈ l, (R y.2).err = 0) (hx : (R x.2).err ≠ 0) : ((l ++ [x]) ++ t).find? (fun x => (R x.2).err != 0) = some x := by
  rw [List.append_assoc, List.find?_append, find_none h]
  simp [hx]
theorem items_len (N : Nat) : ∀ (f : Nat) (l : List (List UInt8)), (items N f l).length ≤ l.length := by
  intro f
  induction f with
  | zero => intro l; exact Nat.zero_le _
  | succ f ih =>
    intro l
    cases l with
    | nil => exact Nat.le_refl _
    | cons r rest =>
      unfold items
      split
      · exact Nat.le_succ_of_le (ih rest)
      · rw [List.length_cons, List.length_cons]
        have h1 := ih (goL r rest).2
        have h2 := (goL_suffix rest r).length_le
        omega
theorem cell_four_new (w : World) (a b c d : Value) (n : Nat) (hn : n = w.heap.size) : ∀ j u, [a, b, c, d][j]? = some u → (w.alloc (.cells #[a, b, c, d] 31)).cell? ((⟨n, 0, none⟩ : Addr).add j) = some u := by
  intro j u hj
  subst hn
  have hb : (w.alloc (.cells #[a, b, c, d] 31)).heap[w.heap.size]? = some (.cells #[a, b, c, d] 31) := World.alloc_heap_new w _
  match j, hj with
  | 0, hj => obtain rfl := Option.some.inj hj; show World.cell? _ ⟨w.heap.size, 0 + 0, none⟩ = _; unfold World.cell?; rw [hb]; rfl
  | 1, hj => obtain rfl := Option.some.inj hj; show World.cell? _ ⟨w.heap.size, 0 + 1, none⟩ = _; unfold World.cell?; rw [hb]; rfl
  | 2, hj => obtain rfl := Option.some.inj hj; show World.cell? _ ⟨w.heap.size, 0 + 2, none⟩ = _; unfold World.cell?; rw [hb]; rfl
  | 3, hj => obtain rfl := Option.some.inj hj; show World.cell? _ ⟨w.heap.size, 0 + 3, none⟩ = _; unfold World.cell?; rw [hb]; rfl
theorem info31 : (Tryd.prog.info? 31).map (fun i => (i.zero, i.size, i.bytes)) = some (some (.agg #[.int .i64 0, .string ⟨#[]⟩, .string ⟨#[]⟩, .int .i64 0]), 4, 48) := by kernel_rfl
theorem results3 {fn : Func} {p q r : Tmp} {tp tq tr : TypeId} (h : fn.results = #[.cell p tp, .cell q tq, .cell r tr]) (tmps : Array Value) (P : Program) (w : World) :
    (results fn tmps).run P w =
      ((asAddr (tmps.getD p undef)).run P w).andThen fun a w₁ => ((loadVar tp a).run P w₁).andThen fun v w₂ =>
      ((asAddr (tmps.getD q undef)).run P w₂).andThen fun b w₃ => ((loadVar tq b).run P w₃).andThen fun u w₄ =>
      ((asAddr (tmps.getD r undef)).run P w₄).andThen fun c w₅ => ((loadVar tr c).run P w₅).andThen fun z w₆ => .ok (.tuple #[v, u, z]) w₆ := by
  simp only [results, h]
  simp [Sem.run_bind, Result.andThen]
theorem under {n : Nat} {W W' : World} {B : Nat} {t : TypeId} {v : Value} (h : Boxed W B t v) (hb : Below n W W') (hn : B < n) : Boxed W' B t v := (hb.block B hn).trans h
theorem rows_t {A B C : World} (h : KeepsRows A B) (k : KeepsRows B C) : KeepsRows A C := fun i cs f hi => k i cs f (h i cs f hi)
theorem rows_b {w : World} (W : World) (l : Nat) (o o' : Obj) (_ : w.heap.size ≤ l) (h : W.heap[l]? = some o) (hc : o.isCells = false) (_ : o.isWalk = false) : KeepsRows W (W.putObj l o') := by
  intro k cs f hk
  rw [World.putObj_heap_other]
  · exact hk
  · rintro rfl
    rw [hk] at h
    cases h
    cases hc
theorem boxed_own {β : Type} (B : Nat) (t : TypeId) (v : β → Value) : Own (fun (s : β) W => Boxed W B t (v s)) := by
  intro s W W' row hs hg hr
  refine hs.kept hg ?_
  intro e
  obtain ⟨o, ho, hc⟩ := hr B e.symm
  unfold Boxed at hs
  rw [hs] at ho
  cases ho
  cases hc
set_option maxRecDepth 100000 in
set_option maxHeartbeats 4000000 in
theorem whole_calls (s : List UInt8) (w : World) : Calls Tryd.prog 22 #[.string (ba s)] w fun e w' => e = .returned (.func (.func 33) #[] #[.pointer (some ⟨w.heap.size, 0, none⟩)]) ∧ w' = w.alloc (.cells #[.string (ba s)] 9) := by
  go_enter Tryd.func22, Tryd.ntmps22
  go_wp2
  go_ret
  exact ⟨rfl, rfl⟩
theorem put_box {W : World} {B l : Nat} {t : TypeId} {v : Value} {o : Obj} (h : Boxed W B t v) (o' : Obj) (hl : W.heap[l]? = some o) (ho : o.isCells = false) : Boxed (W.putObj l o') B t v := by
  refine h.kept (grownBy_putObj' W l o') ?_
  intro e
  obtain rfl : B = l := Option.some.inj e
  unfold Boxed at h
  rw [h] at hl
  cases hl
  cases ho
theorem apart {W : World} {B G : Nat} {t : TypeId} {v u : Value} (h : Boxed W B t v) (hne : B ≠ G) : Boxed (W.setCell ⟨G, 0, none⟩ u) B t v :=
  h.kept (grownBy_setCell' W G u) (fun e => hne (Option.some.inj e))
/-- a box beside, and rows of strings, through a round's append and its store -/
theorem thru {X w2 : World} {B B' : Nat} {t : TypeId} {u v v' : Value} {n0 k : Nat} {xs : List Value} {tmp : Obj} (h : Boxed X B' t u) (ht : t ≠ 31) (hne : B' ≠ B)
    (hrow : X.ownsRow n0 31 4 v k xs) (hgrow : (X.alloc tmp).grownBy w2 v.ownBlock) : Boxed (w2.setCell ⟨B, 0, none⟩ v') B' t u :=
  apart ((h.alloc tmp).kept hgrow (h.not_row ht hrow)) hne
theorem rows_thru {W W1 X w2 : World} {B : Nat} {t : TypeId} {u v v' : Value} {n0 k : Nat} {xs : List Value} {O2 tmp : Obj} (hb : Below W.heap.size W W1) (hX : W1.alloc O2 = X) (hbox : Boxed w2 B t u) (ht : t ≠ 9)
    (hrow : X.ownsRow n0 31 4 v k xs) (hgrow : (X.alloc tmp).grownBy w2 v.ownBlock) : KeepsRows W (w2.setCell ⟨B, 0, none⟩ v') := by
  intro j cs f hj
  have hlt := (Array.getElem?_eq_some_iff.1 hj).1
  have h1 : W1.heap[j]? = some (.cells cs 9 f) := (hb.block j hlt).trans hj
  have h2 : X.heap[j]? = some (.cells cs 9 f) := by
    rw [← hX]
    exact ((World.grownBy_alloc W1 O2 none).block j (Array.getElem?_eq_some_iff.1 h1).1 (by simp)).trans h1
  have h3 : (X.alloc tmp).heap[j]? = some (.cells cs 9 f) := ((World.grownBy_alloc X tmp none).block j (Array.getElem?_eq_some_iff.1 h2).1 (by simp)).trans h2
  have hnr : some j ≠ v.ownBlock := by
    rcases hrow.2 with ⟨rfl, _⟩ | ⟨g, cap, cur, rfl, _, hgb, _⟩
    · simp [Value.ownBlock]
    · intro e'
      obtain rfl : j = g := by simpa [Value.ownBlock] using e'
      have := h2.symm.trans hgb
      simp at this
  have h4 : w2.heap[j]? = some (.cells cs 9 f) := (hgrow.block j (Array.getElem?_eq_some_iff.1 h3).1 hnr).trans h3
  refine ((grownBy_setCell' w2 B v').block j (Array.getElem?_eq_some_iff.1 h4).1 ?_).trans h4
  intro e
  obtain rfl : j = B := Option.some.inj e
  have := h4.symm.trans (show w2.heap[j]? = _ from hbox)
  simp at this
  exact ht this.2.1.symm
theorem res3 {X : World} {n0 : Nat} {A : Option Addr} {k c : Nat} {a b : Int} (tmps : Array Value) (h2 : Boxed X n0 26 (.slice A k c)) (h3 : Boxed X (n0 + 1) 3 (.int .i64 a)) (h4 : Boxed X (n0 + 1 + 1) 27 (.int .i64 b))
    (t2 : tmps.getD 2 undef = .pointer (some ⟨n0, 0, none⟩)) (t3 : tmps.getD 3 undef = .pointer (some ⟨n0 + 1, 0, none⟩)) (t4 : tmps.getD 4 undef = .pointer (some ⟨n0 + 1 + 1, 0, none⟩)) :
    (results Tryd.f11 tmps).run Tryd.prog X = .ok (.tuple #[.slice A k c, .int .i64 a, .int .i64 b]) X := by
  have c2 := h2.cell
  have c3 := h3.cell
  have c4 := h4.cell
  rw [results3 (fn := Tryd.f11) rfl, t2, t3, t4]
  have q26 := Tryd.underlying26
  have q3 := Tryd.underlying3
  have q27 := Tryd.underlying27
  simp [go_sem, c2, c3, c4, Result.andThen]
set_option maxRecDepth 100000 in
set_option maxHeartbeats 4000000 in
theorem lines_in (n : Nat) (hn : 3 ≤ n) (s : List UInt8) (hs : s.length ≤ 4000) (rows : List (List UInt8)) (hrows : Lib.splitB ⟨#[10]⟩ 0 (Lib.countB (ba s) ⟨#[10]⟩) (ba s) = rows.map ba) (htot : tot rows ≤ 4000)
    (R : List UInt8 → Told) (hR : ∀ t, ∃ k, line_read.f k (ba t) = some (R t)) (w : World) (hG : GW w) (m : Int) (hm : w.cell? ⟨0, 0, none⟩ = some (.int .i64 m)) (hw0 : 0 < w.heap.size) :
    CallsIn Fence.wide n Tryd.prog 11 #[.string (ba s)] w fun e w' => ∃ v, e = .returned (.tuple #[v, .int .i64 (coll R (items rows.length rows.length rows)).2.1, .int .i64 (coll R (items rows.length rows.length rows)).2.2]) ∧
      w'.ownsRow w.heap.size 31 4 v (coll R (items rows.length rows.length rows)).1.length ((coll R (items rows.length rows.length rows)).1.flatMap cells31) ∧ Below w.heap.size w w' := by
  have h1 : 1 ≤ n := by omega
  refine callsIn_of_wp_marks Tryd.func11 rfl trivial ?_ rfl
  simp only [Tryd.ntmps11, List.size_toArray, List.length_cons, List.length_nil, Nat.reduceAdd, Nat.reduceSub, Array.replicate_succ, Array.replicate_zero, List.push_toArray, List.append_toArray, List.nil_append, List.cons_append]
  have hN : rows.length ≤ 4001 := by
    have hc1 := Lib.splitB_all ⟨#[10]⟩ (by decide) 0 (Lib.countB (ba s) ⟨#[10]⟩) (ba s) rfl
    have hc2 := Lib.countB_le ⟨#[10]⟩ (by decide) (ba s).size (ba s) (Nat.le_refl _)
    rw [hrows, List.length_map] at hc1
    rw [ba_size] at hc2
    omega
  have hsz : ¬ (4000 < (ba s).size) := by rw [ba_size]; omega
  have hsz2 : decide ((4000 : Int) < ((ba s).size : Int)) = false := decide_eq_false (by omega)
  gi_wp2_with (refine ⟨trivial, ?_⟩; gi_at_call 22; refine (callsIn_wide.2 (whole_calls s _)).mono ?_; rintro e w5 ⟨rfl, rfl⟩)
  obtain ⟨n0, hn0⟩ : ∃ n0, w.heap.size = n0 := ⟨_, rfl⟩
  rw [hn0] at hw0 ⊢
  obtain ⟨w5, hw5⟩ : ∃ w5, ((((w.alloc (.cells #[.slice none 0 0] 26)).alloc (.cells #[.int .i64 0] 3)).alloc (.cells #[.int .i64 0] 27)).alloc (.cells #[.slice none 0 0] 26)).alloc (.cells #[.string (ba s)] 9) = w5 := ⟨_, rfl⟩
  have hsz5 : w5.heap.size = n0 + 1 + 1 + 1 + 1 + 1 := by rw [← hw5, ← hn0]; simp
  have hb5 : Below n0 w w5 := by
    rw [← hw5, ← hn0]
    exact ((((Below.refl _ w).alloc (Nat.le_refl _) _).alloc (by simp) _).alloc (by simp; omega) _).alloc (by simp; omega) _ |>.alloc (by simp; omega) _
  have b2 : Boxed w5 n0 26 (.slice none 0 0) := by
    rw [← hw5, ← hn0]
    exact ((((Boxed.new w 26 (.slice none 0 0)).alloc _).alloc _).alloc _).alloc _
  have b3 : Boxed w5 (n0 + 1) 3 (.int .i64 0) := by
    rw [← hw5, ← hn0]
    have := Boxed.new (w.alloc (.cells #[.slice none 0 0] 26)) 3 (.int .i64 0)
    rw [World.size_alloc] at this
    exact ((this.alloc _).alloc _).alloc _
  have b4 : Boxed w5 (n0 + 1 + 1) 27 (.int .i64 0) := by
    rw [← hw5, ← hn0]
    have := Boxed.new ((w.alloc (.cells #[.slice none 0 0] 26)).alloc (.cells #[.int .i64 0] 3)) 27 (.int .i64 0)
    rw [World.size_alloc, World.size_alloc] at this
    exact (this.alloc _).alloc _
  have b5 : Boxed w5 (n0 + 1 + 1 + 1) 26 (.slice none 0 0) := by
    rw [← hw5, ← hn0]
    have := Boxed.new (((w.alloc (.cells #[.slice none 0 0] 26)).alloc (.cells #[.int .i64 0] 3)).alloc (.cells #[.int .i64 0] 27)) 26 (.slice none 0 0)
    rw [World.size_alloc, World.size_alloc, World.size_alloc] at this
    exact this.alloc _
  have b6 : Boxed w5 (n0 + 1 + 1 + 1 + 1) 9 (.string (ba s)) := by
    rw [← hw5, ← hn0]
    have := Boxed.new ((((w.alloc (.cells #[.slice none 0 0] 26)).alloc (.cells #[.int .i64 0] 3)).alloc (.cells #[.int .i64 0] 27)).alloc (.cells #[.slice none 0 0] 26)) 9 (.string (ba s))
    rw [World.size_alloc, World.size_alloc, World.size_alloc, World.size_alloc] at this
    exact this
  have hm5 : w5.cell? ⟨0, 0, none⟩ = some (.int .i64 m) := (hb5.cell (p := ⟨0, 0, none⟩) hw0).trans hm
  rw [hw5]
  have hbn : Below n0 w w5 := hb5
  refine wpIn_rangeFunc_ownF (F := Fence.wide) rfl h1 (gf := 33) (lb := #[.pointer (some ⟨n0 + 1 + 1 + 1 + 1, 0, none⟩)]) rfl trivial (enters_of Tryd.func33 (by kernel_rfl) rfl)
    (encs := fun x : Int × List UInt8 => #[Value.int .i64 x.1, .string (ba x.2)]) (Kp := KeepsRows) (S := fun xs => xs = items rows.length rows.length rows) (Sp := fun pre => pre <+: items rows.length rows.length rows) (N := (items rows.length rows.length rows).length) (w0 := w5)
    (fun l J Jx W hW hJ hJx hY h0 => whole_in (n - 1) l (n0 + 1 + 1 + 1 + 1) (by omega) m s hs rows hrows htot J Jx W hJ hY (under b6 hW (by omega)) ((hW.cell (p := ⟨0, 0, none⟩) (by show 0 < w5.heap.size; omega)).trans hm5) h0)
    rows_t rows_b (Below.refl _ _) (fun _ => rfl)
    (fun pre W => (∃ v, Boxed W (n0 + 1 + 1 + 1) 26 v ∧ W.ownsRow n0 31 4 v pre.length ((pre.map (mkL R)).flatMap cells31) ∧ (v = .slice none 0 0 ↔ pre = [])) ∧ Boxed W n0 26 (.slice none 0 0) ∧ Boxed W (n0 + 1) 3 (.int .i64 0) ∧ Boxed W (n0 + 1 + 1) 27 (.int .i64 0) ∧ Below n0 w W ∧ (∀ x ∈ pre, (R x.2).err = 0))
    (fun c pre W => ∃ pre0 x, (c = .ret ∧ pre = pre0 ++ [x] ∧ (∀ y ∈ pre0, (R y.2).err = 0) ∧ (R x.2).err ≠ 0) ∧ Boxed W n0 26 (.slice none 0 0) ∧ Boxed W (n0 + 1) 3 (.int .i64 x.1) ∧ Boxed W (n0 + 1 + 1) 27 (.int .i64 (R x.2).err) ∧ Below n0 w W)
    ?hI ?hIx ⟨⟨_, b5, World.ownsRow_nil .., by simp⟩, b2, b3, b4, hbn, fun x hx => nomatch hx⟩
    (fun x => { tmps := #[.string (ba s), undef, .pointer (some ⟨n0, 0, none⟩), .pointer (some ⟨n0 + 1, 0, none⟩), .pointer (some ⟨n0 + 1 + 1, 0, none⟩), .pointer (some ⟨n0 + 1 + 1 + 1, 0, none⟩), .int .i64 x.1, .string (ba x.2), undef, undef, .string (ba s), .int .i64 ((ba s).size : Int), .bool false, .string (ba s), .func (.func 33) #[] #[.pointer (some ⟨n0 + 1 + 1 + 1 + 1, 0, none⟩)], .int .i64 x.1, .string (ba x.2), undef, undef, undef, undef, undef, undef, undef, undef, undef, undef, undef, undef, undef, undef, undef, undef], defers := [] }) ?assign ?body ?done ?stop
  case hI =>
    exact OwnFrom.and (Own.from (holdsRow_own n0 (n0 + 1 + 1 + 1) 26 31 4 (fun pre => pre.length) (fun pre : List (Int × List UInt8) => (pre.map (mkL R)).flatMap cells31) (fun pre v => v = .slice none 0 0 ↔ pre = [])) _) (OwnFrom.and (Own.from (boxed_own n0 26 (fun _ => .slice none 0 0)) _) (OwnFrom.and (Own.from (boxed_own (n0 + 1) 3 (fun _ => .int .i64 0)) _) (OwnFrom.and (Own.from (boxed_own (n0 + 1 + 1) 27 (fun _ => .int .i64 0)) _) (OwnFrom.and (ownFrom_below (by omega) (by omega)) (fun s W W' row hs _ _ => hs)))))
  case hIx =>
    rintro c pre W W' row ⟨pre0, x, h, h2, h3, h4, h5⟩ hg hr
    have kept : ∀ B t v, Boxed W B t v → Boxed W' B t v := fun B t v hb => (boxed_own B t (fun _ : Unit => v)) () W W' row hb hg (fun r e => (hr r e).2)
    exact ⟨pre0, x, h, kept _ _ _ h2, kept _ _ _ h3, kept _ _ _ h4, h5.grown hg (by have := h5.size; omega) (fun k e => by have := (hr k e).1; omega)⟩
  case assign =>
    intro l x W K hK
    gi_wp2
    exact hK
  case body =>
    rintro l pre x W ⟨⟨v, hv, hrow, hnil⟩, hb2, hb3, hb4, hB, hok⟩ hlen
    have hn2 : 1 ≤ n - 1 - 1 := by omega
    obtain ⟨k, hk⟩ := hR x.2
    obtain ⟨y, hy⟩ : ∃ y, R x.2 = y := ⟨_, rfl⟩
    obtain ⟨r1, r2, r3, r4, r5⟩ := y
    rw [hy] at hk
    have hrd := line_read.calls k (ba x.2) r1 r2 r3 r4 r5 W hk (hG.below (by rw [hn0]; exact hB))
    have herr : (R x.2).err = r5 := by rw [hy]; rfl
    obtain ⟨A, cp, rfl⟩ := own_slice hrow
    by_cases h5 : r5 = 0
    · subst h5
      obtain ⟨i0, hi, hz0, hz1, hz2⟩ := info_parts info31
      have hlen0 : pre.length + 1 ≤ 4001 := Nat.le_trans hlen (Nat.le_trans (items_len _ _ _) hN)
      have hlen1 : pre.length + 1 ≤ maxLen := Nat.le_trans hlen0 (by decide)
      have hlen2 : (pre.length + 1) * 48 ≤ 140737488355328 := Nat.le_trans (Nat.mul_le_mul_right 48 hlen0) (by decide)
      have hne2 : n0 ≠ n0 + 1 + 1 + 1 := by omega
      have hne3 : n0 + 1 ≠ n0 + 1 + 1 + 1 := by omega
      have hne4 : n0 + 1 + 1 ≠ n0 + 1 + 1 + 1 := by omega
      have hnb : n0 ≤ n0 + 1 + 1 + 1 := by omega
      have hWle : n0 ≤ W.heap.size := Nat.le_of_lt hb2.lt
      gi_wp2_with (first | (refine ⟨trivial, ?_⟩; gi_at_call 23; refine (CallsIn.inRound l (callsIn_wide.2 hrd)).mono ?_; rintro e W1 ⟨rfl, hb1⟩; have hX1 : n0 ≤ (W1.alloc (.cells #[.int .i64 r1, .string r2, .string r3, .int .i64 x.1] 31)).heap.size := Nat.le_trans hWle (Nat.le_trans hb1.size (World.grownBy_alloc _ _ none).size); have g5 := (under hv hb1 hv.lt).alloc (.cells #[.int .i64 r1, .string r2, .string r3, .int .i64 x.1] 31); have f5 := g5.frozen; have c5 := g5.cell; have hr5 := World.ownsRow.alloc (pw_own_below hrow hb1) (.cells #[.int .i64 r1, .string r2, .string r3, .int .i64 x.1] 31)) | (gi_at_builtin; refine wpListIn_append_own _ rfl _ _ 26 rfl n0 31 i0 _ 4 48 Tryd.underlying26 hi hz0 hz1 hz2 rfl (by decide) _ _ _ rfl (World.ownsRow.alloc hr5 _) ⟨W1.heap.size + 1, 0, none⟩ 1 1 [.int .i64 r1, .string r2, .string r3, .int .i64 x.1] rfl rfl (cell_four_new _ _ _ _ _ _ (by simp)) (by simp [Value.oneCell']) hlen1 hlen2 (Nat.le_trans hX1 (World.grownBy_alloc _ _ none).size) ?_; intro v' w2 hown' hgrow hnil2; obtain ⟨g', cap', rfl⟩ := ownsRow_succ hown'; obtain ⟨hv1, hv2, hr2, hk2, hbb2⟩ := g5.appended (by decide) hr5 hX1 hnb hown' hgrow; have hc1 := hv1.cell; have hf1 := hv1.frozen))
      have hb1' : Below n0 W W1 := hb1.mono hWle
      have k1 : KeepsOthers W W1 := KeepsOthers.of_grownBy (grown_of_below hb1) (fun j o e => by cases e)
      have hmk : pre.length + 1 = (pre ++ [x]).length := by simp
      have hfm : (pre.map (mkL R)).flatMap cells31 ++ [Value.int .i64 r1, .string r2, .string r3, .int .i64 x.1] = ((pre ++ [x]).map (mkL R)).flatMap cells31 := by simp [mkL, cells31, hy]
      have hokx : ∀ y ∈ pre ++ [x], (R y.2).err = 0 := by
        intro y hyy
        rcases List.mem_append.1 hyy with h | h
        · exact hok y h
        · rw [List.mem_singleton.1 h, herr]
      have hb2a := (under hb2 hb1 hb2.lt).alloc (.cells #[.int .i64 r1, .string r2, .string r3, .int .i64 x.1] 31)
      have hb3a := (under hb3 hb1 hb3.lt).alloc (.cells #[.int .i64 r1, .string r2, .string r3, .int .i64 x.1] 31)
      have hb4a := (under hb4 hb1 hb4.lt).alloc (.cells #[.int .i64 r1, .string r2, .string r3, .int .i64 x.1] 31)
      rw [hfm] at hr2
      refine ⟨(k1.trans (KeepsOthers.alloc _ _)).trans hk2, rows_thru hb1 rfl hv1 (by decide) hr5 hgrow, ⟨⟨_, hv2, by rw [← hmk]; exact hr2, by simp⟩, thru hb2a (by decide) hne2 hr5 hgrow, thru hb3a (by decide) hne3 hr5 hgrow, thru hb4a (by decide) hne4 hr5 hgrow, ((hB.trans hb1').alloc (Nat.le_trans hWle hb1.size) _).trans hbb2, hokx⟩⟩
    · have e5 : (r5 != 0) = true := bne_iff_ne.mpr h5
      have e6 : (r5 == 0) = false := beq_eq_false_iff_ne.mpr h5
      gi_wp2_with (refine ⟨trivial, ?_⟩; gi_at_call 23; refine (CallsIn.inRound l (callsIn_wide.2 hrd)).mono ?_; rintro e W1 ⟨rfl, hb1⟩; have g2 := (under hb2 hb1 hb2.lt).alloc (.cells #[.int .i64 r1, .string r2, .string r3, .int .i64 r4] 31); have g3 := (under hb3 hb1 hb3.lt).alloc (.cells #[.int .i64 r1, .string r2, .string r3, .int .i64 r4] 31); have g4 := (under hb4 hb1 hb4.lt).alloc (.cells #[.int .i64 r1, .string r2, .string r3, .int .i64 r4] 31); have f2 := g2.frozen; have c2 := g2.cell; have f3 := g3.frozen; have c3 := g3.cell; have f4 := g4.frozen; have c4 := g4.cell)
      have hWle : n0 ≤ W.heap.size := by have := hb2.lt; omega
      have hne1 : n0 + 1 ≠ n0 := by omega
      have hne2 : n0 + 1 + 1 ≠ n0 := by omega
      have hne3 : n0 + 1 + 1 ≠ n0 + 1 := by omega
      have hk1 : KeepsOthers W W1 := KeepsOthers.of_grownBy (grown_of_below hb1) (fun j o e => by cases e)
      refine ⟨(((hk1.trans (KeepsOthers.alloc _ _)).trans (KeepsOthers.setCell _ _ _)).trans (KeepsOthers.setCell _ _ _)).trans (KeepsOthers.setCell _ _ _), pre, x, ⟨rfl, rfl, hok, by rw [herr]; exact h5⟩, ?_, ?_, ?_, ?_⟩
      · exact apart (apart (g2.set _) hne1.symm) hne2.symm
      · exact apart ((apart g3 hne1).set _) hne3.symm
      · rw [herr]
        exact (apart (apart g4 hne2) hne3).set _
      · exact ((((hB.trans (hb1.mono hWle)).alloc (Nat.le_trans hWle hb1.size) _).setCell (p := ⟨n0, 0, none⟩) (Nat.le_refl _) _).setCell (p := ⟨n0 + 1, 0, none⟩) (Nat.le_succ _) _).setCell (p := ⟨n0 + 1 + 1, 0, none⟩) (Nat.le_succ_of_le (Nat.le_succ _)) _
  case done =>
    rintro D xs W hD rfl ⟨⟨v, hv, hrow, hnil⟩, hb2, hb3, hb4, hB, hok⟩ hK
    obtain ⟨A, cp, rfl⟩ := own_slice hrow
    have hvc := hv.cell
    have f2 := hb2.frozen
    have c2 := hb2.cell
    have f3 := hb3.frozen
    have c3 := hb3.cell
    have f4 := hb4.frozen
    have c4 := hb4.cell
    gi_wp2
    have hf := find_none (R := R) hok
    have hcoll : coll R (items rows.length rows.length rows) = ((items rows.length rows.length rows).map (mkL R), 0, 0) := by unfold coll; rw [hf]
    rw [hcoll, hn0]
    obtain ⟨X, hX⟩ : ∃ X, ((W.setCell ⟨n0, 0, none⟩ (.slice A (items rows.length rows.length rows).length cp)).setCell ⟨n0 + 1, 0, none⟩ (.int .i64 0)).setCell ⟨n0 + 1 + 1, 0, none⟩ (.int .i64 0) = X := ⟨_, rfl⟩
    have x2 : Boxed X n0 26 (.slice A (items rows.length rows.length rows).length cp) := by rw [← hX]; exact apart (apart (hb2.set _) (by omega)) (by omega)
    have x3 : Boxed X (n0 + 1) 3 (.int .i64 0) := by rw [← hX]; exact apart ((apart hb3 (by omega)).set _) (by omega)
    have x4 : Boxed X (n0 + 1 + 1) 27 (.int .i64 0) := by rw [← hX]; exact (apart (apart hb4 (by omega)) (by omega)).set _
    have xk : KeepsOthers W X := by rw [← hX]; exact ((KeepsOthers.setCell _ _ _).trans (KeepsOthers.setCell _ _ _)).trans (KeepsOthers.setCell _ _ _)
    have xb : Below n0 w X := by rw [← hX]; exact ((hB.setCell (p := ⟨n0, 0, none⟩) (Nat.le_refl _) _).setCell (p := ⟨n0 + 1, 0, none⟩) (Nat.le_succ _) _).setCell (p := ⟨n0 + 1 + 1, 0, none⟩) (Nat.le_succ_of_le (Nat.le_succ _)) _
    have xr : X.ownsRow n0 31 4 (.slice A (items rows.length rows.length rows).length cp) (items rows.length rows.length rows).length (((items rows.length rows.length rows).map (mkL R)).flatMap cells31) := by
      rw [← hX]
      have r1 := hrow.kept (grownBy_setCell' W n0 (.slice A (items rows.length rows.length rows).length cp)) (.inr (hb2.not_row (by decide) hrow).symm)
      have r2 := r1.kept (grownBy_setCell' _ (n0 + 1) (.int .i64 0)) (.inr ((apart (u := .slice A (items rows.length rows.length rows).length cp) hb3 (show n0 + 1 ≠ n0 by omega)).not_row (by decide) r1).symm)
      exact r2.kept (grownBy_setCell' _ (n0 + 1 + 1) (.int .i64 0)) (.inr ((apart (u := .int .i64 0) (apart (u := .slice A (items rows.length rows.length rows).length cp) hb4 (show n0 + 1 + 1 ≠ n0 by omega)) (show n0 + 1 + 1 ≠ n0 + 1 by omega)).not_row (by decide) r2).symm)
    have hKX := xk.same D _ hK rfl
    rw [hX]
    refine ⟨by simp, .inl ⟨_, _, rfl, run_takeDeferred hKX, ?_⟩⟩
    refine ⟨_, res3 _ (put_box x2 _ hKX rfl) (put_box x3 _ hKX rfl) (put_box x4 _ hKX rfl) rfl rfl rfl, _, rfl, ?_, ?_⟩
    · rw [List.length_map]
      exact ownsRow_putObj xr _ hKX rfl
    · exact xb.grown (grownBy_putObj' X D _) (by have := xb.size; omega) (fun k e => by cases e; omega)
  case stop =>
    rintro D c pre W hD ⟨tl, htl⟩ ⟨pre0, x, ⟨rfl, rfl, hok, hne⟩, hb2, hb3, hb4, hB⟩ hK
    gi_wp2
    have hcoll : coll R (items rows.length rows.length rows) = ([], x.1, (R x.2).err) := by unfold coll; rw [← htl, find_first hok hne]
    rw [hcoll, hn0]
    refine ⟨by simp, .inl ⟨_, _, rfl, run_takeDeferred hK, ?_⟩⟩
    refine ⟨_, res3 _ (put_box hb2 _ hK rfl) (put_box hb3 _ hK rfl) (put_box hb4 _ hK rfl) rfl rfl rfl, _, rfl, World.ownsRow_nil .., ?_⟩
    exact hB.grown (grownBy_putObj' W D _) (by have := hB.size; omega) (fun k e => by cases e; omega)
end Go.Proofs.YtaihipdebmcmhaaDoor.Lines
