/- unitfile.Print, walked. -/
import Derived.Test.YtbigbjfppaenfaaDoorWf
import Derived.Test.YtbigbjfppaenfaaDoorWg
import Derived.Test.YtbigbjfppaenfaaDoorMq
namespace Go.Proofs.YtbigbjfppaenfaaDoor.Lines
open Go.RowKit Go.Shelf Go.Proofs.YtbigbjfppaenfaaDoorW.PrintWords Go.Proofs.YtbigbjfppaenfaaDoorW.PrintLast
attribute [local go_sem] Oper.semAt_some
attribute [local go_sem high] eqA37
set_option linter.unusedVariables false
set_option linter.unusedSimpArgs false
/-- the builder holds these bytes -/
def Bl (n0 b : Nat) (acc : ByteArray) (W : World) : Prop := Lib.IsBuilderF 75 5 n0 b (Lib.byteCells acc.data.toList) W
theorem Bl.write {n0 b : Nat} {acc : ByteArray} {W : World} (h : Bl n0 b acc W) (s : ByteArray) (hlen : acc.size + s.size ≤ 140737488355328) (hn : n0 ≤ W.heap.size) :
    Calls Tryd.prog 30 #[.pointer (some ⟨b, 0, none⟩), .string s] W fun e W' => e = .returned (.tuple #[.int .i64 s.size, .nilIface]) ∧ Bl n0 b (acc ++ s) W' ∧ Below n0 W W' ∧ Lib.OthersKept 5 (some b) W W' := by
  refine (writeString n0 b _ s W h (by rw [Lib.byteCells_length]; exact hlen) hn).mono ?_
  rintro e W' ⟨rfl, h1, h2, h3⟩
  refine ⟨rfl, ?_, h2, h3⟩
  unfold Bl
  have e : Lib.byteCells (acc ++ s).data.toList = Lib.byteCells acc.data.toList ++ Lib.strCells s := by
    rw [ByteArray.data_append, Array.toList_append, Lib.strCells_eq]
    simp [Lib.byteCells]
  rw [e]
  exact .inr h1
theorem Bl.block {n0 b : Nat} {acc : ByteArray} {W : World} (h : Bl n0 b acc W) : ∃ cs fr, W.heap[b]? = some (.cells cs 75 fr) := by
  rcases h with h | h
  · obtain ⟨_, v, hb, _⟩ := h
    exact ⟨_, _, hb⟩
  · obtain ⟨_, v, hb, _⟩ := h
    exact ⟨_, _, hb⟩
theorem BuilderAtF_turn {n0 b : Nat} {p : Value} {bs : List Value} {W W' : World} {q : Nat → Prop} (h : Lib.BuilderAtF 75 5 n0 b p bs W) (ht : Turn q W W') (hb : ¬ q b) (hr : ∀ k c fz, q k → W.heap[k]? ≠ some (Obj.cells c 5 fz)) : Lib.BuilderAtF 75 5 n0 b p bs W' := by
  obtain ⟨hB, v, hbk, hown, hne⟩ := h
  refine ⟨hB, v, ht.heap hbk hb, ?_, hne⟩
  obtain ⟨h1, h2⟩ := hown
  refine ⟨h1, ?_⟩
  rcases h2 with h2 | ⟨g, cap, cur, fz, rfl, hg, hh, r⟩
  · exact .inl h2
  · exact .inr ⟨g, cap, cur, fz, rfl, hg, ht.heap hh (fun hq => hr g cur fz hq hh), r⟩
theorem Bl.turn {n0 b : Nat} {acc : ByteArray} {W W' : World} {q : Nat → Prop} (h : Bl n0 b acc W) (ht : Turn q W W') (hb : ¬ q b) (hr : ∀ k c fz, q k → W.heap[k]? ≠ some (Obj.cells c 5 fz)) : Bl n0 b acc W' := by
  rcases h with h | h
  · exact .inl (BuilderAtF_turn h ht hb hr)
  · exact .inr (BuilderAtF_turn h ht hb hr)
theorem box_others {W W' : World} {b B : Nat} {t : TypeId} {v : Value} (h : Boxed W B t v) (hk : Lib.OthersKept 5 (some b) W W') (hne : B ≠ b) (ht : t ≠ 5) : Boxed W' B t v := hk B _ h (by simpa using hne) (by rintro c fz e; cases e; exact ht rfl)
theorem row_others {W W' : World} {b k : Nat} {cs : Array Value} {t : TypeId} {fr : Nat × Nat} (h : W.heap[k]? = some (.cells cs t fr)) (hk : Lib.OthersKept 5 (some b) W W') (hne : k ≠ b) (ht : t ≠ 5) : W'.heap[k]? = some (.cells cs t fr) := hk k _ h (by simpa using hne) (by rintro c fz e; cases e; exact ht rfl)
/-- what Print's loops keep -/
structure Pt (n0 : Nat) (w : World) (A : Option Addr) (c : Nat) (xs : List S37) (acc : ByteArray) (W : World) : Prop where
  f : Boxed W n0 25 (.slice A xs.length c)
  b : Bl n0 (n0 + 1) acc W
  g : Boxed W (n0 + 2) 25 (.slice A xs.length c)
  row : ∀ ad, A = some ad → ∃ cs fr, W.heap[ad.block]? = some (Obj.cells cs 37 fr)
  rd : Kd.C k37 W A xs.length xs
  bel : Below n0 w W
  size : n0 + 3 ≤ W.heap.size
theorem Pt.turn {n0 : Nat} {w W W' : World} {A : Option Addr} {c : Nat} {xs : List S37} {acc : ByteArray} (h : Pt n0 w A c xs acc W) (ht : Turn (fun _ => False) W W') (hn : n0 ≤ w.heap.size) : Pt n0 w A c xs acc W' :=
  ⟨ht.boxed h.f (fun h => h), h.b.turn ht (fun h => h) (fun _ _ _ h => h.elim), ht.boxed h.g (fun h => h), fun ad e => by obtain ⟨cs, fr, hr⟩ := h.row ad e; exact ⟨cs, fr, ht.heap hr (fun h => h)⟩, C37_turn h.rd ht, h.bel.trans (ht.toBelow (fun _ _ h => h) (Nat.le_trans hn h.bel.size)), Nat.le_trans h.size ht.size⟩
theorem Pt.write {n0 : Nat} {w W W' : World} {A : Option Addr} {c : Nat} {xs : List S37} {acc acc' : ByteArray} (h : Pt n0 w A c xs acc W) (hb : Bl n0 (n0 + 1) acc' W') (h2 : Below n0 W W') (h3 : Lib.OthersKept 5 (some (n0 + 1)) W W') : Pt n0 w A c xs acc' W' := by
  have hne : ∀ ad, A = some ad → ad.block ≠ n0 + 1 := by
    intro ad e e2
    obtain ⟨cs, fr, hr⟩ := h.row ad e
    obtain ⟨cs2, fr2, hr2⟩ := h.b.block
    rw [e2, hr2] at hr
    cases hr
  refine ⟨box_others h.f h3 (by omega) (by decide), hb, box_others h.g h3 (by omega) (by decide), fun ad e => ?_, C37_on h.rd (fun ad e => ?_), h.bel.trans h2, Nat.le_trans h.size h2.size⟩
  · obtain ⟨cs, fr, hr⟩ := h.row ad e
    exact ⟨cs, fr, row_others hr h3 (hne ad e) (by decide)⟩
  · obtain ⟨cs, fr, hr⟩ := h.row ad e
    rw [row_others hr h3 (hne ad e) (by decide), hr]
theorem Pt.own {n0 B : Nat} {w : World} {A : Option Addr} {c : Nat} {xs : List S37} {f : List ByteArray → ByteArray} (hn : n0 ≤ w.heap.size) (hB : n0 ≤ B) : OwnFrom B (fun pre => Pt n0 w A c xs (f pre)) := by
  intro s W W' row hs hg hr
  have ht : Turn (fun k => row = some k) W W' := Turn.grown hg (fun k e => e)
  have nc : ∀ k cs t fr, row = some k → W.heap[k]? ≠ some (Obj.cells cs t fr) := by
    rintro k cs t fr e h
    obtain ⟨_, o, ho, hoc⟩ := hr k e
    rw [h] at ho
    cases ho
    cases hoc
  have kb : ∀ B2 t v, Boxed W B2 t v → Boxed W' B2 t v := fun B2 t v hb => ht.boxed hb (fun e => nc _ _ _ _ e hb)
  obtain ⟨cs0, fr0, hb0⟩ := hs.b.block
  refine ⟨kb _ _ _ hs.f, hs.b.turn ht (fun e => nc _ _ _ _ e hb0) (fun k c fz e => nc _ _ _ _ e), kb _ _ _ hs.g, fun ad e => ?_, C37_on hs.rd (fun ad e => ?_), hs.bel.grown hg (Nat.le_trans hn hs.bel.size) (fun k e => Nat.le_trans hB (hr k e).1), Nat.le_trans hs.size hg.size⟩
  · obtain ⟨cs, fr, h⟩ := hs.row ad e
    exact ⟨cs, fr, ht.heap h (fun e => nc _ _ _ _ e h)⟩
  · obtain ⟨cs, fr, h⟩ := hs.row ad e
    rw [ht.heap h (fun e => nc _ _ _ _ e h), h]
theorem wide_take {xs : List S37} {j : Nat} : wide (xs.take j) ≤ wide xs := by
  unfold wide
  conv => rhs; rw [← List.take_append_drop j xs, List.map_append, List.sum_append]
  exact Nat.le_add_right _ _
theorem wide_get {xs : List S37} {j : Nat} (h : j < xs.length) : wide (xs.take j) + ((xs[j]).f1.size + (xs[j]).f2.size + 2) ≤ wide xs := by
  have e : wide (xs.take (j + 1)) = wide (xs.take j) + ((xs[j]).f1.size + (xs[j]).f2.size + 2) := by
    unfold wide
    rw [take_snoc h, List.map_append, List.sum_append]
    simp
  rw [← e]
  exact wide_take
theorem head_fits {s m k : Nat} {x : ByteArray} (h : s + (x.size + 3) + m ≤ k) : s + (⟨#[91]⟩ ++ x ++ ⟨#[93, 10]⟩ : ByteArray).size ≤ k := by
  simp only [ByteArray.size_append, sz91, sz93]
  omega
theorem x_fits {s m k : Nat} {x : ByteArray} (h : s + (x.size + 3) + m ≤ k) : x.size ≤ k := by omega
theorem f1_fits {s k : Nat} {a b : ByteArray} (h : s + (a.size + b.size + 2) ≤ k) : a.size ≤ k := by omega
theorem f2_fits {s k : Nat} {a b : ByteArray} (h : s + (a.size + b.size + 2) ≤ k) : b.size ≤ k := by omega
theorem line_fits {acc x : ByteArray} {xs : List S37} {j k : Nat} (hlt : j < xs.length) (h : acc.size + (x.size + 3) + wide xs ≤ k) :
    ((xs.take j).foldl (pstep x) (((acc ++ (⟨#[91]⟩ : ByteArray)) ++ x) ++ (⟨#[93, 10]⟩ : ByteArray))).size + ((xs[j]).f1.size + (xs[j]).f2.size + 2) ≤ k := by
  have e2 := pfold_size x (xs.take j) (((acc ++ (⟨#[91]⟩ : ByteArray)) ++ x) ++ (⟨#[93, 10]⟩ : ByteArray))
  have e3 := wide_get hlt
  have e4 : (((acc ++ (⟨#[91]⟩ : ByteArray)) ++ x) ++ (⟨#[93, 10]⟩ : ByteArray)).size = acc.size + 1 + x.size + 2 := by simp only [ByteArray.size_append, sz91, sz93]
  rw [e4] at e2
  generalize ((xs.take j).foldl (pstep x) (((acc ++ (⟨#[91]⟩ : ByteArray)) ++ x) ++ (⟨#[93, 10]⟩ : ByteArray))).size = z at e2 ⊢
  clear e4
  omega
theorem line_size {s k : Nat} {a b : ByteArray} (h : s + (a.size + b.size + 2) ≤ k) : s + (((a ++ (⟨#[61]⟩ : ByteArray)) ++ b) ++ (⟨#[10]⟩ : ByteArray)).size ≤ k := by
  simp only [ByteArray.size_append, sz61, sz10]
  omega
theorem take_pfold {x acc : ByteArray} {xs : List S37} {j : Nat} (h : j < xs.length) : (xs.take (j + 1)).foldl (pstep x) acc = pstep x ((xs.take j).foldl (pstep x) acc) (xs[j]) := by
  rw [take_snoc h, List.foldl_append]
  rfl
set_option maxRecDepth 100000 in
set_option maxHeartbeats 8000000 in
theorem print_in (n : Nat) (hn : 8 ≤ n) (A : Option Addr) (c : Nat) (xs : List S37) (w : World) (hC : Kd.C k37 w A xs.length xs) (hA : ∀ ad, A = some ad → ∃ cs fr, w.heap[ad.block]? = some (Obj.cells cs 37 fr)) (hsh : ∀ s ∈ xs, s.f0.size ≤ maxLen) (hlen : xs.length ≤ 1000000)
    (hW : ∀ pre x, (∃ rest, pre ++ x :: rest = xs.foldl sstep []) → (pre.foldl (ptstep xs) (⟨#[]⟩ : ByteArray)).size + (x.size + 3) + wide xs ≤ 140737488355328) :
    CallsIn Fence.wide n Tryd.prog 16 #[.agg #[.slice A xs.length c]] w fun e w' => e = .returned (.string ((xs.foldl sstep []).foldl (ptstep xs) (⟨#[]⟩ : ByteArray))) ∧ Below w.heap.size w w' := by
  have h1 : 1 ≤ n := by omega
  refine callsIn_of_wp_marks Tryd.func16 rfl trivial ?_ rfl
  simp only [Tryd.ntmps16, List.size_toArray, List.length_cons, List.length_nil, Nat.reduceAdd, Nat.reduceSub, Array.replicate_succ, Array.replicate_zero, List.push_toArray, List.append_toArray, List.nil_append, List.cons_append]
  obtain ⟨n0, hn0⟩ : ∃ n0, w.heap.size = n0 := ⟨_, rfl⟩
  gi_wp2_with (refine ⟨trivial, ?_⟩; gi_at_call 21; refine (callsIn_wide.2 (sections_calls A xs.length c _)).mono ?_; rintro e w5 ⟨rfl, rfl⟩)
  obtain ⟨w1, hw1⟩ : ∃ w1, (((w.alloc (Obj.cells #[Value.slice A xs.length c] 25)).alloc (Obj.cells #[Value.pointer none, Value.slice none 0 0] 75)).alloc (Obj.cells #[Value.slice A xs.length c] 25)) = w1 := ⟨_, rfl⟩
  have hsz : w1.heap.size = n0 + 3 := by rw [← hw1, ← hn0]; simp
  have ht1 : Turn (fun _ => False) w w1 := by rw [← hw1]; exact ((Turn.alloc _ _).trans (Turn.alloc _ _)).trans (Turn.alloc _ _)
  have hPt : Pt n0 w A c xs (⟨#[]⟩ : ByteArray) w1 := by
    refine ⟨?_, ?_, ?_, fun ad e => by obtain ⟨cs, fr, h⟩ := hA ad e; exact ⟨cs, fr, ht1.heap h (fun h => h)⟩, C37_turn hC ht1, ht1.toBelow (fun _ _ h => h) (by omega), by omega⟩
    · rw [← hw1, ← hn0]; exact ((Boxed.new w 25 _).alloc _).alloc _
    · refine .inl ⟨by omega, .slice none 0 0, ?_, World.ownsRowF_nil _ _ _ _, by simp [Value.ownBlock]⟩
      rw [← hw1, ← hn0]
      have := World.alloc_heap_new (w.alloc (Obj.cells #[Value.slice A xs.length c] 25)) (Obj.cells #[Value.pointer none, Value.slice none 0 0] 75)
      rw [World.size_alloc] at this
      exact (Turn.alloc (q := fun _ => False) _ _).heap this (fun h => h)
    · rw [← hw1, ← hn0]
      have := Boxed.new ((w.alloc (Obj.cells #[Value.slice A xs.length c] 25)).alloc (Obj.cells #[Value.pointer none, Value.slice none 0 0] 75)) 25 (.slice A xs.length c)
      rw [World.size_alloc, World.size_alloc] at this
      exact this
  have hAb : ∀ ad, A = some ad → ad.block < n0 := fun ad e => by obtain ⟨cs, fr, h⟩ := hA ad e; have := (Array.getElem?_eq_some_iff.1 h).1; omega
  have hpk : ∀ k, (k = n0 + 2 ∨ ∃ ad, A = some ad ∧ k = ad.block) → k < w1.heap.size := by
    rintro k (h | ⟨ad, e, h⟩)
    · omega
    · have := hAb ad e
      omega
  rw [hw1]
  refine range_all (F := Fence.wide) (α := ByteArray) rfl h1 (gf := 32) (lb := #[.pointer (some ⟨n0 + 2, 0, none⟩)]) rfl trivial (enters_of Tryd.func32 (by kernel_rfl) rfl)
    (encs := fun x => #[.string x]) (Kp := KeepT (fun k => k = n0 + 2 ∨ ∃ ad, A = some ad ∧ k = ad.block))
    (S := fun ys => ys = xs.foldl sstep []) (R := fun pre x => ∃ rest, pre ++ x :: rest = xs.foldl sstep [])
    (fun l J W hWb hJ hY h0 => sections_y l (n0 + 2) c (n - 1) (by omega) _ A xs J W hJ (.inl rfl) (fun ad e => .inr ⟨ad, e, rfl⟩) (fun ad e => by have := hAb ad e; have := hWb.size; omega) hY (under hPt.g hWb (by omega)) (Kd.C_below hPt.rd hWb) hsh hlen h0)
    KeepT.trans (KeepT.put hpk) (fun _ => rfl) (fun pre => Pt n0 w A c xs (pre.foldl (ptstep xs) (⟨#[]⟩ : ByteArray))) (Pt.own (by omega) (by omega)) hPt
    (fun x a' W => a' = { tmps := #[Value.agg #[Value.slice A xs.length c], Value.pointer (some { block := n0, off := 0 }), Value.string ⟨#[]⟩, Value.pointer (some { block := n0 + 1, off := 0 }), .string x, undef, undef, Value.agg #[Value.slice A xs.length c], Value.func (Fn.func 32) #[] #[Value.pointer (some { block := n0 + 1 + 1, off := 0 })], .string x, undef, undef, undef, undef, undef, undef, undef, undef, undef, undef, undef, undef, undef, undef, undef, undef, undef, undef, undef, undef, undef, undef, undef, undef, undef], defers := [] })
    (fun x a' s W W' row hs _ _ => hs) ?assign ?body ?done
  case assign =>
    intro l pre x W K hI hK
    gi_wp2
    exact hK _ _ (KeepsFrom.refl _ _) (KeepT.refl _ _) hI rfl
  case body =>
    rintro l pre x a' W hI rfl hrest
    have hbd := hW pre x hrest
    have hn2 : n0 ≤ W.heap.size := by have := hI.size; omega
    have hwr := hI.b.write (⟨#[91]⟩ ++ x ++ ⟨#[93, 10]⟩ : ByteArray) (head_fits hbd) hn2
    have hxs : x.size ≤ 140737488355328 := x_fits hbd
    have HBD := Aside0.mk hbd
    clear hbd
    gi_wp2_with (refine ⟨trivial, (fun h => by cases h), ?_⟩; refine (CallsIn.inRound l (callsIn_wide.2 hwr)).mono ?_; clear hwr; rintro e w6 ⟨rfl, hb6, hB6, hO6⟩; have hP6 := hI.write hb6 hB6 hO6; have f6c := hP6.f.cell)
    have hmax : xs.length ≤ 9223372036854775807 := by omega
    have ea : ∀ acc : ByteArray, acc ++ (⟨#[91]⟩ ++ x ++ ⟨#[93, 10]⟩ : ByteArray) = ((acc ++ (⟨#[91]⟩ : ByteArray)) ++ x) ++ (⟨#[93, 10]⟩ : ByteArray) := fun acc => by simp only [ByteArray.append_assoc]
    rw [ea] at hP6
    gi_loopw [17] (fun i wr => ∃ j : Nat, i = .int .i64 (j : Int) ∧ j ≤ xs.length ∧ Pt n0 w A c xs ((xs.take j).foldl (pstep x) ((((pre.foldl (ptstep xs) (⟨#[]⟩ : ByteArray)) ++ (⟨#[91]⟩ : ByteArray)) ++ x) ++ (⟨#[93, 10]⟩ : ByteArray))) wr ∧ Below n0 W wr ∧ Lib.OthersKept 5 (some (n0 + 1)) W wr)
      (fun i _ => xs.length - (intOf i).toNat)
    case atStart => exact ⟨0, rfl, Nat.zero_le _, hP6, hB6, hO6⟩
    case round =>
      obtain ⟨j, rfl, hj, hP, hBr, hOr⟩ := hrel
      by_cases hlt : j < xs.length
      · have hw1 : wrap64 ((j : Int) + 1) = ((j + 1 : Nat) : Int) := by unfold wrap64; omega
        obtain ⟨ad, eA, q0, q1, q2, q3⟩ := at_T37 hP.rd (j : Int) (by omega) (by omega)
        subst eA
        simp only [Int.toNat_natCast] at q0 q1 q2 q3
        have hrd : rd_T37 xs (j : Int) = xs[j] := rdm37 hlt
        rw [hrd] at q0 q1 q2 q3
        have d1 : decide ((j : Int) < (xs.length : Int)) = true := decide_eq_true (by omega)
        have d2 : (0 ≤ (j : Int)) = True := eq_true (by omega)
        have d3 : ((j : Int) < (xs.length : Int)) = True := eq_true (by omega)
        have d4 : (j < xs.length) = True := eq_true hlt
        obtain ⟨w2, hw2⟩ : ∃ w2, wr.alloc (.cells #[.string (xs[j]).f0, .string (xs[j]).f1, .string (xs[j]).f2, .int .i64 (xs[j]).f3] 37) = w2 := ⟨_, rfl⟩
        have ht2 : Turn (fun _ => False) wr w2 := by rw [← hw2]; exact Turn.alloc _ _
        have hx2 : w2.heap[wr.heap.size]? = some (.cells #[.string (xs[j]).f0, .string (xs[j]).f1, .string (xs[j]).f2, .int .i64 (xs[j]).f3] 37 (0, 0)) := by rw [← hw2]; exact World.alloc_heap_new wr _
        have hO2 : Lib.OthersKept 5 (some (n0 + 1)) W w2 := by rw [← hw2]; exact hOr.alloc _
        obtain ⟨x0, x1, x2, x3⟩ := cells4_of hx2
        have hP2 := hP.turn ht2 (by omega)
        have hB2 : Below n0 W w2 := hBr.trans (ht2.toBelow (fun _ _ h => h) (by have := hP.size; omega))
        have HSB := Aside0.mk (line_fits hlt HBD.out)
        by_cases hs : (xs[j]).f0.toList = x.toList
        · have hq : ((xs[j]).f0.toList == x.toList) = true := by simp [hs]
          have hwr2 := hP2.b.write ((((xs[j]).f1 ++ (⟨#[61]⟩ : ByteArray)) ++ (xs[j]).f2) ++ (⟨#[10]⟩ : ByteArray)) (line_size HSB.out) (by have := hP2.size; omega)
          have hf1 : (xs[j]).f1.size ≤ 140737488355328 := f1_fits HSB.out
          have hf2 : (xs[j]).f2.size ≤ 140737488355328 := f2_fits HSB.out
          gi_wp2_with (refine ⟨trivial, (fun h => by cases h), ?_⟩; refine (CallsIn.inRound l (callsIn_wide.2 hwr2)).mono ?_; clear hwr2; rintro e w7 ⟨rfl, hb7, hB7, hO7⟩)
          have hP7 := hP2.write hb7 hB7 hO7
          go_roundw
          case rel =>
            refine ⟨j + 1, rfl, hlt, ?_, hB2.trans hB7, hO2.trans hO7⟩
            rw [take_pfold hlt, pstep, if_pos hs]
            have e9 : ∀ z : ByteArray, z ++ ((((xs[j]).f1 ++ (⟨#[61]⟩ : ByteArray)) ++ (xs[j]).f2) ++ (⟨#[10]⟩ : ByteArray)) = (((z ++ (xs[j]).f1) ++ (⟨#[61]⟩ : ByteArray)) ++ (xs[j]).f2) ++ (⟨#[10]⟩ : ByteArray) := fun z => by simp only [ByteArray.append_assoc]
            rw [e9] at hP7
            exact hP7
          case measure => exact up_meas hlt
        · have hq : ((xs[j]).f0.toList == x.toList) = false := by simp [hs]
          gi_wp2
          go_roundw
          case rel =>
            refine ⟨j + 1, rfl, hlt, ?_, hB2, hO2⟩
            rw [take_pfold hlt, pstep, if_neg hs]
            exact hP2
          case measure => exact up_meas hlt
      · obtain rfl : j = xs.length := by omega
        have c1 : decide ((xs.length : Int) < (xs.length : Int)) = false := decide_eq_false (by omega)
        rw [List.take_length] at hP
        gi_wp2
        obtain ⟨cb, fb, hcb⟩ := hI.b.block
        have nb : ∀ (k : Nat) (o : Obj), W.heap[k]? = some o → o.isCells = false → k ≠ n0 + 1 := by
          rintro k o h ho rfl
          rw [hcb] at h
          cases h
          cases ho
        have nc : ∀ (k : Nat) (o : Obj), W.heap[k]? = some o → o.isCells = false → wr.heap[k]? = some o := fun k o h ho => hOr k o h (by simpa using nb k o h ho) (by rintro c fz e; rw [e] at ho; cases ho)
        refine ⟨⟨hBr.size, fun k o _ h ho => nc k o h ho⟩, ⟨?_, ?_, ?_, hBr.size⟩, ?_⟩
        · rintro k (rfl | ⟨ad, e, rfl⟩)
          · rw [show wr.heap[n0 + 2]? = _ from hP.g, show W.heap[n0 + 2]? = _ from hI.g]
          · obtain ⟨cs, fr, h⟩ := hI.row ad e
            rw [h]
            exact row_others h hOr (by rintro e2; rw [e2, hcb] at h; cases h) (by decide)
        · intro k cs fr h
          exact row_others h hOr (by rintro rfl; rw [hcb] at h; cases h) (by decide)
        · intro k o h ho
          exact nc k o h (Obj.not_cells_of_walk ho)
        · show Pt n0 w A c xs ((pre ++ [x]).foldl (ptstep xs) (⟨#[]⟩ : ByteArray)) wr
          rw [List.foldl_append]
          exact hP
  case done =>
    rintro D ys W hD rfl hI hK
    have hst := (callsIn_wide (n := n - 1)).2 (Tryd.Builder_String_any_k n0 (n0 + 1) _ W hI.b (by have := hI.size; omega))
    gi_wp2_with (refine ⟨trivial, ?_⟩; gi_at_call 31; refine hst.mono ?_; rintro e w7 ⟨rfl, hb7, hB7, hO7⟩)
    have hK7 : w7.heap[D]? = some (.deferred (some [])) := by
      refine hO7 D _ hK ?_ (by rintro c fz e; cases e)
      intro e
      have : D = n0 + 1 := Option.some.inj e
      obtain ⟨cb, fb, hcb⟩ := hI.b.block
      rw [this, hcb] at hK
      cases hK
    refine ⟨by simp, .inl ⟨_, _, rfl, run_takeDeferred (w := w7) hK7, ?_⟩⟩
    refine ⟨_, results_tmp rfl _ _ _, rfl, ?_⟩
    rw [hn0]
    exact (hI.bel.trans hB7).grown (grownBy_putObj' w7 D _) (by have := hI.size; have := hB7.size; omega) (fun k e => by cases e; omega)
theorem print_calls (A : Option Addr) (c : Nat) (xs : List S37) (w : World) (hC : Kd.C k37 w A xs.length xs) (hA : ∀ ad, A = some ad → ∃ cs fr, w.heap[ad.block]? = some (Obj.cells cs 37 fr)) (hsh : ∀ s ∈ xs, s.f0.size ≤ maxLen) (hlen : xs.length ≤ 1000000)
    (hW : ∀ pre x, (∃ rest, pre ++ x :: rest = xs.foldl sstep []) → (pre.foldl (ptstep xs) (⟨#[]⟩ : ByteArray)).size + (x.size + 3) + wide xs ≤ 140737488355328) :
    Calls Tryd.prog 16 #[.agg #[.slice A xs.length c]] w fun e w' => e = .returned (.string ((xs.foldl sstep []).foldl (ptstep xs) (⟨#[]⟩ : ByteArray))) ∧ Below w.heap.size w w' :=
  (callsIn_wide (n := 8)).1 (print_in 8 (Nat.le_refl _) A c xs w hC hA hsh hlen hW)
end Go.Proofs.YtbigbjfppaenfaaDoor.Lines
