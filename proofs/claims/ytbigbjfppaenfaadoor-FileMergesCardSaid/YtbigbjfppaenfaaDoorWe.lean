/- unitfile.Last, walked. -/
import Derived.Test.YtbigbjfppaenfaaDoorWd
namespace Go.Proofs.YtbigbjfppaenfaaDoor.Lines
open Go.RowKit Go.Shelf Go.Proofs.YtbigbjfppaenfaaDoorW.PrintWords Go.Proofs.YtbigbjfppaenfaaDoorW.PrintLast
attribute [local go_sem] Oper.semAt_some
set_option linter.unusedVariables false
set_option linter.unusedSimpArgs false
/-- the last of what came, and whether anything came -/
def lastOf (l : List (Nat × ByteArray)) : ByteArray × Bool := l.foldl (fun _ x => (x.2, true)) (⟨#[]⟩, false)
theorem lastOf_snoc (l : List (Nat × ByteArray)) (x : Nat × ByteArray) : lastOf (l ++ [x]) = (x.2, true) := by simp [lastOf]
/-- what Last's loop keeps -/
structure Ls (n0 : Nat) (w : World) (A : Option Addr) (m c : Nat) (pre : List (Nat × ByteArray)) (W : World) : Prop where
  f : Boxed W n0 25 (.slice A m c)
  v : Boxed W (n0 + 1) 9 (.string (lastOf pre).1)
  b : Boxed W (n0 + 2) 4 (.bool (lastOf pre).2)
  bel : Below n0 w W
  size : n0 + 6 ≤ W.heap.size
theorem Ls.own {n0 : Nat} {w : World} {A : Option Addr} {m c B : Nat} (hn : n0 ≤ w.heap.size) (hB : n0 ≤ B) : OwnFrom B (Ls n0 w A m c) := by
  intro s W W' row hs hg hr
  have kept : ∀ Bk t v, Boxed W Bk t v → Boxed W' Bk t v := fun Bk t v hb => (boxed_own Bk t (fun _ : Unit => v)) () W W' row hb hg (fun r e => (hr r e).2)
  exact ⟨kept _ _ _ hs.f, kept _ _ _ hs.v, kept _ _ _ hs.b, hs.bel.grown hg (Nat.le_trans hn hs.bel.size) (fun k e => Nat.le_trans hB (hr k e).1), Nat.le_trans hs.size hg.size⟩
set_option maxRecDepth 100000 in
set_option maxHeartbeats 8000000 in
theorem last_in (n : Nat) (hn : 6 ≤ n) (A : Option Addr) (c : Nat) (xs : List S37) (sec key : ByteArray) (w : World) (hC : Kd.C k37 w A xs.length xs) (hA : ∀ ad, A = some ad → ad.block < w.heap.size) :
    CallsIn Fence.wide n Tryd.prog 14 #[.agg #[.slice A xs.length c], .string sec, .string key] w fun e w' => e = .returned (.tuple #[.string (lastOf (hitsF sec key 0 xs)).1, .bool (lastOf (hitsF sec key 0 xs)).2]) ∧ Below w.heap.size w w' := by
  have h1 : 1 ≤ n := by omega
  refine callsIn_of_wp_marks Tryd.func14 rfl trivial ?_ rfl
  simp only [Tryd.ntmps14, List.size_toArray, List.length_cons, List.length_nil, Nat.reduceAdd, Nat.reduceSub, Array.replicate_succ, Array.replicate_zero, List.push_toArray, List.append_toArray, List.nil_append, List.cons_append]
  obtain ⟨n0, hn0⟩ : ∃ n0, w.heap.size = n0 := ⟨_, rfl⟩
  gi_wp2_with (refine ⟨trivial, ?_⟩; gi_at_call 12; refine (callsIn_wide.2 (all_calls A xs.length c sec key _)).mono ?_; rintro e w5 ⟨rfl, rfl⟩)
  obtain ⟨w1, hw1⟩ : ∃ w1, ((((((w.alloc (Obj.cells #[Value.slice A xs.length c] 25)).alloc (Obj.cells #[Value.string ⟨#[]⟩] 9)).alloc (Obj.cells #[Value.bool false] 4)).alloc (Obj.cells #[Value.slice A xs.length c] 25)).alloc (Obj.cells #[Value.string sec] 9)).alloc (Obj.cells #[Value.string key] 9)) = w1 := ⟨_, rfl⟩
  have hsz : w1.heap.size = n0 + 6 := by rw [← hw1, ← hn0]; simp
  have ht1 : Turn (fun _ => False) w w1 := by rw [← hw1]; exact (((((Turn.alloc _ _).trans (Turn.alloc _ _)).trans (Turn.alloc _ _)).trans (Turn.alloc _ _)).trans (Turn.alloc _ _)).trans (Turn.alloc _ _)
  have hLs : Ls n0 w A xs.length c [] w1 := by
    refine ⟨?_, ?_, ?_, ht1.toBelow (fun _ _ h => h) (by omega), by omega⟩
    · rw [← hw1, ← hn0]; exact (((((Boxed.new w 25 _).alloc _).alloc _).alloc _).alloc _).alloc _
    · rw [← hw1, ← hn0]
      have := Boxed.new (w.alloc (Obj.cells #[Value.slice A xs.length c] 25)) 9 (.string ⟨#[]⟩)
      rw [World.size_alloc] at this
      exact (((this.alloc _).alloc _).alloc _).alloc _
    · rw [← hw1, ← hn0]
      have := Boxed.new ((w.alloc (Obj.cells #[Value.slice A xs.length c] 25)).alloc (Obj.cells #[Value.string ⟨#[]⟩] 9)) 4 (.bool false)
      rw [World.size_alloc, World.size_alloc] at this
      exact ((this.alloc _).alloc _).alloc _
  have hb3 : Boxed w1 (n0 + 3) 25 (.slice A xs.length c) := by
    rw [← hw1, ← hn0]
    have := Boxed.new (((w.alloc (Obj.cells #[Value.slice A xs.length c] 25)).alloc (Obj.cells #[Value.string ⟨#[]⟩] 9)).alloc (Obj.cells #[Value.bool false] 4)) 25 (.slice A xs.length c)
    rw [World.size_alloc, World.size_alloc, World.size_alloc] at this
    exact (this.alloc _).alloc _
  have hb4 : Boxed w1 (n0 + 4) 9 (.string sec) := by
    rw [← hw1, ← hn0]
    have := Boxed.new ((((w.alloc (Obj.cells #[Value.slice A xs.length c] 25)).alloc (Obj.cells #[Value.string ⟨#[]⟩] 9)).alloc (Obj.cells #[Value.bool false] 4)).alloc (Obj.cells #[Value.slice A xs.length c] 25)) 9 (.string sec)
    rw [World.size_alloc, World.size_alloc, World.size_alloc, World.size_alloc] at this
    exact this.alloc _
  have hb5 : Boxed w1 (n0 + 5) 9 (.string key) := by
    rw [← hw1, ← hn0]
    have := Boxed.new (((((w.alloc (Obj.cells #[Value.slice A xs.length c] 25)).alloc (Obj.cells #[Value.string ⟨#[]⟩] 9)).alloc (Obj.cells #[Value.bool false] 4)).alloc (Obj.cells #[Value.slice A xs.length c] 25)).alloc (Obj.cells #[Value.string sec] 9)) 9 (.string key)
    rw [World.size_alloc, World.size_alloc, World.size_alloc, World.size_alloc, World.size_alloc] at this
    exact this
  have hC1 : Kd.C k37 w1 A xs.length xs := C37_turn hC ht1
  rw [hw1]
  refine range_all (F := Fence.wide) (α := Nat × ByteArray) rfl h1 (gf := 29) (lb := #[.pointer (some ⟨n0 + 3, 0, none⟩), .pointer (some ⟨n0 + 4, 0, none⟩), .pointer (some ⟨n0 + 5, 0, none⟩)]) rfl trivial (enters_of Tryd.func29 (by kernel_rfl) rfl)
    (encs := fun x => #[.int .i64 (x.1 : Int), .string x.2]) (Kp := KeepT (fun k => k < n0 + 6 ∧ k ≠ n0 + 1 ∧ k ≠ n0 + 2))
    (S := fun ys => ys = hitsF sec key 0 xs) (R := fun pre x => ∃ rest, pre ++ x :: rest = hitsF sec key 0 xs)
    (fun l J W hW hJ hY h0 => all_in_y l (n0 + 3) (n0 + 4) (n0 + 5) c (n - 1) (by omega) _ A xs sec key J W hJ (by omega) (by omega) (by omega) (fun ad e => by have := hA ad e; omega) hY (under hb3 hW (by omega)) (under hb4 hW (by omega)) (under hb5 hW (by omega)) (Kd.C_below hC1 hW) h0)
    KeepT.trans (KeepT.put (fun k hk => by omega)) (fun _ => rfl) (Ls n0 w A xs.length c) (Ls.own (by omega) (by omega)) hLs
    (fun x a' W => a' = { tmps := #[Value.agg #[Value.slice A xs.length c], Value.string sec, Value.string key, Value.pointer (some { block := n0, off := 0 }), undef, undef, Value.string ⟨#[]⟩, Value.bool false, Value.pointer (some { block := n0 + 1, off := 0 }), Value.pointer (some { block := n0 + 1 + 1, off := 0 }), undef, .string x.2, Value.agg #[Value.slice A xs.length c], Value.string sec, Value.string key, Value.func (Fn.func 29) #[] #[Value.pointer (some { block := n0 + 3, off := 0 }), Value.pointer (some { block := n0 + 4, off := 0 }), Value.pointer (some { block := n0 + 5, off := 0 })], .int .i64 (x.1 : Int), .string x.2, undef, undef, undef], defers := [] })
    (fun x a' s W W' row hs _ _ => hs) ?assign ?body ?done
  case assign =>
    intro l pre x W K hI hK
    gi_wp2
    exact hK _ _ (KeepsFrom.refl _ _) (KeepT.refl _ _) hI rfl
  case body =>
    rintro l pre x a' W ⟨hf, hv, hb, hbel, hsW⟩ rfl hrest
    have hvc := hv.cell
    have hvf := hv.frozen
    have hbc := (apart (u := .string x.2) hb (show n0 + 2 ≠ n0 + 1 by omega)).cell
    have hbf := (apart (u := .string x.2) hb (show n0 + 2 ≠ n0 + 1 by omega)).frozen
    gi_wp2
    have t : Turn (fun k => k = n0 + 1 ∨ k = n0 + 2) W ((W.setCell ⟨n0 + 1, 0, none⟩ (.string x.2)).setCell ⟨n0 + 1 + 1, 0, none⟩ (.bool true)) := (Turn.set _ _ _ (.inl rfl)).trans (Turn.set _ _ _ (.inr rfl))
    refine ⟨t.toFrom (by rintro k (rfl | rfl) hk o ho <;> omega), KeepT.of_turn t (fun k hk => ⟨by omega, by omega⟩) ?_, t.boxed hf (by omega), ?_, ?_, ?_, Nat.le_trans hsW t.size⟩
    · rintro k _ (rfl | rfl)
      · exact ⟨_, _, _, hv, by decide⟩
      · exact ⟨_, _, _, hb, by decide⟩
    · rw [lastOf_snoc]
      exact apart (hv.set _) (by omega)
    · rw [lastOf_snoc]
      exact Boxed.set _ (apart hb (by omega))
    · exact hbel.trans (t.toBelow (by omega) (by have := hbel.size; omega))
  case done =>
    rintro D ys W hD rfl ⟨hf, hv, hb, hbel, hsW⟩ hK
    have hvc := hv.cell
    have hbc := hb.cell
    have hmix : Tryd.prog.follows .mixedOrders = true := by kernel_rfl
    gi_wp2
    first | gi_region_with_o (fail) | fail
    all_goals gi_wp2
    all_goals
      refine ⟨by simp, .inl ⟨_, _, rfl, run_takeDeferred (w := W.drew) hK, ?_⟩⟩
      refine ⟨_, results_tmp2 rfl _ _ _, rfl, ?_⟩
      rw [hn0]
      exact (hbel.trans ((Below.refl n0 W).drew)).grown (grownBy_putObj' W.drew D _) (by have := hbel.size; show n0 ≤ W.heap.size; omega) (fun k e => by cases e; omega)
theorem last_calls (A : Option Addr) (c : Nat) (xs : List S37) (sec key : ByteArray) (w : World) (hC : Kd.C k37 w A xs.length xs) (hA : ∀ ad, A = some ad → ad.block < w.heap.size) :
    Calls Tryd.prog 14 #[.agg #[.slice A xs.length c], .string sec, .string key] w fun e w' => e = .returned (.tuple #[.string (lastOf (hitsF sec key 0 xs)).1, .bool (lastOf (hitsF sec key 0 xs)).2]) ∧ Below w.heap.size w w' :=
  (callsIn_wide (n := 6)).1 (last_in 6 (Nat.le_refl _) A c xs sec key w hC hA)
end Go.Proofs.YtbigbjfppaenfaaDoor.Lines
