/- line.Lines as a contract: what a text's lines are. -/
import Derived.Test.YtaihipdebmcmhaaDoorLinesP
namespace Go.Proofs.YtaihipdebmcmhaaDoor.Lines
open Go.RowKit Go.Shelf Go.Proofs.YtaihipdebmcmhaaDoorW.PrintWords Go.Proofs.YtaihipdebmcmhaaDoorW.PrintLast
attribute [local go_sem] Oper.semAt_some
set_option linter.unusedVariables false
set_option linter.unusedSectionVars false
set_option linter.unusedSimpArgs false
/-- the lines of a text, or the first error and where -/
def linesF (s : List UInt8) : List S31 × Int × Int := coll readF (items (rowsL s).length (rowsL s).length (rowsL s))
def line_Lines.f (k : Nat) (a0 : ByteArray) : Option (List S31 × Int × Int) := if 4000 < a0.size then some ([], 0, 51) else some (linesF a0.data.toList)
theorem line_Lines.mono : ∀ a0 k, LeO (line_Lines.f k a0) (line_Lines.f (k + 1) a0) := fun a0 k => LeO.refl _
theorem reps31 (w : World) (base : Nat) (ok : Nat → Prop) : ∀ l : List S31, Reps (k31.M w base ok) 4 l (l.flatMap cells31) := by
  intro l
  induction l with
  | nil => exact Reps.none _ _
  | cons x l ih =>
    rw [List.flatMap_cons]
    exact Reps.c4 (k31_mkM w base ok x) ih
theorem own_R {w : World} {base : Nat} {v : Value} {l : List S31} (h : w.ownsRow base 31 4 v l.length (l.flatMap cells31)) : Kd.R k31 31 w base (fun _ => True) v l :=
  ⟨fun _ _ => trivial, _, h, reps31 _ _ _ l⟩
set_option maxRecDepth 100000 in
set_option maxHeartbeats 4000000 in
theorem lines_long (a0 : ByteArray) (h : 4000 < a0.size) (w : World) :
    Calls Tryd.prog 11 #[.string a0] w fun e w' => ∃ v, e = .returned (.tuple #[v, .int .i64 0, .int .i64 51]) ∧ Kd.R k31 31 w' w.heap.size (fun _ => True) v [] ∧ Below w.heap.size w w' := by
  have hsz2 : decide ((4000 : Int) < (a0.size : Int)) = true := decide_eq_true (by omega)
  have hb := Below.refl w.heap.size w
  go_enter Tryd.func11, Tryd.ntmps11
  go_wp2
  have b2 : Boxed (((w.alloc (.cells #[.slice none 0 0] 26)).alloc (.cells #[.int .i64 0] 3)).alloc (.cells #[.int .i64 51] 27)) w.heap.size 26 (.slice none 0 0) := ((Boxed.new w 26 (.slice none 0 0)).alloc _).alloc _
  have b3 : Boxed (((w.alloc (.cells #[.slice none 0 0] 26)).alloc (.cells #[.int .i64 0] 3)).alloc (.cells #[.int .i64 51] 27)) (w.heap.size + 1) 3 (.int .i64 0) := by
    have := Boxed.new (w.alloc (.cells #[.slice none 0 0] 26)) 3 (.int .i64 0)
    rw [World.size_alloc] at this
    exact this.alloc _
  have b4 : Boxed (((w.alloc (.cells #[.slice none 0 0] 26)).alloc (.cells #[.int .i64 0] 3)).alloc (.cells #[.int .i64 51] 27)) (w.heap.size + 1 + 1) 27 (.int .i64 51) := by
    have := Boxed.new ((w.alloc (.cells #[.slice none 0 0] 26)).alloc (.cells #[.int .i64 0] 3)) 27 (.int .i64 51)
    rw [World.size_alloc, World.size_alloc] at this
    exact this
  refine bodyPost_ret (res3 _ b2 b3 b4 rfl rfl rfl) rfl ⟨_, rfl, Kd.R_nil _ _ _ _ _, ?_⟩
  exact (((Below.refl _ w).alloc (Nat.le_refl _) _).alloc (by simp) _).alloc (by simp; omega) _
theorem line_Lines.calls (k : Nat) (a0 : ByteArray) (r1 : List S31) (r2 : Int) (r3 : Int) (w : World) (h : line_Lines.f k a0 = some (r1, r2, r3)) (hG : GW w) :
    Calls Tryd.prog 11 #[.string a0] w fun e w' => ∃ v, e = .returned (.tuple #[v, .int .i64 r2, .int .i64 r3]) ∧ Kd.R k31 31 w' w.heap.size (fun _ => True) v r1 ∧ Below w.heap.size w w' := by
  unfold line_Lines.f at h
  split at h
  · rename_i h1
    injection h with h
    injection h with h2 h3
    injection h3 with h3 h4
    subst h2; subst h3; subst h4
    exact lines_long a0 h1 w
  · rename_i h1
    injection h with h
    obtain ⟨m, hm, _, _⟩ := hG.maxLen
    have hgs : 0 < Tryd.prog.globals.size := by decide +kernel
    have hs : a0.data.toList.length ≤ 4000 := by
      have : a0.data.toList.length = a0.size := by rw [Array.length_toList]; rfl
      omega
    have := lines_in 3 (Nat.le_refl _) a0.data.toList hs (rowsL a0.data.toList) (rows_of _) (Nat.le_trans (tot_rows _) hs) readF read_total w hG m hm (Nat.lt_of_lt_of_le hgs hG.size)
    rw [ba_of] at this
    refine (callsIn_wide.1 this).mono ?_
    rintro e w' ⟨v, h1, h2, h3⟩
    have e1 : coll readF (items (rowsL a0.data.toList).length (rowsL a0.data.toList).length (rowsL a0.data.toList)) = (r1, r2, r3) := h
    rw [e1] at h1 h2
    exact ⟨v, h1, own_R h2, h3⟩
end Go.Proofs.YtaihipdebmcmhaaDoor.Lines
