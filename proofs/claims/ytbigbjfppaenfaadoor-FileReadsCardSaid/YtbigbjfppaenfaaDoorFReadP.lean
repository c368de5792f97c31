/- The plain law of FileReads: both readings of a file's lines are one function of lists. -/
import Derived.Test.YtbigbjfppaenfaaDoorFReadF1
namespace Go.Proofs.YtbigbjfppaenfaaDoor.Lines
open Go.RowKit Go.Shelf Go.Proofs.YtbigbjfppaenfaaDoorW.PrintWords Go.Proofs.YtbigbjfppaenfaaDoorW.PrintLast
set_option linter.unusedVariables false
set_option linter.unusedSimpArgs false
abbrev PF := List S37 × Int × Int
/-- a file's settings out of its lines -/
def plF (sec : ByteArray) (acc : List S37) : List S60 → PF
  | [] => (acc, 0, 0)
  | x :: t => if x.f0 = 1 then plF x.f1 acc t else if sec.toList = [] then ([], x.f3, 60) else plF sec (acc ++ [⟨sec, x.f1, x.f2, x.f3⟩]) t
def LF (s : List UInt8) : RL := if 4000 < s.length then ([], 0, 51) else linesF s
theorem LF_len (s : List UInt8) : (LF s).1.length ≤ 4001 := by
  unfold LF
  by_cases h : 4000 < s.length
  · rw [if_pos h]; exact Nat.zero_le _
  · rw [if_neg h]
    unfold linesF coll
    have h1 := items_len (rowsL s).length (rowsL s).length (rowsL s)
    have h2 := rowsL_len s
    cases (items (rowsL s).length (rowsL s).length (rowsL s)).find? (fun x => (readF x.2).err != 0) with
    | some x => exact Nat.zero_le _
    | none => dsimp only; rw [List.length_map]; omega
theorem rd60_at (l : List S60) (i : Nat) (x : S60) (h : l[i]? = some x) : rd_T60 l (i : Int) = x := by
  unfold rd_T60
  rw [show ((i : Int)).toNat = i from by omega, List.getD_eq_getElem?_getD, h]
  rfl
theorem wrap_n (k : Nat) (h : k ≤ 1000000) : wrap64 ((k : Int) + 1) = ((k + 1 : Nat) : Int) := by unfold wrap64; omega
theorem drop_at {α : Type} {l : List α} {i : Nat} {x : α} {t : List α} (h : l.drop i = x :: t) : l[i]? = some x ∧ l.drop (i + 1) = t ∧ i < l.length := by
  have h1 : l[i]? = some x := by rw [← List.head?_drop, h]; rfl
  refine ⟨h1, ?_, ?_⟩
  · rw [← List.tail_drop, h]; rfl
  · exact (List.getElem?_eq_some_iff.1 h1).1
theorem plF1 {sec : ByteArray} {acc : List S37} {x : S60} {t : List S60} (c : x.f0 = 1) : plF sec acc (x :: t) = plF x.f1 acc t := by rw [plF, if_pos c]
theorem plF2 {sec : ByteArray} {acc : List S37} {x : S60} {t : List S60} (c : ¬ x.f0 = 1) (c2 : sec.toList = []) : plF sec acc (x :: t) = ([], x.f3, 60) := by rw [plF, if_neg c, if_pos c2]
theorem plF3 {sec : ByteArray} {acc : List S37} {x : S60} {t : List S60} (c : ¬ x.f0 = 1) (c2 : ¬ sec.toList = []) : plF sec acc (x :: t) = plF sec (acc ++ [⟨sec, x.f1, x.f2, x.f3⟩]) t := by rw [plF, if_neg c, if_neg c2]
theorem cons_at {α : Type} (l : List α) (i n : Nat) (hi : i + (n + 1) = l.length) : ∃ x t, l.drop i = x :: t := by
  cases h : l.drop i with
  | nil => have := congrArg List.length h; rw [List.length_drop, List.length_nil] at this; omega
  | cons x t => exact ⟨x, t, rfl⟩
theorem prog_l0 (l : List S60) (hl : l.length ≤ 5000) : ∀ (n : Nat) (i : Nat) (sec : ByteArray) (acc : List S37), i + n = l.length → acc.length + n ≤ 6000 →
    EvS (fun k => unitfile_Parse.l0 k sec l (l.length : Int) (i : Int) acc) (plF sec acc (l.drop i)) := by
  intro n
  induction n with
  | zero =>
    intro i sec acc hi ha
    rw [List.drop_eq_nil_of_le (by omega)]
    refine EvS.pure fun n => ?_
    rw [unitfile_Parse.l0, if_neg (by omega)]
    rfl
  | succ n ih =>
    intro i sec acc hi ha
    obtain ⟨x, t, hx⟩ := cons_at l i n hi
    obtain ⟨h1, h2, h3⟩ := drop_at hx
    have hr := rd60_at l i x h1
    have hw := wrap_n i (by omega)
    rw [hx]
    by_cases c1 : x.f0 = 1
    · have := ih (i + 1) x.f1 acc (by omega) (by omega)
      rw [h2] at this
      rw [plF1 c1]
      refine EvS.step this fun n => ?_
      rw [unitfile_Parse.l0, if_pos (by omega), if_pos (by omega), if_pos (by omega), hr, if_pos c1, hw]
    · by_cases c2 : sec.toList = []
      · rw [plF2 c1 c2]
        refine EvS.pure fun n => ?_
        rw [unitfile_Parse.l0, if_pos (by omega), if_pos (by omega), if_pos (by omega), hr, if_neg c1, if_pos c2]
      · have := ih (i + 1) sec (acc ++ [⟨sec, x.f1, x.f2, x.f3⟩]) (by omega) (by rw [List.length_append, List.length_singleton]; omega)
        rw [h2] at this
        rw [plF3 c1 c2]
        refine EvS.step this fun n => ?_
        rw [unitfile_Parse.l0, if_pos (by omega), if_pos (by omega), if_pos (by omega), hr, if_neg c1, if_neg c2, if_pos (by omega), hw]
theorem ref_l0 (l : List S60) (hl : l.length ≤ 5000) : ∀ (n : Nat) (i : Nat) (sec : ByteArray) (acc : List S37), i + n = l.length → acc.length + n ≤ 6000 →
    EvS (fun k => reveilleref6_Parse.l0 k l sec (i : Int) acc) (plF sec acc (l.drop i)) := by
  intro n
  induction n with
  | zero =>
    intro i sec acc hi ha
    rw [List.drop_eq_nil_of_le (by omega)]
    refine EvS.pure fun n => ?_
    rw [reveilleref6_Parse.l0, if_neg (by omega)]
    rfl
  | succ n ih =>
    intro i sec acc hi ha
    obtain ⟨x, t, hx⟩ := cons_at l i n hi
    obtain ⟨h1, h2, h3⟩ := drop_at hx
    have hr := rd60_at l i x h1
    have hw := wrap_n i (by omega)
    rw [hx]
    by_cases c1 : x.f0 = 1
    · have := ih (i + 1) x.f1 acc (by omega) (by omega)
      rw [h2] at this
      rw [plF1 c1]
      refine EvS.step this fun n => ?_
      rw [reveilleref6_Parse.l0, if_pos (by omega), if_pos (by omega), hr, if_pos c1, hw]
    · by_cases c2 : sec.toList = []
      · rw [plF2 c1 c2]
        refine EvS.pure fun n => ?_
        rw [reveilleref6_Parse.l0, if_pos (by omega), if_pos (by omega), hr, if_neg c1, if_pos c2]
      · have := ih (i + 1) sec (acc ++ [⟨sec, x.f1, x.f2, x.f3⟩]) (by omega) (by rw [List.length_append, List.length_singleton]; omega)
        rw [h2] at this
        rw [plF3 c1 c2]
        refine EvS.step this fun n => ?_
        rw [reveilleref6_Parse.l0, if_pos (by omega), if_pos (by omega), hr, if_neg c1, if_neg c2, if_pos (by omega), hw]
theorem plF_len : ∀ (l : List S60) (sec : ByteArray) (acc : List S37), (plF sec acc l).1.length ≤ acc.length + l.length := by
  intro l
  induction l with
  | nil => intro sec acc; exact Nat.le_refl _
  | cons x t ih =>
    intro sec acc
    by_cases c1 : x.f0 = 1
    · rw [plF1 c1]; have := ih x.f1 acc; rw [List.length_cons]; omega
    · by_cases c2 : sec.toList = []
      · rw [plF2 c1 c2]; exact Nat.zero_le _
      · rw [plF3 c1 c2]; have := ih sec (acc ++ [⟨sec, x.f1, x.f2, x.f3⟩]); rw [List.length_append, List.length_singleton] at this; rw [List.length_cons]; omega
/-- what a file's text reads as -/
def parseF (s : List UInt8) : PF := if (LF s).2.2 = 0 then plF ByteArray.empty [] (LF s).1 else ([], (LF s).2.1, (LF s).2.2)
theorem parseF_len (s : List UInt8) : (parseF s).1.length ≤ 4001 := by
  unfold parseF
  have h := LF_len s
  split
  · have := plF_len (LF s).1 ByteArray.empty []; simp at this; omega
  · exact Nat.zero_le _
theorem lines0_ev (s : List UInt8) : line_Lines0.f (ba s) = some (LF s) := by
  unfold line_Lines0.f line_Lines.f LF
  rw [ba_size]
  by_cases h : 4000 < s.length
  · rw [if_pos h, if_pos h]
  · rw [if_neg h, if_neg h]; rfl
theorem parse_ev (s : List UInt8) : EvS (fun k => unitfile_Parse.f k (ba s)) (parseF s) := by
  have hl := LF_len s
  unfold parseF
  by_cases h : (LF s).2.2 = 0
  · rw [if_pos h]
    have := prog_l0 (LF s).1 (by omega) (LF s).1.length 0 ByteArray.empty [] (by omega) (by rw [List.length_nil]; omega)
    rw [List.drop_zero] at this
    refine EvS.eqn this fun n => ?_
    unfold unitfile_Parse.f
    rw [lines0_ev, Option.bind_some, if_pos h]
    rfl
  · rw [if_neg h]
    refine ⟨0, fun n _ => ?_⟩
    dsimp only
    unfold unitfile_Parse.f
    rw [lines0_ev, Option.bind_some, if_neg h]
theorem refparse_ev (s : List UInt8) : EvS (fun k => reveilleref6_Parse.f k (ba s)) (parseF s) := by
  have hl := LF_len s
  obtain ⟨K1, k1⟩ := ref_lines s
  unfold parseF
  by_cases h : (LF s).2.2 = 0
  · rw [if_pos h]
    obtain ⟨K2, k2⟩ := ref_l0 (LF s).1 (by omega) (LF s).1.length 0 ByteArray.empty [] (by omega) (by rw [List.length_nil]; omega)
    rw [List.drop_zero] at k2
    refine ⟨K1 + K2, fun n hn => ?_⟩
    have k1 : reveilleref5_Lines.f n (ba s) = some (LF s) := k1 n (by omega)
    have k2 := k2 n (by omega)
    dsimp only at k2 ⊢
    unfold reveilleref6_Parse.f
    rw [k1, Option.bind_some, if_pos h]
    exact k2
  · rw [if_neg h]
    refine ⟨K1, fun n hn => ?_⟩
    have k1 : reveilleref5_Lines.f n (ba s) = some (LF s) := k1 n (by omega)
    dsimp only
    unfold reveilleref6_Parse.f
    rw [k1, Option.bind_some, if_neg h]
theorem same_l0 (l : List S37) (hl : l.length ≤ 5000) : ∀ (n : Nat) (i : Nat), i + n = l.length → EvS (fun k => reveilleref6_Same.l0 k (i : Int) l l) true := by
  intro n
  induction n with
  | zero =>
    intro i hi
    refine EvS.pure fun n => ?_
    rw [reveilleref6_Same.l0, if_neg (by omega)]
  | succ n ih =>
    intro i hi
    have hw := wrap_n i (by omega)
    have := ih (i + 1) (by omega)
    refine EvS.step this fun n => ?_
    rw [reveilleref6_Same.l0, if_pos (by omega), if_pos (by omega), if_pos (by omega), if_neg (by simp), hw]
theorem same_ev (l : List S37) (hl : l.length ≤ 5000) : EvS (fun k => reveilleref6_Same.f k l l) true := by
  have := same_l0 l hl l.length 0 (by omega)
  refine EvS.eqn this fun n => ?_
  unfold reveilleref6_Same.f
  rw [if_pos rfl]
  rfl
theorem fileReads_pure : reveillelaw6_FileReads.Pure := by
  intro a0 _
  obtain ⟨s, rfl⟩ : ∃ s : List UInt8, a0 = ba s := ⟨a0.data.toList, (ba_of a0).symm⟩
  by_cases h5 : 5000 < s.length
  · refine ⟨0, ?_⟩
    unfold reveillelaw6_FileReads.f reveillelaw6_known.f
    rw [Option.bind_some, if_pos rfl, ba_size, if_pos (by omega)]
  · obtain ⟨K1, k1⟩ := parse_ev s
    obtain ⟨K2, k2⟩ := refparse_ev s
    obtain ⟨K3, k3⟩ := same_ev (parseF s).1 (by have := parseF_len s; omega)
    refine ⟨K1 + K2 + K3, ?_⟩
    have k1 := k1 (K1 + K2 + K3) (by omega)
    have k2 := k2 (K1 + K2 + K3) (by omega)
    have k3 := k3 (K1 + K2 + K3) (by omega)
    dsimp only at k1 k2 k3
    unfold reveillelaw6_FileReads.f reveillelaw6_known.f
    rw [Option.bind_some, if_pos rfl, ba_size, if_neg (by omega), k1, Option.bind_some, k2, Option.bind_some, k3, Option.bind_some, if_pos rfl, if_pos rfl]
    simp
theorem fread_calls (a0 : ByteArray) (w : World) (w0 : a0.size ≤ maxLen) (hG : GW w) :
    Calls Tryd.prog 3 #[.string a0] w fun e w' => e = .returned (.bool true) ∧ Below w.heap.size w w' := by
  by_cases h : a0.size ≤ 140737488351232
  · exact reveillelaw6_FileReads.walk fileReads_pure a0 w h hG
  · refine reveillelaw6_FileReads.calls 0 a0 true w ?_ hG
    unfold reveillelaw6_FileReads.f reveillelaw6_known.f
    rw [Option.bind_some, if_pos rfl, if_pos (by omega)]
end Go.Proofs.YtbigbjfppaenfaaDoor.Lines
