/- The files opened; FileMerges as a call. -/
import Derived.Test.YtbigbjfppaenfaaDoorOpn
import Derived.Test.YtbigbjfppaenfaaDoorWk
namespace Go.Proofs.YtbigbjfppaenfaaDoor.Lines
open Go.RowKit Go.Proofs.YtbigbjfppaenfaaDoorW.PrintWords Go.Proofs.YtbigbjfppaenfaaDoorW.PrintLast Go.Proofs.YtbigbjfppaenfaaDoorOpn
set_option linter.unusedVariables false
set_option maxRecDepth 100000
theorem reach_lt : reachBytes < 3074457345618258602 := by decide
theorem bytes37 : Tryd.prog.bytesOf 37 = 56 := by kernel_rfl
theorem bytes25 : Tryd.prog.bytesOf 25 = 24 := by kernel_rfl
/-- what the form's reach tells of a setting's texts -/
def Reach37 (s : S37) : Prop := s.f0.size ≤ reachBytes ∧ s.f1.size ≤ reachBytes ∧ s.f2.size ≤ reachBytes
theorem o37 : Opens Tryd.prog 37 k37 (fun s => s.f0.size ≤ reachBytes ∧ s.f1.size ≤ reachBytes ∧ s.f2.size ≤ reachBytes ∧ (Lit.int .i64 s.f3).wf = true) :=
  opens_iso (opens_struct Tryd.underlying37 (opensF_cons (opens_string Tryd.underlying9) rfl (by kernel_rfl) (opensF_cons (opens_string Tryd.underlying9) rfl (by kernel_rfl) (opensF_cons (opens_string Tryd.underlying9) rfl (by kernel_rfl) (opensF_one (opens_int Tryd.underlying3) rfl (by kernel_rfl))))) (by kernel_rfl)) _ (fun p => ⟨p.1, p.2.1, p.2.2.1, p.2.2.2⟩) (fun _ => rfl)
theorem o25 : Opens Tryd.prog 25 k25 (fun f => f.f0.length * Tryd.prog.bytesOf 37 ≤ reachBytes ∧ ∀ s, s ∈ f.f0 → s.f0.size ≤ reachBytes ∧ s.f1.size ≤ reachBytes ∧ s.f2.size ≤ reachBytes ∧ (Lit.int .i64 s.f3).wf = true) :=
  opens_iso (opens_struct Tryd.underlying25 (opensF_one (opens_slice Tryd.underlying23 o37 (by kernel_rfl)) rfl (by kernel_rfl)) (by kernel_rfl)) _ (fun p => ⟨p⟩) (fun _ => rfl)
theorem files_read {H : Type} {enc : TypeId × Value → H} {w : World} {base : Nat} {spare : Nat → Bool} {held : Bool} {fuel : Nat} {cs : List Value} {x : DataW H × List MemPlace} (h : DataW.trod enc Tryd.prog w base spare held fuel 35 cs = some x) (hw : ∀ n ∈ x.1.weights Tryd.prog 35, n ≤ reachBytes) :
    ∃ (A : Option Addr) (l : List S25) (c : Nat), cs = [.slice A l.length c] ∧ l.length ≤ c ∧ Kd.C k25 w A l.length l ∧ l.length < 9223372036854775807 ∧ (∀ f ∈ l, f.f0.length < 576460752303423488) ∧ (∀ f ∈ l, ∀ s ∈ f.f0, s.f0.size < 3074457345618258602 ∧ s.f1.size < 3074457345618258602 ∧ s.f2.size < 3074457345618258602) := by
  have hr : reachBytes = 140737488351232 := by decide
  obtain ⟨l, ⟨A, c, h1, h2, h3⟩, h4, h5⟩ := (opens_slice Tryd.underlying35 o25 (by kernel_rfl)).out _ _ _ _ _ _ _ _ _ h hw
  rw [bytes25, hr] at h4
  refine ⟨A, l, c, h1, h2, h3, by omega, fun f hf => ?_, fun f hf s hs => ?_⟩
  · have := (h5 f hf).1
    rw [bytes37, hr] at this
    omega
  · obtain ⟨a, b, c, _⟩ := (h5 f hf).2 s hs
    rw [hr] at a b c
    exact ⟨by omega, by omega, by omega⟩
theorem merges_calls (A0 : Option Addr) (c0 : Nat) (l0 : List S25) (sec key : ByteArray) (stop : Int) (w : World) (hr0 : Kd.C k25 w A0 l0.length l0) (hc0 : l0.length ≤ c0) (hG : GW w)
    (h0 : l0.length < 9223372036854775807) (hL : ∀ f ∈ l0, f.f0.length < 576460752303423488) (hT : ∀ f ∈ l0, ∀ s ∈ f.f0, s.f0.size < 3074457345618258602 ∧ s.f1.size < 3074457345618258602 ∧ s.f2.size < 3074457345618258602) :
    Calls Tryd.prog 6 #[.slice A0 l0.length c0, .string sec, .string key, .int .i64 stop] w fun e w' => e = .returned (.bool true) ∧ Below w.heap.size w w' :=
  (callsIn_wide (n := 12)).1 (merges_in 12 (Nat.le_refl _) A0 c0 l0 sec key stop w hr0 hc0 hG h0 hL hT)
end Go.Proofs.YtbigbjfppaenfaaDoor.Lines
