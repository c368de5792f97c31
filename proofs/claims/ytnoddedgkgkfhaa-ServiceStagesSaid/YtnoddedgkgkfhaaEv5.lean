/- The evaluator Ev and its soundness, part 6 of 6: what it computes of a function, the model's machine computes on every tape. -/
import Derived.Test.YtnoddedgkgkfhaaEv4
import Derived.Handed
section
/- Ev, part 40: from a run of the evaluator to the machine's call. -/
namespace Go.Ev
set_option linter.unusedSimpArgs false
set_option linter.unusedVariables false
variable {P : Program}
open Go.RowKit

theorem begin_size (P : Program) : P.globals.size < (begin P (fun _ _ => 0) default).world.heap.size := by
  simp [begin]; omega
theorem shaped_size {W : World} (h : W.ShapedOpen P) : P.globals.size ≤ W.heap.size := by
  obtain ⟨o, _, ho, _⟩ := h.2 P.globals.size (Nat.le_refl _) (begin_size P)
  exact Nat.le_of_lt (Array.getElem?_eq_some_iff.1 ho).1

def mu0 (P : Program) : Mu := fun g => if g < P.globals.size then some (g, 0, none) else none
theorem start_R {w : World} (h : P.globals.size ≤ w.heap.size) : R P (mu0 P) (start P) w where
  obj b o m h1 _ := nomatch h1
  dom b m h1 := by
    unfold mu0 at h1
    split at h1
    · rename_i hb
      injection h1 with h1
      subst h1
      exact ⟨hb, Nat.lt_of_lt_of_le hb h⟩
    · exact nomatch h1
  live b o h1 := nomatch h1
  glob g hg := by unfold mu0; rw [if_pos hg]
  sep b1 b2 o1 o2 m1 m2 _ h1 := nomatch h1
  ord ch l h1 := nomatch h1
  mem ch l b h1 := nomatch h1

theorem run_calls (hmix : P.follows .mixedOrders = true) {w : World} (hsz : P.globals.size ≤ w.heap.size) {n : Nat} {f : FuncId} {args : List AV} {args' : Array Value} (hf : ∀ w, (callFunc f args').run P w = .ok (.enter f args') w)
    (ha : ∀ μ, VRs μ args args'.toList) (hrun : isTrue (run P n f args) = true) : Calls P f args' w fun e w' => e = .returned (.bool true) ∧ Below w.heap.size w w' := by
  have hok := (ev_ok (P := P) (fun FR hF hC => draw_ok hmix FR hF hC) n).1
  unfold isTrue at hrun
  split at hrun
  · rename_i b A' hr
    subst hrun
    have hb := hok f args (start P) (.bool true) A' hr (mu0 P) w args' (start_R hsz) (ha _)
    unfold Back at hb
    rw [hf w] at hb
    intro cs
    obtain ⟨e, w', fr, ⟨v', he, μ', h1, h2, h3⟩, h4, h5, h6⟩ := hb cs
    refine ⟨e, w', fr, ⟨?_, h3.os, h3.tape, h3.output, h3.size, fun k hk => h3.block k hk ?_⟩, h4, h5, h6⟩
    · rw [he, h2.inv_bool]
    · rintro ⟨b, m, o, _, _, h, _⟩
      exact nomatch h
  · exact nomatch hrun

theorem enter_of {f : FuncId} {fn : Func} {args : Array Value} (hf : P.funcs[f]? = some fn) (hb : fn.body.isNone = false) (hn : (fn.name == "runtime.NumGoroutine") = false) (w : World) : (callFunc f args).run P w = .ok (.enter f args) w := by
  unfold callFunc
  show (program >>= fun _ => _).run P w = _
  rw [run_ok (show program.run P w = .ok P w from rfl)]
  simp only [hf, hn, hb, Bool.false_eq_true, if_false]
  rfl
end Go.Ev
namespace Go
variable {H : Type} {enc : TypeId × Value → H}
/-- a law's frame, with the world's shape in hand -/
theorem of_shaped {a : Assume} {C : Checked} {os : Os} {f : FuncId} {fn : Func} {s : ChangeSpec} {conds : List PathCond} {apart fresh handsOn again : Bool}
    (own : ownKnob C.prog.godebug = none) (started : os.Started) (noInit : C.prog.inits.idxOf? f = none) (hfn : C.prog.funcs[f]? = some fn)
    (witness : ∃ (w : World) (tape : Tape) (i : Input), w.os = os ∧ (w.forCall tape i).Shaped C.prog ∧ i.vars = [] ∧ Input.okWide C.prog (w.forCall tape i) .any w.heap.size f i ∧
      s.pre6 enc C.prog fn conds apart (w.forCall tape i).memory i.args ∧ a.holds C.prog (lone (Frame.enter C.prog f i.args .normal) [] (w.forCall tape i)))
    (contract : ∀ (W : World) (base : Nat) (args : Array Value) (ds gs : List (DataW H)) (before : List MemPlace), W.ShapedOpen C.prog →
      (∀ (j : Nat) t v, fn.params[j]? = some t → args[j]? = some v → Value.okWide C.prog W .any base t v) →
      DataW.Whole enc C.prog fn.params.toList s.vars apart W args.toList ds gs before →
      Calls C.prog f args W fun e W' => ∃ v, e = .returned v ∧ s.post enc C.prog fn apart fresh handsOn again W args v W') :
    ReturnsInHanded a C os f .any (s.pre6 enc C.prog fn conds apart) (s.post enc C.prog fn apart fresh handsOn again) := by
  refine returnsInHanded_of_calls own started noInit witness ?_
  intro w tape i _ hsh _ hok hpre _
  obtain ⟨_, _, _, fn', hfn', _, _, _, _, hval⟩ := hok
  have e : fn' = fn := Option.some.inj (hfn'.symm.trans hfn)
  subst e
  obtain ⟨⟨ds, gs, before, hw, hc⟩, _⟩ := hpre
  have hw' := DataW.Whole.of_heap (w' := w.forCall tape i) (by rfl) hw
  refine (contract (w.forCall tape i) w.heap.size i.args ds gs before hsh hval hw').mono fun e W' ⟨v, he, hp⟩ => ?_
  subst he
  exact ChangeSpec.post_blind hp
end Go
end
