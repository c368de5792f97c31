/- The evaluator Ev and its soundness, part 7 of 7: what it computes of a function, the model's machine computes on every tape. -/
import Derived.Test.YtfpfdeechhaheaaDoorEv5
import Derived.Handed
section
/- Ev, part 40: from a run of the evaluator to the machine's call. -/
namespace Go.Ev
set_option linter.unusedSectionVars false
variable [F : Facts] [E : Env]
set_option linter.unusedSimpArgs false
set_option linter.unusedVariables false
variable {P : Program}
open Go.RowKit

theorem begin_size (P : Program) : P.globals.size < (begin P (fun _ _ => 0) default).world.heap.size := by
  simp [begin]; omega
theorem shaped_size {W : World} (h : W.ShapedOpen P) : P.globals.size ≤ W.heap.size := by
  obtain ⟨o, _, ho, _⟩ := h.2 P.globals.size (Nat.le_refl _) (begin_size P)
  exact Nat.le_of_lt (Array.getElem?_eq_some_iff.1 ho).1

def mu0 (P : Program) : Mu := fun g => if g < P.globals.size then some (g, 0, none) else none
theorem start_R {w : World} (h : P.globals.size ≤ w.heap.size) : R P (mu0 P) (start P) w where
  obj b o m h1 _ := nomatch h1
  dom b m h1 := by
    unfold mu0 at h1
    split at h1
    · rename_i hb
      injection h1 with h1
      subst h1
      exact ⟨hb, Nat.lt_of_lt_of_le hb h⟩
    · exact nomatch h1
  live b o h1 := nomatch h1
  glob g hg := by unfold mu0; rw [if_pos hg]
  sep b1 b2 o1 o2 m1 m2 _ h1 := nomatch h1
  ord ch l h1 := nomatch h1
  mem ch l b h1 := nomatch h1

theorem run_calls (hS : SumsOK P) (hmix : P.follows .mixedOrders = true) {w : World} (hsz : P.globals.size ≤ w.heap.size) {n : Nat} {f : FuncId} {args : List AV} {args' : Array Value} (hf : ∀ w, (callFunc f args').run P w = .ok (.enter f args') w)
    (ha : ∀ μ, VRs μ args args'.toList) (hrun : isTrue (run P n f args) = true) : Calls P f args' w fun e w' => e = .returned (.bool true) ∧ Below w.heap.size w w' := by
  have hok := (ev_ok (P := P) hS (fun FR hF hC => draw_ok hmix FR hF hC) n).1
  unfold isTrue at hrun
  split at hrun
  · rename_i b A' hr
    subst hrun
    have hb := hok f args (start P) (.bool true) A' hr (mu0 P) w args' (start_R hsz) (ha _)
    unfold Back at hb
    rw [hf w] at hb
    intro cs
    obtain ⟨e, w', fr, ⟨v', he, μ', h1, h2, h3⟩, h4, h5, h6⟩ := hb cs
    refine ⟨e, w', fr, ⟨?_, h3.os, h3.tape, h3.output, h3.size, fun k hk => h3.block k hk ?_⟩, h4, h5, h6⟩
    · rw [he, h2.inv_bool]
    · rintro ⟨b, m, o, _, _, h, _⟩
      exact nomatch h
  · exact nomatch hrun

/-! ### runs over rows that lie there -/
noncomputable def putRows (l : List (Nat × Nat × List AV)) : T AObj := lrec .e (fun x t => t.put (some (.row x.2.1 (.lst x.2.2))) x.1) l
noncomputable def startR (P : Program) (l : List (Nat × Nat × List AV)) (k : Nat) : AH := ⟨putRows l, Nat.add P.globals.size k, .e⟩
noncomputable def runR (P : Program) (n : Nat) (f : FuncId) (args : List AV) (l : List (Nat × Nat × List AV)) (k : Nat) : Option (AV × AH) := (ev P (ttOf P) (ftOf P) n).call f args (startR P l k)
omit E in
theorem putRows_get : ∀ {l : List (Nat × Nat × List AV)} {b : Nat} {o : AObj}, (putRows l).get b = some o → ∃ x ∈ l, x.1 = b ∧ o = .row x.2.1 (.lst x.2.2) := by
  intro l
  induction l with
  | nil => intro b o h; exact nomatch h
  | cons x l ih =>
    intro b o h
    have h' : ((putRows l).put (some (.row x.2.1 (.lst x.2.2))) x.1).get b = some o := h
    rw [T.get_put] at h'
    split at h'
    · rename_i e
      injection h' with h'
      exact ⟨x, by simp, e.symm, h'.symm⟩
    · obtain ⟨y, hy, e⟩ := ih h'
      exact ⟨y, by simp [hy], e⟩
/-- a row lies in the world -/
def RowAt (μ : Mu) (w : World) (m : Nat × Nat × Option (Nat × Nat)) (n : Nat) (cells : List AV) : Prop :=
  ∃ cs e fr, w.heap[m.1]? = some (.cells cs e fr) ∧ m.2.1 + n ≤ cs.size ∧ cells.length = n ∧ ∀ (i : Nat) v, cells[i]? = some v → oneA v = true ∧ ∃ v', cs[m.2.1 + i]? = some v' ∧ VR μ v v'
theorem startR_R {w : World} {l : List (Nat × Nat × List AV)} {k : Nat} {μ : Mu} (hg : ∀ g, g < P.globals.size → μ g = some (g, 0, none))
    (hd : ∀ b m, μ b = some m → b < P.globals.size + k ∧ m.1 < w.heap.size) (hl : ∀ x, x ∈ l → x.1 < P.globals.size + k ∧ ∀ m, μ x.1 = some m → RowAt μ w m x.2.1 x.2.2) : R P μ (startR P l k) w where
  obj b o m h1 h2 := by
    obtain ⟨x, hx, e, rfl⟩ := putRows_get h1
    subst e
    obtain ⟨cs, e, fr, h3, h4, h5, h6⟩ := (hl x hx).2 m h2
    refine ⟨_, h3, h4, ?_, ?_⟩
    · intro c hc
      injection hc with hc
      rw [← hc]; exact h5
    · intro i v hv
      have hv' : x.2.2[i]? = some v := by rw [← nth_eq]; exact hv
      have hlt := (List.getElem?_eq_some_iff.1 hv').1
      exact ⟨by omega, h6 i v hv'⟩
  dom b m h1 := hd b m h1
  live b o h1 := by
    obtain ⟨x, hx, e, _⟩ := putRows_get h1
    subst e
    exact (hl x hx).1
  glob g h := hg g h
  sep b1 b2 o1 o2 m1 m2 _ h1 h2 _ _ _ := by
    obtain ⟨x, hx, _, rfl⟩ := putRows_get h1
    obtain ⟨y, hy, _, rfl⟩ := putRows_get h2
    exact .inl ⟨rfl, rfl⟩
  ord ch l h1 := nomatch h1
  mem ch l b h1 := nomatch h1

theorem runR_calls (hS : SumsOK P) (hmix : P.follows .mixedOrders = true) {w : World} {n : Nat} {f : FuncId} {args : List AV} {args' : Array Value} {l : List (Nat × Nat × List AV)} {k : Nat} {μ : Mu}
    (hg : ∀ g, g < P.globals.size → μ g = some (g, 0, none)) (hd : ∀ b m, μ b = some m → b < P.globals.size + k ∧ m.1 < w.heap.size)
    (hl : ∀ x, x ∈ l → x.1 < P.globals.size + k ∧ ∀ m, μ x.1 = some m → RowAt μ w m x.2.1 x.2.2)
    (hf : ∀ w, (callFunc f args').run P w = .ok (.enter f args') w) (ha : VRs μ args args'.toList) (hrun : isTrue (runR P n f args l k) = true) :
    Calls P f args' w fun e w' => e = .returned (.bool true) ∧ Below w.heap.size w w' := by
  have hok := (ev_ok (P := P) hS (fun FR hF hC => draw_ok hmix FR hF hC) n).1
  unfold isTrue at hrun
  split at hrun
  · rename_i b A' hr
    subst hrun
    have hb := hok f args (startR P l k) (.bool true) A' hr μ w args' (startR_R hg hd hl) ha
    unfold Back at hb
    rw [hf w] at hb
    intro cs
    obtain ⟨e, w', fr, ⟨v', he, μ', h1, h2, h3⟩, h4, h5, h6⟩ := hb cs
    refine ⟨e, w', fr, ⟨?_, h3.os, h3.tape, h3.output, h3.size, fun k hk => h3.block k hk ?_⟩, h4, h5, h6⟩
    · rw [he, h2.inv_bool]
    · rintro ⟨b, m, o, _, _, h, hw⟩
      obtain ⟨x, hx, _, rfl⟩ := putRows_get h
      exact nomatch hw
  · exact nomatch hrun

/-- where a slice's row lies that came in -/
def mu1 (P : Program) (x : Addr) : Mu := fun b => if b < P.globals.size then some (b, 0, none) else if b = P.globals.size then some (x.block, x.off, none) else none
omit F E in
theorem addr_add0 (x : Addr) : x.add 0 = x := rfl
/-- a run over a slice of numbers that came in -/
theorem slice_calls (hS : SumsOK P) (hmix : P.follows .mixedOrders = true) {w : World} (hsz : P.globals.size ≤ w.heap.size) {G n fuel : Nat} (hG : P.globals.size = G) {f : FuncId} {args : List AV} {args' : Array Value} {x : Addr} {k : IntKind} {zs : List Int}
    (hf : ∀ w, (callFunc f args').run P w = .ok (.enter f args') w) (hn : 0 < n) (hz : n ≤ zs.length) (hc : ∀ i, i < zs.length → w.cell? (x.add i) = some (.int k (zs.getD i 0))) {cells : List AV} (hl : cells.length = n)
    (hv : ∀ (i : Nat) v, cells[i]? = some v → oneA v = true ∧ ∀ μ, VR μ v (.int k (zs.getD i 0)))
    (ha : ∀ μ, (0 < n → ∃ b' d x', μ G = some (b', d, x') ∧ x = ⟨b', d + 0, none⟩) → VRs μ args args'.toList) (hrun : isTrue (runR P fuel f args [(G, n, cells)] 1) = true) :
    Calls P f args' w fun e w' => e = .returned (.bool true) ∧ Below w.heap.size w w' := by
  subst hG
  have h0 := hc 0 (by omega)
  rw [addr_add0] at h0
  have hb : ∃ cs e fr, w.heap[x.block]? = some (.cells cs e fr) ∧ x.spot = none := by
    unfold World.cell? at h0
    split at h0
    · rename_i cs e fr hh
      refine ⟨cs, e, fr, hh, ?_⟩
      cases hs : x.spot with
      | none => rfl
      | some s => rw [hs] at h0; simp at h0
    · exact nomatch h0
  obtain ⟨cs, e, fr, hh, hsp⟩ := hb
  have hcell : ∀ i, i < n → cs[x.off + i]? = some (.int k (zs.getD i 0)) := by
    intro i hi
    have h1 := hc i (by omega)
    unfold World.cell? at h1
    have hblk : (x.add i).block = x.block := by unfold Addr.add; split <;> rfl
    have hoff : (x.add i).off = x.off + i := by unfold Addr.add; split <;> simp_all
    have hspot : (x.add i).spot = none := by unfold Addr.add; split <;> simp_all
    rw [hblk, hh] at h1
    simp only [hspot, hoff] at h1
    simpa using h1
  have hsize : x.off + n ≤ cs.size := by
    have := (Array.getElem?_eq_some_iff.1 (hcell (n - 1) (by omega))).1
    omega
  have hblt : x.block < w.heap.size := (Array.getElem?_eq_some_iff.1 hh).1
  refine runR_calls (μ := mu1 P x) hS hmix ?_ ?_ ?_ hf (ha _ ?_) hrun
  · intro g hg
    unfold mu1; rw [if_pos hg]
  · intro b m hm
    unfold mu1 at hm
    split at hm
    · injection hm with hm; subst hm; exact ⟨by omega, by simp; omega⟩
    · split at hm
      · injection hm with hm; subst hm; exact ⟨by omega, hblt⟩
      · exact nomatch hm
  · intro y hy
    simp at hy
    subst hy
    refine ⟨by simp, fun m hm => ?_⟩
    have hm' : m = (x.block, x.off, none) := by
      have : mu1 P x P.globals.size = some (x.block, x.off, none) := by unfold mu1; simp
      rw [this] at hm; injection hm with hm; exact hm.symm
    subst hm'
    refine ⟨cs, e, fr, hh, hsize, hl, fun i v hi => ?_⟩
    obtain ⟨h1, h2⟩ := hv i v hi
    have hlt : i < cells.length := (List.getElem?_eq_some_iff.1 hi).1
    exact ⟨h1, _, hcell i (by omega), h2 _⟩
  · intro _
    refine ⟨x.block, x.off, none, by unfold mu1; simp, ?_⟩
    cases x
    simp_all

theorem enter_of {f : FuncId} {fn : Func} {args : Array Value} (hf : P.funcs[f]? = some fn) (hb : fn.body.isNone = false) (hn : (fn.name == "runtime.NumGoroutine") = false) (w : World) : (callFunc f args).run P w = .ok (.enter f args) w := by
  unfold callFunc
  show (program >>= fun _ => _).run P w = _
  rw [run_ok (show program.run P w = .ok P w from rfl)]
  simp only [hf, hn, hb, Bool.false_eq_true, if_false]
  rfl
end Go.Ev
namespace Go
variable {H : Type} {enc : TypeId × Value → H}
/-- a law's frame, with the world's shape in hand -/
theorem of_shaped {a : Assume} {C : Checked} {os : Os} {f : FuncId} {fn : Func} {s : ChangeSpec} {conds : List PathCond} {apart fresh handsOn again : Bool}
    (own : ownKnob C.prog.godebug = none) (started : os.Started) (noInit : C.prog.inits.idxOf? f = none) (hfn : C.prog.funcs[f]? = some fn)
    (witness : ∃ (w : World) (tape : Tape) (i : Input), w.os = os ∧ (w.forCall tape i).Shaped C.prog ∧ i.vars = [] ∧ Input.okWide C.prog (w.forCall tape i) .any w.heap.size f i ∧
      s.pre6 enc C.prog fn conds apart (w.forCall tape i).memory i.args ∧ a.holds C.prog (lone (Frame.enter C.prog f i.args .normal) [] (w.forCall tape i)))
    (contract : ∀ (W : World) (base : Nat) (args : Array Value) (ds gs : List (DataW H)) (before : List MemPlace), W.ShapedOpen C.prog →
      (∀ (j : Nat) t v, fn.params[j]? = some t → args[j]? = some v → Value.okWide C.prog W .any base t v) →
      DataW.Whole enc C.prog fn.params.toList s.vars apart W args.toList ds gs before →
      Calls C.prog f args W fun e W' => ∃ v, e = .returned v ∧ s.post enc C.prog fn apart fresh handsOn again W args v W') :
    ReturnsInHanded a C os f .any (s.pre6 enc C.prog fn conds apart) (s.post enc C.prog fn apart fresh handsOn again) := by
  refine returnsInHanded_of_calls own started noInit witness ?_
  intro w tape i _ hsh _ hok hpre _
  obtain ⟨_, _, _, fn', hfn', _, _, _, _, hval⟩ := hok
  have e : fn' = fn := Option.some.inj (hfn'.symm.trans hfn)
  subst e
  obtain ⟨⟨ds, gs, before, hw, hc⟩, _⟩ := hpre
  have hw' := DataW.Whole.of_heap (w' := w.forCall tape i) (by rfl) hw
  refine (contract (w.forCall tape i) w.heap.size i.args ds gs before hsh hval hw').mono fun e W' ⟨v, he, hp⟩ => ?_
  subst he
  exact ChangeSpec.post_blind hp
end Go
namespace Go.Ev
/-- the unknowns, listed -/
theorem noSums {bnd : List (Int × Int)} {more : List (Lin × Int × Int)} {E : @Env ⟨bnd, more, noSum⟩} {P : Program} : @SumsOK ⟨bnd, more, noSum⟩ E P := fun _ _ _ h => nomatch h
theorem envOf (bnd : List (Int × Int)) (more : List (Lin × Int × Int)) (sum : FuncId → List AV → Option AV) (vs : List Int) (h : All2 (fun (b : Int × Int) v => b.1 ≤ v ∧ v ≤ b.2) bnd vs)
    (h2 : ∀ e, e ∈ more → e.2.1 ≤ linV (fun i => vs.getD i 0) e.1 ∧ linV (fun i => vs.getD i 0) e.1 ≤ e.2.2) : ∃ E : @Env ⟨bnd, more, sum⟩, E.val = fun i => vs.getD i 0 :=
  ⟨@Env.mk ⟨bnd, more, sum⟩ (fun i => vs.getD i 0) (by
    have key : ∀ (l : List (Int × Int)) (m : List Int), All2 (fun (b : Int × Int) v => b.1 ≤ v ∧ v ≤ b.2) l m → ∀ (i : Nat) (b : Int × Int), l[i]? = some b → b.1 ≤ m.getD i 0 ∧ m.getD i 0 ≤ b.2 := by
      intro l
      induction l with
      | nil => intro m _ i b hb; simp at hb
      | cons a l ih =>
        intro m hm i b hb
        cases hm with
        | cons h hs =>
        cases i with
        | zero => simp at hb; subst hb; simpa using h
        | succ i => simp at hb; simpa using ih _ hs i b hb
    exact key bnd vs h) h2, rfl⟩
end Go.Ev
namespace Go
variable {H : Type} {enc : TypeId × Value → H}
/-- a law's frame over a row that lists variables, with the world's shape in hand -/
theorem of_shaped_and {a : Assume} {C : Checked} {os : Os} {f : FuncId} {fn : Func} {s : ChangeSpec} {conds : List PathCond} {apart fresh handsOn again : Bool} {X : World → Array Value → Prop}
    (hX : ∀ (w w' : World) (args : Array Value), w.heap = w'.heap → X w args → X w' args)
    (own : ownKnob C.prog.godebug = none) (started : os.Started) (noInit : C.prog.inits.idxOf? f = none) (hfn : C.prog.funcs[f]? = some fn)
    (witness : ∃ (w : World) (tape : Tape) (i : Input), w.os = os ∧ (w.forCall tape i).Shaped C.prog ∧ i.vars = [] ∧ Input.okWide C.prog (w.forCall tape i) .any w.heap.size f i ∧
      ((s.pre enc C.prog fn conds apart (w.forCall tape i).memory i.args ∧ X (w.forCall tape i).memory i.args) ∧ sizedMet enc C.prog fn (OpenSpec.ofChange s) apart (w.forCall tape i).memory i.args) ∧ a.holds C.prog (lone (Frame.enter C.prog f i.args .normal) [] (w.forCall tape i)))
    (contract : ∀ (W : World) (base : Nat) (args : Array Value) (ds gs : List (DataW H)) (before : List MemPlace), W.ShapedOpen C.prog →
      (∀ (j : Nat) t v, fn.params[j]? = some t → args[j]? = some v → Value.okWide C.prog W .any base t v) →
      DataW.Whole enc C.prog fn.params.toList s.vars apart W args.toList ds gs before → X W args →
      Calls C.prog f args W fun e W' => ∃ v, e = .returned v ∧ s.post enc C.prog fn apart fresh handsOn again W args v W') :
    ReturnsInHanded a C os f .any (fun w args => (s.pre enc C.prog fn conds apart w args ∧ X w args) ∧ sizedMet enc C.prog fn (OpenSpec.ofChange s) apart w args) (s.post enc C.prog fn apart fresh handsOn again) := by
  refine returnsInHanded_of_calls own started noInit witness ?_
  intro w tape i _ hsh _ hok hpre _
  obtain ⟨_, _, _, fn', hfn', _, _, _, _, hval⟩ := hok
  have e : fn' = fn := Option.some.inj (hfn'.symm.trans hfn)
  subst e
  obtain ⟨⟨⟨ds, gs, before, hw, hc⟩, hx⟩, hz⟩ := hpre
  have hw' := DataW.Whole.of_heap (w' := w.forCall tape i) (by rfl) hw
  refine (contract (w.forCall tape i) w.heap.size i.args ds gs before hsh hval hw' (hX _ _ _ (by rfl) hx)).mono fun e W' ⟨v, he, hp⟩ => ?_
  subst he
  exact ChangeSpec.post_blind hp
end Go
end

section
/- Ev, part 41: functions that are taken as they are said to answer. -/
namespace Go.Ev
open Go.RowKit
set_option linter.unusedSimpArgs false
set_option linter.unusedVariables false
set_option linter.unusedSectionVars false

/-- does a run end with this number? -/
noncomputable def isSum (k : IntKind) (c : Int) (l : Lin) (r : Option (AV × AH)) : Bool :=
  match r with
  | some (v, _) => AV.beq v (mkSym k c l)
  | none => false
theorem run_sum {P : Program} [F : Facts] [E : Env] (hS : SumsOK P) (hmix : P.follows .mixedOrders = true) {w : World} (hsz : P.globals.size ≤ w.heap.size) {n : Nat} {f : FuncId} {args : List AV} {args' : Array Value} (hf : ∀ w, (callFunc f args').run P w = .ok (.enter f args') w)
    (ha : ∀ μ, VRs μ args args'.toList) {k : IntKind} {c : Int} {l : Lin} (hrun : isSum k c l (run P n f args) = true) : Calls P f args' w fun e w' => e = .returned (.int k (c + linV E.val l)) ∧ Below w.heap.size w w' := by
  have hok := (ev_ok (P := P) hS (fun FR hF hC => draw_ok hmix FR hF hC) n).1
  unfold isSum at hrun
  split at hrun
  · rename_i v A' hr
    have hv := beq_true _ _ hrun
    subst hv
    have hb := hok f args (start P) (mkSym k c l) A' hr (mu0 P) w args' (start_R hsz) (ha _)
    unfold Back at hb
    rw [hf w] at hb
    intro cs
    obtain ⟨e, w', fr, ⟨v', he, μ', h1, h2, h3⟩, h4, h5, h6⟩ := hb cs
    refine ⟨e, w', fr, ⟨?_, h3.os, h3.tape, h3.output, h3.size, fun k hk => h3.block k hk ?_⟩, h4, h5, h6⟩
    · rw [he]
      rcases mkSym_is k c l with hm | ⟨c', l', hm, hs⟩
      · rw [hm] at h2; rw [h2.inv_int]
      · rw [hm] at h2; rw [h2.inv_sum, ← hs]
    · rintro ⟨b, m, o, _, _, h, _⟩
      exact nomatch h
  · exact nomatch hrun

/-! ### a sum of two numbers that are not negative -/
noncomputable def within (F : Facts) (M : Int) (c : Int) (l : Lin) : Bool :=
  match @bounds F l with
  | some b => ba (ile 0 (Int.add c b.1)) (ile (Int.add c b.2) M)
  | none => false
noncomputable def addSum (F : Facts) (args : List AV) : Option AV :=
  match args with
  | [x, y] => onSum (fun k c l => onSum (fun k' d r => ot (ba (ba (keq k .i64) (keq k' .i64)) (ba (within F 1099511627776 c l) (within F 1099511627776 d r))) (@arithL F .add .i64 c l d r)) y) x
  | _ => none
noncomputable def addOf (id : FuncId) (bnd : List (Int × Int)) (more : List (Lin × Int × Int)) : FuncId → List AV → Option AV :=
  fun f args => ot (Nat.beq f id) (addSum ⟨bnd, more, noSum⟩ args)
theorem within_ok {F : Facts} [E : @Env F] {M c : Int} {l : Lin} (h : within F M c l = true) : 0 ≤ c + linV E.val l ∧ c + linV E.val l ≤ M := by
  unfold within at h
  split at h
  · rename_i b hb
    have := bounds_ok _ _ hb
    simp only [ba_eq, Bool.and_eq_true, ile_eq, decide_eq_true_eq] at h
    obtain ⟨h1, h2⟩ := h
    have h1' : 0 ≤ c + b.1 := h1
    have h2' : c + b.2 ≤ M := h2
    omega
  · exact nomatch h
theorem add_sums {P : Program} {bnd : List (Int × Int)} {more : List (Lin × Int × Int)} {id : FuncId} {E : @Env ⟨bnd, more, addOf id bnd more⟩}
    (henter : ∀ (args : Array Value) w, (callFunc id args).run P w = .ok (.enter id args) w)
    (hadd : ∀ (a b : Int) (w : World), 0 ≤ a → a ≤ 1099511627776 → 0 ≤ b → b ≤ 1099511627776 → P.globals.size ≤ w.heap.size →
      Calls P id #[.int .i64 a, .int .i64 b] w fun e w' => e = .returned (.int .i64 (a + b)) ∧ Below w.heap.size w w') : @SumsOK ⟨bnd, more, addOf id bnd more⟩ E P := by
  intro f args v h μ w args' hv hsz
  have h0 : ot (Nat.beq f id) (addSum ⟨bnd, more, noSum⟩ args) = some v := h
  clear h
  obtain ⟨hid, h⟩ := ot_eq h0
  clear h0
  rw [nbeq_eq, decide_eq_true_eq] at hid
  subst hid
  letI F1 : Facts := ⟨bnd, more, addOf f bnd more⟩
  letI E1 : @Env F1 := E
  letI E0 : @Env ⟨bnd, more, noSum⟩ := @Env.mk ⟨bnd, more, noSum⟩ E.val E.bnd_ok E.more_ok
  unfold addSum at h
  split at h
  · rename_i x y
    have hvs : @VRs F1 E1 μ [x, y] args'.toList := hv
    obtain ⟨x', y', eargs, hx, hy⟩ : ∃ x' y', args'.toList = [x', y'] ∧ @VR F1 E1 μ x x' ∧ @VR F1 E1 μ y y' := by
      generalize args'.toList = m at hvs
      cases hvs with
      | cons hx hvs =>
      cases hvs with
      | cons hy hvs =>
      cases hvs
      exact ⟨_, _, rfl, hx, hy⟩
    obtain ⟨k, c, l, h2a, ex⟩ := @onSum_eq F1 E1 μ _ _ _ _ _ h hx
    obtain ⟨k', d, r, h2b, ey⟩ := @onSum_eq F1 E1 μ _ _ _ _ _ h2a hy
    obtain ⟨hc, h2c⟩ := ot_eq h2b
    simp only [ba_eq, Bool.and_eq_true, keq_eq, decide_eq_true_eq] at hc
    obtain ⟨⟨hk, hk'⟩, h1, h2⟩ := hc
    subst hk; subst hk'
    have b1 := @within_ok ⟨bnd, more, noSum⟩ E0 _ _ _ h1
    have b2 := @within_ok ⟨bnd, more, noSum⟩ E0 _ _ _ h2
    obtain ⟨n, hs, hop⟩ := @arithL_ok ⟨bnd, more, noSum⟩ E0 _ _ _ _ _ _ _ h2c
    have hn : n = (c + linV E.val l) + (d + linV E.val r) := by
      rcases hop with ⟨_, hn⟩ | ⟨ho, _⟩ | ⟨ho, _⟩ | ⟨ho, _⟩ | ⟨ho, _⟩ <;> first | (rw [hn]; exact wrap_in .i64 _ (by show (-9223372036854775808 : Int) ≤ _; omega) (by show _ ≤ (9223372036854775807 : Int); omega)) | exact nomatch ho
    have ha : args' = #[.int .i64 (c + linV E.val l), .int .i64 (d + linV E.val r)] := by
      have : args' = #[x', y'] := by cases args'; simp_all
      rw [this]
      have ex' : x' = .int .i64 (c + linV E.val l) := ex
      have ey' : y' = .int .i64 (d + linV E.val r) := ey
      rw [ex', ey']
    refine ⟨henter args', ?_⟩
    rw [ha]
    refine (hadd _ _ w b1.1 b1.2 b2.1 b2.2 hsz).mono fun e w' ⟨he, hb⟩ => ⟨_, he, ?_, hb⟩
    subst hn
    rcases hs with rfl | ⟨c', l', rfl, hs⟩
    · exact .int _ _
    · exact .sym _ hs
  · exact nomatch h
end Go.Ev
end
