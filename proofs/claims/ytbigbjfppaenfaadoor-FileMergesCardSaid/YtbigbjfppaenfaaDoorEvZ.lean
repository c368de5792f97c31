/- The evaluator Ev and its soundness, part 5 of 5: what it computes of a function, the model's machine computes on every tape. -/
import Derived.Test.YtbigbjfppaenfaaDoorEv3
import Derived.Handed
import Derived.MakeChecks
import Derived.ChangeArms
import Derived.OpenShut
import Derived.FnData
section
/- Ev, part 35: regions that draw: what their compilation says. -/
namespace Go.Ev
variable [F : Facts] [E : Env]
set_option linter.unusedSimpArgs false
set_option linter.unusedVariables false
set_option linter.unusedSectionVars false
set_option linter.constructorNameAsVariable false
variable {P : Program} {μ : Mu}

theorem hasBit_eq (m i : Nat) : hasBit m i = m.testBit i := by
  unfold hasBit
  rw [nbeq_eq, Nat.testBit_eq_decide_div_mod_eq]
  rfl
theorem hasBit_lor (a b i : Nat) : hasBit (Nat.lor a b) i = (hasBit a i || hasBit b i) := by
  rw [hasBit_eq, hasBit_eq, hasBit_eq]
  exact Nat.testBit_or a b i
theorem hasBit_pow (n i : Nat) : hasBit (Nat.pow 2 n) i = decide (n = i) := by
  rw [hasBit_eq]
  exact Nat.testBit_two_pow
theorem hasBit_zero (i : Nat) : hasBit 0 i = false := by
  rw [hasBit_eq]; simp

theorem maskOf_ok {masks : T Nat} : ∀ {l : List Edge} {m : Nat}, maskOf masks l = some m →
    (∀ j, hasBit m j = true → ∃ e ∈ l, Region.binds .any e = true ∧ (e.on = j ∨ ∃ m', masks.get e.on = some m' ∧ hasBit m' j = true)) ∧ (∀ e ∈ l, Region.binds .any e = true → ∃ m', masks.get e.on = some m') := by
  intro l
  induction l with
  | nil =>
    intro m h
    injection h with h
    subst h
    exact ⟨(fun j hj => by rw [hasBit_zero] at hj; exact Bool.noConfusion hj), (fun e he => nomatch he)⟩
  | cons e l ih =>
    intro m h
    replace h : bif2 (Region.binds .any e) (ob (masks.get e.on) fun m => ob (maskOf masks l) fun r => some (Nat.lor (Nat.lor m (Nat.pow 2 e.on)) r)) (maskOf masks l) = some m := h
    rw [bif2_eq] at h
    by_cases hb : Region.binds .any e = true
    · rw [if_pos hb] at h
      obtain ⟨m1, h1, h2⟩ := ob_eq h
      obtain ⟨r, h3, h4⟩ := ob_eq h2
      injection h4 with h4
      subst h4
      obtain ⟨q1, q2⟩ := ih h3
      refine ⟨fun j hj => ?_, fun e' he' hb' => ?_⟩
      · rw [hasBit_lor, hasBit_lor, hasBit_pow, Bool.or_eq_true, Bool.or_eq_true, decide_eq_true_eq] at hj
        rcases hj with (hj | hj) | hj
        · exact ⟨e, by simp, hb, .inr ⟨m1, h1, hj⟩⟩
        · exact ⟨e, by simp, hb, .inl hj⟩
        · obtain ⟨e', k1, k2, k3⟩ := q1 j hj
          exact ⟨e', by simp [k1], k2, k3⟩
      · rcases List.mem_cons.1 he' with he' | he'
        · subst he'; exact ⟨m1, h1⟩
        · exact q2 e' he' hb'
    · rw [if_neg hb] at h
      obtain ⟨q1, q2⟩ := ih h
      refine ⟨fun j hj => ?_, fun e' he' hb' => ?_⟩
      · obtain ⟨e', k1, k2, k3⟩ := q1 j hj
        exact ⟨e', by simp [k1], k2, k3⟩
      · rcases List.mem_cons.1 he' with he' | he'
        · subst he'; exact absurd hb' hb
        · exact q2 e' he' hb'

theorem masksFrom_ok : ∀ {l : List Oper} {i0 : Nat} {ms masks : T Nat}, masksFrom l i0 ms = some masks → (∀ i m, ms.get i = some m → i < i0) →
    (∀ i m, ms.get i = some m → masks.get i = some m) ∧ (∀ i m, masks.get i = some m → i < i0 + l.length) ∧
    (∀ j o, l[j]? = some o → ∃ m, masks.get (i0 + j) = some m ∧
      (∀ x, hasBit m x = true → ∃ e ∈ o.after.toList, Region.binds .any e = true ∧ (e.on = x ∨ ∃ m', masks.get e.on = some m' ∧ hasBit m' x = true)) ∧ (∀ e ∈ o.after.toList, Region.binds .any e = true → e.on < i0 + j)) := by
  intro l
  induction l with
  | nil =>
    intro i0 ms masks h hlt
    have h : some ms = some masks := h
    injection h with h
    subst h
    exact ⟨fun _ _ h => h, fun i m h => by have := hlt i m h; simpa using this, fun j o h => by simp at h⟩
  | cons o l ih =>
    intro i0 ms masks h hlt
    obtain ⟨m, hm, h1⟩ := ob_eq (show ob (maskOf ms o.after.toList) (fun m => masksFrom l (Nat.succ i0) (ms.put (some m) i0)) = some masks from h)
    obtain ⟨q1, q2, q3⟩ := ih h1 (fun i m' hi => by
      rw [T.get_put] at hi
      split at hi
      · omega
      · have := hlt i m' hi; omega)
    obtain ⟨r1, r2⟩ := maskOf_ok hm
    have hsub : ∀ i m', ms.get i = some m' → masks.get i = some m' := fun i m' hi => q1 i m' (by
      rw [T.get_put, if_neg (by have := hlt i m' hi; omega)]; exact hi)
    refine ⟨hsub, fun i m' hi => by have := q2 i m' hi; simp only [List.length_cons]; omega, ?_⟩
    intro j o' hj
    cases j with
    | zero =>
      simp only [List.getElem?_cons_zero, Option.some.injEq] at hj
      subst hj
      refine ⟨m, q1 _ _ (by rw [Nat.add_zero, T.get_put_same]), fun x hx => ?_, fun e he hb => ?_⟩
      · obtain ⟨e, k1, k2, k3⟩ := r1 x hx
        refine ⟨e, k1, k2, k3.imp id ?_⟩
        rintro ⟨m', k4, k5⟩
        exact ⟨m', hsub _ _ k4, k5⟩
      · obtain ⟨m', k4⟩ := r2 e he hb
        have := hlt _ _ k4
        omega
    | succ j =>
      simp only [List.getElem?_cons_succ] at hj
      obtain ⟨m', k1, k2, k3⟩ := q3 j o' hj
      refine ⟨m', by rw [show i0 + (j + 1) = Nat.succ i0 + j from by omega]; exact k1, k2, fun e he hb => by have := k3 e he hb; omega⟩

theorem writersFrom_ok {nt : Nat} : ∀ {l : List Oper} {i0 : Nat} {ws0 ws : T Nat}, writersFrom nt l i0 ws0 = some ws →
    (∀ d i, ws0.get d = some i → ws.get d = some i) ∧ (∀ j o d, l[j]? = some o → o.dst = some d → ws.get d = some (i0 + j) ∧ d < nt) ∧
    (∀ d i, ws.get d = some i → ws0.get d = some i ∨ ∃ j o, l[j]? = some o ∧ o.dst = some d ∧ i = i0 + j) := by
  intro l
  induction l with
  | nil =>
    intro i0 ws0 ws h
    have h : some ws0 = some ws := h
    injection h with h
    subst h
    exact ⟨fun _ _ h => h, fun j o d h => by simp at h, fun d i h => .inl h⟩
  | cons o l ih =>
    intro i0 ws0 ws h
    replace h : (match o.dst with
      | none => writersFrom nt l (Nat.succ i0) ws0
      | some d => ot (ba (nlt d nt) (ws0.get d).isNone) (writersFrom nt l (Nat.succ i0) (ws0.put (some i0) d))) = some ws := h
    cases hd : o.dst with
    | none =>
      rw [hd] at h
      obtain ⟨q1, q2, q3⟩ := ih (show writersFrom nt l (Nat.succ i0) ws0 = some ws from h)
      refine ⟨q1, ?_, ?_⟩
      · intro j o' d hj hdd
        cases j with
        | zero =>
          simp only [List.getElem?_cons_zero, Option.some.injEq] at hj
          subst hj
          rw [hd] at hdd; exact nomatch hdd
        | succ j =>
          simp only [List.getElem?_cons_succ] at hj
          have := q2 j o' d hj hdd
          rw [show i0 + (j + 1) = Nat.succ i0 + j from by omega]; exact this
      · intro d i hi
        rcases q3 d i hi with h1 | ⟨j, o', h1, h2, h3⟩
        · exact .inl h1
        · exact .inr ⟨j + 1, o', by simpa using h1, h2, by omega⟩
    | some d0 =>
      rw [hd] at h
      obtain ⟨hc, h1⟩ := ot_eq (show ot (ba (nlt d0 nt) (ws0.get d0).isNone) (writersFrom nt l (Nat.succ i0) (ws0.put (some i0) d0)) = some ws from h)
      rw [ba_eq, Bool.and_eq_true, nlt_eq, decide_eq_true_eq, Option.isNone_iff_eq_none] at hc
      obtain ⟨q1, q2, q3⟩ := ih h1
      refine ⟨?_, ?_, ?_⟩
      · intro d i hi
        refine q1 d i ?_
        rw [T.get_put, if_neg]
        · exact hi
        · intro e; subst e; rw [hc.2] at hi; exact nomatch hi
      · intro j o' d hj hdd
        cases j with
        | zero =>
          simp only [List.getElem?_cons_zero, Option.some.injEq] at hj
          subst hj
          rw [hd] at hdd
          injection hdd with hdd
          subst hdd
          exact ⟨q1 _ _ (by rw [Nat.add_zero, T.get_put_same]), hc.1⟩
        | succ j =>
          simp only [List.getElem?_cons_succ] at hj
          have := q2 j o' d hj hdd
          rw [show i0 + (j + 1) = Nat.succ i0 + j from by omega]; exact this
      · intro d i hi
        rcases q3 d i hi with h2 | ⟨j, o', h2, h3, h4⟩
        · rw [T.get_put] at h2
          split at h2
          · rename_i e
            subst e
            injection h2 with h2
            exact .inr ⟨0, o, by simp, hd, by omega⟩
          · exact .inl h2
        · exact .inr ⟨j + 1, o', by simpa using h2, h3, by omega⟩

theorem compDFrom_ok {all : List Oper} {masks ws : T Nat} : ∀ {l : List Oper} {i0 : Nat} {cs : List NOper}, compDFrom P (ttOf P) all masks ws l i0 = some cs →
    cs.map Prod.fst = List.range' i0 l.length ∧ (∀ j o, l[j]? = some o → ∃ c, cs[j]? = some (i0 + j, c) ∧ compD1 P (ttOf P) all masks ws (i0 + j) o = some c) := by
  intro l
  induction l with
  | nil =>
    intro i0 cs h
    have h : some [] = some cs := h
    injection h with h
    subst h
    exact ⟨rfl, fun j o h => by simp at h⟩
  | cons o l ih =>
    intro i0 cs h
    obtain ⟨c, hc, h1⟩ := ob_eq (show ob (compD1 P (ttOf P) all masks ws i0 o) (fun c => ob (compDFrom P (ttOf P) all masks ws l (Nat.succ i0)) fun cs => some ((i0, c) :: cs)) = some cs from h)
    obtain ⟨cs', hcs, h2⟩ := ob_eq h1
    injection h2 with h2
    subst h2
    obtain ⟨q1, q2⟩ := ih hcs
    refine ⟨by rw [List.map_cons, q1, List.length_cons, List.range'_succ], ?_⟩
    intro j o' hj
    cases j with
    | zero =>
      simp only [List.getElem?_cons_zero, Option.some.injEq] at hj
      subst hj
      exact ⟨c, by simp, hc⟩
    | succ j =>
      simp only [List.getElem?_cons_succ] at hj
      obtain ⟨c', k1, k2⟩ := q2 j o' hj
      refine ⟨c', ?_, ?_⟩
      · rw [List.getElem?_cons_succ, show i0 + (j + 1) = Nat.succ i0 + j from by omega]; exact k1
      · rw [show i0 + (j + 1) = Nat.succ i0 + j from by omega]; exact k2

theorem filt_eq {α : Type} (f : α → Bool) : ∀ l : List α, filt f l = l.filter f := by
  intro l
  induction l with
  | nil => rfl
  | cons a l ih =>
    show bif2 (f a) (a :: filt f l) (filt f l) = _
    rw [ih, bif2_eq, List.filter_cons]

theorem outs_ok : ∀ {cs : List NOper} {d i : Nat}, (d, i) ∈ outsOfOps cs ↔ ∃ c, (i, c) ∈ cs ∧ c.dst = some d := by
  intro cs
  induction cs with
  | nil => intro d i; exact ⟨(fun h => nomatch h), (fun ⟨c, h, _⟩ => nomatch h)⟩
  | cons c cs ih =>
    intro d i
    have hstep : outsOfOps (c :: cs) = (match c.2.dst with | some d => (d, c.1) :: outsOfOps cs | none => outsOfOps cs) := rfl
    rw [hstep]
    cases hd : c.2.dst with
    | none =>
      simp only
      rw [ih]
      constructor
      · rintro ⟨c', h1, h2⟩
        exact ⟨c', List.mem_cons_of_mem _ h1, h2⟩
      · rintro ⟨c', h1, h2⟩
        rcases List.mem_cons.1 h1 with h1 | h1
        · subst h1; rw [hd] at h2; exact nomatch h2
        · exact ⟨c', h1, h2⟩
    | some d0 =>
      simp only
      rw [List.mem_cons, ih]
      constructor
      · rintro (h | ⟨c', h1, h2⟩)
        · injection h with h1 h2
          subst h1; subst h2
          exact ⟨c.2, by simp, hd⟩
        · exact ⟨c', List.mem_cons_of_mem _ h1, h2⟩
      · rintro ⟨c', h1, h2⟩
        rcases List.mem_cons.1 h1 with h1 | h1
        · subst h1
          rw [hd] at h2
          injection h2 with h2
          subst h2
          exact .inl rfl
        · exact .inr ⟨c', h1, h2⟩

theorem outsOf_ok {res : T AV} : ∀ {l : List (Nat × Nat)} {env env' : T AV}, outsOf res l env = some env' → ∀ x v, env'.get x = some v → (∃ i, (x, i) ∈ l ∧ res.get i = some v) ∨ ((∀ i, (x, i) ∉ l) ∧ env.get x = some v) := by
  intro l
  induction l with
  | nil =>
    intro env env' h x v hv
    have h : some env = some env' := h
    injection h with h
    subst h
    exact .inr ⟨(fun i h => nomatch h), hv⟩
  | cons p l ih =>
    intro env env' h x v hv
    obtain ⟨u, hu, h1⟩ := ob_eq (show ob (res.get p.2) (fun v => outsOf res l (env.put (some v) p.1)) = some env' from h)
    rcases ih h1 x v hv with ⟨i, k1, k2⟩ | ⟨k1, k2⟩
    · exact .inl ⟨i, List.mem_cons_of_mem _ k1, k2⟩
    · rw [T.get_put] at k2
      by_cases e : x = p.1
      · rw [if_pos e] at k2
        injection k2 with k2
        subst k2; subst e
        exact .inl ⟨p.2, by simp, hu⟩
      · rw [if_neg e] at k2
        refine .inr ⟨fun i hi => ?_, k2⟩
        rcases List.mem_cons.1 hi with hi | hi
        · exact e (by rw [← hi])
        · exact k1 i hi

/-! ### loads of a heap with more in it -/
theorem evL_mono {io : Opd → Option AV} {A A' : AH} (h : ∀ b o, A.objs.get b = some o → A'.objs.get b = some o) {o : LOp} {v : AV} (he : evL io P (ttOf P) A o = some v) : evL io P (ttOf P) A' o = some v := by
  have hcell : ∀ b o v, A.cell b o = some v → A'.cell b o = some v := by
    intro b o v hv
    obtain ⟨ob', ho, hv1⟩ := ob_eq hv
    unfold AH.cell AH.obj
    rw [h b ob' ho]; exact hv1
  have hcells : ∀ b o n v, A.cellsOf b o n = some v → A'.cellsOf b o n = some v := by
    intro b o n v hv
    obtain ⟨ob', ho, hv1⟩ := ob_eq hv
    unfold AH.cellsOf AH.obj
    rw [h b ob' ho]; exact hv1
  cases o with
  | load x =>
    obtain ⟨u, hu, he1⟩ := ob_eq (show ob (io x) (onPtr A.cell) = some v from he)
    obtain ⟨b, o, e, he2⟩ := onPtr_eq he1
    subst e
    show ob (io x) (onPtr A'.cell) = some v
    rw [hu]; exact hcell b o v he2
  | loadN n x =>
    obtain ⟨u, hu, he1⟩ := ob_eq (show ob (io x) _ = some v from he)
    obtain ⟨b, o, e, he2⟩ := onPtr_eq he1
    subst e
    obtain ⟨cs, hcs, he3⟩ := ob_eq he2
    show ob (io x) (onPtr fun b o => ob (A'.cellsOf b o n) fun cs => some (.agg cs)) = some v
    rw [hu]
    show ob (A'.cellsOf b o n) _ = some v
    rw [hcells b o n cs hcs]; exact he3
  | lookup kt z ok m k =>
    obtain ⟨kv, hkv, he1⟩ := ob_eq (show ob (io k) _ = some v from he)
    obtain ⟨mv, hmv, he2⟩ := ob_eq he1
    show ob (io k) (fun k => ob (io m) (onMap (fun b => ob (A'.obj b) (onMapO fun es _ => look1 P (ttOf P) kt z ok k es)) (look1 P (ttOf P) kt z ok k []))) = some v
    rw [hkv]
    show ob (io m) _ = some v
    rw [hmv]
    rcases onMap_eq he2 with ⟨b, e, he3⟩ | ⟨e, he3⟩
    · subst e
      obtain ⟨ob', ho, he4⟩ := ob_eq he3
      show ob (A'.obj b) _ = some v
      unfold AH.obj
      rw [h b ob' ho]; exact he4
    · subst e; exact he3
  | lenM x =>
    obtain ⟨u, hu, he1⟩ := ob_eq (show ob (io x) _ = some v from he)
    show ob (io x) (onMap (fun b => ob (A'.obj b) (onMapO fun es _ => some (goN (len es)))) (some (goN 0))) = some v
    rw [hu]
    rcases onMap_eq he1 with ⟨b, e, he3⟩ | ⟨e, he3⟩
    · subst e
      obtain ⟨ob', ho, he4⟩ := ob_eq he3
      show ob (A'.obj b) _ = some v
      unfold AH.obj
      rw [h b ob' ho]; exact he4
    · subst e; exact he3
  | bytesToStr x =>
    obtain ⟨u, hu, he1⟩ := ob_eq (show ob (io x) _ = some v from he)
    show ob (io x) (onSl (fun b o len _ => strOf A' b o len) (some (.str 0 0))) = some v
    rw [hu]
    rcases onSl_eq he1 with ⟨b, o, l, c, e, he2⟩ | ⟨e, he2⟩
    · subst e
      obtain ⟨cs, hcs, he3⟩ := ob_eq he2
      show ob (A'.cellsOf b o l) _ = some v
      rw [hcells b o l cs hcs]; exact he3
    · subst e; exact he2
  | toUn x =>
    obtain ⟨u, hu, he1⟩ := ob_eq (show ob (io x) (toUn1 A) = some v from he)
    show ob (io x) (toUn1 A') = some v
    rw [hu]
    show toUn1 A' u = some v
    unfold toUn1 at he1 ⊢
    split at he1
    · exact he1
    · obtain ⟨ob', ho, he2⟩ := ob_eq he1
      unfold AH.obj
      rw [h _ ob' ho]; exact he2
    · exact nomatch he1
  | fromUn t x =>
    obtain ⟨u, hu, he1⟩ := ob_eq (show ob (io x) (fromUn1 P A t) = some v from he)
    show ob (io x) (fromUn1 P A' t) = some v
    rw [hu]
    show fromUn1 P A' t u = some v
    unfold fromUn1 at he1 ⊢
    split at he1
    · exact he1
    · obtain ⟨ob', ho, he2⟩ := ob_eq he1
      unfold AH.obj
      rw [h _ ob' ho]; exact he2
    · exact nomatch he1
end Go.Ev
end

section
/- Ev, part 36: regions that draw: what stands while one is run. -/
namespace Go.Ev
variable [F : Facts] [E : Env]
set_option linter.unusedSimpArgs false
set_option linter.unusedVariables false
set_option linter.unusedSectionVars false
set_option linter.constructorNameAsVariable false
variable {P : Program} {μ : Mu}

structure DR (P : Program) (nt : Nat) (ops : Array Oper) (masks ws : T Nat) (cs : List NOper) : Prop where
  fst : cs.map Prod.fst = List.range' 0 ops.toList.length
  get : ∀ (i : Nat) o, ops[i]? = some o → ∃ c, cs[i]? = some (i, c) ∧ compD1 P (ttOf P) ops.toList masks ws i o = some c
  mask : ∀ (i : Nat) o, ops[i]? = some o → ∃ m, masks.get i = some m ∧
    (∀ x, hasBit m x = true → ∃ e ∈ o.after.toList, Region.binds .any e = true ∧ (e.on = x ∨ ∃ m', masks.get e.on = some m' ∧ hasBit m' x = true)) ∧ (∀ e ∈ o.after.toList, Region.binds .any e = true → e.on < i)
  wr1 : ∀ (i : Nat) o d, ops[i]? = some o → o.dst = some d → ws.get d = some i ∧ d < nt
  wr2 : ∀ d i, ws.get d = some i → ∃ o, ops[i]? = some o ∧ o.dst = some d

theorem DR.of {nt : Nat} {ops : Array Oper} {masks ws : T Nat} {cs : List NOper} (hm : masksFrom ops.toList 0 .e = some masks) (hw : writersFrom nt ops.toList 0 .e = some ws)
    (hc : compDFrom P (ttOf P) ops.toList masks ws ops.toList 0 = some cs) : DR P nt ops masks ws cs := by
  obtain ⟨m1, m2, m3⟩ := masksFrom_ok hm (fun i m h => nomatch h)
  obtain ⟨w1, w2, w3⟩ := writersFrom_ok hw
  obtain ⟨c1, c2⟩ := compDFrom_ok hc
  have conv : ∀ (i : Nat) o, ops[i]? = some o → ops.toList[i]? = some o := fun i o h => by simpa using h
  refine ⟨c1, ?_, ?_, ?_, ?_⟩
  · intro i o h
    obtain ⟨c, k1, k2⟩ := c2 i o (conv i o h)
    rw [Nat.zero_add] at k1 k2
    exact ⟨c, k1, k2⟩
  · intro i o h
    obtain ⟨m, k1, k2, k3⟩ := m3 i o (conv i o h)
    rw [Nat.zero_add] at k1
    exact ⟨m, k1, k2, fun e he hb => by have := k3 e he hb; omega⟩
  · intro i o d h hd
    have := w2 i o d (conv i o h) hd
    rw [Nat.zero_add] at this
    exact this
  · intro d i h
    rcases w3 d i h with h1 | ⟨j, o, h1, h2, h3⟩
    · exact nomatch h1
    · rw [Nat.zero_add] at h3
      subst h3
      exact ⟨o, by simpa using h1, h2⟩

theorem DR.mem {nt : Nat} {ops : Array Oper} {masks ws : T Nat} {cs : List NOper} (h : DR P nt ops masks ws cs) {i : Nat} {c : IOper} (hc : (i, c) ∈ cs) :
    ∃ o, ops[i]? = some o ∧ cs[i]? = some (i, c) ∧ compD1 P (ttOf P) ops.toList masks ws i o = some c := by
  obtain ⟨j, hj⟩ := List.getElem?_of_mem hc
  have h1 : (cs.map Prod.fst)[j]? = some i := by rw [List.getElem?_map, hj]; rfl
  have hjl : j < ops.toList.length := by
    have := (List.getElem?_eq_some_iff.1 h1).1
    rw [h.fst, List.length_range'] at this
    exact this
  rw [h.fst, List.getElem?_range' hjl] at h1
  injection h1 with h1
  have hij : i = j := by omega
  subst hij
  have ho : ops[i]? = some ops.toList[i] := by
    rw [← Array.getElem?_toList]; exact List.getElem?_eq_getElem hjl
  obtain ⟨c', k1, k2⟩ := h.get i _ ho
  rw [hj] at k1
  injection k1 with k1
  injection k1 with _ k1
  subst k1
  exact ⟨_, ho, hj, k2⟩
theorem DR.uniq {nt : Nat} {ops : Array Oper} {masks ws : T Nat} {cs : List NOper} (h : DR P nt ops masks ws cs) {i : Nat} {c c' : IOper} (hc : (i, c) ∈ cs) (hc' : (i, c') ∈ cs) : c = c' := by
  obtain ⟨_, _, h1, _⟩ := h.mem hc
  obtain ⟨_, _, h2, _⟩ := h.mem hc'
  rw [h1] at h2
  injection h2 with h2
  injection h2

theorem evA_new {io : Opd → Option AV} {A A' : AH} {q : AOp} {v : AV} (h : evA io A q = some (v, A')) : ∃ ob, A' = A.new ob := by
  cases q with
  | alloc e cs =>
    injection h with h
    injection h with _ h
    exact ⟨_, h.symm⟩
  | box e x =>
    obtain ⟨u, _, h1⟩ := ob_eq (show ob (io x) _ = some (v, A') from h)
    obtain ⟨cs, _, h2⟩ := ob_eq h1
    injection h2 with h2
    injection h2 with _ h2
    exact ⟨_, h2.symm⟩
  | buildSl e l s z ps =>
    obtain ⟨cs, _, h1⟩ := ob_eq (show ob (fills io ps (repeatTo l z)) _ = some (v, A') from h)
    injection h1 with h1
    injection h1 with _ h1
    exact ⟨_, h1.symm⟩
  | mkMap =>
    injection h with h
    injection h with _ h
    exact ⟨_, h.symm⟩
  | mkSl e s b z l c =>
    obtain ⟨u, _, h1⟩ := ob_eq (show ob (io l) _ = some (v, A') from h)
    obtain ⟨_, n, _, h2⟩ := onNat_eq h1
    obtain ⟨u2, _, h3⟩ := ob_eq h2
    obtain ⟨_, n2, _, h4⟩ := onNat_eq h3
    obtain ⟨_, h5⟩ := ot_eq h4
    injection h5 with h5
    injection h5 with _ h5
    exact ⟨_, h5.symm⟩
  | strToBytes e x =>
    obtain ⟨u, _, h1⟩ := ob_eq (show ob (io x) _ = some (v, A') from h)
    obtain ⟨_, _, _, h2⟩ := onStr_eq h1
    injection h2 with h2
    injection h2 with _ h2
    exact ⟨_, h2.symm⟩
  | siter x =>
    obtain ⟨u, _, h1⟩ := ob_eq (show ob (io x) _ = some (v, A') from h)
    obtain ⟨_, _, _, h2⟩ := onStr_eq h1
    injection h2 with h2
    injection h2 with _ h2
    exact ⟨_, h2.symm⟩

theorem new_ne (A : AH) (ob : AObj) : A.new ob ≠ A := by
  intro h
  have : (A.new ob).next = A.next := by rw [h]
  exact Nat.succ_ne_self A.next this

/-- a guard, and what is done -/
theorem evG_cases {FR : Rec} {io : Opd → Option AV} {A A' : AH} {c : IOper} {v : AV} (h : evG P (ttOf P) FR io A c = some (v, A')) :
    (c.guard = none ∧ evOp P (ttOf P) FR io A c.op = some (v, A')) ∨
    (∃ g want gv bb, c.guard = some (g, want) ∧ io g = some gv ∧ wants gv want = some bb ∧ ((bb = true ∧ evOp P (ttOf P) FR io A c.op = some (v, A')) ∨ (bb = false ∧ v = undefA ∧ A' = A))) := by
  unfold evG at h
  cases hg : c.guard with
  | none => rw [hg] at h; exact .inl ⟨rfl, h⟩
  | some g =>
    obtain ⟨g, want⟩ := g
    rw [hg] at h
    obtain ⟨gv, h1, h2⟩ := ob_eq (show ob (io g) _ = some (v, A') from h)
    obtain ⟨bb, h3, h4⟩ := ob_eq h2
    refine .inr ⟨g, want, gv, bb, rfl, h1, h3, ?_⟩
    cases bb with
    | true => exact .inl ⟨rfl, h4⟩
    | false =>
      have h5 : some (undefA, A) = some (v, A') := h4
      injection h5 with h5
      injection h5 with h6 h7
      exact .inr ⟨rfl, h6.symm, h7.symm⟩

theorem evG_free {FR : Rec} {io : Opd → Option AV} {A A' : AH} {c : IOper} {v : AV} (h : evG P (ttOf P) FR io A c = some (v, A')) (hw : isWop c.op = false) : A' = A ∨ ∃ ob, A' = A.new ob := by
  have key : evOp P (ttOf P) FR io A c.op = some (v, A') → A' = A ∨ ∃ ob, A' = A.new ob := by
    intro h
    cases hop : c.op with
    | p q =>
      rw [hop] at h
      obtain ⟨u, _, h1⟩ := ob_eq (show ob _ _ = some (v, A') from h)
      injection h1 with h1
      injection h1 with _ h1
      exact .inl h1.symm
    | l q =>
      rw [hop] at h
      obtain ⟨u, _, h1⟩ := ob_eq (show ob _ _ = some (v, A') from h)
      injection h1 with h1
      injection h1 with _ h1
      exact .inl h1.symm
    | a q => rw [hop] at h; exact .inr (evA_new (show evA io A q = some (v, A') from h))
    | w q => rw [hop] at hw; exact nomatch hw
  rcases evG_cases h with ⟨_, h1⟩ | ⟨_, _, _, _, _, _, _, ⟨_, h1⟩ | ⟨_, _, h1⟩⟩
  · exact key h1
  · exact key h1
  · exact .inl h1

section
variable (FR : Rec) (env : T AV) (free : List NOper) (μ0 : Mu) (A0 : AH) (w0 : World)

/-- evaluated, not yet run -/
def Pend (i : Nat) (c : IOper) (res : T AV) (A : AH) (μ : Mu) (bn : Nat → Option Nat) : Prop :=
  ∃ re Ae v Ae', (∀ x u, re.get x = some u → res.get x = some u) ∧ evG P (ttOf P) FR (ioOf env re) Ae c = some (v, Ae') ∧ res.get i = some v ∧
    (isLop c.op = true → ∀ b o, Ae.objs.get b = some o → A.objs.get b = some o) ∧ (∀ ob, Ae' = Ae.new ob → bn i = some Ae.next ∧ μ Ae.next = none ∧ A.objs.get Ae.next = some ob)

structure PI (D L : Nat → Prop) (res : T AV) (A : AH) (μ : Mu) (w : World) (bn : Nat → Option Nat) : Prop where
  r : R P μ A w
  dom : ∀ i v, res.get i = some v → D i
  pend : ∀ i c, (i, c) ∈ free → ¬ L i → D i → Pend (P := P) FR env i c res A μ bn
  kept : Kept A0.next μ0 μ A0 A w0 w
  inj : ∀ i j b, bn i = some b → bn j = some b → i = j
  lt : ∀ i b, bn i = some b → A0.next ≤ b ∧ b < A.next

variable {FR env free μ0 A0 w0}

theorem PI.evals {L : Nat → Prop} {μ : Mu} {w : World} : ∀ {l : List NOper} {D : Nat → Prop} {res res' : T AV} {A A' : AH} {bn : Nat → Option Nat}, PI (P := P) FR env free μ0 A0 w0 D L res A μ w bn → evFirst P (ttOf P) FR env l res A = some (res', A') →
    (∀ c ∈ l, c ∈ free) → (∀ c ∈ free, isWop c.2.op = false) → (∀ i c c', (i, c) ∈ free → (i, c') ∈ free → c = c') → l.Pairwise (fun a b => a.1 ≠ b.1) → (∀ c ∈ l, ¬ D c.1) →
    ∃ bn', PI (P := P) FR env free μ0 A0 w0 (fun i => D i ∨ ∃ c ∈ l, c.1 = i) L res' A' μ w bn' ∧ (∀ i v, res.get i = some v → res'.get i = some v) := by
  intro l
  induction l with
  | nil =>
    intro D res res' A A' bn h he _ _ _ _ _
    injection he with he
    injection he with h1 h2
    subst h1; subst h2
    exact ⟨bn, ⟨h.r, fun i v hv => .inl (h.dom i v hv), fun i c hc hl hd => h.pend i c hc hl (hd.elim id (fun ⟨c, hc, _⟩ => nomatch hc)), h.kept, h.inj, h.lt⟩, fun _ _ h => h⟩
  | cons c l ih =>
    intro D res res' A A' bn h he hfree hnw huniq hpw hnd
    obtain ⟨⟨v, A1⟩, hev, he1⟩ := ob_eq (show ob (evG P (ttOf P) FR (ioOf env res) A c.2) _ = some (res', A') from he)
    replace he1 : evFirst P (ttOf P) FR env l (res.put (some v) c.1) A1 = some (res', A') := he1
    have hcf := hfree c (by simp)
    have hnone : res.get c.1 = none := by
      cases hh : res.get c.1 with
      | none => rfl
      | some u => exact absurd (h.dom _ _ hh) (hnd c (by simp))
    have hsub : ∀ i u, res.get i = some u → (res.put (some v) c.1).get i = some u := by
      intro i u hu
      rw [T.get_put, if_neg]
      · exact hu
      · intro e; subst e; rw [hnone] at hu; exact nomatch hu
    have hnew := evG_free hev (hnw c hcf)
    have hobj : ∀ b o, A.objs.get b = some o → A1.objs.get b = some o := by
      intro b o hb
      rcases hnew with rfl | ⟨ob, rfl⟩
      · exact hb
      · unfold AH.new
        rw [T.get_put, if_neg]
        · exact hb
        · intro e; have := h.r.live b o hb; omega
    have hnext : A.next ≤ A1.next := by
      rcases hnew with rfl | ⟨ob, rfl⟩
      · exact Nat.le_refl _
      · exact Nat.le_succ _
    have hR1 : R P μ A1 w := by
      rcases hnew with rfl | ⟨ob, rfl⟩
      · exact h.r
      · exact h.r.newA ob
    have hK1 : Kept A.next μ μ A A1 w w := by
      rcases hnew with rfl | ⟨ob, rfl⟩
      · exact Kept.refl _ _ _ _
      · exact kept_newA A w ob h.r
    let bn1 : Nat → Option Nat := fun i => if i = c.1 then some A.next else bn i
    have hcD : ¬ D c.1 := hnd c (by simp)
    have h1 : ∃ bn2, PI (P := P) FR env free μ0 A0 w0 (fun i => D i ∨ i = c.1) L (res.put (some v) c.1) A1 μ w bn2 := by
      by_cases hA : A1 = A
      · subst hA
        refine ⟨bn, h.r, ?_, ?_, h.kept, h.inj, h.lt⟩
        · intro i u hu
          rw [T.get_put] at hu
          split at hu
          · rename_i e; exact .inr e
          · exact .inl (h.dom i u hu)
        · intro i c' hc' hl hd
          by_cases e : i = c.1
          · subst e
            have : c' = c.2 := huniq _ _ _ hc' hcf
            subst this
            exact ⟨res, A1, v, A1, hsub, hev, T.get_put_same _ _ _, fun _ _ _ h => h, fun ob hob => absurd hob.symm (new_ne _ _)⟩
          · obtain ⟨re, Ae, v', Ae', k1, k2, k3, k4, k5⟩ := h.pend i c' hc' hl (hd.elim id (fun h => absurd h e))
            exact ⟨re, Ae, v', Ae', fun x u hx => hsub x u (k1 x u hx), k2, hsub _ _ k3, k4, k5⟩
      · rcases hnew with h2 | ⟨ob, h2⟩
        · exact absurd h2 hA
        subst h2
        refine ⟨bn1, hR1, ?_, ?_, h.kept.trans (hK1.weaken h.kept.next), ?_, ?_⟩
        · intro i u hu
          rw [T.get_put] at hu
          split at hu
          · rename_i e; exact .inr e
          · exact .inl (h.dom i u hu)
        · intro i c' hc' hl hd
          by_cases e : i = c.1
          · subst e
            have : c' = c.2 := huniq _ _ _ hc' hcf
            subst this
            refine ⟨res, A, v, A.new ob, hsub, hev, T.get_put_same _ _ _, fun _ => hobj, fun ob' hob => ?_⟩
            refine ⟨by simp [bn1], h.r.next_none, ?_⟩
            rw [hob]; exact get_new A ob'
          · obtain ⟨re, Ae, v', Ae', k1, k2, k3, k4, k5⟩ := h.pend i c' hc' hl (hd.elim id (fun h => absurd h e))
            refine ⟨re, Ae, v', Ae', fun x u hx => hsub x u (k1 x u hx), k2, hsub _ _ k3, fun hl b o hb => hobj b o (k4 hl b o hb), fun ob' hob => ?_⟩
            obtain ⟨j1, j2, j3⟩ := k5 ob' hob
            exact ⟨by simp only [bn1, if_neg e]; exact j1, j2, hobj _ _ j3⟩
        · intro i j b hi hj
          simp only [bn1] at hi hj
          split at hi
          · rename_i e1
            injection hi with hi
            split at hj
            · rename_i e2; rw [e1, e2]
            · have := (h.lt j b hj).2; omega
          · split at hj
            · injection hj with hj
              have := (h.lt i b hi).2; omega
            · exact h.inj i j b hi hj
        · intro i b hi
          simp only [bn1] at hi
          split at hi
          · injection hi with hi
            have := h.kept.next
            exact ⟨by omega, by subst hi; exact Nat.lt_succ_self _⟩
          · have := h.lt i b hi
            exact ⟨this.1, Nat.lt_succ_of_lt this.2⟩
    obtain ⟨bn2, h1⟩ := h1
    obtain ⟨bn', q1, q2⟩ := ih h1 he1 (fun c' hc' => hfree c' (by simp [hc'])) hnw huniq (List.pairwise_cons.1 hpw).2 (fun c' hc' => by
      rintro (hd | e)
      · exact hnd c' (by simp [hc']) hd
      · exact (List.pairwise_cons.1 hpw).1 c' hc' e.symm)
    refine ⟨bn', ⟨q1.r, ?_, ?_, q1.kept, q1.inj, q1.lt⟩, fun i u hu => q2 i u (hsub i u hu)⟩
    · intro i u hu
      rcases q1.dom i u hu with (hd | e) | ⟨c', hc', e⟩
      · exact .inl hd
      · exact .inr ⟨c, by simp, e.symm⟩
      · exact .inr ⟨c', by simp [hc'], e⟩
    · intro i c' hc' hl hd
      refine q1.pend i c' hc' hl ?_
      rcases hd with hd | ⟨c2, hc2, e⟩
      · exact .inl (.inl hd)
      · rcases List.mem_cons.1 hc2 with e2 | e2
        · subst e2; exact .inl (.inr e.symm)
        · exact .inr ⟨c2, e2, e⟩
end
end Go.Ev
end

section
/- Ev, part 37: regions that draw: one operation more. -/
namespace Go.Ev
variable [F : Facts] [E : Env]
set_option linter.unusedSimpArgs false
set_option linter.unusedVariables false
set_option linter.unusedSectionVars false
set_option linter.constructorNameAsVariable false
variable {P : Program}

structure Inv (P : Program) (FR : Rec) (ops : Array Oper) (masks : T Nat) (free : List NOper) (env : T AV) (t0 : Array Value) (μ0 : Mu) (A0 : AH) (w0 : World) (D L : Nat → Prop) (res : T AV) (A : AH) (μ : Mu) (w : World) (bn : Nat → Option Nat) (t : Array Value) : Prop where
  pi : PI (P := P) FR env free μ0 A0 w0 D L res A μ w bn
  size : t.size = t0.size
  ex : ∀ (i : Nat) o, ops[i]? = some o → L i → ∃ v, res.get i = some v ∧ ∀ d, o.dst = some d → ∃ v', t[d]? = some v' ∧ VR μ v v'
  un : ∀ x, (∀ (i : Nat) o, ops[i]? = some o → L i → o.dst ≠ some x) → t[x]? = t0[x]?
  closed : ∀ i m j, L i → masks.get i = some m → hasBit m j = true → L j

section
variable {FR : Rec} {nt : Nat} {ops : Array Oper} {masks ws : T Nat} {cs : List NOper} {free : List NOper} {env : T AV} {t0 : Array Value} {μ0 : Mu} {A0 : AH} {w0 : World}
variable {D L : Nat → Prop} {res : T AV} {A : AH} {μ : Mu} {w : World} {bn : Nat → Option Nat} {t : Array Value}

theorem draw_ior (dr : DR P nt ops masks ws cs) (hE : EnvR μ0 env t0) (inv : Inv P FR ops masks free env t0 μ0 A0 w0 D L res A μ w bn t) {i : Nat} {o : Oper} {m : Nat} (ho : ops[i]? = some o) (hm : masks.get i = some m) (hi : ¬ L i)
    (hbits : ∀ j, hasBit m j = true → L j) {re : T AV} (hre : ∀ x u, re.get x = some u → res.get x = some u) : IOR μ (seen P masks ws i m) (ioOf env re) (evT t) := by
  intro x a v hx ha
  cases x with
  | tmp tt =>
    have old : (∀ (i' : Nat) o', ops[i']? = some o' → L i' → o'.dst ≠ some tt) → ioOf env re (.t tt) = some v → VR μ v (evT t (.tmp tt)) := by
      intro hun hv
      obtain ⟨v', h1, h2⟩ := hE tt v hv
      have := inv.un tt hun
      show VR μ v (t.getD tt undef)
      rw [Array.getD_eq_getD_getElem?, this, h1]
      exact h2.mono inv.pi.kept.le
    replace hx : seen1 masks ws i m tt = some a := hx
    unfold seen1 at hx
    split at hx
    · rename_i hn
      injection hx with hx
      subst hx
      exact old (fun i' o' h1 _ h3 => by rw [(dr.wr1 i' o' tt h1 h3).1] at hn; exact nomatch hn) ha
    · rename_i i' hw
      obtain ⟨o', ho', hd'⟩ := dr.wr2 tt i' hw
      have only : ∀ (i2 : Nat) o2, ops[i2]? = some o2 → o2.dst = some tt → i2 = i' := by
        intro i2 o2 h1 h2
        have := (dr.wr1 i2 o2 tt h1 h2).1
        rw [hw] at this
        injection this with this
        exact this.symm
      rw [bif2_eq] at hx
      by_cases hb : hasBit m i' = true
      · rw [if_pos hb] at hx
        injection hx with hx
        subst hx
        obtain ⟨u, hu, hdst⟩ := inv.ex i' o' ho' (hbits i' hb)
        have := hre i' v ha
        rw [this] at hu
        injection hu with hu
        subst hu
        obtain ⟨v', h1, h2⟩ := hdst tt hd'
        show VR μ v (t.getD tt undef)
        rw [Array.getD_eq_getD_getElem?, h1]
        exact h2
      · rw [if_neg hb, bif2_eq, nbeq_eq] at hx
        by_cases he : i' = i
        · rw [if_pos (by simpa using he)] at hx
          injection hx with hx
          subst hx
          refine old (fun i2 o2 h1 h2 h3 => ?_) ha
          have := only i2 o2 h1 h3
          subst this; subst he
          exact hi h2
        · rw [if_neg (by simpa using he)] at hx
          obtain ⟨mi, hmi, hx1⟩ := ob_eq hx
          obtain ⟨hbi, hx2⟩ := ot_eq hx1
          injection hx2 with hx2
          subst hx2
          refine old (fun i2 o2 h1 h2 h3 => ?_) ha
          have := only i2 o2 h1 h3
          subst this
          exact hi (inv.closed i2 mi i h2 hmi hbi)
  | const c =>
    obtain ⟨u, hu, hx1⟩ := ob_eq (show ob (ofValue 1000 c) _ = some a from hx)
    injection hx1 with hx1
    subst hx1
    injection ha with ha
    subst ha
    exact ofValue_rel μ _ _ _ hu
  | global g =>
    obtain ⟨hg, hx1⟩ := ot_eq (show ot (nlt g P.globals.size) _ = some a from hx)
    rw [nlt_eq, decide_eq_true_eq] at hg
    injection hx1 with hx1
    subst hx1
    injection ha with ha
    subst ha
    exact VR.ptr (o := 0) (inv.pi.r.glob g hg)
  | func f =>
    injection hx with hx
    subst hx
    injection ha with ha
    subst ha
    exact .fn f .nil .nil

/-- is it wanted? -/
theorem draw_wanted (inv : Inv P FR ops masks free env t0 μ0 A0 w0 D L res A μ w bn t) {o : Oper} {m : Nat} (hbits : ∀ j, hasBit m j = true → L j) {c : IOper} {g : Option (Opd × Bool)} (hg : guardD ops.toList m o.guard = some g) (hcg : c.guard = g)
    {re : T AV} (hre : ∀ x u, re.get x = some u → res.get x = some u) {Ae Ae' : AH} {v : AV} (he : evG P (ttOf P) FR (ioOf env re) Ae c = some (v, Ae')) :
    (Region.wanted o (yielded ops t) = true ∧ evOp P (ttOf P) FR (ioOf env re) Ae c.op = some (v, Ae')) ∨ (Region.wanted o (yielded ops t) = false ∧ v = undefA ∧ Ae' = Ae) := by
  cases hog : o.guard with
  | none =>
    rw [hog] at hg
    injection hg with hg
    subst hg
    rcases evG_cases he with ⟨_, h1⟩ | ⟨g, want, _, _, h1, _⟩
    · exact .inl ⟨by unfold Region.wanted; rw [hog], h1⟩
    · rw [hcg] at h1; exact nomatch h1
  | some jw =>
    obtain ⟨j, want⟩ := jw
    rw [hog] at hg
    obtain ⟨oj, hj, hg1⟩ := ob_eq (show ob (nth ops.toList j) _ = some g from hg)
    obtain ⟨d, hd, hg2⟩ := ob_eq hg1
    obtain ⟨hb, hg3⟩ := ot_eq hg2
    injection hg3 with hg3
    subst hg3
    rw [nth_eq] at hj
    have hj' : ops[j]? = some oj := by rw [← Array.getElem?_toList]; exact hj
    rcases evG_cases he with ⟨h1, _⟩ | ⟨g, want', gv, bb, h1, h2, h3, h4⟩
    · rw [hcg] at h1; exact nomatch h1
    · rw [hcg] at h1
      injection h1 with h1
      injection h1 with h5 h6
      subst h5; subst h6
      obtain ⟨u, hu, hdst⟩ := inv.ex j oj hj' (hbits j hb)
      have h7 := hre j gv h2
      rw [h7] at hu
      injection hu with hu
      subst hu
      obtain ⟨v', h8, h9⟩ := hdst d hd
      have hw := wanted_ok (ops := ops) (t := t) hog hj' hd h8 h9 h3
      rcases h4 with ⟨e, h4⟩ | ⟨e, h4⟩
      · subst e; exact .inl ⟨hw, h4⟩
      · subst e; exact .inr ⟨hw, h4⟩

/-- an operation more -/
theorem Inv.upd (dr : DR P nt ops masks ws cs) (hnt : nt ≤ t0.size) (inv : Inv P FR ops masks free env t0 μ0 A0 w0 D L res A μ w bn t) {i : Nat} {o : Oper} {m : Nat} (ho : ops[i]? = some o) (hm : masks.get i = some m) (hi : ¬ L i) (hbits : ∀ j, hasBit m j = true → L j)
    {D' : Nat → Prop} {res' : T AV} {A' : AH} {μ' : Mu} {w' : World} {bn' : Nat → Option Nat} {v : AV} {v' : Value} (hsub : ∀ x u, res.get x = some u → res'.get x = some u) (hv : res'.get i = some v) (hle : μ.le μ') (hr : VR μ' v v')
    (hpi : PI (P := P) FR env free μ0 A0 w0 D' (fun j => L j ∨ j = i) res' A' μ' w' bn') : Inv P FR ops masks free env t0 μ0 A0 w0 D' (fun j => L j ∨ j = i) res' A' μ' w' bn' (putT t o.dst v') where
  pi := hpi
  size := by
    unfold putT
    cases o.dst with
    | none => exact inv.size
    | some d => rw [Array.size_setIfInBounds]; exact inv.size
  ex j oj hj hL := by
    by_cases e : j = i
    · subst e
      rw [ho] at hj
      injection hj with hj
      subst hj
      refine ⟨v, hv, fun d hd => ⟨v', ?_, hr⟩⟩
      rw [hd]
      show (t.setIfInBounds d v')[d]? = _
      have hlt : d < nt := (dr.wr1 j o d ho hd).2
      have hlt2 : d < t.size := by rw [inv.size]; exact Nat.lt_of_lt_of_le hlt hnt
      rw [Array.getElem?_setIfInBounds, if_pos rfl, if_pos hlt2]
    · obtain ⟨u, hu, hdst⟩ := inv.ex j oj hj (hL.resolve_right e)
      refine ⟨u, hsub _ _ hu, fun d hd => ?_⟩
      obtain ⟨u', h1, h2⟩ := hdst d hd
      refine ⟨u', ?_, h2.mono hle⟩
      unfold putT
      cases hod : o.dst with
      | none => exact h1
      | some d2 =>
        show (t.setIfInBounds d2 v')[d]? = _
        rw [Array.getElem?_setIfInBounds, if_neg]
        · exact h1
        · intro e2
          subst e2
          have k1 := (dr.wr1 i o d2 ho hod).1
          have k2 := (dr.wr1 j oj d2 hj hd).1
          rw [k1] at k2
          injection k2 with k2
          exact e k2.symm
  un x hx := by
    have h1 := inv.un x fun j oj hj hL => hx j oj hj (.inl hL)
    have h2 := hx i o ho (.inr rfl)
    unfold putT
    cases hod : o.dst with
    | none => exact h1
    | some d =>
      show (t.setIfInBounds d v')[x]? = _
      rw [Array.getElem?_setIfInBounds, if_neg]
      · exact h1
      · intro e; subst e; exact h2 hod
  closed j mj x hL hmj hb := by
    by_cases e : j = i
    · subst e
      rw [hm] at hmj
      injection hmj with hmj
      subst hmj
      exact .inl (hbits x hb)
    · exact .inl (inv.closed j mj x (hL.resolve_right e) hmj hb)

theorem comp_p {wr : WrT} {o : Op} {q : POp} (h : compOp P (ttOf P) wr o = .p q) : compOp0 P (ttOf P) wr o = some (.p q) := by
  unfold compOp at h
  split at h
  · rename_i op hop; rw [hop, h]
  · exact nomatch h
theorem comp_l {wr : WrT} {o : Op} {q : LOp} (h : compOp P (ttOf P) wr o = .l q) : compOp0 P (ttOf P) wr o = some (.l q) := by
  unfold compOp at h
  split at h
  · rename_i op hop; rw [hop, h]
  · exact nomatch h
theorem comp_a {wr : WrT} {o : Op} {q : AOp} (h : compOp P (ttOf P) wr o = .a q) : compOp0 P (ttOf P) wr o = some (.a q) := by
  unfold compOp at h
  split at h
  · rename_i op hop; rw [hop, h]
  · exact nomatch h

theorem compD1_eq {i : Nat} {o : Oper} {c : IOper} (h : compD1 P (ttOf P) ops.toList masks ws i o = some c) : ∃ m g, masks.get i = some m ∧ guardD ops.toList m o.guard = some g ∧ c.guard = g ∧ c.op = compOp P (ttOf P) (seen P masks ws i m) o.op ∧ c.dst = o.dst := by
  obtain ⟨m, hm, h1⟩ := ob_eq h
  obtain ⟨g, hg, h2⟩ := ob_eq h1
  injection h2 with h2
  subst h2
  exact ⟨m, g, hm, hg, rfl, rfl, rfl⟩

theorem PI.more {i : Nat} (h : PI (P := P) FR env free μ0 A0 w0 D L res A μ w bn) : PI (P := P) FR env free μ0 A0 w0 D (fun j => L j ∨ j = i) res A μ w bn :=
  { h with pend := fun j c hc hl hd => h.pend j c hc (fun hL => hl (.inl hL)) hd }

variable (b : Frame) (ds : List Deferred) (k : List Item) (fs : List Frame)

theorem exec_free (dr : DR P nt ops masks ws cs) (hE : EnvR μ0 env t0) (hnt : nt ≤ t0.size) (hfree : ∀ c ∈ free, c ∈ cs ∧ isWop c.2.op = false) (inv : Inv P FR ops masks free env t0 μ0 A0 w0 D L res A μ w bn t)
    {i : Nat} {c : IOper} (hc : (i, c) ∈ free) (hi : ¬ L i) (hbits : ∀ m, masks.get i = some m → ∀ j, hasBit m j = true → L j) (hD : D i) (rest : List Nat) :
    ∃ μ' w' t', Inv P FR ops masks free env t0 μ0 A0 w0 D (fun j => L j ∨ j = i) res A μ' w' bn t' ∧
      Steps P (lone (frm b t ds (.inRegion ops (i :: rest) :: k)) fs w) (lone (frm b t' ds (.inRegion ops rest :: k)) fs w') := by
  obtain ⟨o, ho, _, hcomp⟩ := dr.mem (hfree _ hc).1
  obtain ⟨m, g, hm, hg, hcg, hop, hdst⟩ := compD1_eq hcomp
  obtain ⟨re, Ae, v, Ae', hre, hev, hv, hload, halloc⟩ := inv.pi.pend i c hc hi hD
  have hior := draw_ior dr hE inv ho hm hi (hbits m hm) hre
  have hk : ∀ a v, ioOf env re (.c a) = some v → v = a := fun a v h => by injection h with h; exact h.symm
  rcases draw_wanted inv (hbits m hm) hg hcg hre hev with ⟨hw, hev1⟩ | ⟨hw, hvu, _⟩
  · cases hopc : c.op with
    | p q =>
      rw [hopc] at hev1 hop
      obtain ⟨u, hu, h1⟩ := ob_eq (show ob _ _ = some (v, Ae') from hev1)
      injection h1 with h1
      injection h1 with h1 _
      subst h1
      obtain ⟨v', k1, k2⟩ := pure_ok (μ := μ) hior hk o (comp_p hop.symm) hu w
      obtain ⟨v2, w2, ⟨e1, e2⟩, hs⟩ := made_op (b := b) (ds := ds) (k := k) (cs := fs) (rest := rest) (Q := fun a b => a = v' ∧ b = w) ho hw (fun c hc => by
        have h2 := comp_p hop.symm
        rw [hc] at h2; exact nomatch h2) (by unfold Back; rw [k1]; exact ⟨rfl, rfl⟩)
      subst e1; subst e2
      exact ⟨μ, w2, _, inv.upd dr hnt ho hm hi (hbits m hm) (fun _ _ h => h) hv (Mu.le_refl _) k2 inv.pi.more, hs⟩
    | l q =>
      have hlm := hload (by rw [hopc]; rfl)
      rw [hopc] at hev1 hop
      obtain ⟨u, hu, h1⟩ := ob_eq (show ob _ _ = some (v, Ae') from hev1)
      injection h1 with h1
      injection h1 with h1 _
      subst h1
      obtain ⟨v', k1, k2⟩ := load_ok (μ := μ) hior inv.pi.r o (comp_l hop.symm) (evL_mono hlm hu)
      obtain ⟨v2, w2, ⟨e1, e2⟩, hs⟩ := made_op (b := b) (ds := ds) (k := k) (cs := fs) (rest := rest) (Q := fun a b => a = v' ∧ b = w) ho hw (fun c hc => by
        have h2 := comp_l hop.symm
        rw [hc] at h2; exact nomatch h2) (by unfold Back; rw [k1]; exact ⟨rfl, rfl⟩)
      subst e1; subst e2
      exact ⟨μ, w2, _, inv.upd dr hnt ho hm hi (hbits m hm) (fun _ _ h => h) hv (Mu.le_refl _) k2 inv.pi.more, hs⟩
    | a q =>
      rw [hopc] at hev1 hop
      obtain ⟨ob1, hA, hborn⟩ := alloc_ok o (comp_a hop.symm) (show evA (ioOf env re) Ae q = some (v, Ae') from hev1)
      obtain ⟨hbn, hunb, hobj⟩ := halloc ob1 hA
      obtain ⟨o', v', w', x, k1, k2, k3, k4⟩ := hborn μ (evT t) w hior hunb
      obtain ⟨v2, w2, ⟨e1, e2⟩, hs⟩ := made_op (b := b) (ds := ds) (k := k) (cs := fs) (rest := rest) (Q := fun a b => a = v' ∧ b = w') ho hw (fun c hc => by
        have h2 := comp_a hop.symm
        rw [hc] at h2; exact nomatch h2) (by unfold Back; rw [k1]; exact ⟨rfl, rfl⟩)
      subst e1; subst e2
      have hlt := inv.pi.lt i _ hbn
      have hle : μ.le (μ.put Ae.next (w.heap.size, 0, x)) := Mu.le_put _ hunb
      refine ⟨_, w2, _, inv.upd dr hnt ho hm hi (hbits m hm) (fun _ _ h => h) hv hle k3 ?_, hs⟩
      refine ⟨inv.pi.r.birth hunb hobj k2 k4, inv.pi.dom, ?_, inv.pi.kept.trans (kept_birth inv.pi.r hunb hlt.1 k2), inv.pi.inj, inv.pi.lt⟩
      intro j cj hcj hl hd
      obtain ⟨re2, Ae2, v3, Ae3, q1, q2, q3, q4, q5⟩ := inv.pi.pend j cj hcj (fun h => hl (.inl h)) hd
      refine ⟨re2, Ae2, v3, Ae3, q1, q2, q3, q4, fun ob hob => ?_⟩
      obtain ⟨p1, p2, p3⟩ := q5 ob hob
      refine ⟨p1, ?_, p3⟩
      rw [Mu.put_ne]
      · exact p2
      · intro e
        rw [e] at p1
        exact hl (.inr (inv.pi.inj j i _ p1 hbn))
    | w q => have := (hfree _ hc).2; rw [show c = (i, c).2 from rfl] at hopc; rw [hopc] at this; exact nomatch this
  · subst hvu
    refine ⟨μ, w, _, inv.upd dr hnt ho hm hi (hbits m hm) (fun _ _ h => h) hv (Mu.le_refl _) (.tup .nil) inv.pi.more, Steps.one (st_op_skip ho hw)⟩
end
end Go.Ev
end

section
/- Ev, part 38: regions that draw: the theorem. -/
namespace Go.Ev
variable [F : Facts] [E : Env]
set_option linter.unusedSimpArgs false
set_option linter.unusedVariables false
set_option linter.unusedSectionVars false
set_option linter.constructorNameAsVariable false
variable {P : Program}

theorem evG_load {FR : Rec} {io : Opd → Option AV} {A A' : AH} {c : IOper} {v : AV} (h : evG P (ttOf P) FR io A c = some (v, A')) (hl : isLop c.op = true) : A' = A := by
  have key : evOp P (ttOf P) FR io A c.op = some (v, A') → A' = A := by
    intro h
    cases hop : c.op with
    | l q =>
      rw [hop] at h
      obtain ⟨u, _, h1⟩ := ob_eq (show ob _ _ = some (v, A') from h)
      injection h1 with h1
      injection h1 with _ h1
      exact h1.symm
    | _ => rw [hop] at hl; exact nomatch hl
  rcases evG_cases h with ⟨_, h1⟩ | ⟨_, _, _, _, _, _, _, ⟨_, h1⟩ | ⟨_, _, h1⟩⟩
  · exact key h1
  · exact key h1
  · exact h1

theorem again_ok {FR : Rec} {env res : T AV} {A : AH} : ∀ {l : List NOper} {u : Bool}, again P (ttOf P) FR env res A l = some u → ∀ o ∈ l, ∃ r, evG P (ttOf P) FR (ioOf env res) A o.2 = some r ∧ res.get o.1 = some r.1 := by
  intro l
  induction l with
  | nil => intro u _ o ho; exact nomatch ho
  | cons c l ih =>
    intro u h o ho
    obtain ⟨r, hr, h1⟩ := ob_eq (show ob (evG P (ttOf P) FR (ioOf env res) A c.2) (fun r => ob (res.get c.1) fun u => ot (AV.beq r.1 u) (again P (ttOf P) FR env res A l)) = some u from h)
    obtain ⟨x, hx, h2⟩ := ob_eq h1
    obtain ⟨hb, h3⟩ := ot_eq h2
    have := beq_true _ _ hb
    rcases List.mem_cons.1 ho with ho | ho
    · subst ho; exact ⟨r, hr, by rw [this]; exact hx⟩
    · exact ih h3 o ho

theorem PI.congr {FR : Rec} {env : T AV} {free : List NOper} {μ0 : Mu} {A0 : AH} {w0 : World} {D D' L L' : Nat → Prop} {res : T AV} {A : AH} {μ : Mu} {w : World} {bn : Nat → Option Nat} (h : PI (P := P) FR env free μ0 A0 w0 D L res A μ w bn)
    (hd : ∀ i, D i ↔ D' i) (hl : ∀ i, L i ↔ L' i) : PI (P := P) FR env free μ0 A0 w0 D' L' res A μ w bn :=
  { h with
    dom := fun i v hv => (hd i).1 (h.dom i v hv)
    pend := fun i c hc hL hD => h.pend i c hc (fun x => hL ((hl i).1 x)) ((hd i).2 hD) }
theorem Inv.congr {FR : Rec} {ops : Array Oper} {masks : T Nat} {env : T AV} {free : List NOper} {t0 t : Array Value} {μ0 : Mu} {A0 : AH} {w0 : World} {D D' L L' : Nat → Prop} {res : T AV} {A : AH} {μ : Mu} {w : World} {bn : Nat → Option Nat} (h : Inv P FR ops masks free env t0 μ0 A0 w0 D L res A μ w bn t)
    (hd : ∀ i, D i ↔ D' i) (hl : ∀ i, L i ↔ L' i) : Inv P FR ops masks free env t0 μ0 A0 w0 D' L' res A μ w bn t where
  pi := h.pi.congr hd hl
  size := h.size
  ex i o ho hL := h.ex i o ho ((hl i).2 hL)
  un x hx := h.un x fun i o ho hL => hx i o ho ((hl i).1 hL)
  closed i m j hL hm hb := (hl j).1 (h.closed i m j ((hl i).2 hL) hm hb)

section
variable {FR : Rec} (hF : CallsOK P FR) (hC : CodesOK P FR)
variable {nt : Nat} {ops : Array Oper} {masks ws : T Nat} {cs : List NOper} {free : List NOper} {env : T AV} {t0 : Array Value} {μ0 : Mu} {A0 : AH} {w0 : World}
variable {D L : Nat → Prop} {res : T AV} {A : AH} {μ : Mu} {w : World} {bn : Nat → Option Nat} {t : Array Value}
variable (b : Frame) (ds : List Deferred) (k : List Item) (fs : List Frame)
include hF hC

theorem exec_act (dr : DR P nt ops masks ws cs) (hE : EnvR μ0 env t0) (hnt : nt ≤ t0.size) (hfree : ∀ c ∈ free, c ∈ cs ∧ isWop c.2.op = false) (inv : Inv P FR ops masks free env t0 μ0 A0 w0 D L res A μ w bn t)
    {i : Nat} {c : IOper} (hc : (i, c) ∈ cs) (hcw : isWop c.op = true) (hi : ¬ L i) (hbits : ∀ m, masks.get i = some m → ∀ j, hasBit m j = true → L j) (hD : ¬ D i) (rest : List Nat)
    {re next : List NOper} {ss : List Stage} {resf : T AV} {Af : AH} (hst : evStages P (ttOf P) FR env (⟨i, c, re, next⟩ :: ss) res A = some (resf, Af))
    (hre : ∀ j cj, (j, cj) ∈ free → isLop cj.op = true → ¬ L j → D j → (j, cj) ∈ re) (hnext : ∀ c ∈ next, c ∈ free) (hnpw : next.Pairwise (fun a b => a.1 ≠ b.1)) (hnD : ∀ c ∈ next, ¬ D c.1) :
    ∃ res' A' μ' w' t' bn', Inv P FR ops masks free env t0 μ0 A0 w0 (fun j => (D j ∨ j = i) ∨ ∃ c ∈ next, c.1 = j) (fun j => L j ∨ j = i) res' A' μ' w' bn' t' ∧ evStages P (ttOf P) FR env ss res' A' = some (resf, Af) ∧
      Steps P (lone (frm b t ds (.inRegion ops (i :: rest) :: k)) fs w) (lone (frm b t' ds (.inRegion ops rest :: k)) fs w') := by
  obtain ⟨o, ho, _, hcomp⟩ := dr.mem hc
  obtain ⟨m, g, hm, hg, hcg, hop, hdst⟩ := compD1_eq hcomp
  have hior := draw_ior dr hE inv ho hm hi (hbits m hm) (re := res) (fun _ _ h => h)
  obtain ⟨⟨v, A1⟩, hev, h1⟩ := ob_eq (show ob (evG P (ttOf P) FR (ioOf env res) A c) _ = some (resf, Af) from hst)
  obtain ⟨u, hag, h2⟩ := ob_eq h1
  obtain ⟨⟨res', A'⟩, hfi, h3⟩ := ob_eq h2
  replace h3 : evStages P (ttOf P) FR env ss res' A' = some (resf, Af) := h3
  have hnone : res.get i = none := by
    cases hh : res.get i with
    | none => rfl
    | some u => exact absurd (inv.pi.dom _ _ hh) hD
  have hsub : ∀ x u, res.get x = some u → (res.put (some v) i).get x = some u := by
    intro x u hu
    rw [T.get_put, if_neg]
    · exact hu
    · intro e; subst e; rw [hnone] at hu; exact nomatch hu
  have notfree : ∀ c', (i, c') ∈ free → False := by
    intro c' h
    have h4 := hfree _ h
    have := dr.uniq h4.1 hc
    subst this
    rw [show isWop c'.op = false from h4.2] at hcw
    exact nomatch hcw
  have one : ∃ μ1 w1 v', R P μ1 A1 w1 ∧ VR μ1 v v' ∧ Kept A.next μ μ1 A A1 w w1 ∧
      Steps P (lone (frm b t ds (.inRegion ops (i :: rest) :: k)) fs w) (lone (frm b (putT t o.dst v') ds (.inRegion ops rest :: k)) fs w1) := by
    rcases draw_wanted inv (hbits m hm) hg hcg (re := res) (fun _ _ h => h) hev with ⟨hw, hev1⟩ | ⟨hw, hvu, hA⟩
    · rw [hop] at hev1
      obtain ⟨v', w', ⟨μ', q1, q2, q3⟩, hs⟩ := made_op (b := b) (ds := ds) (k := k) (cs := fs) (rest := rest) ho hw (not_defer hev1) (oper_ok hF hC hior (fun a v h => by injection h with h; exact h.symm) inv.pi.r o hev1)
      exact ⟨μ', w', v', q1, q2, q3, hs⟩
    · subst hvu
      have hA' : A1 = A := hA
      subst hA'
      exact ⟨μ, w, undef, inv.pi.r, .tup .nil, Kept.refl _ _ _ _, Steps.one (st_op_skip ho hw)⟩
  obtain ⟨μ1, w1, v', r1, r2, r3, hs⟩ := one
  have hpi : PI (P := P) FR env free μ0 A0 w0 (fun j => D j ∨ j = i) (fun j => L j ∨ j = i) (res.put (some v) i) A1 μ1 w1 bn := by
    refine ⟨r1, ?_, ?_, inv.pi.kept.trans (r3.weaken inv.pi.kept.next), inv.pi.inj, fun i b hb => ⟨(inv.pi.lt i b hb).1, Nat.lt_of_lt_of_le (inv.pi.lt i b hb).2 r3.next⟩⟩
    · intro x u hu
      rw [T.get_put] at hu
      split at hu
      · rename_i e; exact .inr e
      · exact .inl (inv.pi.dom x u hu)
    · intro j cj hcj hl hd
      have hji : j ≠ i := fun e => by subst e; exact notfree _ hcj
      have hdj : D j := hd.resolve_right hji
      have hlj : ¬ L j := fun h => hl (.inl h)
      obtain ⟨re2, Ae2, v3, Ae3, q1, q2, q3, q4, q5⟩ := inv.pi.pend j cj hcj hlj hdj
      cases hlop : isLop cj.op with
      | true =>
        obtain ⟨r, k1, k2⟩ := again_ok hag _ (hre j cj hcj hlop hlj hdj)
        obtain ⟨rv, rA⟩ := r
        have := evG_load k1 hlop
        subst this
        exact ⟨_, _, rv, _, fun _ _ h => h, k1, k2, fun _ _ _ h => h, fun ob hob => absurd hob.symm (new_ne _ _)⟩
      | false =>
        refine ⟨re2, Ae2, v3, Ae3, fun x u hx => hsub x u (q1 x u hx), q2, hsub _ _ q3, (fun h => Bool.noConfusion (hlop.symm.trans h)), fun ob hob => ?_⟩
        obtain ⟨p1, p2, p3⟩ := q5 ob hob
        obtain ⟨z1, z2⟩ := r3.unborn _ (inv.pi.lt j _ p1).2 p2
        exact ⟨p1, z1, by rw [z2]; exact p3⟩
  obtain ⟨bn', p1, p2⟩ := hpi.evals hfi hnext (fun c hc => (hfree c hc).2) (fun i c c' h1 h2 => dr.uniq (hfree _ h1).1 (hfree _ h2).1) hnpw (by
    intro c' hc'
    rintro (h | h)
    · exact hnD c' hc' h
    · have h5 := hnext c' hc'
      obtain ⟨x, y⟩ := c'
      have h : x = i := h
      subst h
      exact notfree _ h5)
  refine ⟨res', A', μ1, w1, _, bn', inv.upd dr hnt ho hm hi (hbits m hm) (fun x u hx => p2 x u (hsub x u hx)) (p2 i v (T.get_put_same _ _ _)) r3.le r2 p1, h3, hs⟩
end

/-! ### how many are left -/
def cntU (f : Nat → Bool) : Nat → Nat
  | 0 => 0
  | n + 1 => cntU f n + if f n then 0 else 1
theorem cntU_zero {f : Nat → Bool} : ∀ {n : Nat}, cntU f n = 0 → ∀ i, i < n → f i = true := by
  intro n
  induction n with
  | zero => intro _ i hi; omega
  | succ n ih =>
    intro h i hi
    unfold cntU at h
    by_cases hf : f n = true
    · by_cases e : i = n
      · subst e; exact hf
      · exact ih (by omega) i (by omega)
    · rw [if_neg hf] at h; omega
theorem cntU_set {f f' : Nat → Bool} {i : Nat} : ∀ {n : Nat}, i < n → f i = false → f' i = true → (∀ j, j ≠ i → f' j = f j) → cntU f' n + 1 = cntU f n := by
  intro n
  induction n with
  | zero => intro hi; omega
  | succ n ih =>
    intro hi h1 h2 h3
    unfold cntU
    by_cases e : i = n
    · subst e
      rw [h1, h2]
      have : ∀ m, m ≤ i → cntU f' m = cntU f m := by
        intro m
        induction m with
        | zero => intro _; rfl
        | succ m ihm =>
          intro hm
          unfold cntU
          rw [ihm (by omega), h3 m (by omega)]
      rw [this i (Nat.le_refl _)]; simp
    · rw [h3 n (fun h => e h.symm)]
      have := ih (by omega) h1 h2 h3
      omega
end Go.Ev
end

section
/- Ev, part 39: regions that draw: all orders. -/
namespace Go.Ev
variable [F : Facts] [E : Env]
set_option linter.unusedSimpArgs false
set_option maxHeartbeats 2000000
set_option linter.unusedVariables false
set_option linter.unusedSectionVars false
set_option linter.constructorNameAsVariable false
variable {P : Program}

theorem chain_ok {masks : T Nat} : ∀ {ws : List NOper} {w : Nat}, chainOk masks ws w = true → ∀ (j : Nat) a, ws[j]? = some a →
    hasBit (maskAt masks a.1) (match j with | 0 => w | j + 1 => ((ws[j]?).map (·.1)).getD 0) = true := by
  intro ws
  induction ws with
  | nil => intro w h j a ha; simp at ha
  | cons c ws ih =>
    intro w h j a ha
    replace h : ba (hasBit (maskAt masks c.1) w) (chainOk masks ws c.1) = true := h
    rw [ba_eq, Bool.and_eq_true] at h
    cases j with
    | zero =>
      simp only [List.getElem?_cons_zero, Option.some.injEq] at ha
      subst ha
      exact h.1
    | succ j =>
      simp only [List.getElem?_cons_succ] at ha
      have := ih h.2 j a ha
      cases j with
      | zero => simpa using this
      | succ j => simpa using this

section
variable {FR : Rec} (hF : CallsOK P FR) (hC : CodesOK P FR)
variable {nt : Nat} {ops : Array Oper} {masks ws : T Nat} {cs : List NOper} {env : T AV} {t0 : Array Value} {μ0 : Mu} {A0 : AH} {w0 : World}
include hF hC

/-- what has been evaluated behind k acts -/
def Dk (masks : T Nat) (acts free : List NOper) (k : Nat) (i : Nat) : Prop := (∃ (j : Nat) (a : NOper), acts[j]? = some a ∧ a.1 = i ∧ j < k) ∨ (∃ c, (i, c) ∈ free ∧ stageOf masks acts (i, c) ≤ k)

theorem draw_run (dr : DR P nt ops masks ws cs) (hE : EnvR μ0 env t0) (hnt : nt ≤ t0.size) {acts free : List NOper} (hacts : acts = cs.filter (fun c => isWop c.2.op)) (hfree : free = cs.filter (fun c => nb (isWop c.2.op)))
    (hchain : ∀ (j : Nat) a a', acts[j]? = some a → acts[j + 1]? = some a' → hasBit (maskAt masks a'.1) a.1 = true) (b : Frame) (ds : List Deferred) (kk : List Item) (fs : List Frame) {resf : T AV} {Af : AH} :
    ∀ (fuel tt : Nat) (listed : Array Bool) (k : Nat) {res : T AV} {A : AH} {μ : Mu} {w : World} {bn : Nat → Option Nat} {t : Array Value}, listed.size = ops.size →
      Inv P FR ops masks free env t0 μ0 A0 w0 (Dk masks acts free k) (fun i => listed.getD i false = true) res A μ w bn t →
      (∀ (j : Nat) (a : NOper), acts[j]? = some a → (listed.getD a.1 false = true ↔ j < k)) → evStages P (ttOf P) FR env (stagesFrom masks acts free (acts.drop k) k) res A = some (resf, Af) →
      cntU (fun i => listed.getD i false) ops.size ≤ fuel →
      ∃ μ' w' bn' t', ∃ Lf D : Nat → Prop, Inv P FR ops masks free env t0 μ0 A0 w0 D Lf resf Af μ' w' bn' t' ∧ (∀ i, i < ops.size → Lf i) ∧
        Steps P (lone (frm b t ds (.inRegion ops (Region.linearise.go .any ops fuel tt listed []) :: kk)) fs w) (lone (frm b t' ds (.inRegion ops [] :: kk)) fs w') := by
  have hfr : ∀ c ∈ free, c ∈ cs ∧ isWop c.2.op = false := by
    intro c hc
    rw [hfree, List.mem_filter, nb_eq, Bool.not_eq_true'] at hc
    exact hc
  have hac : ∀ c ∈ acts, c ∈ cs ∧ isWop c.2.op = true := by
    intro c hc
    rw [hacts, List.mem_filter] at hc
    exact hc
  have hpw : cs.Pairwise (fun a b => a.1 ≠ b.1) := by
    have h1 : (cs.map Prod.fst).Pairwise (· ≠ ·) := by
      rw [dr.fst]
      exact (List.pairwise_lt_range').imp (fun h => Nat.ne_of_lt h)
    exact List.pairwise_map.1 h1
  have hapw : acts.Pairwise (fun a b => a.1 ≠ b.1) := by rw [hacts]; exact hpw.filter _
  have hfpw : free.Pairwise (fun a b => a.1 ≠ b.1) := by rw [hfree]; exact hpw.filter _
  have apart : ∀ i c c', (i, c) ∈ free → (i, c') ∈ acts → False := by
    intro i c c' h1 h2
    have h3 := hfr _ h1
    have h4 := hac _ h2
    have := dr.uniq h3.1 h4.1
    subst this
    have h5 : isWop c.op = false := h3.2
    have h6 : isWop c.op = true := h4.2
    rw [h5] at h6
    exact nomatch h6
  have acts_inj : ∀ (j j' : Nat) a a', acts[j]? = some a → acts[j']? = some a' → a.1 = a'.1 → j = j' := by
    intro j j' a a' h1 h2 h3
    rw [List.pairwise_iff_getElem] at hapw
    obtain ⟨l1, e1⟩ := List.getElem?_eq_some_iff.1 h1
    obtain ⟨l2, e2⟩ := List.getElem?_eq_some_iff.1 h2
    rcases Nat.lt_trichotomy j j' with h | h | h
    · have := hapw j j' l1 l2 h
      rw [e1, e2] at this
      exact absurd h3 this
    · exact h
    · have := hapw j' j l2 l1 h
      rw [e1, e2] at this
      exact absurd h3.symm this
  have hmaskAt : ∀ i m, masks.get i = some m → maskAt masks i = m := by
    intro i m h; unfold maskAt; rw [h]
  have fin : ∀ (listed : Array Bool) (k : Nat) {res : T AV} {A : AH} {μ : Mu} {w : World} {bn : Nat → Option Nat} {t : Array Value},
      Inv P FR ops masks free env t0 μ0 A0 w0 (Dk masks acts free k) (fun i => listed.getD i false = true) res A μ w bn t →
      (∀ (j : Nat) (a : NOper), acts[j]? = some a → (listed.getD a.1 false = true ↔ j < k)) → evStages P (ttOf P) FR env (stagesFrom masks acts free (acts.drop k) k) res A = some (resf, Af) →
      (∀ i, i < ops.size → listed.getD i false = true) →
      ∃ μ' w' bn' t', ∃ Lf D : Nat → Prop, Inv P FR ops masks free env t0 μ0 A0 w0 D Lf resf Af μ' w' bn' t' ∧ (∀ i, i < ops.size → Lf i) ∧
        Steps P (lone (frm b t ds (.inRegion ops [] :: kk)) fs w) (lone (frm b t' ds (.inRegion ops [] :: kk)) fs w') := by
    intro listed k res A μ w bn t inv hak hst hall
    have hdrop : acts.drop k = [] := by
      cases hd : acts.drop k with
      | nil => rfl
      | cons a l =>
        have h1 : acts[k]? = some a := by
          have := List.getElem?_drop (xs := acts) (i := k) (j := 0)
          rw [hd] at this
          simpa using this.symm
        obtain ⟨o, ho, _, _⟩ := dr.mem (i := a.1) (c := a.2) (hac a (List.mem_of_getElem? h1)).1
        have h2 := hall a.1 (Array.getElem?_eq_some_iff.1 ho).1
        have := (hak k a h1).1 h2
        omega
    rw [hdrop] at hst
    have hst : some (res, A) = some (resf, Af) := hst
    injection hst with hst
    injection hst with h1 h2
    subst h1; subst h2
    exact ⟨μ, w, bn, t, _, _, inv, hall, .refl _ _⟩
  intro fuel
  induction fuel with
  | zero =>
    intro tt listed k res A μ w bn t hsz inv hak hst hcnt
    have hall := cntU_zero (f := fun i => listed.getD i false) (Nat.le_zero.1 hcnt)
    exact fin listed k inv hak hst hall
  | succ fuel ih =>
    intro tt listed k res A μ w bn t hsz inv hak hst hcnt
    have hgo : Region.linearise.go .any ops (fuel + 1) tt listed [] = (match (Region.ready .any ops listed)[tt % (Region.ready .any ops listed).length]? with
      | some i => Region.linearise.go .any ops fuel (tt / (Region.ready .any ops listed).length) (listed.setIfInBounds i true) [i]
      | none => []) := by
      simp only [Region.linearise.go]
      rfl
    rw [hgo]
    cases hi : (Region.ready .any ops listed)[tt % (Region.ready .any ops listed).length]? with
    | none =>
      have hnil : Region.ready .any ops listed = [] := by
        cases hr : Region.ready .any ops listed with
        | nil => rfl
        | cons x xs =>
          rw [hr] at hi
          have hlt : tt % (x :: xs).length < (x :: xs).length := Nat.mod_lt _ (by simp)
          rw [List.getElem?_eq_getElem hlt] at hi
          exact nomatch hi
      refine fin listed k inv hak hst ?_
      intro i
      induction i using Nat.strongRecOn with
      | _ i ihi =>
        intro hlt
        by_cases hL : listed.getD i false = true
        · exact hL
        · exfalso
          have ho : ops[i]? = some ops[i] := Array.getElem?_eq_getElem hlt
          obtain ⟨m, hm, _, hedge⟩ := dr.mask i _ ho
          have hmem : i ∈ Region.ready .any ops listed := by
            rw [mem_ready]
            refine ⟨?_, _, ho, ?_⟩
            · rw [Array.getD_eq_getD_getElem?] at hL ⊢
              have : listed[i]? = some listed[i] := Array.getElem?_eq_getElem (by omega)
              rw [this] at hL ⊢
              simpa using hL
            · intro e he hb
              have := hedge e (by simpa using he) hb
              exact ihi e.on this (by omega)
          rw [hnil] at hmem
          exact nomatch hmem
    | some i =>
      simp only []
      rw [linearise_go_acc, List.reverse_singleton, List.singleton_append]
      have hready := mem_ready.1 (List.mem_of_getElem? hi)
      obtain ⟨hun, o, ho, hedges⟩ := hready
      have hilt : i < ops.size := (Array.getElem?_eq_some_iff.1 ho).1
      have hil : listed[i]? = some listed[i] := Array.getElem?_eq_getElem (by omega)
      have hiL : ¬ listed.getD i false = true := by
        rw [Array.getD_eq_getD_getElem?, hil] at hun ⊢
        simpa using hun
      obtain ⟨m0, hm0, hbits0, _⟩ := dr.mask i o ho
      have hbits : ∀ m, masks.get i = some m → ∀ j, hasBit m j = true → listed.getD j false = true := by
        intro m hm j hj
        rw [hm0] at hm
        injection hm with hm
        subst hm
        obtain ⟨e, he, hb, h1⟩ := hbits0 j hj
        have h2 := hedges e (by simpa using he) hb
        rcases h1 with h1 | ⟨m', h3, h4⟩
        · rw [← h1]; exact h2
        · exact inv.closed e.on m' j h2 h3 h4
      have hset : ∀ j, (listed.setIfInBounds i true).getD j false = true ↔ (listed.getD j false = true ∨ j = i) := by
        intro j
        rw [Array.getD_eq_getD_getElem?, Array.getElem?_setIfInBounds, Array.getD_eq_getD_getElem?]
        by_cases e : i = j
        · subst e; rw [if_pos rfl, if_pos (by omega)]; simp
        · rw [if_neg e]
          constructor
          · exact .inl
          · rintro (h | h)
            · exact h
            · exact absurd h.symm e
      have hcnt2 : cntU (fun i => (listed.setIfInBounds i true).getD i false) ops.size ≤ ops.size ∨ True := .inr trivial
      have hcnt' : cntU (fun j => (listed.setIfInBounds i true).getD j false) ops.size ≤ fuel := by
        have h1 := cntU_set (f := fun j => listed.getD j false) (f' := fun j => (listed.setIfInBounds i true).getD j false) hilt (by simpa using hiL) ((hset i).2 (.inr rfl)) (fun j hj => Bool.eq_iff_iff.2 ((hset j).trans ⟨fun h => h.resolve_right hj, .inl⟩))
        omega
      obtain ⟨c, hcget, hcomp⟩ := dr.get i o ho
      have hcc : (i, c) ∈ cs := List.mem_of_getElem? hcget
      cases hw : isWop c.op with
      | false =>
        have hcf : (i, c) ∈ free := by
          rw [hfree, List.mem_filter]
          exact ⟨hcc, by rw [nb_eq]; simpa using hw⟩
        have hstage : stageOf masks acts (i, c) ≤ k := by
          unfold stageOf
          rw [filt_eq, len_eq]
          have h1 : acts.filter (fun w => hasBit (maskAt masks i) w.1) = (acts.take k).filter (fun w => hasBit (maskAt masks i) w.1) := by
            conv => lhs; rw [← List.take_append_drop k acts, List.filter_append]
            have : (acts.drop k).filter (fun w => hasBit (maskAt masks i) w.1) = [] := by
              rw [List.filter_eq_nil_iff]
              intro a ha hb
              obtain ⟨j, hj⟩ := List.getElem?_of_mem ha
              rw [List.getElem?_drop] at hj
              rw [hmaskAt i m0 hm0] at hb
              have := (hak (k + j) a hj).1 (hbits m0 hm0 a.1 hb)
              omega
            rw [this, List.append_nil]
          show (acts.filter (fun w => hasBit (maskAt masks i) w.1)).length ≤ k
          rw [h1]
          exact Nat.le_trans (List.length_filter_le _ _) (by rw [List.length_take]; omega)
        obtain ⟨μ1, w1, t1, inv1, s1⟩ := exec_free b ds kk fs dr hE hnt hfr inv hcf hiL hbits (.inr ⟨c, hcf, hstage⟩) (Region.linearise.go .any ops fuel (tt / (Region.ready .any ops listed).length) (listed.setIfInBounds i true) [])
        obtain ⟨μ', w', bn', t', Lf, D', q1, q2, q3⟩ := ih (tt / (Region.ready .any ops listed).length) (listed.setIfInBounds i true) k (by rw [Array.size_setIfInBounds]; exact hsz) (inv1.congr (fun _ => Iff.rfl) (fun j => (hset j).symm)) (by
            intro j a ha
            rw [hset]
            constructor
            · rintro (h | h)
              · exact (hak j a ha).1 h
              · exfalso
                obtain ⟨x, y⟩ := a
                have h : x = i := h
                subst h
                exact apart _ _ _ hcf (List.mem_of_getElem? ha)
            · intro h; exact .inl ((hak j a ha).2 h)) hst hcnt'
        exact ⟨μ', w', bn', t', Lf, D', q1, q2, s1.trans q3⟩
      | true =>
        have hca : (i, c) ∈ acts := by
          rw [hacts, List.mem_filter]
          exact ⟨hcc, hw⟩
        obtain ⟨j, hj⟩ := List.getElem?_of_mem hca
        have hjk : j = k := by
          have h1 : ¬ j < k := fun h => hiL ((hak j _ hj).2 h)
          rcases Nat.lt_or_ge k j with h2 | h2
          · exfalso
            obtain ⟨j', rfl⟩ : ∃ j', j = j' + 1 := ⟨j - 1, by omega⟩
            have hlt := (List.getElem?_eq_some_iff.1 hj).1
            have hj2 : acts[j']? = some acts[j'] := List.getElem?_eq_getElem (by omega)
            have hb := hchain j' _ _ hj2 hj
            have hb' : hasBit m0 (acts[j']).1 = true := by rw [← hmaskAt i m0 hm0]; exact hb
            have := (hak j' _ hj2).1 (hbits m0 hm0 _ hb')
            omega
          · omega
        subst hjk
        have hdrop : acts.drop j = (i, c) :: acts.drop (j + 1) := by
          have hlt := (List.getElem?_eq_some_iff.1 hj).1
          rw [List.drop_eq_getElem_cons hlt]
          congr 1
          exact (List.getElem?_eq_some_iff.1 hj).2
        rw [hdrop] at hst
        have hnD : ¬ Dk masks acts free j i := by
          rintro (⟨j', a, h1, h2, h3⟩ | ⟨c', h1, _⟩)
          · have := acts_inj j' j a (i, c) h1 hj h2
            omega
          · exact apart _ _ _ h1 hca
        have hnext : ∀ c' ∈ filt (fun c => Nat.beq (stageOf masks acts c) (Nat.succ j)) free, c' ∈ free ∧ stageOf masks acts c' = j + 1 := by
          intro c' hc'
          rw [filt_eq, List.mem_filter, nbeq_eq, decide_eq_true_eq] at hc'
          exact hc'
        obtain ⟨res', A', μ1, w1, t1, bn1, inv1, hst1, s1⟩ := exec_act (hF := hF) (hC := hC) b ds kk fs dr hE hnt hfr inv hcc hw hiL hbits hnD (Region.linearise.go .any ops fuel (tt / (Region.ready .any ops listed).length) (listed.setIfInBounds i true) []) hst (by
            intro j2 cj hcj hlop hl hd
            rw [filt_eq, List.mem_filter]
            refine ⟨hcj, ?_⟩
            rw [ba_eq, ba_eq, Bool.and_eq_true, Bool.and_eq_true, nle_eq, decide_eq_true_eq, nb_eq, Bool.not_eq_true']
            refine ⟨hlop, ?_, ?_⟩
            · rcases hd with ⟨j', a, h1, h2, h3⟩ | ⟨c', h1, h2⟩
              · exfalso
                obtain ⟨x, y⟩ := a
                have h2 : x = j2 := h2
                subst h2
                exact apart _ _ _ hcj (List.mem_of_getElem? h1)
              · have := dr.uniq (hfr _ h1).1 (hfr _ hcj).1
                subst this; exact h2
            · cases hb : hasBit (maskAt masks i) j2 with
              | false => rfl
              | true =>
                exfalso
                rw [hmaskAt i m0 hm0] at hb
                exact hl (hbits m0 hm0 j2 hb)) (fun c' hc' => (hnext c' hc').1) (by rw [filt_eq]; exact hfpw.filter _) (by
            intro c' hc'
            obtain ⟨h1, h2⟩ := hnext c' hc'
            rintro (⟨j', a, h3, h4, h5⟩ | ⟨c2, h3, h4⟩)
            · obtain ⟨x, y⟩ := a
              obtain ⟨x', y'⟩ := c'
              have h4 : x = x' := h4
              subst h4
              exact apart _ _ _ h1 (List.mem_of_getElem? h3)
            · obtain ⟨x', y'⟩ := c'
              have := dr.uniq (hfr _ h3).1 (hfr _ h1).1
              subst this
              have h4 : stageOf masks acts (x', c2) ≤ j := h4
              omega)
        obtain ⟨μ', w', bn', t', Lf, D', q1, q2, q3⟩ := ih (tt / (Region.ready .any ops listed).length) (listed.setIfInBounds i true) (j + 1) (by rw [Array.size_setIfInBounds]; exact hsz) (inv1.congr (by
            intro x
            constructor
            · rintro ((h | h) | ⟨c', hc', h⟩)
              · rcases h with ⟨j', a, h1, h2, h3⟩ | ⟨c', h1, h2⟩
                · exact .inl ⟨j', a, h1, h2, by omega⟩
                · exact .inr ⟨c', h1, by omega⟩
              · exact .inl ⟨j, (i, c), hj, h.symm, by omega⟩
              · obtain ⟨x', y'⟩ := c'
                obtain ⟨h1, h2⟩ := hnext _ hc'
                have h : x' = x := h
                subst h
                exact .inr ⟨y', h1, by omega⟩
            · rintro (⟨j', a, h1, h2, h3⟩ | ⟨c', h1, h2⟩)
              · by_cases e : j' = j
                · subst e
                  rw [hj] at h1
                  injection h1 with h1
                  subst h1
                  exact .inl (.inr h2.symm)
                · exact .inl (.inl (.inl ⟨j', a, h1, h2, by omega⟩))
              · by_cases e : stageOf masks acts (x, c') = j + 1
                · refine .inr ⟨(x, c'), ?_, rfl⟩
                  rw [filt_eq, List.mem_filter, nbeq_eq, decide_eq_true_eq]
                  exact ⟨h1, e⟩
                · exact .inl (.inl (.inr ⟨c', h1, by omega⟩))) (fun j => (hset j).symm)) (by
            intro j2 a ha
            rw [hset]
            constructor
            · rintro (h | h)
              · have := (hak j2 a ha).1 h; omega
              · have := acts_inj j2 j a (i, c) ha hj h
                omega
            · intro h
              by_cases e : j2 = j
              · subst e
                rw [hj] at ha
                injection ha with ha
                subst ha
                exact .inr rfl
              · exact .inl ((hak j2 a ha).2 (by omega))) hst1 hcnt'
        exact ⟨μ', w', bn', t', Lf, D', q1, q2, s1.trans q3⟩
end

theorem kept_draw {B : Nat} {μ : Mu} {A : AH} (w : World) : Kept B μ μ A A w { w with drawn := w.drawn + 1 } :=
  ⟨Mu.le_refl _, rfl, rfl, rfl, Nat.le_refl _, Nat.le_refl _, fun _ _ _ => rfl, fun _ _ h => h, fun _ _ h => ⟨h, rfl⟩, fun _ L h => ⟨L, h, rfl⟩⟩

theorem cntU_le (f : Nat → Bool) : ∀ n, cntU f n ≤ n := by
  intro n
  induction n with
  | zero => exact Nat.le_refl _
  | succ n ih => unfold cntU; split <;> omega

theorem draw_ok (hmix : P.follows .mixedOrders = true) (FR : Rec) (hF : CallsOK P FR) (hC : CodesOK P FR) : DrawOK P FR := by
  intro nt id ops ic cl hc
  obtain ⟨masks, hm, hc1⟩ := ob_eq hc
  obtain ⟨ws, hw, hc2⟩ := ob_eq hc1
  obtain ⟨cs, hcs, hc3⟩ := ob_eq hc2
  have dr := DR.of hm hw hcs
  unfold draw1 at hc3
  obtain ⟨hch, hc4⟩ := ot_eq hc3
  injection hc4 with hc4
  subst hc4
  have hacts := filt_eq (fun c : NOper => isWop c.2.op) cs
  have hfree := filt_eq (fun c : NOper => nb (isWop c.2.op)) cs
  generalize filt (fun c : NOper => isWop c.2.op) cs = acts at hch hacts ⊢
  generalize filt (fun c : NOper => nb (isWop c.2.op)) cs = free at hch hfree ⊢
  have hchain : ∀ (j : Nat) a a', acts[j]? = some a → acts[j + 1]? = some a' → hasBit (maskAt masks a'.1) a.1 = true := by
    intro j a a' h1 h2
    cases acts with
    | nil => simp at h1
    | cons x xs =>
      simp only [List.getElem?_cons_succ] at h2
      have := chain_ok (show chainOk masks xs x.1 = true from hch) j a' h2
      cases j with
      | zero =>
        simp only [List.getElem?_cons_zero, Option.some.injEq] at h1
        subst h1; exact this
      | succ j =>
        simp only [List.getElem?_cons_succ] at h1
        simpa [h1] using this
  intro env A ex env' A' he μ w t b ds k fs hR hE ht hok
  obtain ⟨⟨res1, A1⟩, h1, he1⟩ := ob_eq (show ob (evFirst P (ttOf P) FR env (filt (fun c => Nat.beq (stageOf masks acts c) 0) free) .e A) _ = some (ex, env', A') from he)
  obtain ⟨⟨res2, A2⟩, h2, he2⟩ := ob_eq he1
  obtain ⟨envo, h3, he3⟩ := ob_eq he2
  injection he3 with he3
  injection he3 with e1 he3
  injection he3 with e2 e3
  subst e1; subst e2
  have e3 : A2 = A' := e3
  subst e3
  let w0 : World := { w with drawn := w.drawn + 1 }
  have hR0 : R P μ A w0 := hR.congr rfl
  have hfr : ∀ c ∈ free, c ∈ cs ∧ isWop c.2.op = false := by
    intro c hc
    rw [hfree, List.mem_filter, nb_eq, Bool.not_eq_true'] at hc
    exact hc
  have hpw : cs.Pairwise (fun a b => a.1 ≠ b.1) := by
    have h1 : (cs.map Prod.fst).Pairwise (· ≠ ·) := by
      rw [dr.fst]
      exact (List.pairwise_lt_range').imp (fun h => Nat.ne_of_lt h)
    exact List.pairwise_map.1 h1
  have hfpw : free.Pairwise (fun a b => a.1 ≠ b.1) := by rw [hfree]; exact hpw.filter _
  have hpi0 : PI (P := P) FR env free μ A w0 (fun _ => False) (fun _ => False) .e A μ w0 (fun _ => none) :=
    ⟨hR0, (fun i v h => nomatch h), (fun i c _ _ h => h.elim), Kept.refl _ _ _ _, (fun i j b h => nomatch h), (fun i b h => nomatch h)⟩
  obtain ⟨bn, p1, _⟩ := hpi0.evals h1 (fun c hc => by rw [filt_eq, List.mem_filter] at hc; exact hc.1) (fun c hc => (hfr c hc).2) (fun i c c' h1 h2 => dr.uniq (hfr _ h1).1 (hfr _ h2).1) (by rw [filt_eq]; exact hfpw.filter _) (fun _ _ h => h)
  let listed : Array Bool := Array.replicate ops.size false
  have hl0 : ∀ i, ¬ listed.getD i false = true := by
    intro i
    show ¬ (Array.replicate ops.size false).getD i false = true
    rw [Array.getD_eq_getD_getElem?, Array.getElem?_replicate]
    split <;> simp
  have p2 := p1.congr (D' := Dk masks acts free 0) (L' := fun i => listed.getD i false = true) (by
    intro i
    constructor
    · rintro (h | ⟨c, hc, h⟩)
      · exact h.elim
      · rw [filt_eq, List.mem_filter, nbeq_eq, decide_eq_true_eq] at hc
        obtain ⟨x, y⟩ := c
        have h : x = i := h
        subst h
        exact .inr ⟨y, hc.1, by have := hc.2; omega⟩
    · rintro (⟨j, a, _, _, h⟩ | ⟨c, h1, h2⟩)
      · exact absurd h (Nat.not_lt_zero j)
      · refine .inr ⟨(i, c), ?_, rfl⟩
        rw [filt_eq, List.mem_filter, nbeq_eq, decide_eq_true_eq]
        exact ⟨h1, by omega⟩) (fun i => ⟨fun h => h.elim, fun h => absurd h (hl0 i)⟩)
  have inv : Inv P FR ops masks free env t μ A w0 (Dk masks acts free 0) (fun i => listed.getD i false = true) res1 A1 μ w0 bn t :=
    ⟨p2, rfl, fun i o _ h => absurd h (hl0 i), fun _ _ => rfl, fun i m j h => absurd h (hl0 i)⟩
  obtain ⟨μ', w', bn', t', Lf, D', q1, q2, q3⟩ := draw_run hF hC dr hE ht hacts hfree hchain b ds k fs ops.size (w.tape w.drawn (.order b.fn id)) listed 0 (by simp [listed]) inv
    (fun j a _ => ⟨fun h => absurd h (hl0 a.1), fun h => absurd h (Nat.not_lt_zero j)⟩) h2 (cntU_le _ _)
  refine ⟨μ', w', t', [], ⟨q1.pi.r, ?_, q1.size, ?_, .nil _ _ _ _ _⟩, ?_⟩
  · intro x v hv
    rcases outsOf_ok h3 x v hv with ⟨i, k1, k2⟩ | ⟨k1, k2⟩
    · obtain ⟨c, k3, k4⟩ := outs_ok.1 k1
      obtain ⟨o, ho, _, hcomp⟩ := dr.mem k3
      obtain ⟨m, g, _, _, _, _, hdst⟩ := compD1_eq hcomp
      obtain ⟨u, hu, hd⟩ := q1.ex i o ho (q2 i (Array.getElem?_eq_some_iff.1 ho).1)
      rw [k2] at hu
      injection hu with hu
      subst hu
      exact hd x (by rw [← hdst]; exact k4)
    · obtain ⟨v', k3, k4⟩ := hE x v k2
      refine ⟨v', ?_, k4.mono q1.pi.kept.le⟩
      rw [q1.un x]
      · exact k3
      · intro i o ho _ hd
        obtain ⟨c, hcget, hcomp⟩ := dr.get i o ho
        obtain ⟨m, g, _, _, _, _, hdst⟩ := compD1_eq hcomp
        exact k1 i (outs_ok.2 ⟨c, List.mem_of_getElem? hcget, by rw [hdst]; exact hd⟩)
  · exact (kept_draw w).trans q1.pi.kept
  · show Steps P _ _
    refine Steps.trans (Steps.one st_draw) ?_
    have hsch : Region.schedule (P.follows .mixedOrders) ops (w.tape w.drawn (.order b.fn id)) = Region.linearise.go .any ops ops.size (w.tape w.drawn (.order b.fn id)) listed [] := by
      unfold Region.schedule
      rw [hmix]
      rfl
    rw [hsch]
    exact q3.trans (Steps.one st_region_end)
end Go.Ev
end

section
/- Ev, part 40: from a run of the evaluator to the machine's call. -/
namespace Go.Ev
set_option linter.unusedSectionVars false
variable [F : Facts] [E : Env]
set_option linter.unusedSimpArgs false
set_option linter.unusedVariables false
variable {P : Program}
open Go.RowKit

def mu0 (P : Program) : Mu := fun g => if g < P.globals.size then some (g, 0, none) else none
/-! ### runs over rows that lie there -/
noncomputable def putRows (l : List (Nat × Nat × List AV)) : T AObj := lrec .e (fun x t => t.put (some (.row x.2.1 (.lst x.2.2))) x.1) l
noncomputable def startR (P : Program) (l : List (Nat × Nat × List AV)) (k : Nat) : AH := ⟨putRows l, Nat.add P.globals.size k, .e⟩
noncomputable def runR (P : Program) (n : Nat) (f : FuncId) (args : List AV) (l : List (Nat × Nat × List AV)) (k : Nat) : Option (AV × AH) := (ev P (ttOf P) (ftOf P) n).call f args (startR P l k)
omit E in
theorem putRows_get : ∀ {l : List (Nat × Nat × List AV)} {b : Nat} {o : AObj}, (putRows l).get b = some o → ∃ x ∈ l, x.1 = b ∧ o = .row x.2.1 (.lst x.2.2) := by
  intro l
  induction l with
  | nil => intro b o h; exact nomatch h
  | cons x l ih =>
    intro b o h
    have h' : ((putRows l).put (some (.row x.2.1 (.lst x.2.2))) x.1).get b = some o := h
    rw [T.get_put] at h'
    split at h'
    · rename_i e
      injection h' with h'
      exact ⟨x, by simp, e.symm, h'.symm⟩
    · obtain ⟨y, hy, e⟩ := ih h'
      exact ⟨y, by simp [hy], e⟩
/-- a row lies in the world -/
def RowAt (μ : Mu) (w : World) (m : Nat × Nat × Option (Nat × Nat)) (n : Nat) (cells : List AV) : Prop :=
  ∃ cs e fr, w.heap[m.1]? = some (.cells cs e fr) ∧ m.2.1 + n ≤ cs.size ∧ cells.length = n ∧ ∀ (i : Nat) v, cells[i]? = some v → oneA v = true ∧ ∃ v', cs[m.2.1 + i]? = some v' ∧ VR μ v v'
theorem startR_R {w : World} {l : List (Nat × Nat × List AV)} {k : Nat} {μ : Mu} (hg : ∀ g, g < P.globals.size → μ g = some (g, 0, none))
    (hd : ∀ b m, μ b = some m → b < P.globals.size + k ∧ m.1 < w.heap.size) (hl : ∀ x, x ∈ l → x.1 < P.globals.size + k ∧ ∀ m, μ x.1 = some m → RowAt μ w m x.2.1 x.2.2) : R P μ (startR P l k) w where
  obj b o m h1 h2 := by
    obtain ⟨x, hx, e, rfl⟩ := putRows_get h1
    subst e
    obtain ⟨cs, e, fr, h3, h4, h5, h6⟩ := (hl x hx).2 m h2
    refine ⟨_, h3, h4, ?_, ?_⟩
    · intro c hc
      injection hc with hc
      rw [← hc]; exact h5
    · intro i v hv
      have hv' : x.2.2[i]? = some v := by rw [← nth_eq]; exact hv
      have hlt := (List.getElem?_eq_some_iff.1 hv').1
      exact ⟨by omega, h6 i v hv'⟩
  dom b m h1 := hd b m h1
  live b o h1 := by
    obtain ⟨x, hx, e, _⟩ := putRows_get h1
    subst e
    exact (hl x hx).1
  glob g h := hg g h
  sep b1 b2 o1 o2 m1 m2 _ h1 h2 _ _ _ := by
    obtain ⟨x, hx, _, rfl⟩ := putRows_get h1
    obtain ⟨y, hy, _, rfl⟩ := putRows_get h2
    exact .inl ⟨rfl, rfl⟩
  ord ch l h1 := nomatch h1
  mem ch l b h1 := nomatch h1

theorem runR_calls (hS : SumsOK P) (hmix : P.follows .mixedOrders = true) {w : World} {n : Nat} {f : FuncId} {args : List AV} {args' : Array Value} {l : List (Nat × Nat × List AV)} {k : Nat} {μ : Mu}
    (hg : ∀ g, g < P.globals.size → μ g = some (g, 0, none)) (hd : ∀ b m, μ b = some m → b < P.globals.size + k ∧ m.1 < w.heap.size)
    (hl : ∀ x, x ∈ l → x.1 < P.globals.size + k ∧ ∀ m, μ x.1 = some m → RowAt μ w m x.2.1 x.2.2)
    (hf : ∀ w, (callFunc f args').run P w = .ok (.enter f args') w) (ha : VRs μ args args'.toList) (hrun : isTrue (runR P n f args l k) = true) :
    Calls P f args' w fun e w' => e = .returned (.bool true) ∧ Below w.heap.size w w' := by
  have hok := (ev_ok (P := P) hS (fun FR hF hC => draw_ok hmix FR hF hC) n).1
  unfold isTrue at hrun
  split at hrun
  · rename_i b A' hr
    subst hrun
    have hb := hok f args (startR P l k) (.bool true) A' hr μ w args' (startR_R hg hd hl) ha
    unfold Back at hb
    rw [hf w] at hb
    intro cs
    obtain ⟨e, w', fr, ⟨v', he, μ', h1, h2, h3⟩, h4, h5, h6⟩ := hb cs
    refine ⟨e, w', fr, ⟨?_, h3.os, h3.tape, h3.output, h3.size, fun k hk => h3.block k hk ?_⟩, h4, h5, h6⟩
    · rw [he, h2.inv_bool]
    · rintro ⟨b, m, o, _, _, h, hw⟩
      obtain ⟨x, hx, _, rfl⟩ := putRows_get h
      exact nomatch hw
  · exact nomatch hrun

theorem enter_of {f : FuncId} {fn : Func} {args : Array Value} (hf : P.funcs[f]? = some fn) (hb : fn.body.isNone = false) (hn : (fn.name == "runtime.NumGoroutine") = false) (w : World) : (callFunc f args).run P w = .ok (.enter f args) w := by
  unfold callFunc
  show (program >>= fun _ => _).run P w = _
  rw [run_ok (show program.run P w = .ok P w from rfl)]
  simp only [hf, hn, hb, Bool.false_eq_true, if_false]
  rfl
end Go.Ev
namespace Go
variable {H : Type} {enc : TypeId × Value → H}
end Go
namespace Go.Ev
/-- the unknowns, listed -/
theorem noSums {bnd : List (Int × Int)} {more : List (Lin × Int × Int)} {E : @Env ⟨bnd, more, noSum⟩} {P : Program} : @SumsOK ⟨bnd, more, noSum⟩ E P := fun _ _ _ h => nomatch h
theorem envOf (bnd : List (Int × Int)) (more : List (Lin × Int × Int)) (sum : FuncId → List AV → Option AV) (vs : List Int) (h : All2 (fun (b : Int × Int) v => b.1 ≤ v ∧ v ≤ b.2) bnd vs)
    (h2 : ∀ e, e ∈ more → e.2.1 ≤ linV (fun i => vs.getD i 0) e.1 ∧ linV (fun i => vs.getD i 0) e.1 ≤ e.2.2) : ∃ E : @Env ⟨bnd, more, sum⟩, E.val = fun i => vs.getD i 0 :=
  ⟨@Env.mk ⟨bnd, more, sum⟩ (fun i => vs.getD i 0) (by
    have key : ∀ (l : List (Int × Int)) (m : List Int), All2 (fun (b : Int × Int) v => b.1 ≤ v ∧ v ≤ b.2) l m → ∀ (i : Nat) (b : Int × Int), l[i]? = some b → b.1 ≤ m.getD i 0 ∧ m.getD i 0 ≤ b.2 := by
      intro l
      induction l with
      | nil => intro m _ i b hb; simp at hb
      | cons a l ih =>
        intro m hm i b hb
        cases hm with
        | cons h hs =>
        cases i with
        | zero => simp at hb; subst hb; simpa using h
        | succ i => simp at hb; simpa using ih _ hs i b hb
    exact key bnd vs h) h2, rfl⟩
end Go.Ev
namespace Go
variable {H : Type} {enc : TypeId × Value → H}
end Go
end

section
/- Ev, part 41: functions that are taken as they are said to answer. -/
namespace Go.Ev
open Go.RowKit
set_option linter.unusedSimpArgs false
set_option linter.unusedVariables false
set_option linter.unusedSectionVars false

end Go.Ev
end

section
/- Ev, part 42: package variables that a row lists: their cells. -/
namespace Go.Ev
open Go.RowKit
set_option linter.unusedSimpArgs false
set_option linter.unusedVariables false
set_option linter.unusedSectionVars false

section
variable [F : Facts] [E : Env] {P : Program}
/-- a run that reads package variables -/
theorem glob_calls (hS : SumsOK P) (hmix : P.follows .mixedOrders = true) {w : World} (hsz : P.globals.size ≤ w.heap.size) {n : Nat} {f : FuncId} {args : List AV} {args' : Array Value} {l : List (Nat × Nat × List AV)}
    (hl : ∀ x, x ∈ l → x.1 < P.globals.size ∧ x.2.2.length = x.2.1 ∧ 0 < x.2.1 ∧ ∀ (i : Nat) v, x.2.2[i]? = some v → oneA v = true ∧ ∃ v', w.cell? ⟨x.1, i, none⟩ = some v' ∧ ∀ μ, VR μ v v')
    (hf : ∀ w, (callFunc f args').run P w = .ok (.enter f args') w) (ha : ∀ μ, VRs μ args args'.toList) (hrun : isTrue (runR P n f args l 0) = true) :
    Calls P f args' w fun e w' => e = .returned (.bool true) ∧ Below w.heap.size w w' := by
  refine runR_calls (μ := mu0 P) hS hmix ?_ ?_ ?_ hf (ha _) hrun
  · intro g hg
    unfold mu0; rw [if_pos hg]
  · intro b m hm
    unfold mu0 at hm
    split at hm
    · injection hm with hm; subst hm; exact ⟨by omega, by show b < _; omega⟩
    · exact nomatch hm
  · intro x hx
    obtain ⟨hlt, hlen, hpos, hc⟩ := hl x hx
    refine ⟨by omega, fun m hm => ?_⟩
    have hm' : m = (x.1, 0, none) := by
      unfold mu0 at hm
      rw [if_pos hlt] at hm
      injection hm with hm; exact hm.symm
    subst hm'
    have cell : ∀ i, i < x.2.1 → ∃ v', w.cell? ⟨x.1, i, none⟩ = some v' := fun i hi => by
      obtain ⟨_, v', h1, _⟩ := hc i x.2.2[i] (List.getElem?_eq_getElem (by omega))
      exact ⟨v', h1⟩
    have hb : ∃ cs e fr, w.heap[x.1]? = some (.cells cs e fr) := by
      obtain ⟨v', h0⟩ := cell 0 hpos
      unfold World.cell? at h0
      simp only at h0
      split at h0
      · rename_i cs e fr hh; exact ⟨cs, e, fr, hh⟩
      · exact nomatch h0
    obtain ⟨cs, e, fr, hh⟩ := hb
    have at_ : ∀ i v', w.cell? ⟨x.1, i, none⟩ = some v' → cs[i]? = some v' := fun i v' h => by
      unfold World.cell? at h
      simp only [hh] at h
      simpa using h
    have hsize : x.2.1 ≤ cs.size := by
      obtain ⟨v', h0⟩ := cell (x.2.1 - 1) (by omega)
      have := (Array.getElem?_eq_some_iff.1 (at_ _ _ h0)).1
      omega
    refine ⟨cs, e, fr, hh, by show 0 + x.2.1 ≤ _; omega, hlen, fun i v hi => ?_⟩
    obtain ⟨h1, v', h2, h3⟩ := hc i v hi
    exact ⟨h1, v', by show cs[0 + i]? = _; rw [Nat.zero_add]; exact at_ _ _ h2, h3 _⟩
end
/-- a package variable that is a whole number, whatever it holds -/
theorem int_global {P : Program} {W : World} (h : W.ShapedOpen P) {g : Nat} {t u : TypeId} {k : IntKind} {zero : Array Value} (hg : g < P.globals.size) (hz : ((begin P (fun _ _ => 0) default).world.heap[g]?).bind Obj.row? = some (zero, t))
    (hz1 : zero.size = 1) (hb : P.buildable t = true) (hc : P.cellTypes P.depth t = some [u]) (hu : P.underlying u = some (.int k)) : ∃ v, W.cell? ⟨g, 0, none⟩ = some (.int k v) ∧ k.has v := by
  obtain ⟨cs, hh, hs, hr⟩ := h.1 g zero t hg hz
  obtain ⟨ts, h1, _, h3⟩ := hr hb
  rw [hc] at h1
  injection h1 with h1
  subst h1
  have hlt : 0 < cs.size := by omega
  obtain ⟨u', hu', hok⟩ := h3 0 cs[0] (Array.getElem?_eq_getElem hlt)
  simp at hu'
  subst hu'
  have hv : ∃ v, cs[0] = .int k v ∧ k.has v := by
    generalize cs[0] = x at hok
    unfold Cell.ok at hok
    rw [hu] at hok
    cases x <;> simp_all
  obtain ⟨v, hv, hw⟩ := hv
  refine ⟨v, ?_, hw⟩
  unfold World.cell?
  simp only [hh]
  simp [hv, hlt]
end Go.Ev
end

section
/- Ev, part 43: package variables that are arrays of whole numbers. -/
namespace Go.Ev
open Go.RowKit
set_option linter.unusedSimpArgs false
set_option linter.unusedVariables false
set_option linter.unusedSectionVars false

section
variable [F : Facts] [E : Env] {P : Program}
end
end Go.Ev
end
