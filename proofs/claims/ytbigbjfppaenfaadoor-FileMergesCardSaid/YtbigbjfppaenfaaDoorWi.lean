/- FileMerges' own functions, walked: what collects the hits. -/
import Derived.Test.YtbigbjfppaenfaaDoorPar
import Derived.Test.YtbigbjfppaenfaaDoorWh
namespace Go.Proofs.YtbigbjfppaenfaaDoor.Lines
open Go.RowKit Go.Shelf Go.Proofs.YtbigbjfppaenfaaDoorW.PrintWords Go.Proofs.YtbigbjfppaenfaaDoorW.PrintLast
attribute [local go_sem] Oper.semAt_some
set_option linter.unusedVariables false
set_option linter.unusedSimpArgs false
theorem infoInt : (Tryd.prog.info? 3).map (fun i => (i.zero, i.size, i.bytes)) = some (some (.int .i64 0), 1, 8) := by kernel_rfl
theorem infoStr : (Tryd.prog.info? 9).map (fun i => (i.zero, i.size, i.bytes)) = some (some (.string ⟨#[]⟩), 1, 16) := by kernel_rfl
/-- one thing laid behind an own row -/
theorem run_append_one {P : Program} {W : World} {M : Nat} (t ty e : TypeId) (z : Value) (bytes : Nat) (ht : P.underlying t = some (.slice e)) (hi : (P.info? e).map (fun i => (i.zero, i.size, i.bytes)) = some (some z, 1, bytes)) (hzs : z.cells.size = 1)
    {v : Value} {n : Nat} {xs : List Value} (hown : W.ownsRow M e 1 v n xs) {g : Nat} {x : Value} (hx : W.cell? ⟨g, 0, none⟩ = some x) (h1 : x.oneCell' = true) (hn : n ≤ 1000) (hb : bytes ≤ 1000) (hM : M ≤ W.heap.size) :
    ∃ A' c' W', (Builtin.append_ #[t, t] ty #[v, .slice (some ⟨g, 0, none⟩) 1 1]).run P W = .ok (.slice A' (n + 1) c') W' ∧ W'.ownsRow M e 1 (.slice A' (n + 1) c') (n + 1) (xs ++ [x]) ∧ W.grownBy W' v.ownBlock ∧ ((Value.slice A' (n + 1) c').ownBlock = v.ownBlock ∨ (Value.slice A' (n + 1) c').ownBlock = some W.heap.size) := by
  obtain ⟨i0, hi, hz0, hz1, hz2⟩ := info_parts hi
  have hm : (1001 : Nat) ≤ maxLen := by decide
  have hnb : (n + 1) * bytes ≤ 1001 * 1000 := Nat.mul_le_mul (by omega) hb
  obtain ⟨v', W', hr, h2, h3, h4, h5⟩ := run_append_own_at (P := P) W M t ty e i0 z 1 bytes ht hi hz0 hz1 hz2 hzs (by decide) v n xs hown ⟨g, 0, none⟩ 1 1 [x] rfl (by
    intro j u hj
    have hj0 : j = 0 := by
      have := (List.getElem?_eq_some_iff.1 hj).1
      simp at this
      exact this
    subst hj0
    obtain rfl : x = u := by simpa using hj
    exact hx) (by simp [h1]) (by omega) (by omega) hM
  rcases h2.2 with ⟨_, h0⟩ | ⟨g', cap, cur, rfl, _⟩
  · omega
  · exact ⟨some ⟨g', 0, none⟩, cap, W', hr, h2, h3, h5⟩
def intsV (ps : List Nat) : List Value := ps.map (fun i : Nat => Value.int .i64 (i : Int))
def strsV (vs : List ByteArray) : List Value := vs.map Value.string
theorem row_apart {W : World} {M e e' : Nat} {v u : Value} {n m : Nat} {xs ys : List Value} (h : W.ownsRow M e 1 v n xs) (k : W.ownsRow M e' 1 u m ys) (hne : e ≠ e') : ∀ b, u.ownBlock = some b → v.ownBlock ≠ some b := by
  intro b hb hv
  obtain ⟨c1, h1⟩ := own_typed h b hv
  obtain ⟨c2, h2⟩ := own_typed k b hb
  rw [h1] at h2
  cases h2
  exact hne rfl
theorem row_box {W : World} {M e t B : Nat} {v u : Value} {n : Nat} {xs : List Value} (h : W.ownsRow M e 1 v n xs) (k : Boxed W B t u) (hne : t ≠ e) : v.ownBlock ≠ some B := by
  intro hv
  obtain ⟨c1, h1⟩ := own_typed h B hv
  rw [show W.heap[B]? = _ from k] at h1
  cases h1
  exact hne rfl
theorem row_kept {W W' : World} {M e e' : Nat} {v u : Value} {n m : Nat} {xs ys : List Value} (h : W.ownsRow M e 1 v n xs) (k : W.ownsRow M e' 1 u m ys) (hne : e ≠ e') (hg : W.grownBy W' u.ownBlock) : W'.ownsRow M e 1 v n xs := by
  refine h.kept hg ?_
  rcases ho : v.ownBlock with _ | g
  · exact .inl rfl
  · exact .inr (fun e0 => row_apart k h (Ne.symm hne) g ho e0.symm)
theorem if_step {c : Prop} [Decidable c] {A B : Prop} (h : c) (hA : A) : if c then A else B := by rw [if_pos h]; exact hA
theorem wpIn_append_step {F : Fence} {n : Nat} {P : Program} {o : Oper} {a : Act} {W W' : World} {K : Act → World → Prop} {Q : Exit → Act → World → Prop} {s x : Operand} {t : TypeId} {v u v' : Value} (ho : o.op = .call { callee := .builtin .append, args := #[s, x], argTypes := #[t, t] }) (hs : a.eval s = v) (hx : a.eval x = u)
    (hr : (Builtin.append_ #[t, t] o.type #[v, u]).run P W = .ok v' W') (h : K (a.put o.dst v') W') : Oper.wpIn F n P o a W K Q := by
  unfold Oper.wpIn
  refine ⟨by simp [Oper.about, ho, resolve, Target.leads, Sem.run_pure], ?_⟩
  rw [Oper.semAt_plain F _ _ (by rw [ho]; intro c hc'; cases hc')]
  simp [execOp, ho, resolve, invoke, builtin, hs, hx, Result.andThen]
  rw [hr]
  exact h
/-- what lies there of what is collected -/
structure Co (Ba Bb Bs M : Nat) (stop : Int) (ps : List Nat) (vs : List ByteArray) (pv qv : Value) (W : World) : Prop where
  a : Boxed W Ba 50 pv
  b : Boxed W Bb 39 qv
  s : Boxed W Bs 3 (.int .i64 stop)
  p : W.ownsRow M 3 1 pv ps.length (intsV ps)
  q : W.ownsRow M 9 1 qv vs.length (strsV vs)
  m : M ≤ W.heap.size
/-- behind both rows' growth, ahead of the stores -/
theorem Co.grown {Ba Bb Bs M : Nat} {stop : Int} {ps : List Nat} {vs : List ByteArray} {pv qv pv' qv' : Value} {W W4 : World} {i : Nat} {x : ByteArray} (h : Co Ba Bb Bs M stop ps vs pv qv W) (hsM : Bs < M) (hab : Ba ≠ Bb)
    (ht : Turn (fun k => pv.ownBlock = some k ∨ qv.ownBlock = some k) W W4) (hp : W4.ownsRow M 3 1 pv' (ps.length + 1) (intsV ps ++ [.int .i64 (i : Int)])) (hq : W4.ownsRow M 9 1 qv' (vs.length + 1) (strsV vs ++ [.string x])) :
    Boxed W4 Ba 50 pv ∧ Boxed W4 Bb 39 qv ∧ Co Ba Bb Bs M stop (ps ++ [i]) (vs ++ [x]) pv' qv' ((W4.setCell ⟨Ba, 0, none⟩ pv').setCell ⟨Bb, 0, none⟩ qv') ∧ Turn (fun k => k = Ba ∨ k = Bb ∨ pv.ownBlock = some k ∨ qv.ownBlock = some k) W ((W4.setCell ⟨Ba, 0, none⟩ pv').setCell ⟨Bb, 0, none⟩ qv') := by
  have na : ¬ (pv.ownBlock = some Ba ∨ qv.ownBlock = some Ba) := by
    rintro (e | e)
    · exact row_box h.p h.a (by decide) e
    · exact row_box h.q h.a (by decide) e
  have nb : ¬ (pv.ownBlock = some Bb ∨ qv.ownBlock = some Bb) := by
    rintro (e | e)
    · exact row_box h.p h.b (by decide) e
    · exact row_box h.q h.b (by decide) e
  have ns : ¬ (pv.ownBlock = some Bs ∨ qv.ownBlock = some Bs) := by
    rintro (e | e)
    · have := own_base h.p Bs e
      omega
    · have := own_base h.q Bs e
      omega
  have a4 := ht.boxed h.a na
  have b4 := ht.boxed h.b nb
  have s4 := ht.boxed h.s ns
  have hsa : Bs ≠ Ba := by
    rintro rfl
    have e := (show W.heap[Bs]? = _ from h.s).symm.trans (show W.heap[Bs]? = _ from h.a)
    simp at e
  have hsb : Bs ≠ Bb := by
    rintro rfl
    have e := (show W.heap[Bs]? = _ from h.s).symm.trans (show W.heap[Bs]? = _ from h.b)
    simp at e
  refine ⟨a4, b4, ⟨apart (a4.set _) hab, Boxed.set _ (apart b4 (Ne.symm hab)), apart (apart s4 hsa) hsb, ?_, ?_, Nat.le_trans h.m (Nat.le_trans ht.size (Nat.le_trans (grownBy_setCell' _ _ _).size (grownBy_setCell' _ _ _).size))⟩, ?_⟩
  · have e1 : (ps ++ [i]).length = ps.length + 1 := by simp
    have e2 : intsV (ps ++ [i]) = intsV ps ++ [.int .i64 (i : Int)] := by simp [intsV]
    rw [e1, e2]
    have h5 := hp.kept (grownBy_setCell' W4 Ba pv') (.inr (row_box hp a4 (by decide)))
    exact h5.kept (grownBy_setCell' _ Bb qv') (.inr (row_box hp b4 (by decide)))
  · have e1 : (vs ++ [x]).length = vs.length + 1 := by simp
    have e2 : strsV (vs ++ [x]) = strsV vs ++ [.string x] := by simp [strsV]
    rw [e1, e2]
    have h5 := hq.kept (grownBy_setCell' W4 Ba pv') (.inr (row_box hq a4 (by decide)))
    exact h5.kept (grownBy_setCell' _ Bb qv') (.inr (row_box hq b4 (by decide)))
  · exact ((ht.mono (fun k _ hk => .inr (.inr hk))).trans (Turn.set _ Ba _ (.inl rfl))).trans (Turn.set _ Bb _ (.inr (.inl rfl)))
set_option maxRecDepth 100000 in
set_option maxHeartbeats 8000000 in
theorem hit_in (n : Nat) (Ba Bb Bs M : Nat) (stop : Int) (ps : List Nat) (vs : List ByteArray) (Ap Aq : Option Addr) (cp cq : Nat) (W : World) (i : Nat) (x : ByteArray) (pv qv : Value) (hpv : pv = .slice Ap ps.length cp) (hqv : qv = .slice Aq vs.length cq) (hCo : Co Ba Bb Bs M stop ps vs pv qv W) (hsM : Bs < M) (hab : Ba ≠ Bb) (hl1 : ps.length ≤ 1000) (hl2 : vs.length ≤ 1000) :
    CallsIn Fence.wide n Tryd.prog 20 #[.int .i64 (i : Int), .string x, .pointer (some ⟨Ba, 0, none⟩), .pointer (some ⟨Bb, 0, none⟩), .pointer (some ⟨Bs, 0, none⟩)] W fun e W' => ∃ pv' qv', e = .returned (.bool (((ps.length : Int) + 1 != stop) && decide ((ps.length : Int) + 1 ≤ 300))) ∧ Co Ba Bb Bs M stop (ps ++ [i]) (vs ++ [x]) pv' qv' W' ∧ Turn (fun k => k = Ba ∨ k = Bb ∨ pv.ownBlock = some k ∨ qv.ownBlock = some k) W W' := by
  have hmix : Tryd.prog.follows .mixedOrders = true := by kernel_rfl
  have nA : ¬ (pv.ownBlock = some Ba ∨ qv.ownBlock = some Ba) := by
    rintro (e | e)
    · exact row_box hCo.p hCo.a (by decide) e
    · exact row_box hCo.q hCo.a (by decide) e
  have nB : ¬ (pv.ownBlock = some Bb ∨ qv.ownBlock = some Bb) := by
    rintro (e | e)
    · exact row_box hCo.p hCo.b (by decide) e
    · exact row_box hCo.q hCo.b (by decide) e
  subst hpv
  subst hqv
  have hac := hCo.a.cell
  have hbc := hCo.b.cell
  refine callsIn_of_wp Tryd.func20 rfl trivial ?_ rfl
  simp only [Tryd.ntmps20, List.size_toArray, List.length_cons, List.length_nil, Nat.reduceAdd, Nat.reduceSub, Array.replicate_succ, Array.replicate_zero, List.push_toArray, List.append_toArray, List.nil_append, List.cons_append]
  gi_wp2
  refine wpIn_region_par [(3, fun w' => w'.cell? ⟨Ba, 0, none⟩ = some (.slice Ap ps.length cp)), (7, fun w' => w'.cell? ⟨Bb, 0, none⟩ = some (.slice Aq vs.length cq))] hmix ?_
  have t0 : Turn (fun k => (Value.slice Ap ps.length cp).ownBlock = some k ∨ (Value.slice Aq vs.length cq).ownBlock = some k) W W.drew := Turn.drew W
  have hp0 : W.drew.ownsRow M 3 1 (.slice Ap ps.length cp) ps.length (intsV ps) := hCo.p
  have hq0 : W.drew.ownsRow M 9 1 (.slice Aq vs.length cq) vs.length (strsV vs) := hCo.q
  obtain ⟨x0, hx0⟩ : ∃ x0, W.drew = x0 := ⟨_, rfl⟩
  rw [hx0] at t0 hp0 hq0 ⊢
  have ha0 := (t0.boxed hCo.a nA).cell
  have hb0 := (t0.boxed hCo.b nB).cell
  refine wpAnyInP_take (i := 0) (m := 3) (v := ?v1) (List.mem_cons_self) rfl (by kernel_rfl) (by kernel_rfl) (by kernel_rfl) rfl (by kernel_rfl) (by kernel_rfl) (by kernel_rfl) (by kernel_rfl) (fun _ _ _ h => h) ⟨Or.inl ⟨rfl, ?hy1⟩, fun _ => rfl⟩ (Par.cons (fun h => ha0) (Par.cons (fun h => hb0) Par.nil)) ?r1
  case hy1 => (intro w' hS'; go_simp <;> with_reducible rfl)
  refine wpAnyInP_take (i := 4) (m := 7) (v := ?v2) (List.mem_cons_of_mem _ List.mem_cons_self) rfl (by kernel_rfl) (by kernel_rfl) (by kernel_rfl) rfl (by kernel_rfl) (by kernel_rfl) (by kernel_rfl) (by kernel_rfl) (fun _ _ _ h => h) ⟨Or.inl ⟨rfl, ?hy2⟩, fun _ => rfl⟩ (Par.cons (fun h => ha0) (Par.cons (fun h => hb0) Par.nil)) ?r2
  case hy2 => (intro w' hS'; go_simp <;> with_reducible rfl)
  refine wpAnyInP_free (i := 1) (v := ?v3) (by kernel_rfl) rfl (by kernel_rfl) (by kernel_rfl) (by kernel_rfl) (by kernel_rfl) (fun _ _ _ h => h) ⟨Or.inl ⟨rfl, ?hy3⟩, fun _ => rfl⟩ (Par.cons (fun h => ha0) (Par.cons (fun h => hb0) Par.nil)) ?r3
  case hy3 => (intro w' hS'; go_simp <;> with_reducible rfl)
  refine wpAnyInP_free (i := 5) (v := ?v4) (by kernel_rfl) rfl (by kernel_rfl) (by kernel_rfl) (by kernel_rfl) (by kernel_rfl) (fun _ _ _ h => h) ⟨Or.inl ⟨rfl, ?hy4⟩, fun _ => rfl⟩ (Par.cons (fun h => ha0) (Par.cons (fun h => hb0) Par.nil)) ?r4
  case hy4 => (intro w' hS'; go_simp <;> with_reducible rfl)
  refine wpAnyInP_act (a' := ?a5) ?e5 ?r5
  case e5 => (go_simp <;> with_reducible rfl)
  refine wpAnyInP_ready (rs := [2, 6]) (by kernel_rfl) (by simp) ?_
  refine AllInP.cons (i := 2) rfl ?br35x0 ?mo35x0
  case br35x0 =>
    intro K hK
    go_simp
    obtain ⟨x6, hx6⟩ : ∃ x, x0.alloc (.cells #[.int .i64 (i : Int)] 3) = x := ⟨_, rfl⟩
    try rw [hx6]
    have t6 : Turn (fun k => (Value.slice Ap ps.length cp).ownBlock = some k ∨ (Value.slice Aq vs.length cq).ownBlock = some k) W x6 := by rw [← hx6]; exact t0.trans (Turn.alloc _ _)
    have nc6 : x6.cell? ⟨x0.heap.size, 0, none⟩ = some (.int .i64 (i : Int)) := by rw [← hx6]; exact (Boxed.new x0 3 (.int .i64 (i : Int))).cell
    have bi6 : Boxed x6 x0.heap.size 3 (.int .i64 (i : Int)) := by rw [← hx6]; exact Boxed.new x0 3 (.int .i64 (i : Int))
    have hp6 := hx6 ▸ (hp0).alloc (.cells #[.int .i64 (i : Int)] 3)
    have hq6 := hx6 ▸ (hq0).alloc (.cells #[.int .i64 (i : Int)] 3)
    refine hK _ _ (Par.cons (fun h => ((t6).boxed hCo.a nA).cell) (Par.cons (fun h => ((t6).boxed hCo.b nB).cell) Par.nil)) ?_
    clear hK K
    refine wpAnyInP_act (a' := ?a7) ?e7 ?r7
    case e7 => (go_simp <;> with_reducible rfl)
    refine wpAnyInP_ready (rs := [3, 6]) (by kernel_rfl) (by simp) ?_
    refine AllInP.cons (i := 3) rfl ?br24x0 ?mo24x0
    case br24x0 =>
      intro K hK
      obtain ⟨A8, c8, x8, hr8, hp8, hg8, hat8⟩ := run_append_one 50 50 3 _ 8 Tryd.underlying50 infoInt rfl hp6 nc6 rfl hl1 (by decide) (Nat.le_trans hCo.m t6.size)
      refine if_step rfl ?_
      refine wpIn_append_step rfl rfl rfl hr8 ?_
      have t8 : Turn (fun k => (Value.slice Ap ps.length cp).ownBlock = some k ∨ (Value.slice Aq vs.length cq).ownBlock = some k) W x8 := t6.trans (Turn.grown hg8 (fun k e => .inl e))
      have hq8 := row_kept (hq6) (hp6) (by decide) hg8
      refine hK _ _ (Par.cons (fun h => absurd h (by decide)) (Par.cons (fun h => ((t8).boxed hCo.b nB).cell) Par.nil)) ?_
      clear hK K
      refine wpAnyInP_act (a' := ?a9) ?e9 ?r9
      case e9 => (go_simp <;> with_reducible rfl)
      refine wpAnyInP_one (i := 6) (by kernel_rfl) rfl ?_
      intro K hK
      go_simp
      obtain ⟨x10, hx10⟩ : ∃ x', x8.alloc (.cells #[.string x] 9) = x' := ⟨_, rfl⟩
      try rw [hx10]
      have t10 : Turn (fun k => (Value.slice Ap ps.length cp).ownBlock = some k ∨ (Value.slice Aq vs.length cq).ownBlock = some k) W x10 := by rw [← hx10]; exact t8.trans (Turn.alloc _ _)
      have bs10 : Boxed x10 x8.heap.size 9 (.string x) := by rw [← hx10]; exact Boxed.new x8 9 (.string x)
      have cs10 := bs10.cell
      have hp10 := hx10 ▸ (hp8).alloc (.cells #[.string x] 9)
      have hq10 := hx10 ▸ (hq8).alloc (.cells #[.string x] 9)
      refine hK _ _ (Par.cons (fun h => absurd h (by decide)) (Par.cons (fun h => ((t10).boxed hCo.b nB).cell) Par.nil)) ?_
      clear hK K
      refine wpAnyInP_act (a' := ?a11) ?e11 ?r11
      case e11 => (go_simp <;> with_reducible rfl)
      refine wpAnyInP_one (i := 7) (by kernel_rfl) rfl ?_
      intro K hK
      obtain ⟨A12, c12, x12, hr12, hq12, hg12, hat12⟩ := run_append_one 39 39 9 _ 16 Tryd.underlying39 infoStr rfl hq10 cs10 rfl hl2 (by decide) (Nat.le_trans hCo.m t10.size)
      refine if_step rfl ?_
      refine wpIn_append_step rfl rfl rfl hr12 ?_
      have t12 : Turn (fun k => (Value.slice Ap ps.length cp).ownBlock = some k ∨ (Value.slice Aq vs.length cq).ownBlock = some k) W x12 := t10.trans (Turn.grown hg12 (fun k e => .inr e))
      have hp12 := row_kept (hp10) (hq10) (by decide) hg12
      refine hK _ _ (Par.cons (fun h => absurd h (by decide)) (Par.cons (fun h => absurd h (by decide)) Par.nil)) ?_
      clear hK K
      refine wpAnyInP_act (a' := ?a13) ?e13 ?r13
      case e13 => (go_simp <;> with_reducible rfl)
      obtain ⟨ga, gb, gc, gt⟩ := hCo.grown hsM hab t12 hp12 hq12
      have gac := ga.cell
      have gaf := ga.frozen
      have gb2 := apart (u := .slice A8 (ps.length + 1) c8) gb (Ne.symm hab)
      have gbc := gb2.cell
      have gbf := gb2.frozen
      refine wpAnyInP_one (i := 8) (by kernel_rfl) rfl ?_
      intro K hK
      go_simp
      refine hK _ _ (Par.cons (fun h => absurd h (by decide)) (Par.cons (fun h => absurd h (by decide)) Par.nil)) ?_
      clear hK K
      refine wpAnyInP_act (a' := ?a14) ?e14 ?r14
      case e14 => (go_simp <;> with_reducible rfl)
      refine wpAnyInP_one (i := 9) (by kernel_rfl) rfl ?_
      intro K hK
      go_simp
      refine hK _ _ (Par.cons (fun h => absurd h (by decide)) (Par.cons (fun h => absurd h (by decide)) Par.nil)) ?_
      clear hK K
      refine wpAnyInP_act (a' := ?a15) ?e15 ?r15
      case e15 => (go_simp <;> with_reducible rfl)
      refine wpAnyInP_done (by kernel_rfl) ?_ _
      have ra := gc.a.cell
      have rs := gc.s.cell
      cases hne : ((ps.length : Int) + 1 != stop) with
      | true =>
        gi_wp2
        refine bodyPost_ret (results_tmp rfl _ _ _) rfl ?_
        exact ⟨_, _, by rw [hne]; rfl, gc, gt⟩
      | false =>
        gi_wp2
        refine bodyPost_ret (results_tmp rfl _ _ _) rfl ?_
        exact ⟨_, _, by rw [hne]; rfl, gc, gt⟩
    refine AllInP.cons (i := 6) rfl ?br24x1 ?mo24x1
    case br24x1 =>
      intro K hK
      go_simp
      obtain ⟨x16, hx16⟩ : ∃ x', x6.alloc (.cells #[.string x] 9) = x' := ⟨_, rfl⟩
      try rw [hx16]
      have t16 : Turn (fun k => (Value.slice Ap ps.length cp).ownBlock = some k ∨ (Value.slice Aq vs.length cq).ownBlock = some k) W x16 := by rw [← hx16]; exact t6.trans (Turn.alloc _ _)
      have bs16 : Boxed x16 x6.heap.size 9 (.string x) := by rw [← hx16]; exact Boxed.new x6 9 (.string x)
      have cs16 := bs16.cell
      have bi16 : Boxed x16 x0.heap.size 3 (.int .i64 (i : Int)) := by rw [← hx16]; exact bi6.alloc _
      have ci16 := bi16.cell
      have hp16 := hx16 ▸ (hp6).alloc (.cells #[.string x] 9)
      have hq16 := hx16 ▸ (hq6).alloc (.cells #[.string x] 9)
      refine hK _ _ (Par.cons (fun h => ((t16).boxed hCo.a nA).cell) (Par.cons (fun h => ((t16).boxed hCo.b nB).cell) Par.nil)) ?_
      clear hK K
      refine wpAnyInP_act (a' := ?a17) ?e17 ?r17
      case e17 => (go_simp <;> with_reducible rfl)
      refine wpAnyInP_one (i := 3) (by kernel_rfl) rfl ?_
      intro K hK
      obtain ⟨A18, c18, x18, hr18, hp18, hg18, hat18⟩ := run_append_one 50 50 3 _ 8 Tryd.underlying50 infoInt rfl hp16 ci16 rfl hl1 (by decide) (Nat.le_trans hCo.m t16.size)
      refine if_step rfl ?_
      refine wpIn_append_step rfl rfl rfl hr18 ?_
      have t18 : Turn (fun k => (Value.slice Ap ps.length cp).ownBlock = some k ∨ (Value.slice Aq vs.length cq).ownBlock = some k) W x18 := t16.trans (Turn.grown hg18 (fun k e => .inl e))
      have hq18 := row_kept (hq16) (hp16) (by decide) hg18
      have bs18 : Boxed x18 x6.heap.size 9 (.string x) := (bs16).kept hg18 (fun e => ((bs16).not_row (by decide) hp16) e)
      have cs18 := bs18.cell
      refine hK _ _ (Par.cons (fun h => absurd h (by decide)) (Par.cons (fun h => ((t18).boxed hCo.b nB).cell) Par.nil)) ?_
      clear hK K
      refine wpAnyInP_act (a' := ?a19) ?e19 ?r19
      case e19 => (go_simp <;> with_reducible rfl)
      refine wpAnyInP_one (i := 7) (by kernel_rfl) rfl ?_
      intro K hK
      obtain ⟨A20, c20, x20, hr20, hq20, hg20, hat20⟩ := run_append_one 39 39 9 _ 16 Tryd.underlying39 infoStr rfl hq18 cs18 rfl hl2 (by decide) (Nat.le_trans hCo.m t18.size)
      refine if_step rfl ?_
      refine wpIn_append_step rfl rfl rfl hr20 ?_
      have t20 : Turn (fun k => (Value.slice Ap ps.length cp).ownBlock = some k ∨ (Value.slice Aq vs.length cq).ownBlock = some k) W x20 := t18.trans (Turn.grown hg20 (fun k e => .inr e))
      have hp20 := row_kept (hp18) (hq18) (by decide) hg20
      refine hK _ _ (Par.cons (fun h => absurd h (by decide)) (Par.cons (fun h => absurd h (by decide)) Par.nil)) ?_
      clear hK K
      refine wpAnyInP_act (a' := ?a21) ?e21 ?r21
      case e21 => (go_simp <;> with_reducible rfl)
      obtain ⟨ga, gb, gc, gt⟩ := hCo.grown hsM hab t20 hp20 hq20
      have gac := ga.cell
      have gaf := ga.frozen
      have gb2 := apart (u := .slice A18 (ps.length + 1) c18) gb (Ne.symm hab)
      have gbc := gb2.cell
      have gbf := gb2.frozen
      refine wpAnyInP_one (i := 8) (by kernel_rfl) rfl ?_
      intro K hK
      go_simp
      refine hK _ _ (Par.cons (fun h => absurd h (by decide)) (Par.cons (fun h => absurd h (by decide)) Par.nil)) ?_
      clear hK K
      refine wpAnyInP_act (a' := ?a22) ?e22 ?r22
      case e22 => (go_simp <;> with_reducible rfl)
      refine wpAnyInP_one (i := 9) (by kernel_rfl) rfl ?_
      intro K hK
      go_simp
      refine hK _ _ (Par.cons (fun h => absurd h (by decide)) (Par.cons (fun h => absurd h (by decide)) Par.nil)) ?_
      clear hK K
      refine wpAnyInP_act (a' := ?a23) ?e23 ?r23
      case e23 => (go_simp <;> with_reducible rfl)
      refine wpAnyInP_done (by kernel_rfl) ?_ _
      have ra := gc.a.cell
      have rs := gc.s.cell
      cases hne : ((ps.length : Int) + 1 != stop) with
      | true =>
        gi_wp2
        refine bodyPost_ret (results_tmp rfl _ _ _) rfl ?_
        exact ⟨_, _, by rw [hne]; rfl, gc, gt⟩
      | false =>
        gi_wp2
        refine bodyPost_ret (results_tmp rfl _ _ _) rfl ?_
        exact ⟨_, _, by rw [hne]; rfl, gc, gt⟩
    exact AllInP.nil
  refine AllInP.cons (i := 6) rfl ?br35x1 ?mo35x1
  case br35x1 =>
    intro K hK
    go_simp
    obtain ⟨x25, hx25⟩ : ∃ x', x0.alloc (.cells #[.string x] 9) = x' := ⟨_, rfl⟩
    try rw [hx25]
    have t25 : Turn (fun k => (Value.slice Ap ps.length cp).ownBlock = some k ∨ (Value.slice Aq vs.length cq).ownBlock = some k) W x25 := by rw [← hx25]; exact t0.trans (Turn.alloc _ _)
    have bs25 : Boxed x25 x0.heap.size 9 (.string x) := by rw [← hx25]; exact Boxed.new x0 9 (.string x)
    have cs25 := bs25.cell
    have hp25 := hx25 ▸ (hp0).alloc (.cells #[.string x] 9)
    have hq25 := hx25 ▸ (hq0).alloc (.cells #[.string x] 9)
    refine hK _ _ (Par.cons (fun h => ((t25).boxed hCo.a nA).cell) (Par.cons (fun h => ((t25).boxed hCo.b nB).cell) Par.nil)) ?_
    clear hK K
    refine wpAnyInP_act (a' := ?a26) ?e26 ?r26
    case e26 => (go_simp <;> with_reducible rfl)
    refine wpAnyInP_one (i := 2) (by kernel_rfl) rfl ?_
    intro K hK
    go_simp
    obtain ⟨x27, hx27⟩ : ∃ x, x25.alloc (.cells #[.int .i64 (i : Int)] 3) = x := ⟨_, rfl⟩
    try rw [hx27]
    have t27 : Turn (fun k => (Value.slice Ap ps.length cp).ownBlock = some k ∨ (Value.slice Aq vs.length cq).ownBlock = some k) W x27 := by rw [← hx27]; exact t25.trans (Turn.alloc _ _)
    have nc27 : x27.cell? ⟨x25.heap.size, 0, none⟩ = some (.int .i64 (i : Int)) := by rw [← hx27]; exact (Boxed.new x25 3 (.int .i64 (i : Int))).cell
    have mc27 : x27.cell? ⟨x0.heap.size, 0, none⟩ = some (.string x) := by rw [← hx27]; exact (bs25.alloc _).cell
    have mb27 : Boxed x27 x0.heap.size 9 (.string x) := by rw [← hx27]; exact bs25.alloc _
    have bi27 : Boxed x27 x25.heap.size 3 (.int .i64 (i : Int)) := by rw [← hx27]; exact Boxed.new x25 3 (.int .i64 (i : Int))
    have hp27 := hx27 ▸ (hp25).alloc (.cells #[.int .i64 (i : Int)] 3)
    have hq27 := hx27 ▸ (hq25).alloc (.cells #[.int .i64 (i : Int)] 3)
    refine hK _ _ (Par.cons (fun h => ((t27).boxed hCo.a nA).cell) (Par.cons (fun h => ((t27).boxed hCo.b nB).cell) Par.nil)) ?_
    clear hK K
    refine wpAnyInP_act (a' := ?a28) ?e28 ?r28
    case e28 => (go_simp <;> with_reducible rfl)
    refine wpAnyInP_one (i := 3) (by kernel_rfl) rfl ?_
    intro K hK
    obtain ⟨A29, c29, x29, hr29, hp29, hg29, hat29⟩ := run_append_one 50 50 3 _ 8 Tryd.underlying50 infoInt rfl hp27 nc27 rfl hl1 (by decide) (Nat.le_trans hCo.m t27.size)
    refine if_step rfl ?_
    refine wpIn_append_step rfl rfl rfl hr29 ?_
    have t29 : Turn (fun k => (Value.slice Ap ps.length cp).ownBlock = some k ∨ (Value.slice Aq vs.length cq).ownBlock = some k) W x29 := t27.trans (Turn.grown hg29 (fun k e => .inl e))
    have hq29 := row_kept (hq27) (hp27) (by decide) hg29
    have bs29 : Boxed x29 x0.heap.size 9 (.string x) := (mb27).kept hg29 (fun e => ((mb27).not_row (by decide) hp27) e)
    have cs29 := bs29.cell
    refine hK _ _ (Par.cons (fun h => absurd h (by decide)) (Par.cons (fun h => ((t29).boxed hCo.b nB).cell) Par.nil)) ?_
    clear hK K
    refine wpAnyInP_act (a' := ?a30) ?e30 ?r30
    case e30 => (go_simp <;> with_reducible rfl)
    refine wpAnyInP_one (i := 7) (by kernel_rfl) rfl ?_
    intro K hK
    obtain ⟨A31, c31, x31, hr31, hq31, hg31, hat31⟩ := run_append_one 39 39 9 _ 16 Tryd.underlying39 infoStr rfl hq29 cs29 rfl hl2 (by decide) (Nat.le_trans hCo.m t29.size)
    refine if_step rfl ?_
    refine wpIn_append_step rfl rfl rfl hr31 ?_
    have t31 : Turn (fun k => (Value.slice Ap ps.length cp).ownBlock = some k ∨ (Value.slice Aq vs.length cq).ownBlock = some k) W x31 := t29.trans (Turn.grown hg31 (fun k e => .inr e))
    have hp31 := row_kept (hp29) (hq29) (by decide) hg31
    refine hK _ _ (Par.cons (fun h => absurd h (by decide)) (Par.cons (fun h => absurd h (by decide)) Par.nil)) ?_
    clear hK K
    refine wpAnyInP_act (a' := ?a32) ?e32 ?r32
    case e32 => (go_simp <;> with_reducible rfl)
    obtain ⟨ga, gb, gc, gt⟩ := hCo.grown hsM hab t31 hp31 hq31
    have gac := ga.cell
    have gaf := ga.frozen
    have gb2 := apart (u := .slice A29 (ps.length + 1) c29) gb (Ne.symm hab)
    have gbc := gb2.cell
    have gbf := gb2.frozen
    refine wpAnyInP_one (i := 8) (by kernel_rfl) rfl ?_
    intro K hK
    go_simp
    refine hK _ _ (Par.cons (fun h => absurd h (by decide)) (Par.cons (fun h => absurd h (by decide)) Par.nil)) ?_
    clear hK K
    refine wpAnyInP_act (a' := ?a33) ?e33 ?r33
    case e33 => (go_simp <;> with_reducible rfl)
    refine wpAnyInP_one (i := 9) (by kernel_rfl) rfl ?_
    intro K hK
    go_simp
    refine hK _ _ (Par.cons (fun h => absurd h (by decide)) (Par.cons (fun h => absurd h (by decide)) Par.nil)) ?_
    clear hK K
    refine wpAnyInP_act (a' := ?a34) ?e34 ?r34
    case e34 => (go_simp <;> with_reducible rfl)
    refine wpAnyInP_done (by kernel_rfl) ?_ _
    have ra := gc.a.cell
    have rs := gc.s.cell
    cases hne : ((ps.length : Int) + 1 != stop) with
    | true =>
      gi_wp2
      refine bodyPost_ret (results_tmp rfl _ _ _) rfl ?_
      exact ⟨_, _, by rw [hne]; rfl, gc, gt⟩
    | false =>
      gi_wp2
      refine bodyPost_ret (results_tmp rfl _ _ _) rfl ?_
      exact ⟨_, _, by rw [hne]; rfl, gc, gt⟩
  exact AllInP.nil

end Go.Proofs.YtbigbjfppaenfaaDoor.Lines
