/- The evaluator Ev and its soundness, part 3 of 6: what it computes of a function, the model's machine computes on every tape. -/
import Derived.Test.YtnoddedgkgkfhaaEv1
import Derived.Laws.Cells
import Derived.Laws.BytesString
import Derived.Laws.IdiomCopy
section
/- Ev, part 17: pure operations: the theorem. -/
namespace Go.Ev
set_option linter.unusedSectionVars false
variable [F : Facts] [E : Env]
set_option linter.unusedSimpArgs false
set_option linter.unusedVariables false
variable {P : Program} {μ : Mu}
variable {wr : WrT} {io : Opd → Option AV} {ρ : Operand → Value}

theorem one_arr {α : Type} {a : Array α} {x : α} (h : a.toList = [x]) : a = #[x] := by
  cases a; simp_all
theorem two_arr {α : Type} {a : Array α} {x y : α} (h : a.toList = [x, y]) : a = #[x, y] := by
  cases a; simp_all
theorem map_one (f : Operand → Value) (x : Operand) : (#[x] : Array Operand).map f = #[f x] := by simp
theorem map_two (f : Operand → Value) (x y : Operand) : (#[x, y] : Array Operand).map f = #[f x, f y] := by simp

theorem VR.slice_form {b o len cap : Nat} {v : Value} (h : VR μ (.sl b o len cap) v) : ∃ a c, v = .slice (some a) len c ∧ cap ≤ c ∧ (0 < cap → ∃ b' d x, μ b = some (b', d, x) ∧ a = ⟨b', d + o, none⟩) := by
  obtain ⟨b', d', x', hm, hv⟩ := h.inv_sl
  rcases hv with ⟨cap', e, hc, _⟩ | ⟨o', cap', _, _, h0, h1, e⟩
  · exact ⟨_, _, e, hc, fun _ => ⟨b', d', x', hm, rfl⟩⟩
  · subst h0; subst h1; exact ⟨_, _, e, Nat.zero_le _, fun h => absurd h (Nat.lt_irrefl 0)⟩

section
variable (hio : IOR μ wr io ρ) (hk : ∀ a v, io (.c a) = some v → v = a)
include hio hk

theorem ok_len1 {ox : Operand} {x : Opd} {t ty : TypeId} {d : TypeDesc} {q : POp} {v : AV} (hxx : opnd wr ox = some x) (hd : und (ttOf P) t = some d) (hc : kLen x d = some (.p q)) (he : evP io P (ttOf P) q = some v) (w : World) :
    ∃ v', (Builtin.len_ #[t] ty #[ρ ox]).run P w = .ok v' w ∧ VR μ v v' := by
  unfold kLen at hc
  cases d with
  | string =>
    have hq := (inj_p hc).symm
    subst hq
    obtain ⟨u, hu, he⟩ := ob_eq he
    obtain ⟨l, n, e, he⟩ := onStr_eq he
    subst e
    injection he with hev
    obtain ⟨s, es, rfl, rfl⟩ := (hio _ _ _ hxx hu).inv_str
    refine ⟨goInt s.size, ?_, by rw [← hev]; exact .int _ _⟩
    rw [es]
    show (underlying t >>= fun d => _).run P w = _
    rw [run_ok (run_und hd w)]; rfl
  | slice e =>
    have hq := (inj_p hc).symm
    subst hq
    obtain ⟨u, hu, he⟩ := ob_eq he
    rcases onSl_eq he with ⟨b, o, l, c, e1, he2⟩ | ⟨e1, he2⟩
    · subst e1
      injection he2 with hev
      obtain ⟨a, c', es, _, _⟩ := (hio _ _ _ hxx hu).slice_form
      refine ⟨goInt l, ?_, by rw [← hev]; exact .int _ _⟩
      rw [es]
      show (underlying t >>= fun d => _).run P w = _
      rw [run_ok (run_und hd w)]; rfl
    · subst e1
      injection he2 with hev
      have es := (hio _ _ _ hxx hu).inv_nils
      refine ⟨goInt 0, ?_, by rw [← hev]; exact .int _ _⟩
      rw [es]
      show (underlying t >>= fun d => _).run P w = _
      rw [run_ok (run_und hd w)]; rfl
  | map k e => exact (noP_l hc).elim
  | array n e =>
    have hq := (inj_p hc).symm
    subst hq
    refine ⟨goInt n, ?_, ?_⟩
    · show (underlying t >>= fun d => _).run P w = _
      rw [run_ok (run_und hd w)]; rfl
    · have := hk _ _ (show io (.c (.int .i64 (.ofNat n))) = some v from he)
      rw [this]
      exact .int _ _
  | _ => exact nomatch hc

theorem ok_call {o : Oper} {c : Call} (ho : o.op = .call c) {q : POp} {v : AV} (hc : kCall (ttOf P) wr c = some (.p q)) (he : evP io P (ttOf P) q = some v) (w : World) :
    Gives P μ (execOp ρ o) w v := by
  obtain ⟨as, has, hc⟩ := ob_eq hc
  unfold kCallee at hc
  split at hc
  · exact (noP_w hc).elim
  · obtain ⟨f, _, hc⟩ := ob_eq hc
    exact (noP_w hc).elim
  · obtain ⟨f, _, hc⟩ := ob_eq hc
    exact (noP_w hc).elim
  · rename_i b hb
    have hrun := call_builtin (P := P) (ρ := ρ) ho hb w
    unfold Gives
    rw [hrun]
    have hargs : (c.args.map ρ).toList = c.args.toList.map ρ := by simp
    unfold kBuiltin at hc
    split at hc
    · rename_i m hm
      have hq := (inj_p hc).symm
      subst hq
      obtain ⟨v', h1, h2⟩ := ok_minmax (P := P) hio has he w c.argTypes o.type (c.args.map ρ) hargs
      refine ⟨v', ?_, h2⟩
      cases b <;> simp only [isMM, Option.some.injEq, reduceCtorEq] at hm
      · subst hm
        exact run_v h1
      · subst hm
        exact run_v h1
    · split at hc
      · -- one argument
        rename_i x t hts
        obtain ⟨d, hd, hc⟩ := ob_eq hc
        obtain ⟨ox, hox, hxx⟩ := opnds_one has
        have ea := one_arr hox
        have et := one_arr hts
        rw [ea, et, map_one]
        unfold kBuiltin1 at hc
        split at hc
        · obtain ⟨v', h1, h2⟩ := ok_len1 (ty := o.type) hio hk hxx hd hc he w
          exact ⟨v', run_v h1, h2⟩
        · obtain ⟨hs, hc⟩ := ot_eq hc
          have hq := (inj_p hc).symm
          subst hq
          obtain ⟨u, hu, he⟩ := ob_eq he
          rcases onSl_eq he with ⟨b, o, l, c, e1, he2⟩ | ⟨e1, he2⟩
          · exact nomatch he2
          · subst e1
            injection he2 with hev
            have es := (hio _ _ _ hxx hu).inv_nils
            refine ⟨goInt 0, run_v ?_, by rw [← hev]; exact .int _ _⟩
            rw [es]
            show (underlying t >>= fun d => _).run P w = _
            rw [run_ok (run_und hd w)]
            cases d <;> first | rfl | exact Bool.noConfusion hs
        · exfalso
          unfold kClear1 at hc
          cases d with
          | slice e =>
            obtain ⟨z, _, hc⟩ := ob_eq hc
            obtain ⟨n, _, hc⟩ := ob_eq hc
            obtain ⟨_, hc⟩ := ot_eq hc
            exact noP_w hc
          | _ => exact nomatch hc
        · have hq := (inj_p hc).symm
          subst hq
          obtain ⟨u, hu, he⟩ := ob_eq he
          rcases onSl_eq he with ⟨b, oo, l, c, e1, he2⟩ | ⟨e1, he2⟩
          · subst e1
            obtain ⟨hlt, he3⟩ := ot_eq he2
            rw [nlt_eq, decide_eq_true_eq] at hlt
            injection he3 with hev
            obtain ⟨a, c', es, hcc, hloc⟩ := (hio _ _ _ hxx hu).slice_form
            obtain ⟨b', d', x', hm, ea'⟩ := hloc hlt
            refine ⟨.pointer (some a), run_v ?_, by rw [← hev, ea']; exact .ptr hm⟩
            rw [es]
            show (if c' ≠ 0 then (pure (Value.pointer (some a)) : Sem Value) else _).run P w = _
            rw [if_pos (by omega)]; rfl
          · subst e1
            injection he2 with hev
            have es := (hio _ _ _ hxx hu).inv_nils
            refine ⟨.pointer none, run_v ?_, by rw [← hev]; exact .nilp⟩
            rw [es]; rfl
        · exact nomatch hc
      · rename_i x y t u hts
        obtain ⟨d, hd, hc⟩ := ob_eq hc
        obtain ⟨d2, hd2, hc⟩ := ob_eq hc
        exfalso
        unfold kBuiltin2 at hc
        split at hc
        · unfold kAppend1 at hc
          split at hc
          · obtain ⟨i, _, hc⟩ := ob_eq hc
            obtain ⟨z, _, hc⟩ := ob_eq hc
            obtain ⟨_, hc⟩ := ot_eq hc
            exact noP_w hc
          · obtain ⟨i, _, hc⟩ := ob_eq hc
            obtain ⟨z, _, hc⟩ := ob_eq hc
            obtain ⟨_, hc⟩ := ot_eq hc
            exact noP_w hc
          · exact nomatch hc
        · unfold kCopy1 at hc
          split at hc
          · obtain ⟨i, _, hc⟩ := ob_eq hc
            obtain ⟨_, hc⟩ := ot_eq hc
            exact noP_w hc
          · exact nomatch hc
        · unfold kDelete1 at hc
          split at hc
          · exact noP_w hc
          · exact nomatch hc
        · unfold kUnsafeStr1 at hc
          split at hc
          · obtain ⟨i, _, hc⟩ := ob_eq hc
            obtain ⟨_, hc⟩ := ot_eq hc
            exact noP_w hc
          · exact nomatch hc
        · exact nomatch hc
      · exact nomatch hc

theorem pure_ok (o : Oper) {q : POp} {v : AV} (hc : compOp0 P (ttOf P) wr o.op = some (.p q)) (he : evP io P (ttOf P) q = some v) (w : World) : Gives P μ (execOp ρ o) w v := by
  cases ho : o.op with
  | move x =>
    rw [ho] at hc
    obtain ⟨a, ha, hc⟩ := ob_eq hc
    have hq := (inj_p hc).symm
    subst hq
    exact ⟨ρ x, by unfold execOp; rw [ho]; rfl, hio _ _ _ ha he⟩
  | assign x =>
    rw [ho] at hc
    obtain ⟨a, ha, hc⟩ := ob_eq hc
    have hq := (inj_p hc).symm
    subst hq
    exact ⟨ρ x, by unfold execOp; rw [ho]; rfl, hio _ _ _ ha he⟩
  | pick c a b =>
    rw [ho] at hc
    obtain ⟨c', hc', hc⟩ := ob_eq hc
    obtain ⟨a', ha', hc⟩ := ob_eq hc
    obtain ⟨b', hb', hc⟩ := ob_eq hc
    have hq := (inj_p hc).symm
    subst hq
    obtain ⟨u, hu, he⟩ := ob_eq he
    obtain ⟨t, e, he⟩ := onBool_eq he
    subst e
    have ec := (hio _ _ _ hc' hu).inv_bool
    cases t with
    | true => exact ⟨ρ a, by unfold execOp; rw [ho]; simp only; rw [ec]; rfl, hio _ _ _ ha' he⟩
    | false => exact ⟨ρ b, by unfold execOp; rw [ho]; simp only; rw [ec]; rfl, hio _ _ _ hb' he⟩
  | alloc e => rw [ho] at hc; obtain ⟨z, _, hc⟩ := ob_eq hc; exact (noP_a hc).elim
  | box e x => rw [ho] at hc; obtain ⟨z, _, hc⟩ := ob_eq hc; exact (noP_a hc).elim
  | build t parts =>
    rw [ho] at hc
    obtain ⟨v', h1, h2⟩ := ok_build (P := P) hio hc he w
    exact ⟨v', by unfold execOp; rw [ho]; exact run_v h1, h2⟩
  | buildSlice t n parts =>
    rw [ho] at hc
    obtain ⟨d, _, hc⟩ := ob_eq hc
    cases d with
    | slice e =>
      obtain ⟨_, _, hc⟩ := ob_eq hc
      obtain ⟨_, _, hc⟩ := ob_eq hc
      obtain ⟨_, _, hc⟩ := ob_eq hc
      obtain ⟨_, hc⟩ := ot_eq hc
      exact (noP_a hc).elim
    | _ => exact nomatch hc
  | load t a =>
    rw [ho] at hc
    obtain ⟨_, _, hc⟩ := ob_eq hc
    obtain ⟨g, _, hc⟩ := ob_eq hc
    cases g with
    | true => obtain ⟨_, _, hc⟩ := ob_eq (show ob _ _ = _ from hc); exact (noP_l hc).elim
    | false => exact (noP_l hc).elim
  | store t a x =>
    rw [ho] at hc
    obtain ⟨_, _, hc⟩ := ob_eq hc
    obtain ⟨_, _, hc⟩ := ob_eq hc
    obtain ⟨_, _, hc⟩ := ob_eq hc
    obtain ⟨_, _, hc⟩ := ob_eq hc
    obtain ⟨_, hc⟩ := ot_eq hc
    exact (noP_w hc).elim
  | nilCheck x =>
    rw [ho] at hc
    obtain ⟨a, ha, hc⟩ := ob_eq hc
    have hq := (inj_p hc).symm
    subst hq
    obtain ⟨u, hu, he⟩ := ob_eq he
    have hr := hio _ _ _ ha hu
    unfold nilChk at he
    split at he
    · injection he with hev
      obtain ⟨b', d', x', hm, e⟩ := hr.inv_ptr
      exact ⟨ρ x, by unfold execOp; rw [ho]; simp only; rw [e]; rfl, by rw [← hev]; exact hr⟩
    · injection he with hev
      refine ⟨ρ x, ?_, by rw [← hev]; exact hr⟩
      unfold execOp; rw [ho]; simp only
      cases e : ρ x with
      | iface t v => rfl
      | _ => rw [e] at hr; exact nomatch hr
    · obtain ⟨_, he⟩ := ot_eq he
      injection he with hev
      refine ⟨ρ x, ?_, by rw [← hev]; exact hr⟩
      unfold execOp; rw [ho]; simp only
      cases e : ρ x with
      | func g a c =>
        rw [e] at hr
        cases hr <;> rfl
      | _ => rw [e] at hr; exact nomatch hr
    · exact nomatch he
  | binOp op t x y yt =>
    rw [ho] at hc
    obtain ⟨v', h1, h2⟩ := ok_bin (P := P) hio hc he w
    exact ⟨v', by unfold execOp; rw [ho]; exact run_v h1, h2⟩
  | unOp op t x =>
    rw [ho] at hc
    obtain ⟨a, ha, hc⟩ := ob_eq hc
    have hq := (inj_p hc).symm
    subst hq
    obtain ⟨u, hu, he⟩ := ob_eq he
    obtain ⟨v', h1, h2⟩ := ok_un (P := P) hio he (hio _ _ _ ha hu) w
    exact ⟨v', by unfold execOp; rw [ho]; exact run_v h1, h2⟩
  | convert s d x =>
    rw [ho] at hc
    obtain ⟨v', h1, h2⟩ := ok_conv (P := P) hio hc he w
    exact ⟨v', by unfold execOp; rw [ho]; exact run_v h1, h2⟩
  | makeInterface t x =>
    rw [ho] at hc
    obtain ⟨a, ha, hc⟩ := ob_eq hc
    obtain ⟨d, hd, hc⟩ := ob_eq hc
    obtain ⟨hi, hc⟩ := ot_eq hc
    have hq := (inj_p hc).symm
    subst hq
    obtain ⟨u, hu, he⟩ := ob_eq he
    injection he with hev
    refine ⟨.iface t (ρ x), ?_, by rw [← hev]; exact .ifc t (hio _ _ _ ha hu)⟩
    unfold execOp; rw [ho]
    refine run_v ?_
    unfold Instr.makeInterface
    rw [run_ok (run_und hd w)]
    cases d <;> first | rfl | exact Bool.noConfusion hi
  | makeFunc fn a b =>
    rw [ho] at hc
    obtain ⟨a', ha, hc⟩ := ob_eq hc
    obtain ⟨b', hb, hc⟩ := ob_eq hc
    obtain ⟨hf, hc⟩ := ot_eq hc
    have hq := (inj_p hc).symm
    subst hq
    obtain ⟨va, hva, he⟩ := ob_eq he
    obtain ⟨vb, hvb, he⟩ := ob_eq he
    injection he with hev
    cases fn with
    | func f =>
      refine ⟨.func (.func f) (a.map ρ) (b.map ρ), ?_, ?_⟩
      · unfold execOp; rw [ho]; rfl
      · rw [← hev]
        refine .fn f ?_ ?_
        · have := ios_rel hio ha hva; simpa using this
        · have := ios_rel hio hb hvb; simpa using this
    | _ => exact Bool.noConfusion hf
  | makeMap t r =>
    rw [ho] at hc
    cases r with
    | none => exact (noP_a hc).elim
    | some _ => exact nomatch hc
  | makeSlice t l c =>
    rw [ho] at hc
    obtain ⟨_, _, hc⟩ := ob_eq hc
    obtain ⟨_, _, hc⟩ := ob_eq hc
    obtain ⟨d, _, hc⟩ := ob_eq hc
    cases d with
    | slice e =>
      obtain ⟨_, _, hc⟩ := ob_eq hc
      obtain ⟨_, _, hc⟩ := ob_eq hc
      exact (noP_a hc).elim
    | _ => exact nomatch hc
  | slice t x lo hi mx =>
    rw [ho] at hc
    obtain ⟨v', h1, h2⟩ := ok_slice (P := P) hio hc he w
    exact ⟨v', by unfold execOp; rw [ho]; exact run_v h1, h2⟩
  | fieldAddr s x f =>
    rw [ho] at hc
    obtain ⟨a, ha, hc⟩ := ob_eq hc
    obtain ⟨d, hd, hc⟩ := ob_eq hc
    unfold kFieldAddr1 at hc
    cases d with
    | struct fs =>
      obtain ⟨fd, hf, hc⟩ := ob_eq hc
      obtain ⟨sz, hs, hc⟩ := ob_eq hc
      obtain ⟨hlt, hc⟩ := ot_eq hc
      have hq := (inj_p hc).symm
      subst hq
      obtain ⟨u, hu, he⟩ := ob_eq he
      obtain ⟨b, o', e, he⟩ := onPtr_eq he
      subst e
      injection he with hev
      obtain ⟨b', d', x', hm, ex⟩ := (hio _ _ _ ha hu).inv_ptr
      rw [nlt_eq, decide_eq_true_eq] at hlt
      rw [nth_eq] at hf
      refine ⟨.pointer (some ⟨b', d' + (o' + fd.offset), none⟩), ?_, by rw [← hev]; exact .ptr hm⟩
      unfold execOp; rw [ho]
      refine run_v ?_
      unfold Instr.fieldAt
      rw [run_ok (run_und hd w)]
      have hf' : fs[f]? = some fd := by simpa using hf
      simp only [hf', ex]
      show (Instr.sureAddr (.pointer (some ⟨b', d' + o', none⟩)) >>= fun a => fieldPlace a fd >>= fun a => (pure (Value.pointer (some a)) : Sem Value)).run P w = _
      have ra : (Instr.sureAddr (.pointer (some ⟨b', d' + o', none⟩))).run P w = .ok ⟨b', d' + o', none⟩ w := rfl
      rw [run_ok ra]
      have rp : (fieldPlace ⟨b', d' + o', none⟩ fd).run P w = .ok ⟨b', d' + (o' + fd.offset), none⟩ w := by
        unfold fieldPlace
        rw [run_ok (run_size hs w), if_neg (by omega), addr_add]; rfl
      rw [run_ok rp]; rfl
    | _ => exact nomatch hc
  | field t x f =>
    rw [ho] at hc
    obtain ⟨a, ha, hc⟩ := ob_eq hc
    obtain ⟨d, hd, hc⟩ := ob_eq hc
    unfold kField1 at hc
    cases d with
    | struct fs =>
      obtain ⟨fd, hf, hc⟩ := ob_eq hc
      obtain ⟨sz, hs, hc⟩ := ob_eq hc
      obtain ⟨g, hg, hc⟩ := ob_eq hc
      have hq := (inj_p hc).symm
      subst hq
      obtain ⟨u, hu, he⟩ := ob_eq he
      obtain ⟨cs', u', ev, hr, hrel⟩ := part_ok (P := P) hg hs he (hio _ _ _ ha hu) w
      rw [nth_eq] at hf
      refine ⟨u', ?_, hrel⟩
      unfold execOp; rw [ho]
      refine run_v ?_
      unfold Instr.field
      rw [run_ok (run_und hd w)]
      have hf' : fs[f]? = some fd := by simpa using hf
      simp only [hf', ev]
      show (asAgg (.agg cs') >>= fun cs => Go.part fd.type cs fd.offset).run P w = _
      have ra : (asAgg (.agg cs')).run P w = .ok cs' w := rfl
      rw [run_ok ra]; exact hr
    | _ => exact nomatch hc
  | indexAddr t x i =>
    rw [ho] at hc
    obtain ⟨v', h1, h2⟩ := ok_ixAddr (P := P) hio hc he w
    exact ⟨v', by unfold execOp; rw [ho]; exact run_v h1, h2⟩
  | index t x i =>
    rw [ho] at hc
    obtain ⟨v', h1, h2⟩ := ok_index (P := P) hio hc he w
    exact ⟨v', by unfold execOp; rw [ho]; exact run_v h1, h2⟩
  | lookup t x k ok =>
    rw [ho] at hc
    obtain ⟨_, _, hc⟩ := ob_eq hc
    obtain ⟨_, _, hc⟩ := ob_eq hc
    obtain ⟨d, _, hc⟩ := ob_eq hc
    cases d with
    | map kt e => obtain ⟨_, _, hc⟩ := ob_eq hc; exact (noP_l hc).elim
    | _ => exact nomatch hc
  | mapUpdate t m k x =>
    rw [ho] at hc
    obtain ⟨_, _, hc⟩ := ob_eq hc
    obtain ⟨_, _, hc⟩ := ob_eq hc
    obtain ⟨_, _, hc⟩ := ob_eq hc
    obtain ⟨d, _, hc⟩ := ob_eq hc
    cases d with
    | map kt e => exact (noP_w hc).elim
    | _ => exact nomatch hc
  | insert t m k x =>
    rw [ho] at hc
    obtain ⟨_, _, hc⟩ := ob_eq hc
    obtain ⟨_, _, hc⟩ := ob_eq hc
    obtain ⟨_, _, hc⟩ := ob_eq hc
    obtain ⟨d, _, hc⟩ := ob_eq hc
    cases d with
    | map kt e => exact (noP_w hc).elim
    | _ => exact nomatch hc
  | range t x =>
    rw [ho] at hc
    obtain ⟨_, _, hc⟩ := ob_eq hc
    obtain ⟨d, _, hc⟩ := ob_eq hc
    obtain ⟨_, hc⟩ := ot_eq hc
    exact (noP_a hc).elim
  | next x s =>
    rw [ho] at hc
    obtain ⟨_, _, hc⟩ := ob_eq hc
    obtain ⟨_, hc⟩ := ot_eq hc
    exact (noP_w hc).elim
  | typeAssert x xt t ok =>
    rw [ho] at hc
    obtain ⟨v', h1, h2⟩ := ok_assert (P := P) (xt := xt) hio hc he w
    exact ⟨v', by unfold execOp; rw [ho]; exact run_v h1, h2⟩
  | extract x i =>
    rw [ho] at hc
    obtain ⟨a, ha, hc⟩ := ob_eq hc
    have hq := (inj_p hc).symm
    subst hq
    obtain ⟨u, hu, he⟩ := ob_eq he
    obtain ⟨vs, e, he2⟩ := onTup_eq he
    subst e
    obtain ⟨vs', ev, hvs⟩ := (hio _ _ _ ha hu).inv_tup
    rw [nth_eq] at he2
    obtain ⟨v', hv', hr⟩ := hvs.get he2
    refine ⟨v', ?_, hr⟩
    unfold execOp; rw [ho]
    refine run_v ?_
    simp only [ev]
    unfold Instr.extract
    have : vs'[i]? = some v' := by simpa using hv'
    simp only [this]; rfl
  | call c =>
    rw [ho] at hc
    exact ok_call hio hk ho hc he w
  | _ => rw [ho] at hc; exact nomatch hc
end
end Go.Ev
end

section
/- Ev, part 18: the heap: what is born, what is written. -/
namespace Go.Ev
set_option linter.unusedSectionVars false
variable [F : Facts] [E : Env]
set_option linter.unusedSimpArgs false
set_option linter.unusedVariables false
variable {P : Program} {μ : Mu}

theorem ObjR.mono {μ μ' : Mu} (hle : μ.le μ') {d : Nat} {x : Option (Nat × Nat)} {o : AObj} {o' : Obj} (h : ObjR P μ d x o o') : ObjR P μ' d x o o' := by
  cases o <;> cases o' <;> simp only [ObjR] at h ⊢
  · obtain ⟨h1, h2, h3, h4, h5, h6, h7, h8, h9⟩ := h
    exact ⟨h1, h2, h3, h4, h5, fun i v hv => let ⟨a, b, v', c, e⟩ := h6 i v hv; ⟨a, b, v', c, e.mono hle⟩, h7, h8, h9⟩
  · exact ⟨h.1, h.2.mono fun a e h => ⟨h.1.mono hle, h.2.1.mono hle, h.2.2⟩⟩
  · obtain ⟨h1, h2, h3, h4, nt, h5, h6, h7, h8⟩ := h
    exact ⟨h1, h2, h3.mono hle, h4, nt, h5, h6, h7, h8⟩
  · exact h

theorem R.congr {A : AH} {w w' : World} (h : R P μ A w) (e : w'.heap = w.heap) : R P μ A w' :=
  { h with
    obj := fun b o m h1 h2 => by rw [e]; exact h.obj b o m h1 h2
    dom := fun b m h1 => by rw [e]; exact h.dom b m h1 }

theorem R.next_none {A : AH} {w : World} (h : R P μ A w) : μ A.next = none := by
  cases e : μ A.next with
  | none => rfl
  | some m => exact absurd (h.dom _ _ e).1 (Nat.lt_irrefl _)
theorem R.ge_none {A : AH} {w : World} (h : R P μ A w) {b : Nat} (hb : A.next ≤ b) : μ b = none := by
  cases e : μ b with
  | none => rfl
  | some m => exact absurd (h.dom _ _ e).1 (by omega)
theorem R.ge_dead {A : AH} {w : World} (h : R P μ A w) {b : Nat} (hb : A.next ≤ b) : A.objs.get b = none := by
  cases e : A.objs.get b with
  | none => rfl
  | some m => exact absurd (h.live _ _ e) (by omega)

/-- a block more in the abstract heap: not born yet -/
theorem R.newA {A : AH} {w : World} (h : R P μ A w) (o : AObj) : R P μ (A.new o) w := by
  have hn := h.next_none
  have get : ∀ b, (A.new o).objs.get b = if b = A.next then some o else A.objs.get b := fun b => by
    unfold AH.new; rw [T.get_put]
  have old : ∀ b m o', μ b = some m → (A.new o).objs.get b = some o' → A.objs.get b = some o' := by
    intro b m o' h1 h2
    rw [get] at h2
    split at h2
    · rename_i e; subst e; rw [hn] at h1; exact nomatch h1
    · exact h2
  exact {
    obj := fun b o' m h1 h2 => h.obj b o' m (old b m o' h2 h1) h2
    dom := fun b m h1 => ⟨Nat.lt_succ_of_lt (h.dom b m h1).1, (h.dom b m h1).2⟩
    live := fun b o' h1 => by
      rw [get] at h1
      split at h1
      · rename_i e; subst e; exact Nat.lt_succ_self _
      · exact Nat.lt_succ_of_lt (h.live b o' h1)
    glob := h.glob
    sep := fun b1 b2 o1 o2 m1 m2 hne h1 h2 h3 h4 e => h.sep b1 b2 o1 o2 m1 m2 hne (old _ _ _ h3 h1) (old _ _ _ h4 h2) h3 h4 e
    ord := fun ch l hl => (h.ord ch l hl).imp fun {b1 b2} hh o1 o2 m1 m2 h1 h2 h3 h4 e => hh o1 o2 m1 m2 (old _ _ _ h3 h1) (old _ _ _ h4 h2) h3 h4 e
    mem := h.mem }

def Mu.put (μ : Mu) (b : Nat) (m : Nat × Nat × Option (Nat × Nat)) : Mu := fun c => if c = b then some m else μ c
theorem Mu.put_same (μ : Mu) (b : Nat) (m : Nat × Nat × Option (Nat × Nat)) : μ.put b m b = some m := by simp [Mu.put]
theorem Mu.put_ne (μ : Mu) {b c : Nat} (m : Nat × Nat × Option (Nat × Nat)) (h : c ≠ b) : μ.put b m c = μ c := by simp [Mu.put, h]
theorem Mu.le_put {b : Nat} (m : Nat × Nat × Option (Nat × Nat)) (h : μ b = none) : μ.le (μ.put b m) := by
  intro c n hc
  by_cases e : c = b
  · subst e; rw [h] at hc; exact nomatch hc
  · rw [Mu.put_ne _ _ e]; exact hc

/-- a world with one block more -/
structure WNew (w w' : World) (o : Obj) : Prop where
  heap : w'.heap = w.heap.push o
  os : w'.os = w.os
  tape : w'.tape = w.tape
  output : w'.output = w.output

theorem WNew.get {w w' : World} {o : Obj} (h : WNew w w' o) {c : Nat} (hc : c < w.heap.size) : w'.heap[c]? = w.heap[c]? := by
  rw [h.heap, Array.getElem?_push]
  rw [if_neg (by omega)]
theorem WNew.last {w w' : World} {o : Obj} (h : WNew w w' o) : w'.heap[w.heap.size]? = some o := by
  rw [h.heap]; simp
theorem WNew.size {w w' : World} {o : Obj} (h : WNew w w' o) : w'.heap.size = w.heap.size + 1 := by
  rw [h.heap]; simp

/-- a block is born -/
theorem R.birth {A : AH} {w w' : World} (h : R P μ A w) {b : Nat} {o : AObj} {o' : Obj} {x : Option (Nat × Nat)} (hb : μ b = none) (ho : A.objs.get b = some o) (hw : WNew w w' o')
    (hr : ObjR P (μ.put b (w.heap.size, 0, x)) 0 x o o') : R P (μ.put b (w.heap.size, 0, x)) A w' := by
  have hle : μ.le (μ.put b (w.heap.size, 0, x)) := Mu.le_put _ hb
  have cases' : ∀ c m, (μ.put b (w.heap.size, 0, x)) c = some m → (c = b ∧ m = (w.heap.size, 0, x)) ∨ (c ≠ b ∧ μ c = some m) := by
    intro c m hc
    by_cases e : c = b
    · subst e; rw [Mu.put_same] at hc; injection hc with hc; exact .inl ⟨rfl, hc.symm⟩
    · rw [Mu.put_ne _ _ e] at hc; exact .inr ⟨e, hc⟩
  exact {
    obj := fun c p m h1 h2 => by
      rcases cases' c m h2 with ⟨rfl, rfl⟩ | ⟨hne, h3⟩
      · rw [ho] at h1; injection h1 with h1; subst h1
        exact ⟨o', hw.last, hr⟩
      · obtain ⟨p', h4, h5⟩ := h.obj c p m h1 h3
        exact ⟨p', by rw [hw.get (h.dom c m h3).2]; exact h4, h5.mono hle⟩
    dom := fun c m h1 => by
      rcases cases' c m h1 with ⟨rfl, rfl⟩ | ⟨hne, h3⟩
      · exact ⟨h.live _ _ ho, by rw [hw.size]; exact Nat.lt_succ_self _⟩
      · exact ⟨(h.dom c m h3).1, by rw [hw.size]; exact Nat.lt_succ_of_lt (h.dom c m h3).2⟩
    live := h.live
    glob := fun g hg => hle _ _ (h.glob g hg)
    sep := fun b1 b2 o1 o2 m1 m2 hne h1 h2 h3 h4 e => by
      rcases cases' b1 m1 h3 with ⟨rfl, rfl⟩ | ⟨hn1, k3⟩
      · rcases cases' b2 m2 h4 with ⟨rfl, rfl⟩ | ⟨hn2, k4⟩
        · exact absurd rfl hne
        · exact absurd (h.dom _ _ k4).2 (by rw [← e]; exact Nat.lt_irrefl _)
      · rcases cases' b2 m2 h4 with ⟨rfl, rfl⟩ | ⟨hn2, k4⟩
        · exact absurd (h.dom _ _ k3).2 (by rw [e]; exact Nat.lt_irrefl _)
        · exact h.sep b1 b2 o1 o2 m1 m2 hne h1 h2 k3 k4 e
    ord := fun ch l hl => (h.ord ch l hl).imp fun {b1 b2} hh o1 o2 m1 m2 h1 h2 h3 h4 e => by
      rcases cases' b1 m1 h3 with ⟨rfl, rfl⟩ | ⟨hn1, k3⟩
      · rcases cases' b2 m2 h4 with ⟨rfl, rfl⟩ | ⟨hn2, k4⟩
        · rw [h1] at h2; injection h2 with h2; subst h2; exact Nat.le_refl _
        · exact absurd (h.dom _ _ k4).2 (by rw [← e]; exact Nat.lt_irrefl _)
      · rcases cases' b2 m2 h4 with ⟨rfl, rfl⟩ | ⟨hn2, k4⟩
        · exact absurd (h.dom _ _ k3).2 (by rw [e]; exact Nat.lt_irrefl _)
        · exact hh o1 o2 m1 m2 h1 h2 k3 k4 e
    mem := fun ch l c hl hc e => by
      cases e2 : μ c with
      | none => exact h.mem ch l c hl hc e2
      | some m => rw [hle _ _ e2] at e; exact nomatch e }

theorem kept_birth {A : AH} {w w' : World} (h : R P μ A w) {b B : Nat} {o' : Obj} {x : Option (Nat × Nat)} (hb : μ b = none) (hB : B ≤ b) (hw : WNew w w' o') :
    Kept B μ (μ.put b (w.heap.size, 0, x)) A A w w' where
  le := Mu.le_put _ hb
  os := hw.os
  tape := hw.tape
  output := hw.output
  size := by rw [hw.size]; omega
  next := Nat.le_refl _
  block c hc _ := hw.get hc
  wr c hc := by
    rintro ⟨b1, m, o, h1, h2, h3, h4⟩
    by_cases e : b1 = b
    · subst e
      rw [Mu.put_same] at h1
      injection h1 with h1
      subst h1
      exact absurd h2 (by show ¬ w.heap.size = c; omega)
    · rw [Mu.put_ne _ _ e] at h1
      exact ⟨b1, m, o, h1, h2, h3, h4⟩
  unborn c hc hn := ⟨by rw [Mu.put_ne _ _ (by omega)]; exact hn, rfl⟩
  loops c L hc := ⟨L, by rw [hw.get]; exact hc; exact (Array.getElem?_eq_some_iff.1 hc).1, rfl⟩

theorem kept_newA (A : AH) (w : World) (o : AObj) (h : R P μ A w) : Kept A.next μ μ A (A.new o) w w where
  le := Mu.le_refl _
  os := rfl
  tape := rfl
  output := rfl
  size := Nat.le_refl _
  next := Nat.le_succ _
  block _ _ _ := rfl
  wr c hc := by
    rintro ⟨b1, m, o1, h1, h2, h3, h4⟩
    refine ⟨b1, m, o1, h1, h2, ?_, h4⟩
    unfold AH.new at h3
    rw [T.get_put, if_neg] at h3
    · exact h3
    · intro e
      subst e
      rw [h.next_none] at h1
      exact nomatch h1
  unborn b hb hn := ⟨hn, by unfold AH.new; exact T.get_put_ne _ _ (by omega)⟩
  loops c L hc := ⟨L, hc, rfl⟩

theorem get_new (A : AH) (o : AObj) : (A.new o).objs.get A.next = some o := by
  unfold AH.new; exact T.get_put_same _ _ _

/-- made and born at once -/
theorem R.made {A : AH} {w w' : World} (h : R P μ A w) {o : AObj} {o' : Obj} {x : Option (Nat × Nat)} (hw : WNew w w' o') (hr : ObjR P (μ.put A.next (w.heap.size, 0, x)) 0 x o o') :
    R P (μ.put A.next (w.heap.size, 0, x)) (A.new o) w' ∧ Kept A.next μ (μ.put A.next (w.heap.size, 0, x)) A (A.new o) w w' :=
  ⟨(h.newA o).birth h.next_none (get_new A o) hw hr, (kept_newA A w o h).trans (kept_birth (h.newA o) h.next_none (Nat.le_refl _) hw)⟩

/-! ### what is read -/
theorem R.cell {A : AH} {w : World} (h : R P μ A w) {b o : Nat} {v : AV} {b' d : Nat} {x : Option (Nat × Nat)} (hv : A.cell b o = some v) (hm : μ b = some (b', d, x)) :
    ∃ v', w.cell? ⟨b', d + o, none⟩ = some v' ∧ VR μ v v' ∧ oneA v = true := by
  obtain ⟨ob', ho, hv⟩ := ob_eq hv
  obtain ⟨n, c, e, ex, md, fz, ch, rfl, hv⟩ := onCells_eq hv
  obtain ⟨o', h1, h2⟩ := h.obj b _ _ ho hm
  cases o' with
  | cells cs e' fr =>
    obtain ⟨_, _, _, _, _, h6, _⟩ := h2
    obtain ⟨hlt, h1v, v', hv', hr⟩ := h6 o v hv
    refine ⟨v', ?_, hr, h1v⟩
    unfold World.cell?
    simp only [h1]
    exact hv'
  | _ => exact h2.elim

theorem trRange_get : ∀ {t : T AV} {n o : Nat} {l : List AV}, trRange t n o = some l → l.length = n ∧ ∀ (i : Nat) v, l[i]? = some v → t.get (o + i) = some v := by
  intro t n
  induction n with
  | zero =>
    intro o l h
    injection h with h
    subst h
    exact ⟨rfl, fun i v hv => by simp at hv⟩
  | succ n ih =>
    intro o l h
    obtain ⟨v, hv, h⟩ := ob_eq (show ob _ _ = _ from h)
    obtain ⟨vs, hvs, h⟩ := ob_eq h
    injection h with h
    subst h
    obtain ⟨h1, h2⟩ := ih hvs
    refine ⟨by simp [h1], fun i u hu => ?_⟩
    cases i with
    | zero => simp at hu; subst hu; exact hv
    | succ i =>
      simp at hu
      have := h2 i u hu
      rw [show o + (i + 1) = Nat.succ o + i from by omega]
      exact this

theorem range_get {c : Cells} {o n m : Nat} {l : List AV} (h : c.range o n m = some l) (hl : ∀ k, c = .lst k → k.length = m) :
    l.length = n ∧ ∀ (i : Nat) v, l[i]? = some v → c.get (o + i) = some v := by
  cases c with
  | tr t => exact trRange_get h
  | lst k =>
    have hk := hl k rfl
    replace h : Cells.lstRange k o n m = some l := h
    unfold Cells.lstRange at h
    rw [bif2_eq, ba_eq, nbeq_eq, nbeq_eq] at h
    split at h
    · rename_i hc
      simp at hc
      obtain ⟨rfl, rfl⟩ := hc
      injection h with h
      subst h
      exact ⟨hk, fun i v hv => by show nth _ _ = _; rw [nth_eq, Nat.zero_add]; exact hv⟩
    · obtain ⟨hle, h⟩ := ot_eq h
      rw [nle_eq, decide_eq_true_eq] at hle
      replace hle : o + n ≤ m := hle
      injection h with h
      rw [takeN_eq, dropN_eq] at h
      subst h
      refine ⟨by simp; omega, fun i v hv => ?_⟩
      show nth _ _ = _
      rw [nth_eq]
      rw [List.getElem?_take] at hv
      split at hv
      · rw [List.getElem?_drop] at hv; exact hv
      · exact nomatch hv

theorem R.cellsOf {A : AH} {w : World} (h : R P μ A w) {b o n : Nat} {l : List AV} {b' d : Nat} {x : Option (Nat × Nat)} (hv : A.cellsOf b o n = some l) (hm : μ b = some (b', d, x)) :
    ∃ l' : List Value, VRs μ l l' ∧ l.length = n ∧ (∀ v ∈ l, oneA v = true) ∧ ∀ i v', l'[i]? = some v' → w.cell? ⟨b', d + (o + i), none⟩ = some v' := by
  obtain ⟨ob', ho, hv⟩ := ob_eq hv
  obtain ⟨m, c, e, ex, md, fz, ch, rfl, hv⟩ := onCells_eq hv
  obtain ⟨o', h1, h2⟩ := h.obj b _ _ ho hm
  cases o' with
  | cells cs e' fr =>
    obtain ⟨_, _, _, _, h5, h6, _⟩ := h2
    obtain ⟨hlen, hget⟩ := range_get hv h5
    have key : ∀ (i : Nat) v, l[i]? = some v → oneA v = true ∧ ∃ v', w.cell? ⟨b', d + (o + i), none⟩ = some v' ∧ VR μ v v' := by
      intro i v hi
      obtain ⟨hlt, h1v, v', hv', hr⟩ := h6 _ _ (hget i v hi)
      refine ⟨h1v, v', ?_, hr⟩
      unfold World.cell?
      simp only [h1]
      exact hv'
    refine ⟨(List.range l.length).map fun i => (w.cell? ⟨b', d + (o + i), none⟩).getD undef, ?_, hlen, ?_, ?_⟩
    · refine All2.of_get (by simp) fun i a b' ha hb => ?_
      obtain ⟨_, v', hc, hr⟩ := key i a ha
      simp only [List.getElem?_map, List.getElem?_range (List.getElem?_eq_some_iff.1 ha).1, Option.map_some, Option.some.injEq] at hb
      rw [hc] at hb
      subst hb
      exact hr
    · intro v hv
      obtain ⟨i, hi⟩ := List.getElem?_of_mem hv
      exact (key i v hi).1
    · intro i v' hi
      have hlt : i < l.length := by
        have := (List.getElem?_eq_some_iff.1 hi).1
        simpa using this
      obtain ⟨_, u, hc, hr⟩ := key i l[i] (List.getElem?_eq_getElem hlt)
      simp only [List.getElem?_map, List.getElem?_range hlt, Option.map_some, Option.some.injEq] at hi
      rw [hc] at hi
      subst hi
      exact hc
  | _ => exact h2.elim
end Go.Ev
end

section
/- Ev, part 19: operations that read. -/
namespace Go.Ev
set_option linter.unusedSectionVars false
variable [F : Facts] [E : Env]
set_option linter.unusedSimpArgs false
set_option linter.unusedVariables false
variable {P : Program} {μ : Mu}
variable {wr : WrT} {io : Opd → Option AV} {ρ : Operand → Value}

theorem run_load1 {w : World} {a : Addr} {v : Value} (h : w.cell? a = some v) : (load a).run P w = .ok v w := by
  unfold load
  simp only [Sem.run, h]
theorem run_loads {w : World} {b' k : Nat} {l : List Value} (h : ∀ (i : Nat) v, l[i]? = some v → w.cell? ⟨b', k + i, none⟩ = some v) :
    (loadCells ⟨b', k, none⟩ l.length).run P w = .ok l.toArray w := by
  refine run_loadCells_list w _ l fun j v hv => ?_
  have := h j v hv
  have e : (⟨b', k, none⟩ : Addr).add j = ⟨b', k + j, none⟩ := by unfold Addr.add; split <;> simp_all
  rw [e]; exact this

theorem noL_a {a : AOp} {q : LOp} (h : some (IOp.a a) = some (IOp.l q)) : False := by injection h with h; exact IOp.noConfusion h
theorem noL_p {a : POp} {q : LOp} (h : some (IOp.p a) = some (IOp.l q)) : False := by injection h with h; exact IOp.noConfusion h
theorem noL_w {a : WOp} {q : LOp} (h : some (IOp.w a) = some (IOp.l q)) : False := by injection h with h; exact IOp.noConfusion h
theorem inj_l {a b : LOp} (h : (some (IOp.l a)) = some (IOp.l b)) : a = b := by injection h with h; injection h

theorem VR.inv_map {b : Nat} {v : Value} (h : VR μ (.map b) v) : ∃ b' d x, μ b = some (b', d, x) ∧ v = .map (some b') := by
  cases h with
  | map h => exact ⟨_, _, _, h, rfl⟩
theorem VR.inv_nilm {v : Value} (h : VR μ .nilm v) : v = .map none := by cases h; rfl

theorem R.mapAt {A : AH} {w : World} (h : R P μ A w) {b : Nat} {es : List (AV × AV × Nat)} {c : Nat} {b' d : Nat} {x : Option (Nat × Nat)} (ho : A.obj b = some (.map es c)) (hm : μ b = some (b', d, x)) :
    ∃ es' : Array MapEntry, w.heap[b']? = some (.map es' c) ∧ All2 (fun a e => VR μ a.1 e.key ∧ VR μ a.2.1 e.val ∧ a.2.2 = e.born) es es'.toList := by
  obtain ⟨o', h1, h2⟩ := h.obj b _ _ ho hm
  cases o' with
  | map es' c' =>
    obtain ⟨rfl, h3⟩ := h2
    exact ⟨es', h1, h3⟩
  | _ => exact h2.elim
theorem run_getObj {w : World} {r : Nat} {o : Obj} (h : w.heap[r]? = some o) (hc : ∀ c e f, o ≠ .cells c e f) : (getObj r).run P w = .ok o w := by
  unfold getObj
  cases o <;> first | exact absurd rfl (hc _ _ _) | simp only [Sem.run, h]

/-- keys -/
theorem sameNow_ok {kt : TypeId} {ek : EK} {d : TypeDesc} (hd : und (ttOf P) kt = some d) (hk : ekD d = some ek) {x y : AV} {x' y' : Value} {b : Bool} (h : keyEq P (ttOf P) kt ek x y = some b) (hx : VR μ x x') (hy : VR μ y y') :
    ((∀ fs, d ≠ .struct fs) ∧ Instr.sameNow d x' y' = some b) ∨ ((∃ fs, d = .struct fs) ∧ Instr.sameNow d x' y' = none ∧ ∀ w, (Op.equal kt x' y').run P w = .ok b w) := by
  unfold keyEq at h
  split at h
  · obtain ⟨k, a, e, h1⟩ := onInt_eq h
    obtain ⟨k2, a2, e2, h2⟩ := onInt_eq h1
    subst e; subst e2
    obtain ⟨hkk, h3⟩ := ot_eq h2
    rw [keq_eq, decide_eq_true_eq] at hkk
    subst hkk
    injection h3 with h3
    have e1 := hx.inv_int; have e2 := hy.inv_int; subst e1; subst e2
    cases d <;> simp [ekD] at hk
    left
    exact ⟨(fun _ h => nomatch h), by simp [Instr.sameNow, ← h3, ieq_eq]⟩
  · obtain ⟨l, n, e, h1⟩ := onStr_eq h
    obtain ⟨l2, n2, e2, h2⟩ := onStr_eq h1
    subst e; subst e2
    injection h2 with h3
    obtain ⟨s, rfl, rfl, rfl⟩ := hx.inv_str
    obtain ⟨s2, rfl, rfl, rfl⟩ := hy.inv_str
    cases d <;> simp [ekD] at hk
    left
    rw [seqS_eq] at h3
    exact ⟨(fun _ h => nomatch h), by simp only [Instr.sameNow, bytes_beq]; rw [h3]⟩
  · obtain ⟨a, e, h1⟩ := onBool_eq h
    obtain ⟨a2, e2, h2⟩ := onBool_eq h1
    subst e; subst e2
    injection h2 with h3
    have e1 := hx.inv_bool; have e2 := hy.inv_bool; subst e1; subst e2
    cases d <;> simp [ekD] at hk
    left
    rw [beqB_eq] at h3
    exact ⟨(fun _ h => nomatch h), by simp only [Instr.sameNow]; rw [h3]⟩
  · obtain ⟨cs, e, h1⟩ := onAgg_eq h
    obtain ⟨cs2, e2, h3⟩ := onAgg_eq h1
    subst e; subst e2
    cases d <;> simp [ekD] at hk
    right
    refine ⟨⟨_, rfl⟩, ?_, fun w => equal_ok _ _ _ _ _ _ _ w h3 hx hy⟩
    obtain ⟨c1, rfl, _, _⟩ := hx.inv_agg
    obtain ⟨c2, rfl, _, _⟩ := hy.inv_agg
    rfl
  · exact nomatch h

/-- what was found -/
def FoundR (μ : Mu) (es' : List MapEntry) (off : Nat) : Option (Nat × AV × AV) → Option (Nat × Value) → Prop
  | none, none => True
  | some (i, k, v), some (i', v') => i = i' ∧ VR μ v v' ∧ off ≤ i ∧ ∃ e, es'[i - off]? = some e ∧ VR μ k e.key ∧ e.val = v'
  | _, _ => False

theorem findK_ok {kt : TypeId} {ek : EK} {d : TypeDesc} (hd : und (ttOf P) kt = some d) (hk : ekD d = some ek) {x : AV} {x' : Value} (hx : VR μ x x') (w : World) :
    ∀ {es : List (AV × AV × Nat)} {es' : List MapEntry} {i : Nat} {r : Option (Nat × AV × AV)}, findK1 P (ttOf P) kt ek x es i = some r → All2 (fun a e => VR μ a.1 e.key ∧ VR μ a.2.1 e.val ∧ a.2.2 = e.born) es es' →
      ∃ r', FoundR μ es' i r r' ∧ (((∀ fs, d ≠ .struct fs) ∧ Instr.findNow d x' es' i = some r') ∨ ((∃ fs, d = .struct fs) ∧ (es' ≠ [] → Instr.findNow d x' es' i = none) ∧ (es' = [] → Instr.findNow d x' es' i = some none ∧ r' = none) ∧ (Instr.findAsking kt x' es' i).run P w = .ok r' w)) := by
  intro es
  induction es with
  | nil =>
    intro es' i r h hes
    cases hes
    injection h with h
    subst h
    refine ⟨none, trivial, ?_⟩
    by_cases hs : ∃ fs, d = .struct fs
    · exact .inr ⟨hs, fun h => absurd rfl h, fun _ => ⟨rfl, rfl⟩, rfl⟩
    · exact .inl ⟨fun fs e => hs ⟨fs, e⟩, rfl⟩
  | cons e es ih =>
    intro es' i r h hes
    cases hes with
    | cons he hes =>
    rename_i e' es'
    obtain ⟨b, hb, h⟩ := ob_eq (show ob _ _ = _ from h)
    have hsame := sameNow_ok hd hk hb hx he.1
    rw [bif2_eq] at h
    split at h
    · rename_i hbt
      subst hbt
      injection h with h
      subst h
      refine ⟨some (i, e'.val), ⟨rfl, he.2.1, Nat.le_refl _, e', by simp, he.1, rfl⟩, ?_⟩
      rcases hsame with ⟨hn, hs⟩ | ⟨hs, h1, h2⟩
      · left
        exact ⟨hn, by simp only [Instr.findNow, hs]⟩
      · right
        refine ⟨hs, fun _ => by simp only [Instr.findNow, h1], (fun h => nomatch h), ?_⟩
        unfold Instr.findAsking
        rw [run_ok (h2 w)]; rfl
    · rename_i hbf
      have hbf' : b = false := by simpa using hbf
      subst hbf'
      obtain ⟨r', hf, hr⟩ := ih h hes
      have hf' : FoundR μ (e' :: es') i r r' := by
        cases r with
        | none => cases r' with
          | none => trivial
          | some _ => exact hf.elim
        | some q => cases r' with
          | none => exact hf.elim
          | some q' =>
            obtain ⟨h1, h2, h3, e1, h4, h5, h6⟩ := hf
            refine ⟨h1, h2, by omega, e1, ?_, h5, h6⟩
            have : q.1 - i = (q.1 - (i + 1)) + 1 := by omega
            rw [this]; simpa using h4
      refine ⟨r', hf', ?_⟩
      rcases hsame with ⟨hn, hs⟩ | ⟨hs, h1, h2⟩
      · rcases hr with ⟨_, hr⟩ | ⟨⟨fs, hst⟩, _⟩
        · left
          exact ⟨hn, by simp only [Instr.findNow, hs]; exact hr⟩
        · exact absurd hst (hn fs)
      · rcases hr with ⟨hn, _⟩ | ⟨_, _, _, hr⟩
        · obtain ⟨fs, hst⟩ := hs
          exact absurd hst (hn fs)
        · right
          refine ⟨hs, fun _ => by simp only [Instr.findNow, h1], (fun h => nomatch h), ?_⟩
          unfold Instr.findAsking
          rw [run_ok (h2 w)]
          exact hr

theorem findKey_ok {kt : TypeId} {x : AV} {x' : Value} (hx : VR μ x x') (w : World) {es : List (AV × AV × Nat)} {es' : List MapEntry} {r : Option (Nat × AV × AV)} (h : findK P (ttOf P) kt x es 0 = some r)
    (hes : All2 (fun a e => VR μ a.1 e.key ∧ VR μ a.2.1 e.val ∧ a.2.2 = e.born) es es') : ∃ r', FoundR μ es' 0 r r' ∧ (Instr.findKey kt x' es').run P w = .ok r' w := by
  obtain ⟨ek, hek, h⟩ := ob_eq h
  obtain ⟨d, hd, hk⟩ := ekOf_eq hek
  obtain ⟨r', hf, hr⟩ := findK_ok hd hk hx w h hes
  refine ⟨r', hf, ?_⟩
  unfold Instr.findKey
  rw [run_ok (run_und hd w)]
  rcases hr with ⟨_, hr⟩ | ⟨_, h1, h2, hr⟩
  · simp only [hr]; rfl
  · cases es' with
    | nil =>
      obtain ⟨h3, h4⟩ := h2 rfl
      simp only [h3, h4]; rfl
    | cons e es' =>
      simp only [h1 (by simp)]
      exact hr

theorem bytesSum_ok : ∀ {l : List AV} {l' : List Value} {n : Nat}, bytesSum l = some n → VRs μ l l' → ∃ bs : List UInt8, l' = bs.map (fun b => Value.int .u8 (b.toNat : Int)) ∧ bytesNum bs = n ∧ bs.length = l.length := by
  intro l
  induction l with
  | nil =>
    intro l' n h hr
    cases hr
    injection h with h
    subst h
    exact ⟨[], rfl, rfl, rfl⟩
  | cons v l ih =>
    intro l' n h hr
    cases hr with
    | cons hv hl =>
    unfold bytesSum at h
    rw [lrec_cons] at h
    split at h
    · rename_i m
      obtain ⟨k, b, e, h1⟩ := onNat_eq h
      injection e with e1 e2
      subst e1; subst e2
      obtain ⟨hlt, h2⟩ := ot_eq h1
      rw [nlt_eq, decide_eq_true_eq] at hlt
      obtain ⟨n', hn, h3⟩ := ob_eq h2
      injection h3 with h3
      obtain ⟨bs, h4, h5, h6⟩ := ih hn hl
      have e := hv.inv_int
      refine ⟨UInt8.ofNat b :: bs, ?_, ?_, by simp [h6]⟩
      · rw [e, h4]
        have : (UInt8.ofNat b).toNat = b := by simp; omega
        simp [this]
      · rw [bytesNum_cons, h5, ← h3]
        have : (UInt8.ofNat b).toNat = b := by simp; omega
        rw [this]; rfl
    · exact nomatch h

theorem fold_push : ∀ (bs : List UInt8) (s : ByteArray), (bs.map fun b => (b.toNat : Int)).foldl (fun r n => r.push (UInt8.ofNat n.toNat)) s = ⟨s.data ++ bs.toArray⟩ := by
  intro bs
  induction bs with
  | nil => intro s; simp
  | cons b bs ih =>
    intro s
    rw [List.map_cons, List.foldl_cons, ih]
    congr 1
    have e : UInt8.ofNat ((b.toNat : Int)).toNat = b := by simp
    rw [e]
    apply Array.ext'
    simp [ByteArray.push]
theorem run_bytesToStr {w : World} {a : Addr} {c : Nat} {bs : List UInt8} (h : (loadCells a bs.length).run P w = .ok (bs.map (fun b => Value.int .u8 (b.toNat : Int))).toArray w) :
    (Conv.bytesToString (.slice (some a) bs.length c)).run P w = .ok (.string ⟨bs.toArray⟩) w := by
  have := run_bytesToString (P := P) w a bs.length c (bs.map fun b => (b.toNat : Int)) (by rw [h, List.map_map]; rfl)
  rw [this, fold_push]
  congr 3
  simp

theorem strOf_ok {A : AH} {w : World} (hR : R P μ A w) {b o len : Nat} {v : AV} (h : strOf A b o len = some v) {b' d : Nat} {x : Option (Nat × Nat)} (hm : μ b = some (b', d, x)) :
    ∃ bs : List UInt8, bs.length = len ∧ VR μ v (.string ⟨bs.toArray⟩) ∧ (loadCells ⟨b', d + o, none⟩ len).run P w = .ok (bs.map (fun b => Value.int .u8 (b.toNat : Int))).toArray w ∧
      (∀ (i : Nat) u, bs[i]? = some u → w.cell? ⟨b', d + o + i, none⟩ = some (.int .u8 (u.toNat : Int))) := by
  obtain ⟨l, hl, h⟩ := ob_eq h
  obtain ⟨n, hn, h⟩ := ob_eq h
  injection h with h
  obtain ⟨l', hr, hlen, _, hcell⟩ := hR.cellsOf hl hm
  obtain ⟨bs, h1, h2, h3⟩ := bytesSum_ok hn hr
  have hcell' : ∀ (i : Nat) v', l'[i]? = some v' → w.cell? ⟨b', d + o + i, none⟩ = some v' := fun i v' hi => by
    rw [Nat.add_assoc]; exact hcell i v' hi
  refine ⟨bs, by rw [h3, hlen], ?_, ?_, ?_⟩
  · rw [← h]
    exact VR.str_of (by simp; omega) (by simp [h2])
  · have := run_loads (P := P) hcell'
    rw [← hr.length, hlen] at this
    rw [this, h1]
  · intro i u hu
    refine hcell' i _ ?_
    rw [h1, List.getElem?_map, hu]; rfl

section
variable (hio : IOR μ wr io ρ)
include hio

theorem load_ok {A : AH} {w : World} (hR : R P μ A w) (o : Oper) {q : LOp} {v : AV} (hc : compOp0 P (ttOf P) wr o.op = some (.l q)) (he : evL io P (ttOf P) A q = some v) : Gives P μ (execOp ρ o) w v := by
  cases ho : o.op with
  | load t a =>
    rw [ho] at hc
    obtain ⟨a', ha, hc⟩ := ob_eq hc
    obtain ⟨g, hg, hc⟩ := ob_eq hc
    rw [bif2_eq] at hc
    split at hc
    · rename_i hgt
      obtain ⟨n, hn, hc⟩ := ob_eq hc
      have hq := (inj_l hc).symm
      subst hq
      obtain ⟨u, hu, he⟩ := ob_eq he
      obtain ⟨b, o', e, he⟩ := onPtr_eq he
      subst e
      obtain ⟨cs, hcs, he⟩ := ob_eq he
      injection he with hev
      obtain ⟨b', d, x, hm, ex⟩ := (hio _ _ _ ha hu).inv_ptr
      obtain ⟨l', hr, hlen, h1, hcell⟩ := hR.cellsOf hcs hm
      refine ⟨.agg l'.toArray, ?_, by rw [← hev]; exact .agg (by simpa using hr) h1⟩
      unfold execOp; rw [ho]
      refine run_v ?_
      rw [ex]
      show (loadVar t ⟨b', d + o', none⟩).run P w = _
      unfold loadVar
      rw [run_ok (run_agg hg w), hgt]
      simp only [if_true]
      rw [run_ok (run_size hn w)]
      have := run_loads (P := P) (w := w) (b' := b') (k := d + o') (l := l') (fun i v' hi => by rw [Nat.add_assoc]; exact hcell i v' hi)
      rw [← hr.length, hlen] at this
      rw [run_ok this]; rfl
    · rename_i hgf
      have hgf' : g = false := by simpa using hgf
      subst hgf'
      have hq := (inj_l hc).symm
      subst hq
      obtain ⟨u, hu, he⟩ := ob_eq he
      obtain ⟨b, o', e, he⟩ := onPtr_eq he
      subst e
      obtain ⟨b', d, x, hm, ex⟩ := (hio _ _ _ ha hu).inv_ptr
      obtain ⟨v', hcell, hr, _⟩ := hR.cell he hm
      refine ⟨v', ?_, hr⟩
      unfold execOp; rw [ho]
      refine run_v ?_
      rw [ex]
      show (loadVar t ⟨b', d + o', none⟩).run P w = _
      unfold loadVar
      rw [run_ok (run_agg hg w)]
      simp only [Bool.false_eq_true, if_false]
      exact run_load1 hcell
  | lookup t x k ok =>
    rw [ho] at hc
    obtain ⟨x', hx, hc⟩ := ob_eq hc
    obtain ⟨k', hk, hc⟩ := ob_eq hc
    obtain ⟨d, hd, hc⟩ := ob_eq hc
    unfold kLookup1 at hc
    cases d with
    | map kt e =>
      obtain ⟨z, hz, hc⟩ := ob_eq hc
      have hq := (inj_l hc).symm
      subst hq
      obtain ⟨kv, hkv, he⟩ := ob_eq he
      obtain ⟨mv, hmv, he⟩ := ob_eq he
      have hkr := hio _ _ _ hk hkv
      have hmr := hio _ _ _ hx hmv
      obtain ⟨z', hz', hzr⟩ := zeroOf_run (P := P) hz μ w
      have fin : ∀ (es : List (AV × AV × Nat)) (es' : Array MapEntry), look1 P (ttOf P) kt z ok kv es = some v → All2 (fun a e => VR μ a.1 e.key ∧ VR μ a.2.1 e.val ∧ a.2.2 = e.born) es es'.toList →
          ∃ v', (do Instr.checkKey es'.isEmpty 10000 kt (ρ k)
                    let (v, ok') ← match ← Instr.findKey kt (ρ k) es'.toList with
                      | some (_, v) => pure (v, true)
                      | none => pure (← zeroValue e, false)
                    pure (if ok then .tuple #[v, .bool ok'] else v) : Sem Value).run P w = .ok v' w ∧ VR μ v v' := by
        intro es es' hl hes
        obtain ⟨hck, hl⟩ := ot_eq hl
        obtain ⟨r, hr, hl⟩ := ob_eq hl
        obtain ⟨r', hf, hrun⟩ := findKey_ok (P := P) hkr w hr hes
        rw [run_ok (key_ok es'.isEmpty 10000 kt kv (ρ k) w hck hkr)]
        rw [run_ok hrun]
        have okT : ∀ {a : AV} {a' : Value} (b : Bool), VR μ a a' → VR μ (okTup a b) (.tuple #[a', .bool b]) := fun b h => .tup (.cons h (.cons (.bool b) .nil))
        cases r with
        | none =>
          cases r' with
          | some _ => exact hf.elim
          | none =>
            injection hl with hl
            simp only
            rw [bif2_eq] at hl
            refine ⟨if ok then .tuple #[z', .bool false] else z', ?_, ?_⟩
            · rw [run_bind, hz']; rfl
            · rw [← hl]; cases ok
              · exact hzr
              · exact okT false hzr
        | some q =>
          obtain ⟨i, kk, vv⟩ := q
          cases r' with
          | none => exact hf.elim
          | some q' =>
            obtain ⟨i', v'⟩ := q'
            obtain ⟨_, hvr, _⟩ := hf
            injection hl with hl
            rw [bif2_eq] at hl
            refine ⟨if ok then .tuple #[v', .bool true] else v', rfl, ?_⟩
            rw [← hl]; cases ok
            · exact hvr
            · exact okT true hvr
      unfold Gives
      have hexec : (execOp ρ o).run P w = (do pure (.value (← Instr.lookup t (ρ x) (ρ k) ok)) : Sem Next).run P w := by unfold execOp; rw [ho]
      rw [hexec]
      rcases onMap_eq he with ⟨b, e1, he2⟩ | ⟨e1, he2⟩
      · subst e1
        obtain ⟨obj, hobj, he3⟩ := ob_eq he2
        obtain ⟨es, c, e2, he4⟩ := onMapO_eq he3
        subst e2
        obtain ⟨b', d', xx, hm, ex⟩ := hmr.inv_map
        obtain ⟨es', hheap, hes⟩ := hR.mapAt hobj hm
        obtain ⟨v', h1, h2⟩ := fin es es' he4 hes
        refine ⟨v', run_v ?_, h2⟩
        unfold Instr.lookup
        rw [run_ok (run_und hd w), ex]
        show (getObj b' >>= fun o => _).run P w = _
        rw [run_ok (run_getObj hheap (fun _ _ _ h => nomatch h))]
        exact h1
      · subst e1
        have ex := hmr.inv_nilm
        obtain ⟨v', h1, h2⟩ := fin [] #[] he2 .nil
        refine ⟨v', run_v ?_, h2⟩
        unfold Instr.lookup
        rw [run_ok (run_und hd w), ex]
        exact h1
    | _ => exact nomatch hc
  | convert s d x =>
    rw [ho] at hc
    obtain ⟨a, ha, hc⟩ := ob_eq hc
    obtain ⟨ds, hds, hc⟩ := ob_eq hc
    obtain ⟨dd, hdd, hc⟩ := ob_eq hc
    unfold kConv1 at hc
    split at hc
    · exact (noL_p hc).elim
    · exact (noL_p hc).elim
    · exact (noL_p hc).elim
    · obtain ⟨_, _, hc⟩ := ob_eq hc
      obtain ⟨_, hc⟩ := ot_eq hc
      obtain ⟨_, _, hc⟩ := ob_eq hc
      obtain ⟨_, hc⟩ := ot_eq hc
      exact (noL_a hc).elim
    · rename_i e
      obtain ⟨de, hde, hc⟩ := ob_eq hc
      obtain ⟨hb, hc⟩ := ot_eq hc
      have hq := (inj_l hc).symm
      subst hq
      have hde' : de = .int .u8 := by
        unfold isByte at hb
        split at hb
        · rfl
        · exact nomatch hb
      subst hde'
      obtain ⟨u, hu, he⟩ := ob_eq he
      have hr := hio _ _ _ ha hu
      have hexec : (execOp ρ o).run P w = (do pure (.value (← convert s d (ρ x))) : Sem Next).run P w := by unfold execOp; rw [ho]
      unfold Gives
      rw [hexec]
      have hu1 := und_eq hds
      have hu2 := und_eq hdd
      have hu3 := und_eq hde
      rcases onSl_eq he with ⟨b, o', len, cap, e1, he2⟩ | ⟨e1, he2⟩
      · subst e1
        obtain ⟨b', d', x', hm, hv⟩ := hr.inv_sl
        rcases hv with ⟨cap', ev, _, _⟩ | ⟨o2, cap', _, _, h0, _, ev⟩
        · obtain ⟨bs, h1, h2, h3, _⟩ := strOf_ok hR he2 hm
          refine ⟨_, run_v ?_, h2⟩
          rw [ev, run_convert_bytes_string w s d _ _ _ _ hu1 hu3 hu2, ← h1]
          exact run_bytesToStr (by rw [h1]; exact h3)
        · subst h0
          obtain ⟨l, hl, h⟩ := ob_eq he2
          obtain ⟨n, hn, h⟩ := ob_eq h
          injection h with hev
          obtain ⟨l', hr', hlen, _, hcell⟩ := hR.cellsOf hl hm
          have hl0 : l = [] := List.eq_nil_of_length_eq_zero hlen
          subst hl0
          injection hn with hn
          refine ⟨.string .empty, run_v ?_, by rw [← hev, ← hn]; exact VR.str_of rfl rfl⟩
          rw [ev, run_convert_bytes_string w s d _ _ _ _ hu1 hu3 hu2]
          rfl
      · subst e1
        injection he2 with hev
        have ev := hr.inv_nils
        refine ⟨.string .empty, run_v ?_, by rw [← hev]; exact VR.str_of rfl rfl⟩
        rw [ev, run_convert_bytes_string w s d _ _ _ _ hu1 hu3 hu2]
        rfl
    · exact nomatch hc
  | call c =>
    rw [ho] at hc
    obtain ⟨as, has, hc⟩ := ob_eq hc
    unfold kCallee at hc
    split at hc
    · exact (noL_w hc).elim
    · obtain ⟨f, _, hc⟩ := ob_eq hc
      exact (noL_w hc).elim
    · obtain ⟨f, _, hc⟩ := ob_eq hc
      exact (noL_w hc).elim
    · rename_i b hb
      have hrun := call_builtin (P := P) (ρ := ρ) ho hb w
      unfold Gives
      rw [hrun]
      unfold kBuiltin at hc
      split at hc
      · exact (noL_p hc).elim
      · split at hc
        · rename_i x t hts
          obtain ⟨d, hd, hc⟩ := ob_eq hc
          obtain ⟨ox, hox, hxx⟩ := opnds_one has
          have ea := one_arr hox
          have et := one_arr hts
          rw [ea, et, map_one]
          unfold kBuiltin1 at hc
          split at hc
          · unfold kLen at hc
            cases d with
            | map kt e =>
              have hq := (inj_l hc).symm
              subst hq
              obtain ⟨u, hu, he⟩ := ob_eq he
              have hr := hio _ _ _ hxx hu
              rcases onMap_eq he with ⟨bb, e1, he2⟩ | ⟨e1, he2⟩
              · subst e1
                obtain ⟨obj, hobj, he3⟩ := ob_eq he2
                obtain ⟨es, cl, e2, he4⟩ := onMapO_eq he3
                subst e2
                injection he4 with hev
                obtain ⟨b', d', xx, hm, ex⟩ := hr.inv_map
                obtain ⟨es', hheap, hes⟩ := hR.mapAt hobj hm
                refine ⟨goInt es'.size, run_v ?_, ?_⟩
                · rw [ex]
                  show (underlying t >>= fun d => _).run P w = _
                  rw [run_ok (run_und hd w)]
                  show (getObj b' >>= fun o => _).run P w = _
                  rw [run_ok (run_getObj hheap (fun _ _ _ h => nomatch h))]
                  rfl
                · rw [← hev, len_eq, hes.length]
                  show VR μ (.int .i64 (Int.ofNat es'.toList.length)) (goInt es'.size)
                  rw [Array.length_toList]
                  exact .int _ _
              · subst e1
                injection he2 with hev
                have ex := hr.inv_nilm
                refine ⟨goInt 0, run_v ?_, by rw [← hev]; exact .int _ _⟩
                rw [ex]
                show (underlying t >>= fun d => _).run P w = _
                rw [run_ok (run_und hd w)]; rfl
            | string => exact (noL_p hc).elim
            | slice _ => exact (noL_p hc).elim
            | array _ _ => exact (noL_p hc).elim
            | _ => exact nomatch hc
          · obtain ⟨_, hc⟩ := ot_eq hc
            exact (noL_p hc).elim
          · exfalso
            unfold kClear1 at hc
            cases d with
            | slice e =>
              obtain ⟨z, _, hc⟩ := ob_eq hc
              obtain ⟨n, _, hc⟩ := ob_eq hc
              obtain ⟨_, hc⟩ := ot_eq hc
              exact noL_w hc
            | _ => exact nomatch hc
          · exact (noL_p hc).elim
          · exact nomatch hc
        · rename_i x y t u hts
          obtain ⟨d, hd, hc⟩ := ob_eq hc
          obtain ⟨d2, hd2, hc⟩ := ob_eq hc
          exfalso
          unfold kBuiltin2 at hc
          split at hc
          · unfold kAppend1 at hc
            split at hc
            · obtain ⟨i, _, hc⟩ := ob_eq hc
              obtain ⟨z, _, hc⟩ := ob_eq hc
              obtain ⟨_, hc⟩ := ot_eq hc
              exact noL_w hc
            · obtain ⟨i, _, hc⟩ := ob_eq hc
              obtain ⟨z, _, hc⟩ := ob_eq hc
              obtain ⟨_, hc⟩ := ot_eq hc
              exact noL_w hc
            · exact nomatch hc
          · unfold kCopy1 at hc
            split at hc
            · obtain ⟨i, _, hc⟩ := ob_eq hc
              obtain ⟨_, hc⟩ := ot_eq hc
              exact noL_w hc
            · exact nomatch hc
          · unfold kDelete1 at hc
            split at hc
            · exact noL_w hc
            · exact nomatch hc
          · unfold kUnsafeStr1 at hc
            split at hc
            · obtain ⟨i, _, hc⟩ := ob_eq hc
              obtain ⟨_, hc⟩ := ot_eq hc
              exact noL_w hc
            · exact nomatch hc
          · exact nomatch hc
        · exact nomatch hc
  | move x =>
    rw [ho] at hc
    obtain ⟨_, _, hc⟩ := ob_eq hc
    exact (noL_p hc).elim
  | assign x =>
    rw [ho] at hc
    obtain ⟨_, _, hc⟩ := ob_eq hc
    exact (noL_p hc).elim
  | pick c a b =>
    rw [ho] at hc
    obtain ⟨_, _, hc⟩ := ob_eq hc
    obtain ⟨_, _, hc⟩ := ob_eq hc
    obtain ⟨_, _, hc⟩ := ob_eq hc
    exact (noL_p hc).elim
  | nilCheck x =>
    rw [ho] at hc
    obtain ⟨_, _, hc⟩ := ob_eq hc
    exact (noL_p hc).elim
  | unOp op t x =>
    rw [ho] at hc
    obtain ⟨_, _, hc⟩ := ob_eq hc
    exact (noL_p hc).elim
  | extract x i =>
    rw [ho] at hc
    obtain ⟨_, _, hc⟩ := ob_eq hc
    exact (noL_p hc).elim
  | alloc e =>
    rw [ho] at hc
    obtain ⟨_, _, hc⟩ := ob_eq hc
    exact (noL_a hc).elim
  | box e x =>
    rw [ho] at hc
    obtain ⟨_, _, hc⟩ := ob_eq hc
    exact (noL_a hc).elim
  | build t parts =>
    rw [ho] at hc
    obtain ⟨_, _, hc⟩ := ob_eq hc
    obtain ⟨d, _, hc⟩ := ob_eq hc
    cases d with
    | struct fs =>
      obtain ⟨_, _, hc⟩ := ob_eq hc
      obtain ⟨_, _, hc⟩ := ob_eq hc
      exact (noL_p hc).elim
    | array n e =>
      obtain ⟨_, _, hc⟩ := ob_eq hc
      obtain ⟨_, _, hc⟩ := ob_eq hc
      exact (noL_p hc).elim
    | _ => exact nomatch hc
  | buildSlice t n parts =>
    rw [ho] at hc
    obtain ⟨d, _, hc⟩ := ob_eq hc
    cases d with
    | slice e =>
      obtain ⟨_, _, hc⟩ := ob_eq hc
      obtain ⟨_, _, hc⟩ := ob_eq hc
      obtain ⟨_, _, hc⟩ := ob_eq hc
      obtain ⟨_, hc⟩ := ot_eq hc
      exact (noL_a hc).elim
    | _ => exact nomatch hc
  | store t a x =>
    rw [ho] at hc
    obtain ⟨_, _, hc⟩ := ob_eq hc
    obtain ⟨_, _, hc⟩ := ob_eq hc
    obtain ⟨_, _, hc⟩ := ob_eq hc
    obtain ⟨_, _, hc⟩ := ob_eq hc
    obtain ⟨_, hc⟩ := ot_eq hc
    exact (noL_w hc).elim
  | binOp op t x y yt =>
    rw [ho] at hc
    obtain ⟨_, _, hc⟩ := ob_eq hc
    obtain ⟨_, _, hc⟩ := ob_eq hc
    rw [bif2_eq] at hc
    split at hc
    · obtain ⟨d, _, hc⟩ := ob_eq hc
      cases d with
      | int k => exact (noL_p hc).elim
      | string => exact (noL_p hc).elim
      | _ =>
        obtain ⟨_, hc⟩ := ot_eq hc
        obtain ⟨_, _, hc⟩ := ob_eq hc
        exact (noL_p hc).elim
    · exact (noL_p hc).elim
  | makeInterface t x =>
    rw [ho] at hc
    obtain ⟨_, _, hc⟩ := ob_eq hc
    obtain ⟨_, _, hc⟩ := ob_eq hc
    obtain ⟨_, hc⟩ := ot_eq hc
    exact (noL_p hc).elim
  | makeFunc fn a b =>
    rw [ho] at hc
    obtain ⟨_, _, hc⟩ := ob_eq hc
    obtain ⟨_, _, hc⟩ := ob_eq hc
    obtain ⟨_, hc⟩ := ot_eq hc
    exact (noL_p hc).elim
  | makeMap t r =>
    rw [ho] at hc
    cases r with
    | none => exact (noL_a hc).elim
    | some _ => exact nomatch hc
  | makeSlice t l c =>
    rw [ho] at hc
    obtain ⟨_, _, hc⟩ := ob_eq hc
    obtain ⟨_, _, hc⟩ := ob_eq hc
    obtain ⟨d, _, hc⟩ := ob_eq hc
    cases d with
    | slice e =>
      obtain ⟨_, _, hc⟩ := ob_eq hc
      obtain ⟨_, _, hc⟩ := ob_eq hc
      exact (noL_a hc).elim
    | _ => exact nomatch hc
  | slice t x lo hi mx =>
    rw [ho] at hc
    obtain ⟨_, _, hc⟩ := ob_eq hc
    obtain ⟨_, _, hc⟩ := ob_eq hc
    obtain ⟨_, _, hc⟩ := ob_eq hc
    obtain ⟨_, _, hc⟩ := ob_eq hc
    obtain ⟨d, _, hc⟩ := ob_eq hc
    cases d with
    | string => obtain ⟨_, hc⟩ := ot_eq hc; exact (noL_p hc).elim
    | slice e => obtain ⟨_, _, hc⟩ := ob_eq hc; obtain ⟨_, hc⟩ := ot_eq hc; exact (noL_p hc).elim
    | array n e => obtain ⟨_, _, hc⟩ := ob_eq hc; obtain ⟨_, hc⟩ := ot_eq hc; exact (noL_p hc).elim
    | _ => exact nomatch hc
  | fieldAddr s x f =>
    rw [ho] at hc
    obtain ⟨_, _, hc⟩ := ob_eq hc
    obtain ⟨d, _, hc⟩ := ob_eq hc
    cases d with
    | struct fs =>
      obtain ⟨_, _, hc⟩ := ob_eq hc
      obtain ⟨_, _, hc⟩ := ob_eq hc
      obtain ⟨_, hc⟩ := ot_eq hc
      exact (noL_p hc).elim
    | _ => exact nomatch hc
  | field t x f =>
    rw [ho] at hc
    obtain ⟨_, _, hc⟩ := ob_eq hc
    obtain ⟨d, _, hc⟩ := ob_eq hc
    cases d with
    | struct fs =>
      obtain ⟨_, _, hc⟩ := ob_eq hc
      obtain ⟨_, _, hc⟩ := ob_eq hc
      obtain ⟨_, _, hc⟩ := ob_eq hc
      exact (noL_p hc).elim
    | _ => exact nomatch hc
  | indexAddr t x i =>
    rw [ho] at hc
    obtain ⟨_, _, hc⟩ := ob_eq hc
    obtain ⟨_, _, hc⟩ := ob_eq hc
    obtain ⟨d, _, hc⟩ := ob_eq hc
    cases d with
    | array n e => obtain ⟨_, _, hc⟩ := ob_eq hc; exact (noL_p hc).elim
    | slice e => obtain ⟨_, _, hc⟩ := ob_eq hc; exact (noL_p hc).elim
    | _ => exact nomatch hc
  | index t x i =>
    rw [ho] at hc
    obtain ⟨_, _, hc⟩ := ob_eq hc
    obtain ⟨_, _, hc⟩ := ob_eq hc
    obtain ⟨d, _, hc⟩ := ob_eq hc
    cases d with
    | array n e => obtain ⟨_, _, hc⟩ := ob_eq hc; obtain ⟨_, _, hc⟩ := ob_eq hc; exact (noL_p hc).elim
    | string => exact (noL_p hc).elim
    | _ => exact nomatch hc
  | mapUpdate t m k x =>
    rw [ho] at hc
    obtain ⟨_, _, hc⟩ := ob_eq hc
    obtain ⟨_, _, hc⟩ := ob_eq hc
    obtain ⟨_, _, hc⟩ := ob_eq hc
    obtain ⟨d, _, hc⟩ := ob_eq hc
    cases d with
    | map kt e => exact (noL_w hc).elim
    | _ => exact nomatch hc
  | insert t m k x =>
    rw [ho] at hc
    obtain ⟨_, _, hc⟩ := ob_eq hc
    obtain ⟨_, _, hc⟩ := ob_eq hc
    obtain ⟨_, _, hc⟩ := ob_eq hc
    obtain ⟨d, _, hc⟩ := ob_eq hc
    cases d with
    | map kt e => exact (noL_w hc).elim
    | _ => exact nomatch hc
  | range t x =>
    rw [ho] at hc
    obtain ⟨_, _, hc⟩ := ob_eq hc
    obtain ⟨d, _, hc⟩ := ob_eq hc
    obtain ⟨_, hc⟩ := ot_eq hc
    exact (noL_a hc).elim
  | next x s =>
    rw [ho] at hc
    obtain ⟨_, _, hc⟩ := ob_eq hc
    obtain ⟨_, hc⟩ := ot_eq hc
    exact (noL_w hc).elim
  | typeAssert x xt t ok =>
    rw [ho] at hc
    obtain ⟨_, _, hc⟩ := ob_eq hc
    obtain ⟨_, _, hc⟩ := ob_eq hc
    obtain ⟨_, _, hc⟩ := ob_eq hc
    obtain ⟨_, hc⟩ := ot_eq hc
    exact (noL_p hc).elim
  | _ => rw [ho] at hc; exact nomatch hc
end
end Go.Ev
end

section
/- Ev, part 20: operations that make memory. -/
namespace Go.Ev
set_option linter.unusedSectionVars false
variable [F : Facts] [E : Env]
set_option linter.unusedSimpArgs false
set_option linter.unusedVariables false
variable {P : Program} {μ : Mu}
variable {wr : WrT} {io : Opd → Option AV} {ρ : Operand → Value}

/-- an operation that makes one block -/
def Born (P : Program) (μ : Mu) (b : Nat) (w : World) (o : AObj) (v : AV) (s : Sem Next) : Prop :=
  ∃ o' v' w' x, s.run P w = .ok (.value v') w' ∧ WNew w w' o' ∧ VR (μ.put b (w.heap.size, 0, x)) v v' ∧ ObjR P (μ.put b (w.heap.size, 0, x)) 0 x o o'

def pushW (w : World) (o : Obj) : World := { w with heap := w.heap.push o }
theorem wnew_push (w : World) (o : Obj) : WNew w (pushW w o) o := ⟨rfl, rfl, rfl, rfl⟩
theorem run_newObj (o : Obj) (w : World) : (newObj o).run P w = .ok w.heap.size (pushW w o) := rfl
theorem run_newRow (e : TypeId) (cs : Array Value) (w : World) : (newRow e cs).run P w = .ok ⟨w.heap.size, 0, none⟩ (pushW w (.cells cs e)) := by
  unfold newRow
  rw [run_ok (run_newObj _ w)]; rfl

theorem lst_objR {μ' : Mu} {e : TypeId} {cs : List AV} {cs' : Array Value} {ch : Nat} (h : VRs μ' cs cs'.toList) (h1 : ∀ c ∈ cs, oneA c = true) :
    ObjR P μ' 0 none (.cells (len cs) (.lst cs) e true 0 0 ch) (.cells cs' e (0, 0)) := by
  have hl : cs.length = cs'.size := by simpa using h.length
  refine ⟨rfl, rfl, by rw [len_eq]; omega, ⟨rfl, fun _ => by rw [len_eq]; omega⟩, ?_, ?_, ?_, fun _ => .inl rfl, fun _ _ h => nomatch h⟩
  · intro l e; injection e with e; subst e; exact (len_eq _).symm
  · intro i v hv
    replace hv : nth cs i = some v := hv
    rw [nth_eq] at hv
    obtain ⟨v', hv', hr⟩ := h.get hv
    refine ⟨by rw [len_eq]; exact (List.getElem?_eq_some_iff.1 hv).1, h1 v (List.mem_of_getElem? hv), v', ?_, hr⟩
    rw [Nat.zero_add]; simpa using hv'
  · intro o _ h2 _; exact absurd h2 (Nat.not_lt_zero o)

theorem mod_rows {z : List Value} : ∀ (n : Nat), 0 < z.length → (List.range (n * z.length)).map (fun i => z[i % z.length]!) = (List.replicate n z).flatten := by
  intro n hz
  induction n with
  | zero => simp
  | succ n ih =>
    rw [List.replicate_succ', List.flatten_append, ← ih, Nat.succ_mul, List.range_add, List.map_append]
    congr 1
    rw [List.map_map]
    simp only [List.flatten_cons, List.flatten_nil, List.append_nil]
    apply List.ext_getElem?
    intro i
    by_cases hi : i < z.length
    · have hm : (n * z.length + i) % z.length = i := by
        rw [Nat.add_comm, Nat.add_mul_mod_self_right, Nat.mod_eq_of_lt hi]
      rw [List.getElem?_map, List.getElem?_range hi]
      simp only [Option.map_some, Function.comp, hm]
      rw [List.getElem?_eq_getElem hi, getElem!_pos z i hi]
    · rw [List.getElem?_eq_none (by simp; omega), List.getElem?_eq_none (by omega)]

theorem repeatTo_rel {z : List AV} {z' : List Value} (h : VRs μ z z') : ∀ n, VRs μ (repeatTo n z) (List.replicate n z').flatten := by
  intro n
  induction n with
  | zero => exact .nil
  | succ n ih =>
    show VRs μ (app z (repeatTo n z)) _
    rw [app_eq, List.replicate_succ, List.flatten_cons]
    exact h.append ih
theorem repeatTo_one {z : List AV} (h : ∀ c ∈ z, oneA c = true) : ∀ n, ∀ c ∈ repeatTo n z, oneA c = true := by
  intro n
  induction n with
  | zero => intro c hc; exact nomatch hc
  | succ n ih =>
    intro c hc
    replace hc : c ∈ app z (repeatTo n z) := hc
    rw [app_eq, List.mem_append] at hc
    exact hc.elim (h c) (ih c)

theorem noA_l {a : LOp} {q : AOp} (h : some (IOp.l a) = some (IOp.a q)) : False := by injection h with h; exact IOp.noConfusion h
theorem noA_p {a : POp} {q : AOp} (h : some (IOp.p a) = some (IOp.a q)) : False := by injection h with h; exact IOp.noConfusion h
theorem noA_w {a : WOp} {q : AOp} (h : some (IOp.w a) = some (IOp.a q)) : False := by injection h with h; exact IOp.noConfusion h
theorem inj_a {a b : AOp} (h : (some (IOp.a a)) = some (IOp.a b)) : a = b := by injection h with h; injection h

theorem IOR.mono {μ' : Mu} (hle : μ.le μ') (h : IOR μ wr io ρ) : IOR μ' wr io ρ := fun x a v h1 h2 => (h x a v h1 h2).mono hle

theorem zeroRange {z : Value} {size n : Nat} (hz : z.cells.size = size) (hs : 0 < size) : ((Array.range (n * size)).map (z.cells[· % z.cells.size]!)).toList = (List.replicate n z.cells.toList).flatten := by
  have : ((Array.range (n * size)).map (z.cells[· % z.cells.size]!)).toList = (List.range (n * z.cells.toList.length)).map (fun i => z.cells.toList[i % z.cells.toList.length]!) := by
    rw [Array.toList_map, Array.toList_range]
    subst hz
    have e : z.cells.toList.length = z.cells.size := Array.length_toList
    rw [e]
    apply List.map_congr_left
    intro a _
    have hlt : a % z.cells.size < z.cells.size := Nat.mod_lt _ hs
    rw [getElem!_pos z.cells _ hlt, getElem!_pos z.cells.toList _ (by simpa using hlt)]
    simp
  rw [this, mod_rows n (by simp; omega)]

/-- a run of an operation that makes a row of cells -/
theorem born_row {μ : Mu} {b : Nat} {w : World} {e : TypeId} {cs : List AV} {cs' : Array Value} {v : AV} {v' : Value} {s : Sem Value} (hb : μ b = none)
    (hrun : s.run P w = .ok v' (pushW w (.cells cs' e))) (h : VRs μ cs cs'.toList) (h1 : ∀ c ∈ cs, oneA c = true)
    (hv : VR (μ.put b (w.heap.size, 0, none)) v v') : Born P μ b w (.cells (len cs) (.lst cs) e true 0 0 b) v (do pure (.value (← s))) :=
  ⟨_, v', _, none, run_v hrun, wnew_push _ _, hv, lst_objR (h.mono (Mu.le_put _ hb)) h1⟩

theorem noA_call {c : Call} {q : AOp} (hc : kCall (ttOf P) wr c = some (.a q)) : False := by
  obtain ⟨as, has, hc⟩ := ob_eq hc
  unfold kCallee at hc
  split at hc
  · exact noA_w hc
  · obtain ⟨f, _, hc⟩ := ob_eq hc
    exact noA_w hc
  · obtain ⟨f, _, hc⟩ := ob_eq hc
    exact noA_w hc
  · unfold kBuiltin at hc
    split at hc
    · exact noA_p hc
    · split at hc
      · obtain ⟨d, hd, hc⟩ := ob_eq hc
        unfold kBuiltin1 at hc
        split at hc
        · unfold kLen at hc
          cases d with
          | map kt e => exact noA_l hc
          | string => exact noA_p hc
          | slice _ => exact noA_p hc
          | array _ _ => exact noA_p hc
          | _ => exact nomatch hc
        · obtain ⟨_, hc⟩ := ot_eq hc
          exact noA_p hc
        · unfold kClear1 at hc
          cases d with
          | slice e =>
            obtain ⟨z, _, hc⟩ := ob_eq hc
            obtain ⟨n, _, hc⟩ := ob_eq hc
            obtain ⟨_, hc⟩ := ot_eq hc
            exact noA_w hc
          | _ => exact nomatch hc
        · exact noA_p hc
        · exact nomatch hc
      · obtain ⟨d, hd, hc⟩ := ob_eq hc
        obtain ⟨d2, hd2, hc⟩ := ob_eq hc
        unfold kBuiltin2 at hc
        split at hc
        · unfold kAppend1 at hc
          split at hc
          · obtain ⟨i, _, hc⟩ := ob_eq hc
            obtain ⟨z, _, hc⟩ := ob_eq hc
            obtain ⟨_, hc⟩ := ot_eq hc
            exact noA_w hc
          · obtain ⟨i, _, hc⟩ := ob_eq hc
            obtain ⟨z, _, hc⟩ := ob_eq hc
            obtain ⟨_, hc⟩ := ot_eq hc
            exact noA_w hc
          · exact nomatch hc
        · unfold kCopy1 at hc
          split at hc
          · obtain ⟨i, _, hc⟩ := ob_eq hc
            obtain ⟨_, hc⟩ := ot_eq hc
            exact noA_w hc
          · exact nomatch hc
        · unfold kDelete1 at hc
          split at hc
          · exact noA_w hc
          · exact nomatch hc
        · unfold kUnsafeStr1 at hc
          split at hc
          · obtain ⟨i, _, hc⟩ := ob_eq hc
            obtain ⟨_, hc⟩ := ot_eq hc
            exact noA_w hc
          · exact nomatch hc
        · exact nomatch hc
      · exact nomatch hc

theorem run_choose (q : Question) (w : World) (h : q.forced = false) : (choose q).run P w = .ok (q.cut (w.tape w.drawn q)) { w with drawn := w.drawn + 1 } := by
  unfold choose
  simp only [Sem.run, h, Bool.false_eq_true, if_false]

theorem strToBytes_born {μ : Mu} {b : Nat} {w : World} {s d e : TypeId} {v : AV} {x : Value} {str : ByteArray} {l n : Nat} (hb : μ b = none) (hds : und (ttOf P) s = some .string) (hdd : und (ttOf P) d = some (.slice e)) (hde : und (ttOf P) e = some (.int .u8)) (hsz : tsize (ttOf P) e = some 1)
    (es : x = .string str) (hl : l = str.data.toList.length) (hn : n = bytesNum str.data.toList) (hv : AV.sl b 0 l l = v) :
    Born P μ b w (.cells l (.lst (strCells l n)) e false 2 0 b) v (do pure (.value (← convert s d x))) := by
  subst es
  let cap := Question.cut (.appendCap str.size 0 e) (w.tape w.drawn (.appendCap str.size 0 e))
  have hcap : str.size ≤ cap := Nat.le_add_right _ _
  let row : Array Value := (str.data.map fun (b : UInt8) => Value.int .u8 (b.toNat : Int)) ++ Array.replicate (cap - str.size) (Value.int .u8 0)
  have hrow : row.size = cap := by
    show ((str.data.map fun (b : UInt8) => Value.int .u8 (b.toNat : Int)) ++ Array.replicate (cap - str.size) (Value.int .u8 0)).size = cap
    rw [Array.size_append, Array.size_map, Array.size_replicate]
    have : str.data.size = str.size := rfl
    omega
  have hrun : (convert s d (.string str)).run P w = .ok (.slice (some ⟨w.heap.size, 0, none⟩) str.size cap) (pushW { w with drawn := w.drawn + 1 } (.cells row e (cap, cap + 1))) := by
    unfold convert
    rw [run_ok (run_und hds w), run_ok (run_und hdd w)]
    show (underlying e >>= fun de => _).run P w = _
    rw [run_ok (run_und hde w)]
    show (Conv.stringToBytes e str).run P w = _
    unfold Conv.stringToBytes
    rw [run_ok (run_choose _ w rfl)]
    show (newRow e row >>= fun a => _).run P { w with drawn := w.drawn + 1 } = _
    rw [run_ok (run_newRow e row _)]
    have hm : (markStringish ⟨w.heap.size, 0, none⟩).run P (pushW { w with drawn := w.drawn + 1 } (.cells row e)) = .ok () (pushW { w with drawn := w.drawn + 1 } (.cells row e (cap, cap + 1))) := by
      unfold markStringish
      have hsh : (shape w.heap.size).run P (pushW { w with drawn := w.drawn + 1 } (.cells row e)) = .ok (some (e, row.size)) (pushW { w with drawn := w.drawn + 1 } (.cells row e)) := by
        unfold shape
        simp only [Sem.run]
        congr 1
        unfold World.shape? pushW
        simp
      rw [run_ok hsh]
      show (freeze ⟨w.heap.size, row.size, none⟩ 1).run P _ = _
      unfold freeze
      simp only [Sem.run]
      congr 1
      unfold World.freeze pushW
      rw [if_neg (by decide)]
      simp only [World.mk.injEq, and_true, true_and]
      rw [hrow]
      apply Array.ext_getElem?
      intro i
      rw [Array.getElem?_modify, Array.getElem?_push, Array.getElem?_push]
      by_cases hi : w.heap.size = i
      · subst hi; simp
      · rw [if_neg hi]
        by_cases h2 : i = w.heap.size
        · exact absurd h2.symm hi
        · simp [h2]
    show (markStringish ⟨w.heap.size, 0, none⟩ >>= fun _ => _).run P _ = _
    rw [run_ok hm]; rfl
  refine ⟨_, _, _, some (cap, 1), run_v hrun, ⟨rfl, rfl, rfl, rfl⟩, ?_, ?_⟩
  · rw [← hv, hl]
    exact .sl (Mu.put_same _ _ _) hcap (.inr ⟨cap, 1, rfl, fun _ _ => by omega⟩)
  · have hs : str.data.toList.length = str.size := rfl
    refine ⟨rfl, rfl, by rw [hrow]; omega, ⟨rfl, (fun h => nomatch h)⟩, ?_, ?_, ?_, (fun h => nomatch h), fun S s e => by injection e with e; injection e with e1 e2; subst e1; subst e2; exact ⟨hrow, hsz⟩⟩
    · intro k e; injection e with e; subst e
      rw [hl, hn, strCells_eq]; simp
    · intro i v hv
      replace hv : nth (strCells l n) i = some v := hv
      rw [nth_eq, hl, hn, strCells_eq, List.getElem?_map] at hv
      cases hb : str.data.toList[i]? with
      | none => rw [hb] at hv; exact nomatch hv
      | some c =>
        rw [hb] at hv
        injection hv with hv
        have hlt : i < str.data.toList.length := (List.getElem?_eq_some_iff.1 hb).1
        refine ⟨by omega, by rw [← hv]; rfl, .int .u8 (c.toNat : Int), ?_, by rw [← hv]; exact .int _ _⟩
        rw [Nat.zero_add]
        show ((str.data.map fun (b : UInt8) => Value.int .u8 (b.toNat : Int)) ++ Array.replicate (cap - str.size) (Value.int .u8 0))[i]? = _
        rw [Array.getElem?_append_left (by simpa using hlt), Array.getElem?_map]
        have : str.data[i]? = some c := by simpa using hb
        rw [this]; rfl
    · intro o h1 h2 h3
      rw [hrow] at h3
      replace h1 : cap ≤ o := h1
      omega

theorem alloc_ok (o : Oper) {q : AOp} {v : AV} {A A' : AH} (hc : compOp0 P (ttOf P) wr o.op = some (.a q)) (he : evA io A q = some (v, A')) :
    ∃ ob, A' = A.new ob ∧ ∀ μ ρ w, IOR μ wr io ρ → μ A.next = none → Born P μ A.next w ob v (execOp ρ o) := by
  cases ho : o.op with
  | alloc e =>
    rw [ho] at hc
    obtain ⟨z, hz, hc⟩ := ob_eq hc
    have hq := (inj_a hc).symm
    subst hq
    injection he with he
    injection he with hv hA
    refine ⟨_, hA.symm, fun μ ρ w hio hb => ?_⟩
    obtain ⟨z', hz', hzr⟩ := zeroOf_run (P := P) hz μ w
    have hexec : execOp ρ o = (do pure (.value (← Instr.alloc e true (.tuple #[]))) : Sem Next) := by unfold execOp; rw [ho]
    rw [hexec]
    refine born_row hb (v' := .pointer (some ⟨w.heap.size, 0, none⟩)) (cs' := z'.cells) ?_ (cellsV_rel hzr) (zeroOf_one hz) (by rw [← hv]; exact .ptr (Mu.put_same _ _ _))
    unfold Instr.alloc
    rw [run_ok hz']
    show (newVar e z' >>= fun a => (pure (Value.pointer (some a)) : Sem Value)).run P w = _
    unfold newVar
    rw [run_ok (run_newRow e z'.cells w)]; rfl
  | box e x =>
    rw [ho] at hc
    obtain ⟨a, ha, hc⟩ := ob_eq hc
    have hq := (inj_a hc).symm
    subst hq
    obtain ⟨u, hu, he⟩ := ob_eq he
    obtain ⟨cs, hcs, he⟩ := ob_eq he
    injection he with he
    injection he with hv hA
    refine ⟨_, hA.symm, fun μ ρ w hio hb => ?_⟩
    have hr := hio _ _ _ ha hu
    have hexec : execOp ρ o = (do pure (.value (← Instr.box e (ρ x))) : Sem Next) := by unfold execOp; rw [ho]
    rw [hexec]
    have hcells : VRs μ cs (ρ x).cells.toList ∧ ∀ c ∈ cs, oneA c = true := by
      unfold box1 at hcs
      split at hcs
      · injection hcs with hcs
        subst hcs
        obtain ⟨cs', ev, h1, h2⟩ := hr.inv_agg
        rw [ev]; exact ⟨h1, h2⟩
      · exact nomatch hcs
      · rename_i n1 n2
        injection hcs with hcs
        subst hcs
        have hone : oneA u = true := by
          cases u <;> first | rfl | exact absurd rfl (n1 _) | exact absurd rfl (n2 _)
        have hov : oneV (ρ x) = true := by rw [hr.one, hone]
        have hc1 : (ρ x).cells = #[ρ x] := by
          cases e : ρ x <;> rw [e] at hov <;> first | rfl | exact nomatch hov
        rw [hc1]
        exact ⟨.cons hr .nil, fun c hc => by simp at hc; subst hc; exact hone⟩
    refine born_row hb (v' := .pointer (some ⟨w.heap.size, 0, none⟩)) (cs' := (ρ x).cells) ?_ hcells.1 hcells.2 (by rw [← hv]; exact .ptr (Mu.put_same _ _ _))
    unfold Instr.box newVar
    rw [run_ok (run_newRow e (ρ x).cells w)]; rfl
  | buildSlice t n parts =>
    rw [ho] at hc
    obtain ⟨d, hd, hc⟩ := ob_eq hc
    cases d with
    | slice e =>
      obtain ⟨size, hs, hc⟩ := ob_eq hc
      obtain ⟨z, hz, hc⟩ := ob_eq hc
      obtain ⟨l, hl, hc⟩ := ob_eq hc
      obtain ⟨hcond, hc⟩ := ot_eq hc
      rw [ba_eq, ba_eq, nlt_eq, nle_eq, nbeq_eq, len_eq] at hcond
      simp at hcond
      obtain ⟨hs0, hmax, hzl⟩ := hcond
      replace hmax : n * size ≤ 100000 := hmax
      have hq := (inj_a hc).symm
      subst hq
      obtain ⟨cs, hcs, he⟩ := ob_eq he
      injection he with he
      injection he with hv hA
      refine ⟨_, hA.symm, fun μ ρ w hio hb => ?_⟩
      obtain ⟨z', hz', hzr⟩ := zeroOf_run (P := P) hz μ w
      have hzc := cellsV_rel hzr
      have hz1 := zeroOf_one hz
      have hzs : z'.cells.size = size := by
        have := hzc.length
        rw [hzl] at this
        simpa using this.symm
      have hexec : execOp ρ o = (do pure (.value (← Instr.buildSlice t n (parts.map fun (i, x) => (i, ρ x)))) : Sem Next) := by unfold execOp; rw [ho]
      rw [hexec]
      have hbase : VRs μ (repeatTo n (cellsV z)) ((Array.range (n * size)).map (z'.cells[· % z'.cells.size]!)).toList := by
        rw [zeroRange hzs hs0]; exact repeatTo_rel hzc n
      obtain ⟨out, h1, h2, h3, h4⟩ := fill_ok (cs' := (Array.range (n * size)).map (z'.cells[· % z'.cells.size]!)) hio hl hcs hbase (repeatTo_one hz1 n)
      have hmap : (parts.map fun (x : Nat × Operand) => (x.1, ρ x.2)).toList = parts.toList.map fun p => (p.1, ρ p.2) := by simp
      refine born_row hb (v' := .slice (some ⟨w.heap.size, 0, none⟩) n n) (cs' := out) ?_ h2 h3 (by rw [← hv]; exact .sl (Mu.put_same _ _ _) (Nat.le_refl _) (.inl rfl))
      unfold Instr.buildSlice
      rw [run_ok (run_und hd w)]
      show (sizeOf e >>= fun size => _).run P w = _
      rw [run_ok (run_size hs w)]
      simp only []
      rw [if_neg (by omega)]
      have fin : ∀ zero : Array Value, (Array.range (n * size)).map (zero[· % zero.size]!) = (Array.range (n * size)).map (z'.cells[· % z'.cells.size]!) →
          ((do
            let some cells := Instr.fill (fun i => some (i * size, size)) ((Array.range (n * size)).map (zero[· % zero.size]!)) (parts.map fun (x : Nat × Operand) => (x.1, ρ x.2)).toList
              | stuck "buildSlice: a part of the wrong size"
            pure (.slice (some (← newRow e cells)) n n) : Sem Value)).run P w = .ok (.slice (some ⟨w.heap.size, 0, none⟩) n n) (pushW w (.cells out e)) := by
        intro zero hz0
        rw [hz0, hmap]
        have e1 : (fun i => some (i * size, size)) = fun i => some (Nat.mul i size, size) := rfl
        rw [e1, h1]
        simp only
        rw [run_ok (run_newRow e out w)]; rfl
      by_cases h0 : n * size = 0
      · rw [if_pos h0]
        exact fin #[] (by rw [h0]; simp)
      · rw [if_neg h0, run_ok hz']
        exact fin z'.cells rfl
    | _ => exact nomatch hc
  | makeMap t r =>
    rw [ho] at hc
    cases r with
    | some _ => exact nomatch hc
    | none =>
      have hq := (inj_a hc).symm
      subst hq
      injection he with he
      injection he with hv hA
      refine ⟨_, hA.symm, fun μ ρ w hio hb => ?_⟩
      have hexec : execOp ρ o = (do pure (.value (← Instr.makeMap t none)) : Sem Next) := by unfold execOp; rw [ho]; rfl
      rw [hexec]
      exact ⟨.map #[] 0, .map (some w.heap.size), pushW w (.map #[] 0), none, run_v rfl, wnew_push _ _, by rw [← hv]; exact .map (Mu.put_same _ _ _), ⟨rfl, .nil⟩⟩
  | makeSlice t l c =>
    rw [ho] at hc
    obtain ⟨l', hl, hc⟩ := ob_eq hc
    obtain ⟨c', hcc, hc⟩ := ob_eq hc
    obtain ⟨d, hd, hc⟩ := ob_eq hc
    cases d with
    | slice e =>
      obtain ⟨i, hi, hc⟩ := ob_eq hc
      obtain ⟨z, hz, hc⟩ := ob_eq hc
      have hq := (inj_a hc).symm
      subst hq
      obtain ⟨lv, hlv, he⟩ := ob_eq he
      obtain ⟨kl, n, e1, he⟩ := onNat_eq he
      subst e1
      obtain ⟨cv, hcv, he⟩ := ob_eq he
      obtain ⟨kc, m, e2, he⟩ := onNat_eq he
      subst e2
      obtain ⟨hcond, he⟩ := ot_eq he
      rw [ba_eq, ba_eq, ba_eq, nle_eq, nle_eq, nle_eq, nbeq_eq, len_eq] at hcond
      simp at hcond
      obtain ⟨hnm, hb47, hmil, hzl⟩ := hcond
      replace hb47 : m * i.bytes ≤ 140737488355328 := hb47
      injection he with he
      injection he with hv hA
      refine ⟨_, hA.symm, fun μ ρ w hio hb => ?_⟩
      obtain ⟨z', hz', hzr⟩ := zeroOf_run (P := P) hz μ w
      have hzc := cellsV_rel hzr
      have hz1 := zeroOf_one hz
      have hzs : z'.cells.size = i.size := by
        have := hzc.length
        rw [hzl] at this
        simpa using this.symm
      have hs : tsize (ttOf P) e = some i.size := by unfold tsize; rw [hi]; rfl
      have el := opnd_nat hio hl hlv
      have ec := opnd_nat hio hcc hcv
      have hexec : execOp ρ o = (do pure (.value (← Instr.makeSlice t (ρ l) (ρ c))) : Sem Next) := by unfold execOp; rw [ho]
      rw [hexec]
      have hrow : VRs μ (repeatTo m (cellsV z)) ((Array.range (m * i.size)).map (z'.cells[· % z'.cells.size]!)).toList := by
        by_cases hs0 : 0 < i.size
        · rw [zeroRange hzs hs0]; exact repeatTo_rel hzc m
        · have h0 : i.size = 0 := by omega
          have hz0 : cellsV z = [] := List.eq_nil_of_length_eq_zero (by omega)
          rw [hz0, h0]
          have : ∀ k, repeatTo k ([] : List AV) = [] := by
            intro k
            induction k with
            | zero => rfl
            | succ k ih => show app [] (repeatTo k []) = []; rw [app_eq, ih]; rfl
          rw [this]
          simp
          exact .nil
      refine born_row hb (v' := .slice (some ⟨w.heap.size, 0, none⟩) n m) (cs' := (Array.range (m * i.size)).map (z'.cells[· % z'.cells.size]!)) ?_ hrow (repeatTo_one hz1 m) (by rw [← hv]; exact .sl (Mu.put_same _ _ _) (Nat.le_refl _) (.inl rfl))
      unfold Instr.makeSlice
      rw [run_ok (run_und hd w), el, ec]
      show (asInt (.int kl (n : Int)) >>= fun len => asInt (.int kc (m : Int)) >>= fun cap => typeInfo e >>= fun ti => _).run P w = _
      have ra : ∀ (k : IntKind) (n : Int), (asInt (.int k n)).run P w = .ok n w := fun _ _ => rfl
      rw [run_ok (ra _ _), run_ok (ra _ _), run_ok (run_info hi w)]
      have wl : IntKind.i64.wrap (n : Int) = n := IntWalk.i64_in _ ⟨by omega, by omega⟩
      have wc : IntKind.i64.wrap (m : Int) = m := IntWalk.i64_in _ ⟨by omega, by omega⟩
      simp only [wl, wc]
      have hcast : ((i.bytes : Int) * (m : Int)) = ((m * i.bytes : Nat) : Int) := by rw [Nat.mul_comm]; simp
      have hno : ¬ ((decide ((m : Int) < 0) || decide ((i.bytes : Int) * (m : Int) > 2 ^ 48) || decide ((n : Int) < 0) || decide ((n : Int) > (m : Int))) = true) := by
        rw [hcast]
        simp only [Bool.or_eq_true, decide_eq_true_eq, not_or]
        refine ⟨⟨⟨by omega, ?_⟩, by omega⟩, by omega⟩
        have : (2 : Int) ^ 48 = 281474976710656 := by decide
        rw [this]; omega
      rw [if_neg hno]
      have hroom : (askRoom ((m : Int).toNat * i.bytes)).run P w = .ok () w := by
        unfold askRoom
        split <;> rfl
      show (askRoom ((m : Int).toNat * i.bytes) >>= fun _ => sizeOf e >>= fun s => _).run P w = _
      rw [run_ok hroom, run_ok (run_size hs w)]
      simp only [Int.toNat_natCast]
      have fin : ∀ zero : Array Value, (Array.range (m * i.size)).map (zero[· % zero.size]!) = (Array.range (m * i.size)).map (z'.cells[· % z'.cells.size]!) →
          ((do
            let a ← newRow e ((Array.range (m * i.size)).map (zero[· % zero.size]!))
            pure (.slice (some a) n m) : Sem Value)).run P w = .ok (.slice (some ⟨w.heap.size, 0, none⟩) n m) (pushW w (.cells ((Array.range (m * i.size)).map (z'.cells[· % z'.cells.size]!)) e)) := by
        intro zero hz0
        rw [hz0, run_ok (run_newRow e _ w)]; rfl
      by_cases h0 : m * i.size = 0
      · rw [if_pos h0]
        exact fin #[] (by rw [h0]; simp)
      · rw [if_neg h0]
        rw [run_ok hz']
        exact fin z'.cells rfl
    | _ => exact nomatch hc
  | move x =>
    rw [ho] at hc
    obtain ⟨_, _, hc⟩ := ob_eq hc
    exact (noA_p hc).elim
  | assign x =>
    rw [ho] at hc
    obtain ⟨_, _, hc⟩ := ob_eq hc
    exact (noA_p hc).elim
  | pick c a b =>
    rw [ho] at hc
    obtain ⟨_, _, hc⟩ := ob_eq hc
    obtain ⟨_, _, hc⟩ := ob_eq hc
    obtain ⟨_, _, hc⟩ := ob_eq hc
    exact (noA_p hc).elim
  | nilCheck x =>
    rw [ho] at hc
    obtain ⟨_, _, hc⟩ := ob_eq hc
    exact (noA_p hc).elim
  | unOp op t x =>
    rw [ho] at hc
    obtain ⟨_, _, hc⟩ := ob_eq hc
    exact (noA_p hc).elim
  | extract x i =>
    rw [ho] at hc
    obtain ⟨_, _, hc⟩ := ob_eq hc
    exact (noA_p hc).elim
  | build t parts =>
    rw [ho] at hc
    obtain ⟨_, _, hc⟩ := ob_eq hc
    obtain ⟨d, _, hc⟩ := ob_eq hc
    cases d with
    | struct fs =>
      obtain ⟨_, _, hc⟩ := ob_eq hc
      obtain ⟨_, _, hc⟩ := ob_eq hc
      exact (noA_p hc).elim
    | array n e =>
      obtain ⟨_, _, hc⟩ := ob_eq hc
      obtain ⟨_, _, hc⟩ := ob_eq hc
      exact (noA_p hc).elim
    | _ => exact nomatch hc
  | store t a x =>
    rw [ho] at hc
    obtain ⟨_, _, hc⟩ := ob_eq hc
    obtain ⟨_, _, hc⟩ := ob_eq hc
    obtain ⟨_, _, hc⟩ := ob_eq hc
    obtain ⟨_, _, hc⟩ := ob_eq hc
    obtain ⟨_, hc⟩ := ot_eq hc
    exact (noA_w hc).elim
  | binOp op t x y yt =>
    rw [ho] at hc
    obtain ⟨_, _, hc⟩ := ob_eq hc
    obtain ⟨_, _, hc⟩ := ob_eq hc
    rw [bif2_eq] at hc
    split at hc
    · obtain ⟨d, _, hc⟩ := ob_eq hc
      cases d with
      | int k => exact (noA_p hc).elim
      | string => exact (noA_p hc).elim
      | _ =>
        obtain ⟨_, hc⟩ := ot_eq hc
        obtain ⟨_, _, hc⟩ := ob_eq hc
        exact (noA_p hc).elim
    · exact (noA_p hc).elim
  | makeInterface t x =>
    rw [ho] at hc
    obtain ⟨_, _, hc⟩ := ob_eq hc
    obtain ⟨_, _, hc⟩ := ob_eq hc
    obtain ⟨_, hc⟩ := ot_eq hc
    exact (noA_p hc).elim
  | makeFunc fn a b =>
    rw [ho] at hc
    obtain ⟨_, _, hc⟩ := ob_eq hc
    obtain ⟨_, _, hc⟩ := ob_eq hc
    obtain ⟨_, hc⟩ := ot_eq hc
    exact (noA_p hc).elim
  | slice t x lo hi mx =>
    rw [ho] at hc
    obtain ⟨_, _, hc⟩ := ob_eq hc
    obtain ⟨_, _, hc⟩ := ob_eq hc
    obtain ⟨_, _, hc⟩ := ob_eq hc
    obtain ⟨_, _, hc⟩ := ob_eq hc
    obtain ⟨d, _, hc⟩ := ob_eq hc
    cases d with
    | string => obtain ⟨_, hc⟩ := ot_eq hc; exact (noA_p hc).elim
    | slice e => obtain ⟨_, _, hc⟩ := ob_eq hc; obtain ⟨_, hc⟩ := ot_eq hc; exact (noA_p hc).elim
    | array n e => obtain ⟨_, _, hc⟩ := ob_eq hc; obtain ⟨_, hc⟩ := ot_eq hc; exact (noA_p hc).elim
    | _ => exact nomatch hc
  | fieldAddr s x f =>
    rw [ho] at hc
    obtain ⟨_, _, hc⟩ := ob_eq hc
    obtain ⟨d, _, hc⟩ := ob_eq hc
    cases d with
    | struct fs =>
      obtain ⟨_, _, hc⟩ := ob_eq hc
      obtain ⟨_, _, hc⟩ := ob_eq hc
      obtain ⟨_, hc⟩ := ot_eq hc
      exact (noA_p hc).elim
    | _ => exact nomatch hc
  | field t x f =>
    rw [ho] at hc
    obtain ⟨_, _, hc⟩ := ob_eq hc
    obtain ⟨d, _, hc⟩ := ob_eq hc
    cases d with
    | struct fs =>
      obtain ⟨_, _, hc⟩ := ob_eq hc
      obtain ⟨_, _, hc⟩ := ob_eq hc
      obtain ⟨_, _, hc⟩ := ob_eq hc
      exact (noA_p hc).elim
    | _ => exact nomatch hc
  | indexAddr t x i =>
    rw [ho] at hc
    obtain ⟨_, _, hc⟩ := ob_eq hc
    obtain ⟨_, _, hc⟩ := ob_eq hc
    obtain ⟨d, _, hc⟩ := ob_eq hc
    cases d with
    | array n e => obtain ⟨_, _, hc⟩ := ob_eq hc; exact (noA_p hc).elim
    | slice e => obtain ⟨_, _, hc⟩ := ob_eq hc; exact (noA_p hc).elim
    | _ => exact nomatch hc
  | index t x i =>
    rw [ho] at hc
    obtain ⟨_, _, hc⟩ := ob_eq hc
    obtain ⟨_, _, hc⟩ := ob_eq hc
    obtain ⟨d, _, hc⟩ := ob_eq hc
    cases d with
    | array n e => obtain ⟨_, _, hc⟩ := ob_eq hc; obtain ⟨_, _, hc⟩ := ob_eq hc; exact (noA_p hc).elim
    | string => exact (noA_p hc).elim
    | _ => exact nomatch hc
  | mapUpdate t m k x =>
    rw [ho] at hc
    obtain ⟨_, _, hc⟩ := ob_eq hc
    obtain ⟨_, _, hc⟩ := ob_eq hc
    obtain ⟨_, _, hc⟩ := ob_eq hc
    obtain ⟨d, _, hc⟩ := ob_eq hc
    cases d with
    | map kt e => exact (noA_w hc).elim
    | _ => exact nomatch hc
  | insert t m k x =>
    rw [ho] at hc
    obtain ⟨_, _, hc⟩ := ob_eq hc
    obtain ⟨_, _, hc⟩ := ob_eq hc
    obtain ⟨_, _, hc⟩ := ob_eq hc
    obtain ⟨d, _, hc⟩ := ob_eq hc
    cases d with
    | map kt e => exact (noA_w hc).elim
    | _ => exact nomatch hc
  | next x s =>
    rw [ho] at hc
    obtain ⟨_, _, hc⟩ := ob_eq hc
    obtain ⟨_, hc⟩ := ot_eq hc
    exact (noA_w hc).elim
  | typeAssert x xt t ok =>
    rw [ho] at hc
    obtain ⟨_, _, hc⟩ := ob_eq hc
    obtain ⟨_, _, hc⟩ := ob_eq hc
    obtain ⟨_, _, hc⟩ := ob_eq hc
    obtain ⟨_, hc⟩ := ot_eq hc
    exact (noA_p hc).elim
  | load t a =>
    rw [ho] at hc
    obtain ⟨_, _, hc⟩ := ob_eq hc
    obtain ⟨g, _, hc⟩ := ob_eq hc
    cases g with
    | true => obtain ⟨_, _, hc⟩ := ob_eq (show ob _ _ = _ from hc); exact (noA_l hc).elim
    | false => exact (noA_l hc).elim
  | lookup t x k ok =>
    rw [ho] at hc
    obtain ⟨_, _, hc⟩ := ob_eq hc
    obtain ⟨_, _, hc⟩ := ob_eq hc
    obtain ⟨d, _, hc⟩ := ob_eq hc
    cases d with
    | map kt e => obtain ⟨_, _, hc⟩ := ob_eq hc; exact (noA_l hc).elim
    | _ => exact nomatch hc
  | call c =>
    rw [ho] at hc
    exact (noA_call hc).elim
  | range t x =>
    rw [ho] at hc
    obtain ⟨a, ha, hc⟩ := ob_eq hc
    obtain ⟨d, hd, hc⟩ := ob_eq hc
    obtain ⟨hs, hc⟩ := ot_eq hc
    have hq := (inj_a hc).symm
    subst hq
    obtain ⟨u, hu, he⟩ := ob_eq he
    obtain ⟨l, n, e1, he2⟩ := onStr_eq he
    subst e1
    injection he2 with he3
    injection he3 with hv hA
    refine ⟨_, hA.symm, fun μ ρ w hio hb => ?_⟩
    obtain ⟨str, es, hl, hn⟩ := (hio _ _ _ ha hu).inv_str
    have hexec : execOp ρ o = (do pure (.value (← Instr.range t (ρ x))) : Sem Next) := by unfold execOp; rw [ho]
    rw [hexec]
    have hd' : d = .string := by
      unfold isStrD at hs
      split at hs
      · rfl
      · exact nomatch hs
    subst hd'
    refine ⟨.stringIter str 0, .pointer (some ⟨w.heap.size, 0, none⟩), pushW w (.stringIter str 0), none, run_v ?_, wnew_push _ _, by rw [← hv]; exact .ptr (Mu.put_same _ _ _), ?_⟩
    · unfold Instr.range
      rw [run_ok (run_und hd w), es]
      rfl
    · refine ⟨rfl, ?_, rfl⟩
      unfold ofStr
      rw [hl, hn, len_eq]
  | convert s d x =>
    rw [ho] at hc
    obtain ⟨a, ha, hc⟩ := ob_eq hc
    obtain ⟨ds, hds, hc⟩ := ob_eq hc
    obtain ⟨dd, hdd, hc⟩ := ob_eq hc
    unfold kConv1 at hc
    split at hc
    · exact (noA_p hc).elim
    · exact (noA_p hc).elim
    · exact (noA_p hc).elim
    · rename_i e _
      obtain ⟨de, hde, hc⟩ := ob_eq hc
      obtain ⟨hb, hc⟩ := ot_eq hc
      obtain ⟨sz, hsz, hc⟩ := ob_eq hc
      obtain ⟨hs1, hc⟩ := ot_eq hc
      rw [nbeq_eq, decide_eq_true_eq] at hs1
      subst hs1
      have hq := (inj_a hc).symm
      subst hq
      have hde' : de = .int .u8 := by
        unfold isByte at hb
        split at hb
        · rfl
        · exact nomatch hb
      subst hde'
      obtain ⟨u, hu, he⟩ := ob_eq he
      obtain ⟨l, n, e1, he2⟩ := onStr_eq he
      subst e1
      injection he2 with he3
      injection he3 with hv hA
      refine ⟨_, hA.symm, fun μ ρ w hio hb => ?_⟩
      obtain ⟨str, es, hl, hn⟩ := (hio _ _ _ ha hu).inv_str
      have hexec : execOp ρ o = (do pure (.value (← convert s d (ρ x))) : Sem Next) := by unfold execOp; rw [ho]
      rw [hexec]
      exact strToBytes_born hb hds hdd hde hsz es hl hn hv
    · obtain ⟨_, _, hc⟩ := ob_eq hc
      obtain ⟨_, hc⟩ := ot_eq hc
      exact (noA_l hc).elim
    · exact nomatch hc
  | _ => rw [ho] at hc; exact nomatch hc
end Go.Ev
end

section
/- Ev, part 21: what is written. -/
namespace Go.Ev
set_option linter.unusedSectionVars false
variable [F : Facts] [E : Env]
set_option linter.unusedSimpArgs false
set_option linter.unusedVariables false
variable {P : Program} {μ : Mu}

/-- one block of the machine's is another -/
structure WSet (w w' : World) (b : Nat) (o : Obj) : Prop where
  same : w'.heap[b]? = some o
  other : ∀ c, c ≠ b → w'.heap[c]? = w.heap[c]?
  size : w'.heap.size = w.heap.size
  os : w'.os = w.os
  tape : w'.tape = w.tape
  output : w'.output = w.output

theorem setCell_at {w : World} {b o : Nat} {cs : Array Value} {e : TypeId} {fr : Nat × Nat} (h : w.heap[b]? = some (.cells cs e fr)) (v : Value) :
    WSet w (w.setCell ⟨b, o, none⟩ v) b (.cells (cs.setIfInBounds o v) e fr) := by
  refine ⟨?_, ?_, ?_, rfl, rfl, rfl⟩
  · show (w.heap.modify b _)[b]? = _
    rw [Array.getElem?_modify, if_pos rfl, h]
    rfl
  · intro c hc
    show (w.heap.modify b _)[c]? = _
    rw [Array.getElem?_modify, if_neg (fun e => hc e.symm)]
  · show (w.heap.modify b _).size = _
    rw [Array.size_modify]

def putsV (cs : Array Value) (o : Nat) : List Value → Array Value
  | [] => cs
  | v :: r => putsV (cs.setIfInBounds o v) (o + 1) r
theorem putsV_size : ∀ (vs : List Value) (cs : Array Value) (o : Nat), (putsV cs o vs).size = cs.size := by
  intro vs
  induction vs with
  | nil => intro cs o; rfl
  | cons v r ih => intro cs o; rw [putsV, ih, Array.size_setIfInBounds]
theorem putsV_get : ∀ (vs : List Value) (cs : Array Value) (o i : Nat), o + vs.length ≤ cs.size → (putsV cs o vs)[i]? = if o ≤ i ∧ i < o + vs.length then vs[i - o]? else cs[i]? := by
  intro vs
  induction vs with
  | nil => intro cs o i _; rw [if_neg (by simp only [List.length_nil]; omega)]; rfl
  | cons v r ih =>
    intro cs o i h
    simp only [List.length_cons] at h
    rw [putsV, ih _ _ _ (by rw [Array.size_setIfInBounds]; omega), Array.getElem?_setIfInBounds]
    by_cases h1 : o + 1 ≤ i ∧ i < o + 1 + r.length
    · rw [if_pos h1, if_pos (by simp; omega), show i - o = (i - (o + 1)) + 1 from by omega, List.getElem?_cons_succ]
    · rw [if_neg h1]
      by_cases e : o = i
      · subst e; rw [if_pos rfl, if_pos (by omega), if_pos (by simp), Nat.sub_self, List.getElem?_cons_zero]
      · rw [if_neg e, if_neg (by simp; omega)]
theorem setCells_at : ∀ (vs : List Value) {w : World} {b o : Nat} {cs : Array Value} {e : TypeId} {fr : Nat × Nat}, w.heap[b]? = some (.cells cs e fr) →
    WSet w (w.setCells b o vs) b (.cells (putsV cs o vs) e fr) := by
  intro vs
  induction vs with
  | nil => intro w b o cs e fr h; exact ⟨h, fun _ _ => rfl, rfl, rfl, rfl, rfl⟩
  | cons v r ih =>
    intro w b o cs e fr h
    have h1 := setCell_at (o := o) h v
    have h2 := ih (o := o + 1) h1.same
    exact ⟨h2.same, fun c hc => (h2.other c hc).trans (h1.other c hc), h2.size.trans h1.size, h2.os.trans h1.os, h2.tape.trans h1.tape, h2.output.trans h1.output⟩

/-! ### who is gone -/
theorem kill_get (keep : Nat) : ∀ (l : List Nat) (objs : T AObj) (c : Nat), (AH.kill objs keep l).get c = if c ∈ l ∧ c ≠ keep then none else objs.get c := by
  intro l
  induction l with
  | nil => intro objs c; simp; rfl
  | cons b l ih =>
    intro objs c
    show (bif2 (Nat.beq b keep) (AH.kill objs keep l) (AH.kill (objs.put none b) keep l)).get c = _
    rw [bif2_eq, nbeq_eq]
    by_cases e : b = keep
    · subst e
      rw [if_pos (by simp), ih]
      by_cases h : c ∈ l ∧ c ≠ b
      · rw [if_pos h, if_pos ⟨by simp [h.1], h.2⟩]
      · rw [if_neg h, if_neg]
        rintro ⟨h1, h2⟩
        simp only [List.mem_cons] at h1
        rcases h1 with h1 | h1
        · exact h2 h1
        · exact h ⟨h1, h2⟩
    · rw [if_neg (by simpa using e), ih]
      by_cases h : c ∈ l ∧ c ≠ keep
      · rw [if_pos h, if_pos ⟨by simp [h.1], h.2⟩]
      · rw [if_neg h, T.get_put]
        by_cases ec : c = b
        · subst ec; rw [if_pos rfl, if_pos ⟨by simp, e⟩]
        · rw [if_neg ec, if_neg]
          rintro ⟨h1, h2⟩
          simp only [List.mem_cons] at h1
          rcases h1 with h1 | h1
          · exact ec h1
          · exact h ⟨h1, h2⟩

theorem only_get (A : AH) (b ch c : Nat) : (A.only b ch).objs.get c = if (∃ l, A.chains.get ch = some l ∧ c ∈ l) ∧ c ≠ b then none else A.objs.get c := by
  unfold AH.only
  cases h : A.chains.get ch with
  | none => simp
  | some l => simp only [kill_get]; simp
theorem only_chains (A : AH) (b ch k : Nat) : (A.only b ch).chains.get k = if k = ch then none else A.chains.get k := by
  unfold AH.only
  cases h : A.chains.get ch with
  | none =>
    simp only
    split
    · rename_i e; rw [e, h]
    · rfl
  | some l => simp only [T.get_put]
theorem only_next (A : AH) (b ch : Nat) : (A.only b ch).next = A.next := by
  unfold AH.only
  cases h : A.chains.get ch <;> rfl

/-- one block is changed; who shares memory with it is gone -/
theorem R.setG {A A' : AH} {w w' : World} (h : R P μ A w) {b : Nat} {o o2 : AObj} {o' : Obj} {m : Nat × Nat × Option (Nat × Nat)} (hb : A.objs.get b = some o) (hm : μ b = some m) (hw : WSet w w' m.1 o')
    (hr : ObjR P μ m.2.1 m.2.2 o2 o') (hb' : A'.objs.get b = some o2) (hch : chO o2 = chO o) (hn : nO o2 = nO o) (hnext : A'.next = A.next)
    (hsub : ∀ c p, c ≠ b → A'.objs.get c = some p → A.objs.get c = some p)
    (hex : ∀ c p n, c ≠ b → A'.objs.get c = some p → μ c = some n → n.1 ≠ m.1)
    (hchain : ∀ k l, A'.chains.get k = some l → A.chains.get k = some l)
    (hkeep : ∀ k l c p, A.chains.get k = some l → c ∈ l → c ≠ b → A'.objs.get c = some p → A'.chains.get k = some l) : R P μ A' w' where
  obj c p n h1 h2 := by
    by_cases e : c = b
    · subst e
      rw [hm] at h2; injection h2 with h2; subst h2
      rw [hb'] at h1; injection h1 with h1; subst h1
      exact ⟨o', hw.same, hr⟩
    · obtain ⟨p', h3, h4⟩ := h.obj c p n (hsub c p e h1) h2
      exact ⟨p', by rw [hw.other _ (hex c p n e h1 h2)]; exact h3, h4⟩
  dom c n h1 := by rw [hnext, hw.size]; exact h.dom c n h1
  live c p h1 := by
    rw [hnext]
    by_cases e : c = b
    · subst e; exact h.live _ _ hb
    · exact h.live c p (hsub c p e h1)
  glob := h.glob
  sep b1 b2 o1 o2' m1 m2 hne h1 h2 h3 h4 e := by
    by_cases e1 : b1 = b
    · subst e1
      rw [hm] at h3; injection h3 with h3; subst h3
      exact absurd e.symm (hex b2 o2' m2 (fun x => hne x.symm) h2 h4)
    · by_cases e2 : b2 = b
      · subst e2
        rw [hm] at h4; injection h4 with h4; subst h4
        exact absurd e (hex b1 o1 m1 e1 h1 h3)
      · obtain ⟨ch, l, k1, k2, k3, k4, k5⟩ := h.sep b1 b2 o1 o2' m1 m2 hne (hsub _ _ e1 h1) (hsub _ _ e2 h2) h3 h4 e
        exact ⟨ch, l, k1, k2, hkeep ch l b1 o1 k3 k4 e1 h1, k4, k5⟩
  ord ch l hl := (h.ord ch l (hchain ch l hl)).imp fun {b1 b2} hh o1 o2' m1 m2 h1 h2 h3 h4 e => by
    have key : ∀ c p, A'.objs.get c = some p → ∃ p', A.objs.get c = some p' ∧ nO p' = nO p := by
      intro c p hc
      by_cases e : c = b
      · subst e
        rw [hb'] at hc; injection hc with hc; subst hc
        exact ⟨o, hb, hn.symm⟩
      · exact ⟨p, hsub c p e hc, rfl⟩
    obtain ⟨p1, q1, n1⟩ := key b1 o1 h1
    obtain ⟨p2, q2, n2⟩ := key b2 o2' h2
    rw [← n1, ← n2]
    exact hh p1 p2 m1 m2 q1 q2 h3 h4 e
  mem ch l c hl hc := h.mem ch l c (hchain ch l hl) hc

theorem kept_setG {A A' : AH} {w w' : World} {B : Nat} {b : Nat} {o : AObj} {o' : Obj} {m : Nat × Nat × Option (Nat × Nat)} (hb : A.objs.get b = some o) (hm : μ b = some m) (hw : WSet w w' m.1 o')
    (hwr : wrO o = true) (hnext : A'.next = A.next) (hsub : ∀ c p, c ≠ b → A'.objs.get c = some p → A.objs.get c = some p)
    (hun : ∀ c, μ c = none → A'.objs.get c = A.objs.get c)
    (hl : ∀ L, w.heap[m.1]? = some (.loop L) → ∃ L' : Loop, o' = .loop L' ∧ L'.defers = L.defers) : Kept B μ μ A A' w w' where
  le := Mu.le_refl _
  os := hw.os
  tape := hw.tape
  output := hw.output
  size := Nat.le_of_eq hw.size.symm
  next := Nat.le_of_eq hnext.symm
  block c hc hnw := hw.other c fun e => hnw ⟨b, m, o, hm, e.symm, hb, hwr⟩
  wr c hc := by
    rintro ⟨b1, m1, o1, h1, h2, h3, h4⟩
    by_cases e : b1 = b
    · subst e
      rw [hm] at h1; injection h1 with h1; subst h1
      exact ⟨b1, m, o, hm, h2, hb, hwr⟩
    · exact ⟨b1, m1, o1, h1, h2, hsub b1 o1 e h3, h4⟩
  unborn c _ hn := ⟨hn, hun c hn⟩
  loops c L hc := by
    by_cases e : c = m.1
    · subst e
      obtain ⟨L', e1, e2⟩ := hl L hc
      exact ⟨L', by rw [hw.same, e1], e2⟩
    · exact ⟨L, by rw [hw.other c e]; exact hc, rfl⟩

/-- a row is changed -/
theorem R.own {A : AH} {w w' : World} (h : R P μ A w) {b : Nat} {n : Nat} {c c2 : Cells} {e : TypeId} {ex : Bool} {md fz fz2 ch : Nat} {o' : Obj} {m : Nat × Nat × Option (Nat × Nat)}
    (hb : A.obj b = some (.cells n c e ex md fz ch)) (hm : μ b = some m) (hw : WSet w w' m.1 o') (hmd : md ≠ 1)
    (hr : ObjR P μ m.2.1 m.2.2 (.cells n c2 e ex md fz2 ch) o') (B : Nat) :
    R P μ ((A.only b ch).set b (.cells n c2 e ex md fz2 ch)) w' ∧ Kept B μ μ A ((A.only b ch).set b (.cells n c2 e ex md fz2 ch)) w w' := by
  have get : ∀ c', ((A.only b ch).set b (.cells n c2 e ex md fz2 ch)).objs.get c' = if c' = b then some (.cells n c2 e ex md fz2 ch) else if (∃ l, A.chains.get ch = some l ∧ c' ∈ l) ∧ c' ≠ b then none else A.objs.get c' := by
    intro c'
    unfold AH.set
    rw [T.get_put, only_get]
  have chs : ∀ k, ((A.only b ch).set b (.cells n c2 e ex md fz2 ch)).chains.get k = if k = ch then none else A.chains.get k := fun k => only_chains A b ch k
  have hsub : ∀ c' p, c' ≠ b → ((A.only b ch).set b (.cells n c2 e ex md fz2 ch)).objs.get c' = some p → A.objs.get c' = some p := by
    intro c' p hne hc
    rw [get, if_neg hne] at hc
    split at hc
    · exact nomatch hc
    · exact hc
  have hkill : ∀ c' p l, c' ≠ b → ((A.only b ch).set b (.cells n c2 e ex md fz2 ch)).objs.get c' = some p → A.chains.get ch = some l → c' ∈ l → False := by
    intro c' p l hne hc hl hcl
    rw [get, if_neg hne, if_pos ⟨⟨l, hl, hcl⟩, hne⟩] at hc
    exact nomatch hc
  refine ⟨h.setG hb hm hw hr (by rw [get, if_pos rfl]) rfl rfl (only_next A b ch) hsub ?_ ?_ ?_, kept_setG hb hm hw (by simpa [wrO] using hmd) (only_next A b ch) hsub ?_ ?_⟩
  · intro c' p nn hne hc hmc e'
    obtain ⟨ch', l, k1, k2, k3, k4, k5⟩ := h.sep c' b p _ nn m hne (hsub c' p hne hc) hb hmc hm e'
    injection k2 with k2
    subst k2
    exact hkill c' p l hne hc k3 k4
  · intro k l hl
    rw [chs] at hl
    split at hl
    · exact nomatch hl
    · exact hl
  · intro k l c' p hl hcl hne hc
    rw [chs, if_neg]
    · exact hl
    · intro e'
      subst e'
      exact hkill c' p l hne hc hl hcl
  · intro c' hn
    have hne : c' ≠ b := by intro e'; subst e'; rw [hm] at hn; exact nomatch hn
    rw [get, if_neg hne, if_neg]
    rintro ⟨⟨l, hl, hcl⟩, _⟩
    exact h.mem ch l c' hl hcl hn
  · intro L hL
    obtain ⟨q, hq, hqr⟩ := h.obj b _ m hb hm
    rw [hL] at hq
    injection hq with hq
    subst hq
    exact hqr.elim

/-- what is no row is changed -/
theorem R.plain {A : AH} {w w' : World} (h : R P μ A w) {b : Nat} {o o2 : AObj} {o' : Obj} {m : Nat × Nat × Option (Nat × Nat)} (hb : A.obj b = some o) (hm : μ b = some m) (hw : WSet w w' m.1 o')
    (hc : chO o = none) (hc2 : chO o2 = none) (hr : ObjR P μ m.2.1 m.2.2 o2 o') (hl : ∀ L, w.heap[m.1]? = some (.loop L) → ∃ L' : Loop, o' = .loop L' ∧ L'.defers = L.defers) (B : Nat) :
    R P μ (A.set b o2) w' ∧ Kept B μ μ A (A.set b o2) w w' := by
  have get : ∀ c', (A.set b o2).objs.get c' = if c' = b then some o2 else A.objs.get c' := by
    intro c'
    unfold AH.set
    rw [T.get_put]
  have nz : ∀ o, chO o = none → nO o = 0 ∧ wrO o = true := by intro o ho; cases o <;> first | exact ⟨rfl, rfl⟩ | exact nomatch ho
  have hsub : ∀ c' p, c' ≠ b → (A.set b o2).objs.get c' = some p → A.objs.get c' = some p := by
    intro c' p hne hc
    rw [get, if_neg hne] at hc
    exact hc
  refine ⟨h.setG hb hm hw hr (by rw [get, if_pos rfl]) (by rw [hc, hc2]) (by rw [(nz _ hc).1, (nz _ hc2).1]) rfl hsub ?_ (fun k l hl => hl) (fun k l c' p hl _ _ _ => hl), kept_setG hb hm hw (nz _ hc).2 rfl hsub ?_ hl⟩
  · intro c' p nn hne hcc hmc e'
    obtain ⟨ch', l, k1, k2, _⟩ := h.sep c' b p _ nn m hne (hsub c' p hne hcc) hb hmc hm e'
    rw [hc] at k2
    exact nomatch k2
  · intro c' hn
    have hne : c' ≠ b := by intro e'; subst e'; rw [hm] at hn; exact nomatch hn
    rw [get, if_neg hne]

/-! ### rows -/
theorem setsN_get (l : List AV) (o : Nat) (vs : List AV) (h : o + vs.length ≤ l.length) (i : Nat) : (setsN l o vs)[i]? = if o ≤ i ∧ i < o + vs.length then vs[i - o]? else l[i]? := by
  rw [setsN_eq, List.getElem?_append, List.length_take, Nat.min_eq_left (by omega)]
  by_cases h1 : i < o
  · rw [if_pos h1, if_neg (by omega), List.getElem?_take, if_pos h1]
  · rw [if_neg h1, List.getElem?_append]
    by_cases h2 : i - o < vs.length
    · rw [if_pos h2, if_pos (by omega)]
    · rw [if_neg h2, if_neg (by omega), List.getElem?_drop, show o + vs.length + (i - o - vs.length) = i from by omega]
theorem trPuts_get : ∀ (vs : List AV) (o : Nat) (t : T AV) (i : Nat), (trPuts vs o t).get i = if o ≤ i ∧ i < o + vs.length then vs[i - o]? else t.get i := by
  intro vs
  induction vs with
  | nil => intro o t i; rw [if_neg (by simp only [List.length_nil]; omega)]; rfl
  | cons v r ih =>
    intro o t i
    show (trPuts r (Nat.succ o) (t.put (some v) o)).get i = _
    rw [ih, T.get_put]
    simp only [List.length_cons, Nat.succ_eq_add_one]
    by_cases h1 : o + 1 ≤ i ∧ i < o + 1 + r.length
    · rw [if_pos h1, if_pos (by omega), show i - o = (i - (o + 1)) + 1 from by omega, List.getElem?_cons_succ]
    · rw [if_neg h1]
      by_cases e : i = o
      · subst e; rw [if_pos rfl, if_pos (by omega), Nat.sub_self, List.getElem?_cons_zero]
      · rw [if_neg e, if_neg (by omega)]
theorem puts_get {c : Cells} {n : Nat} (hl : ∀ l, c = .lst l → l.length = n) {o : Nat} {vs : List AV} (h : o + vs.length ≤ n) (i : Nat) :
    (c.puts o vs).get i = if o ≤ i ∧ i < o + vs.length then vs[i - o]? else c.get i := by
  cases c with
  | lst l =>
    show nth (setsN l o vs) i = if _ then _ else nth l i
    rw [nth_eq, nth_eq, setsN_get _ _ _ (by rw [hl l rfl]; exact h)]
  | tr t => exact trPuts_get vs o t i
theorem puts_len {c : Cells} {n : Nat} (hl : ∀ l, c = .lst l → l.length = n) {o : Nat} {vs : List AV} (h : o + vs.length ≤ n) : ∀ l, c.puts o vs = .lst l → l.length = n := by
  intro l e
  cases c with
  | lst k =>
    have e2 : Cells.lst (setsN k o vs) = .lst l := e
    injection e2 with e2
    subst e2
    have := hl k rfl
    rw [setsN_eq]
    simp
    omega
  | tr t => exact nomatch e

theorem one_v {l : List AV} {l' : List Value} (h : VRs μ l l') (h1 : ∀ v ∈ l, oneA v = true) : ∀ v ∈ l', v.oneCell' = true := by
  induction h with
  | nil => intro v hv; exact nomatch hv
  | @cons a b l m hab hl ih =>
    intro v hv
    simp only [List.mem_cons] at hv
    rcases hv with rfl | hv
    · have e := hab.one
      rw [h1 a (by simp)] at e
      cases v <;> first | rfl | exact nomatch e
    · exact ih (fun v hv => h1 v (by simp [hv])) v hv

/-- cells written -/
theorem write_ok {A A' : AH} {w : World} (h : R P μ A w) {b o : Nat} {vs : List AV} {vs' : List Value} {b' d : Nat} {x : Option (Nat × Nat)} (hw : A.write b o vs = some A') (hm : μ b = some (b', d, x))
    (hv : VRs μ vs vs') (h1 : ∀ v ∈ vs, oneA v = true) (B : Nat) :
    ∃ w', (storeCells ⟨b', d + o, none⟩ vs').run P w = .ok () w' ∧ R P μ A' w' ∧ Kept B μ μ A A' w w' ∧ A'.next = A.next := by
  obtain ⟨ob', ho, hw⟩ := ob_eq hw
  obtain ⟨n, c, e, ex, md, fz, ch, rfl, hw⟩ := onCells_eq hw
  unfold AH.write1 at hw
  obtain ⟨hc, hw⟩ := ot_eq hw
  simp only [ba_eq, nb_eq, nbeq_eq, nle_eq, len_eq, Bool.and_eq_true, Bool.not_eq_true', decide_eq_false_iff_not, decide_eq_true_eq] at hc
  obtain ⟨hmd, hfz, hle⟩ := hc
  replace hle : o + vs.length ≤ n := hle
  injection hw with hw
  obtain ⟨o', g1, g2⟩ := h.obj b _ _ ho hm
  cases o' with
  | cells cs e' fr =>
    obtain ⟨k1, k2, k3, k4, k5, k6, k7, k8, k9⟩ := g2
    simp only at k1 k2 k3 k4 k5 k6 k7 k8 k9 g1
    have hlen := hv.length
    have hset := setCells_at vs' (o := d + o) g1
    have hr : ObjR P μ d x (.cells n (c.puts o vs) e ex md fz ch) (.cells (putsV cs (d + o) vs') e' fr) := by
      refine ⟨k1, k2, by rw [putsV_size]; exact k3, ⟨k4.1, fun hx => by rw [putsV_size]; exact k4.2 hx⟩, puts_len k5 hle, ?_, ?_, k8, fun S s e => by rw [putsV_size]; exact k9 S s e⟩
      · intro i v hi
        rw [puts_get k5 hle] at hi
        rw [putsV_get _ _ _ _ (by omega)]
        split at hi
        · rename_i hin
          obtain ⟨v', hv', hr⟩ := hv.get hi
          refine ⟨by omega, h1 v (List.mem_of_getElem? hi), v', ?_, hr⟩
          rw [if_pos (by omega), show d + i - (d + o) = i - o from by omega]
          exact hv'
        · obtain ⟨a1, a2, v', a3, a4⟩ := k6 i v hi
          refine ⟨a1, a2, v', ?_, a4⟩
          rw [if_neg (by omega)]
          exact a3
      · intro j j1 j2 j3
        rw [putsV_size] at j3
        exact k7 j j1 j2 j3
    obtain ⟨q1, q2⟩ := h.own ho hm hset hmd hr B
    rw [hw] at q1 q2
    refine ⟨w.setCells b' (d + o) vs', ?_, q1, q2, by rw [← hw]; exact only_next A b ch⟩
    exact run_storeCells_cells (P := P) b' (d + o) vs' 0 w (fun j hj => by
        have hlt : d + o + j < cs.size := by omega
        unfold World.cell?
        simp only [g1]
        simp [hlt])
      (fun j hj => by
        unfold World.frozen?
        simp only [g1]
        cases hd : (decide (fr.1 ≤ d + o + 0 + j) && decide (d + o + 0 + j < fr.2)) with
        | false => rfl
        | true =>
          exfalso
          simp at hd
          have := k7 (d + o + j) hd.1 hd.2 (by omega)
          omega)
      (one_v hv h1)
  | _ => exact g2.elim
end Go.Ev
end
