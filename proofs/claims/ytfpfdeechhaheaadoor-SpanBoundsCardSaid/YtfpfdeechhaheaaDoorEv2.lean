/- The evaluator Ev and its soundness, part 3 of 7: what it computes of a function, the model's machine computes on every tape. -/
import Derived.Test.YtfpfdeechhaheaaDoorEv1
import Derived.Laws.Cells
import Derived.Laws.BytesString
section
/- Ev, part 16: pure operations: the theorem. -/
namespace Go.Ev
variable [F : Facts] [E : Env]
set_option linter.unusedVariables false
set_option linter.constructorNameAsVariable false
set_option linter.unusedSectionVars false
set_option linter.unusedSimpArgs false
set_option linter.unusedVariables false
variable {P : Program} {μ : Mu}
variable {wr : WrT} {io : Opd → Option AV} {ρ : Operand → Value}

theorem mmS_ok {mx : Bool} {v y u : AV} {v' y' : Value} (hs : bo (isSym v) (isSym y) = true) (h : mmS mx v y = some u) (hv : VR μ v v') (hy : VR μ y y') :
    ∃ k a b, v' = .int k a ∧ y' = .int k b ∧ VR μ u (.int k (if mx then (if b > a then b else a) else (if b < a then b else a))) := by
  obtain ⟨r, hr, h⟩ := ob_eq h
  obtain ⟨t, e, h⟩ := onBool_eq h
  subst e
  injection h with h
  -- both are sums
  have key : ∃ k a b, v' = .int k a ∧ y' = .int k b ∧ (cmp .lss v y = some (.bool true) → a < b) ∧ (cmp .lss v y = some (.bool false) → ¬ a < b) ∧ (cmp .lss y v = some (.bool true) → b < a) ∧ (cmp .lss y v = some (.bool false) → ¬ b < a) := by
    have hlt : ∀ {a b : Int} {t : Bool}, cmpI .lss a b = some (.bool t) → t = decide (a < b) := by
      intro a b t h
      unfold cmpI at h
      rw [ilt_eq] at h
      injection h with h
      injection h with h
      exact h.symm
    have sums : ∀ {x z : AV} {x' z' : Value} {t : Bool}, (isSym x = true ∨ isSym z = true) → VR μ x x' → VR μ z z' → cmp .lss x z = some (.bool t) → ∃ k a b, x' = .int k a ∧ z' = .int k b ∧ t = decide (a < b) := by
      intro x z x' z' t hor hx hz hc
      unfold cmp at hc
      split at hc
      · split at hc
        · obtain ⟨hk, h3⟩ := ot_eq hc
          rw [keq_eq, decide_eq_true_eq] at hk
          subst hk
          exact ⟨_, _, _, hx.inv_int0, hz.inv_sum, hlt (cmpU_bool h3)⟩
        · rename_i hns
          rcases hor with h | h
          · simp [isSym] at h
          · exfalso
            cases z <;> first | (simp [isSym] at h; done) | exact hns _ _ _ rfl
      · obtain ⟨k', d, r, h2, ey⟩ := onSum_eq hc hz
        obtain ⟨hk, h3⟩ := ot_eq h2
        rw [keq_eq, decide_eq_true_eq] at hk
        subst hk
        exact ⟨_, _, _, hx.inv_sum, ey, hlt (cmpU_bool h3)⟩
      · rcases hor with h | h
        · simp [isSym] at h
        · cases z <;> first | (simp [isSym] at h; done) | (simp [onStr] at hc; done)
      · rename_i h1 h2 h3
        exact nomatch hc
    have hor : isSym v = true ∨ isSym y = true := by simpa using hs
    have ex : ∃ k a b, v' = .int k a ∧ y' = .int k b := by
      rw [bif2_eq] at hr
      split at hr
      · obtain ⟨k, a, b, e1, e2, e3⟩ := sums hor hv hy hr
        exact ⟨k, a, b, e1, e2⟩
      · obtain ⟨k, b, a, e2, e1, e3⟩ := sums hor.symm hy hv hr
        exact ⟨k, a, b, e1, e2⟩
    obtain ⟨k, a, b, e1, e2⟩ := ex
    have c1 : ∀ t, cmp .lss v y = some (.bool t) → t = decide (a < b) := by
      intro t h
      obtain ⟨k', a', b', f1, f2, f3⟩ := sums hor hv hy h
      have g1 := e1.symm.trans f1
      have g2 := e2.symm.trans f2
      injection g1 with _ g1
      injection g2 with _ g2
      rw [g1, g2]; exact f3
    have c2 : ∀ t, cmp .lss y v = some (.bool t) → t = decide (b < a) := by
      intro t h
      obtain ⟨k', b', a', f2, f1, f3⟩ := sums hor.symm hy hv h
      have g1 := e1.symm.trans f1
      have g2 := e2.symm.trans f2
      injection g1 with _ g1
      injection g2 with _ g2
      rw [g1, g2]; exact f3
    exact ⟨k, a, b, e1, e2, fun h => by simpa using (c1 _ h).symm, fun h => by simpa using (c1 _ h).symm, fun h => by simpa using (c2 _ h).symm, fun h => by simpa using (c2 _ h).symm⟩
  obtain ⟨k, a, b, rfl, rfl, c1, c2, c3, c4⟩ := key
  refine ⟨k, a, b, rfl, rfl, ?_⟩
  rw [bif2_eq] at h
  cases mx with
  | true =>
    rw [bif2_true] at hr
    cases t with
    | true =>
      have := c1 hr
      subst h
      simpa [this] using hy
    | false =>
      have := c2 hr
      subst h
      simpa [this] using hv
  | false =>
    rw [bif2_false] at hr
    cases t with
    | true =>
      have := c3 hr
      subst h
      simpa [this] using hy
    | false =>
      have := c4 hr
      subst h
      simpa [this] using hv

theorem mm_ok : ∀ {mx : Bool} {l : List AV} {v r : AV} {v' : Value} {l' : List Value} (w : World), mm mx l v = some r → VR μ v v' → VRs μ l l' →
    ∃ r', (l'.foldlM (if mx then Builtin.max2 else Builtin.min2) v').run P w = .ok r' w ∧ VR μ r r' := by
  intro mx l
  induction l with
  | nil =>
    intro v r v' l' w h hv hl
    cases hl
    injection h with h
    subst h
    exact ⟨v', rfl, hv⟩
  | cons y l ih =>
    intro v r v' l' w h hv hl
    cases hl with
    | cons hy hl =>
    unfold mm at h
    rw [lrec_cons, bif2_eq] at h
    split at h
    · rename_i hs
      obtain ⟨u, hu, h⟩ := ob_eq h
      obtain ⟨k, a, b, rfl, rfl, hr⟩ := mmS_ok (mx := mx) hs hu hv hy
      obtain ⟨r', h1, h2⟩ := ih (v' := .int k (if mx then (if b > a then b else a) else (if b < a then b else a))) w h hr hl
      refine ⟨r', ?_, h2⟩
      rw [List.foldlM_cons]
      have : ((if mx then Builtin.max2 else Builtin.min2) (.int k a) (.int k b)).run P w = .ok (.int k (if mx then (if b > a then b else a) else (if b < a then b else a))) w := by
        cases mx <;> rfl
      rw [run_ok this]
      exact h1
    obtain ⟨k, a, e1, h⟩ := onInt_eq h
    obtain ⟨k2, b, e2, h⟩ := onInt_eq h
    subst e1; subst e2
    have e1 := hv.inv_int
    have e2 := hy.inv_int
    subst e1; subst e2
    obtain ⟨r', h1, h2⟩ := ih (v' := .int k (if mx then (if b > a then b else a) else (if b < a then b else a))) w h (by
      unfold mm1
      rw [bif2_eq, bif2_eq, ilt_eq, ilt_eq]
      cases mx <;> simp only [if_true, Bool.false_eq_true, if_false, decide_eq_true_eq] <;> exact .int _ _) hl
    refine ⟨r', ?_, h2⟩
    rw [List.foldlM_cons]
    have : ((if mx then Builtin.max2 else Builtin.min2) (.int k a) (.int k2 b)).run P w = .ok (.int k (if mx then (if b > a then b else a) else (if b < a then b else a))) w := by
      cases mx <;> rfl
    rw [run_ok this]
    exact h1

theorem ok_minmax (hio : IOR μ wr io ρ) {mx : Bool} {l : List Operand} {xs : List Opd} {v : AV} (hx : opnds wr l = some xs) (he : pMinmax io mx xs = some v) (w : World) (ts : Array TypeId) (t : TypeId) (args : Array Value) (ha : args.toList = l.map ρ) :
    ∃ v', ((if mx then Builtin.max_ else Builtin.min_) ts t args).run P w = .ok v' w ∧ VR μ v v' := by
  obtain ⟨vs, hvs, he⟩ := ob_eq he
  have hr := ios_rel hio hx hvs
  generalize l.map ρ = al at hr ha
  unfold mm0 at he
  cases hr with
  | nil => exact nomatch he
  | cons hu hus =>
    obtain ⟨r', h1, h2⟩ := mm_ok (P := P) w he hu hus
    refine ⟨r', ?_, h2⟩
    cases mx
    · show (Builtin.min_ ts t args).run P w = _
      unfold Builtin.min_
      rw [ha]
      exact h1
    · show (Builtin.max_ ts t args).run P w = _
      unfold Builtin.max_
      rw [ha]
      exact h1

theorem encode_small (n : Nat) (h : n < 128) : Utf8.encode (Int.ofNat n) = ⟨#[UInt8.ofNat n]⟩ := by
  have hval : Utf8.valid (Int.ofNat n) = true := by
    unfold Utf8.valid
    rw [Bool.or_eq_true]
    left
    rw [Bool.and_eq_true]
    exact ⟨decide_eq_true (Int.natCast_nonneg n), decide_eq_true (by show (n : Int) < _; omega)⟩
  unfold Utf8.encode
  simp only [hval, if_true]
  rw [if_pos (show (Int.ofNat n).toNat < 0x80 from h)]
  rfl

theorem run_v {s : Sem Value} {w w' : World} {v' : Value} (h : s.run P w = .ok v' w') : (do pure (.value (← s)) : Sem Next).run P w = .ok (.value v') w' := by
  rw [run_ok h]; rfl

section
variable (hio : IOR μ wr io ρ)
include hio

theorem ok_un {op : UnOp} {x v : AV} {x' : Value} (h : un1 op x = some v) (hx : VR μ x x') (w : World) : ∃ v', (Op.unary op x').run P w = .ok v' w ∧ VR μ v v' := by
  unfold un1 at h
  cases op with
  | neg =>
    dsimp only at h
    split at h
    · rename_i k c l
      have h3 := okSymW_ok h
      have e := hx.inv_sum
      subst e
      rw [linV_scale] at h3
      have e2 : Int.sub 0 c + (-1) * linV E.val l = 0 - (c + linV E.val l) := by
        show (0 - c) + _ = _
        omega
      rw [e2] at h3
      exact ⟨.int k (k.wrap (0 - (c + linV E.val l))), rfl, VR.of_sum h3⟩
    obtain ⟨k, n, e, h⟩ := onInt_eq h
    subst e
    have e := hx.inv_int
    subst e
    injection h with h
    refine ⟨.int k (k.wrap (0 - n)), rfl, ?_⟩
    rw [← h, wrapF_eq]
    exact .int _ _
  | xor =>
    obtain ⟨k, n, e, h⟩ := onInt_eq h
    subst e
    have e := hx.inv_int
    subst e
    injection h with h
    exact ⟨_, rfl, by rw [← h]; exact .int _ _⟩
  | not =>
    obtain ⟨b, e, h⟩ := onBool_eq h
    subst e
    have e := hx.inv_bool
    subst e
    injection h with h
    exact ⟨_, rfl, by rw [← h, nb_eq]; exact .bool _⟩
  | plus => exact nomatch h

theorem ok_conv {s d : TypeId} {x : Operand} {q : POp} {v : AV} (hc : kConv (ttOf P) wr s d x = some (.p q)) (he : evP io P (ttOf P) q = some v) (w : World) :
    ∃ v', (convert s d (ρ x)).run P w = .ok v' w ∧ VR μ v v' := by
  obtain ⟨a, ha, hc⟩ := ob_eq hc
  obtain ⟨ds, hds, hc⟩ := ob_eq hc
  obtain ⟨dd, hdd, hc⟩ := ob_eq hc
  unfold convert
  rw [run_ok (run_und hds w), run_ok (run_und hdd w)]
  unfold kConv1 at hc
  split at hc
  · have hq := (inj_p hc).symm
    subst hq
    obtain ⟨u, hu, he⟩ := ob_eq he
    unfold toInt1 at he
    split at he
    · rename_i k2 k1 c l
      have h3 := okSymW_ok he
      have e := (hio _ _ _ ha hu).inv_sum
      rw [e]
      exact ⟨_, rfl, VR.of_sum h3⟩
    · obtain ⟨k', n, e, he⟩ := onInt_eq he
      subst e
      have e := (hio _ _ _ ha hu).inv_int
      rw [e]
      injection he with hev
      exact ⟨_, rfl, by rw [← hev, wrapF_eq]; exact .int _ _⟩
  · have hq := (inj_p hc).symm
    subst hq
    obtain ⟨u, hu, he⟩ := ob_eq he
    have hr := hio _ _ _ ha hu
    unfold toStr1 at he
    split at he
    · injection he with hev
      obtain ⟨s, e, _, _⟩ := hr.inv_str
      rw [e] at hr ⊢
      exact ⟨_, rfl, by rw [← hev]; exact hr⟩
    · obtain ⟨k, n, e, he⟩ := onNat_eq he
      subst e
      obtain ⟨hlt, he⟩ := ot_eq he
      rw [nlt_eq, decide_eq_true_eq] at hlt
      have e := hr.inv_int
      rw [e]
      injection he with hev
      refine ⟨.string ⟨#[UInt8.ofNat n]⟩, ?_, ?_⟩
      · show (Conv.intToString (Int.ofNat n)).run P w = _
        unfold Conv.intToString
        show Result.ok (Value.string (Utf8.encode (Int.ofNat n))) w = _
        rw [encode_small n hlt]
      · rw [← hev]
        refine VR.str_of rfl ?_
        show n = (UInt8.ofNat n).toNat + 256 * 0
        simp
        omega
  · have hq := (inj_p hc).symm
    subst hq
    obtain ⟨u, hu, he⟩ := ob_eq he
    have hr := hio _ _ _ ha hu
    unfold toStr1 at he
    split at he
    · injection he with hev
      obtain ⟨s, e, _, _⟩ := hr.inv_str
      rw [e] at hr ⊢
      exact ⟨_, rfl, by rw [← hev]; exact hr⟩
    · obtain ⟨k, n, e, he⟩ := onNat_eq he
      subst e
      obtain ⟨hlt, he⟩ := ot_eq he
      rw [nlt_eq, decide_eq_true_eq] at hlt
      have e := hr.inv_int
      rw [e]
      injection he with hev
      refine ⟨.string ⟨#[UInt8.ofNat n]⟩, ?_, ?_⟩
      · show (Conv.intToString (Int.ofNat n)).run P w = _
        unfold Conv.intToString
        show Result.ok (Value.string (Utf8.encode (Int.ofNat n))) w = _
        rw [encode_small n hlt]
      · rw [← hev]
        refine VR.str_of rfl ?_
        show n = (UInt8.ofNat n).toNat + 256 * 0
        simp
        omega
  · obtain ⟨e, _, hc⟩ := ob_eq hc
    obtain ⟨_, hc⟩ := ot_eq hc
    obtain ⟨_, _, hc⟩ := ob_eq hc
    obtain ⟨_, hc⟩ := ot_eq hc
    exact (noP_a hc).elim
  · obtain ⟨e, _, hc⟩ := ob_eq hc
    obtain ⟨_, hc⟩ := ot_eq hc
    exact (noP_l hc).elim
  · obtain ⟨_, _, hc⟩ := ob_eq hc
    obtain ⟨_, hc⟩ := ot_eq hc
    exact (noP_l hc).elim
  · obtain ⟨_, _, hc⟩ := ob_eq hc
    obtain ⟨_, hc⟩ := ot_eq hc
    exact (noP_l hc).elim
  · exact nomatch hc

theorem ok_ixAddr {t : TypeId} {x i : Operand} {q : POp} {v : AV} (hc : kIxAddr (ttOf P) wr t x i = some (.p q)) (he : evP io P (ttOf P) q = some v) (w : World) :
    ∃ v', (Instr.indexAt t (ρ x) (ρ i)).run P w = .ok v' w ∧ VR μ v v' := by
  obtain ⟨a, ha, hc⟩ := ob_eq hc
  obtain ⟨b, hb, hc⟩ := ob_eq hc
  obtain ⟨d, hd, hc⟩ := ob_eq hc
  unfold Instr.indexAt
  unfold kIxAddr1 at hc
  split at hc
  · rename_i n e
    obtain ⟨s, hs, hc⟩ := ob_eq hc
    have hq := (inj_p hc).symm
    subst hq
    obtain ⟨u, hu, he⟩ := ob_eq he
    obtain ⟨bb, o, e1, he⟩ := onPtr_eq he
    subst e1
    obtain ⟨u2, hu2, he⟩ := ob_eq he
    obtain ⟨k, j, e2, he⟩ := onNat_eq he
    subst e2
    obtain ⟨hlt, he⟩ := ot_eq he
    rw [nlt_eq, decide_eq_true_eq] at hlt
    injection he with hev
    obtain ⟨b', d', x', hm, ex⟩ := (hio _ _ _ ha hu).inv_ptr
    have ei := (hio _ _ _ hb hu2).inv_int
    rw [ex, ei]
    refine ⟨.pointer (some ⟨b', d' + (o + j * s), none⟩), ?_, by rw [← hev]; exact .ptr hm⟩
    rw [run_ok (run_asInt w)]
    simp only [run_bind, run_und hd w, Instr.sureAddr, run_pure]
    rw [if_pos ⟨Int.natCast_nonneg j, by show (j : Int) < n; omega⟩]
    rw [run_bind, run_size hs w]
    show Result.ok _ w = _
    rw [show (Int.ofNat j).toNat = j from rfl, addr_add]
  · rename_i e
    obtain ⟨s, hs, hc⟩ := ob_eq hc
    have hq := (inj_p hc).symm
    subst hq
    obtain ⟨u, hu, he⟩ := ob_eq he
    rcases onSlx_eq he with ⟨bb, o, n, c, ts, e1, he⟩ | ⟨_, he⟩
    · subst e1
      obtain ⟨u2, hu2, he⟩ := ob_eq he
      obtain ⟨k, j, e2, he⟩ := onNat_eq he
      subst e2
      obtain ⟨hlt, he⟩ := ot_eq he
      rw [nlt_eq, decide_eq_true_eq] at hlt
      injection he with hev
      obtain ⟨adr, len, cap', hm0, hl, hn, ev⟩ := (hio _ _ _ ha hu).inv_slx
      obtain ⟨b', d', x', hm, rfl⟩ := hm0 (by omega)
      clear hm0
      have ei := (hio _ _ _ hb hu2).inv_int
      rw [ev, ei]
      refine ⟨.pointer (some ⟨b', d' + (o + j * s), none⟩), ?_, by rw [← hev]; exact .ptr hm⟩
      rw [run_ok (run_asInt w)]
      simp only [run_bind, run_und hd w, run_pure]
      rw [if_pos ⟨Int.natCast_nonneg j, by show (j : Int) < len; omega⟩]
      rw [run_bind, run_size hs w]
      show Result.ok _ w = _
      rw [show (Int.ofNat j).toNat = j from rfl, addr_add]
    rcases onSl_eq he with ⟨bb, o, len, cap, e1, he⟩ | ⟨_, h⟩
    · subst e1
      obtain ⟨u2, hu2, he⟩ := ob_eq he
      obtain ⟨k, j, e2, he⟩ := onNat_eq he
      subst e2
      obtain ⟨hlt, he⟩ := ot_eq he
      rw [nlt_eq, decide_eq_true_eq] at hlt
      injection he with hev
      obtain ⟨b', d', x', hm, hv⟩ := (hio _ _ _ ha hu).inv_sl
      have ei := (hio _ _ _ hb hu2).inv_int
      rcases hv with ⟨cap', ev, _, _⟩ | ⟨_, _, _, _, h0, _, _⟩
      · rw [ev, ei]
        refine ⟨.pointer (some ⟨b', d' + (o + j * s), none⟩), ?_, by rw [← hev]; exact .ptr hm⟩
        rw [run_ok (run_asInt w)]
        simp only [run_bind, run_und hd w, run_pure]
        rw [if_pos ⟨Int.natCast_nonneg j, by show (j : Int) < len; omega⟩]
        rw [run_bind, run_size hs w]
        show Result.ok _ w = _
        rw [show (Int.ofNat j).toNat = j from rfl, addr_add]
      · omega
    · exact nomatch h
  · exact nomatch hc

theorem ok_index {t : TypeId} {x i : Operand} {q : POp} {v : AV} (hc : kIndex (ttOf P) wr t x i = some (.p q)) (he : evP io P (ttOf P) q = some v) (w : World) :
    ∃ v', (Instr.index t (ρ x) (ρ i)).run P w = .ok v' w ∧ VR μ v v' := by
  obtain ⟨a, ha, hc⟩ := ob_eq hc
  obtain ⟨b, hb, hc⟩ := ob_eq hc
  obtain ⟨d, hd, hc⟩ := ob_eq hc
  unfold Instr.index
  unfold kIndex1 at hc
  split at hc
  · rename_i n e
    obtain ⟨s, hs, hc⟩ := ob_eq hc
    obtain ⟨g, hg, hc⟩ := ob_eq hc
    have hq := (inj_p hc).symm
    subst hq
    obtain ⟨u, hu, he⟩ := ob_eq he
    obtain ⟨u2, hu2, he⟩ := ob_eq he
    obtain ⟨k, j, e2, he⟩ := onNat_eq he
    subst e2
    obtain ⟨hlt, he⟩ := ot_eq he
    rw [nlt_eq, decide_eq_true_eq] at hlt
    have ei := (hio _ _ _ hb hu2).inv_int
    obtain ⟨cs', u', ev, hr, hrel⟩ := part_ok (P := P) hg hs he (hio _ _ _ ha hu) w
    rw [ev, ei]
    refine ⟨u', ?_, hrel⟩
    rw [run_ok (run_asInt w)]
    simp only [run_bind, run_und hd w]
    rw [if_pos ⟨Int.natCast_nonneg j, by show (j : Int) < n; omega⟩]
    rw [run_bind, run_size hs w]
    exact hr
  · have hq := (inj_p hc).symm
    subst hq
    obtain ⟨u, hu, he⟩ := ob_eq he
    obtain ⟨l, n, e1, he⟩ := onStr_eq he
    subst e1
    obtain ⟨u2, hu2, he⟩ := ob_eq he
    obtain ⟨k, j, e2, he⟩ := onNat_eq he
    subst e2
    obtain ⟨hlt, he⟩ := ot_eq he
    rw [nlt_eq, decide_eq_true_eq] at hlt
    injection he with hev
    have ei := (hio _ _ _ hb hu2).inv_int
    obtain ⟨s, es, rfl, rfl⟩ := (hio _ _ _ ha hu).inv_str
    rw [es, ei]
    have hj : j < s.size := hlt
    have hget : s[j]? = some (s[j]'hj) := by
      show (if h : j < s.size then some (s[j]'h) else none) = _
      rw [dif_pos hj]
    refine ⟨.int .u8 (s[j]'hj).toNat, ?_, ?_⟩
    · rw [run_ok (run_asInt w)]
      simp only [run_bind, run_und hd w]
      rw [if_pos (show (0 : Int) ≤ Int.ofNat j from Int.natCast_nonneg j), show (Int.ofNat j).toNat = j from rfl, hget]
      rfl
    · rw [← hev]
      have : (Int.ofNat (Nat.mod (Nat.div (bytesNum s.data.toList) (Nat.pow 256 j)) 256)) = ((s[j]'hj).toNat : Int) := by
        show ((bytesNum s.data.toList / 256 ^ j % 256 : Nat) : Int) = _
        rw [bytesNum_at s.data.toList j (s[j]'hj) (by
          rw [List.getElem?_eq_getElem (by exact hlt)]; rfl)]
      rw [this]
      exact .int _ _
  · exact nomatch hc

theorem ok_assert {x : Operand} {xt t : TypeId} {ok : Bool} {q : POp} {v : AV} (hc : kAssert (ttOf P) wr x t ok = some (.p q)) (he : evP io P (ttOf P) q = some v) (w : World) :
    ∃ v', (Instr.typeAssert (ρ x) xt t ok).run P w = .ok v' w ∧ VR μ v v' := by
  obtain ⟨a, ha, hc⟩ := ob_eq hc
  obtain ⟨d, hd, hc⟩ := ob_eq hc
  obtain ⟨z, hz, hc⟩ := ob_eq hc
  obtain ⟨hi, hc⟩ := ot_eq hc
  have hq := (inj_p hc).symm
  subst hq
  obtain ⟨z', hz', hzr⟩ := zeroOf_run (P := P) hz μ w
  obtain ⟨u, hu, he⟩ := ob_eq he
  have hr := hio _ _ _ ha hu
  have okT : ∀ {a : AV} {a' : Value} (b : Bool), VR μ a a' → VR μ (okTup a b) (.tuple #[a', .bool b]) := by
    intro a a' b h
    exact .tup (.cons h (.cons (.bool b) .nil))
  rw [nb_eq] at hi
  have hni : ∀ ms, d ≠ .interface ms := by
    intro ms e
    subst e
    exact Bool.noConfusion hi
  rcases onIfc_eq he with ⟨u1, u2, e, he2⟩ | ⟨e, he2⟩
  · subst e
    clear he
    have he := he2
    clear he2
    cases hr' : ρ x with
    | iface tt vv =>
      rw [hr'] at hr
      cases hr with
      | ifc _ hv =>
      rw [bif2_eq, nbeq_eq] at he
      unfold Instr.typeAssert
      rw [run_ok (run_und hd w)]
      by_cases e : u1 = t
      · rw [if_pos (by simpa using e)] at he
        injection he with hev
        subst e
        cases ok with
        | true => exact ⟨.tuple #[vv, .bool true], by cases d <;> first | exact absurd rfl (hni _) | (simp; done), by rw [← hev]; exact okT true hv⟩
        | false => exact ⟨vv, by cases d <;> first | exact absurd rfl (hni _) | (simp; done), by rw [← hev]; exact hv⟩
      · rw [if_neg (by simpa using e)] at he
        obtain ⟨hok, he⟩ := ot_eq he
        injection he with hev
        subst hok
        refine ⟨.tuple #[z', .bool false], ?_, by rw [← hev]; exact okT false hzr⟩
        cases d <;> first | exact absurd rfl (hni _) | (simp [e, run_bind, hz']; done)
    | _ => rw [hr'] at hr; exact nomatch hr
  · subst e
    obtain ⟨hok, he⟩ := ot_eq he2
    injection he with hev
    subst hok
    cases hr' : ρ x with
    | nilIface =>
      unfold Instr.typeAssert
      rw [run_ok (run_und hd w)]
      refine ⟨.tuple #[z', .bool false], ?_, by rw [← hev]; exact okT false hzr⟩
      cases d <;> first | exact absurd rfl (hni _) | (simp [run_bind, hz']; done)
    | _ => rw [hr'] at hr; exact nomatch hr
end
end Go.Ev
end

section
/- Ev, part 17: pure operations: the theorem. -/
namespace Go.Ev
set_option linter.unusedSectionVars false
variable [F : Facts] [E : Env]
set_option linter.unusedSimpArgs false
set_option linter.unusedVariables false
variable {P : Program} {μ : Mu}
variable {wr : WrT} {io : Opd → Option AV} {ρ : Operand → Value}

theorem one_arr {α : Type} {a : Array α} {x : α} (h : a.toList = [x]) : a = #[x] := by
  cases a; simp_all
theorem two_arr {α : Type} {a : Array α} {x y : α} (h : a.toList = [x, y]) : a = #[x, y] := by
  cases a; simp_all
theorem map_one (f : Operand → Value) (x : Operand) : (#[x] : Array Operand).map f = #[f x] := by simp
theorem map_two (f : Operand → Value) (x y : Operand) : (#[x, y] : Array Operand).map f = #[f x, f y] := by simp

theorem VR.slice_form {b o len cap : Nat} {v : Value} (h : VR μ (.sl b o len cap) v) : ∃ a c, v = .slice (some a) len c ∧ cap ≤ c ∧ (0 < cap → ∃ b' d x, μ b = some (b', d, x) ∧ a = ⟨b', d + o, none⟩) := by
  obtain ⟨b', d', x', hm, hv⟩ := h.inv_sl
  rcases hv with ⟨cap', e, hc, _⟩ | ⟨o', cap', _, _, h0, h1, e⟩
  · exact ⟨_, _, e, hc, fun _ => ⟨b', d', x', hm, rfl⟩⟩
  · subst h0; subst h1; exact ⟨_, _, e, Nat.zero_le _, fun h => absurd h (Nat.lt_irrefl 0)⟩

section
variable (hio : IOR μ wr io ρ) (hk : ∀ a v, io (.c a) = some v → v = a)
include hio hk

theorem ok_len1 {ox : Operand} {x : Opd} {t ty : TypeId} {d : TypeDesc} {q : POp} {v : AV} (hxx : opnd wr ox = some x) (hd : und (ttOf P) t = some d) (hc : kLen x d = some (.p q)) (he : evP io P (ttOf P) q = some v) (w : World) :
    ∃ v', (Builtin.len_ #[t] ty #[ρ ox]).run P w = .ok v' w ∧ VR μ v v' := by
  unfold kLen at hc
  cases d with
  | string =>
    have hq := (inj_p hc).symm
    subst hq
    obtain ⟨u, hu, he⟩ := ob_eq he
    obtain ⟨l, n, e, he⟩ := onStr_eq he
    subst e
    injection he with hev
    obtain ⟨s, es, rfl, rfl⟩ := (hio _ _ _ hxx hu).inv_str
    refine ⟨goInt s.size, ?_, by rw [← hev]; exact .int _ _⟩
    rw [es]
    show (underlying t >>= fun d => _).run P w = _
    rw [run_ok (run_und hd w)]; rfl
  | slice e =>
    have hq := (inj_p hc).symm
    subst hq
    obtain ⟨u, hu, he⟩ := ob_eq he
    rcases onSlx_eq he with ⟨b, o, n, c, ts, e1, he2⟩ | ⟨_, he⟩
    · subst e1
      injection he2 with hev
      obtain ⟨a, len, cap', _, hl, hn, es⟩ := (hio _ _ _ hxx hu).inv_slx
      refine ⟨goInt len, ?_, by rw [← hev]; exact VR.of_sum (hl ▸ mkSym_is _ _ _)⟩
      rw [es]
      show (underlying t >>= fun d => _).run P w = _
      rw [run_ok (run_und hd w)]; rfl
    rcases onSl_eq he with ⟨b, o, l, c, e1, he2⟩ | ⟨e1, he2⟩
    · subst e1
      injection he2 with hev
      obtain ⟨a, c', es, _, _⟩ := (hio _ _ _ hxx hu).slice_form
      refine ⟨goInt l, ?_, by rw [← hev]; exact .int _ _⟩
      rw [es]
      show (underlying t >>= fun d => _).run P w = _
      rw [run_ok (run_und hd w)]; rfl
    · subst e1
      injection he2 with hev
      have es := (hio _ _ _ hxx hu).inv_nils
      refine ⟨goInt 0, ?_, by rw [← hev]; exact .int _ _⟩
      rw [es]
      show (underlying t >>= fun d => _).run P w = _
      rw [run_ok (run_und hd w)]; rfl
  | map k e => exact (noP_l hc).elim
  | array n e =>
    have hq := (inj_p hc).symm
    subst hq
    refine ⟨goInt n, ?_, ?_⟩
    · show (underlying t >>= fun d => _).run P w = _
      rw [run_ok (run_und hd w)]; rfl
    · have := hk _ _ (show io (.c (.int .i64 (.ofNat n))) = some v from he)
      rw [this]
      exact .int _ _
  | _ => exact nomatch hc

theorem ok_call {o : Oper} {c : Call} (ho : o.op = .call c) {q : POp} {v : AV} (hc : kCall (ttOf P) wr c = some (.p q)) (he : evP io P (ttOf P) q = some v) (w : World) :
    Gives P μ (execOp ρ o) w v := by
  obtain ⟨as, has, hc⟩ := ob_eq hc
  unfold kCallee at hc
  split at hc
  · exact (noP_w hc).elim
  · obtain ⟨f, _, hc⟩ := ob_eq hc
    exact (noP_w hc).elim
  · obtain ⟨f, _, hc⟩ := ob_eq hc
    exact (noP_w hc).elim
  · rename_i b hb
    have hrun := call_builtin (P := P) (ρ := ρ) ho hb w
    unfold Gives
    rw [hrun]
    have hargs : (c.args.map ρ).toList = c.args.toList.map ρ := by simp
    unfold kBuiltin at hc
    split at hc
    · rename_i m hm
      have hq := (inj_p hc).symm
      subst hq
      obtain ⟨v', h1, h2⟩ := ok_minmax (P := P) hio has he w c.argTypes o.type (c.args.map ρ) hargs
      refine ⟨v', ?_, h2⟩
      cases b <;> simp only [isMM, Option.some.injEq, reduceCtorEq] at hm
      · subst hm
        exact run_v h1
      · subst hm
        exact run_v h1
    · split at hc
      · -- one argument
        rename_i x t hts
        obtain ⟨d, hd, hc⟩ := ob_eq hc
        obtain ⟨ox, hox, hxx⟩ := opnds_one has
        have ea := one_arr hox
        have et := one_arr hts
        rw [ea, et, map_one]
        unfold kBuiltin1 at hc
        split at hc
        · obtain ⟨v', h1, h2⟩ := ok_len1 (ty := o.type) hio hk hxx hd hc he w
          exact ⟨v', run_v h1, h2⟩
        · obtain ⟨hs, hc⟩ := ot_eq hc
          have hq := (inj_p hc).symm
          subst hq
          obtain ⟨u, hu, he⟩ := ob_eq he
          rcases onSl_eq he with ⟨b, o, l, c, e1, he2⟩ | ⟨e1, he2⟩
          · exact nomatch he2
          · subst e1
            injection he2 with hev
            have es := (hio _ _ _ hxx hu).inv_nils
            refine ⟨goInt 0, run_v ?_, by rw [← hev]; exact .int _ _⟩
            rw [es]
            show (underlying t >>= fun d => _).run P w = _
            rw [run_ok (run_und hd w)]
            cases d <;> first | rfl | exact Bool.noConfusion hs
        · exfalso
          unfold kClear1 at hc
          cases d with
          | slice e =>
            obtain ⟨z, _, hc⟩ := ob_eq hc
            obtain ⟨n, _, hc⟩ := ob_eq hc
            obtain ⟨_, hc⟩ := ot_eq hc
            exact noP_w hc
          | _ => exact nomatch hc
        · have hq := (inj_p hc).symm
          subst hq
          obtain ⟨u, hu, he⟩ := ob_eq he
          rcases onSl_eq he with ⟨b, oo, l, c, e1, he2⟩ | ⟨e1, he2⟩
          · subst e1
            obtain ⟨hlt, he3⟩ := ot_eq he2
            rw [nlt_eq, decide_eq_true_eq] at hlt
            injection he3 with hev
            obtain ⟨a, c', es, hcc, hloc⟩ := (hio _ _ _ hxx hu).slice_form
            obtain ⟨b', d', x', hm, ea'⟩ := hloc hlt
            refine ⟨.pointer (some a), run_v ?_, by rw [← hev, ea']; exact .ptr hm⟩
            rw [es]
            show (if c' ≠ 0 then (pure (Value.pointer (some a)) : Sem Value) else _).run P w = _
            rw [if_pos (by omega)]; rfl
          · subst e1
            injection he2 with hev
            have es := (hio _ _ _ hxx hu).inv_nils
            refine ⟨.pointer none, run_v ?_, by rw [← hev]; exact .nilp⟩
            rw [es]; rfl
        · exact nomatch hc
      · rename_i x y t u hts
        obtain ⟨d, hd, hc⟩ := ob_eq hc
        obtain ⟨d2, hd2, hc⟩ := ob_eq hc
        exfalso
        unfold kBuiltin2 at hc
        split at hc
        · unfold kAppend1 at hc
          split at hc
          · obtain ⟨i, _, hc⟩ := ob_eq hc
            obtain ⟨z, _, hc⟩ := ob_eq hc
            obtain ⟨_, hc⟩ := ot_eq hc
            exact noP_w hc
          · obtain ⟨i, _, hc⟩ := ob_eq hc
            obtain ⟨z, _, hc⟩ := ob_eq hc
            obtain ⟨_, hc⟩ := ot_eq hc
            exact noP_w hc
          · exact nomatch hc
        · unfold kCopy1 at hc
          split at hc
          · obtain ⟨i, _, hc⟩ := ob_eq hc
            obtain ⟨_, hc⟩ := ot_eq hc
            exact noP_w hc
          · exact nomatch hc
        · unfold kDelete1 at hc
          split at hc
          · exact noP_w hc
          · exact nomatch hc
        · unfold kUnsafeStr1 at hc
          split at hc
          · obtain ⟨i, _, hc⟩ := ob_eq hc
            obtain ⟨_, hc⟩ := ot_eq hc
            exact noP_w hc
          · exact nomatch hc
        · exact nomatch hc
      · exact nomatch hc

theorem pure_ok (o : Oper) {q : POp} {v : AV} (hc : compOp0 P (ttOf P) wr o.op = some (.p q)) (he : evP io P (ttOf P) q = some v) (w : World) : Gives P μ (execOp ρ o) w v := by
  cases ho : o.op with
  | move x =>
    rw [ho] at hc
    obtain ⟨a, ha, hc⟩ := ob_eq hc
    have hq := (inj_p hc).symm
    subst hq
    exact ⟨ρ x, by unfold execOp; rw [ho]; rfl, hio _ _ _ ha he⟩
  | assign x =>
    rw [ho] at hc
    obtain ⟨a, ha, hc⟩ := ob_eq hc
    have hq := (inj_p hc).symm
    subst hq
    exact ⟨ρ x, by unfold execOp; rw [ho]; rfl, hio _ _ _ ha he⟩
  | pick c a b =>
    rw [ho] at hc
    obtain ⟨c', hc', hc⟩ := ob_eq hc
    obtain ⟨a', ha', hc⟩ := ob_eq hc
    obtain ⟨b', hb', hc⟩ := ob_eq hc
    have hq := (inj_p hc).symm
    subst hq
    obtain ⟨u, hu, he⟩ := ob_eq he
    obtain ⟨t, e, he⟩ := onBool_eq he
    subst e
    have ec := (hio _ _ _ hc' hu).inv_bool
    cases t with
    | true => exact ⟨ρ a, by unfold execOp; rw [ho]; simp only; rw [ec]; rfl, hio _ _ _ ha' he⟩
    | false => exact ⟨ρ b, by unfold execOp; rw [ho]; simp only; rw [ec]; rfl, hio _ _ _ hb' he⟩
  | alloc e => rw [ho] at hc; obtain ⟨z, _, hc⟩ := ob_eq hc; exact (noP_a hc).elim
  | box e x => rw [ho] at hc; obtain ⟨z, _, hc⟩ := ob_eq hc; exact (noP_a hc).elim
  | build t parts =>
    rw [ho] at hc
    obtain ⟨v', h1, h2⟩ := ok_build (P := P) hio hc he w
    exact ⟨v', by unfold execOp; rw [ho]; exact run_v h1, h2⟩
  | buildSlice t n parts =>
    rw [ho] at hc
    obtain ⟨d, _, hc⟩ := ob_eq hc
    cases d with
    | slice e =>
      obtain ⟨_, _, hc⟩ := ob_eq hc
      obtain ⟨_, _, hc⟩ := ob_eq hc
      obtain ⟨_, _, hc⟩ := ob_eq hc
      obtain ⟨_, hc⟩ := ot_eq hc
      exact (noP_a hc).elim
    | _ => exact nomatch hc
  | load t a =>
    rw [ho] at hc
    obtain ⟨_, _, hc⟩ := ob_eq hc
    obtain ⟨g, _, hc⟩ := ob_eq hc
    cases g with
    | true => obtain ⟨_, _, hc⟩ := ob_eq (show ob _ _ = _ from hc); exact (noP_l hc).elim
    | false => exact (noP_l hc).elim
  | store t a x =>
    rw [ho] at hc
    obtain ⟨_, _, hc⟩ := ob_eq hc
    obtain ⟨_, _, hc⟩ := ob_eq hc
    obtain ⟨_, _, hc⟩ := ob_eq hc
    obtain ⟨_, _, hc⟩ := ob_eq hc
    obtain ⟨_, hc⟩ := ot_eq hc
    exact (noP_w hc).elim
  | nilCheck x =>
    rw [ho] at hc
    obtain ⟨a, ha, hc⟩ := ob_eq hc
    have hq := (inj_p hc).symm
    subst hq
    obtain ⟨u, hu, he⟩ := ob_eq he
    have hr := hio _ _ _ ha hu
    unfold nilChk at he
    split at he
    · injection he with hev
      obtain ⟨b', d', x', hm, e⟩ := hr.inv_ptr
      exact ⟨ρ x, by unfold execOp; rw [ho]; simp only; rw [e]; rfl, by rw [← hev]; exact hr⟩
    · injection he with hev
      refine ⟨ρ x, ?_, by rw [← hev]; exact hr⟩
      unfold execOp; rw [ho]; simp only
      cases e : ρ x with
      | iface t v => rfl
      | _ => rw [e] at hr; exact nomatch hr
    · obtain ⟨_, he⟩ := ot_eq he
      injection he with hev
      refine ⟨ρ x, ?_, by rw [← hev]; exact hr⟩
      unfold execOp; rw [ho]; simp only
      cases e : ρ x with
      | func g a c =>
        rw [e] at hr
        cases hr <;> rfl
      | _ => rw [e] at hr; exact nomatch hr
    · exact nomatch he
  | binOp op t x y yt =>
    rw [ho] at hc
    obtain ⟨v', h1, h2⟩ := ok_bin (P := P) hio hc he w
    exact ⟨v', by unfold execOp; rw [ho]; exact run_v h1, h2⟩
  | unOp op t x =>
    rw [ho] at hc
    obtain ⟨a, ha, hc⟩ := ob_eq hc
    have hq := (inj_p hc).symm
    subst hq
    obtain ⟨u, hu, he⟩ := ob_eq he
    obtain ⟨v', h1, h2⟩ := ok_un (P := P) hio he (hio _ _ _ ha hu) w
    exact ⟨v', by unfold execOp; rw [ho]; exact run_v h1, h2⟩
  | convert s d x =>
    rw [ho] at hc
    obtain ⟨v', h1, h2⟩ := ok_conv (P := P) hio hc he w
    exact ⟨v', by unfold execOp; rw [ho]; exact run_v h1, h2⟩
  | makeInterface t x =>
    rw [ho] at hc
    obtain ⟨a, ha, hc⟩ := ob_eq hc
    obtain ⟨d, hd, hc⟩ := ob_eq hc
    obtain ⟨hi, hc⟩ := ot_eq hc
    have hq := (inj_p hc).symm
    subst hq
    obtain ⟨u, hu, he⟩ := ob_eq he
    injection he with hev
    refine ⟨.iface t (ρ x), ?_, by rw [← hev]; exact .ifc t (hio _ _ _ ha hu)⟩
    unfold execOp; rw [ho]
    refine run_v ?_
    unfold Instr.makeInterface
    rw [run_ok (run_und hd w)]
    cases d <;> first | rfl | exact Bool.noConfusion hi
  | makeFunc fn a b =>
    rw [ho] at hc
    obtain ⟨a', ha, hc⟩ := ob_eq hc
    obtain ⟨b', hb, hc⟩ := ob_eq hc
    obtain ⟨hf, hc⟩ := ot_eq hc
    have hq := (inj_p hc).symm
    subst hq
    obtain ⟨va, hva, he⟩ := ob_eq he
    obtain ⟨vb, hvb, he⟩ := ob_eq he
    injection he with hev
    cases fn with
    | func f =>
      refine ⟨.func (.func f) (a.map ρ) (b.map ρ), ?_, ?_⟩
      · unfold execOp; rw [ho]; rfl
      · rw [← hev]
        refine .fn f ?_ ?_
        · have := ios_rel hio ha hva; simpa using this
        · have := ios_rel hio hb hvb; simpa using this
    | _ => exact Bool.noConfusion hf
  | makeMap t r =>
    rw [ho] at hc
    cases r with
    | none => exact (noP_a hc).elim
    | some _ => exact nomatch hc
  | makeSlice t l c =>
    rw [ho] at hc
    obtain ⟨_, _, hc⟩ := ob_eq hc
    obtain ⟨_, _, hc⟩ := ob_eq hc
    obtain ⟨d, _, hc⟩ := ob_eq hc
    cases d with
    | slice e =>
      obtain ⟨_, _, hc⟩ := ob_eq hc
      obtain ⟨_, _, hc⟩ := ob_eq hc
      exact (noP_a hc).elim
    | _ => exact nomatch hc
  | slice t x lo hi mx =>
    rw [ho] at hc
    obtain ⟨v', h1, h2⟩ := ok_slice (P := P) hio hc he w
    exact ⟨v', by unfold execOp; rw [ho]; exact run_v h1, h2⟩
  | fieldAddr s x f =>
    rw [ho] at hc
    obtain ⟨a, ha, hc⟩ := ob_eq hc
    obtain ⟨d, hd, hc⟩ := ob_eq hc
    unfold kFieldAddr1 at hc
    cases d with
    | struct fs =>
      obtain ⟨fd, hf, hc⟩ := ob_eq hc
      obtain ⟨sz, hs, hc⟩ := ob_eq hc
      obtain ⟨hlt, hc⟩ := ot_eq hc
      have hq := (inj_p hc).symm
      subst hq
      obtain ⟨u, hu, he⟩ := ob_eq he
      obtain ⟨b, o', e, he⟩ := onPtr_eq he
      subst e
      injection he with hev
      obtain ⟨b', d', x', hm, ex⟩ := (hio _ _ _ ha hu).inv_ptr
      rw [nlt_eq, decide_eq_true_eq] at hlt
      rw [nth_eq] at hf
      refine ⟨.pointer (some ⟨b', d' + (o' + fd.offset), none⟩), ?_, by rw [← hev]; exact .ptr hm⟩
      unfold execOp; rw [ho]
      refine run_v ?_
      unfold Instr.fieldAt
      rw [run_ok (run_und hd w)]
      have hf' : fs[f]? = some fd := by simpa using hf
      simp only [hf', ex]
      show (Instr.sureAddr (.pointer (some ⟨b', d' + o', none⟩)) >>= fun a => fieldPlace a fd >>= fun a => (pure (Value.pointer (some a)) : Sem Value)).run P w = _
      have ra : (Instr.sureAddr (.pointer (some ⟨b', d' + o', none⟩))).run P w = .ok ⟨b', d' + o', none⟩ w := rfl
      rw [run_ok ra]
      have rp : (fieldPlace ⟨b', d' + o', none⟩ fd).run P w = .ok ⟨b', d' + (o' + fd.offset), none⟩ w := by
        unfold fieldPlace
        rw [run_ok (run_size hs w), if_neg (by omega), addr_add]; rfl
      rw [run_ok rp]; rfl
    | _ => exact nomatch hc
  | field t x f =>
    rw [ho] at hc
    obtain ⟨a, ha, hc⟩ := ob_eq hc
    obtain ⟨d, hd, hc⟩ := ob_eq hc
    unfold kField1 at hc
    cases d with
    | struct fs =>
      obtain ⟨fd, hf, hc⟩ := ob_eq hc
      obtain ⟨sz, hs, hc⟩ := ob_eq hc
      obtain ⟨g, hg, hc⟩ := ob_eq hc
      have hq := (inj_p hc).symm
      subst hq
      obtain ⟨u, hu, he⟩ := ob_eq he
      obtain ⟨cs', u', ev, hr, hrel⟩ := part_ok (P := P) hg hs he (hio _ _ _ ha hu) w
      rw [nth_eq] at hf
      refine ⟨u', ?_, hrel⟩
      unfold execOp; rw [ho]
      refine run_v ?_
      unfold Instr.field
      rw [run_ok (run_und hd w)]
      have hf' : fs[f]? = some fd := by simpa using hf
      simp only [hf', ev]
      show (asAgg (.agg cs') >>= fun cs => Go.part fd.type cs fd.offset).run P w = _
      have ra : (asAgg (.agg cs')).run P w = .ok cs' w := rfl
      rw [run_ok ra]; exact hr
    | _ => exact nomatch hc
  | indexAddr t x i =>
    rw [ho] at hc
    obtain ⟨v', h1, h2⟩ := ok_ixAddr (P := P) hio hc he w
    exact ⟨v', by unfold execOp; rw [ho]; exact run_v h1, h2⟩
  | index t x i =>
    rw [ho] at hc
    obtain ⟨v', h1, h2⟩ := ok_index (P := P) hio hc he w
    exact ⟨v', by unfold execOp; rw [ho]; exact run_v h1, h2⟩
  | lookup t x k ok =>
    rw [ho] at hc
    obtain ⟨_, _, hc⟩ := ob_eq hc
    obtain ⟨_, _, hc⟩ := ob_eq hc
    obtain ⟨d, _, hc⟩ := ob_eq hc
    cases d with
    | map kt e => obtain ⟨_, _, hc⟩ := ob_eq hc; exact (noP_l hc).elim
    | _ => exact nomatch hc
  | mapUpdate t m k x =>
    rw [ho] at hc
    obtain ⟨_, _, hc⟩ := ob_eq hc
    obtain ⟨_, _, hc⟩ := ob_eq hc
    obtain ⟨_, _, hc⟩ := ob_eq hc
    obtain ⟨d, _, hc⟩ := ob_eq hc
    cases d with
    | map kt e => exact (noP_w hc).elim
    | _ => exact nomatch hc
  | insert t m k x =>
    rw [ho] at hc
    obtain ⟨_, _, hc⟩ := ob_eq hc
    obtain ⟨_, _, hc⟩ := ob_eq hc
    obtain ⟨_, _, hc⟩ := ob_eq hc
    obtain ⟨d, _, hc⟩ := ob_eq hc
    cases d with
    | map kt e => exact (noP_w hc).elim
    | _ => exact nomatch hc
  | range t x =>
    rw [ho] at hc
    obtain ⟨_, _, hc⟩ := ob_eq hc
    obtain ⟨d, _, hc⟩ := ob_eq hc
    obtain ⟨_, hc⟩ := ot_eq hc
    exact (noP_a hc).elim
  | next x s =>
    rw [ho] at hc
    obtain ⟨_, _, hc⟩ := ob_eq hc
    obtain ⟨_, hc⟩ := ot_eq hc
    exact (noP_w hc).elim
  | typeAssert x xt t ok =>
    rw [ho] at hc
    obtain ⟨v', h1, h2⟩ := ok_assert (P := P) (xt := xt) hio hc he w
    exact ⟨v', by unfold execOp; rw [ho]; exact run_v h1, h2⟩
  | extract x i =>
    rw [ho] at hc
    obtain ⟨a, ha, hc⟩ := ob_eq hc
    have hq := (inj_p hc).symm
    subst hq
    obtain ⟨u, hu, he⟩ := ob_eq he
    obtain ⟨vs, e, he2⟩ := onTup_eq he
    subst e
    obtain ⟨vs', ev, hvs⟩ := (hio _ _ _ ha hu).inv_tup
    rw [nth_eq] at he2
    obtain ⟨v', hv', hr⟩ := hvs.get he2
    refine ⟨v', ?_, hr⟩
    unfold execOp; rw [ho]
    refine run_v ?_
    simp only [ev]
    unfold Instr.extract
    have : vs'[i]? = some v' := by simpa using hv'
    simp only [this]; rfl
  | call c =>
    rw [ho] at hc
    exact ok_call hio hk ho hc he w
  | _ => rw [ho] at hc; exact nomatch hc
end
end Go.Ev
end

section
/- Ev, part 18: the heap: what is born, what is written. -/
namespace Go.Ev
set_option linter.unusedSectionVars false
variable [F : Facts] [E : Env]
set_option linter.unusedSimpArgs false
set_option linter.unusedVariables false
variable {P : Program} {μ : Mu}

theorem ObjR.mono {μ μ' : Mu} (hle : μ.le μ') {d : Nat} {x : Option (Nat × Nat)} {o : AObj} {o' : Obj} (h : ObjR P μ d x o o') : ObjR P μ' d x o o' := by
  cases o <;> cases o' <;> simp only [ObjR] at h ⊢
  · obtain ⟨h1, h2, h3, h4, h5, h6, h7, h8, h9⟩ := h
    exact ⟨h1, h2, h3, h4, h5, fun i v hv => let ⟨a, b, v', c, e⟩ := h6 i v hv; ⟨a, b, v', c, e.mono hle⟩, h7, h8, h9⟩
  · exact ⟨h.1, h.2.mono fun a e h => ⟨h.1.mono hle, h.2.1.mono hle, h.2.2⟩⟩
  · obtain ⟨h1, h2, h3, h4, nt, h5, h6, h7, h8⟩ := h
    exact ⟨h1, h2, h3.mono hle, h4, nt, h5, h6, h7, h8⟩
  · exact h
  · obtain ⟨h1, h2, h3⟩ := h
    exact ⟨h1, h2, fun i v hv => let ⟨a, b, v', c, e⟩ := h3 i v hv; ⟨a, b, v', c, e.mono hle⟩⟩

/-- what may be read of a row of cells -/
theorem ObjR.rd {d : Nat} {x : Option (Nat × Nat)} {o : AObj} {o' : Obj} {n : Nat} {c : Cells} (h : ObjR P μ d x o o') (ho : (∃ e ex md fz ch, o = .cells n c e ex md fz ch) ∨ o = .row n c) :
    ∃ cs e' fr, o' = .cells cs e' fr ∧ (∀ l, c = .lst l → l.length = n) ∧ (∀ i v, c.get i = some v → i < n ∧ oneA v = true ∧ ∃ v', cs[d + i]? = some v' ∧ VR μ v v') := by
  rcases ho with ⟨e, ex, md, fz, ch, rfl⟩ | rfl
  · cases o' with
    | cells cs e' fr =>
      obtain ⟨_, _, _, _, h5, h6, _⟩ := h
      exact ⟨cs, e', fr, rfl, h5, h6⟩
    | _ => exact h.elim
  · cases o' with
    | cells cs e' fr => exact ⟨cs, e', fr, rfl, h.2.1, h.2.2⟩
    | _ => exact h.elim

theorem R.congr {A : AH} {w w' : World} (h : R P μ A w) (e : w'.heap = w.heap) : R P μ A w' :=
  { h with
    obj := fun b o m h1 h2 => by rw [e]; exact h.obj b o m h1 h2
    dom := fun b m h1 => by rw [e]; exact h.dom b m h1 }

theorem R.next_none {A : AH} {w : World} (h : R P μ A w) : μ A.next = none := by
  cases e : μ A.next with
  | none => rfl
  | some m => exact absurd (h.dom _ _ e).1 (Nat.lt_irrefl _)
theorem R.ge_none {A : AH} {w : World} (h : R P μ A w) {b : Nat} (hb : A.next ≤ b) : μ b = none := by
  cases e : μ b with
  | none => rfl
  | some m => exact absurd (h.dom _ _ e).1 (by omega)
theorem R.ge_dead {A : AH} {w : World} (h : R P μ A w) {b : Nat} (hb : A.next ≤ b) : A.objs.get b = none := by
  cases e : A.objs.get b with
  | none => rfl
  | some m => exact absurd (h.live _ _ e) (by omega)

/-- a block more in the abstract heap: not born yet -/
theorem R.newA {A : AH} {w : World} (h : R P μ A w) (o : AObj) : R P μ (A.new o) w := by
  have hn := h.next_none
  have get : ∀ b, (A.new o).objs.get b = if b = A.next then some o else A.objs.get b := fun b => by
    unfold AH.new; rw [T.get_put]
  have old : ∀ b m o', μ b = some m → (A.new o).objs.get b = some o' → A.objs.get b = some o' := by
    intro b m o' h1 h2
    rw [get] at h2
    split at h2
    · rename_i e; subst e; rw [hn] at h1; exact nomatch h1
    · exact h2
  exact {
    obj := fun b o' m h1 h2 => h.obj b o' m (old b m o' h2 h1) h2
    dom := fun b m h1 => ⟨Nat.lt_succ_of_lt (h.dom b m h1).1, (h.dom b m h1).2⟩
    live := fun b o' h1 => by
      rw [get] at h1
      split at h1
      · rename_i e; subst e; exact Nat.lt_succ_self _
      · exact Nat.lt_succ_of_lt (h.live b o' h1)
    glob := h.glob
    sep := fun b1 b2 o1 o2 m1 m2 hne h1 h2 h3 h4 e => h.sep b1 b2 o1 o2 m1 m2 hne (old _ _ _ h3 h1) (old _ _ _ h4 h2) h3 h4 e
    ord := fun ch l hl => (h.ord ch l hl).imp fun {b1 b2} hh o1 o2 m1 m2 h1 h2 h3 h4 e => hh o1 o2 m1 m2 (old _ _ _ h3 h1) (old _ _ _ h4 h2) h3 h4 e
    mem := h.mem }

def Mu.put (μ : Mu) (b : Nat) (m : Nat × Nat × Option (Nat × Nat)) : Mu := fun c => if c = b then some m else μ c
theorem Mu.put_same (μ : Mu) (b : Nat) (m : Nat × Nat × Option (Nat × Nat)) : μ.put b m b = some m := by simp [Mu.put]
theorem Mu.put_ne (μ : Mu) {b c : Nat} (m : Nat × Nat × Option (Nat × Nat)) (h : c ≠ b) : μ.put b m c = μ c := by simp [Mu.put, h]
theorem Mu.le_put {b : Nat} (m : Nat × Nat × Option (Nat × Nat)) (h : μ b = none) : μ.le (μ.put b m) := by
  intro c n hc
  by_cases e : c = b
  · subst e; rw [h] at hc; exact nomatch hc
  · rw [Mu.put_ne _ _ e]; exact hc

/-- a world with one block more -/
structure WNew (w w' : World) (o : Obj) : Prop where
  heap : w'.heap = w.heap.push o
  os : w'.os = w.os
  tape : w'.tape = w.tape
  output : w'.output = w.output

theorem WNew.get {w w' : World} {o : Obj} (h : WNew w w' o) {c : Nat} (hc : c < w.heap.size) : w'.heap[c]? = w.heap[c]? := by
  rw [h.heap, Array.getElem?_push]
  rw [if_neg (by omega)]
theorem WNew.last {w w' : World} {o : Obj} (h : WNew w w' o) : w'.heap[w.heap.size]? = some o := by
  rw [h.heap]; simp
theorem WNew.size {w w' : World} {o : Obj} (h : WNew w w' o) : w'.heap.size = w.heap.size + 1 := by
  rw [h.heap]; simp

/-- a block is born -/
theorem R.birth {A : AH} {w w' : World} (h : R P μ A w) {b : Nat} {o : AObj} {o' : Obj} {x : Option (Nat × Nat)} (hb : μ b = none) (ho : A.objs.get b = some o) (hw : WNew w w' o')
    (hr : ObjR P (μ.put b (w.heap.size, 0, x)) 0 x o o') : R P (μ.put b (w.heap.size, 0, x)) A w' := by
  have hle : μ.le (μ.put b (w.heap.size, 0, x)) := Mu.le_put _ hb
  have cases' : ∀ c m, (μ.put b (w.heap.size, 0, x)) c = some m → (c = b ∧ m = (w.heap.size, 0, x)) ∨ (c ≠ b ∧ μ c = some m) := by
    intro c m hc
    by_cases e : c = b
    · subst e; rw [Mu.put_same] at hc; injection hc with hc; exact .inl ⟨rfl, hc.symm⟩
    · rw [Mu.put_ne _ _ e] at hc; exact .inr ⟨e, hc⟩
  exact {
    obj := fun c p m h1 h2 => by
      rcases cases' c m h2 with ⟨rfl, rfl⟩ | ⟨hne, h3⟩
      · rw [ho] at h1; injection h1 with h1; subst h1
        exact ⟨o', hw.last, hr⟩
      · obtain ⟨p', h4, h5⟩ := h.obj c p m h1 h3
        exact ⟨p', by rw [hw.get (h.dom c m h3).2]; exact h4, h5.mono hle⟩
    dom := fun c m h1 => by
      rcases cases' c m h1 with ⟨rfl, rfl⟩ | ⟨hne, h3⟩
      · exact ⟨h.live _ _ ho, by rw [hw.size]; exact Nat.lt_succ_self _⟩
      · exact ⟨(h.dom c m h3).1, by rw [hw.size]; exact Nat.lt_succ_of_lt (h.dom c m h3).2⟩
    live := h.live
    glob := fun g hg => hle _ _ (h.glob g hg)
    sep := fun b1 b2 o1 o2 m1 m2 hne h1 h2 h3 h4 e => by
      rcases cases' b1 m1 h3 with ⟨rfl, rfl⟩ | ⟨hn1, k3⟩
      · rcases cases' b2 m2 h4 with ⟨rfl, rfl⟩ | ⟨hn2, k4⟩
        · exact absurd rfl hne
        · exact absurd (h.dom _ _ k4).2 (by rw [← e]; exact Nat.lt_irrefl _)
      · rcases cases' b2 m2 h4 with ⟨rfl, rfl⟩ | ⟨hn2, k4⟩
        · exact absurd (h.dom _ _ k3).2 (by rw [e]; exact Nat.lt_irrefl _)
        · exact h.sep b1 b2 o1 o2 m1 m2 hne h1 h2 k3 k4 e
    ord := fun ch l hl => (h.ord ch l hl).imp fun {b1 b2} hh o1 o2 m1 m2 h1 h2 h3 h4 e => by
      rcases cases' b1 m1 h3 with ⟨rfl, rfl⟩ | ⟨hn1, k3⟩
      · rcases cases' b2 m2 h4 with ⟨rfl, rfl⟩ | ⟨hn2, k4⟩
        · rw [h1] at h2; injection h2 with h2; subst h2; exact Nat.le_refl _
        · exact absurd (h.dom _ _ k4).2 (by rw [← e]; exact Nat.lt_irrefl _)
      · rcases cases' b2 m2 h4 with ⟨rfl, rfl⟩ | ⟨hn2, k4⟩
        · exact absurd (h.dom _ _ k3).2 (by rw [e]; exact Nat.lt_irrefl _)
        · exact hh o1 o2 m1 m2 h1 h2 k3 k4 e
    mem := fun ch l c hl hc e => by
      cases e2 : μ c with
      | none => exact h.mem ch l c hl hc e2
      | some m => rw [hle _ _ e2] at e; exact nomatch e }

theorem kept_birth {A : AH} {w w' : World} (h : R P μ A w) {b B : Nat} {o' : Obj} {x : Option (Nat × Nat)} (hb : μ b = none) (hB : B ≤ b) (hw : WNew w w' o') :
    Kept B μ (μ.put b (w.heap.size, 0, x)) A A w w' where
  le := Mu.le_put _ hb
  os := hw.os
  tape := hw.tape
  output := hw.output
  size := by rw [hw.size]; omega
  next := Nat.le_refl _
  block c hc _ := hw.get hc
  wr c hc := by
    rintro ⟨b1, m, o, h1, h2, h3, h4⟩
    by_cases e : b1 = b
    · subst e
      rw [Mu.put_same] at h1
      injection h1 with h1
      subst h1
      exact absurd h2 (by show ¬ w.heap.size = c; omega)
    · rw [Mu.put_ne _ _ e] at h1
      exact ⟨b1, m, o, h1, h2, h3, h4⟩
  unborn c hc hn := ⟨by rw [Mu.put_ne _ _ (by omega)]; exact hn, rfl⟩
  loops c L hc := ⟨L, by rw [hw.get]; exact hc; exact (Array.getElem?_eq_some_iff.1 hc).1, rfl⟩

theorem kept_newA (A : AH) (w : World) (o : AObj) (h : R P μ A w) : Kept A.next μ μ A (A.new o) w w where
  le := Mu.le_refl _
  os := rfl
  tape := rfl
  output := rfl
  size := Nat.le_refl _
  next := Nat.le_succ _
  block _ _ _ := rfl
  wr c hc := by
    rintro ⟨b1, m, o1, h1, h2, h3, h4⟩
    refine ⟨b1, m, o1, h1, h2, ?_, h4⟩
    unfold AH.new at h3
    rw [T.get_put, if_neg] at h3
    · exact h3
    · intro e
      subst e
      rw [h.next_none] at h1
      exact nomatch h1
  unborn b hb hn := ⟨hn, by unfold AH.new; exact T.get_put_ne _ _ (by omega)⟩
  loops c L hc := ⟨L, hc, rfl⟩

theorem get_new (A : AH) (o : AObj) : (A.new o).objs.get A.next = some o := by
  unfold AH.new; exact T.get_put_same _ _ _

/-- made and born at once -/
theorem R.made {A : AH} {w w' : World} (h : R P μ A w) {o : AObj} {o' : Obj} {x : Option (Nat × Nat)} (hw : WNew w w' o') (hr : ObjR P (μ.put A.next (w.heap.size, 0, x)) 0 x o o') :
    R P (μ.put A.next (w.heap.size, 0, x)) (A.new o) w' ∧ Kept A.next μ (μ.put A.next (w.heap.size, 0, x)) A (A.new o) w w' :=
  ⟨(h.newA o).birth h.next_none (get_new A o) hw hr, (kept_newA A w o h).trans (kept_birth (h.newA o) h.next_none (Nat.le_refl _) hw)⟩

/-! ### what is read -/
theorem R.cell {A : AH} {w : World} (h : R P μ A w) {b o : Nat} {v : AV} {b' d : Nat} {x : Option (Nat × Nat)} (hv : A.cell b o = some v) (hm : μ b = some (b', d, x)) :
    ∃ v', w.cell? ⟨b', d + o, none⟩ = some v' ∧ VR μ v v' ∧ oneA v = true := by
  obtain ⟨ob', ho, hv⟩ := ob_eq hv
  obtain ⟨n, c, hv, hor⟩ := onRd_eq hv
  obtain ⟨o', h1, h2⟩ := h.obj b _ _ ho hm
  obtain ⟨cs, e', fr, rfl, _, h6⟩ := h2.rd hor
  obtain ⟨hlt, h1v, v', hv', hr⟩ := h6 o v hv
  refine ⟨v', ?_, hr, h1v⟩
  unfold World.cell?
  simp only [h1]
  exact hv'

theorem trRange_get : ∀ {t : T AV} {n o : Nat} {l : List AV}, trRange t n o = some l → l.length = n ∧ ∀ (i : Nat) v, l[i]? = some v → t.get (o + i) = some v := by
  intro t n
  induction n with
  | zero =>
    intro o l h
    injection h with h
    subst h
    exact ⟨rfl, fun i v hv => by simp at hv⟩
  | succ n ih =>
    intro o l h
    obtain ⟨v, hv, h⟩ := ob_eq (show ob _ _ = _ from h)
    obtain ⟨vs, hvs, h⟩ := ob_eq h
    injection h with h
    subst h
    obtain ⟨h1, h2⟩ := ih hvs
    refine ⟨by simp [h1], fun i u hu => ?_⟩
    cases i with
    | zero => simp at hu; subst hu; exact hv
    | succ i =>
      simp at hu
      have := h2 i u hu
      rw [show o + (i + 1) = Nat.succ o + i from by omega]
      exact this

theorem range_get {c : Cells} {o n m : Nat} {l : List AV} (h : c.range o n m = some l) (hl : ∀ k, c = .lst k → k.length = m) :
    l.length = n ∧ ∀ (i : Nat) v, l[i]? = some v → c.get (o + i) = some v := by
  cases c with
  | tr t => exact trRange_get h
  | lst k =>
    have hk := hl k rfl
    replace h : Cells.lstRange k o n m = some l := h
    unfold Cells.lstRange at h
    rw [bif2_eq, ba_eq, nbeq_eq, nbeq_eq] at h
    split at h
    · rename_i hc
      simp at hc
      obtain ⟨rfl, rfl⟩ := hc
      injection h with h
      subst h
      exact ⟨hk, fun i v hv => by show nth _ _ = _; rw [nth_eq, Nat.zero_add]; exact hv⟩
    · obtain ⟨hle, h⟩ := ot_eq h
      rw [nle_eq, decide_eq_true_eq] at hle
      replace hle : o + n ≤ m := hle
      injection h with h
      rw [takeN_eq, dropN_eq] at h
      subst h
      refine ⟨by simp; omega, fun i v hv => ?_⟩
      show nth _ _ = _
      rw [nth_eq]
      rw [List.getElem?_take] at hv
      split at hv
      · rw [List.getElem?_drop] at hv; exact hv
      · exact nomatch hv

theorem R.cellsOf {A : AH} {w : World} (h : R P μ A w) {b o n : Nat} {l : List AV} {b' d : Nat} {x : Option (Nat × Nat)} (hv : A.cellsOf b o n = some l) (hm : μ b = some (b', d, x)) :
    ∃ l' : List Value, VRs μ l l' ∧ l.length = n ∧ (∀ v ∈ l, oneA v = true) ∧ ∀ i v', l'[i]? = some v' → w.cell? ⟨b', d + (o + i), none⟩ = some v' := by
  obtain ⟨ob', ho, hv⟩ := ob_eq hv
  obtain ⟨m, c, hv, hor⟩ := onRd_eq hv
  obtain ⟨o', h1, h2⟩ := h.obj b _ _ ho hm
  obtain ⟨cs, e', fr, rfl, h5, h6⟩ := h2.rd hor
  next =>
    obtain ⟨hlen, hget⟩ := range_get hv h5
    have key : ∀ (i : Nat) v, l[i]? = some v → oneA v = true ∧ ∃ v', w.cell? ⟨b', d + (o + i), none⟩ = some v' ∧ VR μ v v' := by
      intro i v hi
      obtain ⟨hlt, h1v, v', hv', hr⟩ := h6 _ _ (hget i v hi)
      refine ⟨h1v, v', ?_, hr⟩
      unfold World.cell?
      simp only [h1]
      exact hv'
    refine ⟨(List.range l.length).map fun i => (w.cell? ⟨b', d + (o + i), none⟩).getD undef, ?_, hlen, ?_, ?_⟩
    · refine All2.of_get (by simp) fun i a b' ha hb => ?_
      obtain ⟨_, v', hc, hr⟩ := key i a ha
      simp only [List.getElem?_map, List.getElem?_range (List.getElem?_eq_some_iff.1 ha).1, Option.map_some, Option.some.injEq] at hb
      rw [hc] at hb
      subst hb
      exact hr
    · intro v hv
      obtain ⟨i, hi⟩ := List.getElem?_of_mem hv
      exact (key i v hi).1
    · intro i v' hi
      have hlt : i < l.length := by
        have := (List.getElem?_eq_some_iff.1 hi).1
        simpa using this
      obtain ⟨_, u, hc, hr⟩ := key i l[i] (List.getElem?_eq_getElem hlt)
      simp only [List.getElem?_map, List.getElem?_range hlt, Option.map_some, Option.some.injEq] at hi
      rw [hc] at hi
      subst hi
      exact hc
end Go.Ev
end

section
/- Ev, part 19: operations that read. -/
namespace Go.Ev
set_option linter.unusedSectionVars false
variable [F : Facts] [E : Env]
set_option linter.unusedSimpArgs false
set_option linter.unusedVariables false
variable {P : Program} {μ : Mu}
variable {wr : WrT} {io : Opd → Option AV} {ρ : Operand → Value}

theorem run_load1 {w : World} {a : Addr} {v : Value} (h : w.cell? a = some v) : (load a).run P w = .ok v w := by
  unfold load
  simp only [Sem.run, h]
theorem run_loads {w : World} {b' k : Nat} {l : List Value} (h : ∀ (i : Nat) v, l[i]? = some v → w.cell? ⟨b', k + i, none⟩ = some v) :
    (loadCells ⟨b', k, none⟩ l.length).run P w = .ok l.toArray w := by
  refine run_loadCells_list w _ l fun j v hv => ?_
  have := h j v hv
  have e : (⟨b', k, none⟩ : Addr).add j = ⟨b', k + j, none⟩ := by unfold Addr.add; split <;> simp_all
  rw [e]; exact this

theorem noL_a {a : AOp} {q : LOp} (h : some (IOp.a a) = some (IOp.l q)) : False := by injection h with h; exact IOp.noConfusion h
theorem noL_p {a : POp} {q : LOp} (h : some (IOp.p a) = some (IOp.l q)) : False := by injection h with h; exact IOp.noConfusion h
theorem noL_w {a : WOp} {q : LOp} (h : some (IOp.w a) = some (IOp.l q)) : False := by injection h with h; exact IOp.noConfusion h
theorem inj_l {a b : LOp} (h : (some (IOp.l a)) = some (IOp.l b)) : a = b := by injection h with h; injection h

theorem VR.inv_map {b : Nat} {v : Value} (h : VR μ (.map b) v) : ∃ b' d x, μ b = some (b', d, x) ∧ v = .map (some b') := by
  cases h with
  | map h => exact ⟨_, _, _, h, rfl⟩
theorem VR.inv_nilm {v : Value} (h : VR μ .nilm v) : v = .map none := by cases h; rfl

theorem R.mapAt {A : AH} {w : World} (h : R P μ A w) {b : Nat} {es : List (AV × AV × Nat)} {c : Nat} {b' d : Nat} {x : Option (Nat × Nat)} (ho : A.obj b = some (.map es c)) (hm : μ b = some (b', d, x)) :
    ∃ es' : Array MapEntry, w.heap[b']? = some (.map es' c) ∧ All2 (fun a e => VR μ a.1 e.key ∧ VR μ a.2.1 e.val ∧ a.2.2 = e.born) es es'.toList := by
  obtain ⟨o', h1, h2⟩ := h.obj b _ _ ho hm
  cases o' with
  | map es' c' =>
    obtain ⟨rfl, h3⟩ := h2
    exact ⟨es', h1, h3⟩
  | _ => exact h2.elim
theorem run_getObj {w : World} {r : Nat} {o : Obj} (h : w.heap[r]? = some o) (hc : ∀ c e f, o ≠ .cells c e f) : (getObj r).run P w = .ok o w := by
  unfold getObj
  cases o <;> first | exact absurd rfl (hc _ _ _) | simp only [Sem.run, h]

/-- keys -/
theorem sameNow_ok {kt : TypeId} {ek : EK} {d : TypeDesc} (hd : und (ttOf P) kt = some d) (hk : ekD d = some ek) {x y : AV} {x' y' : Value} {b : Bool} (h : keyEq P (ttOf P) kt ek x y = some b) (hx : VR μ x x') (hy : VR μ y y') :
    ((∀ fs, d ≠ .struct fs) ∧ Instr.sameNow d x' y' = some b) ∨ ((∃ fs, d = .struct fs) ∧ Instr.sameNow d x' y' = none ∧ ∀ w, (Op.equal kt x' y').run P w = .ok b w) := by
  unfold keyEq at h
  split at h
  · obtain ⟨k, a, e, h1⟩ := onInt_eq h
    obtain ⟨k2, a2, e2, h2⟩ := onInt_eq h1
    subst e; subst e2
    obtain ⟨hkk, h3⟩ := ot_eq h2
    rw [keq_eq, decide_eq_true_eq] at hkk
    subst hkk
    injection h3 with h3
    have e1 := hx.inv_int; have e2 := hy.inv_int; subst e1; subst e2
    cases d <;> simp [ekD] at hk
    left
    exact ⟨(fun _ h => nomatch h), by simp [Instr.sameNow, ← h3, ieq_eq]⟩
  · obtain ⟨l, n, e, h1⟩ := onStr_eq h
    obtain ⟨l2, n2, e2, h2⟩ := onStr_eq h1
    subst e; subst e2
    injection h2 with h3
    obtain ⟨s, rfl, rfl, rfl⟩ := hx.inv_str
    obtain ⟨s2, rfl, rfl, rfl⟩ := hy.inv_str
    cases d <;> simp [ekD] at hk
    left
    rw [seqS_eq] at h3
    exact ⟨(fun _ h => nomatch h), by simp only [Instr.sameNow, bytes_beq]; rw [h3]⟩
  · obtain ⟨a, e, h1⟩ := onBool_eq h
    obtain ⟨a2, e2, h2⟩ := onBool_eq h1
    subst e; subst e2
    injection h2 with h3
    have e1 := hx.inv_bool; have e2 := hy.inv_bool; subst e1; subst e2
    cases d <;> simp [ekD] at hk
    left
    rw [beqB_eq] at h3
    exact ⟨(fun _ h => nomatch h), by simp only [Instr.sameNow]; rw [h3]⟩
  · obtain ⟨cs, e, h1⟩ := onAgg_eq h
    obtain ⟨cs2, e2, h3⟩ := onAgg_eq h1
    subst e; subst e2
    cases d <;> simp [ekD] at hk
    right
    refine ⟨⟨_, rfl⟩, ?_, fun w => equal_ok _ _ _ _ _ _ _ w h3 hx hy⟩
    obtain ⟨c1, rfl, _, _⟩ := hx.inv_agg
    obtain ⟨c2, rfl, _, _⟩ := hy.inv_agg
    rfl
  · exact nomatch h

/-- what was found -/
def FoundR (μ : Mu) (es' : List MapEntry) (off : Nat) : Option (Nat × AV × AV) → Option (Nat × Value) → Prop
  | none, none => True
  | some (i, k, v), some (i', v') => i = i' ∧ VR μ v v' ∧ off ≤ i ∧ ∃ e, es'[i - off]? = some e ∧ VR μ k e.key ∧ e.val = v'
  | _, _ => False

theorem findK_ok {kt : TypeId} {ek : EK} {d : TypeDesc} (hd : und (ttOf P) kt = some d) (hk : ekD d = some ek) {x : AV} {x' : Value} (hx : VR μ x x') (w : World) :
    ∀ {es : List (AV × AV × Nat)} {es' : List MapEntry} {i : Nat} {r : Option (Nat × AV × AV)}, findK1 P (ttOf P) kt ek x es i = some r → All2 (fun a e => VR μ a.1 e.key ∧ VR μ a.2.1 e.val ∧ a.2.2 = e.born) es es' →
      ∃ r', FoundR μ es' i r r' ∧ (((∀ fs, d ≠ .struct fs) ∧ Instr.findNow d x' es' i = some r') ∨ ((∃ fs, d = .struct fs) ∧ (es' ≠ [] → Instr.findNow d x' es' i = none) ∧ (es' = [] → Instr.findNow d x' es' i = some none ∧ r' = none) ∧ (Instr.findAsking kt x' es' i).run P w = .ok r' w)) := by
  intro es
  induction es with
  | nil =>
    intro es' i r h hes
    cases hes
    injection h with h
    subst h
    refine ⟨none, trivial, ?_⟩
    by_cases hs : ∃ fs, d = .struct fs
    · exact .inr ⟨hs, fun h => absurd rfl h, fun _ => ⟨rfl, rfl⟩, rfl⟩
    · exact .inl ⟨fun fs e => hs ⟨fs, e⟩, rfl⟩
  | cons e es ih =>
    intro es' i r h hes
    cases hes with
    | cons he hes =>
    rename_i e' es'
    obtain ⟨b, hb, h⟩ := ob_eq (show ob _ _ = _ from h)
    have hsame := sameNow_ok hd hk hb hx he.1
    rw [bif2_eq] at h
    split at h
    · rename_i hbt
      subst hbt
      injection h with h
      subst h
      refine ⟨some (i, e'.val), ⟨rfl, he.2.1, Nat.le_refl _, e', by simp, he.1, rfl⟩, ?_⟩
      rcases hsame with ⟨hn, hs⟩ | ⟨hs, h1, h2⟩
      · left
        exact ⟨hn, by simp only [Instr.findNow, hs]⟩
      · right
        refine ⟨hs, fun _ => by simp only [Instr.findNow, h1], (fun h => nomatch h), ?_⟩
        unfold Instr.findAsking
        rw [run_ok (h2 w)]; rfl
    · rename_i hbf
      have hbf' : b = false := by simpa using hbf
      subst hbf'
      obtain ⟨r', hf, hr⟩ := ih h hes
      have hf' : FoundR μ (e' :: es') i r r' := by
        cases r with
        | none => cases r' with
          | none => trivial
          | some _ => exact hf.elim
        | some q => cases r' with
          | none => exact hf.elim
          | some q' =>
            obtain ⟨h1, h2, h3, e1, h4, h5, h6⟩ := hf
            refine ⟨h1, h2, by omega, e1, ?_, h5, h6⟩
            have : q.1 - i = (q.1 - (i + 1)) + 1 := by omega
            rw [this]; simpa using h4
      refine ⟨r', hf', ?_⟩
      rcases hsame with ⟨hn, hs⟩ | ⟨hs, h1, h2⟩
      · rcases hr with ⟨_, hr⟩ | ⟨⟨fs, hst⟩, _⟩
        · left
          exact ⟨hn, by simp only [Instr.findNow, hs]; exact hr⟩
        · exact absurd hst (hn fs)
      · rcases hr with ⟨hn, _⟩ | ⟨_, _, _, hr⟩
        · obtain ⟨fs, hst⟩ := hs
          exact absurd hst (hn fs)
        · right
          refine ⟨hs, fun _ => by simp only [Instr.findNow, h1], (fun h => nomatch h), ?_⟩
          unfold Instr.findAsking
          rw [run_ok (h2 w)]
          exact hr

theorem findKey_ok {kt : TypeId} {x : AV} {x' : Value} (hx : VR μ x x') (w : World) {es : List (AV × AV × Nat)} {es' : List MapEntry} {r : Option (Nat × AV × AV)} (h : findK P (ttOf P) kt x es 0 = some r)
    (hes : All2 (fun a e => VR μ a.1 e.key ∧ VR μ a.2.1 e.val ∧ a.2.2 = e.born) es es') : ∃ r', FoundR μ es' 0 r r' ∧ (Instr.findKey kt x' es').run P w = .ok r' w := by
  obtain ⟨ek, hek, h⟩ := ob_eq h
  obtain ⟨d, hd, hk⟩ := ekOf_eq hek
  obtain ⟨r', hf, hr⟩ := findK_ok hd hk hx w h hes
  refine ⟨r', hf, ?_⟩
  unfold Instr.findKey
  rw [run_ok (run_und hd w)]
  rcases hr with ⟨_, hr⟩ | ⟨_, h1, h2, hr⟩
  · simp only [hr]; rfl
  · cases es' with
    | nil =>
      obtain ⟨h3, h4⟩ := h2 rfl
      simp only [h3, h4]; rfl
    | cons e es' =>
      simp only [h1 (by simp)]
      exact hr

theorem bytesSum_ok : ∀ {l : List AV} {l' : List Value} {n : Nat}, bytesSum l = some n → VRs μ l l' → ∃ bs : List UInt8, l' = bs.map (fun b => Value.int .u8 (b.toNat : Int)) ∧ bytesNum bs = n ∧ bs.length = l.length := by
  intro l
  induction l with
  | nil =>
    intro l' n h hr
    cases hr
    injection h with h
    subst h
    exact ⟨[], rfl, rfl, rfl⟩
  | cons v l ih =>
    intro l' n h hr
    cases hr with
    | cons hv hl =>
    unfold bytesSum at h
    rw [lrec_cons] at h
    split at h
    · rename_i m
      obtain ⟨k, b, e, h1⟩ := onNat_eq h
      injection e with e1 e2
      subst e1; subst e2
      obtain ⟨hlt, h2⟩ := ot_eq h1
      rw [nlt_eq, decide_eq_true_eq] at hlt
      obtain ⟨n', hn, h3⟩ := ob_eq h2
      injection h3 with h3
      obtain ⟨bs, h4, h5, h6⟩ := ih hn hl
      have e := hv.inv_int
      refine ⟨UInt8.ofNat b :: bs, ?_, ?_, by simp [h6]⟩
      · rw [e, h4]
        have : (UInt8.ofNat b).toNat = b := by simp; omega
        simp [this]
      · rw [bytesNum_cons, h5, ← h3]
        have : (UInt8.ofNat b).toNat = b := by simp; omega
        rw [this]; rfl
    · exact nomatch h

theorem fold_push : ∀ (bs : List UInt8) (s : ByteArray), (bs.map fun b => (b.toNat : Int)).foldl (fun r n => r.push (UInt8.ofNat n.toNat)) s = ⟨s.data ++ bs.toArray⟩ := by
  intro bs
  induction bs with
  | nil => intro s; simp
  | cons b bs ih =>
    intro s
    rw [List.map_cons, List.foldl_cons, ih]
    congr 1
    have e : UInt8.ofNat ((b.toNat : Int)).toNat = b := by simp
    rw [e]
    apply Array.ext'
    simp [ByteArray.push]
theorem run_shape {w : World} (r : Nat) : (shape r).run P w = .ok (w.shape? r) w := rfl
theorem shape_cells {w : World} {b' : Nat} {cs : Array Value} {e : TypeId} {fr : Nat × Nat} (h : w.heap[b']? = some (.cells cs e fr)) : w.shape? b' = some (e, cs.size) := by
  unfold World.shape?
  rw [h]
theorem run_viewAt {w : World} {b' : Nat} {cs : Array Value} {e : TypeId} {fr : Nat × Nat} (h : w.heap[b']? = some (.cells cs e fr)) : (viewAt b').run P w = .ok none w := by
  unfold viewAt
  rw [run_ok (run_shape b'), shape_cells h]
  rfl
theorem run_seenAt {w : World} {a : Addr} {cs : Array Value} {e : TypeId} {fr : Nat × Nat} (h : w.heap[a.block]? = some (.cells cs e fr)) : (Conv.seenAt a).run P w = .ok a w := by
  unfold Conv.seenAt
  rw [run_ok (run_viewAt h)]
  rfl
theorem run_cellsIn {w : World} {b' : Nat} {cs : Array Value} {e : TypeId} {fr : Nat × Nat} (h : w.heap[b']? = some (.cells cs e fr)) : (cellsIn b').run P w = .ok (some cs.size) w := by
  unfold cellsIn
  rw [run_ok (run_shape b'), shape_cells h]
  rfl
theorem toUn_ok {A : AH} {w : World} (hR : R P μ A w) {s d e : TypeId} {sz : Nat} {u v : AV} {x' : Value} (hs : und (ttOf P) s = some (.pointer e)) (hd : und (ttOf P) d = some .unsafePointer) (hsz : tsize (ttOf P) e = some sz) (h0 : 0 < sz)
    (he : toUn1 A u = some v) (hr : VR μ u x') : ∃ v', (convert s d x').run P w = .ok v' w ∧ VR μ v v' := by
  have hsz0 : ¬ sz = 0 := by omega
  unfold toUn1 at he
  split at he
  · injection he with he
    have ex : x' = .pointer none := by cases hr; rfl
    subst ex
    refine ⟨_, ?_, by rw [← he]; exact .nilp⟩
    unfold convert
    rw [run_ok (run_und hs w), run_ok (run_und hd w)]
    show (Conv.unsafePointer s d (.pointer none)).run P w = _
    unfold Conv.unsafePointer
    rw [run_ok (run_und hs w), run_ok (run_und hd w)]
    rfl
  · rename_i bb o
    obtain ⟨ob', ho, he2⟩ := ob_eq he
    obtain ⟨n, c, e2, ex, md, fz, ch, rfl, he3⟩ := onCells_eq he2
    obtain ⟨hlt, he4⟩ := ot_eq he3
    rw [nlt_eq, decide_eq_true_eq] at hlt
    injection he4 with he4
    obtain ⟨b', dd, xx, hm, ex'⟩ := hr.inv_ptr
    obtain ⟨o', h1, h2⟩ := hR.obj _ _ _ ho hm
    cases o' with
    | cells cs e' fr =>
      obtain ⟨_, _, hsize, _⟩ := h2
      subst ex'
      refine ⟨_, ?_, by rw [← he4]; exact .ptr hm⟩
      unfold convert
      rw [run_ok (run_und hs w), run_ok (run_und hd w)]
      show (Conv.unsafePointer s d (.pointer (some ⟨b', _, none⟩))).run P w = _
      unfold Conv.unsafePointer
      rw [run_ok (run_und hs w), run_ok (run_und hd w)]
      dsimp only
      rw [run_ok (run_seenAt (a := ⟨b', _, none⟩) h1), run_ok (run_cellsIn h1)]
      dsimp only
      rw [run_ok (run_size hsz w)]
      have hsize' : dd + n ≤ cs.size := hsize
      have hn : ¬ (cs.size ≤ dd + o) := by omega
      simp [hsz0, hn]
    | _ => exact h2.elim
  · exact nomatch he
theorem fromUn_ok {A : AH} {w : World} (hR : R P μ A w) {s d e : TypeId} {sz : Nat} {u v : AV} {x' : Value} (hs : und (ttOf P) s = some .unsafePointer) (hd : und (ttOf P) d = some (.pointer e)) (hsz : tsize (ttOf P) e = some sz) (h0 : 0 < sz)
    (he : fromUn1 P A e u = some v) (hr : VR μ u x') : ∃ v', (convert s d x').run P w = .ok v' w ∧ VR μ v v' := by
  have hsz0 : ¬ sz = 0 := by omega
  unfold fromUn1 at he
  split at he
  · injection he with he
    have ex : x' = .pointer none := by cases hr; rfl
    subst ex
    refine ⟨_, ?_, by rw [← he]; exact .nilp⟩
    unfold convert
    rw [run_ok (run_und hs w), run_ok (run_und hd w)]
    show (Conv.unsafePointer s d (.pointer none)).run P w = _
    unfold Conv.unsafePointer
    rw [run_ok (run_und hs w), run_ok (run_und hd w)]
    rfl
  · rename_i bb o
    obtain ⟨ob', ho, he2⟩ := ob_eq he
    obtain ⟨n, c, e2, ex, md, fz, ch, rfl, he3⟩ := onCells_eq he2
    obtain ⟨hc, he4⟩ := ot_eq he3
    rw [ba_eq, Bool.and_eq_true] at hc
    obtain ⟨hex, hlies⟩ := hc
    injection he4 with he4
    obtain ⟨b', dd, xx, hm, ex'⟩ := hr.inv_ptr
    obtain ⟨o', h1, h2⟩ := hR.obj _ _ _ ho hm
    cases o' with
    | cells cs e' fr =>
      obtain ⟨_, hee, hsize, ⟨hd0, hn⟩, _⟩ := h2
      have hn := hn hex
      subst ex'
      have hdd0 : dd = 0 := hd0
      subst hdd0
      subst hee
      refine ⟨_, ?_, by rw [← he4]; exact .ptr hm⟩
      unfold convert
      rw [run_ok (run_und hs w), run_ok (run_und hd w)]
      show (Conv.unsafePointer s d (.pointer (some ⟨b', _, none⟩))).run P w = _
      unfold Conv.unsafePointer
      rw [run_ok (run_und hs w), run_ok (run_und hd w)]
      dsimp only
      rw [run_ok (run_seenAt (a := ⟨b', _, none⟩) h1), run_ok (run_size hsz w)]
      have hvar : (variablesAt ⟨b', 0 + o, none⟩ e 1).run P w = .ok true w := by
        unfold variablesAt
        rw [run_ok (show program.run P w = .ok P w from rfl), run_ok (run_shape b'), shape_cells h1]
        show Result.ok (liesAt P P.depth e2 (cs.size / P.cellsOf e2) (0 + o) e 1) w = _
        rw [hn, Nat.zero_add, hlies]
      simp only [hsz0, false_or]
      rw [run_ok hvar]
      rfl
    | _ => exact h2.elim
  · exact nomatch he

theorem run_bytesToStr {w : World} {a : Addr} {c : Nat} {bs : List UInt8} (h : (loadCells a bs.length).run P w = .ok (bs.map (fun b => Value.int .u8 (b.toNat : Int))).toArray w) :
    (Conv.bytesToString (.slice (some a) bs.length c)).run P w = .ok (.string ⟨bs.toArray⟩) w := by
  have := run_bytesToString (P := P) w a bs.length c (bs.map fun b => (b.toNat : Int)) (by rw [h, List.map_map]; rfl)
  rw [this, fold_push]
  congr 3
  simp

theorem strOf_ok {A : AH} {w : World} (hR : R P μ A w) {b o len : Nat} {v : AV} (h : strOf A b o len = some v) {b' d : Nat} {x : Option (Nat × Nat)} (hm : μ b = some (b', d, x)) :
    ∃ bs : List UInt8, bs.length = len ∧ VR μ v (.string ⟨bs.toArray⟩) ∧ (loadCells ⟨b', d + o, none⟩ len).run P w = .ok (bs.map (fun b => Value.int .u8 (b.toNat : Int))).toArray w ∧
      (∀ (i : Nat) u, bs[i]? = some u → w.cell? ⟨b', d + o + i, none⟩ = some (.int .u8 (u.toNat : Int))) := by
  obtain ⟨l, hl, h⟩ := ob_eq h
  obtain ⟨n, hn, h⟩ := ob_eq h
  injection h with h
  obtain ⟨l', hr, hlen, _, hcell⟩ := hR.cellsOf hl hm
  obtain ⟨bs, h1, h2, h3⟩ := bytesSum_ok hn hr
  have hcell' : ∀ (i : Nat) v', l'[i]? = some v' → w.cell? ⟨b', d + o + i, none⟩ = some v' := fun i v' hi => by
    rw [Nat.add_assoc]; exact hcell i v' hi
  refine ⟨bs, by rw [h3, hlen], ?_, ?_, ?_⟩
  · rw [← h]
    exact VR.str_of (by simp; omega) (by simp [h2])
  · have := run_loads (P := P) hcell'
    rw [← hr.length, hlen] at this
    rw [this, h1]
  · intro i u hu
    refine hcell' i _ ?_
    rw [h1, List.getElem?_map, hu]; rfl

section
variable (hio : IOR μ wr io ρ)
include hio

theorem load_ok {A : AH} {w : World} (hR : R P μ A w) (o : Oper) {q : LOp} {v : AV} (hc : compOp0 P (ttOf P) wr o.op = some (.l q)) (he : evL io P (ttOf P) A q = some v) : Gives P μ (execOp ρ o) w v := by
  cases ho : o.op with
  | load t a =>
    rw [ho] at hc
    obtain ⟨a', ha, hc⟩ := ob_eq hc
    obtain ⟨g, hg, hc⟩ := ob_eq hc
    rw [bif2_eq] at hc
    split at hc
    · rename_i hgt
      obtain ⟨n, hn, hc⟩ := ob_eq hc
      have hq := (inj_l hc).symm
      subst hq
      obtain ⟨u, hu, he⟩ := ob_eq he
      obtain ⟨b, o', e, he⟩ := onPtr_eq he
      subst e
      obtain ⟨cs, hcs, he⟩ := ob_eq he
      injection he with hev
      obtain ⟨b', d, x, hm, ex⟩ := (hio _ _ _ ha hu).inv_ptr
      obtain ⟨l', hr, hlen, h1, hcell⟩ := hR.cellsOf hcs hm
      refine ⟨.agg l'.toArray, ?_, by rw [← hev]; exact .agg (by simpa using hr) h1⟩
      unfold execOp; rw [ho]
      refine run_v ?_
      rw [ex]
      show (loadVar t ⟨b', d + o', none⟩).run P w = _
      unfold loadVar
      rw [run_ok (run_agg hg w), hgt]
      simp only [if_true]
      rw [run_ok (run_size hn w)]
      have := run_loads (P := P) (w := w) (b' := b') (k := d + o') (l := l') (fun i v' hi => by rw [Nat.add_assoc]; exact hcell i v' hi)
      rw [← hr.length, hlen] at this
      rw [run_ok this]; rfl
    · rename_i hgf
      have hgf' : g = false := by simpa using hgf
      subst hgf'
      have hq := (inj_l hc).symm
      subst hq
      obtain ⟨u, hu, he⟩ := ob_eq he
      obtain ⟨b, o', e, he⟩ := onPtr_eq he
      subst e
      obtain ⟨b', d, x, hm, ex⟩ := (hio _ _ _ ha hu).inv_ptr
      obtain ⟨v', hcell, hr, _⟩ := hR.cell he hm
      refine ⟨v', ?_, hr⟩
      unfold execOp; rw [ho]
      refine run_v ?_
      rw [ex]
      show (loadVar t ⟨b', d + o', none⟩).run P w = _
      unfold loadVar
      rw [run_ok (run_agg hg w)]
      simp only [Bool.false_eq_true, if_false]
      exact run_load1 hcell
  | lookup t x k ok =>
    rw [ho] at hc
    obtain ⟨x', hx, hc⟩ := ob_eq hc
    obtain ⟨k', hk, hc⟩ := ob_eq hc
    obtain ⟨d, hd, hc⟩ := ob_eq hc
    unfold kLookup1 at hc
    cases d with
    | map kt e =>
      obtain ⟨z, hz, hc⟩ := ob_eq hc
      have hq := (inj_l hc).symm
      subst hq
      obtain ⟨kv, hkv, he⟩ := ob_eq he
      obtain ⟨mv, hmv, he⟩ := ob_eq he
      have hkr := hio _ _ _ hk hkv
      have hmr := hio _ _ _ hx hmv
      obtain ⟨z', hz', hzr⟩ := zeroOf_run (P := P) hz μ w
      have fin : ∀ (es : List (AV × AV × Nat)) (es' : Array MapEntry), look1 P (ttOf P) kt z ok kv es = some v → All2 (fun a e => VR μ a.1 e.key ∧ VR μ a.2.1 e.val ∧ a.2.2 = e.born) es es'.toList →
          ∃ v', (do Instr.checkKey es'.isEmpty 10000 kt (ρ k)
                    let (v, ok') ← match ← Instr.findKey kt (ρ k) es'.toList with
                      | some (_, v) => pure (v, true)
                      | none => pure (← zeroValue e, false)
                    pure (if ok then .tuple #[v, .bool ok'] else v) : Sem Value).run P w = .ok v' w ∧ VR μ v v' := by
        intro es es' hl hes
        obtain ⟨hck, hl⟩ := ot_eq hl
        obtain ⟨r, hr, hl⟩ := ob_eq hl
        obtain ⟨r', hf, hrun⟩ := findKey_ok (P := P) hkr w hr hes
        rw [run_ok (key_ok es'.isEmpty 10000 kt kv (ρ k) w hck hkr)]
        rw [run_ok hrun]
        have okT : ∀ {a : AV} {a' : Value} (b : Bool), VR μ a a' → VR μ (okTup a b) (.tuple #[a', .bool b]) := fun b h => .tup (.cons h (.cons (.bool b) .nil))
        cases r with
        | none =>
          cases r' with
          | some _ => exact hf.elim
          | none =>
            injection hl with hl
            simp only
            rw [bif2_eq] at hl
            refine ⟨if ok then .tuple #[z', .bool false] else z', ?_, ?_⟩
            · rw [run_bind, hz']; rfl
            · rw [← hl]; cases ok
              · exact hzr
              · exact okT false hzr
        | some q =>
          obtain ⟨i, kk, vv⟩ := q
          cases r' with
          | none => exact hf.elim
          | some q' =>
            obtain ⟨i', v'⟩ := q'
            obtain ⟨_, hvr, _⟩ := hf
            injection hl with hl
            rw [bif2_eq] at hl
            refine ⟨if ok then .tuple #[v', .bool true] else v', rfl, ?_⟩
            rw [← hl]; cases ok
            · exact hvr
            · exact okT true hvr
      unfold Gives
      have hexec : (execOp ρ o).run P w = (do pure (.value (← Instr.lookup t (ρ x) (ρ k) ok)) : Sem Next).run P w := by unfold execOp; rw [ho]
      rw [hexec]
      rcases onMap_eq he with ⟨b, e1, he2⟩ | ⟨e1, he2⟩
      · subst e1
        obtain ⟨obj, hobj, he3⟩ := ob_eq he2
        obtain ⟨es, c, e2, he4⟩ := onMapO_eq he3
        subst e2
        obtain ⟨b', d', xx, hm, ex⟩ := hmr.inv_map
        obtain ⟨es', hheap, hes⟩ := hR.mapAt hobj hm
        obtain ⟨v', h1, h2⟩ := fin es es' he4 hes
        refine ⟨v', run_v ?_, h2⟩
        unfold Instr.lookup
        rw [run_ok (run_und hd w), ex]
        show (getObj b' >>= fun o => _).run P w = _
        rw [run_ok (run_getObj hheap (fun _ _ _ h => nomatch h))]
        exact h1
      · subst e1
        have ex := hmr.inv_nilm
        obtain ⟨v', h1, h2⟩ := fin [] #[] he2 .nil
        refine ⟨v', run_v ?_, h2⟩
        unfold Instr.lookup
        rw [run_ok (run_und hd w), ex]
        exact h1
    | _ => exact nomatch hc
  | convert s d x =>
    rw [ho] at hc
    obtain ⟨a, ha, hc⟩ := ob_eq hc
    obtain ⟨ds, hds, hc⟩ := ob_eq hc
    obtain ⟨dd, hdd, hc⟩ := ob_eq hc
    unfold kConv1 at hc
    split at hc
    · exact (noL_p hc).elim
    · exact (noL_p hc).elim
    · exact (noL_p hc).elim
    · obtain ⟨_, _, hc⟩ := ob_eq hc
      obtain ⟨_, hc⟩ := ot_eq hc
      obtain ⟨_, _, hc⟩ := ob_eq hc
      obtain ⟨_, hc⟩ := ot_eq hc
      exact (noL_a hc).elim
    · rename_i e
      obtain ⟨de, hde, hc⟩ := ob_eq hc
      obtain ⟨hb, hc⟩ := ot_eq hc
      have hq := (inj_l hc).symm
      subst hq
      have hde' : de = .int .u8 := by
        unfold isByte at hb
        split at hb
        · rfl
        · exact nomatch hb
      subst hde'
      obtain ⟨u, hu, he⟩ := ob_eq he
      have hr := hio _ _ _ ha hu
      have hexec : (execOp ρ o).run P w = (do pure (.value (← convert s d (ρ x))) : Sem Next).run P w := by unfold execOp; rw [ho]
      unfold Gives
      rw [hexec]
      have hu1 := und_eq hds
      have hu2 := und_eq hdd
      have hu3 := und_eq hde
      rcases onSl_eq he with ⟨b, o', len, cap, e1, he2⟩ | ⟨e1, he2⟩
      · subst e1
        obtain ⟨b', d', x', hm, hv⟩ := hr.inv_sl
        rcases hv with ⟨cap', ev, _, _⟩ | ⟨o2, cap', _, _, h0, _, ev⟩
        · obtain ⟨bs, h1, h2, h3, _⟩ := strOf_ok hR he2 hm
          refine ⟨_, run_v ?_, h2⟩
          rw [ev, run_convert_bytes_string w s d _ _ _ _ hu1 hu3 hu2, ← h1]
          exact run_bytesToStr (by rw [h1]; exact h3)
        · subst h0
          obtain ⟨l, hl, h⟩ := ob_eq he2
          obtain ⟨n, hn, h⟩ := ob_eq h
          injection h with hev
          obtain ⟨l', hr', hlen, _, hcell⟩ := hR.cellsOf hl hm
          have hl0 : l = [] := List.eq_nil_of_length_eq_zero hlen
          subst hl0
          injection hn with hn
          refine ⟨.string .empty, run_v ?_, by rw [← hev, ← hn]; exact VR.str_of rfl rfl⟩
          rw [ev, run_convert_bytes_string w s d _ _ _ _ hu1 hu3 hu2]
          rfl
      · subst e1
        injection he2 with hev
        have ev := hr.inv_nils
        refine ⟨.string .empty, run_v ?_, by rw [← hev]; exact VR.str_of rfl rfl⟩
        rw [ev, run_convert_bytes_string w s d _ _ _ _ hu1 hu3 hu2]
        rfl
    · rename_i e
      obtain ⟨sz, hsz, hc⟩ := ob_eq hc
      obtain ⟨hs0, hc⟩ := ot_eq hc
      rw [nlt_eq, decide_eq_true_eq] at hs0
      have hq := (inj_l hc).symm
      subst hq
      obtain ⟨u, hu, he⟩ := ob_eq he
      have hr := hio _ _ _ ha hu
      have hexec : (execOp ρ o).run P w = (do pure (.value (← convert s d (ρ x))) : Sem Next).run P w := by unfold execOp; rw [ho]
      unfold Gives
      rw [hexec]
      obtain ⟨v', h1, h2⟩ := toUn_ok hR hds hdd hsz hs0 he hr
      exact ⟨_, run_v h1, h2⟩
    · rename_i e
      obtain ⟨sz, hsz, hc⟩ := ob_eq hc
      obtain ⟨hs0, hc⟩ := ot_eq hc
      rw [nlt_eq, decide_eq_true_eq] at hs0
      have hq := (inj_l hc).symm
      subst hq
      obtain ⟨u, hu, he⟩ := ob_eq he
      have hr := hio _ _ _ ha hu
      have hexec : (execOp ρ o).run P w = (do pure (.value (← convert s d (ρ x))) : Sem Next).run P w := by unfold execOp; rw [ho]
      unfold Gives
      rw [hexec]
      obtain ⟨v', h1, h2⟩ := fromUn_ok hR hds hdd hsz hs0 he hr
      exact ⟨_, run_v h1, h2⟩
    · exact nomatch hc
  | call c =>
    rw [ho] at hc
    obtain ⟨as, has, hc⟩ := ob_eq hc
    unfold kCallee at hc
    split at hc
    · exact (noL_w hc).elim
    · obtain ⟨f, _, hc⟩ := ob_eq hc
      exact (noL_w hc).elim
    · obtain ⟨f, _, hc⟩ := ob_eq hc
      exact (noL_w hc).elim
    · rename_i b hb
      have hrun := call_builtin (P := P) (ρ := ρ) ho hb w
      unfold Gives
      rw [hrun]
      unfold kBuiltin at hc
      split at hc
      · exact (noL_p hc).elim
      · split at hc
        · rename_i x t hts
          obtain ⟨d, hd, hc⟩ := ob_eq hc
          obtain ⟨ox, hox, hxx⟩ := opnds_one has
          have ea := one_arr hox
          have et := one_arr hts
          rw [ea, et, map_one]
          unfold kBuiltin1 at hc
          split at hc
          · unfold kLen at hc
            cases d with
            | map kt e =>
              have hq := (inj_l hc).symm
              subst hq
              obtain ⟨u, hu, he⟩ := ob_eq he
              have hr := hio _ _ _ hxx hu
              rcases onMap_eq he with ⟨bb, e1, he2⟩ | ⟨e1, he2⟩
              · subst e1
                obtain ⟨obj, hobj, he3⟩ := ob_eq he2
                obtain ⟨es, cl, e2, he4⟩ := onMapO_eq he3
                subst e2
                injection he4 with hev
                obtain ⟨b', d', xx, hm, ex⟩ := hr.inv_map
                obtain ⟨es', hheap, hes⟩ := hR.mapAt hobj hm
                refine ⟨goInt es'.size, run_v ?_, ?_⟩
                · rw [ex]
                  show (underlying t >>= fun d => _).run P w = _
                  rw [run_ok (run_und hd w)]
                  show (getObj b' >>= fun o => _).run P w = _
                  rw [run_ok (run_getObj hheap (fun _ _ _ h => nomatch h))]
                  rfl
                · rw [← hev, len_eq, hes.length]
                  show VR μ (.int .i64 (Int.ofNat es'.toList.length)) (goInt es'.size)
                  rw [Array.length_toList]
                  exact .int _ _
              · subst e1
                injection he2 with hev
                have ex := hr.inv_nilm
                refine ⟨goInt 0, run_v ?_, by rw [← hev]; exact .int _ _⟩
                rw [ex]
                show (underlying t >>= fun d => _).run P w = _
                rw [run_ok (run_und hd w)]; rfl
            | string => exact (noL_p hc).elim
            | slice _ => exact (noL_p hc).elim
            | array _ _ => exact (noL_p hc).elim
            | _ => exact nomatch hc
          · obtain ⟨_, hc⟩ := ot_eq hc
            exact (noL_p hc).elim
          · exfalso
            unfold kClear1 at hc
            cases d with
            | slice e =>
              obtain ⟨z, _, hc⟩ := ob_eq hc
              obtain ⟨n, _, hc⟩ := ob_eq hc
              obtain ⟨_, hc⟩ := ot_eq hc
              exact noL_w hc
            | _ => exact nomatch hc
          · exact (noL_p hc).elim
          · exact nomatch hc
        · rename_i x y t u hts
          obtain ⟨d, hd, hc⟩ := ob_eq hc
          obtain ⟨d2, hd2, hc⟩ := ob_eq hc
          exfalso
          unfold kBuiltin2 at hc
          split at hc
          · unfold kAppend1 at hc
            split at hc
            · obtain ⟨i, _, hc⟩ := ob_eq hc
              obtain ⟨z, _, hc⟩ := ob_eq hc
              obtain ⟨_, hc⟩ := ot_eq hc
              exact noL_w hc
            · obtain ⟨i, _, hc⟩ := ob_eq hc
              obtain ⟨z, _, hc⟩ := ob_eq hc
              obtain ⟨_, hc⟩ := ot_eq hc
              exact noL_w hc
            · exact nomatch hc
          · unfold kCopy1 at hc
            split at hc
            · obtain ⟨i, _, hc⟩ := ob_eq hc
              obtain ⟨_, hc⟩ := ot_eq hc
              exact noL_w hc
            · exact nomatch hc
          · unfold kDelete1 at hc
            split at hc
            · exact noL_w hc
            · exact nomatch hc
          · unfold kUnsafeStr1 at hc
            split at hc
            · obtain ⟨i, _, hc⟩ := ob_eq hc
              obtain ⟨_, hc⟩ := ot_eq hc
              exact noL_w hc
            · exact nomatch hc
          · exact nomatch hc
        · exact nomatch hc
  | move x =>
    rw [ho] at hc
    obtain ⟨_, _, hc⟩ := ob_eq hc
    exact (noL_p hc).elim
  | assign x =>
    rw [ho] at hc
    obtain ⟨_, _, hc⟩ := ob_eq hc
    exact (noL_p hc).elim
  | pick c a b =>
    rw [ho] at hc
    obtain ⟨_, _, hc⟩ := ob_eq hc
    obtain ⟨_, _, hc⟩ := ob_eq hc
    obtain ⟨_, _, hc⟩ := ob_eq hc
    exact (noL_p hc).elim
  | nilCheck x =>
    rw [ho] at hc
    obtain ⟨_, _, hc⟩ := ob_eq hc
    exact (noL_p hc).elim
  | unOp op t x =>
    rw [ho] at hc
    obtain ⟨_, _, hc⟩ := ob_eq hc
    exact (noL_p hc).elim
  | extract x i =>
    rw [ho] at hc
    obtain ⟨_, _, hc⟩ := ob_eq hc
    exact (noL_p hc).elim
  | alloc e =>
    rw [ho] at hc
    obtain ⟨_, _, hc⟩ := ob_eq hc
    exact (noL_a hc).elim
  | box e x =>
    rw [ho] at hc
    obtain ⟨_, _, hc⟩ := ob_eq hc
    exact (noL_a hc).elim
  | build t parts =>
    rw [ho] at hc
    obtain ⟨_, _, hc⟩ := ob_eq hc
    obtain ⟨d, _, hc⟩ := ob_eq hc
    cases d with
    | struct fs =>
      obtain ⟨_, _, hc⟩ := ob_eq hc
      obtain ⟨_, _, hc⟩ := ob_eq hc
      exact (noL_p hc).elim
    | array n e =>
      obtain ⟨_, _, hc⟩ := ob_eq hc
      obtain ⟨_, _, hc⟩ := ob_eq hc
      exact (noL_p hc).elim
    | _ => exact nomatch hc
  | buildSlice t n parts =>
    rw [ho] at hc
    obtain ⟨d, _, hc⟩ := ob_eq hc
    cases d with
    | slice e =>
      obtain ⟨_, _, hc⟩ := ob_eq hc
      obtain ⟨_, _, hc⟩ := ob_eq hc
      obtain ⟨_, _, hc⟩ := ob_eq hc
      obtain ⟨_, hc⟩ := ot_eq hc
      exact (noL_a hc).elim
    | _ => exact nomatch hc
  | store t a x =>
    rw [ho] at hc
    obtain ⟨_, _, hc⟩ := ob_eq hc
    obtain ⟨_, _, hc⟩ := ob_eq hc
    obtain ⟨_, _, hc⟩ := ob_eq hc
    obtain ⟨_, _, hc⟩ := ob_eq hc
    obtain ⟨_, hc⟩ := ot_eq hc
    exact (noL_w hc).elim
  | binOp op t x y yt =>
    rw [ho] at hc
    obtain ⟨_, _, hc⟩ := ob_eq hc
    obtain ⟨_, _, hc⟩ := ob_eq hc
    rw [bif2_eq] at hc
    split at hc
    · obtain ⟨d, _, hc⟩ := ob_eq hc
      cases d with
      | int k => exact (noL_p hc).elim
      | string => exact (noL_p hc).elim
      | _ =>
        obtain ⟨_, hc⟩ := ot_eq hc
        obtain ⟨_, _, hc⟩ := ob_eq hc
        exact (noL_p hc).elim
    · exact (noL_p hc).elim
  | makeInterface t x =>
    rw [ho] at hc
    obtain ⟨_, _, hc⟩ := ob_eq hc
    obtain ⟨_, _, hc⟩ := ob_eq hc
    obtain ⟨_, hc⟩ := ot_eq hc
    exact (noL_p hc).elim
  | makeFunc fn a b =>
    rw [ho] at hc
    obtain ⟨_, _, hc⟩ := ob_eq hc
    obtain ⟨_, _, hc⟩ := ob_eq hc
    obtain ⟨_, hc⟩ := ot_eq hc
    exact (noL_p hc).elim
  | makeMap t r =>
    rw [ho] at hc
    cases r with
    | none => exact (noL_a hc).elim
    | some _ => exact nomatch hc
  | makeSlice t l c =>
    rw [ho] at hc
    obtain ⟨_, _, hc⟩ := ob_eq hc
    obtain ⟨_, _, hc⟩ := ob_eq hc
    obtain ⟨d, _, hc⟩ := ob_eq hc
    cases d with
    | slice e =>
      obtain ⟨_, _, hc⟩ := ob_eq hc
      obtain ⟨_, _, hc⟩ := ob_eq hc
      exact (noL_a hc).elim
    | _ => exact nomatch hc
  | slice t x lo hi mx =>
    rw [ho] at hc
    obtain ⟨_, _, hc⟩ := ob_eq hc
    obtain ⟨_, _, hc⟩ := ob_eq hc
    obtain ⟨_, _, hc⟩ := ob_eq hc
    obtain ⟨_, _, hc⟩ := ob_eq hc
    obtain ⟨d, _, hc⟩ := ob_eq hc
    cases d with
    | string => obtain ⟨_, hc⟩ := ot_eq hc; exact (noL_p hc).elim
    | slice e => obtain ⟨_, _, hc⟩ := ob_eq hc; obtain ⟨_, hc⟩ := ot_eq hc; exact (noL_p hc).elim
    | array n e => obtain ⟨_, _, hc⟩ := ob_eq hc; obtain ⟨_, hc⟩ := ot_eq hc; exact (noL_p hc).elim
    | _ => exact nomatch hc
  | fieldAddr s x f =>
    rw [ho] at hc
    obtain ⟨_, _, hc⟩ := ob_eq hc
    obtain ⟨d, _, hc⟩ := ob_eq hc
    cases d with
    | struct fs =>
      obtain ⟨_, _, hc⟩ := ob_eq hc
      obtain ⟨_, _, hc⟩ := ob_eq hc
      obtain ⟨_, hc⟩ := ot_eq hc
      exact (noL_p hc).elim
    | _ => exact nomatch hc
  | field t x f =>
    rw [ho] at hc
    obtain ⟨_, _, hc⟩ := ob_eq hc
    obtain ⟨d, _, hc⟩ := ob_eq hc
    cases d with
    | struct fs =>
      obtain ⟨_, _, hc⟩ := ob_eq hc
      obtain ⟨_, _, hc⟩ := ob_eq hc
      obtain ⟨_, _, hc⟩ := ob_eq hc
      exact (noL_p hc).elim
    | _ => exact nomatch hc
  | indexAddr t x i =>
    rw [ho] at hc
    obtain ⟨_, _, hc⟩ := ob_eq hc
    obtain ⟨_, _, hc⟩ := ob_eq hc
    obtain ⟨d, _, hc⟩ := ob_eq hc
    cases d with
    | array n e => obtain ⟨_, _, hc⟩ := ob_eq hc; exact (noL_p hc).elim
    | slice e => obtain ⟨_, _, hc⟩ := ob_eq hc; exact (noL_p hc).elim
    | _ => exact nomatch hc
  | index t x i =>
    rw [ho] at hc
    obtain ⟨_, _, hc⟩ := ob_eq hc
    obtain ⟨_, _, hc⟩ := ob_eq hc
    obtain ⟨d, _, hc⟩ := ob_eq hc
    cases d with
    | array n e => obtain ⟨_, _, hc⟩ := ob_eq hc; obtain ⟨_, _, hc⟩ := ob_eq hc; exact (noL_p hc).elim
    | string => exact (noL_p hc).elim
    | _ => exact nomatch hc
  | mapUpdate t m k x =>
    rw [ho] at hc
    obtain ⟨_, _, hc⟩ := ob_eq hc
    obtain ⟨_, _, hc⟩ := ob_eq hc
    obtain ⟨_, _, hc⟩ := ob_eq hc
    obtain ⟨d, _, hc⟩ := ob_eq hc
    cases d with
    | map kt e => exact (noL_w hc).elim
    | _ => exact nomatch hc
  | insert t m k x =>
    rw [ho] at hc
    obtain ⟨_, _, hc⟩ := ob_eq hc
    obtain ⟨_, _, hc⟩ := ob_eq hc
    obtain ⟨_, _, hc⟩ := ob_eq hc
    obtain ⟨d, _, hc⟩ := ob_eq hc
    cases d with
    | map kt e => exact (noL_w hc).elim
    | _ => exact nomatch hc
  | range t x =>
    rw [ho] at hc
    obtain ⟨_, _, hc⟩ := ob_eq hc
    obtain ⟨d, _, hc⟩ := ob_eq hc
    obtain ⟨_, hc⟩ := ot_eq hc
    exact (noL_a hc).elim
  | next x s =>
    rw [ho] at hc
    obtain ⟨_, _, hc⟩ := ob_eq hc
    obtain ⟨_, hc⟩ := ot_eq hc
    exact (noL_w hc).elim
  | typeAssert x xt t ok =>
    rw [ho] at hc
    obtain ⟨_, _, hc⟩ := ob_eq hc
    obtain ⟨_, _, hc⟩ := ob_eq hc
    obtain ⟨_, _, hc⟩ := ob_eq hc
    obtain ⟨_, hc⟩ := ot_eq hc
    exact (noL_p hc).elim
  | _ => rw [ho] at hc; exact nomatch hc
end
end Go.Ev
end
