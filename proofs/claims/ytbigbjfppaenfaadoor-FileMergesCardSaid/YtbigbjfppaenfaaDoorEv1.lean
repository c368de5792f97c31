/- The evaluator Ev and its soundness, part 2 of 5: what it computes of a function, the model's machine computes on every tape. -/
import Derived.Test.YtbigbjfppaenfaaDoorEv0
import Derived.Laws.StructEq
import Derived.IntWalk
section
/- Ev, part 9: '==' part by part; keys of maps. -/
namespace Go.Ev
set_option linter.unusedSectionVars false
variable [F : Facts] [E : Env]
set_option linter.unusedSimpArgs false
set_option linter.unusedVariables false
variable {P : Program} {μ : Mu}

theorem seqS_eq (s t : ByteArray) : seqS s.data.toList.length (bytesNum s.data.toList) t.data.toList.length (bytesNum t.data.toList) = (s.data.toList == t.data.toList) := by
  unfold seqS
  rw [ba_eq, nbeq_eq, nbeq_eq, Bool.eq_iff_iff]
  simp only [Bool.and_eq_true, decide_eq_true_eq, beq_iff_eq]
  exact ⟨fun ⟨h1, h2⟩ => bytesNum_inj _ _ h1 h2, fun h => by rw [h]; exact ⟨rfl, rfl⟩⟩
theorem bytes_beq (s t : ByteArray) : (s == t) = (s.data.toList == t.data.toList) := by
  rw [beq_toListBytes, toList_data, toList_data]

theorem part_ok {off size : Nat} {g : Bool} {v u : AV} {v' : Value} {t : TypeId} (hg : tagg (ttOf P) t = some g) (hs : tsize (ttOf P) t = some size)
    (h : part off size g v = some u) (hv : VR μ v v') (w : World) : ∃ cs' u', v' = .agg cs' ∧ (Go.part t cs' off).run P w = .ok u' w ∧ VR μ u u' := by
  obtain ⟨cs, rfl, h⟩ := onAgg_eq h
  obtain ⟨cs', rfl, hcs, h1⟩ := hv.inv_agg
  refine ⟨cs', ?_⟩
  unfold Go.part
  cases g with
  | true =>
    replace h : some (AV.agg (takeN (dropN cs off) size)) = some u := h
    injection h with h
    subst h
    refine ⟨.agg (cs'.extract off (off + size)), rfl, ?_, ?_⟩
    · rw [run_ok (run_agg hg w)]
      simp only [if_true]
      rw [run_ok (run_size hs w)]; rfl
    · rw [takeN_eq, dropN_eq]
      refine .agg ?_ fun c hc => h1 c (List.mem_of_mem_drop (List.mem_of_mem_take hc))
      have : (cs'.extract off (off + size)).toList = (cs'.toList.drop off).take size := by
        rw [Array.toList_extract, List.extract_eq_take_drop]
        simp
      rw [this]
      exact (hcs.drop off).take size
  | false =>
    replace h : nth cs off = some u := h
    rw [nth_eq] at h
    obtain ⟨u', hu, hr⟩ := hcs.get h
    refine ⟨u', rfl, ?_, hr⟩
    rw [run_ok (run_agg hg w)]
    simp only [Bool.false_eq_true, if_false]
    have : cs'[off]? = some u' := by simpa using hu
    rw [this]; rfl

theorem name_beq (a b : String) : (a == b) = decide (a = b) := by rw [Bool.eq_iff_iff]; simp

theorem ekOf_eq {t : TypeId} {k : EK} (h : ekOf (ttOf P) t = some k) : ∃ d, und (ttOf P) t = some d ∧ ekD d = some k := ob_eq h

theorem fieldsOf_eq {t : TypeId} {fs : Array Field} (h : P.underlying t = some (.struct fs)) : P.fieldsOf t = fs := by
  unfold Program.fieldsOf; rw [h]

theorem eqSym_ok (w : World) (d : Nat) (t : TypeId) {i j : IntKind} {c e : Int} {l r : Lin} {x' y' : Value} {k : EK} {b : Bool} {ds : TypeDesc}
    (hx : x' = .int i (c + linV E.val l)) (hy : y' = .int j (e + linV E.val r)) (h : eqSym i c l j e r k = some b) (hu : P.underlying t = some ds) (hdk : ekD ds = some k) :
    (Op.equalIn (d + 1) t x' y').run P w = .ok b w := by
  unfold eqSym at h
  split at h
  · subst hx; subst hy
    cases ds <;> simp [ekD] at hdk
    obtain ⟨h1, h2⟩ := ot_eq h
    rw [keq_eq, decide_eq_true_eq] at h1
    subst h1
    obtain ⟨v, hv, h2⟩ := ob_eq h2
    obtain ⟨b', e1, h3⟩ := onBool_eq h2
    subst e1
    injection h3 with h3
    subst h3
    have hc := cmpL_ok hv
    rw [run_equalIn_int w d t _ _ _ _ hu]
    unfold cmpI at hc
    rw [ieq_eq] at hc
    injection hc with hc
    injection hc with hc
    rw [← hc]
  · exact nomatch h

set_option maxHeartbeats 4000000 in
theorem equal_ok : ∀ (d : Nat) (t : TypeId) (x y : AV) (x' y' : Value) (b : Bool) (w : World), eqv P (ttOf P) d t x y = some b → VR μ x x' → VR μ y y' →
    (Op.equalIn d t x' y').run P w = .ok b w := by
  intro d
  induction d with
  | zero => intro t x y x' y' b w h; exact nomatch h
  | succ d ih =>
    intro t x y x' y' b w h hx hy
    replace h : ob (ekOf (ttOf P) t) (eqv1 P (ttOf P) (eqv P (ttOf P) d) t x y) = some b := h
    obtain ⟨k, hk, h⟩ := ob_eq h
    obtain ⟨ds, hd, hdk⟩ := ekOf_eq hk
    have hu := und_eq hd
    unfold eqv1 at h
    split at h
    · -- bool
      split at h
      · have e := hx.inv_bool; have e' := hy.inv_bool; subst e; subst e'
        cases ds <;> simp [ekD] at hdk
        rw [run_equalIn_bool' w d t _ _ hu]; simp at h; rw [← h]
      · exact nomatch h
    · split at h
      · have e := hx.inv_int; have e' := hy.inv_int; subst e; subst e'
        cases ds <;> simp [ekD] at hdk
        obtain ⟨h1, h2⟩ := ot_eq h
        rw [keq_eq, decide_eq_true_eq] at h1
        subst h1
        rw [run_equalIn_int w d t _ _ _ _ hu]; rw [ieq_eq] at h2; injection h2 with h2; rw [← h2]
      · exact nomatch h
    · exact eqSym_ok w d t hx.inv_int0 hy.inv_sum h hu hdk
    · exact eqSym_ok w d t hx.inv_sum hy.inv_int0 h hu hdk
    · exact eqSym_ok w d t hx.inv_sum hy.inv_sum h hu hdk
    · split at h
      · obtain ⟨s, rfl, rfl, rfl⟩ := hx.inv_str
        obtain ⟨s', rfl, rfl, rfl⟩ := hy.inv_str
        cases ds <;> simp [ekD] at hdk
        rw [run_equalIn_string w d t _ _ hu, toList_data, toList_data]
        rw [seqS_eq] at h
        injection h with h; rw [← h]
      · exact nomatch h
    · split at h
      · cases hx; cases hy
        cases ds <;> simp [ekD] at hdk
        injection h with h; subst h; simp [Op.equalIn, run_bind, run_und hd w]
      · exact nomatch h
    · split at h
      · cases hx; cases hy
        cases ds <;> simp [ekD] at hdk
        injection h with h; subst h; simp [Op.equalIn, run_bind, run_und hd w]
      · exact nomatch h
    · split at h
      · cases hx; cases hy
        cases ds <;> simp [ekD] at hdk
        injection h with h; subst h; simp [Op.equalIn, run_bind, run_und hd w]
      · exact nomatch h
    · split at h
      · rename_i b1 o1 b2 o2 _ e _
        obtain ⟨s, hs, h2⟩ := ob_eq h
        obtain ⟨h1, h3⟩ := ot_eq h2
        rw [ba_eq, nlt_eq, nbeq_eq] at h1
        simp at h1
        obtain ⟨hs0, rfl⟩ := h1
        obtain ⟨b', d', x', hm, rfl⟩ := hx.inv_ptr
        obtain ⟨b2, d2, x2, hm2, rfl⟩ := hy.inv_ptr
        rw [hm] at hm2
        injection hm2 with hm2
        injection hm2 with e1 e2
        injection e2 with e2 e3
        subst e1; subst e2
        cases ds <;> simp [ekD] at hdk
        subst hdk
        simp only [Op.equalIn, run_bind, run_und hd w, run_size hs w]
        rw [if_pos (by omega)]
        simp only [sameAddr, beq_self_eq_true, if_true]
        injection h3 with h3
        rw [← h3, nbeq_eq]
        show Result.ok _ w = _
        congr 1
        rw [Bool.eq_iff_iff]
        simp
      · exact nomatch h
    · split at h
      · cases hx; cases hy
        cases ds <;> simp [ekD] at hdk
        injection h with h; subst h; simp [Op.equalIn, run_bind, run_und hd w]
      · exact nomatch h
    · split at h
      · cases hx; cases hy
        cases ds <;> simp [ekD] at hdk
        injection h with h; subst h; simp [Op.equalIn, run_bind, run_und hd w]
      · exact nomatch h
    · split at h
      · cases hx; cases hy
        cases ds <;> simp [ekD] at hdk
        injection h with h; subst h; simp [Op.equalIn, run_bind, run_und hd w]
      · exact nomatch h
    · split at h
      · rename_i tx vx ty vy _ _
        cases hx with
        | ifc _ hvx =>
        cases hy with
        | ifc _ hvy =>
        cases ds <;> simp [ekD] at hdk
        unfold eqIfc at h
        rw [bif2_eq, nbeq_eq] at h
        by_cases e : tx = ty
        · subst e
          simp only [decide_true, if_true] at h
          obtain ⟨i, hi, h⟩ := ob_eq h
          obtain ⟨hc, h⟩ := ot_eq h
          simp only [Op.equalIn, run_bind, run_und hd w]
          simp only [ne_eq, not_true_eq_false, if_false, run_bind, run_info hi w, hc, Bool.not_true, Bool.false_eq_true]
          exact ih _ _ _ _ _ _ _ h hvx hvy
        · simp [e] at h
          simp [Op.equalIn, run_bind, run_und hd w, e]; rw [h]
      · exact nomatch h
    · split at h
      · cases hx; cases hy
        cases ds <;> simp [ekD] at hdk
        injection h with h; subst h; simp [Op.equalIn, run_bind, run_und hd w]
      · exact nomatch h
    · split at h
      · cases hx
        cases ds <;> simp [ekD] at hdk
        injection h with h; subst h; cases hy <;> simp [Op.equalIn, run_bind, run_und hd w]
      · exact nomatch h
    · split at h
      · cases hy
        cases ds <;> simp [ekD] at hdk
        injection h with h; subst h; cases hx <;> simp [Op.equalIn, run_bind, run_und hd w]
      · exact nomatch h
    · split at h
      · cases hx; cases hy
        cases ds <;> simp [ekD] at hdk
        injection h with h; subst h; simp [Op.equalIn, run_bind, run_und hd w]
      · exact nomatch h
    · split at h
      · cases hx; cases hy
        cases ds <;> simp [ekD] at hdk
        injection h with h; subst h; simp [Op.equalIn, run_bind, run_und hd w]
      · exact nomatch h
    · split at h
      · cases hx; cases hy
        cases ds <;> simp [ekD] at hdk
        injection h with h; subst h; simp [Op.equalIn, run_bind, run_und hd w]
      · exact nomatch h
    · split at h
      · cases hx; cases hy
        cases ds <;> simp [ekD] at hdk
        injection h with h; subst h; simp [Op.equalIn, run_bind, run_und hd w]
      · exact nomatch h
    · split at h
      · cases hx
        cases ds <;> simp [ekD] at hdk
        injection h with h; subst h; cases hy <;> simp [Op.equalIn, run_bind, run_und hd w]
      · exact nomatch h
    · split at h
      · cases hy
        cases ds <;> simp [ekD] at hdk
        injection h with h; subst h; cases hx <;> simp [Op.equalIn, run_bind, run_und hd w]
      · exact nomatch h
    · unfold eqAgg at h
      split at h
      · rename_i xs ys _ fs
        obtain ⟨hst, h⟩ := ot_eq h
        rw [nb_eq] at hst
        simp at hst
        obtain ⟨xs', rfl, hxs, hx1⟩ := hx.inv_agg
        obtain ⟨ys', rfl, hys, hy1⟩ := hy.inv_agg
        cases ds <;> simp [ekD] at hdk
        rename_i fs'
        subst hdk
        have hf := fieldsOf_eq hu
        rw [run_equalIn_struct w d t _ _ (by rw [hf]; exact hu) hst, hf]
        clear hk hd hu hf hst
        generalize fs'.toList = l at h
        induction l with
        | nil => simp [eqFields] at h; simp [Op.eqFields, h]
        | cons f l ihl =>
          unfold eqFields at h
          rw [lrec_cons] at h
          obtain ⟨r, hr, h⟩ := ob_eq h
          unfold eqField at hr
          rw [bif2_eq, name_beq] at hr
          unfold Op.eqFields
          by_cases hn : f.name = "_"
          · simp [hn] at hr
            subst hr
            rw [if_neg (by simpa using hn)]
            exact ihl h
          · simp [hn] at hr
            rw [if_pos (by simpa using hn)]
            obtain ⟨g, hg, hr⟩ := ob_eq hr
            obtain ⟨sz, hsz, hr⟩ := ob_eq hr
            obtain ⟨u, hu, hr⟩ := ob_eq hr
            obtain ⟨v, hv, hr⟩ := ob_eq hr
            obtain ⟨_, u', e1, ru, hru⟩ := part_ok hg hsz hu hx w
            injection e1 with e1
            subst e1
            obtain ⟨_, v', e2, rv, hrv⟩ := part_ok hg hsz hv hy w
            injection e2 with e2
            subst e2
            rw [run_ok ru, run_ok rv, run_ok (ih _ _ _ _ _ _ w hr hru hrv)]
            cases r with
            | true =>
              simp only [Bool.not_true, Bool.false_eq_true, if_false]
              exact ihl h
            | false =>
              simp at h
              simp [h]
      · exact nomatch h
    · exact nomatch h
theorem key_ok (e : Bool) : ∀ (d : Nat) (t : TypeId) (x : AV) (x' : Value) (w : World), ckey (ttOf P) d t x = true → VR μ x x' → (Instr.checkKey e d t x').run P w = .ok () w := by
  intro d
  induction d with
  | zero => intro t x x' w h; exact nomatch h
  | succ d ih =>
    intro t x x' w h hx
    replace h : (match ekOf (ttOf P) t with | some k => ck1 (ttOf P) (ckey (ttOf P) d) x k | none => false) = true := h
    split at h
    · rename_i k hk
      obtain ⟨ds, hd, hdk⟩ := ekOf_eq hk
      have hu := und_eq hd
      unfold ck1 at h
      split at h
      · cases ds <;> simp [ekD] at hdk
        simp only [Instr.checkKey, run_bind, run_und hd w]; rfl
      · cases ds <;> simp [ekD] at hdk
        simp only [Instr.checkKey, run_bind, run_und hd w]; rfl
      · cases ds <;> simp [ekD] at hdk
        simp only [Instr.checkKey, run_bind, run_und hd w]; rfl
      · cases ds <;> simp [ekD] at hdk
        simp only [Instr.checkKey, run_bind, run_und hd w]; rfl
      · split at h
        · rename_i fs _ cs
          cases ds <;> simp [ekD] at hdk
          rename_i fs'
          subst hdk
          obtain ⟨cs', rfl, hcs, h1⟩ := hx.inv_agg
          simp only [Instr.checkKey, run_bind, run_und hd w]
          rw [← Array.forIn_toList]
          rw [allB_eq, List.all_eq_true] at h
          have key : ∀ l : List Field, (∀ f ∈ l, ckField (ttOf P) (ckey (ttOf P) d) (.agg cs) f = true) →
              Sem.run P (forIn l PUnit.unit fun f __s =>
                if f.name ≠ "_" then do
                  let u ← Go.part f.type cs' f.offset
                  Instr.checkKey e d f.type u
                  pure (ForInStep.yield PUnit.unit)
                else pure (ForInStep.yield PUnit.unit)) w = Result.ok () w := by
            intro l h
            induction l with
            | nil => rfl
            | cons f l ihl =>
              rw [List.forIn_cons, run_bind]
              have hh := h f (by simp)
              unfold ckField at hh
              rw [bo_eq, name_beq] at hh
              by_cases hn : f.name = "_"
              · rw [if_neg (by simpa using hn)]
                exact ihl fun g hg => h g (by simp [hg])
              · rw [if_pos hn]
                simp only [hn, decide_false, Bool.false_or] at hh
                split at hh
                · rename_i u hu
                  obtain ⟨g, hg, hu⟩ := ob_eq hu
                  obtain ⟨sz, hsz, hu⟩ := ob_eq hu
                  obtain ⟨_, u', e1, ru, hru⟩ := part_ok hg hsz hu hx w
                  injection e1 with e1
                  subst e1
                  rw [run_ok ru, run_ok (ih _ _ _ w hh hru)]
                  exact ihl fun g hg => h g (by simp [hg])
                · exact nomatch hh
          rw [key _ h]; rfl
        · exact nomatch h
      · exact nomatch h
    · exact nomatch h
end Go.Ev
end

section
/- Ev, part 10: operations that are pure. -/
namespace Go.Ev
set_option linter.unusedSectionVars false
variable [F : Facts] [E : Env]
set_option linter.unusedSimpArgs false
set_option linter.unusedVariables false
variable {P : Program} {μ : Mu}

theorem lim_i8 : lim .i8 = 128 := rfl
theorem pos_i8 (m : Nat) (h : ¬ 128 ≤ m) : IntKind.i8.wrap (m : Int) = m := IntWalk.i8_in _ ⟨by omega, by omega⟩
theorem lim_i16 : lim .i16 = 32768 := rfl
theorem pos_i16 (m : Nat) (h : ¬ 32768 ≤ m) : IntKind.i16.wrap (m : Int) = m := IntWalk.i16_in _ ⟨by omega, by omega⟩
theorem lim_i32 : lim .i32 = 2147483648 := rfl
theorem pos_i32 (m : Nat) (h : ¬ 2147483648 ≤ m) : IntKind.i32.wrap (m : Int) = m := IntWalk.i32_in _ ⟨by omega, by omega⟩
theorem lim_i64 : lim .i64 = 9223372036854775808 := rfl
theorem pos_i64 (m : Nat) (h : ¬ 9223372036854775808 ≤ m) : IntKind.i64.wrap (m : Int) = m := IntWalk.i64_in _ ⟨by omega, by omega⟩
theorem lim_u8 : lim .u8 = 256 := rfl
theorem pos_u8 (m : Nat) (h : ¬ 256 ≤ m) : IntKind.u8.wrap (m : Int) = m := IntWalk.u8_in _ ⟨by omega, by omega⟩
theorem lim_u16 : lim .u16 = 65536 := rfl
theorem pos_u16 (m : Nat) (h : ¬ 65536 ≤ m) : IntKind.u16.wrap (m : Int) = m := IntWalk.u16_in _ ⟨by omega, by omega⟩
theorem lim_u32 : lim .u32 = 4294967296 := rfl
theorem pos_u32 (m : Nat) (h : ¬ 4294967296 ≤ m) : IntKind.u32.wrap (m : Int) = m := IntWalk.u32_in _ ⟨by omega, by omega⟩
theorem lim_u64 : lim .u64 = 18446744073709551616 := rfl
theorem pos_u64 (m : Nat) (h : ¬ 18446744073709551616 ≤ m) : IntKind.u64.wrap (m : Int) = m := IntWalk.u64_in _ ⟨by omega, by omega⟩
theorem neg_i8 (m : Nat) (h : ¬ 128 ≤ m) : IntKind.i8.wrap (-(m : Int) - 1) = -(m : Int) - 1 := IntWalk.i8_in _ ⟨by omega, by omega⟩
theorem neg_i16 (m : Nat) (h : ¬ 32768 ≤ m) : IntKind.i16.wrap (-(m : Int) - 1) = -(m : Int) - 1 := IntWalk.i16_in _ ⟨by omega, by omega⟩
theorem neg_i32 (m : Nat) (h : ¬ 2147483648 ≤ m) : IntKind.i32.wrap (-(m : Int) - 1) = -(m : Int) - 1 := IntWalk.i32_in _ ⟨by omega, by omega⟩
theorem neg_i64 (m : Nat) (h : ¬ 9223372036854775808 ≤ m) : IntKind.i64.wrap (-(m : Int) - 1) = -(m : Int) - 1 := IntWalk.i64_in _ ⟨by omega, by omega⟩
theorem pos_in (k : IntKind) (m : Nat) (h : ¬ lim k ≤ m) : k.wrap (m : Int) = m := by
  cases k with
  | i8 => exact pos_i8 m (by rw [lim_i8] at h; exact h)
  | i16 => exact pos_i16 m (by rw [lim_i16] at h; exact h)
  | i32 => exact pos_i32 m (by rw [lim_i32] at h; exact h)
  | i64 => exact pos_i64 m (by rw [lim_i64] at h; exact h)
  | u8 => exact pos_u8 m (by rw [lim_u8] at h; exact h)
  | u16 => exact pos_u16 m (by rw [lim_u16] at h; exact h)
  | u32 => exact pos_u32 m (by rw [lim_u32] at h; exact h)
  | u64 => exact pos_u64 m (by rw [lim_u64] at h; exact h)
theorem neg_in (k : IntKind) (hs : k.signed = true) (m : Nat) (h : ¬ lim k ≤ m) : k.wrap (-(m : Int) - 1) = -(m : Int) - 1 := by
  cases k with
  | i8 => exact neg_i8 m (by rw [lim_i8] at h; exact h)
  | i16 => exact neg_i16 m (by rw [lim_i16] at h; exact h)
  | i32 => exact neg_i32 m (by rw [lim_i32] at h; exact h)
  | i64 => exact neg_i64 m (by rw [lim_i64] at h; exact h)
  | u8 => exact nomatch hs
  | u16 => exact nomatch hs
  | u32 => exact nomatch hs
  | u64 => exact nomatch hs
theorem wrapF_eq (k : IntKind) (n : Int) : wrapF k n = k.wrap n := by
  cases n with
  | ofNat m =>
    show bif2 (Nat.ble (lim k) m) (k.wrap (.ofNat m)) (.ofNat m) = _
    rw [bif2_eq, nle_eq]
    split
    · rfl
    · rename_i h
      rw [decide_eq_true_eq] at h
      exact (pos_in k m h).symm
  | negSucc m =>
    show bif2 (bif2 k.signed (Nat.ble (lim k) m) true) (k.wrap (.negSucc m)) (.negSucc m) = _
    cases hs : k.signed with
    | false => rw [bif2_false, bif2_true]
    | true =>
      rw [bif2_true, bif2_eq, nle_eq]
      split
      · rfl
      · rename_i h
        rw [decide_eq_true_eq] at h
        have e : Int.negSucc m = -(m : Int) - 1 := by omega
        rw [e]
        exact (neg_in k hs m h).symm

/-- gives a value, and leaves the world alone -/
def Gives (P : Program) (μ : Mu) (s : Sem Next) (w : World) (v : AV) : Prop := ∃ v', s.run P w = .ok (.value v') w ∧ VR μ v v'
section
variable {wr : WrT} {io : Opd → Option AV} {ρ : Operand → Value} (hio : IOR μ wr io ρ)
include hio

theorem ios_rel : ∀ {l : List Operand} {xs : List Opd} {vs : List AV}, opnds wr l = some xs → ios io xs = some vs → VRs μ vs (l.map ρ) := by
  intro l
  induction l with
  | nil =>
    intro xs vs h1 h2
    unfold opnds at h1
    simp at h1; subst h1
    unfold ios at h2
    simp at h2; subst h2
    exact .nil
  | cons x l ih =>
    intro xs vs h1 h2
    unfold opnds at h1
    rw [mapO_cons] at h1
    obtain ⟨a, ha, h1⟩ := ob_eq h1
    obtain ⟨as, has, h1⟩ := ob_eq h1
    injection h1 with h1
    subst h1
    unfold ios at h2
    rw [mapO_cons] at h2
    obtain ⟨v, hv, h2⟩ := ob_eq h2
    obtain ⟨vs', hvs, h2⟩ := ob_eq h2
    injection h2 with h2
    subst h2
    exact .cons (hio _ _ _ ha hv) (ih has hvs)

omit hio in
theorem arithI_ok {op : BinOp} {k : IntKind} {a b : Int} {v : AV} (t : TypeId) (h : arithI op k a b = some v) (w : World) :
    ∃ v', (binOp op t (.int k a) (.int k b)).run P w = .ok v' w ∧ VR μ v v' := by
  unfold arithI at h
  split at h
  · injection h with h
    refine ⟨_, ?_, by rw [← h]; exact .int _ _⟩
    simp only [binOp, ne_eq, not_true_eq_false, if_false, Op.intArith, wrapF_eq]; rfl
  · injection h with h
    refine ⟨_, ?_, by rw [← h]; exact .int _ _⟩
    simp only [binOp, ne_eq, not_true_eq_false, if_false, Op.intArith, wrapF_eq]; rfl
  · injection h with h
    refine ⟨_, ?_, by rw [← h]; exact .int _ _⟩
    simp only [binOp, ne_eq, not_true_eq_false, if_false, Op.intArith, wrapF_eq]; rfl
  · obtain ⟨h0, h⟩ := ot_eq h
    rw [nb_eq, ieq_eq] at h0
    injection h with h
    refine ⟨_, ?_, by rw [← h]; exact .int _ _⟩
    simp only [binOp, ne_eq, not_true_eq_false, if_false, Op.intDiv, wrapF_eq]
    rw [if_neg (by simpa using h0)]; rfl
  · obtain ⟨h0, h⟩ := ot_eq h
    rw [nb_eq, ieq_eq] at h0
    injection h with h
    refine ⟨_, ?_, by rw [← h]; exact .int _ _⟩
    simp only [binOp, ne_eq, not_true_eq_false, if_false, Op.intDiv, wrapF_eq]
    rw [if_neg (by simpa using h0)]; rfl
  · injection h with h
    refine ⟨_, ?_, by rw [← h]; exact .int _ _⟩
    simp only [binOp, ne_eq, not_true_eq_false, if_false, Op.intBits]; rfl
  · injection h with h
    refine ⟨_, ?_, by rw [← h]; exact .int _ _⟩
    simp only [binOp, ne_eq, not_true_eq_false, if_false, Op.intBits]; rfl
  · injection h with h
    refine ⟨_, ?_, by rw [← h]; exact .int _ _⟩
    simp only [binOp, ne_eq, not_true_eq_false, if_false, Op.intBits]; rfl
  · injection h with h
    refine ⟨_, ?_, by rw [← h]; exact .int _ _⟩
    simp only [binOp, ne_eq, not_true_eq_false, if_false, Op.intBits]; rfl
  · exact nomatch h

omit hio in
theorem min_bif (m n : Nat) : (bif2 (Nat.ble m n) m n) = min m n := by
  rw [bif2_eq, nle_eq]
  simp only [decide_eq_true_eq]
  split <;> omega

omit hio in
theorem arithS_ok {op : BinOp} {k k' : IntKind} {a b : Int} {v : AV} (t : TypeId) (h : arithS op k a b = some v) (w : World) :
    ∃ v', (binOp op t (.int k a) (.int k' b)).run P w = .ok v' w ∧ VR μ v v' := by
  unfold arithS at h
  split at h
  · unfold aShl at h
    split at h
    · rename_i m
      injection h with h
      refine ⟨_, ?_, by rw [← h]; exact .int _ _⟩
      show (Op.shift .shl k a k' (Int.ofNat m)).run P w = _
      unfold Op.shift
      rw [if_neg (by simp), wrapF_eq, min_bif]
      show Result.ok (Value.int k (k.wrap (a * 2 ^ min (Int.ofNat m).toNat k.bits))) w = Result.ok (Value.int k (k.wrap (a * ((2 ^ min m k.bits : Nat) : Int)))) w
      rw [Int.natCast_pow]; rfl
    · exact nomatch h
  · unfold aShr at h
    split at h
    · rename_i m
      injection h with h
      refine ⟨_, ?_, by rw [← h]; exact .int _ _⟩
      show (Op.shift .shr k a k' (Int.ofNat m)).run P w = _
      unfold Op.shift
      rw [if_neg (by simp), min_bif]
      show Result.ok (Value.int k (a.fdiv (2 ^ min (Int.ofNat m).toNat k.bits))) w = Result.ok (Value.int k (a.fdiv (((2 ^ min m k.bits : Nat) : Int)))) w
      rw [Int.natCast_pow]; rfl
    · exact nomatch h
  · exact nomatch h

omit hio in
theorem concat_ok {x y v : AV} {x' y' : Value} {la a : Nat} (t : TypeId) (h : onStr (fun lb b => concatS la a lb b) y = some v) (hx : VR μ (.str la a) x') (hy : VR μ y y') (w : World) :
    ∃ v', (binOp .add t x' y').run P w = .ok v' w ∧ VR μ v v' := by
  obtain ⟨lb, b, e, h2⟩ := onStr_eq h
  subst e
  obtain ⟨s, rfl, rfl, rfl⟩ := hx.inv_str
  obtain ⟨s', rfl, rfl, rfl⟩ := hy.inv_str
  obtain ⟨hlt, h3⟩ := ot_eq h2
  rw [nlt_eq, decide_eq_true_eq] at hlt
  injection h3 with h3
  have hdata : (s ++ s').data.toList = s.data.toList ++ s'.data.toList := by simp
  refine ⟨.string (s ++ s'), ?_, ?_⟩
  · show (Op.stringOp .add s s').run P w = _
    unfold Op.stringOp
    have : ¬ ((s.size + s'.size : Nat) : Int) > IntKind.i64.max := by
      have e1 : s.size = s.data.toList.length := rfl
      have e2 : s'.size = s'.data.toList.length := rfl
      have e3 : IntKind.i64.max = 9223372036854775807 := rfl
      rw [e3]
      have hlt' : s.data.toList.length + s'.data.toList.length < 9223372036854775808 := hlt
      omega
    simp only [if_neg this]; rfl
  · rw [← h3]
    refine VR.str_of ?_ ?_
    · rw [hdata, List.length_append]; rfl
    · rw [hdata, bytesNum_append]; rfl

omit hio in
theorem arithL_run {op : BinOp} {k k' : IntKind} {c d : Int} {l r : Lin} {v : AV} {x' y' : Value} (t : TypeId) (hk : k = k') (h : arithL op k c l d r = some v)
    (hx : x' = .int k (c + linV E.val l)) (hy : y' = .int k' (d + linV E.val r)) (w : World) :
    ∃ v', (binOp op t x' y').run P w = .ok v' w ∧ VR μ v v' := by
  subst hk
  subst hx
  subst hy
  obtain ⟨n, hs, hop⟩ := arithL_ok h
  generalize c + linV E.val l = a at *
  generalize d + linV E.val r = b at *
  have fin : arithI op k a b = some (.int k n) → ∃ v', (binOp op t (.int k a) (.int k b)).run P w = .ok v' w ∧ VR μ v v' := by
    intro he
    obtain ⟨v', k1, k2⟩ := arithI_ok (μ := μ) t he w
    have := k2.inv_int
    subst this
    exact ⟨_, k1, VR.of_sum hs⟩
  apply fin
  rcases hop with ⟨rfl, hn⟩ | ⟨rfl, hn⟩ | ⟨rfl, hn⟩ | ⟨rfl, hb, hw, hn⟩ | ⟨rfl, hb, hn⟩
  · show some (AV.int k (wrapF k (a + b))) = _
    rw [wrapF_eq, ← hn]
  · show some (AV.int k (wrapF k (a - b))) = _
    rw [wrapF_eq, ← hn]
  · show some (AV.int k (wrapF k (a * b))) = _
    rw [wrapF_eq, ← hn]
  · have hz : nb (ieq b 0) = true := by
      rw [nb_eq, ieq_eq]
      have : ¬ b = 0 := by omega
      simpa using this
    show ot (nb (ieq b 0)) (some (AV.int k (wrapF k (a.tdiv b)))) = _
    rw [hz, wrapF_eq, ← hn, hw]; rfl
  · have hz : nb (ieq b 0) = true := by
      rw [nb_eq, ieq_eq]
      have : ¬ b = 0 := by omega
      simpa using this
    show ot (nb (ieq b 0)) (some (AV.int k (a.tmod b))) = _
    rw [hz, ← hn]; rfl

omit hio in
theorem onSum_eq {β : Type} {f : IntKind → Int → Lin → Option β} {v : AV} {r : β} {v' : Value} (h : onSum f v = some r) (hv : VR μ v v') : ∃ k c l, f k c l = some r ∧ v' = .int k (c + linV E.val l) := by
  cases v with
  | int k n => exact ⟨k, n, [], h, hv.inv_int0⟩
  | sym k c l => exact ⟨k, c, l, h, hv.inv_sum⟩
  | _ => exact nomatch h

omit hio in
theorem arith_ok {op : BinOp} {x y v : AV} {x' y' : Value} (t : TypeId) (ox oy : Operand) (hn : isCmp op = false) (h : arith op x y = some v) (hx : VR μ x x') (hy : VR μ y y') (w : World) :
    ∃ v', (do eqGuard op t ox oy x' y'; binOp op t x' y' : Sem Value).run P w = .ok v' w ∧ VR μ v v' := by
  have hg : (eqGuard op t ox oy x' y').run P w = .ok () w := by
    cases op <;> first | rfl | exact nomatch hn
  rw [run_ok hg]
  unfold arith at h
  split at h
  · rename_i k a
    split at h
    · obtain ⟨hk, h3⟩ := ot_eq h
      rw [keq_eq, decide_eq_true_eq] at hk
      exact arithL_run t hk h3 hx.inv_int0 hy.inv_sum w
    · obtain ⟨k', b, e, h2⟩ := onInt_eq h
      subst e
      have e1 := hx.inv_int; have e2 := hy.inv_int; subst e1; subst e2
      rw [bif2_eq] at h2
      split at h2
      · exact arithS_ok t h2 w
      · obtain ⟨hk, h3⟩ := ot_eq h2
        rw [keq_eq, decide_eq_true_eq] at hk
        subst hk
        exact arithI_ok t h3 w
  · obtain ⟨k', d, r, h2, ey⟩ := onSum_eq h hy
    obtain ⟨hk, h3⟩ := ot_eq h2
    rw [keq_eq, decide_eq_true_eq] at hk
    exact arithL_run t hk h3 hx.inv_sum ey w
  · split at h
    · exact concat_ok (x := .nilp) t h hx hy w
    · exact nomatch h
  · rename_i k m r
    split at h
    · obtain ⟨k', b, e, h2⟩ := onInt_eq h
      subst e
      obtain ⟨hc, h3⟩ := ot_eq h2
      simp only [ba_eq, Bool.and_eq_true, keq_eq, nlt_eq, decide_eq_true_eq] at hc
      obtain ⟨hk, hb, hm⟩ := hc
      subst hk
      rw [ieq_eq] at hb
      have hb' : b = Int.ofNat m := by simpa using hb
      subst hb'
      injection h3 with h3
      have e2 := hy.inv_int; subst e2
      cases hx with
      | @res _ _ _ n hr =>
        have hz : nb (ieq (Int.ofNat m) 0) = true := by
          rw [nb_eq, ieq_eq]
          have : ¬ (Int.ofNat m = 0) := by
            intro h0
            have : m = 0 := by simpa using h0
            omega
          simpa using this
        have harith : arithI .rem k (n : Int) (Int.ofNat m) = some (.int k (Int.ofNat (n % m))) := by
          show ot (nb (ieq (Int.ofNat m) 0)) _ = _
          rw [hz]; rfl
        obtain ⟨v', k1, k2⟩ := arithI_ok (μ := μ) t harith w
        exact ⟨v', k1, by rw [← h3, ← hr]; exact k2⟩
    · exact nomatch h
  · exact nomatch h

omit hio in
theorem cmpI_run {op : BinOp} {k : IntKind} {a b : Int} {v : AV} (t : TypeId) (ox oy : Operand) (h : cmpI op a b = some v) (w : World) :
    ∃ v', (do eqGuard op t ox oy (.int k a) (.int k b); binOp op t (.int k a) (.int k b) : Sem Value).run P w = .ok v' w ∧ VR μ v v' := by
  have hg : (eqGuard op t ox oy (.int k a) (.int k b)).run P w = .ok () w := by
    cases op <;> rfl
  rw [run_ok hg]
  unfold cmpI at h
  split at h <;> first
    | (injection h with h
       refine ⟨_, ?_, by rw [← h]; exact .bool _⟩
       simp only [binOp, ne_eq, not_true_eq_false, if_false, Op.intCmp, ieq_eq, ilt_eq, ile_eq, nb_eq]; rfl)
    | exact nomatch h

omit hio in
theorem cmpU_run {op : BinOp} {k : IntKind} {a b : Int} {v : AV} (t : TypeId) (ox oy : Operand) (h : cmpI op a b = some v ∨ (v = .ub ∧ ∃ b', cmpI op a b = some (.bool b'))) (w : World) :
    ∃ v', (do eqGuard op t ox oy (.int k a) (.int k b); binOp op t (.int k a) (.int k b) : Sem Value).run P w = .ok v' w ∧ VR μ v v' := by
  rcases h with h | ⟨rfl, b', h⟩
  · exact cmpI_run t ox oy h w
  · obtain ⟨v', h1, h2⟩ := cmpI_run (P := P) (μ := μ) (k := k) t ox oy h w
    rw [h2.inv_bool] at h1
    exact ⟨_, h1, .ub _⟩

omit hio in
theorem cmp_ok {op : BinOp} {x y v : AV} {x' y' : Value} (t : TypeId) (ox oy : Operand) (h : cmp op x y = some v) (hx : VR μ x x') (hy : VR μ y y') (w : World) :
    ∃ v', (do eqGuard op t ox oy x' y'; binOp op t x' y' : Sem Value).run P w = .ok v' w ∧ VR μ v v' := by
  unfold cmp at h
  split at h
  · rename_i k a
    split at h
    · obtain ⟨hk, h3⟩ := ot_eq h
      rw [keq_eq, decide_eq_true_eq] at hk
      subst hk
      rw [hx.inv_int0, hy.inv_sum]
      exact cmpU_run t ox oy (cmpU_ok h3) w
    · obtain ⟨k', b, rfl, h2⟩ := onInt_eq h
      clear h
      have e1 := hx.inv_int; have e2 := hy.inv_int; subst e1; subst e2
      obtain ⟨hk, h⟩ := ot_eq h2
      clear h2
      rw [keq_eq, decide_eq_true_eq] at hk
      subst hk
      exact cmpI_run t ox oy h w
  · obtain ⟨k', d, r, h2, ey⟩ := onSum_eq h hy
    obtain ⟨hk, h3⟩ := ot_eq h2
    rw [keq_eq, decide_eq_true_eq] at hk
    subst hk
    rw [hx.inv_sum, ey]
    exact cmpU_run t ox oy (cmpU_ok h3) w
  · rename_i la a
    obtain ⟨lb, b, rfl, h2⟩ := onStr_eq h
    clear h
    have h := h2
    clear h2
    obtain ⟨s, rfl, rfl, rfl⟩ := hx.inv_str
    obtain ⟨s', rfl, rfl, rfl⟩ := hy.inv_str
    have hg : (eqGuard op t ox oy (.string s) (.string s')).run P w = .ok () w := by
      cases op <;> rfl
    rw [run_ok hg]
    have hlt : ∀ a b : ByteArray, sltS a.data.toList.length (bytesNum a.data.toList) b.data.toList.length (bytesNum b.data.toList) = Op.bytesLess a.toList b.toList := by
      intro a b
      unfold sltS
      rw [bytesN_eq, bytesN_eq, natLess_eq, toList_data, toList_data]
    have htri : ∀ a b : List UInt8, (Op.bytesLess a b || (a == b)) = !Op.bytesLess b a := by
      intro a
      induction a with
      | nil => intro b; cases b <;> simp [Op.bytesLess]
      | cons x a ih =>
        intro b
        cases b with
        | nil => simp [Op.bytesLess]
        | cons y b =>
          have := ih b
          simp only [Op.bytesLess, List.cons_beq_cons]
          by_cases e : x = y
          · subst e; simpa using this
          · have e' : ¬ y = x := fun h => e h.symm
            have ne : (x == y) = false := by simpa using e
            have ne' : (y == x) = false := by simpa using e'
            simp only [ne, ne', Bool.false_and, Bool.or_false]
            rw [Bool.eq_iff_iff]
            have hne : x.toNat ≠ y.toNat := fun h => e (UInt8.toNat_inj.1 h)
            simp [UInt8.lt_iff_toNat_lt, UInt8.le_iff_toNat_le]
            omega
    unfold cmpS at h
    split at h <;> first
      | (injection h with h
         refine ⟨_, ?_, by rw [← h]; exact .bool _⟩
         simp only [binOp, Op.stringOp, seqS_eq, hlt, nb_eq, toList_data, htri, Bool.not_not]; rfl)
      | exact nomatch h
  · exact nomatch h
end
end Go.Ev
end

section
/- Ev, part 11: operations that are pure, all. -/
namespace Go.Ev
set_option linter.unusedSectionVars false
variable [F : Facts] [E : Env]
set_option linter.unusedSimpArgs false
set_option linter.unusedVariables false
variable {P : Program} {μ : Mu}
variable {wr : WrT} {io : Opd → Option AV} {ρ : Operand → Value}

theorem opnds_length {l : List Operand} {xs : List Opd} (h : opnds wr l = some xs) : l.length = xs.length :=
  (mapO_all2 (Q := fun _ _ => True) (fun _ _ _ _ => trivial) h).length.symm
theorem opnds_one {l : List Operand} {x : Opd} (h : opnds wr l = some [x]) : ∃ a, l = [a] ∧ opnd wr a = some x := by
  cases l with
  | nil => exact nomatch h
  | cons a l =>
    unfold opnds at h
    rw [mapO_cons] at h
    obtain ⟨b, hb, h⟩ := ob_eq h
    obtain ⟨bs, hbs, h⟩ := ob_eq h
    injection h with h
    injection h with h1 h2
    subst h1; subst h2
    have := opnds_length hbs
    cases l with
    | nil => exact ⟨a, rfl, hb⟩
    | cons => simp at this
theorem opnds_two {l : List Operand} {x y : Opd} (h : opnds wr l = some [x, y]) : ∃ a b, l = [a, b] ∧ opnd wr a = some x ∧ opnd wr b = some y := by
  cases l with
  | nil => exact nomatch h
  | cons a l =>
    unfold opnds at h
    rw [mapO_cons] at h
    obtain ⟨b, hb, h⟩ := ob_eq h
    obtain ⟨bs, hbs, h⟩ := ob_eq h
    injection h with h
    injection h with h1 h2
    subst h1; subst h2
    obtain ⟨c, rfl, hc⟩ := opnds_one hbs
    exact ⟨a, c, rfl, hb, hc⟩

theorem call_builtin {o : Oper} {c : Call} {b : Builtin} (ho : o.op = .call c) (hb : c.callee = .builtin b) (w : World) :
    (execOp ρ o).run P w = (builtin b c.argTypes o.type (c.args.map fun | .const _ => true | _ => false) (c.args.map ρ)).run P w := by
  unfold execOp
  rw [ho]
  simp only []
  have : (resolve ρ c o.type).run P w = .ok { target := .builtin b c.argTypes o.type (c.args.map fun | .const _ => true | _ => false), args := c.args.map ρ } w := by
    unfold resolve
    rw [hb]; rfl
  rw [run_ok this]; rfl

/-! ### values made of parts -/
theorem setsN_eq (l : List AV) (o : Nat) (vs : List AV) : setsN l o vs = l.take o ++ (vs ++ l.drop (o + vs.length)) := by
  unfold setsN
  rw [app_eq, app_eq, takeN_eq, dropN_eq, len_eq]; rfl
theorem fold_set (vs : List Value) : ∀ (j o : Nat) (cs : Array Value), o + j + vs.length ≤ cs.size →
    (vs.zipIdx j).foldl (fun cs (p : Value × Nat) => cs.setIfInBounds (o + p.2) p.1) cs = (cs.toList.take (o + j) ++ (vs ++ cs.toList.drop (o + j + vs.length))).toArray := by
  induction vs with
  | nil => intro j o cs h; simp
  | cons v vs ih =>
    intro j o cs h
    rw [List.zipIdx_cons, List.foldl_cons, ih]
    · have hlt : o + j < cs.toList.length := by simp at h ⊢; omega
      simp only [Array.toList_setIfInBounds]
      congr 1
      rw [List.drop_set_of_lt (by omega)]
      have e1 : (cs.toList.set (o + j) v).take (o + (j + 1)) = cs.toList.take (o + j) ++ [v] := by
        rw [show o + (j + 1) = (o + j) + 1 from by omega, List.take_succ_eq_append_getElem (by simpa using hlt)]
        rw [List.take_set_of_le (Nat.le_refl _)]
        simp
      rw [e1]
      simp [Nat.add_assoc, Nat.add_comm 1]
    · simp at h ⊢; omega
theorem all2_sets {cs vs : List AV} {cs' vs' : List Value} (h : VRs μ cs cs') (hv : VRs μ vs vs') (o : Nat) :
    VRs μ (cs.take o ++ (vs ++ cs.drop (o + vs.length))) (cs'.take o ++ (vs' ++ cs'.drop (o + vs'.length))) := by
  rw [hv.length]
  exact (h.take o).append (hv.append (h.drop _))

theorem fill_ok {pl : Nat → Option (Nat × Nat)} (hio : IOR μ wr io ρ) : ∀ {parts : List (Nat × Operand)} {l : List (Nat × Nat × Opd)} {cs out : List AV} {cs' : Array Value},
    places wr pl parts = some l → fills io l cs = some out → VRs μ cs cs'.toList → (∀ c ∈ cs, oneA c = true) →
    ∃ out' : Array Value, Instr.fill pl cs' (parts.map fun p => (p.1, ρ p.2)) = some out' ∧ VRs μ out out'.toList ∧ (∀ c ∈ out, oneA c = true) ∧ out.length = cs.length := by
  intro parts
  induction parts with
  | nil =>
    intro l cs out cs' h1 h2 h3 h4
    unfold places at h1
    simp at h1; subst h1
    unfold fills at h2
    simp at h2; subst h2
    exact ⟨cs', rfl, h3, h4, rfl⟩
  | cons p parts ih =>
    intro l cs out cs' h1 h2 h3 h4
    unfold places at h1
    rw [mapO_cons] at h1
    obtain ⟨t, ht, h1⟩ := ob_eq h1
    obtain ⟨ts, hts, h1⟩ := ob_eq h1
    injection h1 with h1
    subst h1
    obtain ⟨q, hq, ht⟩ := ob_eq ht
    obtain ⟨a, ha, ht⟩ := ob_eq ht
    injection ht with ht
    subst ht
    unfold fills at h2
    rw [lrec_cons] at h2
    obtain ⟨v, hv, h2⟩ := ob_eq h2
    have hr := hio _ _ _ ha hv
    have hlen := h3.length
    obtain ⟨off, size⟩ := q
    simp only at h2
    show ∃ out', Instr.fill pl cs' ((p.1, ρ p.2) :: (parts.map fun p => (p.1, ρ p.2))) = some out' ∧ _
    unfold Instr.fill
    rw [hq]
    simp only
    have key : ∀ (vs : List AV), VRs μ vs (ρ p.2).cells.toList → (∀ c ∈ vs, oneA c = true) → vs.length = size → off + size ≤ cs.length →
        lrec (fun cs => some cs) (fun p ih cs => ob (io p.2.2) fun v => fill1 p.1 p.2.1 ih v cs) ts (cs.take off ++ (vs ++ cs.drop (off + vs.length))) = some out →
        ∃ out', (if (ρ p.2).cells.size ≠ size || off + (ρ p.2).cells.size > cs'.size then none
          else Instr.fill pl ((ρ p.2).cells.zipIdx.foldl (fun cs (c, j) => cs.setIfInBounds (off + j) c) cs') (parts.map fun p => (p.1, ρ p.2))) = some out' ∧ VRs μ out out'.toList ∧ (∀ c ∈ out, oneA c = true) ∧ out.length = cs.length := by
      intro vs hvs h1vs hsz hle hrest
      have e1 := hvs.length
      have e2 : (ρ p.2).cells.size = size := by rw [← hsz, e1]; simp
      have e3 : cs'.size = cs.length := by rw [hlen]; simp
      rw [if_neg (by simp [e2, e3]; omega)]
      have e4 : ((ρ p.2).cells.zipIdx.foldl (fun cs (c, j) => cs.setIfInBounds (off + j) c) cs') = (cs'.toList.take off ++ ((ρ p.2).cells.toList ++ cs'.toList.drop (off + (ρ p.2).cells.toList.length))).toArray := by
        rw [← Array.foldl_toList, Array.toList_zipIdx]
        exact fold_set _ 0 off cs' (by simp [e2, e3]; omega)
      rw [e4]
      have hr' := all2_sets h3 hvs off
      obtain ⟨out', a1, a2, a3, a4⟩ := ih (cs' := (cs'.toList.take off ++ ((ρ p.2).cells.toList ++ cs'.toList.drop (off + (ρ p.2).cells.toList.length))).toArray) hts hrest (by simpa using hr') (by
        intro c hc
        simp only [List.mem_append] at hc
        rcases hc with hc | hc | hc
        · exact h4 c (List.mem_of_mem_take hc)
        · exact h1vs c hc
        · exact h4 c (List.mem_of_mem_drop hc))
      refine ⟨out', a1, a2, a3, ?_⟩
      rw [a4]; simp; omega
    unfold fill1 at h2
    split at h2
    · rename_i l
      obtain ⟨hc, h2⟩ := ot_eq h2
      rw [ba_eq, nbeq_eq, nle_eq, len_eq, len_eq] at hc
      simp at hc
      obtain ⟨cs2, e, hcs2, h12⟩ := hr.inv_agg
      have hcells : (ρ p.2).cells.toList = cs2.toList := by rw [e]; rfl
      rw [setsN_eq] at h2
      exact key l (by rw [hcells]; exact hcs2) h12 hc.1 hc.2 h2
    · exact nomatch h2
    · rename_i u n1 n2
      obtain ⟨hc, h2⟩ := ot_eq h2
      rw [ba_eq, nbeq_eq, nle_eq, len_eq] at hc
      simp at hc
      have hone : oneA v = true := by
        cases v <;> first | rfl | exact absurd rfl (n1 _) | exact absurd rfl (n2 _)
      have hov : oneV (ρ p.2) = true := by rw [hr.one, hone]
      have hcells : (ρ p.2).cells = #[ρ p.2] := by
        cases e : ρ p.2 <;> rw [e] at hov <;> first | rfl | exact nomatch hov
      refine key [v] (by rw [hcells]; exact .cons hr .nil) (by simp [hone]) (by simpa using hc.1.symm) (by omega) ?_
      rw [setN_eq] at h2
      have : cs.take off ++ ([v] ++ cs.drop (off + [v].length)) = cs.set off v := by
        rw [List.set_eq_take_append_cons_drop, if_pos (by omega)]
        simp
      rw [this]; exact h2

theorem bnd_ok (hio : IOR μ wr io ρ) {x : Option Operand} {a : Option Opd} {top dflt n : Nat} {top' : Nat} (hx : opndO wr x = some a) (h : bnd io top dflt a = some n) (code : BoundsCode) (w : World) (htop : top ≤ top') :
    (match x with | some v => (Instr.sliceBound (ρ v) top' code).run P w = .ok n w ∧ n ≤ top | none => n = dflt) := by
  cases x with
  | none =>
    injection hx with hx
    subst hx
    injection h with h
    exact h.symm
  | some v =>
    obtain ⟨b, hb, hx⟩ := ob_eq hx
    injection hx with hx
    subst hx
    obtain ⟨u, hu, h⟩ := ob_eq h
    obtain ⟨k, m, e, h⟩ := onNat_eq h
    subst e
    obtain ⟨hle, h⟩ := ot_eq h
    rw [nle_eq, decide_eq_true_eq] at hle
    injection h with h
    subst h
    have e := (hio _ _ _ hb hu).inv_int
    refine ⟨?_, hle⟩
    unfold Instr.sliceBound
    rw [e]
    show (if (0 : Int) ≤ Int.ofNat m ∧ Int.ofNat m ≤ (top' : Int) then (pure (Int.ofNat m).toNat : Sem Nat) else _).run P w = _
    rw [if_pos ⟨Int.natCast_nonneg m, by show (m : Int) ≤ top'; omega⟩]; rfl
end Go.Ev
end

section
/- Ev, part 12: an operation that is pure gives what the evaluator says. -/
namespace Go.Ev
set_option linter.unusedSectionVars false
variable [F : Facts] [E : Env]
set_option linter.unusedSimpArgs false
set_option linter.unusedVariables false
variable {P : Program} {μ : Mu} {w : World}
variable {wr : WrT} {io : Opd → Option AV} {ρ : Operand → Value}

theorem inj_p {a : POp} {b : POp} (h : (some (IOp.p a)) = some (IOp.p b)) : a = b := by injection h with h; injection h
theorem eqTest_eq {op : BinOp} {n : Bool} (h : eqTest op = some n) : (op = .eql ∧ n = false) ∨ (op = .neq ∧ n = true) := by
  cases op <;> simp [eqTest] at h <;> simp [← h]

theorem ok_eqv {op : BinOp} {n : Bool} {t : TypeId} {x y : AV} {x' y' : Value} {ox oy : Operand} (ht : eqTest op = some n)
    (hg : (eqGuard op t ox oy x' y').run P w = .ok () w) (hnot : ∀ k a k' b, ¬ (x' = .int k a ∧ y' = .int k' b)) (hnot2 : ∀ a b, ¬ (x' = .string a ∧ y' = .string b))
    {b : Bool} (h : eqv P (ttOf P) 10000 t x y = some b) (hx : VR μ x x') (hy : VR μ y y') :
    (do eqGuard op t ox oy x' y'; binOp op t x' y' : Sem Value).run P w = .ok (.bool (if n then !b else b)) w := by
  have he := equal_ok 10000 t x y x' y' b w h hx hy
  have he' : (Op.equal t x' y').run P w = .ok b w := he
  rw [run_ok hg]
  rcases eqTest_eq ht with ⟨rfl, rfl⟩ | ⟨rfl, rfl⟩
  · have : binOp .eql t x' y' = (do pure (.bool (← Op.equal t x' y')) : Sem Value) := by
      cases hx <;> cases hy <;> first | rfl | exact absurd ⟨rfl, rfl⟩ (hnot _ _ _ _) | exact absurd ⟨rfl, rfl⟩ (hnot2 _ _)
    rw [this, run_ok he']; rfl
  · have : binOp .neq t x' y' = (do pure (.bool (!(← Op.equal t x' y'))) : Sem Value) := by
      cases hx <;> cases hy <;> first | rfl | exact absurd ⟨rfl, rfl⟩ (hnot _ _ _ _) | exact absurd ⟨rfl, rfl⟩ (hnot2 _ _)
    rw [this, run_ok he']; rfl

/-- what '==' has no guard on -/
theorem guard_ok {op : BinOp} {n : Bool} {t : TypeId} {x' y' : Value} {ox oy : Operand} (ht : eqTest op = some n)
    (h1 : x' = .nilIface → y' = .nilIface → (isConstO ox || isConstO oy) = true) (h2 : ∀ a b, x' = .agg a → y' = .agg b → P.eqGuardType P.depth t = false) (w : World) :
    (eqGuard op t ox oy x' y').run P w = .ok () w := by
  rcases eqTest_eq ht with ⟨rfl, rfl⟩ | ⟨rfl, rfl⟩
  all_goals
    unfold eqGuard
    simp only []
    cases x' <;> first
      | rfl
      | (cases y' <;> first
          | rfl
          | (have := h1 rfl rfl
             cases ox <;> cases oy <;> first | rfl | exact nomatch this)
          | (have := h2 _ _ rfl rfl
             simp only [run_bind]
             simp [program, Sem.run, this]))

theorem und_inj {t : TypeId} {d d' : TypeDesc} (h : und (ttOf P) t = some d) (h' : und (ttOf P) t = some d') : d = d' := by
  rw [h] at h'; injection h'

theorem ok_bin (hio : IOR μ wr io ρ) {op : BinOp} {t : TypeId} {x y : Operand} {q : POp} {v : AV}
    (hc : kBin P (ttOf P) wr op t x y = some (.p q)) (he : evP io P (ttOf P) q = some v) (w : World) :
    ∃ v', (do eqGuard op t x y (ρ x) (ρ y); binOp op t (ρ x) (ρ y) : Sem Value).run P w = .ok v' w ∧ VR μ v v' := by
  obtain ⟨a, ha, hc⟩ := ob_eq hc
  obtain ⟨b, hb, hc⟩ := ob_eq hc
  have tt : ∀ {c : IOp}, (∃ u1 u2, io a = some u1 ∧ io b = some u2) → True := fun _ => trivial
  rw [bif2_eq] at hc
  split at hc
  · rename_i hcmp
    obtain ⟨d, hd, hc⟩ := ob_eq hc
    have eqcase : ∀ n, eqTest op = some n → (q = .eqv n t a b) → (∀ (_ _ : AV), ρ x = .nilIface → ρ y = .nilIface → (isConstO x || isConstO y) = true) →
        (∀ c c', ρ x = .agg c → ρ y = .agg c' → P.eqGuardType P.depth t = false) → (∀ k, d ≠ .int k) → d ≠ .string →
        ∃ v', (do eqGuard op t x y (ρ x) (ρ y); binOp op t (ρ x) (ρ y) : Sem Value).run P w = .ok v' w ∧ VR μ v v' := by
      intro n hn hq h1 h2 hni hns
      subst hq
      obtain ⟨u1, hu1, he⟩ := ob_eq he
      obtain ⟨u2, hu2, he⟩ := ob_eq he
      obtain ⟨r, hr, he⟩ := ob_eq he
      injection he with he
      have hx := hio _ _ _ ha hu1
      have hy := hio _ _ _ hb hu2
      have key : ∀ k, ekOf (ttOf P) t = some k → ekD d = some k := fun k hk => by
        obtain ⟨d', hd', hk'⟩ := ekOf_eq hk
        rw [und_inj hd hd']; exact hk'
      have hek : ∃ k, ekOf (ttOf P) t = some k ∧ eqv1 P (ttOf P) (eqv P (ttOf P) 9999) t u1 u2 k = some r := ob_eq hr
      obtain ⟨k, hk, hr1⟩ := hek
      have hkd := key k hk
      have hg := guard_ok (P := P) (x' := ρ x) (y' := ρ y) (ox := x) (oy := y) (t := t) hn (fun e1 e2 => h1 .nilp .nilp e1 e2) h2 w
      refine ⟨_, ok_eqv hn hg ?_ ?_ hr hx hy, by rw [← he, bif2_eq, nb_eq]; exact .bool _⟩
      · rintro k1 a1 k2 b1 ⟨e1, e2⟩
        rw [e1] at hx; rw [e2] at hy
        cases hx <;> cases hy <;> cases k <;> first
          | (simp [eqv1, eqSym] at hr1; done)
          | (cases d <;> first | (simp [ekD] at hkd; done) | exact hni _ rfl)
      · rintro a1 b1 ⟨e1, e2⟩
        rw [e1] at hx; rw [e2] at hy
        cases hx; cases hy
        cases k <;> first
          | (simp [eqv1, eqSym, ofStr] at hr1; done)
          | (cases d <;> first | (simp [ekD] at hkd; done) | exact hns rfl)
    cases d with
    | int k =>
      have hq := inj_p hc
      subst hq
      obtain ⟨u1, hu1, he⟩ := ob_eq he
      obtain ⟨u2, hu2, he⟩ := ob_eq he
      exact cmp_ok t x y he (hio _ _ _ ha hu1) (hio _ _ _ hb hu2) w
    | string =>
      have hq := inj_p hc
      subst hq
      obtain ⟨u1, hu1, he⟩ := ob_eq he
      obtain ⟨u2, hu2, he⟩ := ob_eq he
      exact cmp_ok t x y he (hio _ _ _ ha hu1) (hio _ _ _ hb hu2) w
    | interface ms =>
      obtain ⟨hcn, hc⟩ := ot_eq hc
      obtain ⟨n, hn, hc⟩ := ob_eq hc
      have hq := inj_p hc
      refine eqcase n hn hq.symm (fun _ _ _ _ => by rw [bo_eq] at hcn; exact hcn) ?_ (fun _ h => nomatch h) (fun h => nomatch h)
      intro c c' e1 e2
      exfalso
      have hq' := hq.symm
      subst hq'
      obtain ⟨u1, hu1, he⟩ := ob_eq he
      obtain ⟨u2, hu2, he⟩ := ob_eq he
      obtain ⟨r, hr, he⟩ := ob_eq he
      have hx := hio _ _ _ ha hu1
      have hy := hio _ _ _ hb hu2
      rw [e1] at hx; rw [e2] at hy
      obtain ⟨k, hk, hr1⟩ := ob_eq (show ob (ekOf (ttOf P) t) (eqv1 P (ttOf P) (eqv P (ttOf P) 9999) t u1 u2) = some r from hr)
      obtain ⟨d', hd', hk'⟩ := ekOf_eq hk
      have hdd := und_inj hd hd'
      subst hdd
      injection hk' with hk'
      subst hk'
      cases hx; cases hy
      exact nomatch hr1
    | _ =>
      obtain ⟨hcn, hc⟩ := ot_eq hc
      obtain ⟨n, hn, hc⟩ := ob_eq hc
      have hq := inj_p hc
      rw [nb_eq] at hcn
      refine eqcase n hn hq.symm ?_ (fun _ _ _ _ => by simpa using hcn) (fun _ h => nomatch h) (fun h => nomatch h)
      intro _ _ e1 e2
      exfalso
      have hq' := hq.symm
      subst hq'
      obtain ⟨u1, hu1, he⟩ := ob_eq he
      obtain ⟨u2, hu2, he⟩ := ob_eq he
      obtain ⟨r, hr, he⟩ := ob_eq he
      have hx := hio _ _ _ ha hu1
      have hy := hio _ _ _ hb hu2
      rw [e1] at hx; rw [e2] at hy
      obtain ⟨k, hk, hr1⟩ := ob_eq (show ob (ekOf (ttOf P) t) (eqv1 P (ttOf P) (eqv P (ttOf P) 9999) t u1 u2) = some r from hr)
      obtain ⟨d', hd', hk'⟩ := ekOf_eq hk
      have hdd := und_inj hd hd'
      subst hdd
      cases hx; cases hy
      first | (simp [ekD] at hk'; done) | (simp only [ekD, Option.some.injEq] at hk'; subst hk'; exact nomatch hr1)
  · rename_i hcmp
    have hq := inj_p hc
    subst hq
    obtain ⟨u1, hu1, he⟩ := ob_eq he
    obtain ⟨u2, hu2, he⟩ := ob_eq he
    exact arith_ok t x y (by simpa using hcmp) he (hio _ _ _ ha hu1) (hio _ _ _ hb hu2) w
end Go.Ev
end

section
/- Ev, part 13: every pure operation gives what the evaluator says. -/
namespace Go.Ev
set_option linter.unusedSectionVars false
variable [F : Facts] [E : Env]
set_option linter.unusedSimpArgs false
set_option linter.unusedVariables false
variable {P : Program} {μ : Mu}
variable {wr : WrT} {io : Opd → Option AV} {ρ : Operand → Value}

theorem noP_a {a : AOp} {q : POp} (h : some (IOp.a a) = some (IOp.p q)) : False := by injection h with h; exact IOp.noConfusion h
theorem noP_l {a : LOp} {q : POp} (h : some (IOp.l a) = some (IOp.p q)) : False := by injection h with h; exact IOp.noConfusion h
theorem noP_w {a : WOp} {q : POp} (h : some (IOp.w a) = some (IOp.p q)) : False := by injection h with h; exact IOp.noConfusion h

theorem byteArray_extract (s : ByteArray) (l h : Nat) : (s.extract l h).data.toList = (s.data.toList.drop l).take (h - l) := by
  rw [ByteArray.data_extract, Array.toList_extract, List.extract_eq_take_drop]

theorem subS_rel (s : ByteArray) (l h : Nat) (hlh : l ≤ h) (hh : h ≤ s.size) : VR μ (subS (bytesNum s.data.toList) l h) (.string (s.extract l h)) := by
  unfold subS
  refine VR.str_of ?_ ?_
  · rw [byteArray_extract]
    have : s.data.toList.length = s.size := rfl
    show h - l = _
    simp
    have e : s.data.size = s.size := rfl
    omega
  · rw [byteArray_extract, ← bytesNum_mod, ← bytesNum_div]; rfl

/-- a slice of a slice, or of an array -/
theorem mkSlice_rel {b o size l h m b' d : Nat} {x : Option (Nat × Nat)} (hm : μ b = some (b', d, x)) (cap cap' m' : Nat) (hl : l ≤ h) (hh : h ≤ m) (hmm : m ≤ m') (hx : m = m' ∨ ∃ S s, x = some (S, s) ∧ (o = 0 → 0 < m → d + m' * s ≤ S)) :
    VR μ (mkSlice b o size l h m) (.slice (some (if m' = l then (⟨b', d + o, none⟩ : Addr) else (⟨b', d + o, none⟩ : Addr).add (l * size))) (h - l) (m' - l)) := by
  unfold mkSlice
  rw [bif2_eq, nbeq_eq]
  have hadd : ∀ n, (⟨b', d + o, none⟩ : Addr).add n = ⟨b', d + (o + n), none⟩ := by
    intro n
    unfold Addr.add
    split
    · simp_all
    · simp [Nat.add_assoc]
  by_cases e : m' = l
  · have : m = l := by omega
    rw [if_pos e, if_pos (by simpa using this)]
    exact .sl hm (show m - l ≤ m' - l by omega) (.inl (by show m - l = m' - l; omega))
  · rw [if_neg e, hadd]
    by_cases e2 : m = l
    · rw [if_pos (by simpa using e2)]
      rcases hx with hx | ⟨S, s, hx, _⟩
      · omega
      · subst hx
        have h1 : Nat.sub h l = 0 := by show h - l = 0; omega
        have h2 : Nat.sub m l = 0 := by show m - l = 0; omega
        have h3 : h - l = 0 := by omega
        rw [h1, h2, h3]
        exact .sl0 hm
    · rw [if_neg (by simpa using e2)]
      refine .sl hm (show m - l ≤ m' - l by omega) ?_
      rcases hx with hx | ⟨S, s, hx, hb⟩
      · exact .inl (by show m - l = m' - l; omega)
      · refine .inr ⟨S, s, hx, fun h0 h1 => ?_⟩
        replace h0 : o + l * size = 0 := h0
        have h2 := hb (by omega) (by omega)
        have h3 : (m' - l) * s ≤ m' * s := Nat.mul_le_mul_right _ (by omega)
        show d + (m' - l) * s ≤ S
        omega

theorem run_sliceBounds (hio : IOR μ wr io ρ) {lo hi mx : Option Operand} {lo' hi' mx' : Option Opd} (hlo : opndO wr lo = some lo') (hhi : opndO wr hi = some hi') (hmx : opndO wr mx = some mx')
    {len cap cap' m h l : Nat} (hc : cap ≤ cap') (h1 : bnd io cap cap mx' = some m) (h2 : bnd io m len hi' = some h) (h3 : bnd io h 0 lo' = some l) (hlen : mx = none → hi = none → len ≤ cap) (hmh : mx.isSome = true → hi.isSome = true)
    (isSlice : Bool) (w : World) :
    ∃ m', (Instr.sliceBounds isSlice len cap' (lo.map ρ) (hi.map ρ) (mx.map ρ)).run P w = .ok (l, h, m') w ∧ l ≤ h ∧ (hi.isSome = true → h ≤ m) ∧ m ≤ m' ∧ (cap = cap' → m = m') ∧ (mx.isSome = true → m = m') ∧ m' ≤ cap' ∧ m ≤ cap := by
  have b1 := bnd_ok (P := P) hio hmx h1 (if isSlice then .slice3Acap else .slice3Alen) w hc
  unfold Instr.sliceBounds
  cases mx with
  | none =>
    simp only at b1
    subst b1
    have b2 := bnd_ok (P := P) hio hhi h2 (if isSlice then .sliceAcap else .sliceAlen) w hc
    cases hi with
    | none =>
      simp only at b2
      subst b2
      have b3 := bnd_ok (P := P) hio hlo h3 .sliceB w (Nat.le_refl _)
      cases lo with
      | none =>
        simp only at b3
        subst b3
        exact ⟨cap', rfl, Nat.zero_le _, fun h => (by simp at h), hc, fun h => h, fun h => (by simp at h), Nat.le_refl _, Nat.le_refl _⟩
      | some v =>
        simp only at b3
        refine ⟨cap', ?_, b3.2, fun h => (by simp at h), hc, fun h => h, fun h => (by simp at h), Nat.le_refl _, Nat.le_refl _⟩
        show (Instr.sliceBound (ρ v) h .sliceB >>= fun l => pure (l, h, cap')).run P w = _
        rw [run_ok b3.1]; rfl
    | some u =>
      simp only at b2
      have b3 := bnd_ok (P := P) hio hlo h3 .sliceB w (Nat.le_refl _)
      cases lo with
      | none =>
        simp only at b3
        subst b3
        refine ⟨cap', ?_, Nat.zero_le _, fun _ => b2.2, hc, fun h => h, fun h => (by simp at h), Nat.le_refl _, Nat.le_refl _⟩
        show (Instr.sliceBound (ρ u) cap' (if isSlice then .sliceAcap else .sliceAlen) >>= fun h => pure (0, h, cap')).run P w = _
        rw [run_ok b2.1]; rfl
      | some v =>
        simp only at b3
        refine ⟨cap', ?_, b3.2, fun _ => b2.2, hc, fun h => h, fun h => (by simp at h), Nat.le_refl _, Nat.le_refl _⟩
        show (Instr.sliceBound (ρ u) cap' (if isSlice then .sliceAcap else .sliceAlen) >>= fun h => Instr.sliceBound (ρ v) h .sliceB >>= fun l => pure (l, h, cap')).run P w = _
        rw [run_ok b2.1, run_ok b3.1]; rfl
  | some x =>
    simp only at b1
    have b2 := bnd_ok (P := P) hio hhi h2 .slice3B w (Nat.le_refl _)
    cases hi with
    | none => simp at hmh
    | some u =>
      simp only at b2
      have b3 := bnd_ok (P := P) hio hlo h3 .slice3C w (Nat.le_refl _)
      cases lo with
      | none =>
        simp only at b3
        subst b3
        refine ⟨m, ?_, Nat.zero_le _, fun _ => b2.2, Nat.le_refl _, fun _ => rfl, fun _ => rfl, Nat.le_trans b1.2 hc, b1.2⟩
        show (Instr.sliceBound (ρ x) cap' (if isSlice then .slice3Acap else .slice3Alen) >>= fun m => Instr.sliceBound (ρ u) m .slice3B >>= fun h => pure (0, h, m)).run P w = _
        rw [run_ok b1.1, run_ok b2.1]; rfl
      | some v =>
        simp only at b3
        refine ⟨m, ?_, b3.2, fun _ => b2.2, Nat.le_refl _, fun _ => rfl, fun _ => rfl, Nat.le_trans b1.2 hc, b1.2⟩
        show (Instr.sliceBound (ρ x) cap' (if isSlice then .slice3Acap else .slice3Alen) >>= fun m => Instr.sliceBound (ρ u) m .slice3B >>= fun h => Instr.sliceBound (ρ v) h .slice3C >>= fun l => pure (l, h, m)).run P w = _
        rw [run_ok b1.1, run_ok b2.1, run_ok b3.1]; rfl
end Go.Ev
end

section
/- Ev, part 14: every pure operation gives what the evaluator says. -/
namespace Go.Ev
set_option linter.unusedSectionVars false
variable [F : Facts] [E : Env]
set_option linter.unusedSimpArgs false
set_option linter.unusedVariables false
variable {P : Program} {μ : Mu}
variable {wr : WrT} {io : Opd → Option AV} {ρ : Operand → Value}

theorem VR.inv_sl {b o len cap : Nat} {v : Value} (h : VR μ (.sl b o len cap) v) :
    ∃ b' d x, μ b = some (b', d, x) ∧ ((∃ cap', v = .slice (some ⟨b', d + o, none⟩) len cap' ∧ cap ≤ cap' ∧ BndS d o cap cap' x) ∨
      (∃ o' cap' S, x = some S ∧ len = 0 ∧ cap = 0 ∧ v = .slice (some ⟨b', o', none⟩) 0 cap')) := by
  cases h with
  | sl h hc hx => exact ⟨_, _, _, h, .inl ⟨_, rfl, hc, hx⟩⟩
  | sl0 h => exact ⟨_, _, _, h, .inr ⟨_, _, _, rfl, rfl, rfl, rfl⟩⟩
theorem VR.inv_nils {v : Value} (h : VR μ .nils v) : v = .slice none 0 0 := by cases h; rfl

theorem addr_add (b' d o n : Nat) : (⟨b', d + o, none⟩ : Addr).add n = ⟨b', d + (o + n), none⟩ := by
  unfold Addr.add
  split
  · simp_all
  · simp [Nat.add_assoc]

theorem opnd_nat (hio : IOR μ wr io ρ) {x : Operand} {a : Opd} {k : IntKind} {n : Nat} (hx : opnd wr x = some a) (h : io a = some (.int k (Int.ofNat n))) : ρ x = .int k (n : Int) :=
  (hio _ _ _ hx h).inv_int

theorem run_asInt {k : IntKind} {n : Int} (w : World) : (asIntOf (.int k n)).run P w = .ok (k, n) w := rfl

section
variable (hio : IOR μ wr io ρ)
include hio

theorem ok_slice {t : TypeId} {x : Operand} {lo hi mx : Option Operand} {q : POp} {v : AV} (hc : kSlice (ttOf P) wr t x lo hi mx = some (.p q)) (he : evP io P (ttOf P) q = some v) (w : World) :
    ∃ v', (Instr.sliceAt t (ρ x) (lo.map ρ) (hi.map ρ) (mx.map ρ)).run P w = .ok v' w ∧ VR μ v v' := by
  obtain ⟨a, ha, hc⟩ := ob_eq hc
  obtain ⟨lo', hlo, hc⟩ := ob_eq hc
  obtain ⟨hi', hhi, hc⟩ := ob_eq hc
  obtain ⟨mx', hmx, hc⟩ := ob_eq hc
  obtain ⟨d, hd, hc⟩ := ob_eq hc
  unfold Instr.sliceAt
  rw [run_ok (run_und hd w)]
  have isN : ∀ {o : Option Operand} {o' : Option Opd}, opndO wr o = some o' → o'.isNone = o.isNone := by
    intro o o' h
    cases o with
    | none => injection h with h; subst h; rfl
    | some x => obtain ⟨c, _, h⟩ := ob_eq h; injection h with h; subst h; rfl
  unfold kSlice1 at hc
  split at hc
  · -- a string
    obtain ⟨hn, hc⟩ := ot_eq hc
    have hq := inj_p hc
    subst hq
    have hm0 : mx = none := by
      have := isN hmx
      rw [hn] at this
      cases mx with
      | none => rfl
      | some _ => exact Bool.noConfusion this
    subst hm0
    obtain ⟨u, hu, he⟩ := ob_eq he
    obtain ⟨l, n, e, he⟩ := onStr_eq he
    subst e
    obtain ⟨h, hh, he⟩ := ob_eq he
    obtain ⟨lo2, hl2, he⟩ := ob_eq he
    injection he with hev
    obtain ⟨s, es, rfl, rfl⟩ := (hio _ _ _ ha hu).inv_str
    have hsz : s.data.toList.length = s.size := rfl
    rw [hsz] at hh
    obtain ⟨m', r1, r2, r3, r4, r5, r6, r7, r8⟩ := run_sliceBounds (P := P) hio hlo hhi (mx := none) (mx' := none) rfl (Nat.le_refl s.size) (m := s.size) rfl hh hl2 (fun _ _ => Nat.le_refl _) (fun h => by simp at h) false w
    rw [es]
    refine ⟨.string (s.extract lo2 h), ?_, ?_⟩
    · show (Instr.slice t (.string s) (lo.map ρ) (hi.map ρ) none).run P w = _
      unfold Instr.slice
      rw [run_ok (run_und hd w)]
      show (Instr.sliceBounds false s.size s.size (lo.map ρ) (hi.map ρ) (none.map ρ) >>= fun p => (pure (Value.string (s.extract p.1 p.2.1)) : Sem Value)).run P w = _
      rw [run_ok r1]; rfl
    · rw [← hev]
      refine subS_rel s lo2 h r2 ?_
      cases hi with
      | none =>
        injection hhi with hhi
        subst hhi
        injection hh with hh
        omega
      | some _ => exact r3 rfl
  · -- a slice
    rename_i e
    obtain ⟨size, hs, hc⟩ := ob_eq hc
    obtain ⟨hmh, hc⟩ := ot_eq hc
    have hq := inj_p hc
    subst hq
    have hmh' : mx.isSome = true → hi.isSome = true := by
      have e1 := isN hmx
      have e2 := isN hhi
      intro hs
      cases hi with
      | some _ => rfl
      | none =>
        cases mx with
        | none => exact Bool.noConfusion hs
        | some _ =>
          cases mx' with
          | none => exact Bool.noConfusion e1
          | some _ =>
            cases hi' with
            | none => exact Bool.noConfusion hmh
            | some _ => exact Bool.noConfusion e2
    obtain ⟨u, hu, he⟩ := ob_eq he
    rcases onSl_eq he with ⟨b, o, len, cap, e1, he⟩ | ⟨e1, he⟩
    · subst e1
      obtain ⟨m, hm, he⟩ := ob_eq he
      obtain ⟨h, hh, he⟩ := ob_eq he
      obtain ⟨hle, he⟩ := ot_eq he
      rw [nle_eq, decide_eq_true_eq] at hle
      obtain ⟨l, hl, he⟩ := ob_eq he
      injection he with hev
      obtain ⟨b', d', x', hμ, hv⟩ := (hio _ _ _ ha hu).inv_sl
      rcases hv with ⟨cap', ev, hcap, hxx⟩ | ⟨o', cap', S0, hx0, hl0, hc0, ev⟩
      · have hlc : mx = none → hi = none → len ≤ cap := by
          intro h1 h2
          subst h1; subst h2
          injection hhi with hhi
          subst hhi
          injection hh with hh
          injection hmx with hmx
          subst hmx
          injection hm with hm
          omega
        obtain ⟨m', r1, r2, r3, r4, r5, r6, r7, r8⟩ := run_sliceBounds (P := P) hio hlo hhi hmx hcap hm hh hl hlc hmh' true w
        rw [ev]
        refine ⟨_, ?_, by rw [← hev]; exact mkSlice_rel hμ cap cap' m' r2 hle r4 (by
          rcases hxx with hxx | ⟨S, s, hxx, hb⟩
          · exact .inl (r5 hxx)
          · refine .inr ⟨S, s, hxx, fun h0 h1 => ?_⟩
            have h2 := hb h0 (by omega)
            have h3 : m' * s ≤ cap' * s := Nat.mul_le_mul_right _ r7
            omega)⟩
        show (Instr.slice t (.slice (some ⟨b', d' + o, none⟩) len cap') (lo.map ρ) (hi.map ρ) (mx.map ρ)).run P w = _
        unfold Instr.slice
        rw [run_ok (run_und hd w)]
        show (Instr.sliceBounds true len cap' (lo.map ρ) (hi.map ρ) (mx.map ρ) >>= fun p => sizeOf e >>= fun size => (pure (Value.slice (if p.2.2 = p.1 then some ⟨b', d' + o, none⟩ else (some (⟨b', d' + o, none⟩ : Addr)).map (·.add (p.1 * size))) (p.2.1 - p.1) (p.2.2 - p.1)) : Sem Value)).run P w = _
        rw [run_ok r1, run_ok (run_size hs w)]
        simp only [run_pure]
        congr 2
        split <;> rfl
      · subst hl0; subst hc0; subst hx0
        have hlc : mx = none → hi = none → 0 ≤ 0 := fun _ _ => Nat.le_refl _
        have hh0 : h = 0 := by
          have : m = 0 := by
            cases mx' with
            | none => injection hm with hm; exact hm.symm
            | some c =>
              obtain ⟨c1, _, hm⟩ := ob_eq hm
              obtain ⟨_, c2, _, hm⟩ := onNat_eq hm
              obtain ⟨hm1, hm⟩ := ot_eq hm
              rw [nle_eq, decide_eq_true_eq] at hm1
              injection hm with hm
              omega
          omega
        obtain ⟨m', r1, r2, r3, r4, r5, r6, r7, r8⟩ := run_sliceBounds (P := P) hio hlo hhi hmx (Nat.zero_le cap') hm hh hl hlc hmh' true w
        have hl00 : l = 0 := by omega
        subst hl00; subst hh0
        rw [ev]
        refine ⟨.slice (some ⟨b', o', none⟩) 0 m', ?_, ?_⟩
        · show (Instr.slice t (.slice (some ⟨b', o', none⟩) 0 cap') (lo.map ρ) (hi.map ρ) (mx.map ρ)).run P w = _
          unfold Instr.slice
          rw [run_ok (run_und hd w)]
          show (Instr.sliceBounds true 0 cap' (lo.map ρ) (hi.map ρ) (mx.map ρ) >>= fun p => sizeOf e >>= fun size => (pure (Value.slice (if p.2.2 = p.1 then some ⟨b', o', none⟩ else (some (⟨b', o', none⟩ : Addr)).map (·.add (p.1 * size))) (p.2.1 - p.1) (p.2.2 - p.1)) : Sem Value)).run P w = _
          rw [run_ok r1, run_ok (run_size hs w)]
          simp [Addr.add]
        · rw [← hev]
          have hm0 : m = 0 := by
            cases mx' with
            | none => injection hm with hm; exact hm.symm
            | some c =>
              obtain ⟨c1, _, hm⟩ := ob_eq hm
              obtain ⟨_, c2, _, hm⟩ := onNat_eq hm
              obtain ⟨hm1, hm⟩ := ot_eq hm
              rw [nle_eq, decide_eq_true_eq] at hm1
              injection hm with hm
              omega
          subst hm0
          show VR μ (.sl b o 0 0) _
          exact .sl0 hμ
    · subst e1
      obtain ⟨m, hm, he⟩ := ob_eq he
      obtain ⟨h, hh, he⟩ := ob_eq he
      obtain ⟨l, hl, he⟩ := ob_eq he
      injection he with hev
      have ev := (hio _ _ _ ha hu).inv_nils
      have z : ∀ {c : Option Opd} {n : Nat}, bnd io 0 0 c = some n → n = 0 := by
        intro c n hm
        cases c with
        | none => injection hm with hm; exact hm.symm
        | some c =>
          obtain ⟨c1, _, hm⟩ := ob_eq hm
          obtain ⟨_, c2, _, hm⟩ := onNat_eq hm
          obtain ⟨hm1, hm⟩ := ot_eq hm
          rw [nle_eq, decide_eq_true_eq] at hm1
          injection hm with hm
          omega
      have hm0 := z hm; have hh0 := z hh; have hl0 := z hl
      subst hm0; subst hh0; subst hl0
      obtain ⟨m', r1, r2, r3, r4, r5, r6, r7, r8⟩ := run_sliceBounds (P := P) hio hlo hhi hmx (Nat.le_refl 0) hm hh hl (fun _ _ => Nat.le_refl _) hmh' true w
      have := r5 rfl
      subst this
      rw [ev]
      refine ⟨.slice none 0 0, ?_, by rw [← hev]; exact .nils⟩
      show (Instr.slice t (.slice none 0 0) (lo.map ρ) (hi.map ρ) (mx.map ρ)).run P w = _
      unfold Instr.slice
      rw [run_ok (run_und hd w)]
      show (Instr.sliceBounds true 0 0 (lo.map ρ) (hi.map ρ) (mx.map ρ) >>= fun p => sizeOf e >>= fun size => (pure (Value.slice (if p.2.2 = p.1 then none else (none : Option Addr).map (·.add (p.1 * size))) (p.2.1 - p.1) (p.2.2 - p.1)) : Sem Value)).run P w = _
      rw [run_ok r1, run_ok (run_size hs w)]
      simp
  · -- an array
    rename_i n e
    obtain ⟨size, hs, hc⟩ := ob_eq hc
    obtain ⟨hn, hc⟩ := ot_eq hc
    have hq := inj_p hc
    subst hq
    have hm0 : mx = none := by
      have := isN hmx
      rw [hn] at this
      cases mx with
      | none => rfl
      | some _ => exact Bool.noConfusion this
    subst hm0
    obtain ⟨u, hu, he⟩ := ob_eq he
    obtain ⟨b, o, e1, he⟩ := onPtr_eq he
    subst e1
    obtain ⟨h, hh, he⟩ := ob_eq he
    obtain ⟨l, hl, he⟩ := ob_eq he
    injection he with hev
    obtain ⟨b', d', x', hμ, ev⟩ := (hio _ _ _ ha hu).inv_ptr
    obtain ⟨m', r1, r2, r3, r4, r5, r6, r7, r8⟩ := run_sliceBounds (P := P) hio hlo hhi (mx := none) (mx' := none) rfl (Nat.le_refl n) (m := n) rfl hh hl (fun _ _ => Nat.le_refl _) (fun h => by simp at h) false w
    have hm' := r5 rfl
    subst hm'
    have hle : h ≤ n := by
      cases hi with
      | none =>
        injection hhi with hhi
        subst hhi
        injection hh with hh
        omega
      | some _ => exact r3 rfl
    rw [ev]
    refine ⟨_, ?_, by rw [← hev]; exact mkSlice_rel hμ n n n r2 hle (Nat.le_refl _) (.inl rfl)⟩
    show (Instr.sureAddr (.pointer (some ⟨b', d' + o, none⟩)) >>= fun a => Instr.sliceBounds false n n (lo.map ρ) (hi.map ρ) (none.map ρ) >>= fun p => sizeOf e >>= fun size => (pure (Value.slice (some (if p.2.2 = p.1 then a else a.add (p.1 * size))) (p.2.1 - p.1) (p.2.2 - p.1)) : Sem Value)).run P w = _
    have ra : (Instr.sureAddr (.pointer (some ⟨b', d' + o, none⟩))).run P w = .ok ⟨b', d' + o, none⟩ w := rfl
    rw [run_ok ra, run_ok r1, run_ok (run_size hs w)]
    rfl
  · exact nomatch hc
end
end Go.Ev
end

section
/- Ev, part 15: every pure operation gives what the evaluator says: the theorem. -/
namespace Go.Ev
set_option linter.unusedSectionVars false
variable [F : Facts] [E : Env]
set_option linter.unusedSimpArgs false
set_option linter.unusedVariables false
variable {P : Program} {μ : Mu}
variable {wr : WrT} {io : Opd → Option AV} {ρ : Operand → Value}

section
variable (hio : IOR μ wr io ρ)
include hio

theorem ok_build {t : TypeId} {parts : Array (Nat × Operand)} {q : POp} {v : AV} (hc : kBuild (ttOf P) wr t parts.toList = some (.p q)) (he : evP io P (ttOf P) q = some v) (w : World) :
    ∃ v', (Instr.build t (parts.map fun (i, x) => (i, ρ x))).run P w = .ok v' w ∧ VR μ v v' := by
  obtain ⟨z, hz, hc⟩ := ob_eq hc
  obtain ⟨d, hd, hc⟩ := ob_eq hc
  obtain ⟨z', hz', hzr⟩ := zeroOf_run (P := P) hz μ w
  have hcells := cellsV_rel hzr
  have hmap : (parts.map fun (x : Nat × Operand) => (x.1, ρ x.2)).toList = parts.toList.map fun p => (p.1, ρ p.2) := by simp
  unfold Instr.build
  rw [run_ok hz', run_ok (run_und hd w)]
  have fin : ∀ {pl : Nat → Option (Nat × Nat)} {l : List (Nat × Nat × Opd)}, places wr pl parts.toList = some l → q = .build (cellsV z) l →
      ∃ out : Array Value, Instr.fill pl z'.cells (parts.map fun (x : Nat × Operand) => (x.1, ρ x.2)).toList = some out ∧ VR μ v (.agg out) := by
    intro pl l hl hq
    subst hq
    obtain ⟨cs, hcs, he⟩ := ob_eq he
    injection he with hev
    have h1 := zeroOf_one hz
    obtain ⟨out, a1, a2, a3, a4⟩ := fill_ok hio hl hcs hcells h1
    rw [hmap]
    exact ⟨out, a1, by rw [← hev]; exact .agg a2 a3⟩
  cases d with
  | struct fs =>
    obtain ⟨pls, hpl, hc⟩ := ob_eq hc
    obtain ⟨l, hl, hc⟩ := ob_eq hc
    have hq := (inj_p hc).symm
    obtain ⟨out, a1, a2⟩ := fin hl hq
    refine ⟨.agg out, ?_, a2⟩
    have hrun : (fs.mapM fun f => do pure (f.offset, ← sizeOf f.type) : Sem (Array (Nat × Nat))).run P w = .ok pls.toArray w := by
      refine run_mapMA w (fun f b _ hb => ?_) hpl
      obtain ⟨s, hs, hb⟩ := ob_eq hb
      injection hb with hb
      subst hb
      rw [run_ok (run_size hs w)]; rfl
    show ((fs.mapM fun f => do pure (f.offset, ← sizeOf f.type) : Sem (Array (Nat × Nat))) >>= fun places => _).run P w = _
    rw [run_ok hrun]
    simp only
    have e : (fun i => pls.toArray[i]?) = nth pls := by funext i; rw [nth_eq]; simp
    rw [e, a1]; rfl
  | array n e =>
    obtain ⟨s, hs, hc⟩ := ob_eq hc
    obtain ⟨l, hl, hc⟩ := ob_eq hc
    have hq := (inj_p hc).symm
    obtain ⟨out, a1, a2⟩ := fin hl hq
    refine ⟨.agg out, ?_, a2⟩
    show (sizeOf e >>= fun size => _).run P w = _
    rw [run_ok (run_size hs w)]
    simp only
    have e : (fun i => some (i * s, s)) = fun i => some (Nat.mul i s, s) := rfl
    rw [e, a1]; rfl
  | _ => exact nomatch hc
end
end Go.Ev
end

section
/- Ev, part 16: pure operations: the theorem. -/
namespace Go.Ev
variable [F : Facts] [E : Env]
set_option linter.unusedVariables false
set_option linter.constructorNameAsVariable false
set_option linter.unusedSectionVars false
set_option linter.unusedSimpArgs false
set_option linter.unusedVariables false
variable {P : Program} {μ : Mu}
variable {wr : WrT} {io : Opd → Option AV} {ρ : Operand → Value}

theorem mmS_ok {mx : Bool} {v y u : AV} {v' y' : Value} (hs : bo (isSym v) (isSym y) = true) (h : mmS mx v y = some u) (hv : VR μ v v') (hy : VR μ y y') :
    ∃ k a b, v' = .int k a ∧ y' = .int k b ∧ VR μ u (.int k (if mx then (if b > a then b else a) else (if b < a then b else a))) := by
  obtain ⟨r, hr, h⟩ := ob_eq h
  obtain ⟨t, e, h⟩ := onBool_eq h
  subst e
  injection h with h
  have key : ∃ k a b, v' = .int k a ∧ y' = .int k b ∧ (cmp .lss v y = some (.bool true) → a < b) ∧ (cmp .lss v y = some (.bool false) → ¬ a < b) ∧ (cmp .lss y v = some (.bool true) → b < a) ∧ (cmp .lss y v = some (.bool false) → ¬ b < a) := by
    have hlt : ∀ {a b : Int} {t : Bool}, cmpI .lss a b = some (.bool t) → t = decide (a < b) := by
      intro a b t h
      unfold cmpI at h
      rw [ilt_eq] at h
      injection h with h
      injection h with h
      exact h.symm
    have sums : ∀ {x z : AV} {x' z' : Value} {t : Bool}, (isSym x = true ∨ isSym z = true) → VR μ x x' → VR μ z z' → cmp .lss x z = some (.bool t) → ∃ k a b, x' = .int k a ∧ z' = .int k b ∧ t = decide (a < b) := by
      intro x z x' z' t hor hx hz hc
      unfold cmp at hc
      split at hc
      · split at hc
        · obtain ⟨hk, h3⟩ := ot_eq hc
          rw [keq_eq, decide_eq_true_eq] at hk
          subst hk
          exact ⟨_, _, _, hx.inv_int0, hz.inv_sum, hlt (cmpU_bool h3)⟩
        · rename_i hns
          rcases hor with h | h
          · simp [isSym] at h
          · exfalso
            cases z <;> first | (simp [isSym] at h; done) | exact hns _ _ _ rfl
      · obtain ⟨k', d, r, h2, ey⟩ := onSum_eq hc hz
        obtain ⟨hk, h3⟩ := ot_eq h2
        rw [keq_eq, decide_eq_true_eq] at hk
        subst hk
        exact ⟨_, _, _, hx.inv_sum, ey, hlt (cmpU_bool h3)⟩
      · rcases hor with h | h
        · simp [isSym] at h
        · cases z <;> first | (simp [isSym] at h; done) | (simp [onStr] at hc; done)
      · rename_i h1 h2 h3
        exact nomatch hc
    have hor : isSym v = true ∨ isSym y = true := by simpa using hs
    have ex : ∃ k a b, v' = .int k a ∧ y' = .int k b := by
      rw [bif2_eq] at hr
      split at hr
      · obtain ⟨k, a, b, e1, e2, e3⟩ := sums hor hv hy hr
        exact ⟨k, a, b, e1, e2⟩
      · obtain ⟨k, b, a, e2, e1, e3⟩ := sums hor.symm hy hv hr
        exact ⟨k, a, b, e1, e2⟩
    obtain ⟨k, a, b, e1, e2⟩ := ex
    have c1 : ∀ t, cmp .lss v y = some (.bool t) → t = decide (a < b) := by
      intro t h
      obtain ⟨k', a', b', f1, f2, f3⟩ := sums hor hv hy h
      have g1 := e1.symm.trans f1
      have g2 := e2.symm.trans f2
      injection g1 with _ g1
      injection g2 with _ g2
      rw [g1, g2]; exact f3
    have c2 : ∀ t, cmp .lss y v = some (.bool t) → t = decide (b < a) := by
      intro t h
      obtain ⟨k', b', a', f2, f1, f3⟩ := sums hor.symm hy hv h
      have g1 := e1.symm.trans f1
      have g2 := e2.symm.trans f2
      injection g1 with _ g1
      injection g2 with _ g2
      rw [g1, g2]; exact f3
    exact ⟨k, a, b, e1, e2, fun h => by simpa using (c1 _ h).symm, fun h => by simpa using (c1 _ h).symm, fun h => by simpa using (c2 _ h).symm, fun h => by simpa using (c2 _ h).symm⟩
  obtain ⟨k, a, b, rfl, rfl, c1, c2, c3, c4⟩ := key
  refine ⟨k, a, b, rfl, rfl, ?_⟩
  rw [bif2_eq] at h
  cases mx with
  | true =>
    rw [bif2_true] at hr
    cases t with
    | true =>
      have := c1 hr
      subst h
      simpa [this] using hy
    | false =>
      have := c2 hr
      subst h
      simpa [this] using hv
  | false =>
    rw [bif2_false] at hr
    cases t with
    | true =>
      have := c3 hr
      subst h
      simpa [this] using hy
    | false =>
      have := c4 hr
      subst h
      simpa [this] using hv

theorem mm_ok : ∀ {mx : Bool} {l : List AV} {v r : AV} {v' : Value} {l' : List Value} (w : World), mm mx l v = some r → VR μ v v' → VRs μ l l' →
    ∃ r', (l'.foldlM (if mx then Builtin.max2 else Builtin.min2) v').run P w = .ok r' w ∧ VR μ r r' := by
  intro mx l
  induction l with
  | nil =>
    intro v r v' l' w h hv hl
    cases hl
    injection h with h
    subst h
    exact ⟨v', rfl, hv⟩
  | cons y l ih =>
    intro v r v' l' w h hv hl
    cases hl with
    | cons hy hl =>
    unfold mm at h
    rw [lrec_cons, bif2_eq] at h
    split at h
    · rename_i hs
      obtain ⟨u, hu, h⟩ := ob_eq h
      obtain ⟨k, a, b, rfl, rfl, hr⟩ := mmS_ok (mx := mx) hs hu hv hy
      obtain ⟨r', h1, h2⟩ := ih (v' := .int k (if mx then (if b > a then b else a) else (if b < a then b else a))) w h hr hl
      refine ⟨r', ?_, h2⟩
      rw [List.foldlM_cons]
      have : ((if mx then Builtin.max2 else Builtin.min2) (.int k a) (.int k b)).run P w = .ok (.int k (if mx then (if b > a then b else a) else (if b < a then b else a))) w := by
        cases mx <;> rfl
      rw [run_ok this]
      exact h1
    obtain ⟨k, a, e1, h⟩ := onInt_eq h
    obtain ⟨k2, b, e2, h⟩ := onInt_eq h
    subst e1; subst e2
    have e1 := hv.inv_int
    have e2 := hy.inv_int
    subst e1; subst e2
    obtain ⟨r', h1, h2⟩ := ih (v' := .int k (if mx then (if b > a then b else a) else (if b < a then b else a))) w h (by
      unfold mm1
      rw [bif2_eq, bif2_eq, ilt_eq, ilt_eq]
      cases mx <;> simp only [if_true, Bool.false_eq_true, if_false, decide_eq_true_eq] <;> exact .int _ _) hl
    refine ⟨r', ?_, h2⟩
    rw [List.foldlM_cons]
    have : ((if mx then Builtin.max2 else Builtin.min2) (.int k a) (.int k2 b)).run P w = .ok (.int k (if mx then (if b > a then b else a) else (if b < a then b else a))) w := by
      cases mx <;> rfl
    rw [run_ok this]
    exact h1

theorem ok_minmax (hio : IOR μ wr io ρ) {mx : Bool} {l : List Operand} {xs : List Opd} {v : AV} (hx : opnds wr l = some xs) (he : pMinmax io mx xs = some v) (w : World) (ts : Array TypeId) (t : TypeId) (args : Array Value) (ha : args.toList = l.map ρ) :
    ∃ v', ((if mx then Builtin.max_ else Builtin.min_) ts t args).run P w = .ok v' w ∧ VR μ v v' := by
  obtain ⟨vs, hvs, he⟩ := ob_eq he
  have hr := ios_rel hio hx hvs
  generalize l.map ρ = al at hr ha
  unfold mm0 at he
  cases hr with
  | nil => exact nomatch he
  | cons hu hus =>
    obtain ⟨r', h1, h2⟩ := mm_ok (P := P) w he hu hus
    refine ⟨r', ?_, h2⟩
    cases mx
    · show (Builtin.min_ ts t args).run P w = _
      unfold Builtin.min_
      rw [ha]
      exact h1
    · show (Builtin.max_ ts t args).run P w = _
      unfold Builtin.max_
      rw [ha]
      exact h1

theorem encode_small (n : Nat) (h : n < 128) : Utf8.encode (Int.ofNat n) = ⟨#[UInt8.ofNat n]⟩ := by
  have hval : Utf8.valid (Int.ofNat n) = true := by
    unfold Utf8.valid
    rw [Bool.or_eq_true]
    left
    rw [Bool.and_eq_true]
    exact ⟨decide_eq_true (Int.natCast_nonneg n), decide_eq_true (by show (n : Int) < _; omega)⟩
  unfold Utf8.encode
  simp only [hval, if_true]
  rw [if_pos (show (Int.ofNat n).toNat < 0x80 from h)]
  rfl

theorem run_v {s : Sem Value} {w w' : World} {v' : Value} (h : s.run P w = .ok v' w') : (do pure (.value (← s)) : Sem Next).run P w = .ok (.value v') w' := by
  rw [run_ok h]; rfl

section
variable (hio : IOR μ wr io ρ)
include hio

theorem ok_un {op : UnOp} {x v : AV} {x' : Value} (h : un1 op x = some v) (hx : VR μ x x') (w : World) : ∃ v', (Op.unary op x').run P w = .ok v' w ∧ VR μ v v' := by
  unfold un1 at h
  cases op with
  | neg =>
    dsimp only at h
    split at h
    · rename_i k c l
      have h3 := okSymW_ok h
      have e := hx.inv_sum
      subst e
      rw [linV_scale] at h3
      have e2 : Int.sub 0 c + (-1) * linV E.val l = 0 - (c + linV E.val l) := by
        show (0 - c) + _ = _
        omega
      rw [e2] at h3
      exact ⟨.int k (k.wrap (0 - (c + linV E.val l))), rfl, VR.of_sum h3⟩
    obtain ⟨k, n, e, h⟩ := onInt_eq h
    subst e
    have e := hx.inv_int
    subst e
    injection h with h
    refine ⟨.int k (k.wrap (0 - n)), rfl, ?_⟩
    rw [← h, wrapF_eq]
    exact .int _ _
  | xor =>
    obtain ⟨k, n, e, h⟩ := onInt_eq h
    subst e
    have e := hx.inv_int
    subst e
    injection h with h
    exact ⟨_, rfl, by rw [← h]; exact .int _ _⟩
  | not =>
    obtain ⟨b, e, h⟩ := onBool_eq h
    subst e
    have e := hx.inv_bool
    subst e
    injection h with h
    exact ⟨_, rfl, by rw [← h, nb_eq]; exact .bool _⟩
  | plus => exact nomatch h

theorem ok_conv {s d : TypeId} {x : Operand} {q : POp} {v : AV} (hc : kConv (ttOf P) wr s d x = some (.p q)) (he : evP io P (ttOf P) q = some v) (w : World) :
    ∃ v', (convert s d (ρ x)).run P w = .ok v' w ∧ VR μ v v' := by
  obtain ⟨a, ha, hc⟩ := ob_eq hc
  obtain ⟨ds, hds, hc⟩ := ob_eq hc
  obtain ⟨dd, hdd, hc⟩ := ob_eq hc
  unfold convert
  rw [run_ok (run_und hds w), run_ok (run_und hdd w)]
  unfold kConv1 at hc
  split at hc
  · have hq := (inj_p hc).symm
    subst hq
    obtain ⟨u, hu, he⟩ := ob_eq he
    unfold toInt1 at he
    split at he
    · rename_i k2 k1 c l
      have h3 := okSymW_ok he
      have e := (hio _ _ _ ha hu).inv_sum
      rw [e]
      exact ⟨_, rfl, VR.of_sum h3⟩
    · obtain ⟨k', n, e, he⟩ := onInt_eq he
      subst e
      have e := (hio _ _ _ ha hu).inv_int
      rw [e]
      injection he with hev
      exact ⟨_, rfl, by rw [← hev, wrapF_eq]; exact .int _ _⟩
  · have hq := (inj_p hc).symm
    subst hq
    obtain ⟨u, hu, he⟩ := ob_eq he
    have hr := hio _ _ _ ha hu
    unfold toStr1 at he
    split at he
    · injection he with hev
      obtain ⟨s, e, _, _⟩ := hr.inv_str
      rw [e] at hr ⊢
      exact ⟨_, rfl, by rw [← hev]; exact hr⟩
    · obtain ⟨k, n, e, he⟩ := onNat_eq he
      subst e
      obtain ⟨hlt, he⟩ := ot_eq he
      rw [nlt_eq, decide_eq_true_eq] at hlt
      have e := hr.inv_int
      rw [e]
      injection he with hev
      refine ⟨.string ⟨#[UInt8.ofNat n]⟩, ?_, ?_⟩
      · show (Conv.intToString (Int.ofNat n)).run P w = _
        unfold Conv.intToString
        show Result.ok (Value.string (Utf8.encode (Int.ofNat n))) w = _
        rw [encode_small n hlt]
      · rw [← hev]
        refine VR.str_of rfl ?_
        show n = (UInt8.ofNat n).toNat + 256 * 0
        simp
        omega
  · have hq := (inj_p hc).symm
    subst hq
    obtain ⟨u, hu, he⟩ := ob_eq he
    have hr := hio _ _ _ ha hu
    unfold toStr1 at he
    split at he
    · injection he with hev
      obtain ⟨s, e, _, _⟩ := hr.inv_str
      rw [e] at hr ⊢
      exact ⟨_, rfl, by rw [← hev]; exact hr⟩
    · obtain ⟨k, n, e, he⟩ := onNat_eq he
      subst e
      obtain ⟨hlt, he⟩ := ot_eq he
      rw [nlt_eq, decide_eq_true_eq] at hlt
      have e := hr.inv_int
      rw [e]
      injection he with hev
      refine ⟨.string ⟨#[UInt8.ofNat n]⟩, ?_, ?_⟩
      · show (Conv.intToString (Int.ofNat n)).run P w = _
        unfold Conv.intToString
        show Result.ok (Value.string (Utf8.encode (Int.ofNat n))) w = _
        rw [encode_small n hlt]
      · rw [← hev]
        refine VR.str_of rfl ?_
        show n = (UInt8.ofNat n).toNat + 256 * 0
        simp
        omega
  · obtain ⟨e, _, hc⟩ := ob_eq hc
    obtain ⟨_, hc⟩ := ot_eq hc
    obtain ⟨_, _, hc⟩ := ob_eq hc
    obtain ⟨_, hc⟩ := ot_eq hc
    exact (noP_a hc).elim
  · obtain ⟨e, _, hc⟩ := ob_eq hc
    obtain ⟨_, hc⟩ := ot_eq hc
    exact (noP_l hc).elim
  · obtain ⟨_, _, hc⟩ := ob_eq hc
    obtain ⟨_, hc⟩ := ot_eq hc
    exact (noP_l hc).elim
  · obtain ⟨_, _, hc⟩ := ob_eq hc
    obtain ⟨_, hc⟩ := ot_eq hc
    exact (noP_l hc).elim
  · exact nomatch hc

theorem ok_ixAddr {t : TypeId} {x i : Operand} {q : POp} {v : AV} (hc : kIxAddr (ttOf P) wr t x i = some (.p q)) (he : evP io P (ttOf P) q = some v) (w : World) :
    ∃ v', (Instr.indexAt t (ρ x) (ρ i)).run P w = .ok v' w ∧ VR μ v v' := by
  obtain ⟨a, ha, hc⟩ := ob_eq hc
  obtain ⟨b, hb, hc⟩ := ob_eq hc
  obtain ⟨d, hd, hc⟩ := ob_eq hc
  unfold Instr.indexAt
  unfold kIxAddr1 at hc
  split at hc
  · rename_i n e
    obtain ⟨s, hs, hc⟩ := ob_eq hc
    have hq := (inj_p hc).symm
    subst hq
    obtain ⟨u, hu, he⟩ := ob_eq he
    obtain ⟨bb, o, e1, he⟩ := onPtr_eq he
    subst e1
    obtain ⟨u2, hu2, he⟩ := ob_eq he
    obtain ⟨k, j, e2, he⟩ := onNat_eq he
    subst e2
    obtain ⟨hlt, he⟩ := ot_eq he
    rw [nlt_eq, decide_eq_true_eq] at hlt
    injection he with hev
    obtain ⟨b', d', x', hm, ex⟩ := (hio _ _ _ ha hu).inv_ptr
    have ei := (hio _ _ _ hb hu2).inv_int
    rw [ex, ei]
    refine ⟨.pointer (some ⟨b', d' + (o + j * s), none⟩), ?_, by rw [← hev]; exact .ptr hm⟩
    rw [run_ok (run_asInt w)]
    simp only [run_bind, run_und hd w, Instr.sureAddr, run_pure]
    rw [if_pos ⟨Int.natCast_nonneg j, by show (j : Int) < n; omega⟩]
    rw [run_bind, run_size hs w]
    show Result.ok _ w = _
    rw [show (Int.ofNat j).toNat = j from rfl, addr_add]
  · rename_i e
    obtain ⟨s, hs, hc⟩ := ob_eq hc
    have hq := (inj_p hc).symm
    subst hq
    obtain ⟨u, hu, he⟩ := ob_eq he
    rcases onSlx_eq he with ⟨bb, o, n, c, ts, e1, he⟩ | ⟨_, he⟩
    · subst e1
      obtain ⟨u2, hu2, he⟩ := ob_eq he
      obtain ⟨k, j, e2, he⟩ := onNat_eq he
      subst e2
      obtain ⟨hlt, he⟩ := ot_eq he
      rw [nlt_eq, decide_eq_true_eq] at hlt
      injection he with hev
      obtain ⟨adr, len, cap', hm0, hl, hn, ev⟩ := (hio _ _ _ ha hu).inv_slx
      obtain ⟨b', d', x', hm, rfl⟩ := hm0 (by omega)
      clear hm0
      have ei := (hio _ _ _ hb hu2).inv_int
      rw [ev, ei]
      refine ⟨.pointer (some ⟨b', d' + (o + j * s), none⟩), ?_, by rw [← hev]; exact .ptr hm⟩
      rw [run_ok (run_asInt w)]
      simp only [run_bind, run_und hd w, run_pure]
      rw [if_pos ⟨Int.natCast_nonneg j, by show (j : Int) < len; omega⟩]
      rw [run_bind, run_size hs w]
      show Result.ok _ w = _
      rw [show (Int.ofNat j).toNat = j from rfl, addr_add]
    rcases onSl_eq he with ⟨bb, o, len, cap, e1, he⟩ | ⟨_, h⟩
    · subst e1
      obtain ⟨u2, hu2, he⟩ := ob_eq he
      obtain ⟨k, j, e2, he⟩ := onNat_eq he
      subst e2
      obtain ⟨hlt, he⟩ := ot_eq he
      rw [nlt_eq, decide_eq_true_eq] at hlt
      injection he with hev
      obtain ⟨b', d', x', hm, hv⟩ := (hio _ _ _ ha hu).inv_sl
      have ei := (hio _ _ _ hb hu2).inv_int
      rcases hv with ⟨cap', ev, _, _⟩ | ⟨_, _, _, _, h0, _, _⟩
      · rw [ev, ei]
        refine ⟨.pointer (some ⟨b', d' + (o + j * s), none⟩), ?_, by rw [← hev]; exact .ptr hm⟩
        rw [run_ok (run_asInt w)]
        simp only [run_bind, run_und hd w, run_pure]
        rw [if_pos ⟨Int.natCast_nonneg j, by show (j : Int) < len; omega⟩]
        rw [run_bind, run_size hs w]
        show Result.ok _ w = _
        rw [show (Int.ofNat j).toNat = j from rfl, addr_add]
      · omega
    · exact nomatch h
  · exact nomatch hc

theorem ok_index {t : TypeId} {x i : Operand} {q : POp} {v : AV} (hc : kIndex (ttOf P) wr t x i = some (.p q)) (he : evP io P (ttOf P) q = some v) (w : World) :
    ∃ v', (Instr.index t (ρ x) (ρ i)).run P w = .ok v' w ∧ VR μ v v' := by
  obtain ⟨a, ha, hc⟩ := ob_eq hc
  obtain ⟨b, hb, hc⟩ := ob_eq hc
  obtain ⟨d, hd, hc⟩ := ob_eq hc
  unfold Instr.index
  unfold kIndex1 at hc
  split at hc
  · rename_i n e
    obtain ⟨s, hs, hc⟩ := ob_eq hc
    obtain ⟨g, hg, hc⟩ := ob_eq hc
    have hq := (inj_p hc).symm
    subst hq
    obtain ⟨u, hu, he⟩ := ob_eq he
    obtain ⟨u2, hu2, he⟩ := ob_eq he
    obtain ⟨k, j, e2, he⟩ := onNat_eq he
    subst e2
    obtain ⟨hlt, he⟩ := ot_eq he
    rw [nlt_eq, decide_eq_true_eq] at hlt
    have ei := (hio _ _ _ hb hu2).inv_int
    obtain ⟨cs', u', ev, hr, hrel⟩ := part_ok (P := P) hg hs he (hio _ _ _ ha hu) w
    rw [ev, ei]
    refine ⟨u', ?_, hrel⟩
    rw [run_ok (run_asInt w)]
    simp only [run_bind, run_und hd w]
    rw [if_pos ⟨Int.natCast_nonneg j, by show (j : Int) < n; omega⟩]
    rw [run_bind, run_size hs w]
    exact hr
  · have hq := (inj_p hc).symm
    subst hq
    obtain ⟨u, hu, he⟩ := ob_eq he
    obtain ⟨l, n, e1, he⟩ := onStr_eq he
    subst e1
    obtain ⟨u2, hu2, he⟩ := ob_eq he
    obtain ⟨k, j, e2, he⟩ := onNat_eq he
    subst e2
    obtain ⟨hlt, he⟩ := ot_eq he
    rw [nlt_eq, decide_eq_true_eq] at hlt
    injection he with hev
    have ei := (hio _ _ _ hb hu2).inv_int
    obtain ⟨s, es, rfl, rfl⟩ := (hio _ _ _ ha hu).inv_str
    rw [es, ei]
    have hj : j < s.size := hlt
    have hget : s[j]? = some (s[j]'hj) := by
      show (if h : j < s.size then some (s[j]'h) else none) = _
      rw [dif_pos hj]
    refine ⟨.int .u8 (s[j]'hj).toNat, ?_, ?_⟩
    · rw [run_ok (run_asInt w)]
      simp only [run_bind, run_und hd w]
      rw [if_pos (show (0 : Int) ≤ Int.ofNat j from Int.natCast_nonneg j), show (Int.ofNat j).toNat = j from rfl, hget]
      rfl
    · rw [← hev]
      have : (Int.ofNat (Nat.mod (Nat.div (bytesNum s.data.toList) (Nat.pow 256 j)) 256)) = ((s[j]'hj).toNat : Int) := by
        show ((bytesNum s.data.toList / 256 ^ j % 256 : Nat) : Int) = _
        rw [bytesNum_at s.data.toList j (s[j]'hj) (by
          rw [List.getElem?_eq_getElem (by exact hlt)]; rfl)]
      rw [this]
      exact .int _ _
  · exact nomatch hc

theorem ok_assert {x : Operand} {xt t : TypeId} {ok : Bool} {q : POp} {v : AV} (hc : kAssert (ttOf P) wr x t ok = some (.p q)) (he : evP io P (ttOf P) q = some v) (w : World) :
    ∃ v', (Instr.typeAssert (ρ x) xt t ok).run P w = .ok v' w ∧ VR μ v v' := by
  obtain ⟨a, ha, hc⟩ := ob_eq hc
  obtain ⟨d, hd, hc⟩ := ob_eq hc
  obtain ⟨z, hz, hc⟩ := ob_eq hc
  obtain ⟨hi, hc⟩ := ot_eq hc
  have hq := (inj_p hc).symm
  subst hq
  obtain ⟨z', hz', hzr⟩ := zeroOf_run (P := P) hz μ w
  obtain ⟨u, hu, he⟩ := ob_eq he
  have hr := hio _ _ _ ha hu
  have okT : ∀ {a : AV} {a' : Value} (b : Bool), VR μ a a' → VR μ (okTup a b) (.tuple #[a', .bool b]) := by
    intro a a' b h
    exact .tup (.cons h (.cons (.bool b) .nil))
  rw [nb_eq] at hi
  have hni : ∀ ms, d ≠ .interface ms := by
    intro ms e
    subst e
    exact Bool.noConfusion hi
  rcases onIfc_eq he with ⟨u1, u2, e, he2⟩ | ⟨e, he2⟩
  · subst e
    clear he
    have he := he2
    clear he2
    cases hr' : ρ x with
    | iface tt vv =>
      rw [hr'] at hr
      cases hr with
      | ifc _ hv =>
      rw [bif2_eq, nbeq_eq] at he
      unfold Instr.typeAssert
      rw [run_ok (run_und hd w)]
      by_cases e : u1 = t
      · rw [if_pos (by simpa using e)] at he
        injection he with hev
        subst e
        cases ok with
        | true => exact ⟨.tuple #[vv, .bool true], by cases d <;> first | exact absurd rfl (hni _) | (simp; done), by rw [← hev]; exact okT true hv⟩
        | false => exact ⟨vv, by cases d <;> first | exact absurd rfl (hni _) | (simp; done), by rw [← hev]; exact hv⟩
      · rw [if_neg (by simpa using e)] at he
        obtain ⟨hok, he⟩ := ot_eq he
        injection he with hev
        subst hok
        refine ⟨.tuple #[z', .bool false], ?_, by rw [← hev]; exact okT false hzr⟩
        cases d <;> first | exact absurd rfl (hni _) | (simp [e, run_bind, hz']; done)
    | _ => rw [hr'] at hr; exact nomatch hr
  · subst e
    obtain ⟨hok, he⟩ := ot_eq he2
    injection he with hev
    subst hok
    cases hr' : ρ x with
    | nilIface =>
      unfold Instr.typeAssert
      rw [run_ok (run_und hd w)]
      refine ⟨.tuple #[z', .bool false], ?_, by rw [← hev]; exact okT false hzr⟩
      cases d <;> first | exact absurd rfl (hni _) | (simp [run_bind, hz']; done)
    | _ => rw [hr'] at hr; exact nomatch hr
end
end Go.Ev
end

section
/- Ev, part 17: pure operations: the theorem. -/
namespace Go.Ev
set_option linter.unusedSectionVars false
variable [F : Facts] [E : Env]
set_option linter.unusedSimpArgs false
set_option linter.unusedVariables false
variable {P : Program} {μ : Mu}
variable {wr : WrT} {io : Opd → Option AV} {ρ : Operand → Value}

theorem one_arr {α : Type} {a : Array α} {x : α} (h : a.toList = [x]) : a = #[x] := by
  cases a; simp_all
theorem two_arr {α : Type} {a : Array α} {x y : α} (h : a.toList = [x, y]) : a = #[x, y] := by
  cases a; simp_all
theorem map_one (f : Operand → Value) (x : Operand) : (#[x] : Array Operand).map f = #[f x] := by simp
theorem map_two (f : Operand → Value) (x y : Operand) : (#[x, y] : Array Operand).map f = #[f x, f y] := by simp

theorem VR.slice_form {b o len cap : Nat} {v : Value} (h : VR μ (.sl b o len cap) v) : ∃ a c, v = .slice (some a) len c ∧ cap ≤ c ∧ (0 < cap → ∃ b' d x, μ b = some (b', d, x) ∧ a = ⟨b', d + o, none⟩) := by
  obtain ⟨b', d', x', hm, hv⟩ := h.inv_sl
  rcases hv with ⟨cap', e, hc, _⟩ | ⟨o', cap', _, _, h0, h1, e⟩
  · exact ⟨_, _, e, hc, fun _ => ⟨b', d', x', hm, rfl⟩⟩
  · subst h0; subst h1; exact ⟨_, _, e, Nat.zero_le _, fun h => absurd h (Nat.lt_irrefl 0)⟩

section
variable (hio : IOR μ wr io ρ) (hk : ∀ a v, io (.c a) = some v → v = a)
include hio hk

theorem ok_len1 {ox : Operand} {x : Opd} {t ty : TypeId} {d : TypeDesc} {q : POp} {v : AV} (hxx : opnd wr ox = some x) (hd : und (ttOf P) t = some d) (hc : kLen x d = some (.p q)) (he : evP io P (ttOf P) q = some v) (w : World) :
    ∃ v', (Builtin.len_ #[t] ty #[ρ ox]).run P w = .ok v' w ∧ VR μ v v' := by
  unfold kLen at hc
  cases d with
  | string =>
    have hq := (inj_p hc).symm
    subst hq
    obtain ⟨u, hu, he⟩ := ob_eq he
    obtain ⟨l, n, e, he⟩ := onStr_eq he
    subst e
    injection he with hev
    obtain ⟨s, es, rfl, rfl⟩ := (hio _ _ _ hxx hu).inv_str
    refine ⟨goInt s.size, ?_, by rw [← hev]; exact .int _ _⟩
    rw [es]
    show (underlying t >>= fun d => _).run P w = _
    rw [run_ok (run_und hd w)]; rfl
  | slice e =>
    have hq := (inj_p hc).symm
    subst hq
    obtain ⟨u, hu, he⟩ := ob_eq he
    rcases onSlx_eq he with ⟨b, o, n, c, ts, e1, he2⟩ | ⟨_, he⟩
    · subst e1
      injection he2 with hev
      obtain ⟨a, len, cap', _, hl, hn, es⟩ := (hio _ _ _ hxx hu).inv_slx
      refine ⟨goInt len, ?_, by rw [← hev]; exact VR.of_sum (hl ▸ mkSym_is _ _ _)⟩
      rw [es]
      show (underlying t >>= fun d => _).run P w = _
      rw [run_ok (run_und hd w)]; rfl
    rcases onSl_eq he with ⟨b, o, l, c, e1, he2⟩ | ⟨e1, he2⟩
    · subst e1
      injection he2 with hev
      obtain ⟨a, c', es, _, _⟩ := (hio _ _ _ hxx hu).slice_form
      refine ⟨goInt l, ?_, by rw [← hev]; exact .int _ _⟩
      rw [es]
      show (underlying t >>= fun d => _).run P w = _
      rw [run_ok (run_und hd w)]; rfl
    · subst e1
      injection he2 with hev
      have es := (hio _ _ _ hxx hu).inv_nils
      refine ⟨goInt 0, ?_, by rw [← hev]; exact .int _ _⟩
      rw [es]
      show (underlying t >>= fun d => _).run P w = _
      rw [run_ok (run_und hd w)]; rfl
  | map k e => exact (noP_l hc).elim
  | array n e =>
    have hq := (inj_p hc).symm
    subst hq
    refine ⟨goInt n, ?_, ?_⟩
    · show (underlying t >>= fun d => _).run P w = _
      rw [run_ok (run_und hd w)]; rfl
    · have := hk _ _ (show io (.c (.int .i64 (.ofNat n))) = some v from he)
      rw [this]
      exact .int _ _
  | _ => exact nomatch hc

theorem ok_call {o : Oper} {c : Call} (ho : o.op = .call c) {q : POp} {v : AV} (hc : kCall (ttOf P) wr c = some (.p q)) (he : evP io P (ttOf P) q = some v) (w : World) :
    Gives P μ (execOp ρ o) w v := by
  obtain ⟨as, has, hc⟩ := ob_eq hc
  unfold kCallee at hc
  split at hc
  · exact (noP_w hc).elim
  · obtain ⟨f, _, hc⟩ := ob_eq hc
    exact (noP_w hc).elim
  · obtain ⟨f, _, hc⟩ := ob_eq hc
    exact (noP_w hc).elim
  · rename_i b hb
    have hrun := call_builtin (P := P) (ρ := ρ) ho hb w
    unfold Gives
    rw [hrun]
    have hargs : (c.args.map ρ).toList = c.args.toList.map ρ := by simp
    unfold kBuiltin at hc
    split at hc
    · rename_i m hm
      have hq := (inj_p hc).symm
      subst hq
      obtain ⟨v', h1, h2⟩ := ok_minmax (P := P) hio has he w c.argTypes o.type (c.args.map ρ) hargs
      refine ⟨v', ?_, h2⟩
      cases b <;> simp only [isMM, Option.some.injEq, reduceCtorEq] at hm
      · subst hm
        exact run_v h1
      · subst hm
        exact run_v h1
    · split at hc
      · -- one argument
        rename_i x t hts
        obtain ⟨d, hd, hc⟩ := ob_eq hc
        obtain ⟨ox, hox, hxx⟩ := opnds_one has
        have ea := one_arr hox
        have et := one_arr hts
        rw [ea, et, map_one]
        unfold kBuiltin1 at hc
        split at hc
        · obtain ⟨v', h1, h2⟩ := ok_len1 (ty := o.type) hio hk hxx hd hc he w
          exact ⟨v', run_v h1, h2⟩
        · obtain ⟨hs, hc⟩ := ot_eq hc
          have hq := (inj_p hc).symm
          subst hq
          obtain ⟨u, hu, he⟩ := ob_eq he
          rcases onSl_eq he with ⟨b, o, l, c, e1, he2⟩ | ⟨e1, he2⟩
          · exact nomatch he2
          · subst e1
            injection he2 with hev
            have es := (hio _ _ _ hxx hu).inv_nils
            refine ⟨goInt 0, run_v ?_, by rw [← hev]; exact .int _ _⟩
            rw [es]
            show (underlying t >>= fun d => _).run P w = _
            rw [run_ok (run_und hd w)]
            cases d <;> first | rfl | exact Bool.noConfusion hs
        · exfalso
          unfold kClear1 at hc
          cases d with
          | slice e =>
            obtain ⟨z, _, hc⟩ := ob_eq hc
            obtain ⟨n, _, hc⟩ := ob_eq hc
            obtain ⟨_, hc⟩ := ot_eq hc
            exact noP_w hc
          | _ => exact nomatch hc
        · have hq := (inj_p hc).symm
          subst hq
          obtain ⟨u, hu, he⟩ := ob_eq he
          rcases onSl_eq he with ⟨b, oo, l, c, e1, he2⟩ | ⟨e1, he2⟩
          · subst e1
            obtain ⟨hlt, he3⟩ := ot_eq he2
            rw [nlt_eq, decide_eq_true_eq] at hlt
            injection he3 with hev
            obtain ⟨a, c', es, hcc, hloc⟩ := (hio _ _ _ hxx hu).slice_form
            obtain ⟨b', d', x', hm, ea'⟩ := hloc hlt
            refine ⟨.pointer (some a), run_v ?_, by rw [← hev, ea']; exact .ptr hm⟩
            rw [es]
            show (if c' ≠ 0 then (pure (Value.pointer (some a)) : Sem Value) else _).run P w = _
            rw [if_pos (by omega)]; rfl
          · subst e1
            injection he2 with hev
            have es := (hio _ _ _ hxx hu).inv_nils
            refine ⟨.pointer none, run_v ?_, by rw [← hev]; exact .nilp⟩
            rw [es]; rfl
        · exact nomatch hc
      · rename_i x y t u hts
        obtain ⟨d, hd, hc⟩ := ob_eq hc
        obtain ⟨d2, hd2, hc⟩ := ob_eq hc
        exfalso
        unfold kBuiltin2 at hc
        split at hc
        · unfold kAppend1 at hc
          split at hc
          · obtain ⟨i, _, hc⟩ := ob_eq hc
            obtain ⟨z, _, hc⟩ := ob_eq hc
            obtain ⟨_, hc⟩ := ot_eq hc
            exact noP_w hc
          · obtain ⟨i, _, hc⟩ := ob_eq hc
            obtain ⟨z, _, hc⟩ := ob_eq hc
            obtain ⟨_, hc⟩ := ot_eq hc
            exact noP_w hc
          · exact nomatch hc
        · unfold kCopy1 at hc
          split at hc
          · obtain ⟨i, _, hc⟩ := ob_eq hc
            obtain ⟨_, hc⟩ := ot_eq hc
            exact noP_w hc
          · exact nomatch hc
        · unfold kDelete1 at hc
          split at hc
          · exact noP_w hc
          · exact nomatch hc
        · unfold kUnsafeStr1 at hc
          split at hc
          · obtain ⟨i, _, hc⟩ := ob_eq hc
            obtain ⟨_, hc⟩ := ot_eq hc
            exact noP_w hc
          · exact nomatch hc
        · exact nomatch hc
      · exact nomatch hc

theorem pure_ok (o : Oper) {q : POp} {v : AV} (hc : compOp0 P (ttOf P) wr o.op = some (.p q)) (he : evP io P (ttOf P) q = some v) (w : World) : Gives P μ (execOp ρ o) w v := by
  cases ho : o.op with
  | move x =>
    rw [ho] at hc
    obtain ⟨a, ha, hc⟩ := ob_eq hc
    have hq := (inj_p hc).symm
    subst hq
    exact ⟨ρ x, by unfold execOp; rw [ho]; rfl, hio _ _ _ ha he⟩
  | assign x =>
    rw [ho] at hc
    obtain ⟨a, ha, hc⟩ := ob_eq hc
    have hq := (inj_p hc).symm
    subst hq
    exact ⟨ρ x, by unfold execOp; rw [ho]; rfl, hio _ _ _ ha he⟩
  | pick c a b =>
    rw [ho] at hc
    obtain ⟨c', hc', hc⟩ := ob_eq hc
    obtain ⟨a', ha', hc⟩ := ob_eq hc
    obtain ⟨b', hb', hc⟩ := ob_eq hc
    have hq := (inj_p hc).symm
    subst hq
    obtain ⟨u, hu, he⟩ := ob_eq he
    obtain ⟨t, e, he⟩ := onBool_eq he
    subst e
    have ec := (hio _ _ _ hc' hu).inv_bool
    cases t with
    | true => exact ⟨ρ a, by unfold execOp; rw [ho]; simp only; rw [ec]; rfl, hio _ _ _ ha' he⟩
    | false => exact ⟨ρ b, by unfold execOp; rw [ho]; simp only; rw [ec]; rfl, hio _ _ _ hb' he⟩
  | alloc e => rw [ho] at hc; obtain ⟨z, _, hc⟩ := ob_eq hc; exact (noP_a hc).elim
  | box e x => rw [ho] at hc; obtain ⟨z, _, hc⟩ := ob_eq hc; exact (noP_a hc).elim
  | build t parts =>
    rw [ho] at hc
    obtain ⟨v', h1, h2⟩ := ok_build (P := P) hio hc he w
    exact ⟨v', by unfold execOp; rw [ho]; exact run_v h1, h2⟩
  | buildSlice t n parts =>
    rw [ho] at hc
    obtain ⟨d, _, hc⟩ := ob_eq hc
    cases d with
    | slice e =>
      obtain ⟨_, _, hc⟩ := ob_eq hc
      obtain ⟨_, _, hc⟩ := ob_eq hc
      obtain ⟨_, _, hc⟩ := ob_eq hc
      obtain ⟨_, hc⟩ := ot_eq hc
      exact (noP_a hc).elim
    | _ => exact nomatch hc
  | load t a =>
    rw [ho] at hc
    obtain ⟨_, _, hc⟩ := ob_eq hc
    obtain ⟨g, _, hc⟩ := ob_eq hc
    cases g with
    | true => obtain ⟨_, _, hc⟩ := ob_eq (show ob _ _ = _ from hc); exact (noP_l hc).elim
    | false => exact (noP_l hc).elim
  | store t a x =>
    rw [ho] at hc
    obtain ⟨_, _, hc⟩ := ob_eq hc
    obtain ⟨_, _, hc⟩ := ob_eq hc
    obtain ⟨_, _, hc⟩ := ob_eq hc
    obtain ⟨_, _, hc⟩ := ob_eq hc
    obtain ⟨_, hc⟩ := ot_eq hc
    exact (noP_w hc).elim
  | nilCheck x =>
    rw [ho] at hc
    obtain ⟨a, ha, hc⟩ := ob_eq hc
    have hq := (inj_p hc).symm
    subst hq
    obtain ⟨u, hu, he⟩ := ob_eq he
    have hr := hio _ _ _ ha hu
    unfold nilChk at he
    split at he
    · injection he with hev
      obtain ⟨b', d', x', hm, e⟩ := hr.inv_ptr
      exact ⟨ρ x, by unfold execOp; rw [ho]; simp only; rw [e]; rfl, by rw [← hev]; exact hr⟩
    · injection he with hev
      refine ⟨ρ x, ?_, by rw [← hev]; exact hr⟩
      unfold execOp; rw [ho]; simp only
      cases e : ρ x with
      | iface t v => rfl
      | _ => rw [e] at hr; exact nomatch hr
    · obtain ⟨_, he⟩ := ot_eq he
      injection he with hev
      refine ⟨ρ x, ?_, by rw [← hev]; exact hr⟩
      unfold execOp; rw [ho]; simp only
      cases e : ρ x with
      | func g a c =>
        rw [e] at hr
        cases hr <;> rfl
      | _ => rw [e] at hr; exact nomatch hr
    · exact nomatch he
  | binOp op t x y yt =>
    rw [ho] at hc
    obtain ⟨v', h1, h2⟩ := ok_bin (P := P) hio hc he w
    exact ⟨v', by unfold execOp; rw [ho]; exact run_v h1, h2⟩
  | unOp op t x =>
    rw [ho] at hc
    obtain ⟨a, ha, hc⟩ := ob_eq hc
    have hq := (inj_p hc).symm
    subst hq
    obtain ⟨u, hu, he⟩ := ob_eq he
    obtain ⟨v', h1, h2⟩ := ok_un (P := P) hio he (hio _ _ _ ha hu) w
    exact ⟨v', by unfold execOp; rw [ho]; exact run_v h1, h2⟩
  | convert s d x =>
    rw [ho] at hc
    obtain ⟨v', h1, h2⟩ := ok_conv (P := P) hio hc he w
    exact ⟨v', by unfold execOp; rw [ho]; exact run_v h1, h2⟩
  | makeInterface t x =>
    rw [ho] at hc
    obtain ⟨a, ha, hc⟩ := ob_eq hc
    obtain ⟨d, hd, hc⟩ := ob_eq hc
    obtain ⟨hi, hc⟩ := ot_eq hc
    have hq := (inj_p hc).symm
    subst hq
    obtain ⟨u, hu, he⟩ := ob_eq he
    injection he with hev
    refine ⟨.iface t (ρ x), ?_, by rw [← hev]; exact .ifc t (hio _ _ _ ha hu)⟩
    unfold execOp; rw [ho]
    refine run_v ?_
    unfold Instr.makeInterface
    rw [run_ok (run_und hd w)]
    cases d <;> first | rfl | exact Bool.noConfusion hi
  | makeFunc fn a b =>
    rw [ho] at hc
    obtain ⟨a', ha, hc⟩ := ob_eq hc
    obtain ⟨b', hb, hc⟩ := ob_eq hc
    obtain ⟨hf, hc⟩ := ot_eq hc
    have hq := (inj_p hc).symm
    subst hq
    obtain ⟨va, hva, he⟩ := ob_eq he
    obtain ⟨vb, hvb, he⟩ := ob_eq he
    injection he with hev
    cases fn with
    | func f =>
      refine ⟨.func (.func f) (a.map ρ) (b.map ρ), ?_, ?_⟩
      · unfold execOp; rw [ho]; rfl
      · rw [← hev]
        refine .fn f ?_ ?_
        · have := ios_rel hio ha hva; simpa using this
        · have := ios_rel hio hb hvb; simpa using this
    | _ => exact Bool.noConfusion hf
  | makeMap t r =>
    rw [ho] at hc
    cases r with
    | none => exact (noP_a hc).elim
    | some _ => exact nomatch hc
  | makeSlice t l c =>
    rw [ho] at hc
    obtain ⟨_, _, hc⟩ := ob_eq hc
    obtain ⟨_, _, hc⟩ := ob_eq hc
    obtain ⟨d, _, hc⟩ := ob_eq hc
    cases d with
    | slice e =>
      obtain ⟨_, _, hc⟩ := ob_eq hc
      obtain ⟨_, _, hc⟩ := ob_eq hc
      exact (noP_a hc).elim
    | _ => exact nomatch hc
  | slice t x lo hi mx =>
    rw [ho] at hc
    obtain ⟨v', h1, h2⟩ := ok_slice (P := P) hio hc he w
    exact ⟨v', by unfold execOp; rw [ho]; exact run_v h1, h2⟩
  | fieldAddr s x f =>
    rw [ho] at hc
    obtain ⟨a, ha, hc⟩ := ob_eq hc
    obtain ⟨d, hd, hc⟩ := ob_eq hc
    unfold kFieldAddr1 at hc
    cases d with
    | struct fs =>
      obtain ⟨fd, hf, hc⟩ := ob_eq hc
      obtain ⟨sz, hs, hc⟩ := ob_eq hc
      obtain ⟨hlt, hc⟩ := ot_eq hc
      have hq := (inj_p hc).symm
      subst hq
      obtain ⟨u, hu, he⟩ := ob_eq he
      obtain ⟨b, o', e, he⟩ := onPtr_eq he
      subst e
      injection he with hev
      obtain ⟨b', d', x', hm, ex⟩ := (hio _ _ _ ha hu).inv_ptr
      rw [nlt_eq, decide_eq_true_eq] at hlt
      rw [nth_eq] at hf
      refine ⟨.pointer (some ⟨b', d' + (o' + fd.offset), none⟩), ?_, by rw [← hev]; exact .ptr hm⟩
      unfold execOp; rw [ho]
      refine run_v ?_
      unfold Instr.fieldAt
      rw [run_ok (run_und hd w)]
      have hf' : fs[f]? = some fd := by simpa using hf
      simp only [hf', ex]
      show (Instr.sureAddr (.pointer (some ⟨b', d' + o', none⟩)) >>= fun a => fieldPlace a fd >>= fun a => (pure (Value.pointer (some a)) : Sem Value)).run P w = _
      have ra : (Instr.sureAddr (.pointer (some ⟨b', d' + o', none⟩))).run P w = .ok ⟨b', d' + o', none⟩ w := rfl
      rw [run_ok ra]
      have rp : (fieldPlace ⟨b', d' + o', none⟩ fd).run P w = .ok ⟨b', d' + (o' + fd.offset), none⟩ w := by
        unfold fieldPlace
        rw [run_ok (run_size hs w), if_neg (by omega), addr_add]; rfl
      rw [run_ok rp]; rfl
    | _ => exact nomatch hc
  | field t x f =>
    rw [ho] at hc
    obtain ⟨a, ha, hc⟩ := ob_eq hc
    obtain ⟨d, hd, hc⟩ := ob_eq hc
    unfold kField1 at hc
    cases d with
    | struct fs =>
      obtain ⟨fd, hf, hc⟩ := ob_eq hc
      obtain ⟨sz, hs, hc⟩ := ob_eq hc
      obtain ⟨g, hg, hc⟩ := ob_eq hc
      have hq := (inj_p hc).symm
      subst hq
      obtain ⟨u, hu, he⟩ := ob_eq he
      obtain ⟨cs', u', ev, hr, hrel⟩ := part_ok (P := P) hg hs he (hio _ _ _ ha hu) w
      rw [nth_eq] at hf
      refine ⟨u', ?_, hrel⟩
      unfold execOp; rw [ho]
      refine run_v ?_
      unfold Instr.field
      rw [run_ok (run_und hd w)]
      have hf' : fs[f]? = some fd := by simpa using hf
      simp only [hf', ev]
      show (asAgg (.agg cs') >>= fun cs => Go.part fd.type cs fd.offset).run P w = _
      have ra : (asAgg (.agg cs')).run P w = .ok cs' w := rfl
      rw [run_ok ra]; exact hr
    | _ => exact nomatch hc
  | indexAddr t x i =>
    rw [ho] at hc
    obtain ⟨v', h1, h2⟩ := ok_ixAddr (P := P) hio hc he w
    exact ⟨v', by unfold execOp; rw [ho]; exact run_v h1, h2⟩
  | index t x i =>
    rw [ho] at hc
    obtain ⟨v', h1, h2⟩ := ok_index (P := P) hio hc he w
    exact ⟨v', by unfold execOp; rw [ho]; exact run_v h1, h2⟩
  | lookup t x k ok =>
    rw [ho] at hc
    obtain ⟨_, _, hc⟩ := ob_eq hc
    obtain ⟨_, _, hc⟩ := ob_eq hc
    obtain ⟨d, _, hc⟩ := ob_eq hc
    cases d with
    | map kt e => obtain ⟨_, _, hc⟩ := ob_eq hc; exact (noP_l hc).elim
    | _ => exact nomatch hc
  | mapUpdate t m k x =>
    rw [ho] at hc
    obtain ⟨_, _, hc⟩ := ob_eq hc
    obtain ⟨_, _, hc⟩ := ob_eq hc
    obtain ⟨_, _, hc⟩ := ob_eq hc
    obtain ⟨d, _, hc⟩ := ob_eq hc
    cases d with
    | map kt e => exact (noP_w hc).elim
    | _ => exact nomatch hc
  | insert t m k x =>
    rw [ho] at hc
    obtain ⟨_, _, hc⟩ := ob_eq hc
    obtain ⟨_, _, hc⟩ := ob_eq hc
    obtain ⟨_, _, hc⟩ := ob_eq hc
    obtain ⟨d, _, hc⟩ := ob_eq hc
    cases d with
    | map kt e => exact (noP_w hc).elim
    | _ => exact nomatch hc
  | range t x =>
    rw [ho] at hc
    obtain ⟨_, _, hc⟩ := ob_eq hc
    obtain ⟨d, _, hc⟩ := ob_eq hc
    obtain ⟨_, hc⟩ := ot_eq hc
    exact (noP_a hc).elim
  | next x s =>
    rw [ho] at hc
    obtain ⟨_, _, hc⟩ := ob_eq hc
    obtain ⟨_, hc⟩ := ot_eq hc
    exact (noP_w hc).elim
  | typeAssert x xt t ok =>
    rw [ho] at hc
    obtain ⟨v', h1, h2⟩ := ok_assert (P := P) (xt := xt) hio hc he w
    exact ⟨v', by unfold execOp; rw [ho]; exact run_v h1, h2⟩
  | extract x i =>
    rw [ho] at hc
    obtain ⟨a, ha, hc⟩ := ob_eq hc
    have hq := (inj_p hc).symm
    subst hq
    obtain ⟨u, hu, he⟩ := ob_eq he
    obtain ⟨vs, e, he2⟩ := onTup_eq he
    subst e
    obtain ⟨vs', ev, hvs⟩ := (hio _ _ _ ha hu).inv_tup
    rw [nth_eq] at he2
    obtain ⟨v', hv', hr⟩ := hvs.get he2
    refine ⟨v', ?_, hr⟩
    unfold execOp; rw [ho]
    refine run_v ?_
    simp only [ev]
    unfold Instr.extract
    have : vs'[i]? = some v' := by simpa using hv'
    simp only [this]; rfl
  | call c =>
    rw [ho] at hc
    exact ok_call hio hk ho hc he w
  | _ => rw [ho] at hc; exact nomatch hc
end
end Go.Ev
end

section
/- Ev, part 18: the heap: what is born, what is written. -/
namespace Go.Ev
set_option linter.unusedSectionVars false
variable [F : Facts] [E : Env]
set_option linter.unusedSimpArgs false
set_option linter.unusedVariables false
variable {P : Program} {μ : Mu}

theorem ObjR.mono {μ μ' : Mu} (hle : μ.le μ') {d : Nat} {x : Option (Nat × Nat)} {o : AObj} {o' : Obj} (h : ObjR P μ d x o o') : ObjR P μ' d x o o' := by
  cases o <;> cases o' <;> simp only [ObjR] at h ⊢
  · obtain ⟨h1, h2, h3, h4, h5, h6, h7, h8, h9⟩ := h
    exact ⟨h1, h2, h3, h4, h5, fun i v hv => let ⟨a, b, v', c, e⟩ := h6 i v hv; ⟨a, b, v', c, e.mono hle⟩, h7, h8, h9⟩
  · exact ⟨h.1, h.2.mono fun a e h => ⟨h.1.mono hle, h.2.1.mono hle, h.2.2⟩⟩
  · obtain ⟨h1, h2, h3, h4, nt, h5, h6, h7, h8⟩ := h
    exact ⟨h1, h2, h3.mono hle, h4, nt, h5, h6, h7, h8⟩
  · exact h
  · obtain ⟨h1, h2, h3⟩ := h
    exact ⟨h1, h2, fun i v hv => let ⟨a, b, v', c, e⟩ := h3 i v hv; ⟨a, b, v', c, e.mono hle⟩⟩

/-- what may be read of a row of cells -/
theorem ObjR.rd {d : Nat} {x : Option (Nat × Nat)} {o : AObj} {o' : Obj} {n : Nat} {c : Cells} (h : ObjR P μ d x o o') (ho : (∃ e ex md fz ch, o = .cells n c e ex md fz ch) ∨ o = .row n c) :
    ∃ cs e' fr, o' = .cells cs e' fr ∧ (∀ l, c = .lst l → l.length = n) ∧ (∀ i v, c.get i = some v → i < n ∧ oneA v = true ∧ ∃ v', cs[d + i]? = some v' ∧ VR μ v v') := by
  rcases ho with ⟨e, ex, md, fz, ch, rfl⟩ | rfl
  · cases o' with
    | cells cs e' fr =>
      obtain ⟨_, _, _, _, h5, h6, _⟩ := h
      exact ⟨cs, e', fr, rfl, h5, h6⟩
    | _ => exact h.elim
  · cases o' with
    | cells cs e' fr => exact ⟨cs, e', fr, rfl, h.2.1, h.2.2⟩
    | _ => exact h.elim

theorem R.congr {A : AH} {w w' : World} (h : R P μ A w) (e : w'.heap = w.heap) : R P μ A w' :=
  { h with
    obj := fun b o m h1 h2 => by rw [e]; exact h.obj b o m h1 h2
    dom := fun b m h1 => by rw [e]; exact h.dom b m h1 }

theorem R.next_none {A : AH} {w : World} (h : R P μ A w) : μ A.next = none := by
  cases e : μ A.next with
  | none => rfl
  | some m => exact absurd (h.dom _ _ e).1 (Nat.lt_irrefl _)
/-- a block more in the abstract heap: not born yet -/
theorem R.newA {A : AH} {w : World} (h : R P μ A w) (o : AObj) : R P μ (A.new o) w := by
  have hn := h.next_none
  have get : ∀ b, (A.new o).objs.get b = if b = A.next then some o else A.objs.get b := fun b => by
    unfold AH.new; rw [T.get_put]
  have old : ∀ b m o', μ b = some m → (A.new o).objs.get b = some o' → A.objs.get b = some o' := by
    intro b m o' h1 h2
    rw [get] at h2
    split at h2
    · rename_i e; subst e; rw [hn] at h1; exact nomatch h1
    · exact h2
  exact {
    obj := fun b o' m h1 h2 => h.obj b o' m (old b m o' h2 h1) h2
    dom := fun b m h1 => ⟨Nat.lt_succ_of_lt (h.dom b m h1).1, (h.dom b m h1).2⟩
    live := fun b o' h1 => by
      rw [get] at h1
      split at h1
      · rename_i e; subst e; exact Nat.lt_succ_self _
      · exact Nat.lt_succ_of_lt (h.live b o' h1)
    glob := h.glob
    sep := fun b1 b2 o1 o2 m1 m2 hne h1 h2 h3 h4 e => h.sep b1 b2 o1 o2 m1 m2 hne (old _ _ _ h3 h1) (old _ _ _ h4 h2) h3 h4 e
    ord := fun ch l hl => (h.ord ch l hl).imp fun {b1 b2} hh o1 o2 m1 m2 h1 h2 h3 h4 e => hh o1 o2 m1 m2 (old _ _ _ h3 h1) (old _ _ _ h4 h2) h3 h4 e
    mem := h.mem }

def Mu.put (μ : Mu) (b : Nat) (m : Nat × Nat × Option (Nat × Nat)) : Mu := fun c => if c = b then some m else μ c
theorem Mu.put_same (μ : Mu) (b : Nat) (m : Nat × Nat × Option (Nat × Nat)) : μ.put b m b = some m := by simp [Mu.put]
theorem Mu.put_ne (μ : Mu) {b c : Nat} (m : Nat × Nat × Option (Nat × Nat)) (h : c ≠ b) : μ.put b m c = μ c := by simp [Mu.put, h]
theorem Mu.le_put {b : Nat} (m : Nat × Nat × Option (Nat × Nat)) (h : μ b = none) : μ.le (μ.put b m) := by
  intro c n hc
  by_cases e : c = b
  · subst e; rw [h] at hc; exact nomatch hc
  · rw [Mu.put_ne _ _ e]; exact hc

/-- a world with one block more -/
structure WNew (w w' : World) (o : Obj) : Prop where
  heap : w'.heap = w.heap.push o
  os : w'.os = w.os
  tape : w'.tape = w.tape
  output : w'.output = w.output

theorem WNew.get {w w' : World} {o : Obj} (h : WNew w w' o) {c : Nat} (hc : c < w.heap.size) : w'.heap[c]? = w.heap[c]? := by
  rw [h.heap, Array.getElem?_push]
  rw [if_neg (by omega)]
theorem WNew.last {w w' : World} {o : Obj} (h : WNew w w' o) : w'.heap[w.heap.size]? = some o := by
  rw [h.heap]; simp
theorem WNew.size {w w' : World} {o : Obj} (h : WNew w w' o) : w'.heap.size = w.heap.size + 1 := by
  rw [h.heap]; simp

/-- a block is born -/
theorem R.birth {A : AH} {w w' : World} (h : R P μ A w) {b : Nat} {o : AObj} {o' : Obj} {x : Option (Nat × Nat)} (hb : μ b = none) (ho : A.objs.get b = some o) (hw : WNew w w' o')
    (hr : ObjR P (μ.put b (w.heap.size, 0, x)) 0 x o o') : R P (μ.put b (w.heap.size, 0, x)) A w' := by
  have hle : μ.le (μ.put b (w.heap.size, 0, x)) := Mu.le_put _ hb
  have cases' : ∀ c m, (μ.put b (w.heap.size, 0, x)) c = some m → (c = b ∧ m = (w.heap.size, 0, x)) ∨ (c ≠ b ∧ μ c = some m) := by
    intro c m hc
    by_cases e : c = b
    · subst e; rw [Mu.put_same] at hc; injection hc with hc; exact .inl ⟨rfl, hc.symm⟩
    · rw [Mu.put_ne _ _ e] at hc; exact .inr ⟨e, hc⟩
  exact {
    obj := fun c p m h1 h2 => by
      rcases cases' c m h2 with ⟨rfl, rfl⟩ | ⟨hne, h3⟩
      · rw [ho] at h1; injection h1 with h1; subst h1
        exact ⟨o', hw.last, hr⟩
      · obtain ⟨p', h4, h5⟩ := h.obj c p m h1 h3
        exact ⟨p', by rw [hw.get (h.dom c m h3).2]; exact h4, h5.mono hle⟩
    dom := fun c m h1 => by
      rcases cases' c m h1 with ⟨rfl, rfl⟩ | ⟨hne, h3⟩
      · exact ⟨h.live _ _ ho, by rw [hw.size]; exact Nat.lt_succ_self _⟩
      · exact ⟨(h.dom c m h3).1, by rw [hw.size]; exact Nat.lt_succ_of_lt (h.dom c m h3).2⟩
    live := h.live
    glob := fun g hg => hle _ _ (h.glob g hg)
    sep := fun b1 b2 o1 o2 m1 m2 hne h1 h2 h3 h4 e => by
      rcases cases' b1 m1 h3 with ⟨rfl, rfl⟩ | ⟨hn1, k3⟩
      · rcases cases' b2 m2 h4 with ⟨rfl, rfl⟩ | ⟨hn2, k4⟩
        · exact absurd rfl hne
        · exact absurd (h.dom _ _ k4).2 (by rw [← e]; exact Nat.lt_irrefl _)
      · rcases cases' b2 m2 h4 with ⟨rfl, rfl⟩ | ⟨hn2, k4⟩
        · exact absurd (h.dom _ _ k3).2 (by rw [e]; exact Nat.lt_irrefl _)
        · exact h.sep b1 b2 o1 o2 m1 m2 hne h1 h2 k3 k4 e
    ord := fun ch l hl => (h.ord ch l hl).imp fun {b1 b2} hh o1 o2 m1 m2 h1 h2 h3 h4 e => by
      rcases cases' b1 m1 h3 with ⟨rfl, rfl⟩ | ⟨hn1, k3⟩
      · rcases cases' b2 m2 h4 with ⟨rfl, rfl⟩ | ⟨hn2, k4⟩
        · rw [h1] at h2; injection h2 with h2; subst h2; exact Nat.le_refl _
        · exact absurd (h.dom _ _ k4).2 (by rw [← e]; exact Nat.lt_irrefl _)
      · rcases cases' b2 m2 h4 with ⟨rfl, rfl⟩ | ⟨hn2, k4⟩
        · exact absurd (h.dom _ _ k3).2 (by rw [e]; exact Nat.lt_irrefl _)
        · exact hh o1 o2 m1 m2 h1 h2 k3 k4 e
    mem := fun ch l c hl hc e => by
      cases e2 : μ c with
      | none => exact h.mem ch l c hl hc e2
      | some m => rw [hle _ _ e2] at e; exact nomatch e }

theorem kept_birth {A : AH} {w w' : World} (h : R P μ A w) {b B : Nat} {o' : Obj} {x : Option (Nat × Nat)} (hb : μ b = none) (hB : B ≤ b) (hw : WNew w w' o') :
    Kept B μ (μ.put b (w.heap.size, 0, x)) A A w w' where
  le := Mu.le_put _ hb
  os := hw.os
  tape := hw.tape
  output := hw.output
  size := by rw [hw.size]; omega
  next := Nat.le_refl _
  block c hc _ := hw.get hc
  wr c hc := by
    rintro ⟨b1, m, o, h1, h2, h3, h4⟩
    by_cases e : b1 = b
    · subst e
      rw [Mu.put_same] at h1
      injection h1 with h1
      subst h1
      exact absurd h2 (by show ¬ w.heap.size = c; omega)
    · rw [Mu.put_ne _ _ e] at h1
      exact ⟨b1, m, o, h1, h2, h3, h4⟩
  unborn c hc hn := ⟨by rw [Mu.put_ne _ _ (by omega)]; exact hn, rfl⟩
  loops c L hc := ⟨L, by rw [hw.get]; exact hc; exact (Array.getElem?_eq_some_iff.1 hc).1, rfl⟩

theorem kept_newA (A : AH) (w : World) (o : AObj) (h : R P μ A w) : Kept A.next μ μ A (A.new o) w w where
  le := Mu.le_refl _
  os := rfl
  tape := rfl
  output := rfl
  size := Nat.le_refl _
  next := Nat.le_succ _
  block _ _ _ := rfl
  wr c hc := by
    rintro ⟨b1, m, o1, h1, h2, h3, h4⟩
    refine ⟨b1, m, o1, h1, h2, ?_, h4⟩
    unfold AH.new at h3
    rw [T.get_put, if_neg] at h3
    · exact h3
    · intro e
      subst e
      rw [h.next_none] at h1
      exact nomatch h1
  unborn b hb hn := ⟨hn, by unfold AH.new; exact T.get_put_ne _ _ (by omega)⟩
  loops c L hc := ⟨L, hc, rfl⟩

theorem get_new (A : AH) (o : AObj) : (A.new o).objs.get A.next = some o := by
  unfold AH.new; exact T.get_put_same _ _ _

/-- made and born at once -/
theorem R.made {A : AH} {w w' : World} (h : R P μ A w) {o : AObj} {o' : Obj} {x : Option (Nat × Nat)} (hw : WNew w w' o') (hr : ObjR P (μ.put A.next (w.heap.size, 0, x)) 0 x o o') :
    R P (μ.put A.next (w.heap.size, 0, x)) (A.new o) w' ∧ Kept A.next μ (μ.put A.next (w.heap.size, 0, x)) A (A.new o) w w' :=
  ⟨(h.newA o).birth h.next_none (get_new A o) hw hr, (kept_newA A w o h).trans (kept_birth (h.newA o) h.next_none (Nat.le_refl _) hw)⟩

/-! ### what is read -/
theorem R.cell {A : AH} {w : World} (h : R P μ A w) {b o : Nat} {v : AV} {b' d : Nat} {x : Option (Nat × Nat)} (hv : A.cell b o = some v) (hm : μ b = some (b', d, x)) :
    ∃ v', w.cell? ⟨b', d + o, none⟩ = some v' ∧ VR μ v v' ∧ oneA v = true := by
  obtain ⟨ob', ho, hv⟩ := ob_eq hv
  obtain ⟨n, c, hv, hor⟩ := onRd_eq hv
  obtain ⟨o', h1, h2⟩ := h.obj b _ _ ho hm
  obtain ⟨cs, e', fr, rfl, _, h6⟩ := h2.rd hor
  obtain ⟨hlt, h1v, v', hv', hr⟩ := h6 o v hv
  refine ⟨v', ?_, hr, h1v⟩
  unfold World.cell?
  simp only [h1]
  exact hv'

theorem trRange_get : ∀ {t : T AV} {n o : Nat} {l : List AV}, trRange t n o = some l → l.length = n ∧ ∀ (i : Nat) v, l[i]? = some v → t.get (o + i) = some v := by
  intro t n
  induction n with
  | zero =>
    intro o l h
    injection h with h
    subst h
    exact ⟨rfl, fun i v hv => by simp at hv⟩
  | succ n ih =>
    intro o l h
    obtain ⟨v, hv, h⟩ := ob_eq (show ob _ _ = _ from h)
    obtain ⟨vs, hvs, h⟩ := ob_eq h
    injection h with h
    subst h
    obtain ⟨h1, h2⟩ := ih hvs
    refine ⟨by simp [h1], fun i u hu => ?_⟩
    cases i with
    | zero => simp at hu; subst hu; exact hv
    | succ i =>
      simp at hu
      have := h2 i u hu
      rw [show o + (i + 1) = Nat.succ o + i from by omega]
      exact this

theorem range_get {c : Cells} {o n m : Nat} {l : List AV} (h : c.range o n m = some l) (hl : ∀ k, c = .lst k → k.length = m) :
    l.length = n ∧ ∀ (i : Nat) v, l[i]? = some v → c.get (o + i) = some v := by
  cases c with
  | tr t => exact trRange_get h
  | lst k =>
    have hk := hl k rfl
    replace h : Cells.lstRange k o n m = some l := h
    unfold Cells.lstRange at h
    rw [bif2_eq, ba_eq, nbeq_eq, nbeq_eq] at h
    split at h
    · rename_i hc
      simp at hc
      obtain ⟨rfl, rfl⟩ := hc
      injection h with h
      subst h
      exact ⟨hk, fun i v hv => by show nth _ _ = _; rw [nth_eq, Nat.zero_add]; exact hv⟩
    · obtain ⟨hle, h⟩ := ot_eq h
      rw [nle_eq, decide_eq_true_eq] at hle
      replace hle : o + n ≤ m := hle
      injection h with h
      rw [takeN_eq, dropN_eq] at h
      subst h
      refine ⟨by simp; omega, fun i v hv => ?_⟩
      show nth _ _ = _
      rw [nth_eq]
      rw [List.getElem?_take] at hv
      split at hv
      · rw [List.getElem?_drop] at hv; exact hv
      · exact nomatch hv

theorem R.cellsOf {A : AH} {w : World} (h : R P μ A w) {b o n : Nat} {l : List AV} {b' d : Nat} {x : Option (Nat × Nat)} (hv : A.cellsOf b o n = some l) (hm : μ b = some (b', d, x)) :
    ∃ l' : List Value, VRs μ l l' ∧ l.length = n ∧ (∀ v ∈ l, oneA v = true) ∧ ∀ i v', l'[i]? = some v' → w.cell? ⟨b', d + (o + i), none⟩ = some v' := by
  obtain ⟨ob', ho, hv⟩ := ob_eq hv
  obtain ⟨m, c, hv, hor⟩ := onRd_eq hv
  obtain ⟨o', h1, h2⟩ := h.obj b _ _ ho hm
  obtain ⟨cs, e', fr, rfl, h5, h6⟩ := h2.rd hor
  next =>
    obtain ⟨hlen, hget⟩ := range_get hv h5
    have key : ∀ (i : Nat) v, l[i]? = some v → oneA v = true ∧ ∃ v', w.cell? ⟨b', d + (o + i), none⟩ = some v' ∧ VR μ v v' := by
      intro i v hi
      obtain ⟨hlt, h1v, v', hv', hr⟩ := h6 _ _ (hget i v hi)
      refine ⟨h1v, v', ?_, hr⟩
      unfold World.cell?
      simp only [h1]
      exact hv'
    refine ⟨(List.range l.length).map fun i => (w.cell? ⟨b', d + (o + i), none⟩).getD undef, ?_, hlen, ?_, ?_⟩
    · refine All2.of_get (by simp) fun i a b' ha hb => ?_
      obtain ⟨_, v', hc, hr⟩ := key i a ha
      simp only [List.getElem?_map, List.getElem?_range (List.getElem?_eq_some_iff.1 ha).1, Option.map_some, Option.some.injEq] at hb
      rw [hc] at hb
      subst hb
      exact hr
    · intro v hv
      obtain ⟨i, hi⟩ := List.getElem?_of_mem hv
      exact (key i v hi).1
    · intro i v' hi
      have hlt : i < l.length := by
        have := (List.getElem?_eq_some_iff.1 hi).1
        simpa using this
      obtain ⟨_, u, hc, hr⟩ := key i l[i] (List.getElem?_eq_getElem hlt)
      simp only [List.getElem?_map, List.getElem?_range hlt, Option.map_some, Option.some.injEq] at hi
      rw [hc] at hi
      subst hi
      exact hc
end Go.Ev
end
