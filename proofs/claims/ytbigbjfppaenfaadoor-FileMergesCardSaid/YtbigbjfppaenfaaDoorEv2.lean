/- The evaluator Ev and its soundness, part 3 of 5: what it computes of a function, the model's machine computes on every tape. -/
import Derived.Test.YtbigbjfppaenfaaDoorEv1
import Derived.Laws.Cells
import Derived.Laws.BytesString
import Derived.Laws.IdiomCopy
section
/- Ev, part 19: operations that read. -/
namespace Go.Ev
set_option linter.unusedSectionVars false
variable [F : Facts] [E : Env]
set_option linter.unusedSimpArgs false
set_option linter.unusedVariables false
variable {P : Program} {μ : Mu}
variable {wr : WrT} {io : Opd → Option AV} {ρ : Operand → Value}

theorem run_load1 {w : World} {a : Addr} {v : Value} (h : w.cell? a = some v) : (load a).run P w = .ok v w := by
  unfold load
  simp only [Sem.run, h]
theorem run_loads {w : World} {b' k : Nat} {l : List Value} (h : ∀ (i : Nat) v, l[i]? = some v → w.cell? ⟨b', k + i, none⟩ = some v) :
    (loadCells ⟨b', k, none⟩ l.length).run P w = .ok l.toArray w := by
  refine run_loadCells_list w _ l fun j v hv => ?_
  have := h j v hv
  have e : (⟨b', k, none⟩ : Addr).add j = ⟨b', k + j, none⟩ := by unfold Addr.add; split <;> simp_all
  rw [e]; exact this

theorem noL_a {a : AOp} {q : LOp} (h : some (IOp.a a) = some (IOp.l q)) : False := by injection h with h; exact IOp.noConfusion h
theorem noL_p {a : POp} {q : LOp} (h : some (IOp.p a) = some (IOp.l q)) : False := by injection h with h; exact IOp.noConfusion h
theorem noL_w {a : WOp} {q : LOp} (h : some (IOp.w a) = some (IOp.l q)) : False := by injection h with h; exact IOp.noConfusion h
theorem inj_l {a b : LOp} (h : (some (IOp.l a)) = some (IOp.l b)) : a = b := by injection h with h; injection h

theorem VR.inv_map {b : Nat} {v : Value} (h : VR μ (.map b) v) : ∃ b' d x, μ b = some (b', d, x) ∧ v = .map (some b') := by
  cases h with
  | map h => exact ⟨_, _, _, h, rfl⟩
theorem VR.inv_nilm {v : Value} (h : VR μ .nilm v) : v = .map none := by cases h; rfl

theorem R.mapAt {A : AH} {w : World} (h : R P μ A w) {b : Nat} {es : List (AV × AV × Nat)} {c : Nat} {b' d : Nat} {x : Option (Nat × Nat)} (ho : A.obj b = some (.map es c)) (hm : μ b = some (b', d, x)) :
    ∃ es' : Array MapEntry, w.heap[b']? = some (.map es' c) ∧ All2 (fun a e => VR μ a.1 e.key ∧ VR μ a.2.1 e.val ∧ a.2.2 = e.born) es es'.toList := by
  obtain ⟨o', h1, h2⟩ := h.obj b _ _ ho hm
  cases o' with
  | map es' c' =>
    obtain ⟨rfl, h3⟩ := h2
    exact ⟨es', h1, h3⟩
  | _ => exact h2.elim
theorem run_getObj {w : World} {r : Nat} {o : Obj} (h : w.heap[r]? = some o) (hc : ∀ c e f, o ≠ .cells c e f) : (getObj r).run P w = .ok o w := by
  unfold getObj
  cases o <;> first | exact absurd rfl (hc _ _ _) | simp only [Sem.run, h]

/-- keys -/
theorem sameNow_ok {kt : TypeId} {ek : EK} {d : TypeDesc} (hd : und (ttOf P) kt = some d) (hk : ekD d = some ek) {x y : AV} {x' y' : Value} {b : Bool} (h : keyEq P (ttOf P) kt ek x y = some b) (hx : VR μ x x') (hy : VR μ y y') :
    ((∀ fs, d ≠ .struct fs) ∧ Instr.sameNow d x' y' = some b) ∨ ((∃ fs, d = .struct fs) ∧ Instr.sameNow d x' y' = none ∧ ∀ w, (Op.equal kt x' y').run P w = .ok b w) := by
  unfold keyEq at h
  split at h
  · obtain ⟨k, a, e, h1⟩ := onInt_eq h
    obtain ⟨k2, a2, e2, h2⟩ := onInt_eq h1
    subst e; subst e2
    obtain ⟨hkk, h3⟩ := ot_eq h2
    rw [keq_eq, decide_eq_true_eq] at hkk
    subst hkk
    injection h3 with h3
    have e1 := hx.inv_int; have e2 := hy.inv_int; subst e1; subst e2
    cases d <;> simp [ekD] at hk
    left
    exact ⟨(fun _ h => nomatch h), by simp [Instr.sameNow, ← h3, ieq_eq]⟩
  · obtain ⟨l, n, e, h1⟩ := onStr_eq h
    obtain ⟨l2, n2, e2, h2⟩ := onStr_eq h1
    subst e; subst e2
    injection h2 with h3
    obtain ⟨s, rfl, rfl, rfl⟩ := hx.inv_str
    obtain ⟨s2, rfl, rfl, rfl⟩ := hy.inv_str
    cases d <;> simp [ekD] at hk
    left
    rw [seqS_eq] at h3
    exact ⟨(fun _ h => nomatch h), by simp only [Instr.sameNow, bytes_beq]; rw [h3]⟩
  · obtain ⟨a, e, h1⟩ := onBool_eq h
    obtain ⟨a2, e2, h2⟩ := onBool_eq h1
    subst e; subst e2
    injection h2 with h3
    have e1 := hx.inv_bool; have e2 := hy.inv_bool; subst e1; subst e2
    cases d <;> simp [ekD] at hk
    left
    rw [beqB_eq] at h3
    exact ⟨(fun _ h => nomatch h), by simp only [Instr.sameNow]; rw [h3]⟩
  · obtain ⟨cs, e, h1⟩ := onAgg_eq h
    obtain ⟨cs2, e2, h3⟩ := onAgg_eq h1
    subst e; subst e2
    cases d <;> simp [ekD] at hk
    right
    refine ⟨⟨_, rfl⟩, ?_, fun w => equal_ok _ _ _ _ _ _ _ w h3 hx hy⟩
    obtain ⟨c1, rfl, _, _⟩ := hx.inv_agg
    obtain ⟨c2, rfl, _, _⟩ := hy.inv_agg
    rfl
  · exact nomatch h

/-- what was found -/
def FoundR (μ : Mu) (es' : List MapEntry) (off : Nat) : Option (Nat × AV × AV) → Option (Nat × Value) → Prop
  | none, none => True
  | some (i, k, v), some (i', v') => i = i' ∧ VR μ v v' ∧ off ≤ i ∧ ∃ e, es'[i - off]? = some e ∧ VR μ k e.key ∧ e.val = v'
  | _, _ => False

theorem findK_ok {kt : TypeId} {ek : EK} {d : TypeDesc} (hd : und (ttOf P) kt = some d) (hk : ekD d = some ek) {x : AV} {x' : Value} (hx : VR μ x x') (w : World) :
    ∀ {es : List (AV × AV × Nat)} {es' : List MapEntry} {i : Nat} {r : Option (Nat × AV × AV)}, findK1 P (ttOf P) kt ek x es i = some r → All2 (fun a e => VR μ a.1 e.key ∧ VR μ a.2.1 e.val ∧ a.2.2 = e.born) es es' →
      ∃ r', FoundR μ es' i r r' ∧ (((∀ fs, d ≠ .struct fs) ∧ Instr.findNow d x' es' i = some r') ∨ ((∃ fs, d = .struct fs) ∧ (es' ≠ [] → Instr.findNow d x' es' i = none) ∧ (es' = [] → Instr.findNow d x' es' i = some none ∧ r' = none) ∧ (Instr.findAsking kt x' es' i).run P w = .ok r' w)) := by
  intro es
  induction es with
  | nil =>
    intro es' i r h hes
    cases hes
    injection h with h
    subst h
    refine ⟨none, trivial, ?_⟩
    by_cases hs : ∃ fs, d = .struct fs
    · exact .inr ⟨hs, fun h => absurd rfl h, fun _ => ⟨rfl, rfl⟩, rfl⟩
    · exact .inl ⟨fun fs e => hs ⟨fs, e⟩, rfl⟩
  | cons e es ih =>
    intro es' i r h hes
    cases hes with
    | cons he hes =>
    rename_i e' es'
    obtain ⟨b, hb, h⟩ := ob_eq (show ob _ _ = _ from h)
    have hsame := sameNow_ok hd hk hb hx he.1
    rw [bif2_eq] at h
    split at h
    · rename_i hbt
      subst hbt
      injection h with h
      subst h
      refine ⟨some (i, e'.val), ⟨rfl, he.2.1, Nat.le_refl _, e', by simp, he.1, rfl⟩, ?_⟩
      rcases hsame with ⟨hn, hs⟩ | ⟨hs, h1, h2⟩
      · left
        exact ⟨hn, by simp only [Instr.findNow, hs]⟩
      · right
        refine ⟨hs, fun _ => by simp only [Instr.findNow, h1], (fun h => nomatch h), ?_⟩
        unfold Instr.findAsking
        rw [run_ok (h2 w)]; rfl
    · rename_i hbf
      have hbf' : b = false := by simpa using hbf
      subst hbf'
      obtain ⟨r', hf, hr⟩ := ih h hes
      have hf' : FoundR μ (e' :: es') i r r' := by
        cases r with
        | none => cases r' with
          | none => trivial
          | some _ => exact hf.elim
        | some q => cases r' with
          | none => exact hf.elim
          | some q' =>
            obtain ⟨h1, h2, h3, e1, h4, h5, h6⟩ := hf
            refine ⟨h1, h2, by omega, e1, ?_, h5, h6⟩
            have : q.1 - i = (q.1 - (i + 1)) + 1 := by omega
            rw [this]; simpa using h4
      refine ⟨r', hf', ?_⟩
      rcases hsame with ⟨hn, hs⟩ | ⟨hs, h1, h2⟩
      · rcases hr with ⟨_, hr⟩ | ⟨⟨fs, hst⟩, _⟩
        · left
          exact ⟨hn, by simp only [Instr.findNow, hs]; exact hr⟩
        · exact absurd hst (hn fs)
      · rcases hr with ⟨hn, _⟩ | ⟨_, _, _, hr⟩
        · obtain ⟨fs, hst⟩ := hs
          exact absurd hst (hn fs)
        · right
          refine ⟨hs, fun _ => by simp only [Instr.findNow, h1], (fun h => nomatch h), ?_⟩
          unfold Instr.findAsking
          rw [run_ok (h2 w)]
          exact hr

theorem findKey_ok {kt : TypeId} {x : AV} {x' : Value} (hx : VR μ x x') (w : World) {es : List (AV × AV × Nat)} {es' : List MapEntry} {r : Option (Nat × AV × AV)} (h : findK P (ttOf P) kt x es 0 = some r)
    (hes : All2 (fun a e => VR μ a.1 e.key ∧ VR μ a.2.1 e.val ∧ a.2.2 = e.born) es es') : ∃ r', FoundR μ es' 0 r r' ∧ (Instr.findKey kt x' es').run P w = .ok r' w := by
  obtain ⟨ek, hek, h⟩ := ob_eq h
  obtain ⟨d, hd, hk⟩ := ekOf_eq hek
  obtain ⟨r', hf, hr⟩ := findK_ok hd hk hx w h hes
  refine ⟨r', hf, ?_⟩
  unfold Instr.findKey
  rw [run_ok (run_und hd w)]
  rcases hr with ⟨_, hr⟩ | ⟨_, h1, h2, hr⟩
  · simp only [hr]; rfl
  · cases es' with
    | nil =>
      obtain ⟨h3, h4⟩ := h2 rfl
      simp only [h3, h4]; rfl
    | cons e es' =>
      simp only [h1 (by simp)]
      exact hr

theorem bytesSum_ok : ∀ {l : List AV} {l' : List Value} {n : Nat}, bytesSum l = some n → VRs μ l l' → ∃ bs : List UInt8, l' = bs.map (fun b => Value.int .u8 (b.toNat : Int)) ∧ bytesNum bs = n ∧ bs.length = l.length := by
  intro l
  induction l with
  | nil =>
    intro l' n h hr
    cases hr
    injection h with h
    subst h
    exact ⟨[], rfl, rfl, rfl⟩
  | cons v l ih =>
    intro l' n h hr
    cases hr with
    | cons hv hl =>
    unfold bytesSum at h
    rw [lrec_cons] at h
    split at h
    · rename_i m
      obtain ⟨k, b, e, h1⟩ := onNat_eq h
      injection e with e1 e2
      subst e1; subst e2
      obtain ⟨hlt, h2⟩ := ot_eq h1
      rw [nlt_eq, decide_eq_true_eq] at hlt
      obtain ⟨n', hn, h3⟩ := ob_eq h2
      injection h3 with h3
      obtain ⟨bs, h4, h5, h6⟩ := ih hn hl
      have e := hv.inv_int
      refine ⟨UInt8.ofNat b :: bs, ?_, ?_, by simp [h6]⟩
      · rw [e, h4]
        have : (UInt8.ofNat b).toNat = b := by simp; omega
        simp [this]
      · rw [bytesNum_cons, h5, ← h3]
        have : (UInt8.ofNat b).toNat = b := by simp; omega
        rw [this]; rfl
    · exact nomatch h

theorem fold_push : ∀ (bs : List UInt8) (s : ByteArray), (bs.map fun b => (b.toNat : Int)).foldl (fun r n => r.push (UInt8.ofNat n.toNat)) s = ⟨s.data ++ bs.toArray⟩ := by
  intro bs
  induction bs with
  | nil => intro s; simp
  | cons b bs ih =>
    intro s
    rw [List.map_cons, List.foldl_cons, ih]
    congr 1
    have e : UInt8.ofNat ((b.toNat : Int)).toNat = b := by simp
    rw [e]
    apply Array.ext'
    simp [ByteArray.push]
theorem run_shape {w : World} (r : Nat) : (shape r).run P w = .ok (w.shape? r) w := rfl
theorem shape_cells {w : World} {b' : Nat} {cs : Array Value} {e : TypeId} {fr : Nat × Nat} (h : w.heap[b']? = some (.cells cs e fr)) : w.shape? b' = some (e, cs.size) := by
  unfold World.shape?
  rw [h]
theorem run_viewAt {w : World} {b' : Nat} {cs : Array Value} {e : TypeId} {fr : Nat × Nat} (h : w.heap[b']? = some (.cells cs e fr)) : (viewAt b').run P w = .ok none w := by
  unfold viewAt
  rw [run_ok (run_shape b'), shape_cells h]
  rfl
theorem run_seenAt {w : World} {a : Addr} {cs : Array Value} {e : TypeId} {fr : Nat × Nat} (h : w.heap[a.block]? = some (.cells cs e fr)) : (Conv.seenAt a).run P w = .ok a w := by
  unfold Conv.seenAt
  rw [run_ok (run_viewAt h)]
  rfl
theorem run_cellsIn {w : World} {b' : Nat} {cs : Array Value} {e : TypeId} {fr : Nat × Nat} (h : w.heap[b']? = some (.cells cs e fr)) : (cellsIn b').run P w = .ok (some cs.size) w := by
  unfold cellsIn
  rw [run_ok (run_shape b'), shape_cells h]
  rfl
theorem toUn_ok {A : AH} {w : World} (hR : R P μ A w) {s d e : TypeId} {sz : Nat} {u v : AV} {x' : Value} (hs : und (ttOf P) s = some (.pointer e)) (hd : und (ttOf P) d = some .unsafePointer) (hsz : tsize (ttOf P) e = some sz) (h0 : 0 < sz)
    (he : toUn1 A u = some v) (hr : VR μ u x') : ∃ v', (convert s d x').run P w = .ok v' w ∧ VR μ v v' := by
  have hsz0 : ¬ sz = 0 := by omega
  unfold toUn1 at he
  split at he
  · injection he with he
    have ex : x' = .pointer none := by cases hr; rfl
    subst ex
    refine ⟨_, ?_, by rw [← he]; exact .nilp⟩
    unfold convert
    rw [run_ok (run_und hs w), run_ok (run_und hd w)]
    show (Conv.unsafePointer s d (.pointer none)).run P w = _
    unfold Conv.unsafePointer
    rw [run_ok (run_und hs w), run_ok (run_und hd w)]
    rfl
  · rename_i bb o
    obtain ⟨ob', ho, he2⟩ := ob_eq he
    obtain ⟨n, c, e2, ex, md, fz, ch, rfl, he3⟩ := onCells_eq he2
    obtain ⟨hlt, he4⟩ := ot_eq he3
    rw [nlt_eq, decide_eq_true_eq] at hlt
    injection he4 with he4
    obtain ⟨b', dd, xx, hm, ex'⟩ := hr.inv_ptr
    obtain ⟨o', h1, h2⟩ := hR.obj _ _ _ ho hm
    cases o' with
    | cells cs e' fr =>
      obtain ⟨_, _, hsize, _⟩ := h2
      subst ex'
      refine ⟨_, ?_, by rw [← he4]; exact .ptr hm⟩
      unfold convert
      rw [run_ok (run_und hs w), run_ok (run_und hd w)]
      show (Conv.unsafePointer s d (.pointer (some ⟨b', _, none⟩))).run P w = _
      unfold Conv.unsafePointer
      rw [run_ok (run_und hs w), run_ok (run_und hd w)]
      dsimp only
      rw [run_ok (run_seenAt (a := ⟨b', _, none⟩) h1), run_ok (run_cellsIn h1)]
      dsimp only
      rw [run_ok (run_size hsz w)]
      have hsize' : dd + n ≤ cs.size := hsize
      have hn : ¬ (cs.size ≤ dd + o) := by omega
      simp [hsz0, hn]
    | _ => exact h2.elim
  · exact nomatch he
theorem fromUn_ok {A : AH} {w : World} (hR : R P μ A w) {s d e : TypeId} {sz : Nat} {u v : AV} {x' : Value} (hs : und (ttOf P) s = some .unsafePointer) (hd : und (ttOf P) d = some (.pointer e)) (hsz : tsize (ttOf P) e = some sz) (h0 : 0 < sz)
    (he : fromUn1 P A e u = some v) (hr : VR μ u x') : ∃ v', (convert s d x').run P w = .ok v' w ∧ VR μ v v' := by
  have hsz0 : ¬ sz = 0 := by omega
  unfold fromUn1 at he
  split at he
  · injection he with he
    have ex : x' = .pointer none := by cases hr; rfl
    subst ex
    refine ⟨_, ?_, by rw [← he]; exact .nilp⟩
    unfold convert
    rw [run_ok (run_und hs w), run_ok (run_und hd w)]
    show (Conv.unsafePointer s d (.pointer none)).run P w = _
    unfold Conv.unsafePointer
    rw [run_ok (run_und hs w), run_ok (run_und hd w)]
    rfl
  · rename_i bb o
    obtain ⟨ob', ho, he2⟩ := ob_eq he
    obtain ⟨n, c, e2, ex, md, fz, ch, rfl, he3⟩ := onCells_eq he2
    obtain ⟨hc, he4⟩ := ot_eq he3
    rw [ba_eq, Bool.and_eq_true] at hc
    obtain ⟨hex, hlies⟩ := hc
    injection he4 with he4
    obtain ⟨b', dd, xx, hm, ex'⟩ := hr.inv_ptr
    obtain ⟨o', h1, h2⟩ := hR.obj _ _ _ ho hm
    cases o' with
    | cells cs e' fr =>
      obtain ⟨_, hee, hsize, ⟨hd0, hn⟩, _⟩ := h2
      have hn := hn hex
      subst ex'
      have hdd0 : dd = 0 := hd0
      subst hdd0
      subst hee
      refine ⟨_, ?_, by rw [← he4]; exact .ptr hm⟩
      unfold convert
      rw [run_ok (run_und hs w), run_ok (run_und hd w)]
      show (Conv.unsafePointer s d (.pointer (some ⟨b', _, none⟩))).run P w = _
      unfold Conv.unsafePointer
      rw [run_ok (run_und hs w), run_ok (run_und hd w)]
      dsimp only
      rw [run_ok (run_seenAt (a := ⟨b', _, none⟩) h1), run_ok (run_size hsz w)]
      have hvar : (variablesAt ⟨b', 0 + o, none⟩ e 1).run P w = .ok true w := by
        unfold variablesAt
        rw [run_ok (show program.run P w = .ok P w from rfl), run_ok (run_shape b'), shape_cells h1]
        show Result.ok (liesAt P P.depth e2 (cs.size / P.cellsOf e2) (0 + o) e 1) w = _
        rw [hn, Nat.zero_add, hlies]
      simp only [hsz0, false_or]
      rw [run_ok hvar]
      rfl
    | _ => exact h2.elim
  · exact nomatch he

theorem run_bytesToStr {w : World} {a : Addr} {c : Nat} {bs : List UInt8} (h : (loadCells a bs.length).run P w = .ok (bs.map (fun b => Value.int .u8 (b.toNat : Int))).toArray w) :
    (Conv.bytesToString (.slice (some a) bs.length c)).run P w = .ok (.string ⟨bs.toArray⟩) w := by
  have := run_bytesToString (P := P) w a bs.length c (bs.map fun b => (b.toNat : Int)) (by rw [h, List.map_map]; rfl)
  rw [this, fold_push]
  congr 3
  simp

theorem strOf_ok {A : AH} {w : World} (hR : R P μ A w) {b o len : Nat} {v : AV} (h : strOf A b o len = some v) {b' d : Nat} {x : Option (Nat × Nat)} (hm : μ b = some (b', d, x)) :
    ∃ bs : List UInt8, bs.length = len ∧ VR μ v (.string ⟨bs.toArray⟩) ∧ (loadCells ⟨b', d + o, none⟩ len).run P w = .ok (bs.map (fun b => Value.int .u8 (b.toNat : Int))).toArray w ∧
      (∀ (i : Nat) u, bs[i]? = some u → w.cell? ⟨b', d + o + i, none⟩ = some (.int .u8 (u.toNat : Int))) := by
  obtain ⟨l, hl, h⟩ := ob_eq h
  obtain ⟨n, hn, h⟩ := ob_eq h
  injection h with h
  obtain ⟨l', hr, hlen, _, hcell⟩ := hR.cellsOf hl hm
  obtain ⟨bs, h1, h2, h3⟩ := bytesSum_ok hn hr
  have hcell' : ∀ (i : Nat) v', l'[i]? = some v' → w.cell? ⟨b', d + o + i, none⟩ = some v' := fun i v' hi => by
    rw [Nat.add_assoc]; exact hcell i v' hi
  refine ⟨bs, by rw [h3, hlen], ?_, ?_, ?_⟩
  · rw [← h]
    exact VR.str_of (by simp; omega) (by simp [h2])
  · have := run_loads (P := P) hcell'
    rw [← hr.length, hlen] at this
    rw [this, h1]
  · intro i u hu
    refine hcell' i _ ?_
    rw [h1, List.getElem?_map, hu]; rfl

section
variable (hio : IOR μ wr io ρ)
include hio

theorem load_ok {A : AH} {w : World} (hR : R P μ A w) (o : Oper) {q : LOp} {v : AV} (hc : compOp0 P (ttOf P) wr o.op = some (.l q)) (he : evL io P (ttOf P) A q = some v) : Gives P μ (execOp ρ o) w v := by
  cases ho : o.op with
  | load t a =>
    rw [ho] at hc
    obtain ⟨a', ha, hc⟩ := ob_eq hc
    obtain ⟨g, hg, hc⟩ := ob_eq hc
    rw [bif2_eq] at hc
    split at hc
    · rename_i hgt
      obtain ⟨n, hn, hc⟩ := ob_eq hc
      have hq := (inj_l hc).symm
      subst hq
      obtain ⟨u, hu, he⟩ := ob_eq he
      obtain ⟨b, o', e, he⟩ := onPtr_eq he
      subst e
      obtain ⟨cs, hcs, he⟩ := ob_eq he
      injection he with hev
      obtain ⟨b', d, x, hm, ex⟩ := (hio _ _ _ ha hu).inv_ptr
      obtain ⟨l', hr, hlen, h1, hcell⟩ := hR.cellsOf hcs hm
      refine ⟨.agg l'.toArray, ?_, by rw [← hev]; exact .agg (by simpa using hr) h1⟩
      unfold execOp; rw [ho]
      refine run_v ?_
      rw [ex]
      show (loadVar t ⟨b', d + o', none⟩).run P w = _
      unfold loadVar
      rw [run_ok (run_agg hg w), hgt]
      simp only [if_true]
      rw [run_ok (run_size hn w)]
      have := run_loads (P := P) (w := w) (b' := b') (k := d + o') (l := l') (fun i v' hi => by rw [Nat.add_assoc]; exact hcell i v' hi)
      rw [← hr.length, hlen] at this
      rw [run_ok this]; rfl
    · rename_i hgf
      have hgf' : g = false := by simpa using hgf
      subst hgf'
      have hq := (inj_l hc).symm
      subst hq
      obtain ⟨u, hu, he⟩ := ob_eq he
      obtain ⟨b, o', e, he⟩ := onPtr_eq he
      subst e
      obtain ⟨b', d, x, hm, ex⟩ := (hio _ _ _ ha hu).inv_ptr
      obtain ⟨v', hcell, hr, _⟩ := hR.cell he hm
      refine ⟨v', ?_, hr⟩
      unfold execOp; rw [ho]
      refine run_v ?_
      rw [ex]
      show (loadVar t ⟨b', d + o', none⟩).run P w = _
      unfold loadVar
      rw [run_ok (run_agg hg w)]
      simp only [Bool.false_eq_true, if_false]
      exact run_load1 hcell
  | lookup t x k ok =>
    rw [ho] at hc
    obtain ⟨x', hx, hc⟩ := ob_eq hc
    obtain ⟨k', hk, hc⟩ := ob_eq hc
    obtain ⟨d, hd, hc⟩ := ob_eq hc
    unfold kLookup1 at hc
    cases d with
    | map kt e =>
      obtain ⟨z, hz, hc⟩ := ob_eq hc
      have hq := (inj_l hc).symm
      subst hq
      obtain ⟨kv, hkv, he⟩ := ob_eq he
      obtain ⟨mv, hmv, he⟩ := ob_eq he
      have hkr := hio _ _ _ hk hkv
      have hmr := hio _ _ _ hx hmv
      obtain ⟨z', hz', hzr⟩ := zeroOf_run (P := P) hz μ w
      have fin : ∀ (es : List (AV × AV × Nat)) (es' : Array MapEntry), look1 P (ttOf P) kt z ok kv es = some v → All2 (fun a e => VR μ a.1 e.key ∧ VR μ a.2.1 e.val ∧ a.2.2 = e.born) es es'.toList →
          ∃ v', (do Instr.checkKey es'.isEmpty 10000 kt (ρ k)
                    let (v, ok') ← match ← Instr.findKey kt (ρ k) es'.toList with
                      | some (_, v) => pure (v, true)
                      | none => pure (← zeroValue e, false)
                    pure (if ok then .tuple #[v, .bool ok'] else v) : Sem Value).run P w = .ok v' w ∧ VR μ v v' := by
        intro es es' hl hes
        obtain ⟨hck, hl⟩ := ot_eq hl
        obtain ⟨r, hr, hl⟩ := ob_eq hl
        obtain ⟨r', hf, hrun⟩ := findKey_ok (P := P) hkr w hr hes
        rw [run_ok (key_ok es'.isEmpty 10000 kt kv (ρ k) w hck hkr)]
        rw [run_ok hrun]
        have okT : ∀ {a : AV} {a' : Value} (b : Bool), VR μ a a' → VR μ (okTup a b) (.tuple #[a', .bool b]) := fun b h => .tup (.cons h (.cons (.bool b) .nil))
        cases r with
        | none =>
          cases r' with
          | some _ => exact hf.elim
          | none =>
            injection hl with hl
            simp only
            rw [bif2_eq] at hl
            refine ⟨if ok then .tuple #[z', .bool false] else z', ?_, ?_⟩
            · rw [run_bind, hz']; rfl
            · rw [← hl]; cases ok
              · exact hzr
              · exact okT false hzr
        | some q =>
          obtain ⟨i, kk, vv⟩ := q
          cases r' with
          | none => exact hf.elim
          | some q' =>
            obtain ⟨i', v'⟩ := q'
            obtain ⟨_, hvr, _⟩ := hf
            injection hl with hl
            rw [bif2_eq] at hl
            refine ⟨if ok then .tuple #[v', .bool true] else v', rfl, ?_⟩
            rw [← hl]; cases ok
            · exact hvr
            · exact okT true hvr
      unfold Gives
      have hexec : (execOp ρ o).run P w = (do pure (.value (← Instr.lookup t (ρ x) (ρ k) ok)) : Sem Next).run P w := by unfold execOp; rw [ho]
      rw [hexec]
      rcases onMap_eq he with ⟨b, e1, he2⟩ | ⟨e1, he2⟩
      · subst e1
        obtain ⟨obj, hobj, he3⟩ := ob_eq he2
        obtain ⟨es, c, e2, he4⟩ := onMapO_eq he3
        subst e2
        obtain ⟨b', d', xx, hm, ex⟩ := hmr.inv_map
        obtain ⟨es', hheap, hes⟩ := hR.mapAt hobj hm
        obtain ⟨v', h1, h2⟩ := fin es es' he4 hes
        refine ⟨v', run_v ?_, h2⟩
        unfold Instr.lookup
        rw [run_ok (run_und hd w), ex]
        show (getObj b' >>= fun o => _).run P w = _
        rw [run_ok (run_getObj hheap (fun _ _ _ h => nomatch h))]
        exact h1
      · subst e1
        have ex := hmr.inv_nilm
        obtain ⟨v', h1, h2⟩ := fin [] #[] he2 .nil
        refine ⟨v', run_v ?_, h2⟩
        unfold Instr.lookup
        rw [run_ok (run_und hd w), ex]
        exact h1
    | _ => exact nomatch hc
  | convert s d x =>
    rw [ho] at hc
    obtain ⟨a, ha, hc⟩ := ob_eq hc
    obtain ⟨ds, hds, hc⟩ := ob_eq hc
    obtain ⟨dd, hdd, hc⟩ := ob_eq hc
    unfold kConv1 at hc
    split at hc
    · exact (noL_p hc).elim
    · exact (noL_p hc).elim
    · exact (noL_p hc).elim
    · obtain ⟨_, _, hc⟩ := ob_eq hc
      obtain ⟨_, hc⟩ := ot_eq hc
      obtain ⟨_, _, hc⟩ := ob_eq hc
      obtain ⟨_, hc⟩ := ot_eq hc
      exact (noL_a hc).elim
    · rename_i e
      obtain ⟨de, hde, hc⟩ := ob_eq hc
      obtain ⟨hb, hc⟩ := ot_eq hc
      have hq := (inj_l hc).symm
      subst hq
      have hde' : de = .int .u8 := by
        unfold isByte at hb
        split at hb
        · rfl
        · exact nomatch hb
      subst hde'
      obtain ⟨u, hu, he⟩ := ob_eq he
      have hr := hio _ _ _ ha hu
      have hexec : (execOp ρ o).run P w = (do pure (.value (← convert s d (ρ x))) : Sem Next).run P w := by unfold execOp; rw [ho]
      unfold Gives
      rw [hexec]
      have hu1 := und_eq hds
      have hu2 := und_eq hdd
      have hu3 := und_eq hde
      rcases onSl_eq he with ⟨b, o', len, cap, e1, he2⟩ | ⟨e1, he2⟩
      · subst e1
        obtain ⟨b', d', x', hm, hv⟩ := hr.inv_sl
        rcases hv with ⟨cap', ev, _, _⟩ | ⟨o2, cap', _, _, h0, _, ev⟩
        · obtain ⟨bs, h1, h2, h3, _⟩ := strOf_ok hR he2 hm
          refine ⟨_, run_v ?_, h2⟩
          rw [ev, run_convert_bytes_string w s d _ _ _ _ hu1 hu3 hu2, ← h1]
          exact run_bytesToStr (by rw [h1]; exact h3)
        · subst h0
          obtain ⟨l, hl, h⟩ := ob_eq he2
          obtain ⟨n, hn, h⟩ := ob_eq h
          injection h with hev
          obtain ⟨l', hr', hlen, _, hcell⟩ := hR.cellsOf hl hm
          have hl0 : l = [] := List.eq_nil_of_length_eq_zero hlen
          subst hl0
          injection hn with hn
          refine ⟨.string .empty, run_v ?_, by rw [← hev, ← hn]; exact VR.str_of rfl rfl⟩
          rw [ev, run_convert_bytes_string w s d _ _ _ _ hu1 hu3 hu2]
          rfl
      · subst e1
        injection he2 with hev
        have ev := hr.inv_nils
        refine ⟨.string .empty, run_v ?_, by rw [← hev]; exact VR.str_of rfl rfl⟩
        rw [ev, run_convert_bytes_string w s d _ _ _ _ hu1 hu3 hu2]
        rfl
    · rename_i e
      obtain ⟨sz, hsz, hc⟩ := ob_eq hc
      obtain ⟨hs0, hc⟩ := ot_eq hc
      rw [nlt_eq, decide_eq_true_eq] at hs0
      have hq := (inj_l hc).symm
      subst hq
      obtain ⟨u, hu, he⟩ := ob_eq he
      have hr := hio _ _ _ ha hu
      have hexec : (execOp ρ o).run P w = (do pure (.value (← convert s d (ρ x))) : Sem Next).run P w := by unfold execOp; rw [ho]
      unfold Gives
      rw [hexec]
      obtain ⟨v', h1, h2⟩ := toUn_ok hR hds hdd hsz hs0 he hr
      exact ⟨_, run_v h1, h2⟩
    · rename_i e
      obtain ⟨sz, hsz, hc⟩ := ob_eq hc
      obtain ⟨hs0, hc⟩ := ot_eq hc
      rw [nlt_eq, decide_eq_true_eq] at hs0
      have hq := (inj_l hc).symm
      subst hq
      obtain ⟨u, hu, he⟩ := ob_eq he
      have hr := hio _ _ _ ha hu
      have hexec : (execOp ρ o).run P w = (do pure (.value (← convert s d (ρ x))) : Sem Next).run P w := by unfold execOp; rw [ho]
      unfold Gives
      rw [hexec]
      obtain ⟨v', h1, h2⟩ := fromUn_ok hR hds hdd hsz hs0 he hr
      exact ⟨_, run_v h1, h2⟩
    · exact nomatch hc
  | call c =>
    rw [ho] at hc
    obtain ⟨as, has, hc⟩ := ob_eq hc
    unfold kCallee at hc
    split at hc
    · exact (noL_w hc).elim
    · obtain ⟨f, _, hc⟩ := ob_eq hc
      exact (noL_w hc).elim
    · obtain ⟨f, _, hc⟩ := ob_eq hc
      exact (noL_w hc).elim
    · rename_i b hb
      have hrun := call_builtin (P := P) (ρ := ρ) ho hb w
      unfold Gives
      rw [hrun]
      unfold kBuiltin at hc
      split at hc
      · exact (noL_p hc).elim
      · split at hc
        · rename_i x t hts
          obtain ⟨d, hd, hc⟩ := ob_eq hc
          obtain ⟨ox, hox, hxx⟩ := opnds_one has
          have ea := one_arr hox
          have et := one_arr hts
          rw [ea, et, map_one]
          unfold kBuiltin1 at hc
          split at hc
          · unfold kLen at hc
            cases d with
            | map kt e =>
              have hq := (inj_l hc).symm
              subst hq
              obtain ⟨u, hu, he⟩ := ob_eq he
              have hr := hio _ _ _ hxx hu
              rcases onMap_eq he with ⟨bb, e1, he2⟩ | ⟨e1, he2⟩
              · subst e1
                obtain ⟨obj, hobj, he3⟩ := ob_eq he2
                obtain ⟨es, cl, e2, he4⟩ := onMapO_eq he3
                subst e2
                injection he4 with hev
                obtain ⟨b', d', xx, hm, ex⟩ := hr.inv_map
                obtain ⟨es', hheap, hes⟩ := hR.mapAt hobj hm
                refine ⟨goInt es'.size, run_v ?_, ?_⟩
                · rw [ex]
                  show (underlying t >>= fun d => _).run P w = _
                  rw [run_ok (run_und hd w)]
                  show (getObj b' >>= fun o => _).run P w = _
                  rw [run_ok (run_getObj hheap (fun _ _ _ h => nomatch h))]
                  rfl
                · rw [← hev, len_eq, hes.length]
                  show VR μ (.int .i64 (Int.ofNat es'.toList.length)) (goInt es'.size)
                  rw [Array.length_toList]
                  exact .int _ _
              · subst e1
                injection he2 with hev
                have ex := hr.inv_nilm
                refine ⟨goInt 0, run_v ?_, by rw [← hev]; exact .int _ _⟩
                rw [ex]
                show (underlying t >>= fun d => _).run P w = _
                rw [run_ok (run_und hd w)]; rfl
            | string => exact (noL_p hc).elim
            | slice _ => exact (noL_p hc).elim
            | array _ _ => exact (noL_p hc).elim
            | _ => exact nomatch hc
          · obtain ⟨_, hc⟩ := ot_eq hc
            exact (noL_p hc).elim
          · exfalso
            unfold kClear1 at hc
            cases d with
            | slice e =>
              obtain ⟨z, _, hc⟩ := ob_eq hc
              obtain ⟨n, _, hc⟩ := ob_eq hc
              obtain ⟨_, hc⟩ := ot_eq hc
              exact noL_w hc
            | _ => exact nomatch hc
          · exact (noL_p hc).elim
          · exact nomatch hc
        · rename_i x y t u hts
          obtain ⟨d, hd, hc⟩ := ob_eq hc
          obtain ⟨d2, hd2, hc⟩ := ob_eq hc
          exfalso
          unfold kBuiltin2 at hc
          split at hc
          · unfold kAppend1 at hc
            split at hc
            · obtain ⟨i, _, hc⟩ := ob_eq hc
              obtain ⟨z, _, hc⟩ := ob_eq hc
              obtain ⟨_, hc⟩ := ot_eq hc
              exact noL_w hc
            · obtain ⟨i, _, hc⟩ := ob_eq hc
              obtain ⟨z, _, hc⟩ := ob_eq hc
              obtain ⟨_, hc⟩ := ot_eq hc
              exact noL_w hc
            · exact nomatch hc
          · unfold kCopy1 at hc
            split at hc
            · obtain ⟨i, _, hc⟩ := ob_eq hc
              obtain ⟨_, hc⟩ := ot_eq hc
              exact noL_w hc
            · exact nomatch hc
          · unfold kDelete1 at hc
            split at hc
            · exact noL_w hc
            · exact nomatch hc
          · unfold kUnsafeStr1 at hc
            split at hc
            · obtain ⟨i, _, hc⟩ := ob_eq hc
              obtain ⟨_, hc⟩ := ot_eq hc
              exact noL_w hc
            · exact nomatch hc
          · exact nomatch hc
        · exact nomatch hc
  | move x =>
    rw [ho] at hc
    obtain ⟨_, _, hc⟩ := ob_eq hc
    exact (noL_p hc).elim
  | assign x =>
    rw [ho] at hc
    obtain ⟨_, _, hc⟩ := ob_eq hc
    exact (noL_p hc).elim
  | pick c a b =>
    rw [ho] at hc
    obtain ⟨_, _, hc⟩ := ob_eq hc
    obtain ⟨_, _, hc⟩ := ob_eq hc
    obtain ⟨_, _, hc⟩ := ob_eq hc
    exact (noL_p hc).elim
  | nilCheck x =>
    rw [ho] at hc
    obtain ⟨_, _, hc⟩ := ob_eq hc
    exact (noL_p hc).elim
  | unOp op t x =>
    rw [ho] at hc
    obtain ⟨_, _, hc⟩ := ob_eq hc
    exact (noL_p hc).elim
  | extract x i =>
    rw [ho] at hc
    obtain ⟨_, _, hc⟩ := ob_eq hc
    exact (noL_p hc).elim
  | alloc e =>
    rw [ho] at hc
    obtain ⟨_, _, hc⟩ := ob_eq hc
    exact (noL_a hc).elim
  | box e x =>
    rw [ho] at hc
    obtain ⟨_, _, hc⟩ := ob_eq hc
    exact (noL_a hc).elim
  | build t parts =>
    rw [ho] at hc
    obtain ⟨_, _, hc⟩ := ob_eq hc
    obtain ⟨d, _, hc⟩ := ob_eq hc
    cases d with
    | struct fs =>
      obtain ⟨_, _, hc⟩ := ob_eq hc
      obtain ⟨_, _, hc⟩ := ob_eq hc
      exact (noL_p hc).elim
    | array n e =>
      obtain ⟨_, _, hc⟩ := ob_eq hc
      obtain ⟨_, _, hc⟩ := ob_eq hc
      exact (noL_p hc).elim
    | _ => exact nomatch hc
  | buildSlice t n parts =>
    rw [ho] at hc
    obtain ⟨d, _, hc⟩ := ob_eq hc
    cases d with
    | slice e =>
      obtain ⟨_, _, hc⟩ := ob_eq hc
      obtain ⟨_, _, hc⟩ := ob_eq hc
      obtain ⟨_, _, hc⟩ := ob_eq hc
      obtain ⟨_, hc⟩ := ot_eq hc
      exact (noL_a hc).elim
    | _ => exact nomatch hc
  | store t a x =>
    rw [ho] at hc
    obtain ⟨_, _, hc⟩ := ob_eq hc
    obtain ⟨_, _, hc⟩ := ob_eq hc
    obtain ⟨_, _, hc⟩ := ob_eq hc
    obtain ⟨_, _, hc⟩ := ob_eq hc
    obtain ⟨_, hc⟩ := ot_eq hc
    exact (noL_w hc).elim
  | binOp op t x y yt =>
    rw [ho] at hc
    obtain ⟨_, _, hc⟩ := ob_eq hc
    obtain ⟨_, _, hc⟩ := ob_eq hc
    rw [bif2_eq] at hc
    split at hc
    · obtain ⟨d, _, hc⟩ := ob_eq hc
      cases d with
      | int k => exact (noL_p hc).elim
      | string => exact (noL_p hc).elim
      | _ =>
        obtain ⟨_, hc⟩ := ot_eq hc
        obtain ⟨_, _, hc⟩ := ob_eq hc
        exact (noL_p hc).elim
    · exact (noL_p hc).elim
  | makeInterface t x =>
    rw [ho] at hc
    obtain ⟨_, _, hc⟩ := ob_eq hc
    obtain ⟨_, _, hc⟩ := ob_eq hc
    obtain ⟨_, hc⟩ := ot_eq hc
    exact (noL_p hc).elim
  | makeFunc fn a b =>
    rw [ho] at hc
    obtain ⟨_, _, hc⟩ := ob_eq hc
    obtain ⟨_, _, hc⟩ := ob_eq hc
    obtain ⟨_, hc⟩ := ot_eq hc
    exact (noL_p hc).elim
  | makeMap t r =>
    rw [ho] at hc
    cases r with
    | none => exact (noL_a hc).elim
    | some _ => exact nomatch hc
  | makeSlice t l c =>
    rw [ho] at hc
    obtain ⟨_, _, hc⟩ := ob_eq hc
    obtain ⟨_, _, hc⟩ := ob_eq hc
    obtain ⟨d, _, hc⟩ := ob_eq hc
    cases d with
    | slice e =>
      obtain ⟨_, _, hc⟩ := ob_eq hc
      obtain ⟨_, _, hc⟩ := ob_eq hc
      exact (noL_a hc).elim
    | _ => exact nomatch hc
  | slice t x lo hi mx =>
    rw [ho] at hc
    obtain ⟨_, _, hc⟩ := ob_eq hc
    obtain ⟨_, _, hc⟩ := ob_eq hc
    obtain ⟨_, _, hc⟩ := ob_eq hc
    obtain ⟨_, _, hc⟩ := ob_eq hc
    obtain ⟨d, _, hc⟩ := ob_eq hc
    cases d with
    | string => obtain ⟨_, hc⟩ := ot_eq hc; exact (noL_p hc).elim
    | slice e => obtain ⟨_, _, hc⟩ := ob_eq hc; obtain ⟨_, hc⟩ := ot_eq hc; exact (noL_p hc).elim
    | array n e => obtain ⟨_, _, hc⟩ := ob_eq hc; obtain ⟨_, hc⟩ := ot_eq hc; exact (noL_p hc).elim
    | _ => exact nomatch hc
  | fieldAddr s x f =>
    rw [ho] at hc
    obtain ⟨_, _, hc⟩ := ob_eq hc
    obtain ⟨d, _, hc⟩ := ob_eq hc
    cases d with
    | struct fs =>
      obtain ⟨_, _, hc⟩ := ob_eq hc
      obtain ⟨_, _, hc⟩ := ob_eq hc
      obtain ⟨_, hc⟩ := ot_eq hc
      exact (noL_p hc).elim
    | _ => exact nomatch hc
  | field t x f =>
    rw [ho] at hc
    obtain ⟨_, _, hc⟩ := ob_eq hc
    obtain ⟨d, _, hc⟩ := ob_eq hc
    cases d with
    | struct fs =>
      obtain ⟨_, _, hc⟩ := ob_eq hc
      obtain ⟨_, _, hc⟩ := ob_eq hc
      obtain ⟨_, _, hc⟩ := ob_eq hc
      exact (noL_p hc).elim
    | _ => exact nomatch hc
  | indexAddr t x i =>
    rw [ho] at hc
    obtain ⟨_, _, hc⟩ := ob_eq hc
    obtain ⟨_, _, hc⟩ := ob_eq hc
    obtain ⟨d, _, hc⟩ := ob_eq hc
    cases d with
    | array n e => obtain ⟨_, _, hc⟩ := ob_eq hc; exact (noL_p hc).elim
    | slice e => obtain ⟨_, _, hc⟩ := ob_eq hc; exact (noL_p hc).elim
    | _ => exact nomatch hc
  | index t x i =>
    rw [ho] at hc
    obtain ⟨_, _, hc⟩ := ob_eq hc
    obtain ⟨_, _, hc⟩ := ob_eq hc
    obtain ⟨d, _, hc⟩ := ob_eq hc
    cases d with
    | array n e => obtain ⟨_, _, hc⟩ := ob_eq hc; obtain ⟨_, _, hc⟩ := ob_eq hc; exact (noL_p hc).elim
    | string => exact (noL_p hc).elim
    | _ => exact nomatch hc
  | mapUpdate t m k x =>
    rw [ho] at hc
    obtain ⟨_, _, hc⟩ := ob_eq hc
    obtain ⟨_, _, hc⟩ := ob_eq hc
    obtain ⟨_, _, hc⟩ := ob_eq hc
    obtain ⟨d, _, hc⟩ := ob_eq hc
    cases d with
    | map kt e => exact (noL_w hc).elim
    | _ => exact nomatch hc
  | insert t m k x =>
    rw [ho] at hc
    obtain ⟨_, _, hc⟩ := ob_eq hc
    obtain ⟨_, _, hc⟩ := ob_eq hc
    obtain ⟨_, _, hc⟩ := ob_eq hc
    obtain ⟨d, _, hc⟩ := ob_eq hc
    cases d with
    | map kt e => exact (noL_w hc).elim
    | _ => exact nomatch hc
  | range t x =>
    rw [ho] at hc
    obtain ⟨_, _, hc⟩ := ob_eq hc
    obtain ⟨d, _, hc⟩ := ob_eq hc
    obtain ⟨_, hc⟩ := ot_eq hc
    exact (noL_a hc).elim
  | next x s =>
    rw [ho] at hc
    obtain ⟨_, _, hc⟩ := ob_eq hc
    obtain ⟨_, hc⟩ := ot_eq hc
    exact (noL_w hc).elim
  | typeAssert x xt t ok =>
    rw [ho] at hc
    obtain ⟨_, _, hc⟩ := ob_eq hc
    obtain ⟨_, _, hc⟩ := ob_eq hc
    obtain ⟨_, _, hc⟩ := ob_eq hc
    obtain ⟨_, hc⟩ := ot_eq hc
    exact (noL_p hc).elim
  | _ => rw [ho] at hc; exact nomatch hc
end
end Go.Ev
end

section
/- Ev, part 20: operations that make memory. -/
namespace Go.Ev
set_option linter.unusedSectionVars false
variable [F : Facts] [E : Env]
set_option linter.unusedSimpArgs false
set_option linter.unusedVariables false
variable {P : Program} {μ : Mu}
variable {wr : WrT} {io : Opd → Option AV} {ρ : Operand → Value}

/-- an operation that makes one block -/
def Born (P : Program) (μ : Mu) (b : Nat) (w : World) (o : AObj) (v : AV) (s : Sem Next) : Prop :=
  ∃ o' v' w' x, s.run P w = .ok (.value v') w' ∧ WNew w w' o' ∧ VR (μ.put b (w.heap.size, 0, x)) v v' ∧ ObjR P (μ.put b (w.heap.size, 0, x)) 0 x o o'

def pushW (w : World) (o : Obj) : World := { w with heap := w.heap.push o }
theorem wnew_push (w : World) (o : Obj) : WNew w (pushW w o) o := ⟨rfl, rfl, rfl, rfl⟩
theorem run_newObj (o : Obj) (w : World) : (newObj o).run P w = .ok w.heap.size (pushW w o) := rfl
theorem run_newRow (e : TypeId) (cs : Array Value) (w : World) : (newRow e cs).run P w = .ok ⟨w.heap.size, 0, none⟩ (pushW w (.cells cs e)) := by
  unfold newRow
  rw [run_ok (run_newObj _ w)]; rfl

theorem lst_objR {μ' : Mu} {e : TypeId} {cs : List AV} {cs' : Array Value} {ch : Nat} (h : VRs μ' cs cs'.toList) (h1 : ∀ c ∈ cs, oneA c = true) :
    ObjR P μ' 0 none (.cells (len cs) (.lst cs) e true 0 0 ch) (.cells cs' e (0, 0)) := by
  have hl : cs.length = cs'.size := by simpa using h.length
  refine ⟨rfl, rfl, by rw [len_eq]; omega, ⟨rfl, fun _ => by rw [len_eq]; omega⟩, ?_, ?_, ?_, fun _ => .inl rfl, fun _ _ h => nomatch h⟩
  · intro l e; injection e with e; subst e; exact (len_eq _).symm
  · intro i v hv
    replace hv : nth cs i = some v := hv
    rw [nth_eq] at hv
    obtain ⟨v', hv', hr⟩ := h.get hv
    refine ⟨by rw [len_eq]; exact (List.getElem?_eq_some_iff.1 hv).1, h1 v (List.mem_of_getElem? hv), v', ?_, hr⟩
    rw [Nat.zero_add]; simpa using hv'
  · intro o _ h2 _; exact absurd h2 (Nat.not_lt_zero o)

theorem mod_rows {z : List Value} : ∀ (n : Nat), 0 < z.length → (List.range (n * z.length)).map (fun i => z[i % z.length]!) = (List.replicate n z).flatten := by
  intro n hz
  induction n with
  | zero => simp
  | succ n ih =>
    rw [List.replicate_succ', List.flatten_append, ← ih, Nat.succ_mul, List.range_add, List.map_append]
    congr 1
    rw [List.map_map]
    simp only [List.flatten_cons, List.flatten_nil, List.append_nil]
    apply List.ext_getElem?
    intro i
    by_cases hi : i < z.length
    · have hm : (n * z.length + i) % z.length = i := by
        rw [Nat.add_comm, Nat.add_mul_mod_self_right, Nat.mod_eq_of_lt hi]
      rw [List.getElem?_map, List.getElem?_range hi]
      simp only [Option.map_some, Function.comp, hm]
      rw [List.getElem?_eq_getElem hi, getElem!_pos z i hi]
    · rw [List.getElem?_eq_none (by simp; omega), List.getElem?_eq_none (by omega)]

theorem repeatTo_rel {z : List AV} {z' : List Value} (h : VRs μ z z') : ∀ n, VRs μ (repeatTo n z) (List.replicate n z').flatten := by
  intro n
  induction n with
  | zero => exact .nil
  | succ n ih =>
    show VRs μ (app z (repeatTo n z)) _
    rw [app_eq, List.replicate_succ, List.flatten_cons]
    exact h.append ih
theorem repeatTo_one {z : List AV} (h : ∀ c ∈ z, oneA c = true) : ∀ n, ∀ c ∈ repeatTo n z, oneA c = true := by
  intro n
  induction n with
  | zero => intro c hc; exact nomatch hc
  | succ n ih =>
    intro c hc
    replace hc : c ∈ app z (repeatTo n z) := hc
    rw [app_eq, List.mem_append] at hc
    exact hc.elim (h c) (ih c)

theorem noA_l {a : LOp} {q : AOp} (h : some (IOp.l a) = some (IOp.a q)) : False := by injection h with h; exact IOp.noConfusion h
theorem noA_p {a : POp} {q : AOp} (h : some (IOp.p a) = some (IOp.a q)) : False := by injection h with h; exact IOp.noConfusion h
theorem noA_w {a : WOp} {q : AOp} (h : some (IOp.w a) = some (IOp.a q)) : False := by injection h with h; exact IOp.noConfusion h
theorem inj_a {a b : AOp} (h : (some (IOp.a a)) = some (IOp.a b)) : a = b := by injection h with h; injection h

theorem IOR.mono {μ' : Mu} (hle : μ.le μ') (h : IOR μ wr io ρ) : IOR μ' wr io ρ := fun x a v h1 h2 => (h x a v h1 h2).mono hle

theorem zeroRange {z : Value} {size n : Nat} (hz : z.cells.size = size) (hs : 0 < size) : ((Array.range (n * size)).map (z.cells[· % z.cells.size]!)).toList = (List.replicate n z.cells.toList).flatten := by
  have : ((Array.range (n * size)).map (z.cells[· % z.cells.size]!)).toList = (List.range (n * z.cells.toList.length)).map (fun i => z.cells.toList[i % z.cells.toList.length]!) := by
    rw [Array.toList_map, Array.toList_range]
    subst hz
    have e : z.cells.toList.length = z.cells.size := Array.length_toList
    rw [e]
    apply List.map_congr_left
    intro a _
    have hlt : a % z.cells.size < z.cells.size := Nat.mod_lt _ hs
    rw [getElem!_pos z.cells _ hlt, getElem!_pos z.cells.toList _ (by simpa using hlt)]
    simp
  rw [this, mod_rows n (by simp; omega)]

/-- a run of an operation that makes a row of cells -/
theorem born_row {μ : Mu} {b : Nat} {w : World} {e : TypeId} {cs : List AV} {cs' : Array Value} {v : AV} {v' : Value} {s : Sem Value} (hb : μ b = none)
    (hrun : s.run P w = .ok v' (pushW w (.cells cs' e))) (h : VRs μ cs cs'.toList) (h1 : ∀ c ∈ cs, oneA c = true)
    (hv : VR (μ.put b (w.heap.size, 0, none)) v v') : Born P μ b w (.cells (len cs) (.lst cs) e true 0 0 b) v (do pure (.value (← s))) :=
  ⟨_, v', _, none, run_v hrun, wnew_push _ _, hv, lst_objR (h.mono (Mu.le_put _ hb)) h1⟩

theorem noA_call {c : Call} {q : AOp} (hc : kCall (ttOf P) wr c = some (.a q)) : False := by
  obtain ⟨as, has, hc⟩ := ob_eq hc
  unfold kCallee at hc
  split at hc
  · exact noA_w hc
  · obtain ⟨f, _, hc⟩ := ob_eq hc
    exact noA_w hc
  · obtain ⟨f, _, hc⟩ := ob_eq hc
    exact noA_w hc
  · unfold kBuiltin at hc
    split at hc
    · exact noA_p hc
    · split at hc
      · obtain ⟨d, hd, hc⟩ := ob_eq hc
        unfold kBuiltin1 at hc
        split at hc
        · unfold kLen at hc
          cases d with
          | map kt e => exact noA_l hc
          | string => exact noA_p hc
          | slice _ => exact noA_p hc
          | array _ _ => exact noA_p hc
          | _ => exact nomatch hc
        · obtain ⟨_, hc⟩ := ot_eq hc
          exact noA_p hc
        · unfold kClear1 at hc
          cases d with
          | slice e =>
            obtain ⟨z, _, hc⟩ := ob_eq hc
            obtain ⟨n, _, hc⟩ := ob_eq hc
            obtain ⟨_, hc⟩ := ot_eq hc
            exact noA_w hc
          | _ => exact nomatch hc
        · exact noA_p hc
        · exact nomatch hc
      · obtain ⟨d, hd, hc⟩ := ob_eq hc
        obtain ⟨d2, hd2, hc⟩ := ob_eq hc
        unfold kBuiltin2 at hc
        split at hc
        · unfold kAppend1 at hc
          split at hc
          · obtain ⟨i, _, hc⟩ := ob_eq hc
            obtain ⟨z, _, hc⟩ := ob_eq hc
            obtain ⟨_, hc⟩ := ot_eq hc
            exact noA_w hc
          · obtain ⟨i, _, hc⟩ := ob_eq hc
            obtain ⟨z, _, hc⟩ := ob_eq hc
            obtain ⟨_, hc⟩ := ot_eq hc
            exact noA_w hc
          · exact nomatch hc
        · unfold kCopy1 at hc
          split at hc
          · obtain ⟨i, _, hc⟩ := ob_eq hc
            obtain ⟨_, hc⟩ := ot_eq hc
            exact noA_w hc
          · exact nomatch hc
        · unfold kDelete1 at hc
          split at hc
          · exact noA_w hc
          · exact nomatch hc
        · unfold kUnsafeStr1 at hc
          split at hc
          · obtain ⟨i, _, hc⟩ := ob_eq hc
            obtain ⟨_, hc⟩ := ot_eq hc
            exact noA_w hc
          · exact nomatch hc
        · exact nomatch hc
      · exact nomatch hc

theorem run_choose (q : Question) (w : World) (h : q.forced = false) : (choose q).run P w = .ok (q.cut (w.tape w.drawn q)) { w with drawn := w.drawn + 1 } := by
  unfold choose
  simp only [Sem.run, h, Bool.false_eq_true, if_false]

theorem strToBytes_born {μ : Mu} {b : Nat} {w : World} {s d e : TypeId} {v : AV} {x : Value} {str : ByteArray} {l n : Nat} (hb : μ b = none) (hds : und (ttOf P) s = some .string) (hdd : und (ttOf P) d = some (.slice e)) (hde : und (ttOf P) e = some (.int .u8)) (hsz : tsize (ttOf P) e = some 1)
    (es : x = .string str) (hl : l = str.data.toList.length) (hn : n = bytesNum str.data.toList) (hv : AV.sl b 0 l l = v) :
    Born P μ b w (.cells l (.lst (strCells l n)) e false 2 0 b) v (do pure (.value (← convert s d x))) := by
  subst es
  let cap := Question.cut (.appendCap str.size 0 e) (w.tape w.drawn (.appendCap str.size 0 e))
  have hcap : str.size ≤ cap := Nat.le_add_right _ _
  let row : Array Value := (str.data.map fun (b : UInt8) => Value.int .u8 (b.toNat : Int)) ++ Array.replicate (cap - str.size) (Value.int .u8 0)
  have hrow : row.size = cap := by
    show ((str.data.map fun (b : UInt8) => Value.int .u8 (b.toNat : Int)) ++ Array.replicate (cap - str.size) (Value.int .u8 0)).size = cap
    rw [Array.size_append, Array.size_map, Array.size_replicate]
    have : str.data.size = str.size := rfl
    omega
  have hrun : (convert s d (.string str)).run P w = .ok (.slice (some ⟨w.heap.size, 0, none⟩) str.size cap) (pushW { w with drawn := w.drawn + 1 } (.cells row e (cap, cap + 1))) := by
    unfold convert
    rw [run_ok (run_und hds w), run_ok (run_und hdd w)]
    show (underlying e >>= fun de => _).run P w = _
    rw [run_ok (run_und hde w)]
    show (Conv.stringToBytes e str).run P w = _
    unfold Conv.stringToBytes
    rw [run_ok (run_choose _ w rfl)]
    show (newRow e row >>= fun a => _).run P { w with drawn := w.drawn + 1 } = _
    rw [run_ok (run_newRow e row _)]
    have hm : (markStringish ⟨w.heap.size, 0, none⟩).run P (pushW { w with drawn := w.drawn + 1 } (.cells row e)) = .ok () (pushW { w with drawn := w.drawn + 1 } (.cells row e (cap, cap + 1))) := by
      unfold markStringish
      have hsh : (shape w.heap.size).run P (pushW { w with drawn := w.drawn + 1 } (.cells row e)) = .ok (some (e, row.size)) (pushW { w with drawn := w.drawn + 1 } (.cells row e)) := by
        unfold shape
        simp only [Sem.run]
        congr 1
        unfold World.shape? pushW
        simp
      rw [run_ok hsh]
      show (freeze ⟨w.heap.size, row.size, none⟩ 1).run P _ = _
      unfold freeze
      simp only [Sem.run]
      congr 1
      unfold World.freeze pushW
      rw [if_neg (by decide)]
      simp only [World.mk.injEq, and_true, true_and]
      rw [hrow]
      apply Array.ext_getElem?
      intro i
      rw [Array.getElem?_modify, Array.getElem?_push, Array.getElem?_push]
      by_cases hi : w.heap.size = i
      · subst hi; simp
      · rw [if_neg hi]
        by_cases h2 : i = w.heap.size
        · exact absurd h2.symm hi
        · simp [h2]
    show (markStringish ⟨w.heap.size, 0, none⟩ >>= fun _ => _).run P _ = _
    rw [run_ok hm]; rfl
  refine ⟨_, _, _, some (cap, 1), run_v hrun, ⟨rfl, rfl, rfl, rfl⟩, ?_, ?_⟩
  · rw [← hv, hl]
    exact .sl (Mu.put_same _ _ _) hcap (.inr ⟨cap, 1, rfl, fun _ _ => by omega⟩)
  · have hs : str.data.toList.length = str.size := rfl
    refine ⟨rfl, rfl, by rw [hrow]; omega, ⟨rfl, (fun h => nomatch h)⟩, ?_, ?_, ?_, (fun h => nomatch h), fun S s e => by injection e with e; injection e with e1 e2; subst e1; subst e2; exact ⟨hrow, hsz⟩⟩
    · intro k e; injection e with e; subst e
      rw [hl, hn, strCells_eq]; simp
    · intro i v hv
      replace hv : nth (strCells l n) i = some v := hv
      rw [nth_eq, hl, hn, strCells_eq, List.getElem?_map] at hv
      cases hb : str.data.toList[i]? with
      | none => rw [hb] at hv; exact nomatch hv
      | some c =>
        rw [hb] at hv
        injection hv with hv
        have hlt : i < str.data.toList.length := (List.getElem?_eq_some_iff.1 hb).1
        refine ⟨by omega, by rw [← hv]; rfl, .int .u8 (c.toNat : Int), ?_, by rw [← hv]; exact .int _ _⟩
        rw [Nat.zero_add]
        show ((str.data.map fun (b : UInt8) => Value.int .u8 (b.toNat : Int)) ++ Array.replicate (cap - str.size) (Value.int .u8 0))[i]? = _
        rw [Array.getElem?_append_left (by simpa using hlt), Array.getElem?_map]
        have : str.data[i]? = some c := by simpa using hb
        rw [this]; rfl
    · intro o h1 h2 h3
      rw [hrow] at h3
      replace h1 : cap ≤ o := h1
      omega

theorem alloc_ok (o : Oper) {q : AOp} {v : AV} {A A' : AH} (hc : compOp0 P (ttOf P) wr o.op = some (.a q)) (he : evA io A q = some (v, A')) :
    ∃ ob, A' = A.new ob ∧ ∀ μ ρ w, IOR μ wr io ρ → μ A.next = none → Born P μ A.next w ob v (execOp ρ o) := by
  cases ho : o.op with
  | alloc e =>
    rw [ho] at hc
    obtain ⟨z, hz, hc⟩ := ob_eq hc
    have hq := (inj_a hc).symm
    subst hq
    injection he with he
    injection he with hv hA
    refine ⟨_, hA.symm, fun μ ρ w hio hb => ?_⟩
    obtain ⟨z', hz', hzr⟩ := zeroOf_run (P := P) hz μ w
    have hexec : execOp ρ o = (do pure (.value (← Instr.alloc e true (.tuple #[]))) : Sem Next) := by unfold execOp; rw [ho]
    rw [hexec]
    refine born_row hb (v' := .pointer (some ⟨w.heap.size, 0, none⟩)) (cs' := z'.cells) ?_ (cellsV_rel hzr) (zeroOf_one hz) (by rw [← hv]; exact .ptr (Mu.put_same _ _ _))
    unfold Instr.alloc
    rw [run_ok hz']
    show (newVar e z' >>= fun a => (pure (Value.pointer (some a)) : Sem Value)).run P w = _
    unfold newVar
    rw [run_ok (run_newRow e z'.cells w)]; rfl
  | box e x =>
    rw [ho] at hc
    obtain ⟨a, ha, hc⟩ := ob_eq hc
    have hq := (inj_a hc).symm
    subst hq
    obtain ⟨u, hu, he⟩ := ob_eq he
    obtain ⟨cs, hcs, he⟩ := ob_eq he
    injection he with he
    injection he with hv hA
    refine ⟨_, hA.symm, fun μ ρ w hio hb => ?_⟩
    have hr := hio _ _ _ ha hu
    have hexec : execOp ρ o = (do pure (.value (← Instr.box e (ρ x))) : Sem Next) := by unfold execOp; rw [ho]
    rw [hexec]
    have hcells : VRs μ cs (ρ x).cells.toList ∧ ∀ c ∈ cs, oneA c = true := by
      unfold box1 at hcs
      split at hcs
      · injection hcs with hcs
        subst hcs
        obtain ⟨cs', ev, h1, h2⟩ := hr.inv_agg
        rw [ev]; exact ⟨h1, h2⟩
      · exact nomatch hcs
      · rename_i n1 n2
        injection hcs with hcs
        subst hcs
        have hone : oneA u = true := by
          cases u <;> first | rfl | exact absurd rfl (n1 _) | exact absurd rfl (n2 _)
        have hov : oneV (ρ x) = true := by rw [hr.one, hone]
        have hc1 : (ρ x).cells = #[ρ x] := by
          cases e : ρ x <;> rw [e] at hov <;> first | rfl | exact nomatch hov
        rw [hc1]
        exact ⟨.cons hr .nil, fun c hc => by simp at hc; subst hc; exact hone⟩
    refine born_row hb (v' := .pointer (some ⟨w.heap.size, 0, none⟩)) (cs' := (ρ x).cells) ?_ hcells.1 hcells.2 (by rw [← hv]; exact .ptr (Mu.put_same _ _ _))
    unfold Instr.box newVar
    rw [run_ok (run_newRow e (ρ x).cells w)]; rfl
  | buildSlice t n parts =>
    rw [ho] at hc
    obtain ⟨d, hd, hc⟩ := ob_eq hc
    cases d with
    | slice e =>
      obtain ⟨size, hs, hc⟩ := ob_eq hc
      obtain ⟨z, hz, hc⟩ := ob_eq hc
      obtain ⟨l, hl, hc⟩ := ob_eq hc
      obtain ⟨hcond, hc⟩ := ot_eq hc
      rw [ba_eq, ba_eq, nlt_eq, nle_eq, nbeq_eq, len_eq] at hcond
      simp at hcond
      obtain ⟨hs0, hmax, hzl⟩ := hcond
      replace hmax : n * size ≤ 100000 := hmax
      have hq := (inj_a hc).symm
      subst hq
      obtain ⟨cs, hcs, he⟩ := ob_eq he
      injection he with he
      injection he with hv hA
      refine ⟨_, hA.symm, fun μ ρ w hio hb => ?_⟩
      obtain ⟨z', hz', hzr⟩ := zeroOf_run (P := P) hz μ w
      have hzc := cellsV_rel hzr
      have hz1 := zeroOf_one hz
      have hzs : z'.cells.size = size := by
        have := hzc.length
        rw [hzl] at this
        simpa using this.symm
      have hexec : execOp ρ o = (do pure (.value (← Instr.buildSlice t n (parts.map fun (i, x) => (i, ρ x)))) : Sem Next) := by unfold execOp; rw [ho]
      rw [hexec]
      have hbase : VRs μ (repeatTo n (cellsV z)) ((Array.range (n * size)).map (z'.cells[· % z'.cells.size]!)).toList := by
        rw [zeroRange hzs hs0]; exact repeatTo_rel hzc n
      obtain ⟨out, h1, h2, h3, h4⟩ := fill_ok (cs' := (Array.range (n * size)).map (z'.cells[· % z'.cells.size]!)) hio hl hcs hbase (repeatTo_one hz1 n)
      have hmap : (parts.map fun (x : Nat × Operand) => (x.1, ρ x.2)).toList = parts.toList.map fun p => (p.1, ρ p.2) := by simp
      refine born_row hb (v' := .slice (some ⟨w.heap.size, 0, none⟩) n n) (cs' := out) ?_ h2 h3 (by rw [← hv]; exact .sl (Mu.put_same _ _ _) (Nat.le_refl _) (.inl rfl))
      unfold Instr.buildSlice
      rw [run_ok (run_und hd w)]
      show (sizeOf e >>= fun size => _).run P w = _
      rw [run_ok (run_size hs w)]
      simp only []
      rw [if_neg (by omega)]
      have fin : ∀ zero : Array Value, (Array.range (n * size)).map (zero[· % zero.size]!) = (Array.range (n * size)).map (z'.cells[· % z'.cells.size]!) →
          ((do
            let some cells := Instr.fill (fun i => some (i * size, size)) ((Array.range (n * size)).map (zero[· % zero.size]!)) (parts.map fun (x : Nat × Operand) => (x.1, ρ x.2)).toList
              | stuck "buildSlice: a part of the wrong size"
            pure (.slice (some (← newRow e cells)) n n) : Sem Value)).run P w = .ok (.slice (some ⟨w.heap.size, 0, none⟩) n n) (pushW w (.cells out e)) := by
        intro zero hz0
        rw [hz0, hmap]
        have e1 : (fun i => some (i * size, size)) = fun i => some (Nat.mul i size, size) := rfl
        rw [e1, h1]
        simp only
        rw [run_ok (run_newRow e out w)]; rfl
      by_cases h0 : n * size = 0
      · rw [if_pos h0]
        exact fin #[] (by rw [h0]; simp)
      · rw [if_neg h0, run_ok hz']
        exact fin z'.cells rfl
    | _ => exact nomatch hc
  | makeMap t r =>
    rw [ho] at hc
    cases r with
    | some _ => exact nomatch hc
    | none =>
      have hq := (inj_a hc).symm
      subst hq
      injection he with he
      injection he with hv hA
      refine ⟨_, hA.symm, fun μ ρ w hio hb => ?_⟩
      have hexec : execOp ρ o = (do pure (.value (← Instr.makeMap t none)) : Sem Next) := by unfold execOp; rw [ho]; rfl
      rw [hexec]
      exact ⟨.map #[] 0, .map (some w.heap.size), pushW w (.map #[] 0), none, run_v rfl, wnew_push _ _, by rw [← hv]; exact .map (Mu.put_same _ _ _), ⟨rfl, .nil⟩⟩
  | makeSlice t l c =>
    rw [ho] at hc
    obtain ⟨l', hl, hc⟩ := ob_eq hc
    obtain ⟨c', hcc, hc⟩ := ob_eq hc
    obtain ⟨d, hd, hc⟩ := ob_eq hc
    cases d with
    | slice e =>
      obtain ⟨i, hi, hc⟩ := ob_eq hc
      obtain ⟨z, hz, hc⟩ := ob_eq hc
      have hq := (inj_a hc).symm
      subst hq
      obtain ⟨lv, hlv, he⟩ := ob_eq he
      obtain ⟨kl, n, e1, he⟩ := onNat_eq he
      subst e1
      obtain ⟨cv, hcv, he⟩ := ob_eq he
      obtain ⟨kc, m, e2, he⟩ := onNat_eq he
      subst e2
      obtain ⟨hcond, he⟩ := ot_eq he
      rw [ba_eq, ba_eq, ba_eq, nle_eq, nle_eq, nle_eq, nbeq_eq, len_eq] at hcond
      simp at hcond
      obtain ⟨hnm, hb47, hmil, hzl⟩ := hcond
      replace hb47 : m * i.bytes ≤ 140737488355328 := hb47
      injection he with he
      injection he with hv hA
      refine ⟨_, hA.symm, fun μ ρ w hio hb => ?_⟩
      obtain ⟨z', hz', hzr⟩ := zeroOf_run (P := P) hz μ w
      have hzc := cellsV_rel hzr
      have hz1 := zeroOf_one hz
      have hzs : z'.cells.size = i.size := by
        have := hzc.length
        rw [hzl] at this
        simpa using this.symm
      have hs : tsize (ttOf P) e = some i.size := by unfold tsize; rw [hi]; rfl
      have el := opnd_nat hio hl hlv
      have ec := opnd_nat hio hcc hcv
      have hexec : execOp ρ o = (do pure (.value (← Instr.makeSlice t (ρ l) (ρ c))) : Sem Next) := by unfold execOp; rw [ho]
      rw [hexec]
      have hrow : VRs μ (repeatTo m (cellsV z)) ((Array.range (m * i.size)).map (z'.cells[· % z'.cells.size]!)).toList := by
        by_cases hs0 : 0 < i.size
        · rw [zeroRange hzs hs0]; exact repeatTo_rel hzc m
        · have h0 : i.size = 0 := by omega
          have hz0 : cellsV z = [] := List.eq_nil_of_length_eq_zero (by omega)
          rw [hz0, h0]
          have : ∀ k, repeatTo k ([] : List AV) = [] := by
            intro k
            induction k with
            | zero => rfl
            | succ k ih => show app [] (repeatTo k []) = []; rw [app_eq, ih]; rfl
          rw [this]
          simp
          exact .nil
      refine born_row hb (v' := .slice (some ⟨w.heap.size, 0, none⟩) n m) (cs' := (Array.range (m * i.size)).map (z'.cells[· % z'.cells.size]!)) ?_ hrow (repeatTo_one hz1 m) (by rw [← hv]; exact .sl (Mu.put_same _ _ _) (Nat.le_refl _) (.inl rfl))
      unfold Instr.makeSlice
      rw [run_ok (run_und hd w), el, ec]
      show (asInt (.int kl (n : Int)) >>= fun len => asInt (.int kc (m : Int)) >>= fun cap => typeInfo e >>= fun ti => _).run P w = _
      have ra : ∀ (k : IntKind) (n : Int), (asInt (.int k n)).run P w = .ok n w := fun _ _ => rfl
      rw [run_ok (ra _ _), run_ok (ra _ _), run_ok (run_info hi w)]
      have wl : IntKind.i64.wrap (n : Int) = n := IntWalk.i64_in _ ⟨by omega, by omega⟩
      have wc : IntKind.i64.wrap (m : Int) = m := IntWalk.i64_in _ ⟨by omega, by omega⟩
      simp only [wl, wc]
      have hcast : ((i.bytes : Int) * (m : Int)) = ((m * i.bytes : Nat) : Int) := by rw [Nat.mul_comm]; simp
      have hno : ¬ ((decide ((m : Int) < 0) || decide ((i.bytes : Int) * (m : Int) > 2 ^ 48) || decide ((n : Int) < 0) || decide ((n : Int) > (m : Int))) = true) := by
        rw [hcast]
        simp only [Bool.or_eq_true, decide_eq_true_eq, not_or]
        refine ⟨⟨⟨by omega, ?_⟩, by omega⟩, by omega⟩
        have : (2 : Int) ^ 48 = 281474976710656 := by decide
        rw [this]; omega
      rw [if_neg hno]
      have hroom : (askRoom ((m : Int).toNat * i.bytes)).run P w = .ok () w := by
        unfold askRoom
        split <;> rfl
      show (askRoom ((m : Int).toNat * i.bytes) >>= fun _ => sizeOf e >>= fun s => _).run P w = _
      rw [run_ok hroom, run_ok (run_size hs w)]
      simp only [Int.toNat_natCast]
      have fin : ∀ zero : Array Value, (Array.range (m * i.size)).map (zero[· % zero.size]!) = (Array.range (m * i.size)).map (z'.cells[· % z'.cells.size]!) →
          ((do
            let a ← newRow e ((Array.range (m * i.size)).map (zero[· % zero.size]!))
            pure (.slice (some a) n m) : Sem Value)).run P w = .ok (.slice (some ⟨w.heap.size, 0, none⟩) n m) (pushW w (.cells ((Array.range (m * i.size)).map (z'.cells[· % z'.cells.size]!)) e)) := by
        intro zero hz0
        rw [hz0, run_ok (run_newRow e _ w)]; rfl
      by_cases h0 : m * i.size = 0
      · rw [if_pos h0]
        exact fin #[] (by rw [h0]; simp)
      · rw [if_neg h0]
        rw [run_ok hz']
        exact fin z'.cells rfl
    | _ => exact nomatch hc
  | move x =>
    rw [ho] at hc
    obtain ⟨_, _, hc⟩ := ob_eq hc
    exact (noA_p hc).elim
  | assign x =>
    rw [ho] at hc
    obtain ⟨_, _, hc⟩ := ob_eq hc
    exact (noA_p hc).elim
  | pick c a b =>
    rw [ho] at hc
    obtain ⟨_, _, hc⟩ := ob_eq hc
    obtain ⟨_, _, hc⟩ := ob_eq hc
    obtain ⟨_, _, hc⟩ := ob_eq hc
    exact (noA_p hc).elim
  | nilCheck x =>
    rw [ho] at hc
    obtain ⟨_, _, hc⟩ := ob_eq hc
    exact (noA_p hc).elim
  | unOp op t x =>
    rw [ho] at hc
    obtain ⟨_, _, hc⟩ := ob_eq hc
    exact (noA_p hc).elim
  | extract x i =>
    rw [ho] at hc
    obtain ⟨_, _, hc⟩ := ob_eq hc
    exact (noA_p hc).elim
  | build t parts =>
    rw [ho] at hc
    obtain ⟨_, _, hc⟩ := ob_eq hc
    obtain ⟨d, _, hc⟩ := ob_eq hc
    cases d with
    | struct fs =>
      obtain ⟨_, _, hc⟩ := ob_eq hc
      obtain ⟨_, _, hc⟩ := ob_eq hc
      exact (noA_p hc).elim
    | array n e =>
      obtain ⟨_, _, hc⟩ := ob_eq hc
      obtain ⟨_, _, hc⟩ := ob_eq hc
      exact (noA_p hc).elim
    | _ => exact nomatch hc
  | store t a x =>
    rw [ho] at hc
    obtain ⟨_, _, hc⟩ := ob_eq hc
    obtain ⟨_, _, hc⟩ := ob_eq hc
    obtain ⟨_, _, hc⟩ := ob_eq hc
    obtain ⟨_, _, hc⟩ := ob_eq hc
    obtain ⟨_, hc⟩ := ot_eq hc
    exact (noA_w hc).elim
  | binOp op t x y yt =>
    rw [ho] at hc
    obtain ⟨_, _, hc⟩ := ob_eq hc
    obtain ⟨_, _, hc⟩ := ob_eq hc
    rw [bif2_eq] at hc
    split at hc
    · obtain ⟨d, _, hc⟩ := ob_eq hc
      cases d with
      | int k => exact (noA_p hc).elim
      | string => exact (noA_p hc).elim
      | _ =>
        obtain ⟨_, hc⟩ := ot_eq hc
        obtain ⟨_, _, hc⟩ := ob_eq hc
        exact (noA_p hc).elim
    · exact (noA_p hc).elim
  | makeInterface t x =>
    rw [ho] at hc
    obtain ⟨_, _, hc⟩ := ob_eq hc
    obtain ⟨_, _, hc⟩ := ob_eq hc
    obtain ⟨_, hc⟩ := ot_eq hc
    exact (noA_p hc).elim
  | makeFunc fn a b =>
    rw [ho] at hc
    obtain ⟨_, _, hc⟩ := ob_eq hc
    obtain ⟨_, _, hc⟩ := ob_eq hc
    obtain ⟨_, hc⟩ := ot_eq hc
    exact (noA_p hc).elim
  | slice t x lo hi mx =>
    rw [ho] at hc
    obtain ⟨_, _, hc⟩ := ob_eq hc
    obtain ⟨_, _, hc⟩ := ob_eq hc
    obtain ⟨_, _, hc⟩ := ob_eq hc
    obtain ⟨_, _, hc⟩ := ob_eq hc
    obtain ⟨d, _, hc⟩ := ob_eq hc
    cases d with
    | string => obtain ⟨_, hc⟩ := ot_eq hc; exact (noA_p hc).elim
    | slice e => obtain ⟨_, _, hc⟩ := ob_eq hc; obtain ⟨_, hc⟩ := ot_eq hc; exact (noA_p hc).elim
    | array n e => obtain ⟨_, _, hc⟩ := ob_eq hc; obtain ⟨_, hc⟩ := ot_eq hc; exact (noA_p hc).elim
    | _ => exact nomatch hc
  | fieldAddr s x f =>
    rw [ho] at hc
    obtain ⟨_, _, hc⟩ := ob_eq hc
    obtain ⟨d, _, hc⟩ := ob_eq hc
    cases d with
    | struct fs =>
      obtain ⟨_, _, hc⟩ := ob_eq hc
      obtain ⟨_, _, hc⟩ := ob_eq hc
      obtain ⟨_, hc⟩ := ot_eq hc
      exact (noA_p hc).elim
    | _ => exact nomatch hc
  | field t x f =>
    rw [ho] at hc
    obtain ⟨_, _, hc⟩ := ob_eq hc
    obtain ⟨d, _, hc⟩ := ob_eq hc
    cases d with
    | struct fs =>
      obtain ⟨_, _, hc⟩ := ob_eq hc
      obtain ⟨_, _, hc⟩ := ob_eq hc
      obtain ⟨_, _, hc⟩ := ob_eq hc
      exact (noA_p hc).elim
    | _ => exact nomatch hc
  | indexAddr t x i =>
    rw [ho] at hc
    obtain ⟨_, _, hc⟩ := ob_eq hc
    obtain ⟨_, _, hc⟩ := ob_eq hc
    obtain ⟨d, _, hc⟩ := ob_eq hc
    cases d with
    | array n e => obtain ⟨_, _, hc⟩ := ob_eq hc; exact (noA_p hc).elim
    | slice e => obtain ⟨_, _, hc⟩ := ob_eq hc; exact (noA_p hc).elim
    | _ => exact nomatch hc
  | index t x i =>
    rw [ho] at hc
    obtain ⟨_, _, hc⟩ := ob_eq hc
    obtain ⟨_, _, hc⟩ := ob_eq hc
    obtain ⟨d, _, hc⟩ := ob_eq hc
    cases d with
    | array n e => obtain ⟨_, _, hc⟩ := ob_eq hc; obtain ⟨_, _, hc⟩ := ob_eq hc; exact (noA_p hc).elim
    | string => exact (noA_p hc).elim
    | _ => exact nomatch hc
  | mapUpdate t m k x =>
    rw [ho] at hc
    obtain ⟨_, _, hc⟩ := ob_eq hc
    obtain ⟨_, _, hc⟩ := ob_eq hc
    obtain ⟨_, _, hc⟩ := ob_eq hc
    obtain ⟨d, _, hc⟩ := ob_eq hc
    cases d with
    | map kt e => exact (noA_w hc).elim
    | _ => exact nomatch hc
  | insert t m k x =>
    rw [ho] at hc
    obtain ⟨_, _, hc⟩ := ob_eq hc
    obtain ⟨_, _, hc⟩ := ob_eq hc
    obtain ⟨_, _, hc⟩ := ob_eq hc
    obtain ⟨d, _, hc⟩ := ob_eq hc
    cases d with
    | map kt e => exact (noA_w hc).elim
    | _ => exact nomatch hc
  | next x s =>
    rw [ho] at hc
    obtain ⟨_, _, hc⟩ := ob_eq hc
    obtain ⟨_, hc⟩ := ot_eq hc
    exact (noA_w hc).elim
  | typeAssert x xt t ok =>
    rw [ho] at hc
    obtain ⟨_, _, hc⟩ := ob_eq hc
    obtain ⟨_, _, hc⟩ := ob_eq hc
    obtain ⟨_, _, hc⟩ := ob_eq hc
    obtain ⟨_, hc⟩ := ot_eq hc
    exact (noA_p hc).elim
  | load t a =>
    rw [ho] at hc
    obtain ⟨_, _, hc⟩ := ob_eq hc
    obtain ⟨g, _, hc⟩ := ob_eq hc
    cases g with
    | true => obtain ⟨_, _, hc⟩ := ob_eq (show ob _ _ = _ from hc); exact (noA_l hc).elim
    | false => exact (noA_l hc).elim
  | lookup t x k ok =>
    rw [ho] at hc
    obtain ⟨_, _, hc⟩ := ob_eq hc
    obtain ⟨_, _, hc⟩ := ob_eq hc
    obtain ⟨d, _, hc⟩ := ob_eq hc
    cases d with
    | map kt e => obtain ⟨_, _, hc⟩ := ob_eq hc; exact (noA_l hc).elim
    | _ => exact nomatch hc
  | call c =>
    rw [ho] at hc
    exact (noA_call hc).elim
  | range t x =>
    rw [ho] at hc
    obtain ⟨a, ha, hc⟩ := ob_eq hc
    obtain ⟨d, hd, hc⟩ := ob_eq hc
    obtain ⟨hs, hc⟩ := ot_eq hc
    have hq := (inj_a hc).symm
    subst hq
    obtain ⟨u, hu, he⟩ := ob_eq he
    obtain ⟨l, n, e1, he2⟩ := onStr_eq he
    subst e1
    injection he2 with he3
    injection he3 with hv hA
    refine ⟨_, hA.symm, fun μ ρ w hio hb => ?_⟩
    obtain ⟨str, es, hl, hn⟩ := (hio _ _ _ ha hu).inv_str
    have hexec : execOp ρ o = (do pure (.value (← Instr.range t (ρ x))) : Sem Next) := by unfold execOp; rw [ho]
    rw [hexec]
    have hd' : d = .string := by
      unfold isStrD at hs
      split at hs
      · rfl
      · exact nomatch hs
    subst hd'
    refine ⟨.stringIter str 0, .pointer (some ⟨w.heap.size, 0, none⟩), pushW w (.stringIter str 0), none, run_v ?_, wnew_push _ _, by rw [← hv]; exact .ptr (Mu.put_same _ _ _), ?_⟩
    · unfold Instr.range
      rw [run_ok (run_und hd w), es]
      rfl
    · refine ⟨rfl, ?_, rfl⟩
      unfold ofStr
      rw [hl, hn, len_eq]
  | convert s d x =>
    rw [ho] at hc
    obtain ⟨a, ha, hc⟩ := ob_eq hc
    obtain ⟨ds, hds, hc⟩ := ob_eq hc
    obtain ⟨dd, hdd, hc⟩ := ob_eq hc
    unfold kConv1 at hc
    split at hc
    · exact (noA_p hc).elim
    · exact (noA_p hc).elim
    · exact (noA_p hc).elim
    · rename_i e _
      obtain ⟨de, hde, hc⟩ := ob_eq hc
      obtain ⟨hb, hc⟩ := ot_eq hc
      obtain ⟨sz, hsz, hc⟩ := ob_eq hc
      obtain ⟨hs1, hc⟩ := ot_eq hc
      rw [nbeq_eq, decide_eq_true_eq] at hs1
      subst hs1
      have hq := (inj_a hc).symm
      subst hq
      have hde' : de = .int .u8 := by
        unfold isByte at hb
        split at hb
        · rfl
        · exact nomatch hb
      subst hde'
      obtain ⟨u, hu, he⟩ := ob_eq he
      obtain ⟨l, n, e1, he2⟩ := onStr_eq he
      subst e1
      injection he2 with he3
      injection he3 with hv hA
      refine ⟨_, hA.symm, fun μ ρ w hio hb => ?_⟩
      obtain ⟨str, es, hl, hn⟩ := (hio _ _ _ ha hu).inv_str
      have hexec : execOp ρ o = (do pure (.value (← convert s d (ρ x))) : Sem Next) := by unfold execOp; rw [ho]
      rw [hexec]
      exact strToBytes_born hb hds hdd hde hsz es hl hn hv
    · obtain ⟨_, _, hc⟩ := ob_eq hc
      obtain ⟨_, hc⟩ := ot_eq hc
      exact (noA_l hc).elim
    · obtain ⟨_, _, hc⟩ := ob_eq hc
      obtain ⟨_, hc⟩ := ot_eq hc
      exact (noA_l hc).elim
    · obtain ⟨_, _, hc⟩ := ob_eq hc
      obtain ⟨_, hc⟩ := ot_eq hc
      exact (noA_l hc).elim
    · exact nomatch hc
  | _ => rw [ho] at hc; exact nomatch hc
end Go.Ev
end

section
/- Ev, part 21: what is written. -/
namespace Go.Ev
set_option linter.unusedSectionVars false
variable [F : Facts] [E : Env]
set_option linter.unusedSimpArgs false
set_option linter.unusedVariables false
variable {P : Program} {μ : Mu}

/-- one block of the machine's is another -/
structure WSet (w w' : World) (b : Nat) (o : Obj) : Prop where
  same : w'.heap[b]? = some o
  other : ∀ c, c ≠ b → w'.heap[c]? = w.heap[c]?
  size : w'.heap.size = w.heap.size
  os : w'.os = w.os
  tape : w'.tape = w.tape
  output : w'.output = w.output

theorem setCell_at {w : World} {b o : Nat} {cs : Array Value} {e : TypeId} {fr : Nat × Nat} (h : w.heap[b]? = some (.cells cs e fr)) (v : Value) :
    WSet w (w.setCell ⟨b, o, none⟩ v) b (.cells (cs.setIfInBounds o v) e fr) := by
  refine ⟨?_, ?_, ?_, rfl, rfl, rfl⟩
  · show (w.heap.modify b _)[b]? = _
    rw [Array.getElem?_modify, if_pos rfl, h]
    rfl
  · intro c hc
    show (w.heap.modify b _)[c]? = _
    rw [Array.getElem?_modify, if_neg (fun e => hc e.symm)]
  · show (w.heap.modify b _).size = _
    rw [Array.size_modify]

def putsV (cs : Array Value) (o : Nat) : List Value → Array Value
  | [] => cs
  | v :: r => putsV (cs.setIfInBounds o v) (o + 1) r
theorem putsV_size : ∀ (vs : List Value) (cs : Array Value) (o : Nat), (putsV cs o vs).size = cs.size := by
  intro vs
  induction vs with
  | nil => intro cs o; rfl
  | cons v r ih => intro cs o; rw [putsV, ih, Array.size_setIfInBounds]
theorem putsV_get : ∀ (vs : List Value) (cs : Array Value) (o i : Nat), o + vs.length ≤ cs.size → (putsV cs o vs)[i]? = if o ≤ i ∧ i < o + vs.length then vs[i - o]? else cs[i]? := by
  intro vs
  induction vs with
  | nil => intro cs o i _; rw [if_neg (by simp only [List.length_nil]; omega)]; rfl
  | cons v r ih =>
    intro cs o i h
    simp only [List.length_cons] at h
    rw [putsV, ih _ _ _ (by rw [Array.size_setIfInBounds]; omega), Array.getElem?_setIfInBounds]
    by_cases h1 : o + 1 ≤ i ∧ i < o + 1 + r.length
    · rw [if_pos h1, if_pos (by simp; omega), show i - o = (i - (o + 1)) + 1 from by omega, List.getElem?_cons_succ]
    · rw [if_neg h1]
      by_cases e : o = i
      · subst e; rw [if_pos rfl, if_pos (by omega), if_pos (by simp), Nat.sub_self, List.getElem?_cons_zero]
      · rw [if_neg e, if_neg (by simp; omega)]
theorem setCells_at : ∀ (vs : List Value) {w : World} {b o : Nat} {cs : Array Value} {e : TypeId} {fr : Nat × Nat}, w.heap[b]? = some (.cells cs e fr) →
    WSet w (w.setCells b o vs) b (.cells (putsV cs o vs) e fr) := by
  intro vs
  induction vs with
  | nil => intro w b o cs e fr h; exact ⟨h, fun _ _ => rfl, rfl, rfl, rfl, rfl⟩
  | cons v r ih =>
    intro w b o cs e fr h
    have h1 := setCell_at (o := o) h v
    have h2 := ih (o := o + 1) h1.same
    exact ⟨h2.same, fun c hc => (h2.other c hc).trans (h1.other c hc), h2.size.trans h1.size, h2.os.trans h1.os, h2.tape.trans h1.tape, h2.output.trans h1.output⟩

/-! ### who is gone -/
theorem kill_get (keep : Nat) : ∀ (l : List Nat) (objs : T AObj) (c : Nat), (AH.kill objs keep l).get c = if c ∈ l ∧ c ≠ keep then none else objs.get c := by
  intro l
  induction l with
  | nil => intro objs c; simp; rfl
  | cons b l ih =>
    intro objs c
    show (bif2 (Nat.beq b keep) (AH.kill objs keep l) (AH.kill (objs.put none b) keep l)).get c = _
    rw [bif2_eq, nbeq_eq]
    by_cases e : b = keep
    · subst e
      rw [if_pos (by simp), ih]
      by_cases h : c ∈ l ∧ c ≠ b
      · rw [if_pos h, if_pos ⟨by simp [h.1], h.2⟩]
      · rw [if_neg h, if_neg]
        rintro ⟨h1, h2⟩
        simp only [List.mem_cons] at h1
        rcases h1 with h1 | h1
        · exact h2 h1
        · exact h ⟨h1, h2⟩
    · rw [if_neg (by simpa using e), ih]
      by_cases h : c ∈ l ∧ c ≠ keep
      · rw [if_pos h, if_pos ⟨by simp [h.1], h.2⟩]
      · rw [if_neg h, T.get_put]
        by_cases ec : c = b
        · subst ec; rw [if_pos rfl, if_pos ⟨by simp, e⟩]
        · rw [if_neg ec, if_neg]
          rintro ⟨h1, h2⟩
          simp only [List.mem_cons] at h1
          rcases h1 with h1 | h1
          · exact ec h1
          · exact h ⟨h1, h2⟩

theorem only_get (A : AH) (b ch c : Nat) : (A.only b ch).objs.get c = if (∃ l, A.chains.get ch = some l ∧ c ∈ l) ∧ c ≠ b then none else A.objs.get c := by
  unfold AH.only
  cases h : A.chains.get ch with
  | none => simp
  | some l => simp only [kill_get]; simp
theorem only_chains (A : AH) (b ch k : Nat) : (A.only b ch).chains.get k = if k = ch then none else A.chains.get k := by
  unfold AH.only
  cases h : A.chains.get ch with
  | none =>
    simp only
    split
    · rename_i e; rw [e, h]
    · rfl
  | some l => simp only [T.get_put]
theorem only_next (A : AH) (b ch : Nat) : (A.only b ch).next = A.next := by
  unfold AH.only
  cases h : A.chains.get ch <;> rfl

/-- one block is changed; who shares memory with it is gone -/
theorem R.setG {A A' : AH} {w w' : World} (h : R P μ A w) {b : Nat} {o o2 : AObj} {o' : Obj} {m : Nat × Nat × Option (Nat × Nat)} (hb : A.objs.get b = some o) (hm : μ b = some m) (hw : WSet w w' m.1 o')
    (hr : ObjR P μ m.2.1 m.2.2 o2 o') (hb' : A'.objs.get b = some o2) (hch : chO o2 = chO o) (hn : nO o2 = nO o) (hnext : A'.next = A.next)
    (hsub : ∀ c p, c ≠ b → A'.objs.get c = some p → A.objs.get c = some p)
    (hex : ∀ c p n, c ≠ b → A'.objs.get c = some p → μ c = some n → n.1 ≠ m.1)
    (hchain : ∀ k l, A'.chains.get k = some l → A.chains.get k = some l)
    (hkeep : ∀ k l c p, A.chains.get k = some l → c ∈ l → c ≠ b → A'.objs.get c = some p → A'.chains.get k = some l) : R P μ A' w' where
  obj c p n h1 h2 := by
    by_cases e : c = b
    · subst e
      rw [hm] at h2; injection h2 with h2; subst h2
      rw [hb'] at h1; injection h1 with h1; subst h1
      exact ⟨o', hw.same, hr⟩
    · obtain ⟨p', h3, h4⟩ := h.obj c p n (hsub c p e h1) h2
      exact ⟨p', by rw [hw.other _ (hex c p n e h1 h2)]; exact h3, h4⟩
  dom c n h1 := by rw [hnext, hw.size]; exact h.dom c n h1
  live c p h1 := by
    rw [hnext]
    by_cases e : c = b
    · subst e; exact h.live _ _ hb
    · exact h.live c p (hsub c p e h1)
  glob := h.glob
  sep b1 b2 o1 o2' m1 m2 hne h1 h2 h3 h4 e := by
    by_cases e1 : b1 = b
    · subst e1
      rw [hm] at h3; injection h3 with h3; subst h3
      exact absurd e.symm (hex b2 o2' m2 (fun x => hne x.symm) h2 h4)
    · by_cases e2 : b2 = b
      · subst e2
        rw [hm] at h4; injection h4 with h4; subst h4
        exact absurd e (hex b1 o1 m1 e1 h1 h3)
      · rcases h.sep b1 b2 o1 o2' m1 m2 hne (hsub _ _ e1 h1) (hsub _ _ e2 h2) h3 h4 e with hrr | ⟨ch, l, k1, k2, k3, k4, k5⟩
        · exact .inl hrr
        refine .inr ?_
        exact ⟨ch, l, k1, k2, hkeep ch l b1 o1 k3 k4 e1 h1, k4, k5⟩
  ord ch l hl := (h.ord ch l (hchain ch l hl)).imp fun {b1 b2} hh o1 o2' m1 m2 h1 h2 h3 h4 e => by
    have key : ∀ c p, A'.objs.get c = some p → ∃ p', A.objs.get c = some p' ∧ nO p' = nO p := by
      intro c p hc
      by_cases e : c = b
      · subst e
        rw [hb'] at hc; injection hc with hc; subst hc
        exact ⟨o, hb, hn.symm⟩
      · exact ⟨p, hsub c p e hc, rfl⟩
    obtain ⟨p1, q1, n1⟩ := key b1 o1 h1
    obtain ⟨p2, q2, n2⟩ := key b2 o2' h2
    rw [← n1, ← n2]
    exact hh p1 p2 m1 m2 q1 q2 h3 h4 e
  mem ch l c hl hc := h.mem ch l c (hchain ch l hl) hc

theorem kept_setG {A A' : AH} {w w' : World} {B : Nat} {b : Nat} {o : AObj} {o' : Obj} {m : Nat × Nat × Option (Nat × Nat)} (hb : A.objs.get b = some o) (hm : μ b = some m) (hw : WSet w w' m.1 o')
    (hwr : wrO o = true) (hnext : A'.next = A.next) (hsub : ∀ c p, c ≠ b → A'.objs.get c = some p → A.objs.get c = some p)
    (hun : ∀ c, μ c = none → A'.objs.get c = A.objs.get c)
    (hl : ∀ L, w.heap[m.1]? = some (.loop L) → ∃ L' : Loop, o' = .loop L' ∧ L'.defers = L.defers) : Kept B μ μ A A' w w' where
  le := Mu.le_refl _
  os := hw.os
  tape := hw.tape
  output := hw.output
  size := Nat.le_of_eq hw.size.symm
  next := Nat.le_of_eq hnext.symm
  block c hc hnw := hw.other c fun e => hnw ⟨b, m, o, hm, e.symm, hb, hwr⟩
  wr c hc := by
    rintro ⟨b1, m1, o1, h1, h2, h3, h4⟩
    by_cases e : b1 = b
    · subst e
      rw [hm] at h1; injection h1 with h1; subst h1
      exact ⟨b1, m, o, hm, h2, hb, hwr⟩
    · exact ⟨b1, m1, o1, h1, h2, hsub b1 o1 e h3, h4⟩
  unborn c _ hn := ⟨hn, hun c hn⟩
  loops c L hc := by
    by_cases e : c = m.1
    · subst e
      obtain ⟨L', e1, e2⟩ := hl L hc
      exact ⟨L', by rw [hw.same, e1], e2⟩
    · exact ⟨L, by rw [hw.other c e]; exact hc, rfl⟩

/-- a row is changed -/
theorem R.own {A : AH} {w w' : World} (h : R P μ A w) {b : Nat} {n : Nat} {c c2 : Cells} {e : TypeId} {ex : Bool} {md fz fz2 ch : Nat} {o' : Obj} {m : Nat × Nat × Option (Nat × Nat)}
    (hb : A.obj b = some (.cells n c e ex md fz ch)) (hm : μ b = some m) (hw : WSet w w' m.1 o') (hmd : md ≠ 1)
    (hr : ObjR P μ m.2.1 m.2.2 (.cells n c2 e ex md fz2 ch) o') (B : Nat) :
    R P μ ((A.only b ch).set b (.cells n c2 e ex md fz2 ch)) w' ∧ Kept B μ μ A ((A.only b ch).set b (.cells n c2 e ex md fz2 ch)) w w' := by
  have get : ∀ c', ((A.only b ch).set b (.cells n c2 e ex md fz2 ch)).objs.get c' = if c' = b then some (.cells n c2 e ex md fz2 ch) else if (∃ l, A.chains.get ch = some l ∧ c' ∈ l) ∧ c' ≠ b then none else A.objs.get c' := by
    intro c'
    unfold AH.set
    rw [T.get_put, only_get]
  have chs : ∀ k, ((A.only b ch).set b (.cells n c2 e ex md fz2 ch)).chains.get k = if k = ch then none else A.chains.get k := fun k => only_chains A b ch k
  have hsub : ∀ c' p, c' ≠ b → ((A.only b ch).set b (.cells n c2 e ex md fz2 ch)).objs.get c' = some p → A.objs.get c' = some p := by
    intro c' p hne hc
    rw [get, if_neg hne] at hc
    split at hc
    · exact nomatch hc
    · exact hc
  have hkill : ∀ c' p l, c' ≠ b → ((A.only b ch).set b (.cells n c2 e ex md fz2 ch)).objs.get c' = some p → A.chains.get ch = some l → c' ∈ l → False := by
    intro c' p l hne hc hl hcl
    rw [get, if_neg hne, if_pos ⟨⟨l, hl, hcl⟩, hne⟩] at hc
    exact nomatch hc
  refine ⟨h.setG hb hm hw hr (by rw [get, if_pos rfl]) rfl rfl (only_next A b ch) hsub ?_ ?_ ?_, kept_setG hb hm hw (by simpa [wrO] using hmd) (only_next A b ch) hsub ?_ ?_⟩
  · intro c' p nn hne hc hmc e'
    obtain ⟨ch', l, k1, k2, k3, k4, k5⟩ := (h.sep c' b p _ nn m hne (hsub c' p hne hc) hb hmc hm e').resolve_left (fun hr => nomatch hr.2)
    injection k2 with k2
    subst k2
    exact hkill c' p l hne hc k3 k4
  · intro k l hl
    rw [chs] at hl
    split at hl
    · exact nomatch hl
    · exact hl
  · intro k l c' p hl hcl hne hc
    rw [chs, if_neg]
    · exact hl
    · intro e'
      subst e'
      exact hkill c' p l hne hc hl hcl
  · intro c' hn
    have hne : c' ≠ b := by intro e'; subst e'; rw [hm] at hn; exact nomatch hn
    rw [get, if_neg hne, if_neg]
    rintro ⟨⟨l, hl, hcl⟩, _⟩
    exact h.mem ch l c' hl hcl hn
  · intro L hL
    obtain ⟨q, hq, hqr⟩ := h.obj b _ m hb hm
    rw [hL] at hq
    injection hq with hq
    subst hq
    exact hqr.elim

/-- what is no row is changed -/
theorem R.plain {A : AH} {w w' : World} (h : R P μ A w) {b : Nat} {o o2 : AObj} {o' : Obj} {m : Nat × Nat × Option (Nat × Nat)} (hb : A.obj b = some o) (hm : μ b = some m) (hw : WSet w w' m.1 o')
    (hc : chO o = none) (hc2 : chO o2 = none) (hwr : wrO o = true) (hr : ObjR P μ m.2.1 m.2.2 o2 o') (hl : ∀ L, w.heap[m.1]? = some (.loop L) → ∃ L' : Loop, o' = .loop L' ∧ L'.defers = L.defers) (B : Nat) :
    R P μ (A.set b o2) w' ∧ Kept B μ μ A (A.set b o2) w w' := by
  have get : ∀ c', (A.set b o2).objs.get c' = if c' = b then some o2 else A.objs.get c' := by
    intro c'
    unfold AH.set
    rw [T.get_put]
  have nz : ∀ o, chO o = none → nO o = 0 := by intro o ho; cases o <;> first | rfl | exact nomatch ho
  have hsub : ∀ c' p, c' ≠ b → (A.set b o2).objs.get c' = some p → A.objs.get c' = some p := by
    intro c' p hne hc
    rw [get, if_neg hne] at hc
    exact hc
  refine ⟨h.setG hb hm hw hr (by rw [get, if_pos rfl]) (by rw [hc, hc2]) (by rw [nz _ hc, nz _ hc2]) rfl hsub ?_ (fun k l hl => hl) (fun k l c' p hl _ _ _ => hl), kept_setG hb hm hw hwr rfl hsub ?_ hl⟩
  · intro c' p nn hne hcc hmc e'
    obtain ⟨ch', l, k1, k2, _⟩ := (h.sep c' b p _ nn m hne (hsub c' p hne hcc) hb hmc hm e').resolve_left (fun hr => by
      have h1 : isRow o = true := hr.2
      cases o with
      | row n c => simp [wrO] at hwr
      | _ => simp [isRow] at h1)
    rw [hc] at k2
    exact nomatch k2
  · intro c' hn
    have hne : c' ≠ b := by intro e'; subst e'; rw [hm] at hn; exact nomatch hn
    rw [get, if_neg hne]

/-! ### rows -/
theorem setsN_get (l : List AV) (o : Nat) (vs : List AV) (h : o + vs.length ≤ l.length) (i : Nat) : (setsN l o vs)[i]? = if o ≤ i ∧ i < o + vs.length then vs[i - o]? else l[i]? := by
  rw [setsN_eq, List.getElem?_append, List.length_take, Nat.min_eq_left (by omega)]
  by_cases h1 : i < o
  · rw [if_pos h1, if_neg (by omega), List.getElem?_take, if_pos h1]
  · rw [if_neg h1, List.getElem?_append]
    by_cases h2 : i - o < vs.length
    · rw [if_pos h2, if_pos (by omega)]
    · rw [if_neg h2, if_neg (by omega), List.getElem?_drop, show o + vs.length + (i - o - vs.length) = i from by omega]
theorem trPuts_get : ∀ (vs : List AV) (o : Nat) (t : T AV) (i : Nat), (trPuts vs o t).get i = if o ≤ i ∧ i < o + vs.length then vs[i - o]? else t.get i := by
  intro vs
  induction vs with
  | nil => intro o t i; rw [if_neg (by simp only [List.length_nil]; omega)]; rfl
  | cons v r ih =>
    intro o t i
    show (trPuts r (Nat.succ o) (t.put (some v) o)).get i = _
    rw [ih, T.get_put]
    simp only [List.length_cons, Nat.succ_eq_add_one]
    by_cases h1 : o + 1 ≤ i ∧ i < o + 1 + r.length
    · rw [if_pos h1, if_pos (by omega), show i - o = (i - (o + 1)) + 1 from by omega, List.getElem?_cons_succ]
    · rw [if_neg h1]
      by_cases e : i = o
      · subst e; rw [if_pos rfl, if_pos (by omega), Nat.sub_self, List.getElem?_cons_zero]
      · rw [if_neg e, if_neg (by omega)]
theorem puts_get {c : Cells} {n : Nat} (hl : ∀ l, c = .lst l → l.length = n) {o : Nat} {vs : List AV} (h : o + vs.length ≤ n) (i : Nat) :
    (c.puts o vs).get i = if o ≤ i ∧ i < o + vs.length then vs[i - o]? else c.get i := by
  cases c with
  | lst l =>
    show nth (setsN l o vs) i = if _ then _ else nth l i
    rw [nth_eq, nth_eq, setsN_get _ _ _ (by rw [hl l rfl]; exact h)]
  | tr t => exact trPuts_get vs o t i
theorem puts_len {c : Cells} {n : Nat} (hl : ∀ l, c = .lst l → l.length = n) {o : Nat} {vs : List AV} (h : o + vs.length ≤ n) : ∀ l, c.puts o vs = .lst l → l.length = n := by
  intro l e
  cases c with
  | lst k =>
    have e2 : Cells.lst (setsN k o vs) = .lst l := e
    injection e2 with e2
    subst e2
    have := hl k rfl
    rw [setsN_eq]
    simp
    omega
  | tr t => exact nomatch e

theorem one_v {l : List AV} {l' : List Value} (h : VRs μ l l') (h1 : ∀ v ∈ l, oneA v = true) : ∀ v ∈ l', v.oneCell' = true := by
  induction h with
  | nil => intro v hv; exact nomatch hv
  | @cons a b l m hab hl ih =>
    intro v hv
    simp only [List.mem_cons] at hv
    rcases hv with rfl | hv
    · have e := hab.one
      rw [h1 a (by simp)] at e
      cases v <;> first | rfl | exact nomatch e
    · exact ih (fun v hv => h1 v (by simp [hv])) v hv

/-- cells written -/
theorem write_ok {A A' : AH} {w : World} (h : R P μ A w) {b o : Nat} {vs : List AV} {vs' : List Value} {b' d : Nat} {x : Option (Nat × Nat)} (hw : A.write b o vs = some A') (hm : μ b = some (b', d, x))
    (hv : VRs μ vs vs') (h1 : ∀ v ∈ vs, oneA v = true) (B : Nat) :
    ∃ w', (storeCells ⟨b', d + o, none⟩ vs').run P w = .ok () w' ∧ R P μ A' w' ∧ Kept B μ μ A A' w w' ∧ A'.next = A.next := by
  obtain ⟨ob', ho, hw⟩ := ob_eq hw
  obtain ⟨n, c, e, ex, md, fz, ch, rfl, hw⟩ := onCells_eq hw
  unfold AH.write1 at hw
  obtain ⟨hc, hw⟩ := ot_eq hw
  simp only [ba_eq, nb_eq, nbeq_eq, nle_eq, len_eq, Bool.and_eq_true, Bool.not_eq_true', decide_eq_false_iff_not, decide_eq_true_eq] at hc
  obtain ⟨hmd, hfz, hle⟩ := hc
  replace hle : o + vs.length ≤ n := hle
  injection hw with hw
  obtain ⟨o', g1, g2⟩ := h.obj b _ _ ho hm
  cases o' with
  | cells cs e' fr =>
    obtain ⟨k1, k2, k3, k4, k5, k6, k7, k8, k9⟩ := g2
    simp only at k1 k2 k3 k4 k5 k6 k7 k8 k9 g1
    have hlen := hv.length
    have hset := setCells_at vs' (o := d + o) g1
    have hr : ObjR P μ d x (.cells n (c.puts o vs) e ex md fz ch) (.cells (putsV cs (d + o) vs') e' fr) := by
      refine ⟨k1, k2, by rw [putsV_size]; exact k3, ⟨k4.1, fun hx => by rw [putsV_size]; exact k4.2 hx⟩, puts_len k5 hle, ?_, ?_, k8, fun S s e => by rw [putsV_size]; exact k9 S s e⟩
      · intro i v hi
        rw [puts_get k5 hle] at hi
        rw [putsV_get _ _ _ _ (by omega)]
        split at hi
        · rename_i hin
          obtain ⟨v', hv', hr⟩ := hv.get hi
          refine ⟨by omega, h1 v (List.mem_of_getElem? hi), v', ?_, hr⟩
          rw [if_pos (by omega), show d + i - (d + o) = i - o from by omega]
          exact hv'
        · obtain ⟨a1, a2, v', a3, a4⟩ := k6 i v hi
          refine ⟨a1, a2, v', ?_, a4⟩
          rw [if_neg (by omega)]
          exact a3
      · intro j j1 j2 j3
        rw [putsV_size] at j3
        exact k7 j j1 j2 j3
    obtain ⟨q1, q2⟩ := h.own ho hm hset hmd hr B
    rw [hw] at q1 q2
    refine ⟨w.setCells b' (d + o) vs', ?_, q1, q2, by rw [← hw]; exact only_next A b ch⟩
    exact run_storeCells_cells (P := P) b' (d + o) vs' 0 w (fun j hj => by
        have hlt : d + o + j < cs.size := by omega
        unfold World.cell?
        simp only [g1]
        simp [hlt])
      (fun j hj => by
        unfold World.frozen?
        simp only [g1]
        cases hd : (decide (fr.1 ≤ d + o + 0 + j) && decide (d + o + 0 + j < fr.2)) with
        | false => rfl
        | true =>
          exfalso
          simp at hd
          have := k7 (d + o + j) hd.1 hd.2 (by omega)
          omega)
      (one_v hv h1)
  | _ => exact g2.elim
end Go.Ev
end

section
/- Ev, part 22: operations that act: stores, maps, iterators. -/
namespace Go.Ev
variable [F : Facts] [E : Env]
set_option linter.unusedSimpArgs false
set_option linter.unusedVariables false
set_option linter.unusedSectionVars false
variable {P : Program} {μ : Mu}
variable {wr : WrT} {io : Opd → Option AV} {ρ : Operand → Value}

/-- what an operation does: a value, or nothing to be kept -/
def Acts (P : Program) (μ : Mu) (A : AH) (w : World) (s : Sem Next) (v : AV) (A' : AH) : Prop :=
  ∃ nx v' w', s.run P w = .ok nx w' ∧ (nx = .value v' ∨ (nx = .skip ∧ v' = undef)) ∧ Post P μ A w v A' v' w'

theorem run_u {s : Sem Unit} {w w' : World} (h : s.run P w = .ok () w') : (do s; pure .skip : Sem Next).run P w = .ok .skip w' := by
  show (s >>= fun _ => (pure Next.skip : Sem Next)).run P w = _
  rw [run_ok h]; rfl
theorem acts_u {A A' : AH} {w w' : World} {s : Sem Unit} (h : s.run P w = .ok () w') (hR : R P μ A' w') (hK : Kept A.next μ μ A A' w w') : Acts P μ A w (do s; pure .skip) undefA A' :=
  ⟨.skip, undef, w', run_u h, .inr ⟨rfl, rfl⟩, μ, hR, .tup .nil, hK⟩
theorem acts_v {A A' : AH} {w w' : World} {s : Sem Value} {v : AV} {v' : Value} (h : s.run P w = .ok v' w') (hR : R P μ A' w') (hv : VR μ v v') (hK : Kept A.next μ μ A A' w w') :
    Acts P μ A w (do pure (.value (← s))) v A' :=
  ⟨.value v', v', w', run_v h, .inl rfl, μ, hR, hv, hK⟩

/-! ### the same -/
theorem ieq_true {a b : Int} (h : ieq a b = true) : a = b := by rw [ieq_eq] at h; simpa using h
theorem keq_true {a b : IntKind} (h : keq a b = true) : a = b := by rw [keq_eq] at h; simpa using h
mutual
theorem beq_true : ∀ (a b : AV), AV.beq a b = true → a = b
  | .bool a, b, h => by
    cases b with
    | bool b => unfold AV.beq at h; rw [beqB_eq] at h; simp at h; rw [h]
    | _ => unfold AV.beq at h; exact nomatch h
  | .int k a, b, h => by
    cases b with
    | int k' b =>
      unfold AV.beq at h
      rw [ba_eq, Bool.and_eq_true] at h
      rw [keq_true h.1, ieq_true h.2]
    | _ => unfold AV.beq at h; exact nomatch h
  | .str a c, b, h => by
    cases b with
    | str b d =>
      unfold AV.beq seqS at h
      simp only [ba_eq, Bool.and_eq_true, nbeq_eq, decide_eq_true_eq] at h
      rw [h.1, h.2]
    | _ => unfold AV.beq at h; exact nomatch h
  | .ptr a c, b, h => by
    cases b with
    | ptr b d =>
      unfold AV.beq at h
      simp only [ba_eq, Bool.and_eq_true, nbeq_eq, decide_eq_true_eq] at h
      rw [h.1, h.2]
    | _ => unfold AV.beq at h; exact nomatch h
  | .nilp, b, h => by cases b <;> first | rfl | (unfold AV.beq at h; exact nomatch h)
  | .sl a1 a2 a3 a4, b, h => by
    cases b with
    | sl b1 b2 b3 b4 =>
      unfold AV.beq at h
      simp only [ba_eq, Bool.and_eq_true, nbeq_eq, decide_eq_true_eq] at h
      rw [h.1.1, h.1.2, h.2.1, h.2.2]
    | _ => unfold AV.beq at h; exact nomatch h
  | .nils, b, h => by cases b <;> first | rfl | (unfold AV.beq at h; exact nomatch h)
  | .map a, b, h => by
    cases b with
    | map b =>
      unfold AV.beq at h
      simp only [nbeq_eq, decide_eq_true_eq] at h
      rw [h]
    | _ => unfold AV.beq at h; exact nomatch h
  | .nilm, b, h => by cases b <;> first | rfl | (unfold AV.beq at h; exact nomatch h)
  | .fn (.func f) a c, b, h => by
    cases b with
    | fn g b d =>
      cases g with
      | func g =>
        unfold AV.beq at h
        simp only [ba_eq, Bool.and_eq_true, nbeq_eq, decide_eq_true_eq] at h
        rw [h.1, beqs_true a b h.2.1, beqs_true c d h.2.2]
      | _ => simp [AV.beq] at h
    | _ => simp [AV.beq] at h
  | .fn (.method _) a c, b, h => by cases b <;> simp [AV.beq] at h
  | .fn (.methodOf _ _) a c, b, h => by cases b <;> simp [AV.beq] at h
  | .fn (.via _ _ _ _) a c, b, h => by cases b <;> simp [AV.beq] at h
  | .fn (.yield _) a c, b, h => by cases b <;> simp [AV.beq] at h
  | .nilf, b, h => by cases b <;> first | rfl | (unfold AV.beq at h; exact nomatch h)
  | .ifc t v, b, h => by
    cases b with
    | ifc u w =>
      unfold AV.beq at h
      simp only [ba_eq, Bool.and_eq_true, nbeq_eq, decide_eq_true_eq] at h
      rw [h.1, beq_true v w h.2]
    | _ => unfold AV.beq at h; exact nomatch h
  | .nili, b, h => by cases b <;> first | rfl | (unfold AV.beq at h; exact nomatch h)
  | .agg l, b, h => by
    cases b with
    | agg m => unfold AV.beq at h; rw [beqs_true l m h]
    | _ => unfold AV.beq at h; exact nomatch h
  | .res _ _ _, b, h => by cases b <;> simp [AV.beq] at h
  | .ub, b, h => by cases b <;> simp [AV.beq] at h
  | .slx _ _ _ _ _, b, h => by cases b <;> simp [AV.beq] at h
  | .sym k c l, b, h => by
    cases b with
    | sym k' d r =>
      unfold AV.beq at h
      simp only [ba_eq, Bool.and_eq_true] at h
      rw [keq_true h.1, ieq_true h.2.1, linEq_eq _ _ h.2.2]
    | _ => unfold AV.beq at h; exact nomatch h
  | .tup l, b, h => by
    cases b with
    | tup m => unfold AV.beq at h; rw [beqs_true l m h]
    | _ => unfold AV.beq at h; exact nomatch h
theorem beqs_true : ∀ (l m : List AV), AV.beqs l m = true → l = m
  | [], m, h => by cases m with
    | nil => rfl
    | cons => unfold AV.beqs at h; exact nomatch h
  | a :: l, m, h => by
    cases m with
    | nil => unfold AV.beqs at h; exact nomatch h
    | cons b m =>
      unfold AV.beqs at h
      rw [ba_eq, Bool.and_eq_true] at h
      rw [beq_true a b h.1, beqs_true l m h.2]
end

theorem inj_w {a b : WOp} (h : (some (IOp.w a)) = some (IOp.w b)) : a = b := by injection h with h; injection h

theorem run_setObj {w : World} {r : Nat} {o o2 : Obj} (h : w.heap[r]? = some o) (hc : ∀ c e f, o ≠ .cells c e f) : (setObj r o2).run P w = .ok () { w with heap := w.heap.setIfInBounds r o2 } := by
  unfold setObj
  cases o <;> first | exact absurd rfl (hc _ _ _) | simp only [Sem.run, h]
theorem setObj_wset {w : World} {r : Nat} {o : Obj} (h : w.heap[r]? = some o) (o2 : Obj) : WSet w { w with heap := w.heap.setIfInBounds r o2 } r o2 := by
  have hlt := (Array.getElem?_eq_some_iff.1 h).1
  refine ⟨?_, ?_, by simp, rfl, rfl, rfl⟩
  · show (w.heap.setIfInBounds r o2)[r]? = _
    rw [Array.getElem?_setIfInBounds, if_pos rfl, if_pos hlt]
  · intro c hc
    show (w.heap.setIfInBounds r o2)[c]? = _
    rw [Array.getElem?_setIfInBounds, if_neg (fun e => hc e.symm)]
theorem set_same {w : World} {r : Nat} {o : Obj} (h : w.heap[r]? = some o) : ({ w with heap := w.heap.setIfInBounds r o } : World) = w := by
  have : w.heap.setIfInBounds r o = w.heap := by
    apply Array.ext_getElem?
    intro i
    rw [Array.getElem?_setIfInBounds]
    split
    · rename_i e
      subst e
      rw [if_pos (Array.getElem?_eq_some_iff.1 h).1, h]
    · rfl
  rw [this]

theorem keyStays_ok {k : AV} {old new : Value} (h1 : VR μ k old) (h2 : VR μ k new) (w : World) : ∃ kk w', (Instr.keyThatStays old new).run P w = .ok kk w' ∧ VR μ k kk ∧ w'.heap = w.heap ∧ w'.os = w.os ∧ w'.tape = w.tape ∧ w'.output = w.output := by
  unfold Instr.keyThatStays
  split
  · exact ⟨new, w, rfl, h2, rfl, rfl, rfl, rfl⟩
  · rw [run_ok (run_choose _ w rfl)]
    split
    · exact ⟨new, _, rfl, h2, rfl, rfl, rfl, rfl⟩
    · exact ⟨old, _, rfl, h1, rfl, rfl, rfl, rfl⟩

abbrev EntR (μ : Mu) : AV × AV × Nat → MapEntry → Prop := fun a e => VR μ a.1 e.key ∧ VR μ a.2.1 e.val ∧ a.2.2 = e.born

section
variable (hio : IOR μ wr io ρ)
include hio

/-! ### a store -/
theorem store_ok {A A' : AH} {w : World} (hR : R P μ A w) {t : TypeId} {a x : Operand} {a' x' : Opd} {n : Nat} {g : Bool} (ha : opnd wr a = some a') (hx : opnd wr x = some x')
    (hg : tagg (ttOf P) t = some g) (hn : tsize (ttOf P) t = some n) (hgn : g = false → n = 1) {v : AV} (he : wStore io A n g a' x' = some (v, A')) :
    Acts P μ A w (do Instr.storeAt t (ρ a) (ρ x); pure .skip) v A' := by
  obtain ⟨u, hu, he⟩ := ob_eq he
  obtain ⟨b, o, e, he⟩ := onPtr_eq he
  subst e
  obtain ⟨y, hy, he⟩ := ob_eq he
  obtain ⟨b', d, xx, hm, ea⟩ := (hio _ _ _ ha hu).inv_ptr
  have hxr := hio _ _ _ hx hy
  have key : ∀ (vs : List AV) (vs' : Array Value), A.write b o vs = some A' → v = undefA → VRs μ vs vs'.toList → (∀ c ∈ vs, oneA c = true) → (ρ x).cells = vs' → vs.length = n →
      Acts P μ A w (do Instr.storeAt t (ρ a) (ρ x); pure .skip) v A' := by
    intro vs vs' hw hv hvs h1 hc hlen
    obtain ⟨w', r1, r2, r3, _⟩ := write_ok hR hw hm hvs h1 A.next
    rw [hv]
    refine acts_u (w' := w') ?_ r2 r3
    unfold Instr.storeAt
    rw [ea]
    show (storeVar t ⟨b', d + o, none⟩ (ρ x)).run P w = _
    unfold storeVar
    rw [run_ok (run_size hn w), hc]
    have : vs'.size = n := by rw [← hlen]; simpa using hvs.length.symm
    rw [if_neg (by simp [this])]
    exact r1
  unfold store1 at he
  split at he
  · rename_i cs
    obtain ⟨hc, he⟩ := ot_eq he
    rw [ba_eq, Bool.and_eq_true, nbeq_eq, decide_eq_true_eq, len_eq] at hc
    obtain ⟨A1, hw, he⟩ := ob_eq he
    injection he with he
    injection he with h1 h2
    subst h2
    obtain ⟨cs', ec, hr, h3⟩ := hxr.inv_agg
    exact key cs cs' hw h1.symm hr h3 (by rw [ec]; rfl) hc.2
  · exact nomatch he
  · rename_i hna hnt
    obtain ⟨hc, he⟩ := ot_eq he
    obtain ⟨A1, hw, he⟩ := ob_eq he
    injection he with he
    injection he with h1 h2
    subst h2
    have ho : oneA y = true := by cases y <;> first | rfl | exact absurd rfl (hna _) | exact absurd rfl (hnt _)
    refine key [y] #[ρ x] hw h1.symm (.cons hxr .nil) (by simpa using ho) ?_ ?_
    · have e1 := hxr.one
      rw [ho] at e1
      cases hh : ρ x <;> first | rfl | (rw [hh] at e1; exact nomatch e1)
    · have := hgn (by simpa using hc)
      simp [this]

/-! ### maps -/
theorem mapPut_ok {A A' : AH} {w : World} (hR : R P μ A w) {t : TypeId} {kt et : TypeId} {m k x : Operand} {m' k' x' : Opd} (hd : und (ttOf P) t = some (.map kt et)) (hm : opnd wr m = some m') (hk : opnd wr k = some k') (hx : opnd wr x = some x')
    {v : AV} (he : wMapPut P (ttOf P) io A kt m' k' x' = some (v, A')) :
    Acts P μ A w (do Instr.mapUpdate t (ρ m) (ρ k) (ρ x); pure .skip) v A' := by
  obtain ⟨mv, hmv, he⟩ := ob_eq he
  rcases onMap_eq he with ⟨b, e, he⟩ | ⟨_, he⟩
  · subst e
    obtain ⟨kv, hkv, he⟩ := ob_eq he
    obtain ⟨xv, hxv, he⟩ := ob_eq he
    obtain ⟨ob', ho, he⟩ := ob_eq he
    obtain ⟨es, clock, e, he⟩ := onMapO_eq he
    subst e
    obtain ⟨hck, he⟩ := ot_eq he
    obtain ⟨r, hf, he⟩ := ob_eq he
    obtain ⟨b', d, xx, hμ, em⟩ := (hio _ _ _ hm hmv).inv_map
    obtain ⟨es', hh, hes⟩ := hR.mapAt ho hμ
    have hkr := hio _ _ _ hk hkv
    have hxr := hio _ _ _ hx hxv
    obtain ⟨r', hfr, hrun⟩ := findKey_ok hkr w hf hes
    have hget := run_getObj (P := P) hh (fun c e f h => nomatch h)
    have hkey := key_ok (P := P) false 10000 kt kv (ρ k) w hck hkr
    have hrun0 : (Instr.mapUpdate t (ρ m) (ρ k) (ρ x)).run P w = (match r' with
        | some (i, _) => (do
          let key ← Instr.keyThatStays (((es'[i]?).map fun (e : MapEntry) => e.key).getD (ρ k)) (ρ k)
          setObj b' (.map (es'.modify i fun (e : MapEntry) => { e with key, val := ρ x }) clock) : Sem Unit)
        | none => setObj b' (.map (es'.push { key := ρ k, val := ρ x, born := clock }) (clock + 1))).run P w := by
      unfold Instr.mapUpdate
      rw [run_ok (run_und hd w), em]
      show (getObj b' >>= fun _ => _).run P w = _
      rw [run_ok hget]
      show (Instr.checkKey false 10000 kt (ρ k) >>= fun _ => _).run P w = _
      rw [run_ok hkey]
      show (Instr.findKey kt (ρ k) es'.toList >>= fun _ => _).run P w = _
      rw [run_ok hrun]
      cases r' with
      | none => rfl
      | some q => rfl
    split at he
    · rename_i i k0 v0
      obtain ⟨hbeq, he⟩ := ot_eq he
      obtain ⟨es2, hes2, he⟩ := ob_eq he
      injection he with he
      injection he with h1 h2
      have hk0 := beq_true _ _ hbeq
      subst hk0
      cases r' with
      | none => exact hfr.elim
      | some q =>
        obtain ⟨i', vv⟩ := q
        obtain ⟨hi, _, _, e1, he1, hek, _⟩ := hfr
        subst hi
        obtain ⟨e0, he0, hes2⟩ := ob_eq hes2
        injection hes2 with hes2
        rw [nth_eq] at he0
        simp only [Nat.sub_zero] at he1
        have he1' : es'[i]? = some e1 := by simpa using he1
        dsimp only at hrun0
        rw [he1'] at hrun0
        obtain ⟨kk, w1, hs, hkk, hh1, hos, htp, hop⟩ := keyStays_ok (P := P) hek hkr w
        have hobj1 : w1.heap[b']? = some (.map es' clock) := by rw [hh1]; exact hh
        have hset := setObj_wset hobj1 (.map (es'.modify i fun (e : MapEntry) => { e with key := kk, val := ρ x }) clock)
        have hset' : WSet w { w1 with heap := w1.heap.setIfInBounds b' (.map (es'.modify i fun (e : MapEntry) => { e with key := kk, val := ρ x }) clock) } b' (.map (es'.modify i fun (e : MapEntry) => { e with key := kk, val := ρ x }) clock) :=
          ⟨hset.same, fun c hc => (hset.other c hc).trans (by rw [hh1]), by rw [hset.size, hh1], hset.os.trans hos, hset.tape.trans htp, hset.output.trans hop⟩
        have hnew : ObjR P μ d xx (.map es2 clock) (.map (es'.modify i fun (e : MapEntry) => { e with key := kk, val := ρ x }) clock) := by
          refine ⟨rfl, ?_⟩
          rw [← hes2, setN_eq]
          refine All2.of_get (by simp; exact hes.length) fun j a e ha hee => ?_
          rw [List.getElem?_set] at ha
          simp only [Array.getElem?_toList, Array.getElem?_modify] at hee
          split at ha
          · rename_i hij
            subst hij
            rw [if_pos rfl, he1'] at hee
            injection hee with hee
            split at ha
            · injection ha with ha
              subst ha; subst hee
              obtain ⟨e2, h3, h4⟩ := hes.get he0
              have : e2 = e1 := by
                rw [he1] at h3; injection h3 with h3; exact h3.symm
              subst this
              exact ⟨hkk, hxr, h4.2.2⟩
            · exact nomatch ha
          · rename_i hij
            rw [if_neg hij] at hee
            obtain ⟨e2, h3, h4⟩ := hes.get ha
            have : e2 = e := by
              have h5 : es'[j]? = some e2 := by simpa using h3
              rw [h5] at hee; injection hee
            subst this
            exact h4
        obtain ⟨q1, q2⟩ := hR.plain ho hμ hset' rfl rfl rfl hnew (fun L hL => by rw [hh] at hL; exact nomatch hL) A.next
        rw [← h1]
        refine acts_u (A' := A') (w' := _) ?_ (by rw [← h2]; exact q1) (by rw [← h2]; exact q2)
        rw [hrun0]
        show (Instr.keyThatStays e1.key (ρ k) >>= fun _ => _).run P w = _
        rw [run_ok hs]
        exact run_setObj hobj1 (fun c e f h => nomatch h)
    · injection he with he
      injection he with h1 h2
      cases r' with
      | some q => exact hfr.elim
      | none =>
        have hset := setObj_wset hh (.map (es'.push { key := ρ k, val := ρ x, born := clock }) (clock + 1))
        have hnew : ObjR P μ d xx (.map (app es [(kv, xv, clock)]) (Nat.succ clock)) (.map (es'.push { key := ρ k, val := ρ x, born := clock }) (clock + 1)) := by
          refine ⟨rfl, ?_⟩
          rw [app_eq, Array.toList_push]
          exact hes.append (.cons ⟨hkr, hxr, rfl⟩ .nil)
        obtain ⟨q1, q2⟩ := hR.plain ho hμ hset rfl rfl rfl hnew (fun L hL => by rw [hh] at hL; exact nomatch hL) A.next
        rw [← h1]
        refine acts_u (A' := A') (w' := _) ?_ (by rw [← h2]; exact q1) (by rw [← h2]; exact q2)
        rw [hrun0]
        exact run_setObj hh (fun c e f h => nomatch h)
  · exact nomatch he
end
end Go.Ev
end

section
/- Ev, part 23: append: a row that may lie behind another. -/
namespace Go.Ev
variable [F : Facts] [E : Env]
set_option linter.unusedSimpArgs false
set_option linter.unusedVariables false
set_option linter.unusedSectionVars false
variable {P : Program} {μ : Mu}

theorem takeTo_cons (b c : Nat) (l : List Nat) : takeTo b (c :: l) = if c = b then [] else c :: takeTo b l := by
  show bif2 (Nat.beq c b) [] (c :: takeTo b l) = _
  rw [bif2_eq, nbeq_eq]; simp
theorem dropTo_cons (b c : Nat) (l : List Nat) : dropTo b (c :: l) = if c = b then l else dropTo b l := by
  show bif2 (Nat.beq c b) l (dropTo b l) = _
  rw [bif2_eq, nbeq_eq]; simp
theorem take_drop_to (b : Nat) : ∀ l : List Nat, b ∈ l → takeTo b l ++ b :: dropTo b l = l := by
  intro l
  induction l with
  | nil => intro h; exact nomatch h
  | cons c l ih =>
    intro h
    rw [takeTo_cons, dropTo_cons]
    by_cases e : c = b
    · rw [if_pos e, if_pos e, e]; rfl
    · rw [if_neg e, if_neg e, List.cons_append, ih]
      simp only [List.mem_cons] at h
      exact h.elim (fun h => absurd h.symm e) id
theorem takeTo_sub (b : Nat) : ∀ (l : List Nat) c, c ∈ takeTo b l → c ∈ l := by
  intro l
  induction l with
  | nil => intro c h; exact h
  | cons a l ih =>
    intro c h
    rw [takeTo_cons] at h
    split at h
    · exact nomatch h
    · simp only [List.mem_cons] at h ⊢
      exact h.imp id (ih c)
theorem dropTo_sub (b : Nat) : ∀ (l : List Nat) c, c ∈ dropTo b l → c ∈ l := by
  intro l
  induction l with
  | nil => intro c h; exact h
  | cons a l ih =>
    intro c h
    rw [dropTo_cons] at h
    split at h
    · exact List.mem_cons_of_mem _ h
    · exact List.mem_cons_of_mem _ (ih c h)

/-- the heap behind an append -/
noncomputable def grewA (A : AH) (b ch : Nat) (o : AObj) : AH :=
  ⟨(AH.kill A.objs b (takeTo b (members A b ch))).put (some o) A.next, Nat.succ A.next, A.chains.put (some (A.next :: b :: dropTo b (members A b ch))) ch⟩

theorem members_mem {A : AH} {w : World} (h : R P μ A w) {b ch : Nat} (hb : μ b ≠ none) : ∀ c, c ∈ members A b ch → μ c ≠ none := by
  intro c hc
  unfold members at hc
  split at hc
  · rename_i l hl
    exact h.mem ch l c hl hc
  · simp only [List.mem_singleton] at hc
    subst hc; exact hb

theorem grewA_get (A : AH) (b ch : Nat) (o : AObj) (c : Nat) : (grewA A b ch o).objs.get c = if c = A.next then some o else if c ∈ takeTo b (members A b ch) ∧ c ≠ b then none else A.objs.get c := by
  unfold grewA
  rw [T.get_put, kill_get]
theorem grewA_chains (A : AH) (b ch : Nat) (o : AObj) (k : Nat) : (grewA A b ch o).chains.get k = if k = ch then some (A.next :: b :: dropTo b (members A b ch)) else A.chains.get k := by
  unfold grewA
  rw [T.get_put]

/-- who lives on and shares memory with b ends no later -/
theorem elder {A : AH} {w : World} (h : R P μ A w) {b ch : Nat} {ob' o : AObj} {m : Nat × Nat × Option (Nat × Nat)} (hb : A.objs.get b = some ob') (hch : chO ob' = some ch) (hm : μ b = some m)
    {c : Nat} {p : AObj} {mc : Nat × Nat × Option (Nat × Nat)} (hne : c ≠ A.next) (hcb : c ≠ b) (hc : (grewA A b ch o).objs.get c = some p) (hmc : μ c = some mc) (he : mc.1 = m.1) :
    A.objs.get c = some p ∧ (∃ l, A.chains.get ch = some l ∧ b ∈ l ∧ members A b ch = l ∧ c ∈ dropTo b l) ∧ chO p = some ch ∧ mc.2.1 + nO p ≤ m.2.1 + nO ob' := by
  rw [grewA_get, if_neg hne] at hc
  split at hc
  · exact nomatch hc
  · rename_i hnt
    obtain ⟨ch', l, k1, k2, k3, k4, k5⟩ := (h.sep c b p ob' mc m hcb hc hb hmc hm he).resolve_left (fun hr => by
      cases ob' with
      | row n c => exact nomatch hch
      | _ => exact nomatch hr.2)
    rw [hch] at k2
    injection k2 with k2
    subst k2
    have hmem : members A b ch = l := by unfold members; rw [k3]
    have hcd : c ∈ dropTo b l := by
      have : c ∈ takeTo b l ++ b :: dropTo b l := by rw [take_drop_to b l k5]; exact k4
      simp only [List.mem_append, List.mem_cons] at this
      rcases this with h1 | h1 | h1
      · exact absurd ⟨by rw [hmem]; exact h1, hcb⟩ hnt
      · exact absurd h1 hcb
      · exact h1
    refine ⟨hc, ⟨l, k3, k5, hmem, hcd⟩, k1, ?_⟩
    have hp := h.ord ch l k3
    rw [← take_drop_to b l k5] at hp
    have hp2 := (List.pairwise_append.1 hp).2.1
    exact (List.pairwise_cons.1 hp2).1 c hcd ob' p m mc hb hc hm hmc he.symm

theorem R.grew {A : AH} {w w' : World} (h : R P μ A w) {b ch : Nat} {ob' o : AObj} {m m' : Nat × Nat × Option (Nat × Nat)} (hb : A.objs.get b = some ob') (hch : chO ob' = some ch) (hm : μ b = some m)
    (hco : chO o = some ch) (hn : nO ob' ≤ nO o)
    (hobj : ∀ c p mc, c ≠ A.next → (grewA A b ch o).objs.get c = some p → μ c = some mc → ∃ p', w'.heap[mc.1]? = some p' ∧ ObjR P (μ.put A.next m') mc.2.1 mc.2.2 p p')
    (hnew : ∃ p', w'.heap[m'.1]? = some p' ∧ ObjR P (μ.put A.next m') m'.2.1 m'.2.2 o p')
    (hsize : w.heap.size ≤ w'.heap.size)
    (hshare : (m'.1 = m.1 ∧ m'.2.1 = m.2.1) ∨ (∀ c mc, μ c = some mc → mc.1 ≠ m'.1)) : R P (μ.put A.next m') (grewA A b ch o) w' := by
  have hle : μ.le (μ.put A.next m') := Mu.le_put _ h.next_none
  have hbn : b ≠ A.next := by intro e; subst e; rw [h.next_none] at hm; exact nomatch hm
  have cases' : ∀ c mc, (μ.put A.next m') c = some mc → (c = A.next ∧ mc = m') ∨ (c ≠ A.next ∧ μ c = some mc) := by
    intro c mc hc
    by_cases e : c = A.next
    · subst e; rw [Mu.put_same] at hc; injection hc with hc; exact .inl ⟨rfl, hc.symm⟩
    · rw [Mu.put_ne _ _ e] at hc; exact .inr ⟨e, hc⟩
  have hsub : ∀ c p, c ≠ A.next → (grewA A b ch o).objs.get c = some p → A.objs.get c = some p := by
    intro c p hne hc
    rw [grewA_get, if_neg hne] at hc
    split at hc
    · exact nomatch hc
    · exact hc
  have hself : ∀ p, (grewA A b ch o).objs.get A.next = some p → p = o := by
    intro p hp
    rw [grewA_get, if_pos rfl] at hp
    injection hp with hp
    exact hp.symm
  have hwith : ∀ c p mc, c ≠ A.next → (grewA A b ch o).objs.get c = some p → μ c = some mc → mc.1 = m'.1 →
      chO p = some ch ∧ c ∈ b :: dropTo b (members A b ch) ∧ mc.2.1 + nO p ≤ m'.2.1 + nO o := by
    intro c p mc hne hc hmc he
    rcases hshare with ⟨s1, s2⟩ | hs
    · by_cases ecb : c = b
      · subst ecb
        rw [hm] at hmc; injection hmc with hmc; subst hmc
        have := hsub c p hne hc
        rw [hb] at this; injection this with this; subst this
        exact ⟨hch, by simp, by rw [s2]; omega⟩
      · obtain ⟨k1, ⟨l, k2, k3, k4, k5⟩, k6, k7⟩ := elder h hb hch hm hne ecb hc hmc (he.trans s1)
        refine ⟨k6, by rw [k4]; exact List.mem_cons_of_mem _ k5, by rw [s2]; omega⟩
    · exact absurd he (hs c mc hmc)
  have hchn : (grewA A b ch o).chains.get ch = some (A.next :: b :: dropTo b (members A b ch)) := by rw [grewA_chains, if_pos rfl]
  exact {
    obj := fun c p mc h1 h2 => by
      rcases cases' c mc h2 with ⟨rfl, rfl⟩ | ⟨hne, h3⟩
      · rw [hself p h1]; exact hnew
      · exact hobj c p mc hne h1 h3
    dom := fun c mc h1 => by
      rcases cases' c mc h1 with ⟨rfl, rfl⟩ | ⟨hne, h3⟩
      · obtain ⟨p', k1, _⟩ := hnew
        exact ⟨Nat.lt_succ_self _, (Array.getElem?_eq_some_iff.1 k1).1⟩
      · exact ⟨Nat.lt_succ_of_lt (h.dom c mc h3).1, Nat.lt_of_lt_of_le (h.dom c mc h3).2 hsize⟩
    live := fun c p h1 => by
      by_cases e : c = A.next
      · subst e; exact Nat.lt_succ_self _
      · exact Nat.lt_succ_of_lt (h.live c p (hsub c p e h1))
    glob := fun g hg => hle _ _ (h.glob g hg)
    sep := fun b1 b2 o1 o2 m1 m2 hne h1 h2 h3 h4 e => by
      rcases cases' b1 m1 h3 with ⟨rfl, rfl⟩ | ⟨hn1, k3⟩
      · rcases cases' b2 m2 h4 with ⟨rfl, rfl⟩ | ⟨hn2, k4⟩
        · exact absurd rfl hne
        · obtain ⟨q1, q2, _⟩ := hwith b2 o2 m2 hn2 h2 k4 e.symm
          refine .inr ?_
          exact ⟨ch, _, by rw [hself o1 h1]; exact hco, q1, hchn, by simp, List.mem_cons_of_mem _ q2⟩
      · rcases cases' b2 m2 h4 with ⟨rfl, rfl⟩ | ⟨hn2, k4⟩
        · obtain ⟨q1, q2, _⟩ := hwith b1 o1 m1 hn1 h1 k3 e
          refine .inr ?_
          exact ⟨ch, _, q1, by rw [hself o2 h2]; exact hco, hchn, List.mem_cons_of_mem _ q2, by simp⟩
        · rcases h.sep b1 b2 o1 o2 m1 m2 hne (hsub _ _ hn1 h1) (hsub _ _ hn2 h2) k3 k4 e with hrr | ⟨ch', l, j1, j2, j3, j4, j5⟩
          · exact .inl hrr
          refine .inr ?_
          by_cases ec : ch' = ch
          · subst ec
            have alive : ∀ c p, c ≠ A.next → (grewA A b ch' o).objs.get c = some p → c ∈ l → c ∈ b :: dropTo b (members A b ch') := by
              intro c p hcn hc hcl
              rw [grewA_get, if_neg hcn] at hc
              split at hc
              · exact nomatch hc
              · rename_i hnt
                have hmem : members A b ch' = l := by unfold members; rw [j3]
                rw [hmem] at hnt ⊢
                by_cases ecb : c = b
                · subst ecb; simp
                · have hbl : b ∈ l := by
                    by_cases hbl : b ∈ l
                    · exact hbl
                    · exfalso
                      have : ∀ l : List Nat, b ∉ l → takeTo b l = l := by
                        intro l
                        induction l with
                        | nil => intro _; rfl
                        | cons a l ih =>
                          intro hh
                          simp only [List.mem_cons, not_or] at hh
                          rw [takeTo_cons, if_neg (fun e => hh.1 e.symm), ih hh.2]
                      exact hnt ⟨by rw [this l hbl]; exact hcl, ecb⟩
                  have : c ∈ takeTo b l ++ b :: dropTo b l := by rw [take_drop_to b l hbl]; exact hcl
                  simp only [List.mem_append] at this
                  rcases this with h1 | h1
                  · exact absurd ⟨h1, ecb⟩ hnt
                  · exact h1
            exact ⟨ch', _, j1, j2, hchn, List.mem_cons_of_mem _ (alive b1 o1 hn1 h1 j4), List.mem_cons_of_mem _ (alive b2 o2 hn2 h2 j5)⟩
          · exact ⟨ch', l, j1, j2, by rw [grewA_chains, if_neg ec]; exact j3, j4, j5⟩
    ord := fun k l hl => by
      rw [grewA_chains] at hl
      split at hl
      · rename_i ek
        subst ek
        injection hl with hl
        subst hl
        refine List.pairwise_cons.2 ⟨?_, ?_⟩
        · intro c hc o1 o2 m1 m2 h1 h2 h3 h4 e
          rw [hself o1 h1]
          rw [Mu.put_same] at h3; injection h3 with h3; subst h3
          have hcn : c ≠ A.next := by
            intro ec
            subst ec
            simp only [List.mem_cons] at hc
            rcases hc with hc | hc
            · exact hbn hc.symm
            · exact members_mem h (by rw [hm]; exact fun h => nomatch h) _ (dropTo_sub b _ _ hc) h.next_none
          rw [Mu.put_ne _ _ hcn] at h4
          exact (hwith c o2 m2 hcn h2 h4 e.symm).2.2
        · have base : (b :: dropTo b (members A b k)).Pairwise fun b1 b2 => ∀ o1 o2 m1 m2, A.objs.get b1 = some o1 → A.objs.get b2 = some o2 → μ b1 = some m1 → μ b2 = some m2 → m1.1 = m2.1 →
              m2.2.1 + nO o2 ≤ m1.2.1 + nO o1 := by
            unfold members
            split
            · rename_i l hl
              by_cases hbl : b ∈ l
              · have hp := h.ord k l hl
                rw [← take_drop_to b l hbl] at hp
                exact (List.pairwise_append.1 hp).2.1
              · have : ∀ l : List Nat, b ∉ l → dropTo b l = [] := by
                  intro l
                  induction l with
                  | nil => intro _; rfl
                  | cons a l ih =>
                    intro hh
                    simp only [List.mem_cons, not_or] at hh
                    rw [dropTo_cons, if_neg (fun e => hh.1 e.symm), ih hh.2]
                rw [this l hbl]
                exact List.pairwise_cons.2 ⟨(fun _ h => nomatch h), List.Pairwise.nil⟩
            · rw [dropTo_cons, if_pos rfl]
              exact List.pairwise_cons.2 ⟨(fun _ h => nomatch h), List.Pairwise.nil⟩
          refine base.imp_of_mem ?_
          intro b1 b2 hb1 hb2 hh o1 o2 m1 m2 h1 h2 h3 h4 e
          have hcn : ∀ c, c ∈ b :: dropTo b (members A b k) → c ≠ A.next := by
            intro c hc ec
            subst ec
            simp only [List.mem_cons] at hc
            rcases hc with hc | hc
            · exact hbn hc.symm
            · exact members_mem h (by rw [hm]; exact fun h => nomatch h) _ (dropTo_sub b _ _ hc) h.next_none
          rw [Mu.put_ne _ _ (hcn b1 hb1)] at h3
          rw [Mu.put_ne _ _ (hcn b2 hb2)] at h4
          exact hh o1 o2 m1 m2 (hsub _ _ (hcn b1 hb1) h1) (hsub _ _ (hcn b2 hb2) h2) h3 h4 e
      · refine (h.ord k l hl).imp_of_mem ?_
        intro b1 b2 hb1 hb2 hh o1 o2 m1 m2 h1 h2 h3 h4 e
        have hcn : ∀ c, c ∈ l → c ≠ A.next := by
          intro c hc ec
          subst ec
          exact h.mem k l _ hl hc h.next_none
        rw [Mu.put_ne _ _ (hcn b1 hb1)] at h3
        rw [Mu.put_ne _ _ (hcn b2 hb2)] at h4
        exact hh o1 o2 m1 m2 (hsub _ _ (hcn b1 hb1) h1) (hsub _ _ (hcn b2 hb2) h2) h3 h4 e
    mem := fun k l c hl hc e => by
      have put_some : ∀ c, μ c ≠ none → (μ.put A.next m') c ≠ none := by
        intro c hc e
        cases e2 : μ c with
        | none => exact hc e2
        | some mm => rw [hle _ _ e2] at e; exact nomatch e
      rw [grewA_chains] at hl
      split at hl
      · injection hl with hl
        subst hl
        simp only [List.mem_cons] at hc
        rcases hc with hc | hc | hc
        · subst hc; rw [Mu.put_same] at e; exact nomatch e
        · subst hc; exact put_some _ (by rw [hm]; exact fun h => nomatch h) e
        · exact put_some _ (members_mem h (by rw [hm]; exact fun h => nomatch h) _ (dropTo_sub b _ _ hc)) e
      · exact put_some _ (h.mem k l c hl hc) e }

theorem kept_grew {A : AH} {w w' : World} (h : R P μ A w) {b ch : Nat} {ob' o : AObj} {m m' : Nat × Nat × Option (Nat × Nat)} (hb : A.objs.get b = some ob') (hm : μ b = some m) (hwr : wrO ob' = true)
    (hsame : m'.1 = m.1 ∨ w.heap.size ≤ m'.1) (hos : w'.os = w.os) (htp : w'.tape = w.tape) (hop : w'.output = w.output) (hsize : w.heap.size ≤ w'.heap.size)
    (hblock : ∀ c, c < w.heap.size → c ≠ m.1 → w'.heap[c]? = w.heap[c]?) (hrow : ∃ cs e f, w.heap[m.1]? = some (.cells cs e f)) :
    Kept A.next μ (μ.put A.next m') A (grewA A b ch o) w w' where
  le := Mu.le_put _ h.next_none
  os := hos
  tape := htp
  output := hop
  size := hsize
  next := Nat.le_succ _
  block c hc hnw := hblock c hc fun e => hnw ⟨b, m, ob', hm, e.symm, hb, hwr⟩
  wr c hc := by
    rintro ⟨b1, m1, o1, h1, h2, h3, h4⟩
    by_cases e : b1 = A.next
    · subst e
      rw [Mu.put_same] at h1; injection h1 with h1; subst h1
      rcases hsame with hs | hs
      · exact ⟨b, m, ob', hm, by rw [← hs]; exact h2, hb, hwr⟩
      · omega
    · rw [Mu.put_ne _ _ e] at h1
      rw [grewA_get, if_neg e] at h3
      split at h3
      · exact nomatch h3
      · exact ⟨b1, m1, o1, h1, h2, h3, h4⟩
  unborn c hc hn := by
    refine ⟨by rw [Mu.put_ne _ _ (by omega)]; exact hn, ?_⟩
    rw [grewA_get, if_neg (by omega), if_neg]
    rintro ⟨h1, _⟩
    exact members_mem h (by rw [hm]; exact fun h => nomatch h) _ (takeTo_sub b _ _ h1) hn
  loops c L hc := by
    have hlt := (Array.getElem?_eq_some_iff.1 hc).1
    refine ⟨L, ?_, rfl⟩
    rw [hblock c hlt]
    · exact hc
    · intro e
      subst e
      obtain ⟨cs, e, f, hr⟩ := hrow
      rw [hr] at hc
      exact nomatch hc
end Go.Ev
end

section
/- Ev, part 24: append. -/
namespace Go.Ev
variable [F : Facts] [E : Env]
set_option linter.unusedSimpArgs false
set_option linter.unusedVariables false
set_option linter.unusedSectionVars false
variable {P : Program} {μ : Mu}

theorem seq_ok {A : AH} {w : World} (hR : R P μ A w) {size n : Nat} {cs : List AV} {v : AV} {v' : Value} (h : seqOf A size v = some (n, cs)) (hv : VR μ v v') :
    ∃ cs' : List Value, VRs μ cs cs' ∧ (∀ c ∈ cs, oneA c = true) ∧ cs.length = n * size ∧ (Builtin.lenOf v').run P w = .ok n w ∧
      ∀ k, k ≤ n → (Builtin.firstCells size k v').run P w = .ok (cs'.take (k * size)).toArray w := by
  unfold seqOf at h
  split at h
  · injection h with h
    injection h with h1 h2
    subst h1; subst h2
    rw [hv.inv_nils]
    exact ⟨[], .nil, (fun c hc => nomatch hc), by simp, rfl, fun k hk => by simp [Builtin.firstCells]⟩
  · rename_i b o l cap
    obtain ⟨cs0, hcs, h⟩ := ob_eq h
    injection h with h
    injection h with h1 h2
    subst h1; subst h2
    obtain ⟨b', d, x, hm, hvv⟩ := hv.inv_sl
    obtain ⟨cs', hr, hlen, h1, hcell⟩ := hR.cellsOf hcs hm
    refine ⟨cs', hr, h1, hlen, ?_, ?_⟩
    · rcases hvv with ⟨cap', e, _, _⟩ | ⟨o', cap', S, _, h0, _, e⟩
      · rw [e]; rfl
      · rw [e, h0]; rfl
    · intro k hk
      rcases hvv with ⟨cap', e, _, _⟩ | ⟨o', cap', S, _, h0, _, e⟩
      · rw [e]
        show (loadCells ⟨b', d + o, none⟩ (k * size)).run P w = _
        have hkl : k * size ≤ cs'.length := by
          rw [← hr.length, hlen]; exact Nat.mul_le_mul_right _ hk
        have := run_loads (P := P) (w := w) (b' := b') (k := d + o) (l := cs'.take (k * size)) (fun i v' hi => by
          rw [Nat.add_assoc]
          refine hcell i v' ?_
          rw [List.getElem?_take] at hi
          split at hi
          · exact hi
          · exact nomatch hi)
        rw [List.length_take, Nat.min_eq_left hkl] at this
        exact this
      · rw [e]
        subst h0
        have : k = 0 := by omega
        subst this
        simp [Builtin.firstCells, loadCells, loadCellsFrom]
  · rename_i l n'
    obtain ⟨hs, h⟩ := ot_eq h
    rw [nbeq_eq, decide_eq_true_eq] at hs
    injection h with h
    injection h with h1 h2
    subst h1; subst hs
    obtain ⟨s, e, hl, hn⟩ := hv.inv_str
    subst e
    rw [hl, hn, strCells_eq] at h2
    refine ⟨s.data.toList.map fun b => Value.int .u8 (b.toNat : Int), ?_, ?_, ?_, ?_, ?_⟩
    · rw [← h2]
      refine All2.of_get (by simp) fun i a b ha hb => ?_
      rw [List.getElem?_map] at ha hb
      cases hh : s.data.toList[i]? with
      | none => rw [hh] at ha; exact nomatch ha
      | some c =>
        rw [hh] at ha hb
        injection ha with ha
        injection hb with hb
        rw [← ha, ← hb]; exact .int _ _
    · intro c hc
      rw [← h2] at hc
      obtain ⟨y, _, e⟩ := List.mem_map.1 hc
      rw [← e]; rfl
    · rw [← h2, List.length_map]; omega
    · show Result.ok s.size w = _
      rw [hl]; rfl
    · intro k hk
      show Result.ok ((s.extract 0 k).data.map fun b => Value.int .u8 (b.toNat : Int)) w = _
      congr 1
      apply Array.toList_inj.1
      rw [Array.toList_map, byteArray_extract]
      simp [List.map_take]
  · exact nomatch h

theorem growBy_le (N : Nat) : ∀ (r c : Nat), c < N → Builtin.growBy N r c ≤ N + (N + 768) / 4 := by
  intro r
  induction r with
  | zero => intro c h; show c ≤ _; omega
  | succ r ih =>
    intro c h
    show (if c ≥ N then c else Builtin.growBy N r (c + (c + 768) / 4)) ≤ _
    rw [if_neg (by omega)]
    by_cases h2 : c + (c + 768) / 4 < N
    · exact ih _ h2
    · have hb : Builtin.growBy N r (c + (c + 768) / 4) = c + (c + 768) / 4 := by
        cases r with
        | zero => rfl
        | succ r =>
          show (if c + (c + 768) / 4 ≥ N then _ else _) = _
          rw [if_pos (by omega)]
      rw [hb]
      omega
theorem nextslicecap_le (need old : Nat) (h : old < need) : Builtin.nextslicecap need old ≤ 2 * need + 1000 := by
  unfold Builtin.nextslicecap
  split
  · omega
  · split
    · omega
    · have := growBy_le need 4 old h
      omega

section
variable {ts : Array TypeId} {ty t u e : TypeId} {du : TypeDesc} {i : TypeInfo} {base : Option Addr} {sLen sCap n : Nat} {x' : Value} {w : World} {new : Array Value}

theorem run_append_in (hts : ts = #[t, u]) (hd : und (ttOf P) t = some (.slice e)) (hu : und (ttOf P) u = some du) (hdu : (∃ e', du = .slice e') ∨ du = .string) (hi : (ttOf P).get e = some i)
    (hlen : (Builtin.lenOf x').run P w = .ok n w) (hnew : (Builtin.firstCells i.size n x').run P w = .ok new w) (hle : sLen + n ≤ sCap) :
    (Builtin.append_ ts ty #[.slice base sLen sCap, x']).run P w = (match base with
      | some a => (storeCells (a.add (sLen * i.size)) new.toList >>= fun _ => pure (Value.slice base (sLen + n) sCap) : Sem Value)
      | none => pure (Value.slice base (sLen + n) sCap)).run P w := by
  subst hts
  unfold Builtin.append_
  show (underlying t >>= fun _ => _).run P w = _
  rw [run_ok (run_und hd w)]
  show (sizeOf e >>= fun _ => _).run P w = _
  have hsz : (sizeOf e).run P w = .ok i.size w := by
    unfold sizeOf
    rw [run_ok (run_info hi w)]; rfl
  rw [run_ok hsz]
  show (underlying u >>= fun _ => _).run P w = _
  rw [run_ok (run_und hu w)]
  rcases hdu with ⟨e', rfl⟩ | rfl
  all_goals
    show (Builtin.lenOf x' >>= fun _ => _).run P w = _
    rw [run_ok hlen]
    dsimp only
    rw [if_pos hle]
    show (Builtin.firstCells i.size n x' >>= fun _ => _).run P w = _
    rw [run_ok hnew]
    cases base <;> rfl

theorem run_append_grow (hts : ts = #[t, u]) (hd : und (ttOf P) t = some (.slice e)) (hu : und (ttOf P) u = some du) (hdu : (∃ e', du = .slice e') ∨ du = .string) (hi : (ttOf P).get e = some i)
    (hlen : (Builtin.lenOf x').run P w = .ok n w) {w1 : World} (hw1 : w1 = { w with drawn := w.drawn + 1 }) (hnew : (Builtin.firstCells i.size n x').run P w1 = .ok new w1) (hgt : ¬ sLen + n ≤ sCap)
    {old : Array Value} (hold : (Builtin.firstCells i.size sLen (.slice base sLen sCap)).run P w1 = .ok old w1) (hroom : room (sLen + n) i.bytes = true) (hby : 0 < i.bytes)
    {z : AV} (hzo : zeroOf (ttOf P) e = some z) (hzl : len (cellsV z) = i.size) :
    ∃ newCap rest, sLen + n ≤ newCap ∧ rest.size = (newCap - (sLen + n)) * i.size ∧
      (Builtin.append_ ts ty #[.slice base sLen sCap, x']).run P w = .ok (.slice (some ⟨w.heap.size, 0, none⟩) (sLen + n) newCap) (pushW w1 (.cells (old ++ new ++ rest) e)) := by
  obtain ⟨zv, hzr, hzv⟩ := zeroOf_run hzo (fun _ => none) w1
  have hzc : zv.cells.size = i.size := by
    have := (cellsV_rel hzv).length
    rw [len_eq] at hzl
    rw [hzl] at this
    simpa using this.symm
  refine ⟨Question.cut (.appendCap (sLen + n) sCap e) (w.tape w.drawn (.appendCap (sLen + n) sCap e)), Builtin.zeroCells zv.cells (Question.cut (.appendCap (sLen + n) sCap e) (w.tape w.drawn (.appendCap (sLen + n) sCap e)) - (sLen + n)), Nat.le_add_right _ _, ?_, ?_⟩
  · unfold Builtin.zeroCells
    simp [hzc]
  unfold room at hroom
  rw [nle_eq, decide_eq_true_eq] at hroom
  replace hroom : (2 * (sLen + n) + 1000) * i.bytes ≤ 140737488355328 := hroom
  have hneed : sLen + n ≤ 140737488355328 := by
    have : (2 * (sLen + n) + 1000) * 1 ≤ (2 * (sLen + n) + 1000) * i.bytes := Nat.mul_le_mul_left _ hby
    omega
  have hns := nextslicecap_le (sLen + n) sCap (by omega)
  have hns2 : Builtin.nextslicecap (sLen + n) sCap * i.bytes ≤ 140737488355328 := Nat.le_trans (Nat.mul_le_mul_right _ hns) hroom
  subst hts
  unfold Builtin.append_
  show (underlying t >>= fun _ => _).run P w = _
  rw [run_ok (run_und hd w)]
  show (sizeOf e >>= fun _ => _).run P w = _
  have hsz : (sizeOf e).run P w = .ok i.size w := by
    unfold sizeOf
    rw [run_ok (run_info hi w)]; rfl
  rw [run_ok hsz]
  show (underlying u >>= fun _ => _).run P w = _
  rw [run_ok (run_und hu w)]
  rcases hdu with ⟨e', rfl⟩ | rfl
  all_goals
    show (Builtin.lenOf x' >>= fun _ => _).run P w = _
    rw [run_ok hlen]
    dsimp only
    rw [if_neg hgt]
    have hmax : IntKind.i64.max = 9223372036854775807 := rfl
    show (typeInfo e >>= fun _ => _).run P w = _
    rw [run_ok (run_info hi w)]
    rw [if_neg (by rw [hmax]; omega)]
    show (typeInfo e >>= fun _ => _).run P w = _
    rw [run_ok (run_info hi w)]
    rw [if_neg (by have : (2:Nat) ^ 48 = 281474976710656 := rfl; omega)]
    show (choose _ >>= fun _ => _).run P w = _
    rw [run_ok (run_choose _ w rfl), ← hw1]
    show (typeInfo e >>= fun _ => _).run P w1 = _
    rw [run_ok (run_info hi w1)]
    show (askRoom _ >>= fun _ => _).run P w1 = _
    rw [run_ok (run_askRoom _ _ _)]
    show (Builtin.firstCells i.size sLen (.slice base sLen sCap) >>= fun _ => _).run P w1 = _
    rw [run_ok hold]
    show (Builtin.firstCells i.size n x' >>= fun _ => _).run P w1 = _
    rw [run_ok hnew]
    show (zeroValue e >>= fun _ => _).run P w1 = _
    rw [run_ok hzr]
    show (newRow e _ >>= fun _ => _).run P w1 = _
    rw [run_ok (run_newRow _ _ _)]
    rw [hw1]; rfl

end
end Go.Ev
end

section
/- Ev, part 25: append: the theorem. -/
namespace Go.Ev
variable [F : Facts] [E : Env]
set_option linter.unusedSimpArgs false
set_option linter.unusedVariables false
set_option linter.unusedSectionVars false
variable {P : Program} {μ : Mu}

theorem trOf_get (l : List AV) (i : Nat) : (trOf l).get i = l[i]? := T.get_ofList_e l i
theorem grown_get (old new : List AV) (i : Nat) : (trPuts new (len old) (trOf old)).get i = (old ++ new)[i]? := by
  rw [trPuts_get, trOf_get, len_eq, List.getElem?_append]
  by_cases h : i < old.length
  · rw [if_neg (by omega), if_pos h]
  · rw [if_neg h]
    by_cases h2 : i < old.length + new.length
    · rw [if_pos (by omega)]
    · rw [if_neg (by omega), List.getElem?_eq_none (by omega), List.getElem?_eq_none (by omega)]

theorem fresh_objR {μ' : Mu} {t : T AV} {l : List AV} {l' : List Value} {row : Array Value} {rest : List Value} {n S s md fz ch : Nat} {e : TypeId} (ht : ∀ i, t.get i = l[i]?) (hr : VRs μ' l l') (h1 : ∀ c ∈ l, oneA c = true)
    (hn : l.length = n) (hrow : row.toList = l' ++ rest) (hS : l'.length + rest.length = S) (he : tsize (ttOf P) e = some s) :
    ObjR P μ' 0 (some (S, s)) (.cells n (.tr t) e false md fz ch) (.cells row e (0, 0)) := by
  have hll := hr.length
  have hsz : row.size = S := by rw [← Array.length_toList, hrow, List.length_append, hS]
  refine ⟨rfl, rfl, by omega, ⟨rfl, (fun h => nomatch h)⟩, (fun l e => nomatch e), ?_, ?_, fun _ => .inl rfl, ?_⟩
  · intro i v hv
    replace hv : t.get i = some v := hv
    rw [ht] at hv
    obtain ⟨v', hv', hvr⟩ := hr.get hv
    have hlt := (List.getElem?_eq_some_iff.1 hv).1
    refine ⟨by omega, h1 v (List.mem_of_getElem? hv), v', ?_, hvr⟩
    rw [Nat.zero_add, ← Array.getElem?_toList, hrow, List.getElem?_append_left (by omega)]
    exact hv'
  · intro o _ h2 _; exact absurd h2 (Nat.not_lt_zero o)
  · intro S' s' e'
    injection e' with e'
    injection e' with e1 e2
    subst e1; subst e2
    exact ⟨hsz, he⟩

theorem append_ok {A A' : AH} {w : World} (hR : R P μ A w) {ts : Array TypeId} {t u e : TypeId} {du : TypeDesc} {i : TypeInfo} (hts : ts = #[t, u]) (hd : und (ttOf P) t = some (.slice e)) (hu : und (ttOf P) u = some du)
    (hdu : (∃ e', du = .slice e') ∨ du = .string) (hi : (ttOf P).get e = some i) {z : AV} (hzo : zeroOf (ttOf P) e = some z) (hzl : len (cellsV z) = i.size) (hs0 : 0 < i.size) (hby : 0 < i.bytes)
    {s x v : AV} {s' x' : Value} (hs : VR μ s s') (hx : VR μ x x') (he : appends A e i.size i.bytes s x = some (v, A')) (ty : TypeId) :
    ∃ v' w', (Builtin.append_ ts ty #[s', x']).run P w = .ok v' w' ∧ Post P μ A w v A' v' w' := by
  obtain ⟨⟨n, new⟩, hseq, he⟩ := ob_eq he
  replace he : appends1 A e i.size i.bytes n new s = some (v, A') := he
  obtain ⟨new', hnr, hn1, hnl, hlen, hfirst⟩ := seq_ok hR hseq hx
  have hR1 : R P μ A { w with drawn := w.drawn + 1 } := hR.congr rfl
  obtain ⟨new1, hnr1, _, _, _, hfirst1⟩ := seq_ok hR1 hseq hx
  have hnew : (Builtin.firstCells i.size n x').run P w = .ok new'.toArray w := by
    have := hfirst n (Nat.le_refl _)
    rw [List.take_of_length_le (by rw [← hnr.length, hnl]; exact Nat.le_refl _)] at this
    exact this
  have hnew1 : (Builtin.firstCells i.size n x').run P { w with drawn := w.drawn + 1 } = .ok new1.toArray { w with drawn := w.drawn + 1 } := by
    have := hfirst1 n (Nat.le_refl _)
    rw [List.take_of_length_le (by rw [← hnr1.length, hnl]; exact Nat.le_refl _)] at this
    exact this
  have hes : tsize (ttOf P) e = some i.size := by unfold tsize; rw [hi]; rfl
  rcases onSl_eq he with ⟨b, o, l, cap, e1, he2⟩ | ⟨e1, he2⟩
  · subst e1
    clear he
    have he := he2
    clear he2
    obtain ⟨b', d, xx, hm, hv⟩ := hs.inv_sl
    rw [bif2_eq, nle_eq] at he
    by_cases hfit : l + n ≤ cap
    · rw [if_pos (by simpa using hfit)] at he
      obtain ⟨A1, hw, he⟩ := ob_eq he
      injection he with he
      injection he with h1 h2
      subst h2
      obtain ⟨w', r1, r2, r3, _⟩ := write_ok hR hw hm hnr hn1 A.next
      rcases hv with ⟨cap', e1, hcap, hbd⟩ | ⟨o', cap', S, hx0, hl0, hc0, e1⟩
      · subst e1
        refine ⟨.slice (some ⟨b', d + o, none⟩) (l + n) cap', w', ?_, μ, r2, ?_, r3⟩
        · rw [run_append_in hts hd hu hdu hi hlen hnew (by omega)]
          show (storeCells ((⟨b', d + o, none⟩ : Addr).add (l * i.size)) new'.toArray.toList >>= fun _ => _).run P w = _
          rw [addr_add]
          have r1' : (storeCells ⟨b', d + (o + l * i.size), none⟩ new').run P w = .ok () w' := r1
          rw [run_ok r1']; rfl
        · rw [← h1]; exact .sl hm hcap hbd
      · subst hl0; subst hc0; subst e1; subst hx0
        have hn0 : n = 0 := by omega
        subst hn0
        have hnew0 : new' = [] := by
          have h3 := hnr.length
          rw [hnl, Nat.zero_mul] at h3
          exact List.length_eq_zero_iff.1 h3.symm
        subst hnew0
        have hww : w' = w := by
          have r1' : Result.ok () w = Result.ok () w' := r1
          injection r1' with _ h
          exact h.symm
        subst hww
        refine ⟨.slice (some ⟨b', o', none⟩) 0 cap', w', ?_, μ, r2, ?_, r3⟩
        · rw [run_append_in hts hd hu hdu hi hlen hnew (Nat.zero_le _)]; rfl
        · rw [← h1]; exact .sl0 hm
    · rw [if_neg (by simpa using hfit)] at he
      obtain ⟨ob', ho, he⟩ := ob_eq he
      obtain ⟨m, c, e', ex, md, fz, ch, e1, he⟩ := onCells_eq he
      subst e1
      obtain ⟨old, hold, he⟩ := ob_eq he
      obtain ⟨hc, he3⟩ := ot_eq he
      clear he
      rw [ba_eq, Bool.and_eq_true, nbeq_eq, decide_eq_true_eq] at hc
      obtain ⟨hroom, hee⟩ := hc
      subst hee
      replace hroom : room (l + n) i.bytes = true := hroom
      have hcells : A.cellsOf b o (Nat.mul l i.size) = some old := by
        unfold AH.cellsOf
        rw [ho]; exact hold
      have hseqs : seqOf A i.size (.sl b o l cap) = some (l, old) := by
        unfold seqOf
        simp only
        rw [hcells]; rfl
      obtain ⟨old', hor, ho1, hol, _, hofirst⟩ := seq_ok hR1 hseqs hs
      obtain ⟨oldw, horw, _, _, _, _⟩ := seq_ok hR hseqs hs
      have hofst := hofirst l (Nat.le_refl _)
      rw [List.take_of_length_le (by rw [← hor.length, hol]; exact Nat.le_refl _)] at hofst
      obtain ⟨o', g1, g2⟩ := hR.obj b _ _ ho hm
      rw [bif2_eq] at he3
      have fresh : ∀ cap', s' = .slice (some ⟨b', d + o, none⟩) l cap' → ¬ l + n ≤ cap' → ∃ newCap rest, l + n ≤ newCap ∧ rest.size = (newCap - (l + n)) * i.size ∧
          (Builtin.append_ ts ty #[s', x']).run P w = .ok (.slice (some ⟨w.heap.size, 0, none⟩) (l + n) newCap) (pushW { w with drawn := w.drawn + 1 } (.cells (old'.toArray ++ new1.toArray ++ rest) e)) := by
        intro cap' es hgt
        rw [es] at hofst ⊢
        exact run_append_grow hts hd hu hdu hi hlen rfl hnew1 hgt hofst hroom hby hzo hzl
      have frow : ∀ (newCap : Nat) (rest : Array Value), l + n ≤ newCap → rest.size = (newCap - (l + n)) * i.size → ∀ md fz ch μ', μ.le μ' →
          ObjR P μ' 0 (some (newCap * i.size, i.size)) (.cells ((l + n) * i.size) (grown old new) e false md fz ch) (.cells (old'.toArray ++ new1.toArray ++ rest) e (0, 0)) := by
        intro newCap rest hnc hrs md fz ch μ' hle
        refine fresh_objR (l := old ++ new) (l' := old' ++ new1) (rest := rest.toList) (grown_get old new) (VRs.mono hle (hor.append hnr1)) ?_ ?_ (by simp) ?_ hes
        · intro c hc
          exact (List.mem_append.1 hc).elim (ho1 c) (hn1 c)
        · rw [List.length_append, hol, hnl, Nat.add_mul]
        · rw [List.length_append, ← hor.length, ← hnr1.length, hol, hnl, Array.length_toList, hrs, ← Nat.add_mul, ← Nat.add_mul]
          congr 1
          omega
      by_cases hex : ex = true
      · rw [if_pos hex] at he3
        injection he3 with he3
        injection he3 with h1 h2
        subst h2
        have hxn : xx = none := by
          cases o' with
          | cells cs e2 fr =>
            have := g2.1
            rw [hex] at this
            cases xx with
            | none => rfl
            | some _ => exact nomatch this
          | _ => exact g2.elim
        subst hxn
        rcases hv with ⟨cap', e1, hcap, hbd⟩ | ⟨o2, cap', S, hx0, _⟩
        · rcases hbd with hbd | ⟨_, _, hbd, _⟩
          · subst hbd
            obtain ⟨newCap, rest, k1, k2, k3⟩ := fresh cap e1 hfit
            have hwn : WNew w (pushW { w with drawn := w.drawn + 1 } (.cells (old'.toArray ++ new1.toArray ++ rest) e)) (.cells (old'.toArray ++ new1.toArray ++ rest) e) := ⟨rfl, rfl, rfl, rfl⟩
            obtain ⟨q1, q2⟩ := hR.made (x := some (newCap * i.size, i.size)) hwn (frow newCap rest k1 k2 0 0 A.next _ (Mu.le_put _ hR.next_none))
            refine ⟨_, _, k3, _, q1, ?_, q2⟩
            rw [← h1]
            exact .sl (Mu.put_same _ _ _) k1 (.inr ⟨_, _, rfl, fun _ _ => by omega⟩)
          · exact nomatch hbd
        · exact nomatch hx0
      · have hexf : ex = false := by simpa using hex
        subst hexf
        obtain ⟨hc, he9⟩ := ot_eq (show ot _ _ = _ from he3)
        clear he3
        simp only [ba_eq, nb_eq, nbeq_eq, nle_eq, nlt_eq, Bool.and_eq_true, Bool.not_eq_true', decide_eq_false_iff_not, decide_eq_true_eq] at hc
        obtain ⟨⟨hmd, hfz⟩, ho0, hml, hl0, hcap0⟩ := hc
        subst ho0
        replace hml : m = l * i.size := hml
        injection he9 with he9
        have he' : chained A e i.size (l + n) b md fz ch (grown old new) = (v, A') := he9
        unfold chained at he'
        injection he' with h1 h2
        have h2' : grewA A b ch (.cells ((l + n) * i.size) (grown old new) e false md fz ch) = A' := h2
        subst h2'
        cases o' with
        | cells cs e2 fr =>
          obtain ⟨k1, k2, k3, k4, k5, k6, k7, k8, k9⟩ := g2
          simp only at k1 k2 k3 k4 k5 k6 k7 k8 k9 g1
          cases xx with
          | none => exact nomatch k1
          | some Ss =>
          obtain ⟨S, s1⟩ := Ss
          obtain ⟨hS, hs1⟩ := k9 S s1 rfl
          rw [hes] at hs1
          injection hs1 with hs1
          subst hs1
          subst k2
          rcases hv with ⟨cap', e1, hcap, hbd⟩ | ⟨o2, cap', S2, _, hl00, _⟩
          · by_cases hin : l + n ≤ cap'
            · -- in place
              have hbd2 : d + cap' * i.size ≤ S := by
                rcases hbd with hbd | ⟨S2, s2, e3, hbd⟩
                · omega
                · injection e3 with e3
                  injection e3 with e4 e5
                  subst e4; subst e5
                  exact hbd rfl hcap0
              have hfits : d + (l + n) * i.size ≤ cs.size := by
                have : (l + n) * i.size ≤ cap' * i.size := Nat.mul_le_mul_right _ hin
                omega
              have hsplit : (l + n) * i.size = l * i.size + n * i.size := Nat.add_mul _ _ _
              have hnl' : new'.length = n * i.size := by rw [← hnr.length, hnl]
              have hset := setCells_at new' (o := d + l * i.size) g1
              have hfzd : ∀ j, d + l * i.size ≤ j → j < cs.size → ¬ (fr.1 ≤ j ∧ j < fr.2) := by
                intro j h1 h2 ⟨h3, h4⟩
                have := k7 j h3 h4 h2
                omega
              have hst := run_storeCells_cells (P := P) b' (d + l * i.size) new' 0 w (fun j hj => by
                  have hlt : d + l * i.size + j < cs.size := by omega
                  unfold World.cell?
                  simp only [g1]
                  simp [hlt])
                (fun j hj => by
                  unfold World.frozen?
                  simp only [g1]
                  cases hd : (decide (fr.1 ≤ d + l * i.size + 0 + j) && decide (d + l * i.size + 0 + j < fr.2)) with
                  | false => rfl
                  | true =>
                    exfalso
                    simp at hd
                    exact hfzd (d + l * i.size + j) (by omega) (by omega) hd)
                (one_v hnr hn1)
              have hle : μ.le (μ.put A.next (b', d, some (S, i.size))) := Mu.le_put _ hR.next_none
              have horl : oldw.length = l * i.size := by rw [← horw.length, hol]
              have hgrow := hR.grew (w' := w.setCells b' (d + l * i.size) new') (b := b) (ch := ch) (o := .cells ((l + n) * i.size) (grown old new) e false md fz ch) (m' := (b', d, some (S, i.size))) ho rfl hm rfl (by show m ≤ (l + n) * i.size; omega)
                (by
                  intro c p mc hcn hc hmc
                  by_cases ebb : mc.1 = b'
                  · have hbase : ∃ p', w.heap[mc.1]? = some p' ∧ ObjR P μ mc.2.1 mc.2.2 p p' ∧ chO p = some ch ∧ mc.2.1 + nO p ≤ d + m := by
                      by_cases ecb : c = b
                      · subst ecb
                        rw [hm] at hmc; injection hmc with hmc; subst hmc
                        rw [grewA_get, if_neg hcn, if_neg (fun h => h.2 rfl)] at hc
                        rw [show A.objs.get c = A.obj c from rfl, ho] at hc
                        injection hc with hc
                        subst hc
                        exact ⟨_, g1, ⟨k1, rfl, k3, k4, k5, k6, k7, k8, k9⟩, rfl, Nat.le_refl _⟩
                      · obtain ⟨j1, _, j3, j4⟩ := elder hR ho rfl hm hcn ecb hc hmc ebb
                        obtain ⟨p', j5, j6⟩ := hR.obj c p mc j1 hmc
                        exact ⟨p', j5, j6, j3, j4⟩
                    obtain ⟨p', j1, j2, j3, j4⟩ := hbase
                    rw [ebb, g1] at j1
                    injection j1 with j1
                    subst j1
                    refine ⟨_, by rw [ebb]; exact hset.same, ?_⟩
                    cases p with
                    | cells n2 c2 e2 ex2 md2 fz2 ch2 =>
                      obtain ⟨a1, a2, a3, a4, a5, a6, a7, a8, a9⟩ := j2
                      replace j4 : mc.2.1 + n2 ≤ d + m := j4
                      refine ⟨a1, a2, by rw [putsV_size]; exact a3, ⟨a4.1, fun hx => by rw [putsV_size]; exact a4.2 hx⟩, a5, ?_, ?_, a8, fun S s e => by rw [putsV_size]; exact a9 S s e⟩
                      · intro j v hv
                        obtain ⟨q1, q2, v', q3, q4⟩ := a6 j v hv
                        refine ⟨q1, q2, v', ?_, q4.mono hle⟩
                        rw [putsV_get _ _ _ _ (by omega), if_neg (by omega)]
                        exact q3
                      · intro j h1 h2 h3
                        rw [putsV_size] at h3
                        exact a7 j h1 h2 h3
                    | _ => exact nomatch j3
                  · have hcA : A.objs.get c = some p := by
                      rw [grewA_get, if_neg hcn] at hc
                      split at hc
                      · exact nomatch hc
                      · exact hc
                    obtain ⟨p', j1, j2⟩ := hR.obj c p mc hcA hmc
                    exact ⟨p', by rw [hset.other _ ebb]; exact j1, j2.mono hle⟩)
                (by
                  show ∃ p', (w.setCells b' (d + l * i.size) new').heap[b']? = some p' ∧ ObjR P _ d (some (S, i.size)) _ p'
                  refine ⟨_, hset.same, rfl, rfl, by rw [putsV_size]; exact hfits, ⟨k4.1, (fun h => nomatch h)⟩, (fun l e => nomatch e), ?_, ?_, k8, ?_⟩
                  · intro j v hv
                    replace hv : (trPuts new (len old) (trOf old)).get j = some v := hv
                    rw [grown_get] at hv
                    have hjl : j < (l + n) * i.size := by
                      have := (List.getElem?_eq_some_iff.1 hv).1
                      rw [List.length_append, hol, hnl] at this
                      omega
                    refine ⟨hjl, ?_, ?_⟩
                    · exact (List.mem_append.1 (List.mem_of_getElem? hv)).elim (ho1 v) (hn1 v)
                    · rw [List.getElem?_append] at hv
                      split at hv
                      · rename_i hlt
                        have hget : c.get j = some v := by
                          have := (range_get hold k5).2 j v hv
                          rw [Nat.zero_add] at this
                          exact this
                        obtain ⟨_, _, v', q3, q4⟩ := k6 j v hget
                        refine ⟨v', ?_, q4.mono hle⟩
                        rw [putsV_get _ _ _ _ (by omega), if_neg (by rw [hol] at hlt; omega)]
                        exact q3
                      · rename_i hlt
                        obtain ⟨v', q3, q4⟩ := hnr.get hv
                        refine ⟨v', ?_, q4.mono hle⟩
                        rw [hol] at hlt q3
                        rw [putsV_get _ _ _ _ (by omega), if_pos (by omega), show d + j - (d + l * i.size) = j - l * i.size from by omega]
                        exact q3
                  · intro j h1 h2 h3
                    rw [putsV_size] at h3
                    exact k7 j h1 h2 h3
                  · intro S2 s2 e3
                    injection e3 with e3
                    injection e3 with e4 e5
                    subst e4; subst e5
                    exact ⟨by rw [putsV_size]; exact hS, hes⟩)
                (by rw [hset.size]; exact Nat.le_refl _) (.inl ⟨rfl, rfl⟩)
              have hkept := kept_grew (w' := w.setCells b' (d + l * i.size) new') (b := b) (ch := ch) (o := .cells ((l + n) * i.size) (grown old new) e false md fz ch) (m' := (b', d, some (S, i.size))) hR ho hm (by simpa [wrO] using hmd) (.inl rfl) hset.os hset.tape hset.output (by rw [hset.size]; exact Nat.le_refl _)
                (fun c _ hne => hset.other c hne) ⟨cs, e, fr, g1⟩
              refine ⟨.slice (some ⟨b', d + 0, none⟩) (l + n) cap', _, ?_, _, hgrow, ?_, hkept⟩
              · rw [e1, run_append_in hts hd hu hdu hi hlen hnew hin]
                show (storeCells ((⟨b', d + 0, none⟩ : Addr).add (l * i.size)) new'.toArray.toList >>= fun _ => _).run P w = _
                rw [addr_add, Nat.zero_add, run_ok hst]; rfl
              · rw [← h1]
                exact .sl (Mu.put_same _ _ _) hin (.inr ⟨S, i.size, rfl, fun _ _ => hbd2⟩)
            · obtain ⟨newCap, rest, j1, j2, j3⟩ := fresh cap' e1 hin
              have hle : μ.le (μ.put A.next (w.heap.size, 0, some (newCap * i.size, i.size))) := Mu.le_put _ hR.next_none
              have hlt : b' < w.heap.size := (Array.getElem?_eq_some_iff.1 g1).1
              have hwn : WNew w (pushW { w with drawn := w.drawn + 1 } (.cells (old'.toArray ++ new1.toArray ++ rest) e)) (.cells (old'.toArray ++ new1.toArray ++ rest) e) := ⟨rfl, rfl, rfl, rfl⟩
              have hsplit : (l + n) * i.size = l * i.size + n * i.size := Nat.add_mul _ _ _
              have hgrow := hR.grew (b := b) (ch := ch) (o := .cells ((l + n) * i.size) (grown old new) e false md fz ch) (m' := (w.heap.size, 0, some (newCap * i.size, i.size))) (w' := pushW { w with drawn := w.drawn + 1 } (.cells (old'.toArray ++ new1.toArray ++ rest) e)) ho rfl hm rfl (by show m ≤ (l + n) * i.size; omega)
                (by
                  intro c p mc hcn hc hmc
                  have hcA : A.objs.get c = some p := by
                    rw [grewA_get, if_neg hcn] at hc
                    split at hc
                    · exact nomatch hc
                    · exact hc
                  obtain ⟨p', j4, j5⟩ := hR.obj c p mc hcA hmc
                  exact ⟨p', by rw [hwn.get (hR.dom c mc hmc).2]; exact j4, j5.mono hle⟩)
                ⟨_, hwn.last, frow newCap rest j1 j2 md fz ch _ hle⟩ (by rw [hwn.size]; omega) (.inr fun c mc hmc => by have := (hR.dom c mc hmc).2; show mc.1 ≠ w.heap.size; omega)
              have hkept := kept_grew (b := b) (ch := ch) (o := .cells ((l + n) * i.size) (grown old new) e false md fz ch) (m' := (w.heap.size, 0, some (newCap * i.size, i.size))) (w' := pushW { w with drawn := w.drawn + 1 } (.cells (old'.toArray ++ new1.toArray ++ rest) e)) hR ho hm (by simpa [wrO] using hmd) (.inr (Nat.le_refl _)) rfl rfl rfl (by rw [hwn.size]; omega)
                (fun c hc _ => hwn.get hc) ⟨cs, e, fr, g1⟩
              refine ⟨_, _, j3, _, hgrow, ?_, hkept⟩
              rw [← h1]
              exact .sl (Mu.put_same _ _ _) j1 (.inr ⟨_, _, rfl, fun _ _ => Nat.le_of_eq (Nat.zero_add _)⟩)
          · omega
        | _ => exact g2.elim
  · subst e1
    clear he
    have he := he2
    clear he2
    rw [hs.inv_nils]
    rw [bif2_eq, nbeq_eq] at he
    by_cases hn0 : n = 0
    · rw [if_pos (by simpa using hn0)] at he
      subst hn0
      injection he with he
      injection he with h1 h2
      subst h2
      refine ⟨.slice none 0 0, w, ?_, μ, hR, by rw [← h1]; exact .nils, Kept.refl _ _ _ _⟩
      rw [run_append_in hts hd hu hdu hi hlen hnew (Nat.le_refl _)]
      rfl
    · rw [if_neg (by simpa using hn0)] at he
      obtain ⟨hroom, he⟩ := ot_eq he
      injection he with he
      injection he with h1 h2
      subst h2
      obtain ⟨newCap, rest, k1, k2, k3⟩ := run_append_grow (base := none) (sLen := 0) (sCap := 0) (ty := ty) hts hd hu hdu hi hlen rfl hnew1 (by omega) (old := #[]) rfl (by rw [Nat.zero_add]; exact hroom) hby hzo hzl
      have hwn : WNew w (pushW { w with drawn := w.drawn + 1 } (.cells (#[] ++ new1.toArray ++ rest) e)) (.cells (#[] ++ new1.toArray ++ rest) e) := ⟨rfl, rfl, rfl, rfl⟩
      rw [Nat.zero_add] at k1 k2 k3
      obtain ⟨q1, q2⟩ := hR.made (o := .cells (n * i.size) (.tr (trOf new)) e false 0 0 A.next) (x := some (newCap * i.size, i.size)) hwn (fresh_objR (l := new) (l' := new1) (rest := rest.toList) (trOf_get new) (VRs.mono (Mu.le_put _ hR.next_none) hnr1) hn1 hnl (by simp) (by
          rw [← hnr1.length, hnl, Array.length_toList, k2, ← Nat.add_mul]
          congr 1
          omega) hes)
      refine ⟨_, _, k3, _, q1, ?_, q2⟩
      rw [← h1]
      exact .sl (Mu.put_same _ _ _) k1 (.inr ⟨_, _, rfl, fun _ _ => by omega⟩)
end Go.Ev
end
