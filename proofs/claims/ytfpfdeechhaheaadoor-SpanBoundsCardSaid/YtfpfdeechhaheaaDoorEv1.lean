/- The evaluator Ev and its soundness, part 2 of 7: what it computes of a function, the model's machine computes on every tape. -/
import Derived.Test.YtfpfdeechhaheaaDoorEv0
import Derived.StepT
import Derived.Control
import Derived.Calls
import Derived.Orders
import Derived.Below
import Derived.Laws.Sem
import Derived.Laws.StructEq
import Derived.IntWalk
section
/- Ev, part 6: when abstract values and heaps stand for the machine's. -/
namespace Go.Ev
set_option linter.unusedSectionVars false

/-- where an abstract block lies: the machine's block, from which cell on; if it isn't known to its end: how many cells there are, and how many an element takes -/
abbrev Mu := Nat → Option (Nat × Nat × Option (Nat × Nat))
def Mu.le (μ μ' : Mu) : Prop := ∀ b m, μ b = some m → μ' b = some m
theorem Mu.le_refl (μ : Mu) : μ.le μ := fun _ _ h => h
theorem Mu.le_trans {a b c : Mu} (h : a.le b) (k : b.le c) : a.le c := fun _ _ e => k _ _ (h _ _ e)

def oneV : Value → Bool
  | .agg _ => false
  | .tuple _ => false
  | _ => true

/-- a slice's room: known; or as much as the row bears -/
def BndS (d o cap cap' : Nat) (x : Option (Nat × Nat)) : Prop := cap = cap' ∨ ∃ S s, x = some (S, s) ∧ (o = 0 → 0 < cap → d + cap' * s ≤ S)

inductive VR [F : Facts] [E : Env] (μ : Mu) : AV → Value → Prop
  | bool (b : Bool) : VR μ (.bool b) (.bool b)
  | int (k : IntKind) (n : Int) : VR μ (.int k n) (.int k n)
  | str (s : ByteArray) : VR μ (ofStr s) (.string s)
  | ptr {b o b' d : Nat} {x : Option (Nat × Nat)} (h : μ b = some (b', d, x)) : VR μ (.ptr b o) (.pointer (some ⟨b', d + o, none⟩))
  | nilp : VR μ .nilp (.pointer none)
  | sl {b o len cap cap' b' d : Nat} {x : Option (Nat × Nat)} (h : μ b = some (b', d, x)) (hc : cap ≤ cap') (hx : BndS d o cap cap' x) : VR μ (.sl b o len cap) (.slice (some ⟨b', d + o, none⟩) len cap')
  | sl0 {b o o' cap' b' d : Nat} {S : Nat × Nat} (h : μ b = some (b', d, some S)) : VR μ (.sl b o 0 0) (.slice (some ⟨b', o', none⟩) 0 cap')
  | slx {b o n len cap' : Nat} {a : Addr} {c : Int} {ts : Lin} (h : 0 < n → ∃ b' d x, μ b = some (b', d, x) ∧ a = ⟨b', d + o, none⟩) (hl : (len : Int) = c + linV E.val ts) (hn : n ≤ len) :
      VR μ (.slx b o n c ts) (.slice (some a) len cap')
  | ub (b : Bool) : VR μ .ub (.bool b)
  | nils : VR μ .nils (.slice none 0 0)
  | map {b b' d : Nat} {x : Option (Nat × Nat)} (h : μ b = some (b', d, x)) : VR μ (.map b) (.map (some b'))
  | nilm : VR μ .nilm (.map none)
  | fn (f : FuncId) {a c : List AV} {a' c' : Array Value} (ha : All2 (VR μ) a a'.toList) (hc : All2 (VR μ) c c'.toList) : VR μ (.fn (.func f) a c) (.func (.func f) a' c')
  | yld {l l' d : Nat} {x : Option (Nat × Nat)} (h : μ l = some (l', d, x)) : VR μ (.fn (.yield l) [] []) (.func (.yield l') #[] #[])
  | nilf : VR μ .nilf .nilFunc
  | ifc (t : TypeId) {v : AV} {v' : Value} (h : VR μ v v') : VR μ (.ifc t v) (.iface t v')
  | nili : VR μ .nili .nilIface
  | agg {cs : List AV} {cs' : Array Value} (h : All2 (VR μ) cs cs'.toList) (h1 : ∀ v ∈ cs, oneA v = true) : VR μ (.agg cs) (.agg cs')
  | tup {cs : List AV} {cs' : Array Value} (h : All2 (VR μ) cs cs'.toList) : VR μ (.tup cs) (.tuple cs')
  | res (k : IntKind) {m r n : Nat} (h : n % m = r) : VR μ (.res k m r) (.int k (n : Int))
  | sym (k : IntKind) {c n : Int} {l : Lin} (h : n = c + linV E.val l) : VR μ (.sym k c l) (.int k n)

variable [F : Facts] [E : Env]

abbrev VRs (μ : Mu) (l : List AV) (m : List Value) : Prop := All2 (VR μ) l m

theorem VR.mono {μ μ' : Mu} (hle : μ.le μ') {v : AV} {v' : Value} (h : VR μ v v') : VR μ' v v' := by
  refine VR.rec (motive_1 := fun v v' _ => VR μ' v v') (motive_2 := fun l m _ => All2 (VR μ') l m) ?_ ?_ ?_ ?_ ?_ ?_ ?_ ?_ ?_ ?_ ?_ ?_ ?_ ?_ ?_ ?_ ?_ ?_ ?_ ?_ ?_ ?_ ?_ h
  · exact fun b => .bool b
  · exact fun k n => .int k n
  · exact fun s => .str s
  · exact fun h => .ptr (hle _ _ h)
  · exact .nilp
  · exact fun h hc hx => .sl (hle _ _ h) hc hx
  · exact fun h => .sl0 (hle _ _ h)
  · exact fun h hl hn => .slx (fun h0 => let ⟨b', d, x, h1, h2⟩ := h h0; ⟨b', d, x, hle _ _ h1, h2⟩) hl hn
  · exact fun b => .ub b
  · exact .nils
  · exact fun h => .map (hle _ _ h)
  · exact .nilm
  · exact fun f _ _ _ _ _ _ ha hc => .fn f ha hc
  · exact fun h => .yld (hle _ _ h)
  · exact .nilf
  · exact fun t _ _ _ h => .ifc t h
  · exact .nili
  · exact fun _ h1 h => .agg h h1
  · exact fun _ h => .tup h
  · exact fun k _ _ _ h => .res k h
  · exact fun k _ _ _ h => .sym k h
  · exact .nil
  · exact fun _ _ h hs => .cons h hs

theorem VRs.mono {μ μ' : Mu} (hle : μ.le μ') {l : List AV} {m : List Value} (h : VRs μ l m) : VRs μ' l m := All2.mono h fun _ _ => VR.mono hle

theorem VR.one {μ : Mu} {v : AV} {v' : Value} (h : VR μ v v') : oneV v' = oneA v := by cases h <;> rfl

/-- the temporaries -/
def EnvR (μ : Mu) (env : T AV) (tmps : Array Value) : Prop := ∀ i v, env.get i = some v → ∃ v', tmps[i]? = some v' ∧ VR μ v v'
theorem EnvR.mono {μ μ' : Mu} (hle : μ.le μ') {env : T AV} {tmps : Array Value} (h : EnvR μ env tmps) : EnvR μ' env tmps :=
  fun i v e => let ⟨v', h1, h2⟩ := h i v e; ⟨v', h1, h2.mono hle⟩

def PendR : Option Ex → Option Code → Prop
  | none, none => True
  | some .ret, some .ret => True
  | some (.exit i), some (.exit j) => i = j
  | _, _ => False

section
variable (P : Program)
/-- an object of the abstract heap and the machine's, from a cell on, known to its end or not -/
def ObjR (μ : Mu) (d : Nat) (x : Option (Nat × Nat)) : AObj → Obj → Prop
  | .cells n c e ex md fz _, .cells cs e' fr => ex = x.isNone ∧ e = e' ∧ d + n ≤ cs.size ∧ (d = 0 ∧ (ex = true → cs.size = n)) ∧
      (∀ l, c = .lst l → l.length = n) ∧
      (∀ i v, c.get i = some v → i < n ∧ oneA v = true ∧ ∃ v', cs[d + i]? = some v' ∧ VR μ v v') ∧
      (∀ o, fr.1 ≤ o → o < fr.2 → o < cs.size → o < d + fz) ∧
      (md = 0 → fr.1 = fr.2 ∨ fr.2 ≤ d + fz) ∧
      (∀ S s, x = some (S, s) → cs.size = S ∧ tsize (ttOf P) e = some s)
  | .map es c, .map es' c' => c = c' ∧ All2 (fun a e => VR μ a.1 e.key ∧ VR μ a.2.1 e.val ∧ a.2.2 = e.born) es es'.toList
  | .row n c, .cells cs _ _ => d + n ≤ cs.size ∧ (∀ l, c = .lst l → l.length = n) ∧ (∀ i v, c.get i = some v → i < n ∧ oneA v = true ∧ ∃ v', cs[d + i]? = some v' ∧ VR μ v v')
  | .siter l n p, .stringIter s p' => d = 0 ∧ ofStr s = .str l n ∧ p = p'
  | .loop st pe _ tm ps as bo, .loop L => st = L.state ∧ PendR pe L.pending ∧ EnvR μ tm L.tmps ∧ ps = L.params.toList ∧
      ∃ nt, nt ≤ L.tmps.size ∧ comp P (ttOf P) nt L.assign = some as ∧ comp P (ttOf P) nt L.body = some bo ∧ (∀ p ∈ ps, p < nt)
  | _, _ => False

/-- may it be written? -/
def wrO : AObj → Bool
  | .cells _ _ _ _ md _ _ => md != 1
  | .row _ _ => false
  | _ => true
def isRow : AObj → Bool
  | .row _ _ => true
  | _ => false
def chO : AObj → Option Nat
  | .cells _ _ _ _ _ _ ch => some ch
  | _ => none
def nO : AObj → Nat
  | .cells n .. => n
  | _ => 0

structure R (μ : Mu) (A : AH) (w : World) : Prop where
  obj : ∀ b o m, A.objs.get b = some o → μ b = some m → ∃ o', w.heap[m.1]? = some o' ∧ ObjR P μ m.2.1 m.2.2 o o'
  dom : ∀ b m, μ b = some m → b < A.next ∧ m.1 < w.heap.size
  live : ∀ b o, A.objs.get b = some o → b < A.next
  glob : ∀ g, g < P.globals.size → μ g = some (g, 0, none)
  /-- two that share memory are of one chain -/
  sep : ∀ b1 b2 o1 o2 m1 m2, b1 ≠ b2 → A.objs.get b1 = some o1 → A.objs.get b2 = some o2 → μ b1 = some m1 → μ b2 = some m2 → m1.1 = m2.1 →
    (isRow o1 = true ∧ isRow o2 = true) ∨ ∃ ch l, chO o1 = some ch ∧ chO o2 = some ch ∧ A.chains.get ch = some l ∧ b1 ∈ l ∧ b2 ∈ l
  /-- in a chain the elder ones end no later -/
  ord : ∀ ch l, A.chains.get ch = some l → l.Pairwise fun b1 b2 => ∀ o1 o2 m1 m2, A.objs.get b1 = some o1 → A.objs.get b2 = some o2 → μ b1 = some m1 → μ b2 = some m2 → m1.1 = m2.1 →
    m2.2.1 + nO o2 ≤ m1.2.1 + nO o1
  mem : ∀ ch l b, A.chains.get ch = some l → b ∈ l → μ b ≠ none
end

/-- the machine's blocks that may be written -/
def Wr (μ : Mu) (A : AH) (c : Nat) : Prop := ∃ b m o, μ b = some m ∧ m.1 = c ∧ A.objs.get b = some o ∧ wrO o = true

/-- what stays; below B what isn't born is as it was -/
structure Kept (B : Nat) (μ μ' : Mu) (A A' : AH) (w w' : World) : Prop where
  le : μ.le μ'
  os : w'.os = w.os
  tape : w'.tape = w.tape
  output : w'.output = w.output
  size : w.heap.size ≤ w'.heap.size
  next : A.next ≤ A'.next
  block : ∀ c, c < w.heap.size → ¬ Wr μ A c → w'.heap[c]? = w.heap[c]?
  wr : ∀ c, c < w.heap.size → Wr μ' A' c → Wr μ A c
  unborn : ∀ b, b < B → μ b = none → μ' b = none ∧ A'.objs.get b = A.objs.get b
  loops : ∀ (c : Nat) L, w.heap[c]? = some (.loop L) → ∃ L' : Loop, w'.heap[c]? = some (.loop L') ∧ L'.defers = L.defers

theorem Kept.refl (B : Nat) (μ : Mu) (A : AH) (w : World) : Kept B μ μ A A w w :=
  ⟨Mu.le_refl μ, rfl, rfl, rfl, Nat.le_refl _, Nat.le_refl _, fun _ _ _ => rfl, fun _ _ h => h, fun _ _ h => ⟨h, rfl⟩, fun _ L h => ⟨L, h, rfl⟩⟩
theorem Kept.weaken {B B' : Nat} {μ μ' : Mu} {A A' : AH} {w w' : World} (h : Kept B μ μ' A A' w w') (hb : B' ≤ B) : Kept B' μ μ' A A' w w' :=
  { h with unborn := fun b hb' hn => h.unborn b (Nat.lt_of_lt_of_le hb' hb) hn }
theorem Kept.trans {B : Nat} {μ0 μ1 μ2 : Mu} {A0 A1 A2 : AH} {w0 w1 w2 : World} (h : Kept B μ0 μ1 A0 A1 w0 w1) (k : Kept B μ1 μ2 A1 A2 w1 w2) : Kept B μ0 μ2 A0 A2 w0 w2 where
  le := Mu.le_trans h.le k.le
  os := k.os.trans h.os
  tape := k.tape.trans h.tape
  output := k.output.trans h.output
  size := Nat.le_trans h.size k.size
  next := Nat.le_trans h.next k.next
  block c hc hw := (k.block c (Nat.lt_of_lt_of_le hc h.size) fun hw' => hw (h.wr c hc hw')).trans (h.block c hc hw)
  wr c hc hw := h.wr c hc (k.wr c (Nat.lt_of_lt_of_le hc h.size) hw)
  unborn b hb hn :=
    let ⟨h1, h2⟩ := h.unborn b hb hn
    let ⟨k1, k2⟩ := k.unborn b hb h1
    ⟨k1, k2.trans h2⟩
  loops c L hc :=
    let ⟨L1, h1, e1⟩ := h.loops c L hc
    let ⟨L2, h2, e2⟩ := k.loops c L1 h1
    ⟨L2, h2, e2.trans e1⟩

/-- what an operation, a call, or a piece of code comes to -/
def Post (P : Program) (μ : Mu) (A : AH) (w : World) (v : AV) (A' : AH) (v' : Value) (w' : World) : Prop :=
  ∃ μ', R P μ' A' w' ∧ VR μ' v v' ∧ Kept A.next μ μ' A A' w w'

/-! ### running -/
theorem run_bind {P : Program} {α β : Type} (s : Sem α) (f : α → Sem β) (w : World) :
    (s >>= f).run P w = match s.run P w with
      | .ok a w' => (f a).run P w'
      | .halt h w' => .halt h w' := by
  show (Sem.bind s f).run P w = _
  induction s generalizing w with
  | pure a => rfl
  | load m a k ih =>
    simp only [Sem.bind, Sem.run]
    split
    · exact ih _ _
    · split
      · exact ih _ _
      · rfl
  | store m a v k ih =>
    cases v <;> simp only [Sem.bind, Sem.run] <;> (split <;> first | (split <;> first | rfl | exact ih _) | rfl)
  | new o k ih => simp only [Sem.bind, Sem.run]; exact ih _ _
  | shape r k ih => simp only [Sem.bind, Sem.run]; exact ih _ _
  | freeze a n k ih => simp only [Sem.bind, Sem.run]; exact ih _
  | frozen a k ih => simp only [Sem.bind, Sem.run]; exact ih _ _
  | getObj r k ih =>
    simp only [Sem.bind, Sem.run]
    split
    · rfl
    · exact ih _ _
    · rfl
  | setObj r o k ih =>
    simp only [Sem.bind, Sem.run]
    split
    · rfl
    · exact ih _
    · rfl
  | choose q k ih =>
    simp only [Sem.bind, Sem.run]
    split
    · exact ih _ _
    · exact ih _ _
  | sys c k ih => simp only [Sem.bind, Sem.run]; exact ih _ _
  | program k ih => simp only [Sem.bind, Sem.run]; exact ih _ _
  | mark m k ih => simp only [Sem.bind, Sem.run]; exact ih _
  | halt h => rfl

theorem run_ok {P : Program} {α β : Type} {s : Sem α} {f : α → Sem β} {w w' : World} {a : α} (h : s.run P w = .ok a w') :
    (s >>= f).run P w = (f a).run P w' := by rw [run_bind, h]
@[simp] theorem run_pure {P : Program} {α : Type} (a : α) (w : World) : (pure a : Sem α).run P w = .ok a w := rfl
end Go.Ev
end

section
/- Ev, part 7: types, constants, makes of values. -/
namespace Go.Ev
set_option linter.unusedSectionVars false
variable [F : Facts] [E : Env]
variable {P : Program} {μ : Mu}

theorem tt_get {t : TypeId} {i : TypeInfo} (h : (ttOf P).get t = some i) : P.info? t = some i := by
  unfold ttOf at h
  rw [T.get_ofList_e] at h
  show Tables.info? _ _ = _
  unfold Tables.info?
  have hlt : t < P.types.size := by
    have := (List.getElem?_eq_some_iff.1 h).1
    simpa using this
  rw [if_pos hlt]
  rw [← h]; simp
theorem und_eq {t : TypeId} {d : TypeDesc} (h : und (ttOf P) t = some d) : P.underlying t = some d := by
  obtain ⟨i, hi, hd⟩ := ob_eq h
  have hi' := tt_get hi
  unfold Program.underlying
  rw [hi']
  obtain ⟨desc, str, size, bytes, hp, al, fal, zero, cmpb, ms⟩ := i
  unfold und1 at hd
  cases desc with
  | named nm u =>
    simp only at hd ⊢
    obtain ⟨j, hj, e⟩ := ob_eq hd
    have hj' := tt_get hj
    rw [hj']
    simpa using e
  | _ => simpa using hd
theorem run_und {t : TypeId} {d : TypeDesc} (h : und (ttOf P) t = some d) (w : World) : (underlying t).run P w = .ok d w := by
  unfold underlying
  show Sem.run P (Sem.bind program _) w = _
  simp only [program, Sem.bind, Sem.run]
  rw [und_eq h]
  rfl
theorem run_info {t : TypeId} {i : TypeInfo} (h : (ttOf P).get t = some i) (w : World) : (typeInfo t).run P w = .ok i w := by
  unfold typeInfo
  show Sem.run P (Sem.bind program _) w = _
  simp only [program, Sem.bind, Sem.run]
  rw [tt_get h]
  rfl
theorem tsize_get {t : TypeId} {s : Nat} (h : tsize (ttOf P) t = some s) : ∃ i, (ttOf P).get t = some i ∧ i.size = s := by
  obtain ⟨i, hi, e⟩ := ob_eq h
  exact ⟨i, hi, by simpa using e⟩
theorem run_size {t : TypeId} {s : Nat} (h : tsize (ttOf P) t = some s) (w : World) : (sizeOf t).run P w = .ok s w := by
  obtain ⟨i, hi, rfl⟩ := tsize_get h
  unfold sizeOf
  rw [run_ok (run_info hi w)]
  rfl
theorem run_agg {t : TypeId} {g : Bool} (h : tagg (ttOf P) t = some g) (w : World) : (isAgg t).run P w = .ok g w := by
  obtain ⟨d, hd, e⟩ := ob_eq h
  unfold isAgg
  rw [run_ok (run_und hd w)]
  cases d <;> simp_all [aggD] <;> rfl

/-! ### constants -/
theorem mapO_all2 {α β : Type} {f : α → Option β} {Q : β → α → Prop} : ∀ {l : List α} {m : List β}, (∀ a b, a ∈ l → f a = some b → Q b a) → mapO f l = some m → All2 Q m l := by
  intro l
  induction l with
  | nil => intro m _ h; simp at h; subst h; exact .nil
  | cons a l ih =>
    intro m hq h
    rw [mapO_cons] at h
    obtain ⟨b, hb, h⟩ := ob_eq h
    obtain ⟨bs, hbs, h⟩ := ob_eq h
    simp at h
    subst h
    exact .cons (hq a b (by simp) hb) (ih (fun a b ha => hq a b (by simp [ha])) hbs)

theorem ofValue_rel (μ : Mu) : ∀ (d : Nat) (v : Value) (a : AV), ofValue d v = some a → VR μ a v := by
  intro d
  induction d with
  | zero => intro v a h; exact nomatch h
  | succ d ih =>
    intro v a h
    replace h : ofV1 (ofValue d) v = some a := h
    unfold ofV1 at h
    split at h
    · simp at h; subst h; exact .bool _
    · simp at h; subst h; exact .int _ _
    · simp at h; subst h; exact .str _
    · simp at h; subst h; exact .nilp
    · simp at h; subst h; exact .nils
    · simp at h; subst h; exact .nilm
    · simp at h; subst h; exact .nilf
    · simp at h; subst h; exact .nili
    · obtain ⟨b, hb, h⟩ := ob_eq h; simp at h; subst h; exact .ifc _ (ih _ _ hb)
    · obtain ⟨l, hl, h⟩ := ob_eq h
      obtain ⟨h1, h⟩ := ot_eq h
      simp at h; subst h
      rw [allB_eq, List.all_eq_true] at h1
      exact .agg (mapO_all2 (fun a b _ hb => ih _ _ hb) hl) h1
    · obtain ⟨l, hl, h⟩ := ob_eq h; simp at h; subst h; exact .tup (mapO_all2 (fun a b _ hb => ih _ _ hb) hl)
    · exact nomatch h

theorem zeroOf_one {t : TypeId} {z : AV} (h : zeroOf (ttOf P) t = some z) : ∀ c ∈ cellsV z, oneA c = true := by
  obtain ⟨i, hi, h⟩ := ob_eq h
  obtain ⟨v, hv, h⟩ := ob_eq h
  obtain ⟨a, ha, h⟩ := ob_eq h
  obtain ⟨h1, h⟩ := ot_eq h
  injection h with h
  subst h
  rw [allB_eq, List.all_eq_true] at h1
  exact h1
theorem zeroOf_run {t : TypeId} {z : AV} (h : zeroOf (ttOf P) t = some z) (μ : Mu) (w : World) : ∃ v, (zeroValue t).run P w = .ok v w ∧ VR μ z v := by
  obtain ⟨i, hi, h⟩ := ob_eq h
  obtain ⟨v, hv, h⟩ := ob_eq h
  obtain ⟨a, ha, h⟩ := ob_eq h
  obtain ⟨h1, h⟩ := ot_eq h
  injection h with h
  subst h
  refine ⟨v, ?_, ofValue_rel μ _ _ _ ha⟩
  unfold zeroValue
  rw [run_ok (run_info hi w), hv]
  rfl

theorem run_mapM {α β : Type} {f : α → Sem β} {g : α → Option β} (w : World) : ∀ {l : List α} {m : List β}, (∀ a b, a ∈ l → g a = some b → (f a).run P w = .ok b w) → mapO g l = some m →
    (l.mapM f).run P w = .ok m w := by
  intro l
  induction l with
  | nil => intro m _ h; simp at h; subst h; rfl
  | cons a l ih =>
    intro m hq h
    rw [mapO_cons] at h
    obtain ⟨b, hb, h⟩ := ob_eq h
    obtain ⟨bs, hbs, h⟩ := ob_eq h
    injection h with h
    subst h
    rw [List.mapM_cons, run_ok (hq a b (by simp) hb), run_ok (ih (fun a b ha => hq a b (by simp [ha])) hbs)]
    rfl
theorem run_mapMA {α β : Type} {f : α → Sem β} {g : α → Option β} (w : World) {l : Array α} {m : List β} (h : ∀ a b, a ∈ l.toList → g a = some b → (f a).run P w = .ok b w) (hm : mapO g l.toList = some m) :
    (l.mapM f).run P w = .ok m.toArray w := by
  rw [Array.mapM_eq_mapM_toList]
  show (List.toArray <$> List.mapM f l.toList).run P w = _
  rw [map_eq_pure_bind, run_ok (run_mapM w h hm)]
  rfl

/-! ### operands -/
/-- what the operands' values stand for -/
def IOR (μ : Mu) (wr : WrT) (io : Opd → Option AV) (ρ : Operand → Value) : Prop :=
  ∀ x a v, opnd wr x = some a → io a = some v → VR μ v (ρ x)

theorem cellsV_rel {z : AV} {v : Value} (h : VR μ z v) : VRs μ (cellsV z) v.cells.toList := by
  cases h <;> first | (exact .cons (by first | exact .bool _ | exact .ub _ | exact .int _ _ | exact .str _ | exact .nilp | exact .nils | exact .nilm | exact .nilf | exact .nili | (apply VR.ptr; assumption) | (apply VR.sl <;> assumption) | (apply VR.sl0; assumption) | (apply VR.slx <;> assumption) | (apply VR.map; assumption) | (apply VR.fn <;> assumption) | (apply VR.yld; assumption) | (apply VR.ifc; assumption) | (apply VR.tup; assumption) | (apply VR.res; assumption) | (apply VR.sym; assumption)) .nil) | (simpa [Value.cells, cellsV] using ‹All2 _ _ _›)

section inv
variable {β : Type}
theorem onPtr_eq {f : Nat → Nat → Option β} {v : AV} {r : β} (h : onPtr f v = some r) : ∃ b o, v = .ptr b o ∧ f b o = some r := by
  cases v <;> first | exact ⟨_, _, rfl, h⟩ | exact nomatch h
theorem onInt_eq {f : IntKind → Int → Option β} {v : AV} {r : β} (h : onInt f v = some r) : ∃ k n, v = .int k n ∧ f k n = some r := by
  cases v <;> first | exact ⟨_, _, rfl, h⟩ | exact nomatch h
theorem onNat_eq {f : Nat → Option β} {v : AV} {r : β} (h : onNat f v = some r) : ∃ k n, v = .int k (Int.ofNat n) ∧ f n = some r := by
  cases v with
  | int k n =>
    cases n with
    | ofNat n => exact ⟨_, _, rfl, h⟩
    | negSucc n => exact nomatch h
  | _ => exact nomatch h
theorem onBool_eq {f : Bool → Option β} {v : AV} {r : β} (h : onBool f v = some r) : ∃ b, v = .bool b ∧ f b = some r := by
  cases v <;> first | exact ⟨_, rfl, h⟩ | exact nomatch h
theorem onStr_eq {f : Nat → Nat → Option β} {v : AV} {r : β} (h : onStr f v = some r) : ∃ l n, v = .str l n ∧ f l n = some r := by
  cases v <;> first | exact ⟨_, _, rfl, h⟩ | exact nomatch h
theorem onAgg_eq {f : List AV → Option β} {v : AV} {r : β} (h : onAgg f v = some r) : ∃ cs, v = .agg cs ∧ f cs = some r := by
  cases v <;> first | exact ⟨_, rfl, h⟩ | exact nomatch h
theorem onTup_eq {f : List AV → Option β} {v : AV} {r : β} (h : onTup f v = some r) : ∃ cs, v = .tup cs ∧ f cs = some r := by
  cases v <;> first | exact ⟨_, rfl, h⟩ | exact nomatch h
theorem onSl_eq {f : Nat → Nat → Nat → Nat → Option β} {z : Option β} {v : AV} {r : β} (h : onSl f z v = some r) :
    (∃ b o l c, v = .sl b o l c ∧ f b o l c = some r) ∨ (v = .nils ∧ z = some r) := by
  cases v <;> first | exact .inl ⟨_, _, _, _, rfl, h⟩ | exact .inr ⟨rfl, h⟩ | exact nomatch h
theorem onMap_eq {f : Nat → Option β} {z : Option β} {v : AV} {r : β} (h : onMap f z v = some r) : (∃ b, v = .map b ∧ f b = some r) ∨ (v = .nilm ∧ z = some r) := by
  cases v <;> first | exact .inl ⟨_, rfl, h⟩ | exact .inr ⟨rfl, h⟩ | exact nomatch h
theorem onIfc_eq {f : TypeId → AV → Option β} {z : Option β} {v : AV} {r : β} (h : onIfc f z v = some r) : (∃ t u, v = .ifc t u ∧ f t u = some r) ∨ (v = .nili ∧ z = some r) := by
  cases v <;> first | exact .inl ⟨_, _, rfl, h⟩ | exact .inr ⟨rfl, h⟩ | exact nomatch h
theorem onFn_eq {f : Fn → List AV → List AV → Option β} {v : AV} {r : β} (h : onFn f v = some r) : ∃ g a b, v = .fn g a b ∧ f g a b = some r := by
  cases v <;> first | exact ⟨_, _, _, rfl, h⟩ | exact nomatch h
theorem onCells_eq {f : Nat → Cells → TypeId → Bool → Nat → Nat → Nat → Option β} {o : AObj} {r : β} (h : onCells f o = some r) : ∃ n c e ex md fz ch, o = .cells n c e ex md fz ch ∧ f n c e ex md fz ch = some r := by
  cases o <;> first | exact ⟨_, _, _, _, _, _, _, rfl, h⟩ | exact nomatch h
theorem onSlx_eq {f : Nat → Nat → Nat → Int → Lin → Option β} {g : AV → Option β} {v : AV} {r : β} (h : onSlx f g v = some r) : (∃ b o n c ts, v = .slx b o n c ts ∧ f b o n c ts = some r) ∨ ((∀ b o n c ts, v ≠ .slx b o n c ts) ∧ g v = some r) := by
  cases v <;> first | exact .inl ⟨_, _, _, _, _, rfl, h⟩ | exact .inr ⟨(fun _ _ _ _ _ h => nomatch h), h⟩
theorem onRd_eq {f : Nat → Cells → Option β} {o : AObj} {r : β} (h : onRd f o = some r) : ∃ n c, f n c = some r ∧ ((∃ e ex md fz ch, o = .cells n c e ex md fz ch) ∨ o = .row n c) := by
  cases o <;> first | exact ⟨_, _, h, .inl ⟨_, _, _, _, _, rfl⟩⟩ | exact ⟨_, _, h, .inr rfl⟩ | exact nomatch h
theorem onMapO_eq {f : List (AV × AV × Nat) → Nat → Option β} {o : AObj} {r : β} (h : onMapO f o = some r) : ∃ es c, o = .map es c ∧ f es c = some r := by
  cases o <;> first | exact ⟨_, _, rfl, h⟩ | exact nomatch h
theorem onLoop_eq {f : LoopState → Option Ex → FuncId → T AV → List Nat → IC → IC → Option β} {o : AObj} {r : β} (h : onLoop f o = some r) :
    ∃ a b c d e g i, o = .loop a b c d e g i ∧ f a b c d e g i = some r := by
  cases o <;> first | exact ⟨_, _, _, _, _, _, _, rfl, h⟩ | exact nomatch h
theorem onSit_eq {f : Nat → Nat → Nat → Option β} {o : AObj} {r : β} (h : onSit f o = some r) : ∃ l n p, o = .siter l n p ∧ f l n p = some r := by
  cases o <;> first | exact ⟨_, _, _, rfl, h⟩ | exact nomatch h
end inv

theorem VR.inv_int {k : IntKind} {n : Int} {v : Value} (h : VR μ (.int k n) v) : v = .int k n := by cases h; rfl
theorem VR.inv_int0 {k : IntKind} {n : Int} {v : Value} (h : VR μ (.int k n) v) : v = .int k (n + linV E.val []) := by cases h; simp
theorem VR.inv_sum {k : IntKind} {c : Int} {l : Lin} {v : Value} (h : VR μ (.sym k c l) v) : v = .int k (c + linV E.val l) := by cases h with | sym _ h => rw [h]
theorem VR.of_sum {k : IntKind} {n : Int} {v : AV} (h : SumIs v k n) : VR μ v (.int k n) := by
  rcases h with rfl | ⟨c, l, rfl, h⟩
  · exact .int _ _
  · exact .sym _ h
theorem VR.inv_slx {b o n : Nat} {c : Int} {ts : Lin} {v : Value} (h : VR μ (.slx b o n c ts) v) :
    ∃ a, ∃ len cap' : Nat, (0 < n → ∃ b' d x, μ b = some (b', d, x) ∧ a = ⟨b', d + o, none⟩) ∧ (len : Int) = c + linV E.val ts ∧ n ≤ len ∧ v = .slice (some a) len cap' := by
  cases h with
  | slx h hl hn => exact ⟨_, _, _, h, hl, hn, rfl⟩
theorem VR.inv_bool {b : Bool} {v : Value} (h : VR μ (.bool b) v) : v = .bool b := by cases h; rfl
theorem VR.inv_str {l n : Nat} {v : Value} (h : VR μ (.str l n) v) : ∃ s : ByteArray, v = .string s ∧ l = s.data.toList.length ∧ n = bytesNum s.data.toList := by
  generalize e : AV.str l n = a at h
  cases h with
  | str s =>
    unfold ofStr at e
    injection e with e1 e2
    exact ⟨s, rfl, by rw [e1, len_eq], e2⟩
  | _ => exact nomatch e
theorem VR.inv_ptr {b o : Nat} {v : Value} (h : VR μ (.ptr b o) v) : ∃ b' d x, μ b = some (b', d, x) ∧ v = .pointer (some ⟨b', d + o, none⟩) := by
  cases h with
  | ptr h => exact ⟨_, _, _, h, rfl⟩
theorem VR.inv_agg {cs : List AV} {v : Value} (h : VR μ (.agg cs) v) : ∃ cs' : Array Value, v = .agg cs' ∧ VRs μ cs cs'.toList ∧ ∀ c ∈ cs, oneA c = true := by
  cases h with
  | agg h h1 => exact ⟨_, rfl, h, h1⟩
theorem VR.inv_tup {cs : List AV} {v : Value} (h : VR μ (.tup cs) v) : ∃ cs' : Array Value, v = .tuple cs' ∧ VRs μ cs cs'.toList := by
  cases h with
  | tup h => exact ⟨_, rfl, h⟩
theorem VR.str_of {s : ByteArray} {l n : Nat} (hl : l = s.data.toList.length) (hn : n = bytesNum s.data.toList) : VR μ (.str l n) (.string s) := by
  have : AV.str l n = ofStr s := by unfold ofStr; rw [hl, hn, len_eq]
  rw [this]; exact .str s
end Go.Ev
end

section
/- Ev, part 8: strings as numbers. -/
namespace Go.Ev
set_option linter.unusedSectionVars false
variable [F : Facts] [E : Env]

@[simp] theorem bytesNum_nil : bytesNum [] = 0 := rfl
theorem bytesNum_cons (b : UInt8) (l : List UInt8) : bytesNum (b :: l) = b.toNat + 256 * bytesNum l := rfl
theorem bytesNum_append (l m : List UInt8) : bytesNum (l ++ m) = bytesNum l + bytesNum m * 256 ^ l.length := by
  induction l with
  | nil => simp
  | cons b l ih =>
    rw [List.cons_append, bytesNum_cons, ih, bytesNum_cons, List.length_cons, Nat.pow_succ]
    rw [Nat.mul_add, ← Nat.add_assoc, ← Nat.mul_assoc]
    congr 1
    rw [Nat.mul_comm (256 : Nat), Nat.mul_assoc, Nat.mul_comm 256]
theorem bytesNum_lt (l : List UInt8) : bytesNum l < 256 ^ l.length := by
  induction l with
  | nil => simp
  | cons b l ih =>
    rw [bytesNum_cons, List.length_cons, Nat.pow_succ]
    have := b.toNat_lt
    omega
theorem bytesNum_div (l : List UInt8) : ∀ j, bytesNum l / 256 ^ j = bytesNum (l.drop j) := by
  induction l with
  | nil => intro j; simp
  | cons b l ih =>
    intro j
    cases j with
    | zero => simp
    | succ j =>
      rw [List.drop_succ_cons, ← ih, bytesNum_cons, Nat.pow_succ, Nat.mul_comm (256 ^ j), ← Nat.div_div_eq_div_mul]
      congr 1
      have := b.toNat_lt
      omega
theorem bytesNum_mod (l : List UInt8) : ∀ j, bytesNum l % 256 ^ j = bytesNum (l.take j) := by
  induction l with
  | nil => intro j; simp
  | cons b l ih =>
    intro j
    cases j with
    | zero => simp [Nat.mod_one]
    | succ j =>
      rw [List.take_succ_cons, bytesNum_cons, bytesNum_cons, ← ih, Nat.pow_succ, Nat.mul_comm (256 ^ j)]
      have hb := b.toNat_lt
      have h1 : (b.toNat + 256 * bytesNum l) / 256 = bytesNum l := by omega
      have h2 : (b.toNat + 256 * bytesNum l) % 256 = b.toNat := by omega
      rw [Nat.mod_mul, h1, h2]
theorem bytesNum_at (l : List UInt8) (j : Nat) (b : UInt8) (h : l[j]? = some b) : bytesNum l / 256 ^ j % 256 = b.toNat := by
  rw [bytesNum_div]
  obtain ⟨hlt, e⟩ := List.getElem?_eq_some_iff.1 h
  rw [List.drop_eq_getElem_cons hlt, e, bytesNum_cons]
  have := b.toNat_lt
  omega
theorem bytesNum_inj : ∀ (l m : List UInt8), l.length = m.length → bytesNum l = bytesNum m → l = m := by
  intro l
  induction l with
  | nil => intro m h _; cases m <;> simp_all
  | cons b l ih =>
    intro m h e
    cases m with
    | nil => simp at h
    | cons c m =>
      rw [bytesNum_cons, bytesNum_cons] at e
      have hb := b.toNat_lt
      have hc := c.toNat_lt
      have e1 : b.toNat = c.toNat := by omega
      have e2 : bytesNum l = bytesNum m := by omega
      rw [UInt8.toNat_inj.1 e1, ih m (by simpa using h) e2]
theorem bytesN_eq (l : List UInt8) : bytesN l.length (bytesNum l) = l.map UInt8.toNat := by
  induction l with
  | nil => rfl
  | cons b l ih =>
    rw [bytesNum_cons]
    show Nat.mod _ _ :: bytesN l.length (Nat.div _ _) = _
    have hb := b.toNat_lt
    have h1 : Nat.div (b.toNat + 256 * bytesNum l) 256 = bytesNum l := by
      show (b.toNat + 256 * bytesNum l) / 256 = _
      omega
    have h2 : Nat.mod (b.toNat + 256 * bytesNum l) 256 = b.toNat := by
      show (b.toNat + 256 * bytesNum l) % 256 = _
      omega
    rw [h1, h2, ih]; rfl
theorem natLess_eq (l : List UInt8) : ∀ m : List UInt8, natLess (l.map UInt8.toNat) (m.map UInt8.toNat) = Op.bytesLess l m := by
  induction l with
  | nil => intro m; cases m <;> rfl
  | cons b l ih =>
    intro m
    cases m with
    | nil => rfl
    | cons c m =>
      simp only [List.map_cons, natLess, Op.bytesLess, bo_eq, ba_eq, nlt_eq, nbeq_eq, ih]
      congr 1
      congr 1
      rw [Bool.eq_iff_iff]; simp [UInt8.toNat_inj]
theorem toList_loop (s : ByteArray) : ∀ (k i : Nat) (r : List UInt8), s.size - i = k → ByteArray.toList.loop s i r = r.reverse ++ s.data.toList.drop i := by
  intro k
  induction k with
  | zero =>
    intro i r h
    rw [ByteArray.toList.loop, if_neg (by omega), List.drop_eq_nil_of_le (by show s.size ≤ i; omega)]; simp
  | succ k ih =>
    intro i r h
    have hlt : i < s.size := by omega
    rw [ByteArray.toList.loop, if_pos hlt, ih (i + 1) _ (by omega)]
    have hl : i < s.data.toList.length := hlt
    rw [List.drop_eq_getElem_cons hl]
    have : s.get! i = s.data.toList[i] := by
      show s.data[i]! = _
      rw [getElem!_pos s.data i hlt]; simp
    rw [this]; simp
theorem toList_data (s : ByteArray) : s.toList = s.data.toList := by
  unfold ByteArray.toList
  rw [toList_loop s (s.size - 0) 0 [] rfl]; simp
theorem strCells_eq (l : List UInt8) : strCells l.length (bytesNum l) = l.map fun b => AV.int .u8 (Int.ofNat b.toNat) := by
  induction l with
  | nil => rfl
  | cons b l ih =>
    rw [bytesNum_cons]
    show AV.int .u8 (Int.ofNat (Nat.mod _ _)) :: strCells l.length (Nat.div _ _) = _
    have hb := b.toNat_lt
    have h1 : Nat.div (b.toNat + 256 * bytesNum l) 256 = bytesNum l := by
      show (b.toNat + 256 * bytesNum l) / 256 = _
      omega
    have h2 : Nat.mod (b.toNat + 256 * bytesNum l) 256 = b.toNat := by
      show (b.toNat + 256 * bytesNum l) % 256 = _
      omega
    rw [h1, h2, ih]; rfl
end Go.Ev
end

section
/- Ev, part 9: '==' part by part; keys of maps. -/
namespace Go.Ev
set_option linter.unusedSectionVars false
variable [F : Facts] [E : Env]
set_option linter.unusedSimpArgs false
set_option linter.unusedVariables false
variable {P : Program} {μ : Mu}

theorem seqS_eq (s t : ByteArray) : seqS s.data.toList.length (bytesNum s.data.toList) t.data.toList.length (bytesNum t.data.toList) = (s.data.toList == t.data.toList) := by
  unfold seqS
  rw [ba_eq, nbeq_eq, nbeq_eq, Bool.eq_iff_iff]
  simp only [Bool.and_eq_true, decide_eq_true_eq, beq_iff_eq]
  exact ⟨fun ⟨h1, h2⟩ => bytesNum_inj _ _ h1 h2, fun h => by rw [h]; exact ⟨rfl, rfl⟩⟩
theorem bytes_beq (s t : ByteArray) : (s == t) = (s.data.toList == t.data.toList) := by
  rw [beq_toListBytes, toList_data, toList_data]

theorem part_ok {off size : Nat} {g : Bool} {v u : AV} {v' : Value} {t : TypeId} (hg : tagg (ttOf P) t = some g) (hs : tsize (ttOf P) t = some size)
    (h : part off size g v = some u) (hv : VR μ v v') (w : World) : ∃ cs' u', v' = .agg cs' ∧ (Go.part t cs' off).run P w = .ok u' w ∧ VR μ u u' := by
  obtain ⟨cs, rfl, h⟩ := onAgg_eq h
  obtain ⟨cs', rfl, hcs, h1⟩ := hv.inv_agg
  refine ⟨cs', ?_⟩
  unfold Go.part
  cases g with
  | true =>
    replace h : some (AV.agg (takeN (dropN cs off) size)) = some u := h
    injection h with h
    subst h
    refine ⟨.agg (cs'.extract off (off + size)), rfl, ?_, ?_⟩
    · rw [run_ok (run_agg hg w)]
      simp only [if_true]
      rw [run_ok (run_size hs w)]; rfl
    · rw [takeN_eq, dropN_eq]
      refine .agg ?_ fun c hc => h1 c (List.mem_of_mem_drop (List.mem_of_mem_take hc))
      have : (cs'.extract off (off + size)).toList = (cs'.toList.drop off).take size := by
        rw [Array.toList_extract, List.extract_eq_take_drop]
        simp
      rw [this]
      exact (hcs.drop off).take size
  | false =>
    replace h : nth cs off = some u := h
    rw [nth_eq] at h
    obtain ⟨u', hu, hr⟩ := hcs.get h
    refine ⟨u', rfl, ?_, hr⟩
    rw [run_ok (run_agg hg w)]
    simp only [Bool.false_eq_true, if_false]
    have : cs'[off]? = some u' := by simpa using hu
    rw [this]; rfl

theorem name_beq (a b : String) : (a == b) = decide (a = b) := by rw [Bool.eq_iff_iff]; simp

theorem ekOf_eq {t : TypeId} {k : EK} (h : ekOf (ttOf P) t = some k) : ∃ d, und (ttOf P) t = some d ∧ ekD d = some k := ob_eq h

theorem fieldsOf_eq {t : TypeId} {fs : Array Field} (h : P.underlying t = some (.struct fs)) : P.fieldsOf t = fs := by
  unfold Program.fieldsOf; rw [h]

theorem eqSym_ok (w : World) (d : Nat) (t : TypeId) {i j : IntKind} {c e : Int} {l r : Lin} {x' y' : Value} {k : EK} {b : Bool} {ds : TypeDesc}
    (hx : x' = .int i (c + linV E.val l)) (hy : y' = .int j (e + linV E.val r)) (h : eqSym i c l j e r k = some b) (hu : P.underlying t = some ds) (hdk : ekD ds = some k) :
    (Op.equalIn (d + 1) t x' y').run P w = .ok b w := by
  unfold eqSym at h
  split at h
  · subst hx; subst hy
    cases ds <;> simp [ekD] at hdk
    obtain ⟨h1, h2⟩ := ot_eq h
    rw [keq_eq, decide_eq_true_eq] at h1
    subst h1
    obtain ⟨v, hv, h2⟩ := ob_eq h2
    obtain ⟨b', e1, h3⟩ := onBool_eq h2
    subst e1
    injection h3 with h3
    subst h3
    have hc := cmpL_ok hv
    rw [run_equalIn_int w d t _ _ _ _ hu]
    unfold cmpI at hc
    rw [ieq_eq] at hc
    injection hc with hc
    injection hc with hc
    rw [← hc]
  · exact nomatch h

set_option maxHeartbeats 4000000 in
theorem equal_ok : ∀ (d : Nat) (t : TypeId) (x y : AV) (x' y' : Value) (b : Bool) (w : World), eqv P (ttOf P) d t x y = some b → VR μ x x' → VR μ y y' →
    (Op.equalIn d t x' y').run P w = .ok b w := by
  intro d
  induction d with
  | zero => intro t x y x' y' b w h; exact nomatch h
  | succ d ih =>
    intro t x y x' y' b w h hx hy
    replace h : ob (ekOf (ttOf P) t) (eqv1 P (ttOf P) (eqv P (ttOf P) d) t x y) = some b := h
    obtain ⟨k, hk, h⟩ := ob_eq h
    obtain ⟨ds, hd, hdk⟩ := ekOf_eq hk
    have hu := und_eq hd
    unfold eqv1 at h
    split at h
    · -- bool
      split at h
      · have e := hx.inv_bool; have e' := hy.inv_bool; subst e; subst e'
        cases ds <;> simp [ekD] at hdk
        rw [run_equalIn_bool' w d t _ _ hu]; simp at h; rw [← h]
      · exact nomatch h
    · split at h
      · have e := hx.inv_int; have e' := hy.inv_int; subst e; subst e'
        cases ds <;> simp [ekD] at hdk
        obtain ⟨h1, h2⟩ := ot_eq h
        rw [keq_eq, decide_eq_true_eq] at h1
        subst h1
        rw [run_equalIn_int w d t _ _ _ _ hu]; rw [ieq_eq] at h2; injection h2 with h2; rw [← h2]
      · exact nomatch h
    · exact eqSym_ok w d t hx.inv_int0 hy.inv_sum h hu hdk
    · exact eqSym_ok w d t hx.inv_sum hy.inv_int0 h hu hdk
    · exact eqSym_ok w d t hx.inv_sum hy.inv_sum h hu hdk
    · split at h
      · obtain ⟨s, rfl, rfl, rfl⟩ := hx.inv_str
        obtain ⟨s', rfl, rfl, rfl⟩ := hy.inv_str
        cases ds <;> simp [ekD] at hdk
        rw [run_equalIn_string w d t _ _ hu, toList_data, toList_data]
        rw [seqS_eq] at h
        injection h with h; rw [← h]
      · exact nomatch h
    · split at h
      · cases hx; cases hy
        cases ds <;> simp [ekD] at hdk
        injection h with h; subst h; simp [Op.equalIn, run_bind, run_und hd w]
      · exact nomatch h
    · split at h
      · cases hx; cases hy
        cases ds <;> simp [ekD] at hdk
        injection h with h; subst h; simp [Op.equalIn, run_bind, run_und hd w]
      · exact nomatch h
    · split at h
      · cases hx; cases hy
        cases ds <;> simp [ekD] at hdk
        injection h with h; subst h; simp [Op.equalIn, run_bind, run_und hd w]
      · exact nomatch h
    · split at h
      · rename_i b1 o1 b2 o2 _ e _
        obtain ⟨s, hs, h2⟩ := ob_eq h
        obtain ⟨h1, h3⟩ := ot_eq h2
        rw [ba_eq, nlt_eq, nbeq_eq] at h1
        simp at h1
        obtain ⟨hs0, rfl⟩ := h1
        obtain ⟨b', d', x', hm, rfl⟩ := hx.inv_ptr
        obtain ⟨b2, d2, x2, hm2, rfl⟩ := hy.inv_ptr
        rw [hm] at hm2
        injection hm2 with hm2
        injection hm2 with e1 e2
        injection e2 with e2 e3
        subst e1; subst e2
        cases ds <;> simp [ekD] at hdk
        subst hdk
        simp only [Op.equalIn, run_bind, run_und hd w, run_size hs w]
        rw [if_pos (by omega)]
        simp only [sameAddr, beq_self_eq_true, if_true]
        injection h3 with h3
        rw [← h3, nbeq_eq]
        show Result.ok _ w = _
        congr 1
        rw [Bool.eq_iff_iff]
        simp
      · exact nomatch h
    · split at h
      · cases hx; cases hy
        cases ds <;> simp [ekD] at hdk
        injection h with h; subst h; simp [Op.equalIn, run_bind, run_und hd w]
      · exact nomatch h
    · split at h
      · cases hx; cases hy
        cases ds <;> simp [ekD] at hdk
        injection h with h; subst h; simp [Op.equalIn, run_bind, run_und hd w]
      · exact nomatch h
    · split at h
      · cases hx; cases hy
        cases ds <;> simp [ekD] at hdk
        injection h with h; subst h; simp [Op.equalIn, run_bind, run_und hd w]
      · exact nomatch h
    · split at h
      · rename_i tx vx ty vy _ _
        cases hx with
        | ifc _ hvx =>
        cases hy with
        | ifc _ hvy =>
        cases ds <;> simp [ekD] at hdk
        unfold eqIfc at h
        rw [bif2_eq, nbeq_eq] at h
        by_cases e : tx = ty
        · subst e
          simp only [decide_true, if_true] at h
          obtain ⟨i, hi, h⟩ := ob_eq h
          obtain ⟨hc, h⟩ := ot_eq h
          simp only [Op.equalIn, run_bind, run_und hd w]
          simp only [ne_eq, not_true_eq_false, if_false, run_bind, run_info hi w, hc, Bool.not_true, Bool.false_eq_true]
          exact ih _ _ _ _ _ _ _ h hvx hvy
        · simp [e] at h
          simp [Op.equalIn, run_bind, run_und hd w, e]; rw [h]
      · exact nomatch h
    · split at h
      · cases hx; cases hy
        cases ds <;> simp [ekD] at hdk
        injection h with h; subst h; simp [Op.equalIn, run_bind, run_und hd w]
      · exact nomatch h
    · split at h
      · cases hx
        cases ds <;> simp [ekD] at hdk
        injection h with h; subst h; cases hy <;> simp [Op.equalIn, run_bind, run_und hd w]
      · exact nomatch h
    · split at h
      · cases hy
        cases ds <;> simp [ekD] at hdk
        injection h with h; subst h; cases hx <;> simp [Op.equalIn, run_bind, run_und hd w]
      · exact nomatch h
    · split at h
      · cases hx; cases hy
        cases ds <;> simp [ekD] at hdk
        injection h with h; subst h; simp [Op.equalIn, run_bind, run_und hd w]
      · exact nomatch h
    · split at h
      · cases hx; cases hy
        cases ds <;> simp [ekD] at hdk
        injection h with h; subst h; simp [Op.equalIn, run_bind, run_und hd w]
      · exact nomatch h
    · split at h
      · cases hx; cases hy
        cases ds <;> simp [ekD] at hdk
        injection h with h; subst h; simp [Op.equalIn, run_bind, run_und hd w]
      · exact nomatch h
    · split at h
      · cases hx; cases hy
        cases ds <;> simp [ekD] at hdk
        injection h with h; subst h; simp [Op.equalIn, run_bind, run_und hd w]
      · exact nomatch h
    · split at h
      · cases hx
        cases ds <;> simp [ekD] at hdk
        injection h with h; subst h; cases hy <;> simp [Op.equalIn, run_bind, run_und hd w]
      · exact nomatch h
    · split at h
      · cases hy
        cases ds <;> simp [ekD] at hdk
        injection h with h; subst h; cases hx <;> simp [Op.equalIn, run_bind, run_und hd w]
      · exact nomatch h
    · unfold eqAgg at h
      split at h
      · rename_i xs ys _ fs
        obtain ⟨hst, h⟩ := ot_eq h
        rw [nb_eq] at hst
        simp at hst
        obtain ⟨xs', rfl, hxs, hx1⟩ := hx.inv_agg
        obtain ⟨ys', rfl, hys, hy1⟩ := hy.inv_agg
        cases ds <;> simp [ekD] at hdk
        rename_i fs'
        subst hdk
        have hf := fieldsOf_eq hu
        rw [run_equalIn_struct w d t _ _ (by rw [hf]; exact hu) hst, hf]
        clear hk hd hu hf hst
        generalize fs'.toList = l at h
        induction l with
        | nil => simp [eqFields] at h; simp [Op.eqFields, h]
        | cons f l ihl =>
          unfold eqFields at h
          rw [lrec_cons] at h
          obtain ⟨r, hr, h⟩ := ob_eq h
          unfold eqField at hr
          rw [bif2_eq, name_beq] at hr
          unfold Op.eqFields
          by_cases hn : f.name = "_"
          · simp [hn] at hr
            subst hr
            rw [if_neg (by simpa using hn)]
            exact ihl h
          · simp [hn] at hr
            rw [if_pos (by simpa using hn)]
            obtain ⟨g, hg, hr⟩ := ob_eq hr
            obtain ⟨sz, hsz, hr⟩ := ob_eq hr
            obtain ⟨u, hu, hr⟩ := ob_eq hr
            obtain ⟨v, hv, hr⟩ := ob_eq hr
            obtain ⟨_, u', e1, ru, hru⟩ := part_ok hg hsz hu hx w
            injection e1 with e1
            subst e1
            obtain ⟨_, v', e2, rv, hrv⟩ := part_ok hg hsz hv hy w
            injection e2 with e2
            subst e2
            rw [run_ok ru, run_ok rv, run_ok (ih _ _ _ _ _ _ w hr hru hrv)]
            cases r with
            | true =>
              simp only [Bool.not_true, Bool.false_eq_true, if_false]
              exact ihl h
            | false =>
              simp at h
              simp [h]
      · exact nomatch h
    · exact nomatch h
theorem key_ok (e : Bool) : ∀ (d : Nat) (t : TypeId) (x : AV) (x' : Value) (w : World), ckey (ttOf P) d t x = true → VR μ x x' → (Instr.checkKey e d t x').run P w = .ok () w := by
  intro d
  induction d with
  | zero => intro t x x' w h; exact nomatch h
  | succ d ih =>
    intro t x x' w h hx
    replace h : (match ekOf (ttOf P) t with | some k => ck1 (ttOf P) (ckey (ttOf P) d) x k | none => false) = true := h
    split at h
    · rename_i k hk
      obtain ⟨ds, hd, hdk⟩ := ekOf_eq hk
      have hu := und_eq hd
      unfold ck1 at h
      split at h
      · cases ds <;> simp [ekD] at hdk
        simp only [Instr.checkKey, run_bind, run_und hd w]; rfl
      · cases ds <;> simp [ekD] at hdk
        simp only [Instr.checkKey, run_bind, run_und hd w]; rfl
      · cases ds <;> simp [ekD] at hdk
        simp only [Instr.checkKey, run_bind, run_und hd w]; rfl
      · cases ds <;> simp [ekD] at hdk
        simp only [Instr.checkKey, run_bind, run_und hd w]; rfl
      · split at h
        · rename_i fs _ cs
          cases ds <;> simp [ekD] at hdk
          rename_i fs'
          subst hdk
          obtain ⟨cs', rfl, hcs, h1⟩ := hx.inv_agg
          simp only [Instr.checkKey, run_bind, run_und hd w]
          rw [← Array.forIn_toList]
          rw [allB_eq, List.all_eq_true] at h
          have key : ∀ l : List Field, (∀ f ∈ l, ckField (ttOf P) (ckey (ttOf P) d) (.agg cs) f = true) →
              Sem.run P (forIn l PUnit.unit fun f __s =>
                if f.name ≠ "_" then do
                  let u ← Go.part f.type cs' f.offset
                  Instr.checkKey e d f.type u
                  pure (ForInStep.yield PUnit.unit)
                else pure (ForInStep.yield PUnit.unit)) w = Result.ok () w := by
            intro l h
            induction l with
            | nil => rfl
            | cons f l ihl =>
              rw [List.forIn_cons, run_bind]
              have hh := h f (by simp)
              unfold ckField at hh
              rw [bo_eq, name_beq] at hh
              by_cases hn : f.name = "_"
              · rw [if_neg (by simpa using hn)]
                exact ihl fun g hg => h g (by simp [hg])
              · rw [if_pos hn]
                simp only [hn, decide_false, Bool.false_or] at hh
                split at hh
                · rename_i u hu
                  obtain ⟨g, hg, hu⟩ := ob_eq hu
                  obtain ⟨sz, hsz, hu⟩ := ob_eq hu
                  obtain ⟨_, u', e1, ru, hru⟩ := part_ok hg hsz hu hx w
                  injection e1 with e1
                  subst e1
                  rw [run_ok ru, run_ok (ih _ _ _ w hh hru)]
                  exact ihl fun g hg => h g (by simp [hg])
                · exact nomatch hh
          rw [key _ h]; rfl
        · exact nomatch h
      · exact nomatch h
    · exact nomatch h
end Go.Ev
end

section
/- Ev, part 10: operations that are pure. -/
namespace Go.Ev
set_option linter.unusedSectionVars false
variable [F : Facts] [E : Env]
set_option linter.unusedSimpArgs false
set_option linter.unusedVariables false
variable {P : Program} {μ : Mu}

theorem lim_i8 : lim .i8 = 128 := rfl
theorem pos_i8 (m : Nat) (h : ¬ 128 ≤ m) : IntKind.i8.wrap (m : Int) = m := IntWalk.i8_in _ ⟨by omega, by omega⟩
theorem lim_i16 : lim .i16 = 32768 := rfl
theorem pos_i16 (m : Nat) (h : ¬ 32768 ≤ m) : IntKind.i16.wrap (m : Int) = m := IntWalk.i16_in _ ⟨by omega, by omega⟩
theorem lim_i32 : lim .i32 = 2147483648 := rfl
theorem pos_i32 (m : Nat) (h : ¬ 2147483648 ≤ m) : IntKind.i32.wrap (m : Int) = m := IntWalk.i32_in _ ⟨by omega, by omega⟩
theorem lim_i64 : lim .i64 = 9223372036854775808 := rfl
theorem pos_i64 (m : Nat) (h : ¬ 9223372036854775808 ≤ m) : IntKind.i64.wrap (m : Int) = m := IntWalk.i64_in _ ⟨by omega, by omega⟩
theorem lim_u8 : lim .u8 = 256 := rfl
theorem pos_u8 (m : Nat) (h : ¬ 256 ≤ m) : IntKind.u8.wrap (m : Int) = m := IntWalk.u8_in _ ⟨by omega, by omega⟩
theorem lim_u16 : lim .u16 = 65536 := rfl
theorem pos_u16 (m : Nat) (h : ¬ 65536 ≤ m) : IntKind.u16.wrap (m : Int) = m := IntWalk.u16_in _ ⟨by omega, by omega⟩
theorem lim_u32 : lim .u32 = 4294967296 := rfl
theorem pos_u32 (m : Nat) (h : ¬ 4294967296 ≤ m) : IntKind.u32.wrap (m : Int) = m := IntWalk.u32_in _ ⟨by omega, by omega⟩
theorem lim_u64 : lim .u64 = 18446744073709551616 := rfl
theorem pos_u64 (m : Nat) (h : ¬ 18446744073709551616 ≤ m) : IntKind.u64.wrap (m : Int) = m := IntWalk.u64_in _ ⟨by omega, by omega⟩
theorem neg_i8 (m : Nat) (h : ¬ 128 ≤ m) : IntKind.i8.wrap (-(m : Int) - 1) = -(m : Int) - 1 := IntWalk.i8_in _ ⟨by omega, by omega⟩
theorem neg_i16 (m : Nat) (h : ¬ 32768 ≤ m) : IntKind.i16.wrap (-(m : Int) - 1) = -(m : Int) - 1 := IntWalk.i16_in _ ⟨by omega, by omega⟩
theorem neg_i32 (m : Nat) (h : ¬ 2147483648 ≤ m) : IntKind.i32.wrap (-(m : Int) - 1) = -(m : Int) - 1 := IntWalk.i32_in _ ⟨by omega, by omega⟩
theorem neg_i64 (m : Nat) (h : ¬ 9223372036854775808 ≤ m) : IntKind.i64.wrap (-(m : Int) - 1) = -(m : Int) - 1 := IntWalk.i64_in _ ⟨by omega, by omega⟩
theorem pos_in (k : IntKind) (m : Nat) (h : ¬ lim k ≤ m) : k.wrap (m : Int) = m := by
  cases k with
  | i8 => exact pos_i8 m (by rw [lim_i8] at h; exact h)
  | i16 => exact pos_i16 m (by rw [lim_i16] at h; exact h)
  | i32 => exact pos_i32 m (by rw [lim_i32] at h; exact h)
  | i64 => exact pos_i64 m (by rw [lim_i64] at h; exact h)
  | u8 => exact pos_u8 m (by rw [lim_u8] at h; exact h)
  | u16 => exact pos_u16 m (by rw [lim_u16] at h; exact h)
  | u32 => exact pos_u32 m (by rw [lim_u32] at h; exact h)
  | u64 => exact pos_u64 m (by rw [lim_u64] at h; exact h)
theorem neg_in (k : IntKind) (hs : k.signed = true) (m : Nat) (h : ¬ lim k ≤ m) : k.wrap (-(m : Int) - 1) = -(m : Int) - 1 := by
  cases k with
  | i8 => exact neg_i8 m (by rw [lim_i8] at h; exact h)
  | i16 => exact neg_i16 m (by rw [lim_i16] at h; exact h)
  | i32 => exact neg_i32 m (by rw [lim_i32] at h; exact h)
  | i64 => exact neg_i64 m (by rw [lim_i64] at h; exact h)
  | u8 => exact nomatch hs
  | u16 => exact nomatch hs
  | u32 => exact nomatch hs
  | u64 => exact nomatch hs
theorem wrapF_eq (k : IntKind) (n : Int) : wrapF k n = k.wrap n := by
  cases n with
  | ofNat m =>
    show bif2 (Nat.ble (lim k) m) (k.wrap (.ofNat m)) (.ofNat m) = _
    rw [bif2_eq, nle_eq]
    split
    · rfl
    · rename_i h
      rw [decide_eq_true_eq] at h
      exact (pos_in k m h).symm
  | negSucc m =>
    show bif2 (bif2 k.signed (Nat.ble (lim k) m) true) (k.wrap (.negSucc m)) (.negSucc m) = _
    cases hs : k.signed with
    | false => rw [bif2_false, bif2_true]
    | true =>
      rw [bif2_true, bif2_eq, nle_eq]
      split
      · rfl
      · rename_i h
        rw [decide_eq_true_eq] at h
        have e : Int.negSucc m = -(m : Int) - 1 := by omega
        rw [e]
        exact (neg_in k hs m h).symm

/-- gives a value, and leaves the world alone -/
def Gives (P : Program) (μ : Mu) (s : Sem Next) (w : World) (v : AV) : Prop := ∃ v', s.run P w = .ok (.value v') w ∧ VR μ v v'
theorem gives_of {s : Sem Value} {w : World} {v : AV} {v' : Value} (h : s.run P w = .ok v' w) (hr : VR μ v v') :
    Gives P μ (do pure (.value (← s))) w v := ⟨v', by rw [run_ok h]; rfl, hr⟩

theorem mapO_get {α β : Type} {f : α → Option β} : ∀ {l : List α} {m : List β}, mapO f l = some m → ∀ (i : Nat) (b : β), m[i]? = some b → ∃ a, l[i]? = some a ∧ f a = some b := by
  intro l
  induction l with
  | nil => intro m h i b hb; simp at h; subst h; simp at hb
  | cons a l ih =>
    intro m h i b hb
    rw [mapO_cons] at h
    obtain ⟨c, hc, h⟩ := ob_eq h
    obtain ⟨cs, hcs, h⟩ := ob_eq h
    injection h with h
    subst h
    cases i with
    | zero => simp at hb; subst hb; exact ⟨a, by simp, hc⟩
    | succ i => simp at hb; obtain ⟨x, hx, e⟩ := ih hcs i b hb; exact ⟨x, by simpa using hx, e⟩

section
variable {wr : WrT} {io : Opd → Option AV} {ρ : Operand → Value} (hio : IOR μ wr io ρ)
include hio

theorem ios_rel : ∀ {l : List Operand} {xs : List Opd} {vs : List AV}, opnds wr l = some xs → ios io xs = some vs → VRs μ vs (l.map ρ) := by
  intro l
  induction l with
  | nil =>
    intro xs vs h1 h2
    unfold opnds at h1
    simp at h1; subst h1
    unfold ios at h2
    simp at h2; subst h2
    exact .nil
  | cons x l ih =>
    intro xs vs h1 h2
    unfold opnds at h1
    rw [mapO_cons] at h1
    obtain ⟨a, ha, h1⟩ := ob_eq h1
    obtain ⟨as, has, h1⟩ := ob_eq h1
    injection h1 with h1
    subst h1
    unfold ios at h2
    rw [mapO_cons] at h2
    obtain ⟨v, hv, h2⟩ := ob_eq h2
    obtain ⟨vs', hvs, h2⟩ := ob_eq h2
    injection h2 with h2
    subst h2
    exact .cons (hio _ _ _ ha hv) (ih has hvs)

omit hio in
theorem arithI_ok {op : BinOp} {k : IntKind} {a b : Int} {v : AV} (t : TypeId) (h : arithI op k a b = some v) (w : World) :
    ∃ v', (binOp op t (.int k a) (.int k b)).run P w = .ok v' w ∧ VR μ v v' := by
  unfold arithI at h
  split at h
  · injection h with h
    refine ⟨_, ?_, by rw [← h]; exact .int _ _⟩
    simp only [binOp, ne_eq, not_true_eq_false, if_false, Op.intArith, wrapF_eq]; rfl
  · injection h with h
    refine ⟨_, ?_, by rw [← h]; exact .int _ _⟩
    simp only [binOp, ne_eq, not_true_eq_false, if_false, Op.intArith, wrapF_eq]; rfl
  · injection h with h
    refine ⟨_, ?_, by rw [← h]; exact .int _ _⟩
    simp only [binOp, ne_eq, not_true_eq_false, if_false, Op.intArith, wrapF_eq]; rfl
  · obtain ⟨h0, h⟩ := ot_eq h
    rw [nb_eq, ieq_eq] at h0
    injection h with h
    refine ⟨_, ?_, by rw [← h]; exact .int _ _⟩
    simp only [binOp, ne_eq, not_true_eq_false, if_false, Op.intDiv, wrapF_eq]
    rw [if_neg (by simpa using h0)]; rfl
  · obtain ⟨h0, h⟩ := ot_eq h
    rw [nb_eq, ieq_eq] at h0
    injection h with h
    refine ⟨_, ?_, by rw [← h]; exact .int _ _⟩
    simp only [binOp, ne_eq, not_true_eq_false, if_false, Op.intDiv, wrapF_eq]
    rw [if_neg (by simpa using h0)]; rfl
  · injection h with h
    refine ⟨_, ?_, by rw [← h]; exact .int _ _⟩
    simp only [binOp, ne_eq, not_true_eq_false, if_false, Op.intBits]; rfl
  · injection h with h
    refine ⟨_, ?_, by rw [← h]; exact .int _ _⟩
    simp only [binOp, ne_eq, not_true_eq_false, if_false, Op.intBits]; rfl
  · injection h with h
    refine ⟨_, ?_, by rw [← h]; exact .int _ _⟩
    simp only [binOp, ne_eq, not_true_eq_false, if_false, Op.intBits]; rfl
  · injection h with h
    refine ⟨_, ?_, by rw [← h]; exact .int _ _⟩
    simp only [binOp, ne_eq, not_true_eq_false, if_false, Op.intBits]; rfl
  · exact nomatch h

omit hio in
theorem min_bif (m n : Nat) : (bif2 (Nat.ble m n) m n) = min m n := by
  rw [bif2_eq, nle_eq]
  simp only [decide_eq_true_eq]
  split <;> omega

omit hio in
theorem arithS_ok {op : BinOp} {k k' : IntKind} {a b : Int} {v : AV} (t : TypeId) (h : arithS op k a b = some v) (w : World) :
    ∃ v', (binOp op t (.int k a) (.int k' b)).run P w = .ok v' w ∧ VR μ v v' := by
  unfold arithS at h
  split at h
  · unfold aShl at h
    split at h
    · rename_i m
      injection h with h
      refine ⟨_, ?_, by rw [← h]; exact .int _ _⟩
      show (Op.shift .shl k a k' (Int.ofNat m)).run P w = _
      unfold Op.shift
      rw [if_neg (by simp), wrapF_eq, min_bif]
      show Result.ok (Value.int k (k.wrap (a * 2 ^ min (Int.ofNat m).toNat k.bits))) w = Result.ok (Value.int k (k.wrap (a * ((2 ^ min m k.bits : Nat) : Int)))) w
      rw [Int.natCast_pow]; rfl
    · exact nomatch h
  · unfold aShr at h
    split at h
    · rename_i m
      injection h with h
      refine ⟨_, ?_, by rw [← h]; exact .int _ _⟩
      show (Op.shift .shr k a k' (Int.ofNat m)).run P w = _
      unfold Op.shift
      rw [if_neg (by simp), min_bif]
      show Result.ok (Value.int k (a.fdiv (2 ^ min (Int.ofNat m).toNat k.bits))) w = Result.ok (Value.int k (a.fdiv (((2 ^ min m k.bits : Nat) : Int)))) w
      rw [Int.natCast_pow]; rfl
    · exact nomatch h
  · exact nomatch h

omit hio in
theorem concat_ok {x y v : AV} {x' y' : Value} {la a : Nat} (t : TypeId) (h : onStr (fun lb b => concatS la a lb b) y = some v) (hx : VR μ (.str la a) x') (hy : VR μ y y') (w : World) :
    ∃ v', (binOp .add t x' y').run P w = .ok v' w ∧ VR μ v v' := by
  obtain ⟨lb, b, e, h2⟩ := onStr_eq h
  subst e
  obtain ⟨s, rfl, rfl, rfl⟩ := hx.inv_str
  obtain ⟨s', rfl, rfl, rfl⟩ := hy.inv_str
  obtain ⟨hlt, h3⟩ := ot_eq h2
  rw [nlt_eq, decide_eq_true_eq] at hlt
  injection h3 with h3
  have hdata : (s ++ s').data.toList = s.data.toList ++ s'.data.toList := by simp
  refine ⟨.string (s ++ s'), ?_, ?_⟩
  · show (Op.stringOp .add s s').run P w = _
    unfold Op.stringOp
    have : ¬ ((s.size + s'.size : Nat) : Int) > IntKind.i64.max := by
      have e1 : s.size = s.data.toList.length := rfl
      have e2 : s'.size = s'.data.toList.length := rfl
      have e3 : IntKind.i64.max = 9223372036854775807 := rfl
      rw [e3]
      have hlt' : s.data.toList.length + s'.data.toList.length < 9223372036854775808 := hlt
      omega
    simp only [if_neg this]; rfl
  · rw [← h3]
    refine VR.str_of ?_ ?_
    · rw [hdata, List.length_append]; rfl
    · rw [hdata, bytesNum_append]; rfl

omit hio in
theorem arithL_run {op : BinOp} {k k' : IntKind} {c d : Int} {l r : Lin} {v : AV} {x' y' : Value} (t : TypeId) (hk : k = k') (h : arithL op k c l d r = some v)
    (hx : x' = .int k (c + linV E.val l)) (hy : y' = .int k' (d + linV E.val r)) (w : World) :
    ∃ v', (binOp op t x' y').run P w = .ok v' w ∧ VR μ v v' := by
  subst hk
  subst hx
  subst hy
  obtain ⟨n, hs, hop⟩ := arithL_ok h
  generalize c + linV E.val l = a at *
  generalize d + linV E.val r = b at *
  have fin : arithI op k a b = some (.int k n) → ∃ v', (binOp op t (.int k a) (.int k b)).run P w = .ok v' w ∧ VR μ v v' := by
    intro he
    obtain ⟨v', k1, k2⟩ := arithI_ok (μ := μ) t he w
    have := k2.inv_int
    subst this
    exact ⟨_, k1, VR.of_sum hs⟩
  apply fin
  rcases hop with ⟨rfl, hn⟩ | ⟨rfl, hn⟩ | ⟨rfl, hn⟩ | ⟨rfl, hb, hw, hn⟩ | ⟨rfl, hb, hn⟩
  · show some (AV.int k (wrapF k (a + b))) = _
    rw [wrapF_eq, ← hn]
  · show some (AV.int k (wrapF k (a - b))) = _
    rw [wrapF_eq, ← hn]
  · show some (AV.int k (wrapF k (a * b))) = _
    rw [wrapF_eq, ← hn]
  · have hz : nb (ieq b 0) = true := by
      rw [nb_eq, ieq_eq]
      have : ¬ b = 0 := by omega
      simpa using this
    show ot (nb (ieq b 0)) (some (AV.int k (wrapF k (a.tdiv b)))) = _
    rw [hz, wrapF_eq, ← hn, hw]; rfl
  · have hz : nb (ieq b 0) = true := by
      rw [nb_eq, ieq_eq]
      have : ¬ b = 0 := by omega
      simpa using this
    show ot (nb (ieq b 0)) (some (AV.int k (a.tmod b))) = _
    rw [hz, ← hn]; rfl

omit hio in
theorem onSum_eq {β : Type} {f : IntKind → Int → Lin → Option β} {v : AV} {r : β} {v' : Value} (h : onSum f v = some r) (hv : VR μ v v') : ∃ k c l, f k c l = some r ∧ v' = .int k (c + linV E.val l) := by
  cases v with
  | int k n => exact ⟨k, n, [], h, hv.inv_int0⟩
  | sym k c l => exact ⟨k, c, l, h, hv.inv_sum⟩
  | _ => exact nomatch h

omit hio in
theorem arith_ok {op : BinOp} {x y v : AV} {x' y' : Value} (t : TypeId) (ox oy : Operand) (hn : isCmp op = false) (h : arith op x y = some v) (hx : VR μ x x') (hy : VR μ y y') (w : World) :
    ∃ v', (do eqGuard op t ox oy x' y'; binOp op t x' y' : Sem Value).run P w = .ok v' w ∧ VR μ v v' := by
  have hg : (eqGuard op t ox oy x' y').run P w = .ok () w := by
    cases op <;> first | rfl | exact nomatch hn
  rw [run_ok hg]
  unfold arith at h
  split at h
  · rename_i k a
    split at h
    · obtain ⟨hk, h3⟩ := ot_eq h
      rw [keq_eq, decide_eq_true_eq] at hk
      exact arithL_run t hk h3 hx.inv_int0 hy.inv_sum w
    · obtain ⟨k', b, e, h2⟩ := onInt_eq h
      subst e
      have e1 := hx.inv_int; have e2 := hy.inv_int; subst e1; subst e2
      rw [bif2_eq] at h2
      split at h2
      · exact arithS_ok t h2 w
      · obtain ⟨hk, h3⟩ := ot_eq h2
        rw [keq_eq, decide_eq_true_eq] at hk
        subst hk
        exact arithI_ok t h3 w
  · obtain ⟨k', d, r, h2, ey⟩ := onSum_eq h hy
    obtain ⟨hk, h3⟩ := ot_eq h2
    rw [keq_eq, decide_eq_true_eq] at hk
    exact arithL_run t hk h3 hx.inv_sum ey w
  · split at h
    · exact concat_ok (x := .nilp) t h hx hy w
    · exact nomatch h
  · rename_i k m r
    split at h
    · obtain ⟨k', b, e, h2⟩ := onInt_eq h
      subst e
      obtain ⟨hc, h3⟩ := ot_eq h2
      simp only [ba_eq, Bool.and_eq_true, keq_eq, nlt_eq, decide_eq_true_eq] at hc
      obtain ⟨hk, hb, hm⟩ := hc
      subst hk
      rw [ieq_eq] at hb
      have hb' : b = Int.ofNat m := by simpa using hb
      subst hb'
      injection h3 with h3
      have e2 := hy.inv_int; subst e2
      cases hx with
      | @res _ _ _ n hr =>
        have hz : nb (ieq (Int.ofNat m) 0) = true := by
          rw [nb_eq, ieq_eq]
          have : ¬ (Int.ofNat m = 0) := by
            intro h0
            have : m = 0 := by simpa using h0
            omega
          simpa using this
        have harith : arithI .rem k (n : Int) (Int.ofNat m) = some (.int k (Int.ofNat (n % m))) := by
          show ot (nb (ieq (Int.ofNat m) 0)) _ = _
          rw [hz]; rfl
        obtain ⟨v', k1, k2⟩ := arithI_ok (μ := μ) t harith w
        exact ⟨v', k1, by rw [← h3, ← hr]; exact k2⟩
    · exact nomatch h
  · exact nomatch h

omit hio in
theorem cmpI_run {op : BinOp} {k : IntKind} {a b : Int} {v : AV} (t : TypeId) (ox oy : Operand) (h : cmpI op a b = some v) (w : World) :
    ∃ v', (do eqGuard op t ox oy (.int k a) (.int k b); binOp op t (.int k a) (.int k b) : Sem Value).run P w = .ok v' w ∧ VR μ v v' := by
  have hg : (eqGuard op t ox oy (.int k a) (.int k b)).run P w = .ok () w := by
    cases op <;> rfl
  rw [run_ok hg]
  unfold cmpI at h
  split at h <;> first
    | (injection h with h
       refine ⟨_, ?_, by rw [← h]; exact .bool _⟩
       simp only [binOp, ne_eq, not_true_eq_false, if_false, Op.intCmp, ieq_eq, ilt_eq, ile_eq, nb_eq]; rfl)
    | exact nomatch h

omit hio in
theorem cmpU_run {op : BinOp} {k : IntKind} {a b : Int} {v : AV} (t : TypeId) (ox oy : Operand) (h : cmpI op a b = some v ∨ (v = .ub ∧ ∃ b', cmpI op a b = some (.bool b'))) (w : World) :
    ∃ v', (do eqGuard op t ox oy (.int k a) (.int k b); binOp op t (.int k a) (.int k b) : Sem Value).run P w = .ok v' w ∧ VR μ v v' := by
  rcases h with h | ⟨rfl, b', h⟩
  · exact cmpI_run t ox oy h w
  · obtain ⟨v', h1, h2⟩ := cmpI_run (P := P) (μ := μ) (k := k) t ox oy h w
    rw [h2.inv_bool] at h1
    exact ⟨_, h1, .ub _⟩

omit hio in
theorem cmp_ok {op : BinOp} {x y v : AV} {x' y' : Value} (t : TypeId) (ox oy : Operand) (h : cmp op x y = some v) (hx : VR μ x x') (hy : VR μ y y') (w : World) :
    ∃ v', (do eqGuard op t ox oy x' y'; binOp op t x' y' : Sem Value).run P w = .ok v' w ∧ VR μ v v' := by
  unfold cmp at h
  split at h
  · rename_i k a
    split at h
    · obtain ⟨hk, h3⟩ := ot_eq h
      rw [keq_eq, decide_eq_true_eq] at hk
      subst hk
      rw [hx.inv_int0, hy.inv_sum]
      exact cmpU_run t ox oy (cmpU_ok h3) w
    · obtain ⟨k', b, rfl, h2⟩ := onInt_eq h
      clear h
      have e1 := hx.inv_int; have e2 := hy.inv_int; subst e1; subst e2
      obtain ⟨hk, h⟩ := ot_eq h2
      clear h2
      rw [keq_eq, decide_eq_true_eq] at hk
      subst hk
      exact cmpI_run t ox oy h w
  · obtain ⟨k', d, r, h2, ey⟩ := onSum_eq h hy
    obtain ⟨hk, h3⟩ := ot_eq h2
    rw [keq_eq, decide_eq_true_eq] at hk
    subst hk
    rw [hx.inv_sum, ey]
    exact cmpU_run t ox oy (cmpU_ok h3) w
  · rename_i la a
    obtain ⟨lb, b, rfl, h2⟩ := onStr_eq h
    clear h
    have h := h2
    clear h2
    obtain ⟨s, rfl, rfl, rfl⟩ := hx.inv_str
    obtain ⟨s', rfl, rfl, rfl⟩ := hy.inv_str
    have hg : (eqGuard op t ox oy (.string s) (.string s')).run P w = .ok () w := by
      cases op <;> rfl
    rw [run_ok hg]
    have hlt : ∀ a b : ByteArray, sltS a.data.toList.length (bytesNum a.data.toList) b.data.toList.length (bytesNum b.data.toList) = Op.bytesLess a.toList b.toList := by
      intro a b
      unfold sltS
      rw [bytesN_eq, bytesN_eq, natLess_eq, toList_data, toList_data]
    have htri : ∀ a b : List UInt8, (Op.bytesLess a b || (a == b)) = !Op.bytesLess b a := by
      intro a
      induction a with
      | nil => intro b; cases b <;> simp [Op.bytesLess]
      | cons x a ih =>
        intro b
        cases b with
        | nil => simp [Op.bytesLess]
        | cons y b =>
          have := ih b
          simp only [Op.bytesLess, List.cons_beq_cons]
          by_cases e : x = y
          · subst e; simpa using this
          · have e' : ¬ y = x := fun h => e h.symm
            have ne : (x == y) = false := by simpa using e
            have ne' : (y == x) = false := by simpa using e'
            simp only [ne, ne', Bool.false_and, Bool.or_false]
            rw [Bool.eq_iff_iff]
            have hne : x.toNat ≠ y.toNat := fun h => e (UInt8.toNat_inj.1 h)
            simp [UInt8.lt_iff_toNat_lt, UInt8.le_iff_toNat_le]
            omega
    unfold cmpS at h
    split at h <;> first
      | (injection h with h
         refine ⟨_, ?_, by rw [← h]; exact .bool _⟩
         simp only [binOp, Op.stringOp, seqS_eq, hlt, nb_eq, toList_data, htri, Bool.not_not]; rfl)
      | exact nomatch h
  · exact nomatch h
end
end Go.Ev
end

section
/- Ev, part 11: operations that are pure, all. -/
namespace Go.Ev
set_option linter.unusedSectionVars false
variable [F : Facts] [E : Env]
set_option linter.unusedSimpArgs false
set_option linter.unusedVariables false
variable {P : Program} {μ : Mu}
variable {wr : WrT} {io : Opd → Option AV} {ρ : Operand → Value}

theorem opnds_length {l : List Operand} {xs : List Opd} (h : opnds wr l = some xs) : l.length = xs.length :=
  (mapO_all2 (Q := fun _ _ => True) (fun _ _ _ _ => trivial) h).length.symm
theorem opnds_one {l : List Operand} {x : Opd} (h : opnds wr l = some [x]) : ∃ a, l = [a] ∧ opnd wr a = some x := by
  cases l with
  | nil => exact nomatch h
  | cons a l =>
    unfold opnds at h
    rw [mapO_cons] at h
    obtain ⟨b, hb, h⟩ := ob_eq h
    obtain ⟨bs, hbs, h⟩ := ob_eq h
    injection h with h
    injection h with h1 h2
    subst h1; subst h2
    have := opnds_length hbs
    cases l with
    | nil => exact ⟨a, rfl, hb⟩
    | cons => simp at this
theorem opnds_two {l : List Operand} {x y : Opd} (h : opnds wr l = some [x, y]) : ∃ a b, l = [a, b] ∧ opnd wr a = some x ∧ opnd wr b = some y := by
  cases l with
  | nil => exact nomatch h
  | cons a l =>
    unfold opnds at h
    rw [mapO_cons] at h
    obtain ⟨b, hb, h⟩ := ob_eq h
    obtain ⟨bs, hbs, h⟩ := ob_eq h
    injection h with h
    injection h with h1 h2
    subst h1; subst h2
    obtain ⟨c, rfl, hc⟩ := opnds_one hbs
    exact ⟨a, c, rfl, hb, hc⟩

theorem call_builtin {o : Oper} {c : Call} {b : Builtin} (ho : o.op = .call c) (hb : c.callee = .builtin b) (w : World) :
    (execOp ρ o).run P w = (builtin b c.argTypes o.type (c.args.map fun | .const _ => true | _ => false) (c.args.map ρ)).run P w := by
  unfold execOp
  rw [ho]
  simp only []
  have : (resolve ρ c o.type).run P w = .ok { target := .builtin b c.argTypes o.type (c.args.map fun | .const _ => true | _ => false), args := c.args.map ρ } w := by
    unfold resolve
    rw [hb]; rfl
  rw [run_ok this]; rfl

/-! ### values made of parts -/
theorem setsN_eq (l : List AV) (o : Nat) (vs : List AV) : setsN l o vs = l.take o ++ (vs ++ l.drop (o + vs.length)) := by
  unfold setsN
  rw [app_eq, app_eq, takeN_eq, dropN_eq, len_eq]; rfl
theorem fold_set (vs : List Value) : ∀ (j o : Nat) (cs : Array Value), o + j + vs.length ≤ cs.size →
    (vs.zipIdx j).foldl (fun cs (p : Value × Nat) => cs.setIfInBounds (o + p.2) p.1) cs = (cs.toList.take (o + j) ++ (vs ++ cs.toList.drop (o + j + vs.length))).toArray := by
  induction vs with
  | nil => intro j o cs h; simp
  | cons v vs ih =>
    intro j o cs h
    rw [List.zipIdx_cons, List.foldl_cons, ih]
    · have hlt : o + j < cs.toList.length := by simp at h ⊢; omega
      simp only [Array.toList_setIfInBounds]
      congr 1
      rw [List.drop_set_of_lt (by omega)]
      have e1 : (cs.toList.set (o + j) v).take (o + (j + 1)) = cs.toList.take (o + j) ++ [v] := by
        rw [show o + (j + 1) = (o + j) + 1 from by omega, List.take_succ_eq_append_getElem (by simpa using hlt)]
        rw [List.take_set_of_le (Nat.le_refl _)]
        simp
      rw [e1]
      simp [Nat.add_assoc, Nat.add_comm 1]
    · simp at h ⊢; omega
theorem all2_sets {cs vs : List AV} {cs' vs' : List Value} (h : VRs μ cs cs') (hv : VRs μ vs vs') (o : Nat) :
    VRs μ (cs.take o ++ (vs ++ cs.drop (o + vs.length))) (cs'.take o ++ (vs' ++ cs'.drop (o + vs'.length))) := by
  rw [hv.length]
  exact (h.take o).append (hv.append (h.drop _))

theorem fill_ok {pl : Nat → Option (Nat × Nat)} (hio : IOR μ wr io ρ) : ∀ {parts : List (Nat × Operand)} {l : List (Nat × Nat × Opd)} {cs out : List AV} {cs' : Array Value},
    places wr pl parts = some l → fills io l cs = some out → VRs μ cs cs'.toList → (∀ c ∈ cs, oneA c = true) →
    ∃ out' : Array Value, Instr.fill pl cs' (parts.map fun p => (p.1, ρ p.2)) = some out' ∧ VRs μ out out'.toList ∧ (∀ c ∈ out, oneA c = true) ∧ out.length = cs.length := by
  intro parts
  induction parts with
  | nil =>
    intro l cs out cs' h1 h2 h3 h4
    unfold places at h1
    simp at h1; subst h1
    unfold fills at h2
    simp at h2; subst h2
    exact ⟨cs', rfl, h3, h4, rfl⟩
  | cons p parts ih =>
    intro l cs out cs' h1 h2 h3 h4
    unfold places at h1
    rw [mapO_cons] at h1
    obtain ⟨t, ht, h1⟩ := ob_eq h1
    obtain ⟨ts, hts, h1⟩ := ob_eq h1
    injection h1 with h1
    subst h1
    obtain ⟨q, hq, ht⟩ := ob_eq ht
    obtain ⟨a, ha, ht⟩ := ob_eq ht
    injection ht with ht
    subst ht
    unfold fills at h2
    rw [lrec_cons] at h2
    obtain ⟨v, hv, h2⟩ := ob_eq h2
    have hr := hio _ _ _ ha hv
    have hlen := h3.length
    obtain ⟨off, size⟩ := q
    simp only at h2
    show ∃ out', Instr.fill pl cs' ((p.1, ρ p.2) :: (parts.map fun p => (p.1, ρ p.2))) = some out' ∧ _
    unfold Instr.fill
    rw [hq]
    simp only
    have key : ∀ (vs : List AV), VRs μ vs (ρ p.2).cells.toList → (∀ c ∈ vs, oneA c = true) → vs.length = size → off + size ≤ cs.length →
        lrec (fun cs => some cs) (fun p ih cs => ob (io p.2.2) fun v => fill1 p.1 p.2.1 ih v cs) ts (cs.take off ++ (vs ++ cs.drop (off + vs.length))) = some out →
        ∃ out', (if (ρ p.2).cells.size ≠ size || off + (ρ p.2).cells.size > cs'.size then none
          else Instr.fill pl ((ρ p.2).cells.zipIdx.foldl (fun cs (c, j) => cs.setIfInBounds (off + j) c) cs') (parts.map fun p => (p.1, ρ p.2))) = some out' ∧ VRs μ out out'.toList ∧ (∀ c ∈ out, oneA c = true) ∧ out.length = cs.length := by
      intro vs hvs h1vs hsz hle hrest
      have e1 := hvs.length
      have e2 : (ρ p.2).cells.size = size := by rw [← hsz, e1]; simp
      have e3 : cs'.size = cs.length := by rw [hlen]; simp
      rw [if_neg (by simp [e2, e3]; omega)]
      have e4 : ((ρ p.2).cells.zipIdx.foldl (fun cs (c, j) => cs.setIfInBounds (off + j) c) cs') = (cs'.toList.take off ++ ((ρ p.2).cells.toList ++ cs'.toList.drop (off + (ρ p.2).cells.toList.length))).toArray := by
        rw [← Array.foldl_toList, Array.toList_zipIdx]
        exact fold_set _ 0 off cs' (by simp [e2, e3]; omega)
      rw [e4]
      have hr' := all2_sets h3 hvs off
      obtain ⟨out', a1, a2, a3, a4⟩ := ih (cs' := (cs'.toList.take off ++ ((ρ p.2).cells.toList ++ cs'.toList.drop (off + (ρ p.2).cells.toList.length))).toArray) hts hrest (by simpa using hr') (by
        intro c hc
        simp only [List.mem_append] at hc
        rcases hc with hc | hc | hc
        · exact h4 c (List.mem_of_mem_take hc)
        · exact h1vs c hc
        · exact h4 c (List.mem_of_mem_drop hc))
      refine ⟨out', a1, a2, a3, ?_⟩
      rw [a4]; simp; omega
    unfold fill1 at h2
    split at h2
    · rename_i l
      obtain ⟨hc, h2⟩ := ot_eq h2
      rw [ba_eq, nbeq_eq, nle_eq, len_eq, len_eq] at hc
      simp at hc
      obtain ⟨cs2, e, hcs2, h12⟩ := hr.inv_agg
      have hcells : (ρ p.2).cells.toList = cs2.toList := by rw [e]; rfl
      rw [setsN_eq] at h2
      exact key l (by rw [hcells]; exact hcs2) h12 hc.1 hc.2 h2
    · exact nomatch h2
    · rename_i u n1 n2
      obtain ⟨hc, h2⟩ := ot_eq h2
      rw [ba_eq, nbeq_eq, nle_eq, len_eq] at hc
      simp at hc
      have hone : oneA v = true := by
        cases v <;> first | rfl | exact absurd rfl (n1 _) | exact absurd rfl (n2 _)
      have hov : oneV (ρ p.2) = true := by rw [hr.one, hone]
      have hcells : (ρ p.2).cells = #[ρ p.2] := by
        cases e : ρ p.2 <;> rw [e] at hov <;> first | rfl | exact nomatch hov
      refine key [v] (by rw [hcells]; exact .cons hr .nil) (by simp [hone]) (by simpa using hc.1.symm) (by omega) ?_
      rw [setN_eq] at h2
      have : cs.take off ++ ([v] ++ cs.drop (off + [v].length)) = cs.set off v := by
        rw [List.set_eq_take_append_cons_drop, if_pos (by omega)]
        simp
      rw [this]; exact h2

theorem bnd_ok (hio : IOR μ wr io ρ) {x : Option Operand} {a : Option Opd} {top dflt n : Nat} {top' : Nat} (hx : opndO wr x = some a) (h : bnd io top dflt a = some n) (code : BoundsCode) (w : World) (htop : top ≤ top') :
    (match x with | some v => (Instr.sliceBound (ρ v) top' code).run P w = .ok n w ∧ n ≤ top | none => n = dflt) := by
  cases x with
  | none =>
    injection hx with hx
    subst hx
    injection h with h
    exact h.symm
  | some v =>
    obtain ⟨b, hb, hx⟩ := ob_eq hx
    injection hx with hx
    subst hx
    obtain ⟨u, hu, h⟩ := ob_eq h
    obtain ⟨k, m, e, h⟩ := onNat_eq h
    subst e
    obtain ⟨hle, h⟩ := ot_eq h
    rw [nle_eq, decide_eq_true_eq] at hle
    injection h with h
    subst h
    have e := (hio _ _ _ hb hu).inv_int
    refine ⟨?_, hle⟩
    unfold Instr.sliceBound
    rw [e]
    show (if (0 : Int) ≤ Int.ofNat m ∧ Int.ofNat m ≤ (top' : Int) then (pure (Int.ofNat m).toNat : Sem Nat) else _).run P w = _
    rw [if_pos ⟨Int.natCast_nonneg m, by show (m : Int) ≤ top'; omega⟩]; rfl
end Go.Ev
end

section
/- Ev, part 12: an operation that is pure gives what the evaluator says. -/
namespace Go.Ev
set_option linter.unusedSectionVars false
variable [F : Facts] [E : Env]
set_option linter.unusedSimpArgs false
set_option linter.unusedVariables false
variable {P : Program} {μ : Mu} {w : World}
variable {wr : WrT} {io : Opd → Option AV} {ρ : Operand → Value}

theorem inj_p {a : POp} {b : POp} (h : (some (IOp.p a)) = some (IOp.p b)) : a = b := by injection h with h; injection h
theorem eqTest_eq {op : BinOp} {n : Bool} (h : eqTest op = some n) : (op = .eql ∧ n = false) ∨ (op = .neq ∧ n = true) := by
  cases op <;> simp [eqTest] at h <;> simp [← h]

theorem ok_eqv {op : BinOp} {n : Bool} {t : TypeId} {x y : AV} {x' y' : Value} {ox oy : Operand} (ht : eqTest op = some n)
    (hg : (eqGuard op t ox oy x' y').run P w = .ok () w) (hnot : ∀ k a k' b, ¬ (x' = .int k a ∧ y' = .int k' b)) (hnot2 : ∀ a b, ¬ (x' = .string a ∧ y' = .string b))
    {b : Bool} (h : eqv P (ttOf P) 10000 t x y = some b) (hx : VR μ x x') (hy : VR μ y y') :
    (do eqGuard op t ox oy x' y'; binOp op t x' y' : Sem Value).run P w = .ok (.bool (if n then !b else b)) w := by
  have he := equal_ok 10000 t x y x' y' b w h hx hy
  have he' : (Op.equal t x' y').run P w = .ok b w := he
  rw [run_ok hg]
  rcases eqTest_eq ht with ⟨rfl, rfl⟩ | ⟨rfl, rfl⟩
  · have : binOp .eql t x' y' = (do pure (.bool (← Op.equal t x' y')) : Sem Value) := by
      cases hx <;> cases hy <;> first | rfl | exact absurd ⟨rfl, rfl⟩ (hnot _ _ _ _) | exact absurd ⟨rfl, rfl⟩ (hnot2 _ _)
    rw [this, run_ok he']; rfl
  · have : binOp .neq t x' y' = (do pure (.bool (!(← Op.equal t x' y'))) : Sem Value) := by
      cases hx <;> cases hy <;> first | rfl | exact absurd ⟨rfl, rfl⟩ (hnot _ _ _ _) | exact absurd ⟨rfl, rfl⟩ (hnot2 _ _)
    rw [this, run_ok he']; rfl

/-- what '==' has no guard on -/
theorem guard_ok {op : BinOp} {n : Bool} {t : TypeId} {x' y' : Value} {ox oy : Operand} (ht : eqTest op = some n)
    (h1 : x' = .nilIface → y' = .nilIface → (isConstO ox || isConstO oy) = true) (h2 : ∀ a b, x' = .agg a → y' = .agg b → P.eqGuardType P.depth t = false) (w : World) :
    (eqGuard op t ox oy x' y').run P w = .ok () w := by
  rcases eqTest_eq ht with ⟨rfl, rfl⟩ | ⟨rfl, rfl⟩
  all_goals
    unfold eqGuard
    simp only []
    cases x' <;> first
      | rfl
      | (cases y' <;> first
          | rfl
          | (have := h1 rfl rfl
             cases ox <;> cases oy <;> first | rfl | exact nomatch this)
          | (have := h2 _ _ rfl rfl
             simp only [run_bind]
             simp [program, Sem.run, this]))

theorem und_inj {t : TypeId} {d d' : TypeDesc} (h : und (ttOf P) t = some d) (h' : und (ttOf P) t = some d') : d = d' := by
  rw [h] at h'; injection h'

theorem ok_bin (hio : IOR μ wr io ρ) {op : BinOp} {t : TypeId} {x y : Operand} {q : POp} {v : AV}
    (hc : kBin P (ttOf P) wr op t x y = some (.p q)) (he : evP io P (ttOf P) q = some v) (w : World) :
    ∃ v', (do eqGuard op t x y (ρ x) (ρ y); binOp op t (ρ x) (ρ y) : Sem Value).run P w = .ok v' w ∧ VR μ v v' := by
  obtain ⟨a, ha, hc⟩ := ob_eq hc
  obtain ⟨b, hb, hc⟩ := ob_eq hc
  have tt : ∀ {c : IOp}, (∃ u1 u2, io a = some u1 ∧ io b = some u2) → True := fun _ => trivial
  rw [bif2_eq] at hc
  split at hc
  · rename_i hcmp
    obtain ⟨d, hd, hc⟩ := ob_eq hc
    have eqcase : ∀ n, eqTest op = some n → (q = .eqv n t a b) → (∀ (_ _ : AV), ρ x = .nilIface → ρ y = .nilIface → (isConstO x || isConstO y) = true) →
        (∀ c c', ρ x = .agg c → ρ y = .agg c' → P.eqGuardType P.depth t = false) → (∀ k, d ≠ .int k) → d ≠ .string →
        ∃ v', (do eqGuard op t x y (ρ x) (ρ y); binOp op t (ρ x) (ρ y) : Sem Value).run P w = .ok v' w ∧ VR μ v v' := by
      intro n hn hq h1 h2 hni hns
      subst hq
      obtain ⟨u1, hu1, he⟩ := ob_eq he
      obtain ⟨u2, hu2, he⟩ := ob_eq he
      obtain ⟨r, hr, he⟩ := ob_eq he
      injection he with he
      have hx := hio _ _ _ ha hu1
      have hy := hio _ _ _ hb hu2
      have key : ∀ k, ekOf (ttOf P) t = some k → ekD d = some k := fun k hk => by
        obtain ⟨d', hd', hk'⟩ := ekOf_eq hk
        rw [und_inj hd hd']; exact hk'
      have hek : ∃ k, ekOf (ttOf P) t = some k ∧ eqv1 P (ttOf P) (eqv P (ttOf P) 9999) t u1 u2 k = some r := ob_eq hr
      obtain ⟨k, hk, hr1⟩ := hek
      have hkd := key k hk
      have hg := guard_ok (P := P) (x' := ρ x) (y' := ρ y) (ox := x) (oy := y) (t := t) hn (fun e1 e2 => h1 .nilp .nilp e1 e2) h2 w
      refine ⟨_, ok_eqv hn hg ?_ ?_ hr hx hy, by rw [← he, bif2_eq, nb_eq]; exact .bool _⟩
      · rintro k1 a1 k2 b1 ⟨e1, e2⟩
        rw [e1] at hx; rw [e2] at hy
        cases hx <;> cases hy <;> cases k <;> first
          | (simp [eqv1, eqSym] at hr1; done)
          | (cases d <;> first | (simp [ekD] at hkd; done) | exact hni _ rfl)
      · rintro a1 b1 ⟨e1, e2⟩
        rw [e1] at hx; rw [e2] at hy
        cases hx; cases hy
        cases k <;> first
          | (simp [eqv1, eqSym, ofStr] at hr1; done)
          | (cases d <;> first | (simp [ekD] at hkd; done) | exact hns rfl)
    cases d with
    | int k =>
      have hq := inj_p hc
      subst hq
      obtain ⟨u1, hu1, he⟩ := ob_eq he
      obtain ⟨u2, hu2, he⟩ := ob_eq he
      exact cmp_ok t x y he (hio _ _ _ ha hu1) (hio _ _ _ hb hu2) w
    | string =>
      have hq := inj_p hc
      subst hq
      obtain ⟨u1, hu1, he⟩ := ob_eq he
      obtain ⟨u2, hu2, he⟩ := ob_eq he
      exact cmp_ok t x y he (hio _ _ _ ha hu1) (hio _ _ _ hb hu2) w
    | interface ms =>
      obtain ⟨hcn, hc⟩ := ot_eq hc
      obtain ⟨n, hn, hc⟩ := ob_eq hc
      have hq := inj_p hc
      refine eqcase n hn hq.symm (fun _ _ _ _ => by rw [bo_eq] at hcn; exact hcn) ?_ (fun _ h => nomatch h) (fun h => nomatch h)
      intro c c' e1 e2
      exfalso
      have hq' := hq.symm
      subst hq'
      obtain ⟨u1, hu1, he⟩ := ob_eq he
      obtain ⟨u2, hu2, he⟩ := ob_eq he
      obtain ⟨r, hr, he⟩ := ob_eq he
      have hx := hio _ _ _ ha hu1
      have hy := hio _ _ _ hb hu2
      rw [e1] at hx; rw [e2] at hy
      obtain ⟨k, hk, hr1⟩ := ob_eq (show ob (ekOf (ttOf P) t) (eqv1 P (ttOf P) (eqv P (ttOf P) 9999) t u1 u2) = some r from hr)
      obtain ⟨d', hd', hk'⟩ := ekOf_eq hk
      have hdd := und_inj hd hd'
      subst hdd
      injection hk' with hk'
      subst hk'
      cases hx; cases hy
      exact nomatch hr1
    | _ =>
      obtain ⟨hcn, hc⟩ := ot_eq hc
      obtain ⟨n, hn, hc⟩ := ob_eq hc
      have hq := inj_p hc
      rw [nb_eq] at hcn
      refine eqcase n hn hq.symm ?_ (fun _ _ _ _ => by simpa using hcn) (fun _ h => nomatch h) (fun h => nomatch h)
      intro _ _ e1 e2
      exfalso
      have hq' := hq.symm
      subst hq'
      obtain ⟨u1, hu1, he⟩ := ob_eq he
      obtain ⟨u2, hu2, he⟩ := ob_eq he
      obtain ⟨r, hr, he⟩ := ob_eq he
      have hx := hio _ _ _ ha hu1
      have hy := hio _ _ _ hb hu2
      rw [e1] at hx; rw [e2] at hy
      obtain ⟨k, hk, hr1⟩ := ob_eq (show ob (ekOf (ttOf P) t) (eqv1 P (ttOf P) (eqv P (ttOf P) 9999) t u1 u2) = some r from hr)
      obtain ⟨d', hd', hk'⟩ := ekOf_eq hk
      have hdd := und_inj hd hd'
      subst hdd
      cases hx; cases hy
      first | (simp [ekD] at hk'; done) | (simp only [ekD, Option.some.injEq] at hk'; subst hk'; exact nomatch hr1)
  · rename_i hcmp
    have hq := inj_p hc
    subst hq
    obtain ⟨u1, hu1, he⟩ := ob_eq he
    obtain ⟨u2, hu2, he⟩ := ob_eq he
    exact arith_ok t x y (by simpa using hcmp) he (hio _ _ _ ha hu1) (hio _ _ _ hb hu2) w
end Go.Ev
end

section
/- Ev, part 13: every pure operation gives what the evaluator says. -/
namespace Go.Ev
set_option linter.unusedSectionVars false
variable [F : Facts] [E : Env]
set_option linter.unusedSimpArgs false
set_option linter.unusedVariables false
variable {P : Program} {μ : Mu}
variable {wr : WrT} {io : Opd → Option AV} {ρ : Operand → Value}

theorem noP_a {a : AOp} {q : POp} (h : some (IOp.a a) = some (IOp.p q)) : False := by injection h with h; exact IOp.noConfusion h
theorem noP_l {a : LOp} {q : POp} (h : some (IOp.l a) = some (IOp.p q)) : False := by injection h with h; exact IOp.noConfusion h
theorem noP_w {a : WOp} {q : POp} (h : some (IOp.w a) = some (IOp.p q)) : False := by injection h with h; exact IOp.noConfusion h

theorem byteArray_extract (s : ByteArray) (l h : Nat) : (s.extract l h).data.toList = (s.data.toList.drop l).take (h - l) := by
  rw [ByteArray.data_extract, Array.toList_extract, List.extract_eq_take_drop]

theorem subS_rel (s : ByteArray) (l h : Nat) (hlh : l ≤ h) (hh : h ≤ s.size) : VR μ (subS (bytesNum s.data.toList) l h) (.string (s.extract l h)) := by
  unfold subS
  refine VR.str_of ?_ ?_
  · rw [byteArray_extract]
    have : s.data.toList.length = s.size := rfl
    show h - l = _
    simp
    have e : s.data.size = s.size := rfl
    omega
  · rw [byteArray_extract, ← bytesNum_mod, ← bytesNum_div]; rfl

/-- a slice of a slice, or of an array -/
theorem mkSlice_rel {b o size l h m b' d : Nat} {x : Option (Nat × Nat)} (hm : μ b = some (b', d, x)) (cap cap' m' : Nat) (hl : l ≤ h) (hh : h ≤ m) (hmm : m ≤ m') (hx : m = m' ∨ ∃ S s, x = some (S, s) ∧ (o = 0 → 0 < m → d + m' * s ≤ S)) :
    VR μ (mkSlice b o size l h m) (.slice (some (if m' = l then (⟨b', d + o, none⟩ : Addr) else (⟨b', d + o, none⟩ : Addr).add (l * size))) (h - l) (m' - l)) := by
  unfold mkSlice
  rw [bif2_eq, nbeq_eq]
  have hadd : ∀ n, (⟨b', d + o, none⟩ : Addr).add n = ⟨b', d + (o + n), none⟩ := by
    intro n
    unfold Addr.add
    split
    · simp_all
    · simp [Nat.add_assoc]
  by_cases e : m' = l
  · have : m = l := by omega
    rw [if_pos e, if_pos (by simpa using this)]
    exact .sl hm (show m - l ≤ m' - l by omega) (.inl (by show m - l = m' - l; omega))
  · rw [if_neg e, hadd]
    by_cases e2 : m = l
    · rw [if_pos (by simpa using e2)]
      rcases hx with hx | ⟨S, s, hx, _⟩
      · omega
      · subst hx
        have h1 : Nat.sub h l = 0 := by show h - l = 0; omega
        have h2 : Nat.sub m l = 0 := by show m - l = 0; omega
        have h3 : h - l = 0 := by omega
        rw [h1, h2, h3]
        exact .sl0 hm
    · rw [if_neg (by simpa using e2)]
      refine .sl hm (show m - l ≤ m' - l by omega) ?_
      rcases hx with hx | ⟨S, s, hx, hb⟩
      · exact .inl (by show m - l = m' - l; omega)
      · refine .inr ⟨S, s, hx, fun h0 h1 => ?_⟩
        replace h0 : o + l * size = 0 := h0
        have h2 := hb (by omega) (by omega)
        have h3 : (m' - l) * s ≤ m' * s := Nat.mul_le_mul_right _ (by omega)
        show d + (m' - l) * s ≤ S
        omega

theorem run_sliceBounds (hio : IOR μ wr io ρ) {lo hi mx : Option Operand} {lo' hi' mx' : Option Opd} (hlo : opndO wr lo = some lo') (hhi : opndO wr hi = some hi') (hmx : opndO wr mx = some mx')
    {len cap cap' m h l : Nat} (hc : cap ≤ cap') (h1 : bnd io cap cap mx' = some m) (h2 : bnd io m len hi' = some h) (h3 : bnd io h 0 lo' = some l) (hlen : mx = none → hi = none → len ≤ cap) (hmh : mx.isSome = true → hi.isSome = true)
    (isSlice : Bool) (w : World) :
    ∃ m', (Instr.sliceBounds isSlice len cap' (lo.map ρ) (hi.map ρ) (mx.map ρ)).run P w = .ok (l, h, m') w ∧ l ≤ h ∧ (hi.isSome = true → h ≤ m) ∧ m ≤ m' ∧ (cap = cap' → m = m') ∧ (mx.isSome = true → m = m') ∧ m' ≤ cap' ∧ m ≤ cap := by
  have b1 := bnd_ok (P := P) hio hmx h1 (if isSlice then .slice3Acap else .slice3Alen) w hc
  unfold Instr.sliceBounds
  cases mx with
  | none =>
    simp only at b1
    subst b1
    have b2 := bnd_ok (P := P) hio hhi h2 (if isSlice then .sliceAcap else .sliceAlen) w hc
    cases hi with
    | none =>
      simp only at b2
      subst b2
      have b3 := bnd_ok (P := P) hio hlo h3 .sliceB w (Nat.le_refl _)
      cases lo with
      | none =>
        simp only at b3
        subst b3
        exact ⟨cap', rfl, Nat.zero_le _, fun h => (by simp at h), hc, fun h => h, fun h => (by simp at h), Nat.le_refl _, Nat.le_refl _⟩
      | some v =>
        simp only at b3
        refine ⟨cap', ?_, b3.2, fun h => (by simp at h), hc, fun h => h, fun h => (by simp at h), Nat.le_refl _, Nat.le_refl _⟩
        show (Instr.sliceBound (ρ v) h .sliceB >>= fun l => pure (l, h, cap')).run P w = _
        rw [run_ok b3.1]; rfl
    | some u =>
      simp only at b2
      have b3 := bnd_ok (P := P) hio hlo h3 .sliceB w (Nat.le_refl _)
      cases lo with
      | none =>
        simp only at b3
        subst b3
        refine ⟨cap', ?_, Nat.zero_le _, fun _ => b2.2, hc, fun h => h, fun h => (by simp at h), Nat.le_refl _, Nat.le_refl _⟩
        show (Instr.sliceBound (ρ u) cap' (if isSlice then .sliceAcap else .sliceAlen) >>= fun h => pure (0, h, cap')).run P w = _
        rw [run_ok b2.1]; rfl
      | some v =>
        simp only at b3
        refine ⟨cap', ?_, b3.2, fun _ => b2.2, hc, fun h => h, fun h => (by simp at h), Nat.le_refl _, Nat.le_refl _⟩
        show (Instr.sliceBound (ρ u) cap' (if isSlice then .sliceAcap else .sliceAlen) >>= fun h => Instr.sliceBound (ρ v) h .sliceB >>= fun l => pure (l, h, cap')).run P w = _
        rw [run_ok b2.1, run_ok b3.1]; rfl
  | some x =>
    simp only at b1
    have b2 := bnd_ok (P := P) hio hhi h2 .slice3B w (Nat.le_refl _)
    cases hi with
    | none => simp at hmh
    | some u =>
      simp only at b2
      have b3 := bnd_ok (P := P) hio hlo h3 .slice3C w (Nat.le_refl _)
      cases lo with
      | none =>
        simp only at b3
        subst b3
        refine ⟨m, ?_, Nat.zero_le _, fun _ => b2.2, Nat.le_refl _, fun _ => rfl, fun _ => rfl, Nat.le_trans b1.2 hc, b1.2⟩
        show (Instr.sliceBound (ρ x) cap' (if isSlice then .slice3Acap else .slice3Alen) >>= fun m => Instr.sliceBound (ρ u) m .slice3B >>= fun h => pure (0, h, m)).run P w = _
        rw [run_ok b1.1, run_ok b2.1]; rfl
      | some v =>
        simp only at b3
        refine ⟨m, ?_, b3.2, fun _ => b2.2, Nat.le_refl _, fun _ => rfl, fun _ => rfl, Nat.le_trans b1.2 hc, b1.2⟩
        show (Instr.sliceBound (ρ x) cap' (if isSlice then .slice3Acap else .slice3Alen) >>= fun m => Instr.sliceBound (ρ u) m .slice3B >>= fun h => Instr.sliceBound (ρ v) h .slice3C >>= fun l => pure (l, h, m)).run P w = _
        rw [run_ok b1.1, run_ok b2.1, run_ok b3.1]; rfl
end Go.Ev
end

section
/- Ev, part 14: every pure operation gives what the evaluator says. -/
namespace Go.Ev
set_option linter.unusedSectionVars false
variable [F : Facts] [E : Env]
set_option linter.unusedSimpArgs false
set_option linter.unusedVariables false
variable {P : Program} {μ : Mu}
variable {wr : WrT} {io : Opd → Option AV} {ρ : Operand → Value}

theorem VR.inv_sl {b o len cap : Nat} {v : Value} (h : VR μ (.sl b o len cap) v) :
    ∃ b' d x, μ b = some (b', d, x) ∧ ((∃ cap', v = .slice (some ⟨b', d + o, none⟩) len cap' ∧ cap ≤ cap' ∧ BndS d o cap cap' x) ∨
      (∃ o' cap' S, x = some S ∧ len = 0 ∧ cap = 0 ∧ v = .slice (some ⟨b', o', none⟩) 0 cap')) := by
  cases h with
  | sl h hc hx => exact ⟨_, _, _, h, .inl ⟨_, rfl, hc, hx⟩⟩
  | sl0 h => exact ⟨_, _, _, h, .inr ⟨_, _, _, rfl, rfl, rfl, rfl⟩⟩
theorem VR.inv_nils {v : Value} (h : VR μ .nils v) : v = .slice none 0 0 := by cases h; rfl

theorem addr_add (b' d o n : Nat) : (⟨b', d + o, none⟩ : Addr).add n = ⟨b', d + (o + n), none⟩ := by
  unfold Addr.add
  split
  · simp_all
  · simp [Nat.add_assoc]

theorem opnd_nat (hio : IOR μ wr io ρ) {x : Operand} {a : Opd} {k : IntKind} {n : Nat} (hx : opnd wr x = some a) (h : io a = some (.int k (Int.ofNat n))) : ρ x = .int k (n : Int) :=
  (hio _ _ _ hx h).inv_int

theorem run_asInt {k : IntKind} {n : Int} (w : World) : (asIntOf (.int k n)).run P w = .ok (k, n) w := rfl

section
variable (hio : IOR μ wr io ρ)
include hio

theorem ok_slice {t : TypeId} {x : Operand} {lo hi mx : Option Operand} {q : POp} {v : AV} (hc : kSlice (ttOf P) wr t x lo hi mx = some (.p q)) (he : evP io P (ttOf P) q = some v) (w : World) :
    ∃ v', (Instr.sliceAt t (ρ x) (lo.map ρ) (hi.map ρ) (mx.map ρ)).run P w = .ok v' w ∧ VR μ v v' := by
  obtain ⟨a, ha, hc⟩ := ob_eq hc
  obtain ⟨lo', hlo, hc⟩ := ob_eq hc
  obtain ⟨hi', hhi, hc⟩ := ob_eq hc
  obtain ⟨mx', hmx, hc⟩ := ob_eq hc
  obtain ⟨d, hd, hc⟩ := ob_eq hc
  unfold Instr.sliceAt
  rw [run_ok (run_und hd w)]
  have isN : ∀ {o : Option Operand} {o' : Option Opd}, opndO wr o = some o' → o'.isNone = o.isNone := by
    intro o o' h
    cases o with
    | none => injection h with h; subst h; rfl
    | some x => obtain ⟨c, _, h⟩ := ob_eq h; injection h with h; subst h; rfl
  unfold kSlice1 at hc
  split at hc
  · -- a string
    obtain ⟨hn, hc⟩ := ot_eq hc
    have hq := inj_p hc
    subst hq
    have hm0 : mx = none := by
      have := isN hmx
      rw [hn] at this
      cases mx with
      | none => rfl
      | some _ => exact Bool.noConfusion this
    subst hm0
    obtain ⟨u, hu, he⟩ := ob_eq he
    obtain ⟨l, n, e, he⟩ := onStr_eq he
    subst e
    obtain ⟨h, hh, he⟩ := ob_eq he
    obtain ⟨lo2, hl2, he⟩ := ob_eq he
    injection he with hev
    obtain ⟨s, es, rfl, rfl⟩ := (hio _ _ _ ha hu).inv_str
    have hsz : s.data.toList.length = s.size := rfl
    rw [hsz] at hh
    obtain ⟨m', r1, r2, r3, r4, r5, r6, r7, r8⟩ := run_sliceBounds (P := P) hio hlo hhi (mx := none) (mx' := none) rfl (Nat.le_refl s.size) (m := s.size) rfl hh hl2 (fun _ _ => Nat.le_refl _) (fun h => by simp at h) false w
    rw [es]
    refine ⟨.string (s.extract lo2 h), ?_, ?_⟩
    · show (Instr.slice t (.string s) (lo.map ρ) (hi.map ρ) none).run P w = _
      unfold Instr.slice
      rw [run_ok (run_und hd w)]
      show (Instr.sliceBounds false s.size s.size (lo.map ρ) (hi.map ρ) (none.map ρ) >>= fun p => (pure (Value.string (s.extract p.1 p.2.1)) : Sem Value)).run P w = _
      rw [run_ok r1]; rfl
    · rw [← hev]
      refine subS_rel s lo2 h r2 ?_
      cases hi with
      | none =>
        injection hhi with hhi
        subst hhi
        injection hh with hh
        omega
      | some _ => exact r3 rfl
  · -- a slice
    rename_i e
    obtain ⟨size, hs, hc⟩ := ob_eq hc
    obtain ⟨hmh, hc⟩ := ot_eq hc
    have hq := inj_p hc
    subst hq
    have hmh' : mx.isSome = true → hi.isSome = true := by
      have e1 := isN hmx
      have e2 := isN hhi
      intro hs
      cases hi with
      | some _ => rfl
      | none =>
        cases mx with
        | none => exact Bool.noConfusion hs
        | some _ =>
          cases mx' with
          | none => exact Bool.noConfusion e1
          | some _ =>
            cases hi' with
            | none => exact Bool.noConfusion hmh
            | some _ => exact Bool.noConfusion e2
    obtain ⟨u, hu, he⟩ := ob_eq he
    rcases onSl_eq he with ⟨b, o, len, cap, e1, he⟩ | ⟨e1, he⟩
    · subst e1
      obtain ⟨m, hm, he⟩ := ob_eq he
      obtain ⟨h, hh, he⟩ := ob_eq he
      obtain ⟨hle, he⟩ := ot_eq he
      rw [nle_eq, decide_eq_true_eq] at hle
      obtain ⟨l, hl, he⟩ := ob_eq he
      injection he with hev
      obtain ⟨b', d', x', hμ, hv⟩ := (hio _ _ _ ha hu).inv_sl
      rcases hv with ⟨cap', ev, hcap, hxx⟩ | ⟨o', cap', S0, hx0, hl0, hc0, ev⟩
      · have hlc : mx = none → hi = none → len ≤ cap := by
          intro h1 h2
          subst h1; subst h2
          injection hhi with hhi
          subst hhi
          injection hh with hh
          injection hmx with hmx
          subst hmx
          injection hm with hm
          omega
        obtain ⟨m', r1, r2, r3, r4, r5, r6, r7, r8⟩ := run_sliceBounds (P := P) hio hlo hhi hmx hcap hm hh hl hlc hmh' true w
        rw [ev]
        refine ⟨_, ?_, by rw [← hev]; exact mkSlice_rel hμ cap cap' m' r2 hle r4 (by
          rcases hxx with hxx | ⟨S, s, hxx, hb⟩
          · exact .inl (r5 hxx)
          · refine .inr ⟨S, s, hxx, fun h0 h1 => ?_⟩
            have h2 := hb h0 (by omega)
            have h3 : m' * s ≤ cap' * s := Nat.mul_le_mul_right _ r7
            omega)⟩
        show (Instr.slice t (.slice (some ⟨b', d' + o, none⟩) len cap') (lo.map ρ) (hi.map ρ) (mx.map ρ)).run P w = _
        unfold Instr.slice
        rw [run_ok (run_und hd w)]
        show (Instr.sliceBounds true len cap' (lo.map ρ) (hi.map ρ) (mx.map ρ) >>= fun p => sizeOf e >>= fun size => (pure (Value.slice (if p.2.2 = p.1 then some ⟨b', d' + o, none⟩ else (some (⟨b', d' + o, none⟩ : Addr)).map (·.add (p.1 * size))) (p.2.1 - p.1) (p.2.2 - p.1)) : Sem Value)).run P w = _
        rw [run_ok r1, run_ok (run_size hs w)]
        simp only [run_pure]
        congr 2
        split <;> rfl
      · subst hl0; subst hc0; subst hx0
        have hlc : mx = none → hi = none → 0 ≤ 0 := fun _ _ => Nat.le_refl _
        have hh0 : h = 0 := by
          have : m = 0 := by
            cases mx' with
            | none => injection hm with hm; exact hm.symm
            | some c =>
              obtain ⟨c1, _, hm⟩ := ob_eq hm
              obtain ⟨_, c2, _, hm⟩ := onNat_eq hm
              obtain ⟨hm1, hm⟩ := ot_eq hm
              rw [nle_eq, decide_eq_true_eq] at hm1
              injection hm with hm
              omega
          omega
        obtain ⟨m', r1, r2, r3, r4, r5, r6, r7, r8⟩ := run_sliceBounds (P := P) hio hlo hhi hmx (Nat.zero_le cap') hm hh hl hlc hmh' true w
        have hl00 : l = 0 := by omega
        subst hl00; subst hh0
        rw [ev]
        refine ⟨.slice (some ⟨b', o', none⟩) 0 m', ?_, ?_⟩
        · show (Instr.slice t (.slice (some ⟨b', o', none⟩) 0 cap') (lo.map ρ) (hi.map ρ) (mx.map ρ)).run P w = _
          unfold Instr.slice
          rw [run_ok (run_und hd w)]
          show (Instr.sliceBounds true 0 cap' (lo.map ρ) (hi.map ρ) (mx.map ρ) >>= fun p => sizeOf e >>= fun size => (pure (Value.slice (if p.2.2 = p.1 then some ⟨b', o', none⟩ else (some (⟨b', o', none⟩ : Addr)).map (·.add (p.1 * size))) (p.2.1 - p.1) (p.2.2 - p.1)) : Sem Value)).run P w = _
          rw [run_ok r1, run_ok (run_size hs w)]
          simp [Addr.add]
        · rw [← hev]
          have hm0 : m = 0 := by
            cases mx' with
            | none => injection hm with hm; exact hm.symm
            | some c =>
              obtain ⟨c1, _, hm⟩ := ob_eq hm
              obtain ⟨_, c2, _, hm⟩ := onNat_eq hm
              obtain ⟨hm1, hm⟩ := ot_eq hm
              rw [nle_eq, decide_eq_true_eq] at hm1
              injection hm with hm
              omega
          subst hm0
          show VR μ (.sl b o 0 0) _
          exact .sl0 hμ
    · subst e1
      obtain ⟨m, hm, he⟩ := ob_eq he
      obtain ⟨h, hh, he⟩ := ob_eq he
      obtain ⟨l, hl, he⟩ := ob_eq he
      injection he with hev
      have ev := (hio _ _ _ ha hu).inv_nils
      have z : ∀ {c : Option Opd} {n : Nat}, bnd io 0 0 c = some n → n = 0 := by
        intro c n hm
        cases c with
        | none => injection hm with hm; exact hm.symm
        | some c =>
          obtain ⟨c1, _, hm⟩ := ob_eq hm
          obtain ⟨_, c2, _, hm⟩ := onNat_eq hm
          obtain ⟨hm1, hm⟩ := ot_eq hm
          rw [nle_eq, decide_eq_true_eq] at hm1
          injection hm with hm
          omega
      have hm0 := z hm; have hh0 := z hh; have hl0 := z hl
      subst hm0; subst hh0; subst hl0
      obtain ⟨m', r1, r2, r3, r4, r5, r6, r7, r8⟩ := run_sliceBounds (P := P) hio hlo hhi hmx (Nat.le_refl 0) hm hh hl (fun _ _ => Nat.le_refl _) hmh' true w
      have := r5 rfl
      subst this
      rw [ev]
      refine ⟨.slice none 0 0, ?_, by rw [← hev]; exact .nils⟩
      show (Instr.slice t (.slice none 0 0) (lo.map ρ) (hi.map ρ) (mx.map ρ)).run P w = _
      unfold Instr.slice
      rw [run_ok (run_und hd w)]
      show (Instr.sliceBounds true 0 0 (lo.map ρ) (hi.map ρ) (mx.map ρ) >>= fun p => sizeOf e >>= fun size => (pure (Value.slice (if p.2.2 = p.1 then none else (none : Option Addr).map (·.add (p.1 * size))) (p.2.1 - p.1) (p.2.2 - p.1)) : Sem Value)).run P w = _
      rw [run_ok r1, run_ok (run_size hs w)]
      simp
  · -- an array
    rename_i n e
    obtain ⟨size, hs, hc⟩ := ob_eq hc
    obtain ⟨hn, hc⟩ := ot_eq hc
    have hq := inj_p hc
    subst hq
    have hm0 : mx = none := by
      have := isN hmx
      rw [hn] at this
      cases mx with
      | none => rfl
      | some _ => exact Bool.noConfusion this
    subst hm0
    obtain ⟨u, hu, he⟩ := ob_eq he
    obtain ⟨b, o, e1, he⟩ := onPtr_eq he
    subst e1
    obtain ⟨h, hh, he⟩ := ob_eq he
    obtain ⟨l, hl, he⟩ := ob_eq he
    injection he with hev
    obtain ⟨b', d', x', hμ, ev⟩ := (hio _ _ _ ha hu).inv_ptr
    obtain ⟨m', r1, r2, r3, r4, r5, r6, r7, r8⟩ := run_sliceBounds (P := P) hio hlo hhi (mx := none) (mx' := none) rfl (Nat.le_refl n) (m := n) rfl hh hl (fun _ _ => Nat.le_refl _) (fun h => by simp at h) false w
    have hm' := r5 rfl
    subst hm'
    have hle : h ≤ n := by
      cases hi with
      | none =>
        injection hhi with hhi
        subst hhi
        injection hh with hh
        omega
      | some _ => exact r3 rfl
    rw [ev]
    refine ⟨_, ?_, by rw [← hev]; exact mkSlice_rel hμ n n n r2 hle (Nat.le_refl _) (.inl rfl)⟩
    show (Instr.sureAddr (.pointer (some ⟨b', d' + o, none⟩)) >>= fun a => Instr.sliceBounds false n n (lo.map ρ) (hi.map ρ) (none.map ρ) >>= fun p => sizeOf e >>= fun size => (pure (Value.slice (some (if p.2.2 = p.1 then a else a.add (p.1 * size))) (p.2.1 - p.1) (p.2.2 - p.1)) : Sem Value)).run P w = _
    have ra : (Instr.sureAddr (.pointer (some ⟨b', d' + o, none⟩))).run P w = .ok ⟨b', d' + o, none⟩ w := rfl
    rw [run_ok ra, run_ok r1, run_ok (run_size hs w)]
    rfl
  · exact nomatch hc
end
end Go.Ev
end

section
/- Ev, part 15: every pure operation gives what the evaluator says: the theorem. -/
namespace Go.Ev
set_option linter.unusedSectionVars false
variable [F : Facts] [E : Env]
set_option linter.unusedSimpArgs false
set_option linter.unusedVariables false
variable {P : Program} {μ : Mu}
variable {wr : WrT} {io : Opd → Option AV} {ρ : Operand → Value}

section
variable (hio : IOR μ wr io ρ)
include hio

theorem ok_build {t : TypeId} {parts : Array (Nat × Operand)} {q : POp} {v : AV} (hc : kBuild (ttOf P) wr t parts.toList = some (.p q)) (he : evP io P (ttOf P) q = some v) (w : World) :
    ∃ v', (Instr.build t (parts.map fun (i, x) => (i, ρ x))).run P w = .ok v' w ∧ VR μ v v' := by
  obtain ⟨z, hz, hc⟩ := ob_eq hc
  obtain ⟨d, hd, hc⟩ := ob_eq hc
  obtain ⟨z', hz', hzr⟩ := zeroOf_run (P := P) hz μ w
  have hcells := cellsV_rel hzr
  have hmap : (parts.map fun (x : Nat × Operand) => (x.1, ρ x.2)).toList = parts.toList.map fun p => (p.1, ρ p.2) := by simp
  unfold Instr.build
  rw [run_ok hz', run_ok (run_und hd w)]
  have fin : ∀ {pl : Nat → Option (Nat × Nat)} {l : List (Nat × Nat × Opd)}, places wr pl parts.toList = some l → q = .build (cellsV z) l →
      ∃ out : Array Value, Instr.fill pl z'.cells (parts.map fun (x : Nat × Operand) => (x.1, ρ x.2)).toList = some out ∧ VR μ v (.agg out) := by
    intro pl l hl hq
    subst hq
    obtain ⟨cs, hcs, he⟩ := ob_eq he
    injection he with hev
    have h1 := zeroOf_one hz
    obtain ⟨out, a1, a2, a3, a4⟩ := fill_ok hio hl hcs hcells h1
    rw [hmap]
    exact ⟨out, a1, by rw [← hev]; exact .agg a2 a3⟩
  cases d with
  | struct fs =>
    obtain ⟨pls, hpl, hc⟩ := ob_eq hc
    obtain ⟨l, hl, hc⟩ := ob_eq hc
    have hq := (inj_p hc).symm
    obtain ⟨out, a1, a2⟩ := fin hl hq
    refine ⟨.agg out, ?_, a2⟩
    have hrun : (fs.mapM fun f => do pure (f.offset, ← sizeOf f.type) : Sem (Array (Nat × Nat))).run P w = .ok pls.toArray w := by
      refine run_mapMA w (fun f b _ hb => ?_) hpl
      obtain ⟨s, hs, hb⟩ := ob_eq hb
      injection hb with hb
      subst hb
      rw [run_ok (run_size hs w)]; rfl
    show ((fs.mapM fun f => do pure (f.offset, ← sizeOf f.type) : Sem (Array (Nat × Nat))) >>= fun places => _).run P w = _
    rw [run_ok hrun]
    simp only
    have e : (fun i => pls.toArray[i]?) = nth pls := by funext i; rw [nth_eq]; simp
    rw [e, a1]; rfl
  | array n e =>
    obtain ⟨s, hs, hc⟩ := ob_eq hc
    obtain ⟨l, hl, hc⟩ := ob_eq hc
    have hq := (inj_p hc).symm
    obtain ⟨out, a1, a2⟩ := fin hl hq
    refine ⟨.agg out, ?_, a2⟩
    show (sizeOf e >>= fun size => _).run P w = _
    rw [run_ok (run_size hs w)]
    simp only
    have e : (fun i => some (i * s, s)) = fun i => some (Nat.mul i s, s) := rfl
    rw [e, a1]; rfl
  | _ => exact nomatch hc
end
end Go.Ev
end
