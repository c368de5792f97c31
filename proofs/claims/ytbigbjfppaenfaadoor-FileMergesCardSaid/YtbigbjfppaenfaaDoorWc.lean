/- unitfile.Merge, walked. -/
import Derived.Test.YtbigbjfppaenfaaDoorWb
import Derived.Test.YtbigbjfppaenfaaDoorTurn
namespace Go.Proofs.YtbigbjfppaenfaaDoor.Lines
open Go.RowKit Go.Shelf Go.Proofs.YtbigbjfppaenfaaDoorW.PrintWords Go.Proofs.YtbigbjfppaenfaaDoorW.PrintLast
attribute [local go_sem] Oper.semAt_some
attribute [local go_sem high] eqA37
set_option linter.unusedVariables false
set_option linter.unusedSimpArgs false
/-- the settings of files, one behind the other -/
def flatF (l : List S25) : List S37 := l.flatMap (fun f => f.f0)
theorem flatF_take {l : List S25} {k : Nat} (h : k < l.length) : flatF (l.take (k + 1)) = flatF (l.take k) ++ (l[k]).f0 := by
  unfold flatF
  rw [List.take_add_one, List.getElem?_eq_getElem h, List.flatMap_append]
  simp
theorem flatF_len {l : List S25} {k : Nat} : (flatF (l.take k)).length ≤ (flatF l).length := by
  unfold flatF
  conv => rhs; rw [← List.take_append_drop k l, List.flatMap_append, List.length_append]
  exact Nat.le_add_right _ _
theorem wrap_up {k : Nat} (h : k < 9223372036854775807) : wrap64 ((k : Int) + 1) = ((k + 1 : Nat) : Int) := by unfold wrap64; omega
theorem up_meas {n k : Nat} (h : k < n) : n - ((k + 1 : Nat) : Int).toNat < n - (k : Int).toNat := by omega
/-- the state of the flatten loop -/
structure Fl (n0 : Nat) (w : World) (l : List S25) (k : Nat) (wr : World) : Prop where
  row : ∃ v, Boxed wr (n0 + 1) 25 v ∧ wr.ownsRow n0 37 4 v (flatF (l.take k)).length ((flatF (l.take k)).flatMap cells37)
  res : Boxed wr n0 25 (.slice none 0 0)
  bel : Below n0 w wr
theorem fl_next {n0 k : Nat} {w wr w2 : World} {l0 : List S25} {v v' u : Value} {o : Obj} (hn0 : w.heap.size = n0) (hlt : k < l0.length) (hres : Boxed wr n0 25 (.slice none 0 0)) (hbel : Below n0 w wr)
    (hrow : wr.ownsRow n0 37 4 v (flatF (l0.take k)).length ((flatF (l0.take k)).flatMap cells37)) (hX : Boxed (wr.alloc o) (n0 + 1) 25 u) (hgrow : (wr.alloc o).grownBy w2 v.ownBlock)
    (hown' : w2.ownsRow n0 37 4 v' (flatF (l0.take k) ++ (l0[k]).f0).length ((flatF (l0.take k) ++ (l0[k]).f0).flatMap cells37)) : Fl n0 w l0 (k + 1) (w2.setCell ⟨n0 + 1, 0, none⟩ v') := by
  have hXr := World.ownsRow.alloc hrow o
  have hv2 := hX.kept hgrow (hX.not_row (by decide) hXr)
  have hr2 := (hres.alloc o).kept hgrow ((hres.alloc o).not_row (by decide) hXr)
  have hwr : n0 ≤ wr.heap.size := by have := hbel.size; omega
  refine ⟨⟨v', hv2.set _, ?_⟩, apart hr2 (by omega), ?_⟩
  · rw [flatF_take hlt]
    exact hown'.kept (grownBy_setCell' w2 (n0 + 1) v') (.inr (hv2.not_row (by decide) hown').symm)
  · exact ((hbel.alloc hwr o).grown hgrow (Nat.le_trans hwr (World.grownBy_alloc _ o none).size) (fun j e => own_base hrow j e)).setCell (p := ⟨n0 + 1, 0, none⟩) (Nat.le_succ _) _
theorem cells4_of {W : World} {B : Nat} {a b c d : Value} {t : TypeId} (h : W.heap[B]? = some (.cells #[a, b, c, d] t (0, 0))) : W.cell? ⟨B, 0, none⟩ = some a ∧ W.cell? ⟨B, 1, none⟩ = some b ∧ W.cell? ⟨B, 2, none⟩ = some c ∧ W.cell? ⟨B, 3, none⟩ = some d := by
  simp [World.cell?, h]
def stB (pre : List (Int × S37)) : List S37 × List S37 := (pre.map Prod.snd).foldl bstep ([], [])
theorem stB_snoc (pre : List (Int × S37)) (x : Int × S37) : stB (pre ++ [x]) = bstep (stB pre) x.2 := by simp [stB]
theorem stB_mem : ∀ (ys : List S37) (st : List S37 × List S37) (s : S37), s ∈ (ys.foldl bstep st).1 → s ∈ ys ∨ s ∈ st.1 := by
  intro ys
  induction ys with
  | nil => intro st s h; exact .inr h
  | cons y ys ih =>
    intro st s h
    rcases ih _ _ h with h | h
    · exact .inl (List.mem_cons_of_mem _ h)
    · unfold bstep at h
      split at h
      · rcases List.mem_cons.1 h with h | h
        · exact .inl (by rw [h]; exact List.mem_cons_self)
        · exact .inr h
      · split at h
        · exact .inr h
        · exact .inr h
theorem back_facts {xs : List S37} {pre rest : List (Int × S37)} {x : Int × S37} (hsh : ∀ s ∈ xs, Short37 s) (h : pre ++ x :: rest = backL xs xs.length) : pre.length < xs.length ∧ Short37 x.2 ∧ ∀ s ∈ (stB pre).1, Short37 s := by
  have hm := backL_all xs
  rw [← h] at hm
  have hin : ∀ s, s ∈ (pre ++ x :: rest).map Prod.snd → Short37 s := by
    intro s hs
    rw [hm] at hs
    exact hsh s (List.mem_reverse.1 hs)
  refine ⟨?_, hin _ (by simp), ?_⟩
  · have := congrArg List.length h
    rw [backL_len] at this
    simp at this
    omega
  · intro s hs
    rcases stB_mem _ _ _ hs with h | h
    · exact hin s (by rw [List.map_append]; exact List.mem_append_left _ h)
    · exact absurd h (by simp)
theorem goneD_map (g : List S37) : Maps.IsMap (goneD g) := (Maps.tidy_setOf _ _ (by intro x hx; obtain ⟨s, _, rfl⟩ := List.mem_map.1 hx; exact kl69_key _ _)).isMap
theorem lookup69 {W : World} {b n : Nat} {D : DataW Unit} (h : W.ownsMap Tryd.prog 69 unitElem b n D) {key : Value} {kl : Lit} (hk : keyOf Tryd.prog 69 key = some kl) {r : Bool} (hr : Maps.has D kl = r) :
    (Instr.lookup 63 (.map (some b)) key true).run Tryd.prog W = .ok (.tuple #[.agg #[], .bool r]) W := by
  obtain ⟨v, ps, hrun, hv⟩ := h.look_ok keyed69 Tryd.underlying63 (z := .agg #[]) (by kernel_rfl) (zd := .agg []) (zp := []) unitElem_mk hk
  obtain ⟨rfl, _⟩ := unitElem_inv hv
  rw [hrun, hr]
theorem C37_one (W : World) (s : S37) : Kd.C k37 (W.alloc (.cells #[.string s.f0, .string s.f1, .string s.f2, .int .i64 s.f3] 37)) (some ⟨W.heap.size, 0, none⟩) [s].length [s] := by
  refine ⟨rfl, by simp, fun _ => ⟨_, rfl, fun j p hp => ?_⟩⟩
  have hj : j = 0 := by
    have := (List.getElem?_eq_some_iff.1 hp).1
    simp at this
    exact this
  subst hj
  obtain rfl : s = p := by simpa using hp
  refine ⟨cells37 s, rfl, k37_mk _ s, fun i u hu => ?_⟩
  have hi : i < 4 := (List.getElem?_eq_some_iff.1 hu).1
  have e2 : (⟨W.heap.size, 0, none⟩ : Addr).add (0 * k37.sz + i) = ⟨W.heap.size, i, none⟩ := by
    rw [Nat.zero_mul, Nat.zero_add]
    unfold Addr.add
    split
    · rename_i h0
      rw [h0]
    · simp
  rw [e2]
  have hb := World.alloc_heap_new W (.cells #[.string s.f0, .string s.f1, .string s.f2, .int .i64 s.f3] 37)
  simp only [World.cell?, hb]
  have : (#[Value.string s.f0, .string s.f1, .string s.f2, .int .i64 s.f3] : Array Value)[i]? = some u := by
    rw [← Array.getElem?_toList]
    exact hu
  simp [this]
/-- the state of the walk backward -/
structure Bw (n0 h : Nat) (w : World) (pre : List (Int × S37)) (W : World) : Prop where
  out : ∃ v, Boxed W h 25 v ∧ W.ownsRow (h + 4) 37 4 v (stB pre).2.length ((stB pre).2.flatMap cells37)
  map : W.ownsMap Tryd.prog 69 unitElem (h + 1) pre.length (goneD (stB pre).1)
  mv : Boxed W (h + 2) 63 (.map (some (h + 1)))
  res : Boxed W n0 25 (.slice none 0 0)
  bel : Below n0 w W
  size : h + 4 ≤ W.heap.size
theorem Bw.turn {n0 h : Nat} {w W W' : World} {pre : List (Int × S37)} (hb : Bw n0 h w pre W) (hn : n0 < h) (hw : n0 ≤ W.heap.size) {q : Nat → Prop} (ht : Turn q W W') (hq : ∀ k, q k → h + 4 ≤ k ∧ ∀ v n xs, W.ownsRow (h + 4) 37 4 v n xs → v.ownBlock ≠ some k) : Bw n0 h w pre W' := by
  obtain ⟨⟨v, hv, hrow⟩, hm, hmv, hres, hbel, hsz⟩ := hb
  have nq : ∀ k, k < h + 4 → ¬ q k := fun k hk hh => by have := (hq k hh).1; omega
  exact ⟨⟨v, ht.boxed hv (nq _ (by omega)), ht.row hrow (fun k e hh => (hq k hh).2 v _ _ hrow e)⟩, ht.map hm (nq _ (by omega)), ht.boxed hmv (nq _ (by omega)), ht.boxed hres (nq _ (by omega)), hbel.trans (ht.toBelow (fun k hk => nq k (by omega)) hw), Nat.le_trans hsz ht.size⟩
theorem Bw.own {n0 h : Nat} {w : World} (hn : n0 < h) : OwnFrom (h + 4) (Bw n0 h w) := by
  intro s W W' row hs hg hr
  refine hs.turn hn (by have := hs.size; omega) (q := fun k => row = some k) (Turn.grown hg (fun k e => e)) ?_
  rintro k rfl
  refine ⟨(hr k rfl).1, ?_⟩
  intro v n xs hrow e
  obtain ⟨cells, hc⟩ := own_typed hrow k e
  obtain ⟨_, o, ho, hoc⟩ := hr k rfl
  rw [hc] at ho
  cases ho
  cases hoc
set_option maxRecDepth 100000 in
set_option maxHeartbeats 4000000 in
theorem merge_in (n : Nat) (hn : 6 ≤ n) (A0 : Option Addr) (c0 : Nat) (l0 : List S25) (w : World) (hr0 : Kd.C k25 w A0 l0.length l0) (hcnt : (flatF l0).length ≤ 500000) (hsh : ∀ s ∈ flatF l0, Short37 s) :
    CallsIn Fence.wide n Tryd.prog 11 #[.slice A0 l0.length c0] w fun e w' => ∃ v, e = .returned (.agg #[v]) ∧ w'.ownsRow w.heap.size 37 4 v ((flatF l0).foldl mstep []).length (((flatF l0).foldl mstep []).flatMap cells37) ∧ Below w.heap.size w w' := by
  have h1 : 1 ≤ n := by omega
  have hmax : l0.length ≤ 9223372036854775807 := hr0.2.1
  refine callsIn_of_wp_marks Tryd.func11 rfl trivial ?_ rfl
  simp only [Tryd.ntmps11, List.size_toArray, List.length_cons, List.length_nil, Nat.reduceAdd, Nat.reduceSub, Array.replicate_succ, Array.replicate_zero, List.push_toArray, List.append_toArray, List.nil_append, List.cons_append]
  obtain ⟨n0, hn0⟩ : ∃ n0, w.heap.size = n0 := ⟨_, rfl⟩
  gi_wp2
  gi_loopw [14] (fun i wr => ∃ k : Nat, i = .int .i64 (k : Int) ∧ k ≤ l0.length ∧ Fl n0 w l0 k wr)
    (fun i _ => l0.length - (intOf i).toNat)
  case atStart =>
    refine ⟨0, rfl, Nat.zero_le _, ⟨.slice none 0 0, ?_, World.ownsRow_nil ..⟩, ?_, ?_⟩
    · rw [← hn0]
      have := Boxed.new (w.alloc (.cells #[.slice none 0 0] 25)) 25 (.slice none 0 0)
      rw [World.size_alloc] at this
      exact this
    · rw [← hn0]
      exact (Boxed.new w 25 (.slice none 0 0)).alloc _
    · rw [← hn0]
      exact ((Below.refl _ w).alloc (Nat.le_refl _) _).alloc (by simp) _
  case round =>
    obtain ⟨k, rfl, hk, hF⟩ := hrel
    by_cases hlt : k < l0.length
    · obtain ⟨⟨v, hv, hrow⟩, hres, hbel⟩ := hF
      obtain ⟨A, cp, rfl⟩ := own_slice hrow
      obtain ⟨ad, A1, c1, eA, q0, hl1, hC1⟩ := at_T25 hr0 (k : Int) (by omega) (by omega)
      subst eA
      simp only [Int.toNat_natCast] at q0
      rw [rdm25 hlt] at q0 hl1 hC1
      have q0' := (hbel.cell (p := ad.add k) (by rw [← hn0]; exact World.block_lt_of_cell? w _ q0)).trans q0
      have hC1' := Kd.C_below hC1 (hn0 ▸ hbel)
      have hvc := hv.cell
      have hvf := hv.frozen
      have hw1 := wrap_up (k := k) (by omega)
      have d1 : decide ((k : Int) < (l0.length : Int)) = true := decide_eq_true (by omega)
      have d2 : (0 ≤ (k : Int)) = True := eq_true (by omega)
      have d3 : ((k : Int) < (l0.length : Int)) = True := eq_true (by omega)
      have d4 : (k < l0.length) = True := eq_true hlt
      have hX := hv.alloc (.cells #[.slice A1 (l0[k]).f0.length c1] 25)
      have hXc := hX.cell
      have hXf := hX.frozen
      have hXr := World.ownsRow.alloc hrow (.cells #[.slice A1 (l0[k]).f0.length c1] 25)
      have hXC := Kd.C_below hC1' ((Below.refl _ wr).alloc (Nat.le_refl _) (.cells #[.slice A1 (l0[k]).f0.length c1] 25))
      have hwr : n0 ≤ wr.heap.size := by have := hbel.size; omega
      have hlen : (flatF (l0.take k)).length + (l0[k]).f0.length ≤ 1000000 := by
        have e1 := flatF_len (l := l0) (k := k + 1)
        rw [flatF_take hlt, List.length_append] at e1
        omega
      gi_wp2_with (gi_at_builtin; refine wpListIn_append37 _ rfl _ _ rfl rfl rfl hXr hXC hlen (Nat.le_trans hwr (World.grownBy_alloc _ _ none).size) ?_; intro A' c' w2 hown' hgrow hat; have hv2 := hX.kept hgrow (hX.not_row (by decide) hXr); have hv2c := hv2.cell; have hv2f := hv2.frozen)
      refine ⟨⟨k + 1, by simp, hlt, fl_next hn0 hlt hres hbel hrow hX hgrow (by rw [← List.length_append]; exact hown')⟩, ?_⟩
      simp only [intOf]
      exact up_meas hlt
    · obtain rfl : k = l0.length := by omega
      have c1 : decide ((l0.length : Int) < (l0.length : Int)) = false := decide_eq_false (by omega)
      have hmm := @run_makeMap Tryd.prog
      obtain ⟨⟨v, hv, hrow⟩, hres, hbel⟩ := hF
      rw [List.take_length] at hrow
      obtain ⟨A, cp, rfl⟩ := own_slice hrow
      have hX := ((hv.alloc (.cells #[.slice none 0 0] 25)).alloc (.map #[] 0)).alloc (.cells #[Value.map (some (wr.heap.size + 1))] 63)
      have hXc := hX.cell
      gi_wp2_with (refine ⟨trivial, ?_⟩; gi_at_call 26; refine (callsIn_wide.2 (back_calls A (flatF l0).length cp _)).mono ?_; rintro e w5 ⟨rfl, rfl⟩)
      obtain ⟨h, hh⟩ : ∃ h, wr.heap.size = h := ⟨_, rfl⟩
      obtain ⟨w1, hw1⟩ : ∃ w1, (((wr.alloc (Obj.cells #[Value.slice none 0 0] 25)).alloc (Obj.map #[] 0)).alloc (Obj.cells #[Value.map (some (wr.heap.size + 1))] 63)).alloc (Obj.cells #[Value.slice A (flatF l0).length cp] 23) = w1 := ⟨_, rfl⟩
      have hsz : w1.heap.size = h + 4 := by rw [← hw1, ← hh]; simp
      have hn0h : n0 + 1 < h := by rw [← hh]; exact hv.lt
      have ht1 : Turn (fun _ => False) wr w1 := by rw [← hw1]; exact (((Turn.alloc _ _).trans (Turn.alloc _ _)).trans (Turn.alloc _ _)).trans (Turn.alloc _ _)
      have hBw : Bw n0 h w [] w1 := by
        refine ⟨⟨_, ?_, World.ownsRow_nil ..⟩, ?_, ?_, ht1.boxed hres (fun h => h), hbel.trans (ht1.toBelow (fun _ _ h => h) (by omega)), by omega⟩
        · rw [← hw1, ← hh]; exact (((Boxed.new wr 25 _).alloc _).alloc _).alloc _
        · rw [← hw1, ← hh]
          have := World.ownsMap_made (H := Unit) (wr.alloc (Obj.cells #[Value.slice none 0 0] 25)) Tryd.prog 69 unitElem
          rw [World.size_alloc] at this
          exact (this.alloc _).alloc _
        · rw [← hw1, ← hh]
          have := Boxed.new ((wr.alloc (Obj.cells #[Value.slice none 0 0] 25)).alloc (Obj.map #[] 0)) 63 (.map (some (wr.heap.size + 1)))
          rw [World.size_alloc, World.size_alloc] at this
          exact this.alloc _
      have hB3 : Boxed w1 (h + 3) 23 (.slice A (flatF l0).length cp) := by
        rw [← hw1, ← hh]
        have := Boxed.new (((wr.alloc (Obj.cells #[Value.slice none 0 0] 25)).alloc (Obj.map #[] 0)).alloc (Obj.cells #[Value.map (some (wr.heap.size + 1))] 63)) 23 (.slice A (flatF l0).length cp)
        rw [World.size_alloc, World.size_alloc, World.size_alloc] at this
        exact this
      have hC1 : Kd.C k37 w1 A (flatF l0).length (flatF l0) := C37_own (ht1.row hrow (fun _ _ h => h))
      have hAb : ∀ ad, A = some ad → ad.block < h := fun ad e => by rw [← hh]; subst e; exact own_lt hrow ad.block rfl
      rw [hw1, hh]
      refine range_next (F := Fence.wide) (α := Int × S37) rfl h1 (gf := 38) (lb := #[.pointer (some ⟨h + 3, 0, none⟩)]) rfl trivial (enters_of Tryd.func38 (by kernel_rfl) rfl)
        (encs := fun x => #[.int .i64 x.1, .agg #[.string x.2.f0, .string x.2.f1, .string x.2.f2, .int .i64 x.2.f3]]) (Kp := KeepOn (fun k => k < h + 4 ∧ k ≠ h ∧ k ≠ h + 1))
        (S := fun ys => ys = backL (flatF l0) (flatF l0).length) (Sp := fun pre => pre <+: backL (flatF l0) (flatF l0).length) (R := fun pre x => ∃ rest, pre ++ x :: rest = backL (flatF l0) (flatF l0).length)
        (fun l J Jx W hW hY h0 => back_in (n - 1) l (h + 3) cp (by omega) _ A (flatF l0) J Jx W ⟨by omega, by omega, by omega⟩ (fun ad e => ⟨by have := hAb ad e; omega, by have := hAb ad e; omega, by have := hAb ad e; omega⟩) hY (under hB3 hW (by omega)) (Kd.C_below hC1 hW) h0)
        keepOn_t (keepOn_b (fun k hk => by have := hk.1; omega)) (fun _ => rfl) (Bw n0 h w) (fun _ _ => False) (hsz ▸ Bw.own (by omega)) (fun _ _ _ _ hs _ _ => hs) hBw
        (fun x a' W => ∃ Bx, h + 4 ≤ Bx ∧ W.heap[Bx]? = some (.cells #[.string x.2.f0, .string x.2.f1, .string x.2.f2, .int .i64 x.2.f3] 37 (0, 0)) ∧ a' = { tmps := #[Value.slice A0 l0.length c0, undef, Value.pointer (some { block := n0, off := 0 }), Value.pointer (some { block := n0 + 1, off := 0 }), undef, u5, Value.pointer (some { block := h, off := 0 }), Value.pointer (some { block := h + 1 + 1, off := 0 }), undef, .pointer (some ⟨Bx, 0, none⟩), undef, undef, Value.slice A0 l0.length c0, Value.int IntKind.i64 ↑l0.length, Value.int IntKind.i64 ↑l0.length, Value.bool false, u16, u17, u18, u19, u20, u21, u22, u23, u24, Value.map (some (h + 1)), Value.pointer (some { block := n0 + 1, off := 0 }), Value.slice A (flatF l0).length cp, Value.func (Fn.func 38) #[] #[Value.pointer (some { block := h + 1 + 1 + 1, off := 0 })], .int .i64 x.1, .agg #[.string x.2.f0, .string x.2.f1, .string x.2.f2, .int .i64 x.2.f3], undef, undef, undef, undef, undef, undef, undef, undef, undef, undef, undef, undef, undef, undef, undef, undef, undef, undef, undef, undef, undef, undef, undef, undef, undef, undef], defers := [] })
        ?hAx ?assign ?body ?done ?stop
      case hAx =>
        rintro x a' s W W' row ⟨Bx, hx1, hx2, hx3⟩ hg hr
        refine ⟨Bx, hx1, (hg.block Bx (Array.getElem?_eq_some_iff.1 hx2).1 ?_).trans hx2, hx3⟩
        intro e
        obtain ⟨_, o, ho, hoc⟩ := hr Bx e.symm
        rw [hx2] at ho
        cases ho
        cases hoc
      case assign =>
        intro l pre x W K hI hK
        gi_wp2
        have hs := hI.size
        exact hK _ _ (by rw [hsz]; exact (Turn.alloc (q := fun _ => False) W _).toFrom (fun _ h => h.elim)) (keepOn_below ((Below.refl W.heap.size W).alloc (Nat.le_refl _) _) (fun k hk => by have := hk.1; omega)) (hI.turn (by omega) (by omega) (Turn.alloc (q := fun _ => False) W _) (fun _ h => h.elim)) ⟨W.heap.size, hs, World.alloc_heap_new W _, rfl⟩
      case body =>
        rintro l pre x a' W hI ⟨Bx, hBx, hcx, rfl⟩ ⟨rest, hrest⟩
        have hc4 := cells4_of hcx
        obtain ⟨x0, x1, x2, x3⟩ := hc4
        obtain ⟨⟨v, hv, hrw⟩, hm, hmv, hrs, hbl, hs⟩ := hI
        obtain ⟨Ao, co, rfl⟩ := own_slice hrw
        obtain ⟨hpl, hxs, hgs⟩ := back_facts hsh hrest
        have hkl := key69 hxs.1 hxs.2
        have hpm : pre.length < maxLen := Nat.lt_of_lt_of_le hpl (Nat.le_trans hcnt (by decide))
        have hmc := hmv.cell
        have hgv := goneD_has hgs hxs
        by_cases he : empK x.2 = true
        · have hemp : x.2.f2.toList.isEmpty = true := by simpa [empK] using he
          gi_wp2
          have hmix : Tryd.prog.follows .mixedOrders = true := by kernel_rfl
          refine wpIn_mono (Q := fun e a2 W2 => e = .normal ∧ a2 = { tmps := #[Value.slice A0 l0.length c0, undef, Value.pointer (some { block := n0, off := 0 }), Value.pointer (some { block := n0 + 1, off := 0 }), undef, u5, Value.pointer (some { block := h, off := 0 }), Value.pointer (some { block := h + 1 + 1, off := 0 }), undef, Value.pointer (some { block := Bx, off := 0 }), undef, undef, Value.slice A0 l0.length c0, Value.int IntKind.i64 ↑l0.length, Value.int IntKind.i64 ↑l0.length, Value.bool false, u16, u17, u18, u19, u20, u21, u22, u23, u24, Value.map (some (h + 1)), Value.pointer (some { block := n0 + 1, off := 0 }), Value.slice A (flatF l0).length cp, Value.func (Fn.func 38) #[] #[Value.pointer (some { block := h + 1 + 1 + 1, off := 0 })], Value.int IntKind.i64 x.fst, Value.agg #[Value.string x.snd.f0, Value.string x.snd.f1, Value.string x.snd.f2, Value.int IntKind.i64 x.snd.f3], Value.pointer (some { block := Bx, off := 2 }), Value.string x.snd.f2, Value.bool true, Value.map (some (h + 1)), Value.agg #[Value.string x.snd.f0, Value.string x.snd.f1, Value.string x.snd.f2, Value.int IntKind.i64 x.snd.f3], Value.agg #[Value.string x.snd.f0, Value.string x.snd.f1], Value.agg #[], undef, undef, undef, undef, undef, undef, undef, undef, undef, undef, undef, undef, undef, undef, undef, undef, undef, undef, undef], defers := [] } ∧ Turn (fun k => k = h + 1) W W2 ∧ W2.ownsMap Tryd.prog 69 unitElem (h + 1) (pre.length + 1) (goneD (x.2 :: (stB pre).1))) ?reg1 ?rest1
          case reg1 =>
            gi_region_with_o (refine ⟨trivial, (fun h => by cases h), ?_⟩; refine (CallsIn.inRound l (callsIn_wide.2 (unitfile_of.calls x.2.f0 x.2.f1 x.2.f2 x.2.f3 _ _ _ rfl))).mono ?_; rintro e w6 ⟨rfl, hb6⟩; have t6 : Turn (fun _ => False) W w6 := (Turn.drew W).trans (Turn.below hb6 (Nat.le_refl _)); have c6 := (t6.boxed hmv (fun h => h)).cell; have m6 := t6.map hm (fun h => h); obtain ⟨w7, hr7, hm7, hg7⟩ := m6.update (e := 67) (t := 63) keyed69 Tryd.underlying63 hpm hkl unitElem_mk)
            all_goals exact ⟨rfl, rfl, (t6.mono (fun _ _ h => h.elim)).trans (Turn.grown hg7 (fun k e => (Option.some.inj e).symm)), by rw [goneD_cons]; exact hm7⟩
          rintro e a2 W2 ⟨rfl, rfl, ht2, km⟩
          dsimp only
          have hst : stB (pre ++ [x]) = (x.2 :: (stB pre).1, (stB pre).2) := by rw [stB_snoc, bstep, if_pos he]
          have kmv := ht2.boxed hmv (by omega)
          have kx := ht2.heap hcx (by omega)
          have hbv : Maps.has (goneD (x.2 :: (stB pre).1)) (kl69 x.2.f0 x.2.f1) = true := by rw [goneD_cons]; exact Maps.has_put_same (goneD_map _) (kl69_key _ _) _
          gi_wp2
          refine wpIn_mono (Q := fun e a2 W3 => e = .normal ∧ (∃ v10, a2 = { tmps := #[Value.slice A0 l0.length c0, undef, Value.pointer (some { block := n0, off := 0 }), Value.pointer (some { block := n0 + 1, off := 0 }), undef, u5, Value.pointer (some { block := h, off := 0 }), Value.pointer (some { block := h + 1 + 1, off := 0 }), undef, Value.pointer (some { block := Bx, off := 0 }), v10, Value.bool true, Value.slice A0 l0.length c0, Value.int IntKind.i64 ↑l0.length, Value.int IntKind.i64 ↑l0.length, Value.bool false, u16, u17, u18, u19, u20, u21, u22, u23, u24, Value.map (some (h + 1)), Value.pointer (some { block := n0 + 1, off := 0 }), Value.slice A (flatF l0).length cp, Value.func (Fn.func 38) #[] #[Value.pointer (some { block := h + 1 + 1 + 1, off := 0 })], Value.int IntKind.i64 x.fst, Value.agg #[Value.string x.snd.f0, Value.string x.snd.f1, Value.string x.snd.f2, Value.int IntKind.i64 x.snd.f3], Value.pointer (some { block := Bx, off := 2 }), Value.string x.snd.f2, Value.bool true, Value.map (some (h + 1)), Value.agg #[Value.string x.snd.f0, Value.string x.snd.f1, Value.string x.snd.f2, Value.int IntKind.i64 x.snd.f3], Value.agg #[Value.string x.snd.f0, Value.string x.snd.f1], Value.agg #[], Value.tuple #[Value.agg #[], Value.bool true], Value.map (some (h + 1)), Value.agg #[Value.string x.snd.f0, Value.string x.snd.f1, Value.string x.snd.f2, Value.int IntKind.i64 x.snd.f3], Value.agg #[Value.string x.snd.f0, Value.string x.snd.f1], Value.tuple #[Value.agg #[], Value.bool true], Value.agg #[], Value.bool true, undef, undef, undef, undef, undef, undef, undef, undef, undef, undef, undef, undef], defers := [] }) ∧ Turn (fun _ => False) W2 W3) ?reg2 ?rest2
          case reg2 =>
            have kd0 := kmv.cell
            have kd1 := (kmv.alloc (.cells #[] 67)).cell
            obtain ⟨y0, y1, y2, y3⟩ := cells4_of kx
            obtain ⟨z0, z1, z2, z3⟩ := cells4_of ((Turn.alloc (q := fun _ => False) W2 (.cells #[] 67)).heap kx (fun h => h))
            gi_region_with_o (refine ⟨trivial, (fun h => by cases h), ?_⟩; refine (CallsIn.inRound l (callsIn_wide.2 (unitfile_of.calls x.2.f0 x.2.f1 x.2.f2 x.2.f3 _ _ _ rfl))).mono ?_; rintro e w6 ⟨rfl, hb6⟩; have t6 : Turn (fun _ => False) W2 w6 := (by first | exact (Turn.drew W2).trans (Turn.below hb6 (Nat.le_refl _)) | exact ((Turn.alloc W2 _).trans (Turn.drew _)).trans (Turn.below hb6 (Nat.le_refl _))); have c6 := (t6.boxed kmv (fun h => h)).cell; have l6 := lookup69 (t6.map km (fun h => h)) hkl hbv; have c6a := ((t6.boxed kmv (fun h => h)).alloc (.cells #[] 67)).cell; have l6a := lookup69 ((t6.map km (fun h => h)).alloc (.cells #[] 67)) hkl hbv)
            all_goals exact ⟨rfl, ⟨_, rfl⟩, by first | exact t6.trans (Turn.alloc _ _) | exact t6⟩
          rintro e a2 W3 ⟨rfl, ⟨v10, rfl⟩, ht3⟩
          dsimp only

          gi_wp2
          have t := ht2.trans (ht3.mono (fun _ _ h => h.elim))
          have hst2 : (stB (pre ++ [x])).2 = (stB pre).2 := by rw [hst]
          exact ⟨t.toFrom (fun k hk hb => by subst hk; omega), fun k hk => t.block k (by have := hk.1; omega) (fun e => hk.2.2 e), ⟨⟨_, t.boxed hv (by omega), by rw [hst]; exact t.row hrw (fun k e hh => by have := own_base hrw k e; omega)⟩, by rw [hst, List.length_append]; exact ht3.map km (fun h => h), t.boxed hmv (by omega), t.boxed hrs (by omega), hbl.trans (t.toBelow (fun k hk => by omega) (by omega)), Nat.le_trans hs t.size⟩⟩
        · have hemp : x.2.f2.toList.isEmpty = false := by simpa [empK] using he
          gi_wp2
          have hmix : Tryd.prog.follows .mixedOrders = true := by kernel_rfl
          obtain ⟨bb, hbb⟩ : ∃ bb, (stB pre).1.any (fun s => sameK x.2 s) = bb := ⟨_, rfl⟩
          have hbv : Maps.has (goneD (stB pre).1) (kl69 x.2.f0 x.2.f1) = bb := by rw [hgv]; exact hbb
          have kmv := hmv
          have km := hm
          have kx := hcx
          refine wpIn_mono (Q := fun e a2 W3 => e = .normal ∧ (∃ v10, a2 = { tmps := #[Value.slice A0 l0.length c0, undef, Value.pointer (some { block := n0, off := 0 }), Value.pointer (some { block := n0 + 1, off := 0 }), undef, u5, Value.pointer (some { block := h, off := 0 }), Value.pointer (some { block := h + 1 + 1, off := 0 }), undef, Value.pointer (some { block := Bx, off := 0 }), v10, Value.bool bb, Value.slice A0 l0.length c0, Value.int IntKind.i64 ↑l0.length, Value.int IntKind.i64 ↑l0.length, Value.bool false, u16, u17, u18, u19, u20, u21, u22, u23, u24, Value.map (some (h + 1)), Value.pointer (some { block := n0 + 1, off := 0 }), Value.slice A (flatF l0).length cp, Value.func (Fn.func 38) #[] #[Value.pointer (some { block := h + 1 + 1 + 1, off := 0 })], Value.int IntKind.i64 x.fst, Value.agg #[Value.string x.snd.f0, Value.string x.snd.f1, Value.string x.snd.f2, Value.int IntKind.i64 x.snd.f3], Value.pointer (some { block := Bx, off := 2 }), Value.string x.snd.f2, Value.bool false, undef, undef, undef, undef, Value.tuple #[Value.agg #[], Value.bool bb], Value.map (some (h + 1)), Value.agg #[Value.string x.snd.f0, Value.string x.snd.f1, Value.string x.snd.f2, Value.int IntKind.i64 x.snd.f3], Value.agg #[Value.string x.snd.f0, Value.string x.snd.f1], Value.tuple #[Value.agg #[], Value.bool bb], Value.agg #[], Value.bool bb, undef, undef, undef, undef, undef, undef, undef, undef, undef, undef, undef, undef], defers := [] }) ∧ Turn (fun _ => False) W W3) ?reg2b ?rest2b
          case reg2b =>
            have kd0 := kmv.cell
            have kd1 := (kmv.alloc (.cells #[] 67)).cell
            obtain ⟨y0, y1, y2, y3⟩ := cells4_of kx
            obtain ⟨z0, z1, z2, z3⟩ := cells4_of ((Turn.alloc (q := fun _ => False) W (.cells #[] 67)).heap kx (fun h => h))
            gi_region_with_o (refine ⟨trivial, (fun h => by cases h), ?_⟩; refine (CallsIn.inRound l (callsIn_wide.2 (unitfile_of.calls x.2.f0 x.2.f1 x.2.f2 x.2.f3 _ _ _ rfl))).mono ?_; rintro e w6 ⟨rfl, hb6⟩; have t6 : Turn (fun _ => False) W w6 := (by first | exact (Turn.drew W).trans (Turn.below hb6 (Nat.le_refl _)) | exact ((Turn.alloc W _).trans (Turn.drew _)).trans (Turn.below hb6 (Nat.le_refl _))); have c6 := (t6.boxed kmv (fun h => h)).cell; have l6 := lookup69 (t6.map km (fun h => h)) hkl hbv; have c6a := ((t6.boxed kmv (fun h => h)).alloc (.cells #[] 67)).cell; have l6a := lookup69 ((t6.map km (fun h => h)).alloc (.cells #[] 67)) hkl hbv)
            all_goals exact ⟨rfl, ⟨_, rfl⟩, by first | exact t6.trans (Turn.alloc _ _) | exact t6⟩
          rintro e a2 W3 ⟨rfl, ⟨v10, rfl⟩, ht3⟩
          dsimp only

          cases bb with
          | true =>
            gi_wp2
            have hst : stB (pre ++ [x]) = stB pre := by rw [stB_snoc, bstep, if_neg he, if_pos hbb]
            exact ⟨ht3.toFrom (fun k hk hb => hk.elim), fun k hk => ht3.block k (by have := hk.1; omega) (fun e => e), ⟨⟨_, ht3.boxed hv (fun h => h), by rw [hst]; exact ht3.row hrw (fun k e hh => hh)⟩, by rw [hst, List.length_append]; exact (ht3.map km (fun h => h)).mono (Nat.le_succ _), ht3.boxed hmv (fun h => h), ht3.boxed hrs (fun h => h), hbl.trans (ht3.toBelow (fun k hk h => h) (by omega)), Nat.le_trans hs ht3.size⟩⟩
          | false =>
            have hst : stB (pre ++ [x]) = ((stB pre).1, (stB pre).2 ++ [x.2]) := by rw [stB_snoc, bstep, if_neg he, if_neg (by rw [hbb]; decide)]
            have ho3 := ht3.boxed hv (fun h => h)
            have hX := ho3.alloc (.cells #[.string x.2.f0, .string x.2.f1, .string x.2.f2, .int .i64 x.2.f3] 37)
            have ho3c := ho3.cell
            have hXc := hX.cell
            have hXf := hX.frozen
            have hrw3 := ht3.row hrw (fun k e hh => hh)
            have hXr := World.ownsRow.alloc hrw3 (.cells #[.string x.2.f0, .string x.2.f1, .string x.2.f2, .int .i64 x.2.f3] 37)
            have hXC := C37_one W3 x.2
            obtain ⟨u0, u1, u2, u3⟩ := cells4_of (ht3.heap hcx (fun h => h))
            have hW3 : h + 4 ≤ W3.heap.size := Nat.le_trans hs ht3.size
            have hlen : (stB pre).2.length + [x.2].length ≤ 1000000 := by
              have e1 := bfold_len (pre.map Prod.snd) ([], [])
              simp only [List.length_map, List.length_nil, Nat.zero_add] at e1
              have e2 : (stB pre).2.length ≤ pre.length := e1
              simp only [List.length_cons, List.length_nil]
              omega
            gi_wp2_with (gi_at_builtin; refine wpListIn_append37 _ rfl _ _ rfl rfl rfl hXr hXC hlen (Nat.le_trans hW3 (World.grownBy_alloc _ _ none).size) ?_; intro A' c' w4 hown' hgrow hat; have hv2 := hX.kept hgrow (hX.not_row (by decide) hXr); have hv2c := hv2.cell; have hv2f := hv2.frozen)
            have hl3 : (stB pre).2.length + 1 = ((stB pre).2 ++ [x.2]).length := by simp
            rw [hl3]
            have t : Turn (fun k => k = h ∨ (Value.slice Ao (stB pre).2.length co).ownBlock = some k) W (w4.setCell ⟨h, 0, none⟩ (.slice A' ((stB pre).2 ++ [x.2]).length c')) := (((ht3.mono (fun _ _ h => h.elim)).trans (Turn.alloc _ _)).trans (Turn.grown hgrow (fun k e => .inr e))).trans (Turn.set _ h _ (.inl rfl))
            have nq : ∀ k, k < h + 4 → k ≠ h → ¬ (k = h ∨ (Value.slice Ao (stB pre).2.length co).ownBlock = some k) := by
              rintro k hk hne (e | e)
              · exact hne e
              · have := own_base hrw k e
                omega
            refine ⟨t.toFrom ?_, fun k hk => t.block k (by have := hk.1; omega) (nq k hk.1 hk.2.1), ⟨⟨_, hv2.set _, ?_⟩, ?_, t.boxed hmv (nq _ (by omega) (by omega)), t.boxed hrs (nq _ (by omega) (by omega)), hbl.trans (t.toBelow (fun k hk => nq k (by omega) (by omega)) (by omega)), Nat.le_trans hs t.size⟩⟩
            · rintro k (e | e) hk o ho
              · omega
              · obtain ⟨cells, hc⟩ := own_typed hrw k e
                rw [hc] at ho
                cases ho
                rfl
            · rw [hst]
              exact hown'.kept (grownBy_setCell' w4 h _) (.inr (hv2.not_row (by decide) hown').symm)
            · rw [hst, show (pre ++ [x]).length = pre.length + 1 from by simp]
              exact (t.map hm (nq _ (by omega) (by omega))).mono (Nat.le_succ _)
      case done =>
        rintro D ys W hD rfl hI hK
        obtain ⟨⟨v, hv, hrw⟩, hm, hmv, hrs, hbl, hs⟩ := hI
        obtain ⟨Ao, co, rfl⟩ := own_slice hrw
        have hvc := hv.cell
        gi_wp2_with (refine ⟨trivial, ?_⟩; gi_at_call 28; refine (callsIn_wide.2 (reverse_calls hrw)).mono ?_; rintro e w5 ⟨rfl, hrw5, hg5⟩; have hv5 := hv.kept hg5 (hv.not_row (by decide) hrw); have hv5c := hv5.cell; have hv5f := hv5.frozen; have hr5 := hrs.kept hg5 (hrs.not_row (by decide) hrw); have hr5c := hr5.cell; have hr5f := hr5.frozen)
        obtain ⟨X, hX⟩ : ∃ X, w5.setCell ⟨n0, 0, none⟩ (.slice Ao (stB (backL (flatF l0) (flatF l0).length)).2.length co) = X := ⟨_, rfl⟩
        have hXb : Boxed X n0 25 (.slice Ao (stB (backL (flatF l0) (flatF l0).length)).2.length co) := by rw [← hX]; exact hr5.set _
        have hXr : X.ownsRow (h + 4) 37 4 (.slice Ao (stB (backL (flatF l0) (flatF l0).length)).2.length co) (stB (backL (flatF l0) (flatF l0).length)).2.length ((stB (backL (flatF l0) (flatF l0).length)).2.reverse.flatMap cells37) := by rw [← hX]; exact hrw5.kept (grownBy_setCell' w5 n0 _) (.inr (hr5.not_row (by decide) hrw5).symm)
        have t : Turn (fun k => k = n0 ∨ (Value.slice Ao (stB (backL (flatF l0) (flatF l0).length)).2.length co).ownBlock = some k) W X := by rw [← hX]; exact (Turn.grown hg5 (fun k e => .inr e)).trans (Turn.set _ n0 _ (.inl rfl))
        have hKX : X.heap[D]? = some (.deferred (some [])) := by
          refine t.heap hK ?_
          rintro (e | e)
          · omega
          · obtain ⟨cells, hc⟩ := own_typed hrw D e
            rw [hc] at hK
            cases hK
        have hbX : Below n0 w X := hbl.trans (t.toBelow (by
          rintro k hk (e | e)
          · omega
          · have := own_base hrw k e
            omega) (by omega))
        rw [hX]
        have hout : (stB (backL (flatF l0) (flatF l0).length)).2.reverse = (flatF l0).foldl mstep [] := by
          rw [← bkw_all, bkw_bstep]
          show (List.foldl bstep ([], []) ((backL (flatF l0) (flatF l0).length).map Prod.snd)).2.reverse = _
          rw [backL_all]
        refine ⟨by simp, .inl ⟨_, _, rfl, run_takeDeferred hKX, ?_⟩⟩
        have hfin := put_box hXb (.deferred none) hKX rfl
        refine ⟨_, results_cell_row rfl _ _ n0 25 #[.slice Ao (stB (backL (flatF l0) (flatF l0).length)).2.length co] (0, 0) _ rfl hfin Tryd.underlying25 rfl (by kernel_rfl), _, rfl, ?_, ?_⟩
        · rw [hn0, ← hout, List.length_reverse]
          have h9 := ownsRow_putObj (o' := .deferred none) hXr hKX rfl
          exact own_weaken h9 (by omega)
        · rw [hn0]
          exact hbX.grown (grownBy_putObj' X D _) (by have := hbX.size; omega) (fun k e => by cases e; omega)
      case stop =>
        rintro D pre W hD hS h
        exact h.elim
end Go.Proofs.YtbigbjfppaenfaaDoor.Lines
