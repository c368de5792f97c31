/- unitfile.Sections and its iterator, walked. -/
import Derived.Test.YtbigbjfppaenfaaDoorWd
import Derived.Test.YtbigbjfppaenfaaDoorMs
import Derived.StringKeys
namespace Go.Proofs.YtbigbjfppaenfaaDoor.Lines
open Go.RowKit Go.Shelf Go.Proofs.YtbigbjfppaenfaaDoorW.PrintWords Go.Proofs.YtbigbjfppaenfaaDoorW.PrintLast
attribute [local go_sem] Oper.semAt_some
attribute [local go_sem high] eqA37
set_option linter.unusedVariables false
set_option linter.unusedSimpArgs false
set_option maxRecDepth 100000 in
set_option maxHeartbeats 4000000 in
theorem sections_calls (A : Option Addr) (m c : Nat) (w : World) : Calls Tryd.prog 21 #[.agg #[.slice A m c]] w fun e w' =>
    e = .returned (.func (.func 32) #[] #[.pointer (some ⟨w.heap.size, 0, none⟩)]) ∧ w' = w.alloc (.cells #[.slice A m c] 25) := by
  go_enter Tryd.func21, Tryd.ntmps21
  go_wp2
  go_ret
  exact ⟨rfl, rfl⟩
def klS (a : ByteArray) : Lit := .string a.data.toList
theorem keyS {a : ByteArray} (ha : a.size ≤ maxLen) : keyOf Tryd.prog 9 (.string a) = some (klS a) := Go.WideMaps.keyOf_string_mk Tryd.underlying9 ha
theorem keyed9 : Maps.Keyed Tryd.prog 9 := Maps.string_keyed Tryd.underlying9
theorem klS_key (a : ByteArray) : WideAt.IsKeyLit (klS a) := trivial
theorem klS_same (a b : ByteArray) : (klS a).sameKey (klS b) = (a.toList == b.toList) := by
  rw [toList_data, toList_data]
  rfl
def metD (l : List S37) : DataW Unit := Maps.setOf (.agg []) (l.map (fun s => klS s.f0))
theorem metD_snoc (l : List S37) (s : S37) : metD (l ++ [s]) = (metD l).put (klS s.f0) (.agg []) := by
  simp only [metD, List.map_append, List.map_cons, List.map_nil]
  exact Maps.setOf_snoc _ _ _
theorem sec_any : ∀ (l : List S37) (acc : List ByteArray) (a : ByteArray), (l.foldl sstep acc).any (fun x => x.toList == a.toList) = (acc.any (fun x => x.toList == a.toList) || l.any (fun t => t.f0.toList == a.toList)) := by
  intro l
  induction l with
  | nil => intro acc a; simp
  | cons t l ih =>
    intro acc a
    rw [List.foldl_cons, ih, List.any_cons, sstep]
    split
    · rename_i h
      cases hb : (t.f0.toList == a.toList) with
      | false => simp
      | true =>
        have e : t.f0.toList = a.toList := by simpa using hb
        rw [← e, h]
        simp
    · simp [List.any_append, Bool.or_assoc]
theorem metD_has (l : List S37) (s : S37) : Maps.has (metD l) (klS s.f0) = (l.foldl sstep []).any (fun x => x.toList == s.f0.toList) := by
  rw [metD, Maps.has_setOf _ _ _ (by intro x hx; obtain ⟨s, _, rfl⟩ := List.mem_map.1 hx; exact klS_key _), List.any_map, sec_any]
  simp only [List.any_nil, Bool.false_or]
  congr 1
  funext t
  exact klS_same _ _
theorem sstep_pre : ∀ (l : List S37) (acc : List ByteArray), acc <+: l.foldl sstep acc := by
  intro l
  induction l with
  | nil => intro acc; exact List.prefix_refl _
  | cons t l ih =>
    intro acc
    rw [List.foldl_cons]
    refine List.IsPrefix.trans ?_ (ih _)
    unfold sstep
    split
    · exact List.prefix_refl _
    · exact List.prefix_append _ _
theorem take_fold {xs : List S37} {k : Nat} (h : k < xs.length) : (xs.take (k + 1)).foldl sstep [] = sstep ((xs.take k).foldl sstep []) (xs[k]) := by
  rw [List.take_add_one, List.getElem?_eq_getElem h, List.foldl_append]
  rfl
theorem fold_pre (xs : List S37) (k : Nat) : (xs.take k).foldl sstep [] <+: xs.foldl sstep [] := by
  conv => rhs; rw [← List.take_append_drop k xs, List.foldl_append]
  exact sstep_pre _ _
theorem take_snoc {xs : List S37} {k : Nat} (h : k < xs.length) : xs.take (k + 1) = xs.take k ++ [xs[k]] := by
  rw [List.take_add_one, List.getElem?_eq_getElem h]
  rfl
theorem zero67 (w : World) : (zeroValue 67).run Tryd.prog w = .ok (.agg #[]) w := by kernel_rfl
set_option maxRecDepth 100000 in
set_option maxHeartbeats 8000000 in
theorem sections_y (l B1 c n : Nat) (hn : 3 ≤ n) (p : Nat → Prop) (A : Option Addr) (xs : List S37)
    (J : List ByteArray → World → Prop) (W : World) (hJ : AbidesFrom W.heap.size J) (hp1 : p B1) (hpA : ∀ ad, A = some ad → p ad.block) (hAb : ∀ ad, A = some ad → ad.block < W.heap.size)
    (hY : ∀ pre x W1, J pre W1 → (∃ rest, pre ++ x :: rest = xs.foldl sstep []) → YieldAt Fence.wide (n - 1) Tryd.prog l #[.string x] W1 fun e W' => e = .returned (.bool true) ∧ J (pre ++ [x]) W' ∧ KeepT p W1 W')
    (hB1 : Boxed W B1 25 (.slice A xs.length c)) (hC : Kd.C k37 W A xs.length xs) (hsh : ∀ s ∈ xs, s.f0.size ≤ maxLen) (hlen : xs.length ≤ 1000000) (h0 : J [] W) :
    CallsIn Fence.wide n Tryd.prog 32 #[.func (.yield l) #[] #[], .pointer (some ⟨B1, 0, none⟩)] W fun e W' => (∃ v, e = .returned v) ∧ (∃ ys, ys = xs.foldl sstep [] ∧ J ys W') := by
  have hmax : xs.length ≤ 9223372036854775807 := hC.2.1
  have hmm := @run_makeMap Tryd.prog
  have hB1' := hB1.alloc (.map #[] 0)
  have hBc := hB1'.cell
  refine callsIn_of_wp Tryd.func32 rfl trivial ?_ rfl
  simp only [Tryd.ntmps32, List.size_toArray, List.length_cons, List.length_nil, Nat.reduceAdd, Nat.reduceSub, Array.replicate_succ, Array.replicate_zero, List.push_toArray, List.append_toArray, List.nil_append, List.cons_append]
  gi_wp2
  gi_loopw [12] (fun i wr => ∃ (k : Nat) (pre : List ByteArray), i = .int .i64 (k : Int) ∧ k ≤ xs.length ∧ pre = (xs.take k).foldl sstep [] ∧ J pre wr ∧ W.heap.size + 1 ≤ wr.heap.size ∧ Boxed wr B1 25 (.slice A xs.length c) ∧ Kd.C k37 wr A xs.length xs ∧ wr.ownsMap Tryd.prog 9 unitElem W.heap.size k (metD (xs.take k)))
    (fun i _ => xs.length - (intOf i).toNat)
  case atStart => exact ⟨0, [], rfl, Nat.zero_le _, rfl, hJ _ _ _ none h0 (World.grownBy_alloc _ _ none) (fun r e => by cases e), by simp, hB1', C37_turn hC (Turn.alloc _ _), World.ownsMap_made W Tryd.prog 9 unitElem⟩
  case round =>
    obtain ⟨k, pre, rfl, hk, rfl, hJs, hsz, h1, hCs, hms⟩ := hrel
    by_cases hlt : k < xs.length
    · have hw1 : wrap64 ((k : Int) + 1) = ((k + 1 : Nat) : Int) := by unfold wrap64; omega
      have hAb2 := hAb
      obtain ⟨ad, eA, q0, q1, q2, q3⟩ := at_T37 hCs (k : Int) (by omega) (by omega)
      have hAlt0 := hAb2 ad eA
      subst eA
      simp only [Int.toNat_natCast] at q0 q1 q2 q3
      have hrd : rd_T37 xs (k : Int) = xs[k] := rdm37 hlt
      rw [hrd] at q0 q1 q2 q3
      have d1 : decide ((k : Int) < (xs.length : Int)) = true := decide_eq_true (by omega)
      have d2 : (0 ≤ (k : Int)) = True := eq_true (by omega)
      have d3 : ((k : Int) < (xs.length : Int)) = True := eq_true (by omega)
      have d4 : (k < xs.length) = True := eq_true hlt
      obtain ⟨w2, hw2⟩ : ∃ w2, wr.alloc (.cells #[.string (xs[k]).f0, .string (xs[k]).f1, .string (xs[k]).f2, .int .i64 (xs[k]).f3] 37) = w2 := ⟨_, rfl⟩
      have ht2 : Turn (fun _ => False) wr w2 := by rw [← hw2]; exact Turn.alloc _ _
      have hJ2 : J ((xs.take k).foldl sstep []) w2 := by rw [← hw2]; exact hJ _ _ _ none hJs (World.grownBy_alloc _ _ none) (fun r e => by cases e)
      have hx2 : w2.heap[wr.heap.size]? = some (.cells #[.string (xs[k]).f0, .string (xs[k]).f1, .string (xs[k]).f2, .int .i64 (xs[k]).f3] 37 (0, 0)) := by rw [← hw2]; exact World.alloc_heap_new wr _
      have x2c := (cells4_of hx2).1
      have hm2 := ht2.map hms (fun h => h)
      obtain ⟨w3, hw3⟩ : ∃ w3, w2.alloc (.cells #[] 67) = w3 := ⟨_, rfl⟩
      have ht3 : Turn (fun _ => False) w2 w3 := by rw [← hw3]; exact Turn.alloc _ _
      have hJ3 : J ((xs.take k).foldl sstep []) w3 := by rw [← hw3]; exact hJ _ _ _ none hJ2 (World.grownBy_alloc _ _ none) (fun r e => by cases e)
      have x3 := ht3.heap hx2 (fun h => h)
      have x3c := (cells4_of x3).1
      have hm3 := ht3.map hm2 (fun h => h)
      have g3 := ht3.boxed (ht2.boxed h1 (fun h => h)) (fun h => h)
      have C3 := C37_turn (C37_turn hCs ht2) ht3
      obtain ⟨es0, cl0, hmb3, _⟩ := id hm3
      have hsz3 : W.heap.size ≤ w3.heap.size := Nat.le_trans (Nat.le_of_succ_le hsz) (Nat.le_trans ht2.size ht3.size)
      have hsz3p : W.heap.size + 1 ≤ w3.heap.size := Nat.le_trans hsz (Nat.le_trans ht2.size ht3.size)
      have hB1lt : B1 < W.heap.size := hB1.lt
      have hAlt : ∀ ad', some ad = some ad' → ad'.block < w3.heap.size := fun ad' e => by cases e; omega
      have hAne : ∀ ad', some ad = some ad' → ¬ (ad'.block = W.heap.size) := fun ad' e => by cases e; omega
      have hkey := keyS (hsh _ (List.getElem_mem hlt))
      have hkm : k < maxLen := Nat.lt_of_lt_of_le hlt (Nat.le_trans hlen (by decide))
      have hpre2 := fold_pre xs (k + 1)
      rw [take_fold hlt] at hpre2
      obtain ⟨b0, hb0⟩ : ∃ b0, ((xs.take k).foldl sstep []).any (fun x => x.toList == (xs[k]).f0.toList) = b0 := ⟨_, rfl⟩
      have hhas : Maps.has (metD (xs.take k)) (klS (xs[k]).f0) = b0 := by rw [metD_has]; exact hb0
      have hst := take_fold hlt
      cases b0 with
      | false =>
        rw [sstep, if_neg (by rw [hb0]; decide)] at hst hpre2
        have hrest : ∃ rest, (xs.take k).foldl sstep [] ++ (xs[k]).f0 :: rest = xs.foldl sstep [] := by
          obtain ⟨r, hr⟩ := hpre2
          exact ⟨r, by rw [← hr]; simp⟩
        gi_wp2_with (first | (gi_at_lookup; refine wpListIn_lookup_own_unit _ rfl _ _ 81 rfl 9 67 keyed9 Tryd.underlying81 (zero67 _) W.heap.size k (metD (xs.take k)) rfl hm2 _ _ rfl hkey ?_; rw [hhas]) | (gi_at_mapUpdate; refine wpListIn_mapUpdate_own _ rfl _ _ _ 81 rfl 9 67 keyed9 Tryd.underlying81 _ W.heap.size k _ rfl hm3 hkm _ _ _ rfl rfl hkey _ [] unitElem_mk ?_; intro w4 hm4 hg4; have hJ4 : J ((xs.take k).foldl sstep []) w4 := hJ _ _ _ (some W.heap.size) hJ3 hg4 (fun r e => by cases e; exact ⟨Nat.le_refl _, _, hmb3, rfl⟩); have t4 : Turn (fun k => k = W.heap.size) w3 w4 := Turn.grown hg4 (fun k e => (Option.some.inj e).symm); have x4 := t4.heap x3 (by omega); have x4c := (cells4_of x4).1; have g4 := t4.boxed g3 (by omega); have C4 := C37_on C3 (fun ad' e => t4.block _ (hAlt ad' e) (hAne ad' e)); have hsz4 : W.heap.size + 1 ≤ w4.heap.size := Nat.le_trans hsz3p t4.size; obtain ⟨fn, tmps, assign, body, hy, hR⟩ := hY _ (xs[k]).f0 w4 hJ4 hrest))
        refine ⟨(fun h => by cases h), ?_⟩
        refine hR.mono ?_
        rintro e W5 ⟨rfl, hJ5, hk5⟩
        have m5 := hk5.map hm4
        gi_wp2
        go_roundw
        case rel => exact ⟨k + 1, _, rfl, hlt, hst.symm, hJ5, Nat.le_trans hsz4 hk5.size, hk5.box g4 hp1, C37_on C4 (fun ad' e => hk5.on _ (hpA ad' e)), by rw [take_snoc hlt, metD_snoc]; exact m5⟩
        case measure => exact up_meas hlt
      | true =>
        rw [sstep, if_pos hb0] at hst
        gi_wp2_with (first | (gi_at_lookup; refine wpListIn_lookup_own_unit _ rfl _ _ 81 rfl 9 67 keyed9 Tryd.underlying81 (zero67 _) W.heap.size k (metD (xs.take k)) rfl hm2 _ _ rfl hkey ?_; rw [hhas]) | (gi_at_mapUpdate; refine wpListIn_mapUpdate_own _ rfl _ _ _ 81 rfl 9 67 keyed9 Tryd.underlying81 _ W.heap.size k _ rfl hm3 hkm _ _ _ rfl rfl hkey _ [] unitElem_mk ?_; intro w4 hm4 hg4; have hJ4 : J ((xs.take k).foldl sstep []) w4 := hJ _ _ _ (some W.heap.size) hJ3 hg4 (fun r e => by cases e; exact ⟨Nat.le_refl _, _, hmb3, rfl⟩); have t4 : Turn (fun k => k = W.heap.size) w3 w4 := Turn.grown hg4 (fun k e => (Option.some.inj e).symm); have x4 := t4.heap x3 (by omega); have x4c := (cells4_of x4).1; have g4 := t4.boxed g3 (by omega); have C4 := C37_on C3 (fun ad' e => t4.block _ (hAlt ad' e) (hAne ad' e)); have hsz4 : W.heap.size + 1 ≤ w4.heap.size := Nat.le_trans hsz3p t4.size))
        refine ⟨(fun _ h => (by cases h)), ?_⟩
        gi_wp2
        go_roundw
        case rel => exact ⟨k + 1, _, rfl, hlt, hst.symm, hJ4, hsz4, g4, C4, by rw [take_snoc hlt, metD_snoc]; exact hm4⟩
        case measure => exact up_meas hlt
    · obtain rfl : k = xs.length := by omega
      have c1 : decide ((xs.length : Int) < (xs.length : Int)) = false := decide_eq_false (by omega)
      rw [List.take_length] at hJs
      gi_wp2
      go_end0
      exact ⟨⟨_, rfl⟩, ⟨_, rfl, hJs⟩⟩
end Go.Proofs.YtbigbjfppaenfaaDoor.Lines
