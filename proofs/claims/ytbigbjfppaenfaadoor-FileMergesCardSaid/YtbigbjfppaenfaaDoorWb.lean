/- slices.Backward over settings, walked. -/
import Derived.Test.YtbigbjfppaenfaaDoorWa
import Derived.Test.YtbigbjfppaenfaaDoorNext
namespace Go.Proofs.YtbigbjfppaenfaaDoor.Lines
open Go.RowKit Go.Shelf Go.Proofs.YtbigbjfppaenfaaDoorW.PrintWords Go.Proofs.YtbigbjfppaenfaaDoorW.PrintLast
attribute [local go_sem] Oper.semAt_some
set_option linter.unusedVariables false
set_option linter.unusedSimpArgs false
/-- some blocks lie as they lay -/
def KeepOn (p : Nat → Prop) (W W' : World) : Prop := ∀ k, p k → W'.heap[k]? = W.heap[k]?
theorem keepOn_refl (p : Nat → Prop) (W : World) : KeepOn p W W := fun k _ => rfl
theorem keepOn_t {p : Nat → Prop} {A B C : World} (h : KeepOn p A B) (k : KeepOn p B C) : KeepOn p A C := fun i hi => (k i hi).trans (h i hi)
theorem keepOn_b {p : Nat → Prop} {w : World} (hp : ∀ k, p k → k < w.heap.size) (W : World) (l : Nat) (o o' : Obj) (hl : w.heap.size ≤ l) (h : W.heap[l]? = some o) (_ : o.isCells = false) (_ : o.isWalk = false) : KeepOn p W (W.putObj l o') := by
  intro k hk
  rw [World.putObj_heap_other]
  rintro rfl
  have := hp _ hk
  omega
theorem keepOn_below {p : Nat → Prop} {n : Nat} {W W' : World} (h : Below n W W') (hp : ∀ k, p k → k < n) : KeepOn p W W' := fun k hk => h.block k (hp k hk)
theorem keepOn_grown {p : Nat → Prop} {r : Option Nat} {W W' : World} (h : W.grownBy W' r) (hp : ∀ k, p k → k < W.heap.size ∧ some k ≠ r) : KeepOn p W W' := fun k hk => h.block k (hp k hk).1 (hp k hk).2
theorem keepOn_mono {p q : Nat → Prop} {W W' : World} (h : KeepOn p W W') (hp : ∀ k, q k → p k) : KeepOn q W W' := fun k hk => h k (hp k hk)
theorem keepOn_set {p : Nat → Prop} (W : World) (B j : Nat) (v : Value) (h : ¬ p B) : KeepOn p W (W.setCell ⟨B, j, none⟩ v) := fun k hk => Below.heap_setCell W _ v k (by rintro rfl; exact h hk)
theorem boxed_on {p : Nat → Prop} {W W' : World} {B : Nat} {t : TypeId} {v : Value} (h : Boxed W B t v) (hk : KeepOn p W W') (hp : p B) : Boxed W' B t v := (hk B hp).trans h
theorem add_block (ad : Addr) (k : Nat) : (ad.add k).block = ad.block := by simp [Addr.add] <;> (split <;> rfl)
theorem C37_on {W W' : World} {A : Option Addr} {n : Nat} {xs : List S37} (h : Kd.C k37 W A n xs) (hk : ∀ ad, A = some ad → W'.heap[ad.block]? = W.heap[ad.block]?) : Kd.C k37 W' A n xs := by
  obtain ⟨h1, h2, h3⟩ := h
  refine ⟨h1, h2, fun hn => ?_⟩
  obtain ⟨ad, e, hc⟩ := h3 hn
  refine ⟨ad, e, fun j q hq => ?_⟩
  obtain ⟨c, hl, hK, hcell⟩ := hc j q hq
  obtain rfl := k37_open hK
  refine ⟨_, hl, k37_mk W' q, fun i u hu => ?_⟩
  rw [← hcell i u hu]
  unfold World.cell?
  rw [add_block, hk ad e]
/-- the settings from behind: place and setting -/
def backL (xs : List S37) : Nat → List (Int × S37)
  | 0 => []
  | k + 1 => ((k : Int), xs.getD k z37) :: backL xs k
theorem backL_len (xs : List S37) : ∀ k, (backL xs k).length = k := by
  intro k
  induction k with
  | zero => rfl
  | succ k ih => simp [backL, ih]
theorem backL_snd (xs : List S37) : ∀ k, k ≤ xs.length → (backL xs k).map Prod.snd = (xs.take k).reverse := by
  intro k
  induction k with
  | zero => intro _; rfl
  | succ k ih =>
    intro h
    have hk : k < xs.length := h
    rw [backL, List.map_cons, ih (Nat.le_of_lt hk), List.take_add_one, List.getElem?_eq_getElem hk, List.reverse_append]
    simp [List.getD, hk]
theorem backL_all (xs : List S37) : (backL xs xs.length).map Prod.snd = xs.reverse := by rw [backL_snd xs _ (Nat.le_refl _), List.take_length]
theorem wrap_dec {k : Nat} (h : k < 9223372036854775807) : wrap64 ((((k + 1 : Nat) : Int) - 1) - 1) = ((k : Nat) : Int) - 1 := by unfold wrap64; omega
theorem dec_cast (k : Nat) : (((k + 1 : Nat) : Int) - 1) = (k : Int) := by omega
theorem geq_true (k : Nat) : decide ((0 : Int) ≤ (k : Int)) = true := decide_eq_true (by omega)
theorem back_meas {k : Nat} : ((k : Int) - 1 + 1).toNat < ((k : Int) + 1).toNat := by omega
set_option maxRecDepth 100000 in
set_option maxHeartbeats 4000000 in
theorem back_calls (A : Option Addr) (m c : Nat) (w : World) : Calls Tryd.prog 26 #[.slice A m c] w fun e w' => e = .returned (.func (.func 38) #[] #[.pointer (some ⟨w.heap.size, 0, none⟩)]) ∧ w' = w.alloc (.cells #[.slice A m c] 23) := by
  go_enter Tryd.func26, Tryd.ntmps26
  go_wp2
  go_ret
  exact ⟨rfl, rfl⟩
set_option maxRecDepth 100000 in
set_option maxHeartbeats 4000000 in
theorem back_in (n l B c : Nat) (hn : 1 ≤ n) (p : Nat → Prop) (A : Option Addr) (xs : List S37)
    (J Jx : List (Int × S37) → World → Prop) (W : World) (hpB : p B) (hpA : ∀ ad, A = some ad → p ad.block)
    (hY : ∀ pre x W1, J pre W1 → (∃ rest, pre ++ x :: rest = backL xs xs.length) → YieldAt Fence.wide (n - 1) Tryd.prog l #[.int .i64 x.1, .agg #[.string x.2.f0, .string x.2.f1, .string x.2.f2, .int .i64 x.2.f3]] W1 fun e W' =>
      (e = .returned (.bool true) ∧ J (pre ++ [x]) W' ∧ KeepOn p W1 W') ∨ (e = .returned (.bool false) ∧ Jx (pre ++ [x]) W'))
    (hB : Boxed W B 23 (.slice A xs.length c)) (hC : Kd.C k37 W A xs.length xs) (h0 : J [] W) :
    CallsIn Fence.wide n Tryd.prog 38 #[.func (.yield l) #[] #[], .pointer (some ⟨B, 0, none⟩)] W fun e W' => (∃ v, e = .returned v) ∧
      ((∃ ys, ys = backL xs xs.length ∧ J ys W') ∨ (∃ pre, pre <+: backL xs xs.length ∧ Jx pre W')) := by
  have hmax : xs.length ≤ 9223372036854775807 := hC.2.1
  have hBc := hB.cell
  have hw0 : wrap64 ((xs.length : Int) - 1) = (xs.length : Int) - 1 := by unfold wrap64; omega
  refine callsIn_of_wp Tryd.func38 rfl trivial ?_ rfl
  simp only [Tryd.ntmps38, List.size_toArray, List.length_cons, List.length_nil, Nat.reduceAdd, Nat.reduceSub, Array.replicate_succ, Array.replicate_zero, List.push_toArray, List.append_toArray, List.nil_append, List.cons_append]
  gi_wp2
  gi_loopw [3] (fun i wr => ∃ (k : Nat) (pre : List (Int × S37)), i = .int .i64 ((k : Int) - 1) ∧ k ≤ xs.length ∧ pre ++ backL xs k = backL xs xs.length ∧ J pre wr ∧ Boxed wr B 23 (.slice A xs.length c) ∧ Kd.C k37 wr A xs.length xs)
    (fun i _ => ((intOf i) + 1).toNat)
  case atStart => exact ⟨xs.length, [], rfl, Nat.le_refl _, rfl, h0, hB, hC⟩
  case round =>
    obtain ⟨k, pre, rfl, hk, hpre, hJs, hBs, hCs⟩ := hrel
    cases k with
    | zero =>
      gi_wp2
      go_end0
      rw [backL, List.append_nil] at hpre
      exact ⟨⟨_, rfl⟩, .inl ⟨_, rfl, by rw [← hpre]; exact hJs⟩⟩
    | succ k =>
      have hlt : k < xs.length := hk
      have hw1 := wrap_dec (k := k) (by omega)
      rw [dec_cast] at hw1
      rw [dec_cast]
      have hge := geq_true k
      obtain ⟨ad, eA, q0, q1, q2, q3⟩ := at_T37 hCs (k : Int) (by omega) (by omega)
      subst eA
      simp only [Int.toNat_natCast] at q0 q1 q2 q3
      have hgd : xs.getD k z37 = xs[k] := by simp [List.getD, hlt]
      have hrd : rd_T37 xs (k : Int) = xs[k] := by rw [← hgd]; simp [rd_T37]
      rw [hrd] at q0 q1 q2 q3
      have hBsc := hBs.cell
      have c1 : (0 ≤ (k : Int)) = True := eq_true (by omega)
      have c2 : ((k : Int) < (xs.length : Int)) = True := eq_true (by omega)
      have c3 : (k < xs.length) = True := eq_true hlt
      have hplt : ∃ rest, pre ++ ((k : Int), xs[k]) :: rest = backL xs xs.length := ⟨backL xs k, by rw [← hpre, backL, hgd]⟩
      have hpre2 : (pre ++ [((k : Int), xs[k])]) ++ backL xs k = backL xs xs.length := by rw [← hpre]; simp [backL, hlt]
      obtain ⟨fn, tmps, assign, body, hy, hR⟩ := hY pre ((k : Int), xs[k]) wr hJs hplt
      dsimp only at hy
      gi_wp2
      refine hR.mono ?_
      rintro e W3 (⟨rfl, hJ3, hk3⟩ | ⟨rfl, hJx3⟩)
      · gi_wp2
        go_roundw
        case rel => exact ⟨k, pre ++ [((k : Int), xs[k])], by first | rfl | simp [hw1], Nat.le_of_lt hlt, hpre2, hJ3, boxed_on hBs hk3 hpB, C37_on hCs (fun ad' e => hk3 _ (hpA ad' e))⟩
        case measure => exact back_meas
      · gi_wp2
        refine bodyPost_ret (results_none rfl _ _ _) rfl ?_
        exact ⟨⟨_, rfl⟩, .inr ⟨_, ⟨backL xs k, hpre2⟩, hJx3⟩⟩
end Go.Proofs.YtbigbjfppaenfaaDoor.Lines
