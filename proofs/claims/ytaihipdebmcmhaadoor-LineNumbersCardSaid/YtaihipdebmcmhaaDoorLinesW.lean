/- line.whole's iterator, walked. -/
import Derived.Test.YtaihipdebmcmhaaDoorLinesI
namespace Go.Proofs.YtaihipdebmcmhaaDoor.Lines
open Go.RowKit Go.Shelf Go.Proofs.YtaihipdebmcmhaaDoorW.PrintWords Go.Proofs.YtaihipdebmcmhaaDoorW.PrintLast
attribute [local go_sem] Oper.semAt_some
set_option linter.unusedVariables false
/-- rows of strings lie as they lay -/
def KeepsRows (W W' : World) : Prop := ∀ (k : Nat) (cs : Array Value) (f : Nat × Nat), W.heap[k]? = some (.cells cs 9 f) → W'.heap[k]? = some (.cells cs 9 f)
/-- how many bytes -/
def tot (l : List (List UInt8)) : Nat := (l.map List.length).sum
theorem tot_cons (r : List UInt8) (l : List (List UInt8)) : tot (r :: l) = r.length + tot l := by simp [tot]
theorem wrap_next {k : Nat} (h : wrap64 ((k : Int) + 1) = (k : Int) + 1) : wrap64 ((k : Int) + 1) = ((k + 1 : Nat) : Int) := by rw [h]; omega
theorem wrap_prev {n : Nat} (h : 0 < n) (h2 : n ≤ 4000) : wrap64 ((n : Int) - 1) = ((n - 1 : Nat) : Int) := by unfold wrap64; omega
theorem small1 {n : Nat} (h : n ≤ 4000) : (9223372036854775807 < n - 1 + 1) = False := by simp; omega
theorem small2 {n q t : Nat} (h : n + (q + t) ≤ 4000) : (9223372036854775807 < n - 1 + 1 + q) = False := by simp; omega
theorem suf_get {α : Type} {rows rest2 : List α} {q : α} {k2 : Nat} (h : (q :: rest2) <:+ rows) (hl : k2 + 1 + (q :: rest2).length = rows.length) : rows[k2 + 1]? = some q := by
  obtain ⟨p, hp⟩ := h
  have hpl : p.length = k2 + 1 := by have := congrArg List.length hp; simp at this hl; omega
  rw [← hp, List.getElem?_append_right (by omega), hpl, Nat.sub_self]
  rfl
theorem cell_row {X : World} {b : Nat} {rows : List (List UInt8)} (hX : X.heap[b]? = some (.cells (rows.map (Value.string ∘ ba)).toArray 9 (0, 0))) {j : Nat} {q : List UInt8} (h : rows[j]? = some q) : X.cell? ⟨b, j, none⟩ = some (.string (ba q)) := by
  unfold World.cell?
  rw [hX]
  simp [h]
theorem not_last {k2 n : Nat} {q : List UInt8} {rest2 : List (List UInt8)} (h : k2 + 1 + (q :: rest2).length = n) : (((k2 : Int) + 1) == (n : Int)) = false := by
  rw [List.length_cons] at h
  exact beq_eq_false_iff_ne.mpr (by omega)
theorem before_last {k2 n : Nat} {q : List UInt8} {rest2 : List (List UInt8)} (h : k2 + 1 + (q :: rest2).length = n) : (k2 : Int) + 1 < (n : Int) := by
  rw [List.length_cons] at h
  omega
theorem step_len {k2 n : Nat} {q : List UInt8} {rest2 : List (List UInt8)} (h : k2 + 1 + (q :: rest2).length = n) : (k2 + 1) + 1 + rest2.length = n := by
  rw [List.length_cons] at h
  omega
theorem step_tot {all q : List UInt8} {t : Nat} (h0 : 0 < all.length) (h : all.length + (q.length + t) ≤ 4000) : (all.take (all.length - 1) ++ [32] ++ q).length + t ≤ 4000 := by
  simp
  omega
theorem meas {N k k2 : Nat} {i : Int} (h1 : i = ((k2 + 1 : Nat) : Int)) (h2 : k2 < N) (h3 : k ≤ k2) : N + 1 - (intOf (.int .i64 i)).toNat < N + 1 - (intOf (.int .i64 (k : Int))).toNat := by
  subst h1
  show N + 1 - (((k2 + 1 : Nat) : Int)).toNat < N + 1 - ((k : Int)).toNat
  rw [Int.toNat_natCast, Int.toNat_natCast]
  omega
theorem meas2 {N k2 l : Nat} {i : Int} (h1 : i = ((k2 + 1 : Nat) : Int)) (h2 : k2 + 1 + 1 + l = N) : N - (intOf (.int .i64 i)).toNat < N - (intOf (.int .i64 (k2 : Int))).toNat := by
  subst h1
  show N - (((k2 + 1 : Nat) : Int)).toNat < N - ((k2 : Int)).toNat
  rw [Int.toNat_natCast, Int.toNat_natCast]
  omega
theorem row_lt {k m n : Nat} (h : k + 1 + m = n) : k < n := by omega
set_option maxRecDepth 100000 in
set_option maxHeartbeats 4000000 in
theorem whole_in (n l Bs : Nat) (hn : 1 ≤ n) (m : Int) (s : List UInt8) (hs : s.length ≤ 4000) (rows : List (List UInt8)) (hrows : Lib.splitB ⟨#[10]⟩ 0 (Lib.countB (ba s) ⟨#[10]⟩) (ba s) = rows.map ba) (htot : tot rows ≤ 4000)
    (J Jx : List (Int × List UInt8) → World → Prop) (W : World) (hJ : AbidesFrom W.heap.size J)
    (hY : ∀ pre x W1, J pre W1 → pre.length < (items rows.length rows.length rows).length → YieldAt Fence.wide (n - 1) Tryd.prog l #[.int .i64 x.1, .string (ba x.2)] W1 fun e W' =>
      (e = .returned (.bool true) ∧ J (pre ++ [x]) W' ∧ KeepsRows W1 W') ∨ (e = .returned (.bool false) ∧ Jx (pre ++ [x]) W'))
    (hB : Boxed W Bs 9 (.string (ba s))) (hm : W.cell? ⟨0, 0, none⟩ = some (.int .i64 m)) (h0 : J [] W) :
    CallsIn Fence.wide n Tryd.prog 33 #[.func (.yield l) #[] #[], .pointer (some ⟨Bs, 0, none⟩)] W fun e W' => (∃ v, e = .returned v) ∧
      ((∃ xs, xs = items rows.length rows.length rows ∧ J xs W') ∨ (∃ pre, pre <+: items rows.length rows.length rows ∧ Jx pre W')) := by
  have hcnt : Lib.countB (ba s) ⟨#[10]⟩ + 1 = rows.length := by
    have h1 := Lib.splitB_all ⟨#[10]⟩ (by decide) 0 (Lib.countB (ba s) ⟨#[10]⟩) (ba s) rfl
    rw [hrows, List.length_map] at h1
    exact h1.symm
  have hN : rows.length ≤ 4001 := by
    have := Lib.countB_le ⟨#[10]⟩ (by decide) (ba s).size (ba s) (Nat.le_refl _)
    rw [ba_size] at this
    omega
  have hSp := Tryd.strings_Split (ba s) ⟨#[10]⟩ m W (by rw [ba_size]; omega) hm (by decide)
  rw [hrows, hcnt] at hSp
  have hBc := hB.cell
  refine callsIn_of_wp Tryd.func33 rfl trivial ?_ rfl
  simp only [Tryd.ntmps33, List.size_toArray, List.length_cons, List.length_nil, Nat.reduceAdd, Nat.reduceSub, Array.replicate_succ, Array.replicate_zero, List.push_toArray, List.append_toArray, List.nil_append, List.cons_append]
  gi_wp2_with (refine ⟨trivial, ?_⟩; gi_at_call 34; refine (callsIn_wide.2 hSp).mono ?_; rintro e w1 ⟨rfl, rfl⟩)
  have hJ1 : J [] (W.alloc (.cells (rows.map (Value.string ∘ ba)).toArray 9)) := hJ [] W _ none h0 (World.grownBy_alloc W _ none) (fun r e => by cases e)
  gi_loopw [4] (fun i wr => ∃ (k f : Nat) (cur : List (List UInt8)) (pre : List (Int × List UInt8)), i = .int .i64 k ∧ k + cur.length = rows.length ∧ cur <:+ rows ∧ cur.length ≤ f ∧ pre ++ items rows.length f cur = items rows.length rows.length rows ∧ J pre wr ∧ wr.heap[W.heap.size]? = some (.cells (rows.map (Value.string ∘ ba)).toArray 9 (0, 0)))
    (fun i _ => rows.length + 1 - (intOf i).toNat)
  case atStart => exact ⟨0, rows.length, rows, [], rfl, by omega, List.suffix_refl _, Nat.le_refl _, rfl, hJ1, World.alloc_heap_new W _⟩
  case round =>
    obtain ⟨k, f, cur, pre, rfl, hk, hsuf, hf, hpre, hJs, hrow⟩ := hrel
    cases cur with
    | nil =>
      obtain rfl : k = rows.length := by simpa using hk
      gi_wp2
      go_end0
      have : items rows.length f [] = [] := by cases f <;> rfl
      rw [this, List.append_nil] at hpre
      exact ⟨⟨_, rfl⟩, .inl ⟨_, rfl, by rw [← hpre]; exact hJs⟩⟩
    | cons r rest =>
      rw [List.length_cons] at hk hf
      have hlt : k < rows.length := by omega
      have hget : ∀ (j : Nat), rows[k + j]? = (r :: rest)[j]? := by
        intro j
        obtain ⟨p, hp⟩ := hsuf
        have hpl : p.length = k := by have := congrArg List.length hp; simp at this; omega
        rw [← hp, List.getElem?_append_right (by omega), hpl, Nat.add_sub_cancel_left]
      have cellAt : ∀ (X : World), X.heap[W.heap.size]? = some (.cells (rows.map (Value.string ∘ ba)).toArray 9 (0, 0)) → ∀ (j : Nat) (t : List UInt8), (r :: rest)[j]? = some t → X.cell? ⟨W.heap.size, k + j, none⟩ = some (.string (ba t)) := by
        intro X hX j t hj
        unfold World.cell?
        rw [hX]
        simp [hget j, hj]
      have hw : wrap64 ((k : Int) + 1) = (k : Int) + 1 := by unfold wrap64; omega
      have hc0 := cellAt wr hrow 0 r rfl
      rw [Nat.add_zero] at hc0
      obtain ⟨f, rfl⟩ : ∃ f', f = f' + 1 := ⟨f - 1, by omega⟩
      have hsr : rest <:+ rows := (List.suffix_cons r rest).trans hsuf
      cases hid : idleL r with
      | true =>
        have hId := idle_calls r wr
        rw [hid] at hId
        rw [items, if_pos hid] at hpre
        gi_wp2_with (refine ⟨trivial, ?_⟩; gi_at_call 35; refine (callsIn_wide.2 hId).mono ?_; rintro e w2 ⟨rfl, hb2⟩)
        go_roundw
        case rel => exact ⟨k + 1, f, rest, pre, by simp, by omega, hsr, by omega, hpre, hJ pre wr w2 none hJs (grown_of_below hb2) (fun r e => by cases e), (hb2.block _ (Array.getElem?_eq_some_iff.1 hrow).1).trans hrow⟩
        case measure => simp [intOf]; omega
      | false =>
        have hId := idle_calls r wr
        rw [hid] at hId
        rw [items, if_neg (by rw [hid]; decide)] at hpre
        gi_wp2_with (refine ⟨trivial, ?_⟩; gi_at_call 35; refine (callsIn_wide.2 hId).mono ?_; rintro e w2 ⟨rfl, hb2⟩; have hrow2 := (hb2.block _ (Array.getElem?_eq_some_iff.1 hrow).1).trans hrow; have hc2 := cellAt w2 hrow2 0 r rfl; rw [Nat.add_zero] at hc2; have hJ2 : J pre w2 := hJ pre wr w2 none hJs (grown_of_below hb2) (fun r e => by cases e))
        have hplt : pre.length < (items rows.length rows.length rows).length := by rw [← hpre]; simp
        have hnum : ((rows.length - rest.length : Nat) : Int) = (k : Int) + 1 := by omega
        rw [hnum] at hpre
        have htr : r.length + tot rest ≤ 4000 := by
          obtain ⟨p, hp⟩ := hsuf
          have : tot rows = tot p + tot (r :: rest) := by rw [← hp]; simp [tot]
          rw [tot_cons] at this
          omega
        gi_loopw [4, 6] (fun i v w3 => ∃ (k2 : Nat) (all : List UInt8) (rest2 : List (List UInt8)), i = .int .i64 k2 ∧ v = .string (ba all) ∧ k2 + 1 + rest2.length = rows.length ∧ k ≤ k2 ∧ rest2 <:+ rest ∧ goL all rest2 = goL r rest ∧ all.length + tot rest2 ≤ 4000 ∧ w3 = w2)
          (fun i v _ => rows.length - (intOf i).toNat)
        case atStart => exact ⟨k, r, rest, rfl, rfl, by omega, Nat.le_refl _, List.suffix_refl _, rfl, htr, rfl⟩
        case round =>
          obtain ⟨k2, all, rest2, rfl, rfl, hk2, hkk, hsuf2, hgo, htot2, rfl⟩ := hrel
          have hw2 : wrap64 ((k2 : Int) + 1) = (k2 : Int) + 1 := by unfold wrap64; omega
          have hH : Calls Tryd.prog 36 #[.string (ba all), .string ⟨#[92]⟩] wr fun e w' => e = .returned (.bool (Lib.hasSuffix all [92])) ∧ w' = wr := by
            have := Tryd.strings_HasSuffix (ba all) ⟨#[92]⟩ wr (by rw [ba_size]; omega)
            rw [ba_list] at this
            exact this
          cases hsx : Lib.hasSuffix all [92] with
          | false =>
            rw [hsx] at hH
            have hgo2 : goL r rest = (all, rest2) := by
              rw [← hgo]
              cases rest2 with
              | nil => rw [goL, hsx]; rfl
              | cons q rest2 => rw [goL, hsx]; rfl
            rw [hgo2] at hpre
            have hpre2 : (pre ++ [((k : Int) + 1, all)]) ++ items rows.length f rest2 = items rows.length rows.length rows := by rw [← hpre]; simp
            have hr2l := hsuf2.length_le
            have HE := Aside0.mk (show (k2 + 1) + rest2.length = rows.length ∧ wrap64 ((k2 : Int) + 1) = ((k2 + 1 : Nat) : Int) ∧ rest2 <:+ rows ∧ rest2.length ≤ f ∧ k2 < rows.length ∧ (pre ++ [((k : Int) + 1, all)]) ++ items rows.length f rest2 = items rows.length rows.length rows ∧ k ≤ k2 from ⟨hk2, wrap_next hw2, hsuf2.trans hsr, Nat.le_trans hr2l (Nat.le_of_succ_le_succ hf), row_lt hk2, hpre2, hkk⟩)
            obtain ⟨fn, tmps, assign, body, hy, hR⟩ := hY pre ((k : Int) + 1, all) wr hJ2 hplt; dsimp only at hy
            gi_wp2_with (refine ⟨trivial, ?_⟩; gi_at_call 36; refine (callsIn_wide.2 hH).mono ?_; rintro e w4 ⟨rfl, rfl⟩)
            refine hR.mono ?_
            rintro e W3 (⟨rfl, hJ3, hk3⟩ | ⟨rfl, hJx3⟩)
            · have hrow3 := Aside0.mk (hk3 _ _ _ hrow2)
              have HJ3 := Aside0.mk hJ3
              clear hy hH hId hSp hY hcnt hrows cellAt hget hgo hgo2 hpre hB hBc hm h0 hJ1 hJ2 hJ hJs hw hw2 hk2 hkk hsuf2 htot2 hplt hnum htr hsuf hk hf hr2l hlt hc0 hc2 hsr hN htot hs  hpre2 hrow2 hrow hk3 hJ3
              gi_wp2
              go_roundw
              case rel => exact ⟨k2 + 1, f, rest2, pre ++ [((k : Int) + 1, all)], by rw [HE.out.2.1], HE.out.1, HE.out.2.2.1, HE.out.2.2.2.1, HE.out.2.2.2.2.2.1, HJ3.out, hrow3.out⟩
              case measure => exact meas HE.out.2.1 HE.out.2.2.2.2.1 HE.out.2.2.2.2.2.2
            · have HJ3 := Aside0.mk hJx3
              clear hy hH hId hSp hY hcnt hrows cellAt hget hgo hgo2 hpre hB hBc hm h0 hJ1 hJ2 hJ hJs hw hw2 hk2 hkk hsuf2 htot2 hplt hnum htr hsuf hk hf hr2l hlt hc0 hc2 hsr hN htot hs  hpre2 hrow2 hrow hJx3
              gi_wp2
              refine bodyPost_ret (results_none rfl _ _ _) rfl ?_
              exact ⟨⟨_, rfl⟩, .inr ⟨_, ⟨items rows.length f rest2, HE.out.2.2.2.2.2.1⟩, HJ3.out⟩⟩
          | true =>
            rw [hsx] at hH
            have hal : 0 < all.length := by
              cases all with
              | nil => exact absurd hsx (by decide)
              | cons _ _ => exact Nat.succ_pos _
            have hw4 : wrap64 ((all.length : Int) - 1) = ((all.length - 1 : Nat) : Int) := wrap_prev hal (Nat.le_trans (Nat.le_add_right _ _) htot2)
            have hzz : (ba all).size = all.length := ba_size all
            have hcut : (ba all).extract 0 (all.length - 1) = ba (all.take (all.length - 1)) := ba_take all _
            have hbz : (ba (all.take (all.length - 1))).size = all.length - 1 := by rw [ba_size, List.length_take, Nat.min_eq_left (Nat.sub_le _ _)]
            have hle1 : ((all.length - 1 : Nat) : Int) ≤ (all.length : Int) := Int.ofNat_le.2 (Nat.sub_le _ _)
            have hle2 : all.length - 1 ≤ all.length := Nat.sub_le _ _
            cases rest2 with
            | nil =>
              have hgo2 : goL r rest = (all.take (all.length - 1) ++ [32], []) := by rw [← hgo, goL, hsx]; rfl
              rw [hgo2] at hpre
              have hpre2 : (pre ++ [((k : Int) + 1, all.take (all.length - 1) ++ [32])]) ++ items rows.length f [] = items rows.length rows.length rows := by rw [← hpre]; simp
              have hl1 : (((k2 : Int) + 1) == (rows.length : Int)) = true := beq_iff_eq.mpr (by rw [← hk2]; rfl)
              have HT := Aside0.mk htot2
              have HE := Aside0.mk (show (k2 + 1) + ([] : List (List UInt8)).length = rows.length ∧ wrap64 ((k2 : Int) + 1) = ((k2 + 1 : Nat) : Int) ∧ ([] : List (List UInt8)) <:+ rows ∧ ([] : List (List UInt8)).length ≤ f ∧ k2 < rows.length ∧ (pre ++ [((k : Int) + 1, all.take (all.length - 1) ++ [32])]) ++ items rows.length f [] = items rows.length rows.length rows ∧ k ≤ k2 from ⟨hk2, wrap_next hw2, List.nil_suffix, Nat.zero_le _, row_lt hk2, hpre2, hkk⟩)
              obtain ⟨fn, tmps, assign, body, hy, hR⟩ := hY pre ((k : Int) + 1, all.take (all.length - 1) ++ [32]) wr hJ2 hplt; dsimp only at hy
              clear hId hSp hY hcnt hrows cellAt hget hgo hgo2 hpre hB hBc hm h0 hJ1 hJ2 hJ hJs hw hk2 hkk hsuf2 htot2 hplt hnum htr hsuf hk hf hlt hc0 hc2 hsr hN htot hs hpre2 hrow
              have happ : ba (all.take (all.length - 1)) ++ (⟨#[32]⟩ : ByteArray) = ba (all.take (all.length - 1) ++ [32]) := ba_append _ [32]
              have hcc := small1 (Nat.le_trans (Nat.le_add_right all.length _) HT.out)
              gi_wp2_with (refine ⟨trivial, ?_⟩; gi_at_call 36; refine (callsIn_wide.2 hH).mono ?_; rintro e w4 ⟨rfl, rfl⟩)
              refine hR.mono ?_
              rintro e W3 (⟨rfl, hJ3, hk3⟩ | ⟨rfl, hJx3⟩)
              · have hrow3 := Aside0.mk (hk3 _ _ _ hrow2)
                have HJ3 := Aside0.mk hJ3
                clear hy hH hw2 hw4 hzz hcut hbz hle1 hle2 hl1 happ hcc hrow2 hk3 hJ3 hal
                gi_wp2
                go_roundw
                case rel => exact ⟨k2 + 1, f, [], pre ++ [((k : Int) + 1, all.take (all.length - 1) ++ [32])], by rw [HE.out.2.1], HE.out.1, HE.out.2.2.1, HE.out.2.2.2.1, HE.out.2.2.2.2.2.1, HJ3.out, hrow3.out⟩
                case measure => exact meas HE.out.2.1 HE.out.2.2.2.2.1 HE.out.2.2.2.2.2.2
              · have HJ3 := Aside0.mk hJx3
                clear hy hH hw2 hw4 hzz hcut hbz hle1 hle2 hl1 happ hcc hrow2 hJx3 hal
                gi_wp2
                refine bodyPost_ret (results_none rfl _ _ _) rfl ?_
                exact ⟨⟨_, rfl⟩, .inr ⟨_, ⟨items rows.length f [], HE.out.2.2.2.2.2.1⟩, HJ3.out⟩⟩
            | cons q rest2 =>
              have hgo2 : goL (all.take (all.length - 1) ++ [32] ++ q) rest2 = goL r rest := by rw [← hgo, goL, hsx]; rfl
              have HT := Aside0.mk htot2
              have hq := suf_get (hsuf2.trans hsr) hk2
              have hcq := cell_row hrow2 hq
              have hnl := not_last hk2
              have hlt2 := before_last hk2
              have happ : ba (all.take (all.length - 1)) ++ (⟨#[32]⟩ : ByteArray) = ba (all.take (all.length - 1) ++ [32]) := ba_append _ [32]
              have happ2 : ba (all.take (all.length - 1) ++ [32]) ++ ba q = ba (all.take (all.length - 1) ++ [32] ++ q) := ba_append _ _
              have hcc := small1 (Nat.le_trans (Nat.le_add_right all.length _) HT.out)
              have htq : all.length + (q.length + tot rest2) ≤ 4000 := by rw [← tot_cons]; exact htot2
              have hcc2 := small2 htq
              have hbz2 : (ba (all.take (all.length - 1) ++ [32])).size = all.length - 1 + 1 := by rw [ba_size, List.length_append, List.length_take, Nat.min_eq_left (Nat.sub_le _ _)]; rfl
              have hqz : (ba q).size = q.length := ba_size q
              have HG := Aside0.mk (show wrap64 ((k2 : Int) + 1) = ((k2 + 1 : Nat) : Int) ∧ (k2 + 1) + 1 + rest2.length = rows.length ∧ k ≤ k2 + 1 ∧ rest2 <:+ rest ∧ goL (all.take (all.length - 1) ++ [32] ++ q) rest2 = goL r rest ∧ (all.take (all.length - 1) ++ [32] ++ q).length + tot rest2 ≤ 4000 from
                ⟨wrap_next hw2, step_len hk2, Nat.le_succ_of_le hkk, (List.suffix_cons q rest2).trans hsuf2, hgo2, step_tot hal htq⟩)
              have HP := Aside0.mk (And.intro hJ2 (And.intro hrow2 hpre))
              have HQ := Aside0.mk (And.intro hplt (And.intro hk (And.intro hf (And.intro hsr (And.intro hnum htr)))))
              have HY := Aside0.mk hY
              have HJ := Aside0.mk hJ
              clear hId hSp hY hcnt hrows cellAt hget hgo hgo2 hpre hB hBc hm h0 hJ1 hJ2 hJ hJs hw hk2 hkk hsuf2 htot2 hplt hnum htr hsuf hk hf hlt hc0 hc2 hsr hN htot hs hrow hq hrow2 htq
              gi_wp2_with (refine ⟨trivial, ?_⟩; gi_at_call 36; refine (callsIn_wide.2 hH).mono ?_; rintro e w4 ⟨rfl, rfl⟩)
              go_roundw
              case rel => exact ⟨k2 + 1, all.take (all.length - 1) ++ [32] ++ q, rest2, by rw [HG.out.1], by simp, HG.out.2.1, HG.out.2.2.1, HG.out.2.2.2.1, HG.out.2.2.2.2.1, HG.out.2.2.2.2.2, trivial⟩
              case measure => exact meas2 HG.out.1 HG.out.2.1
end Go.Proofs.YtaihipdebmcmhaaDoor.Lines
