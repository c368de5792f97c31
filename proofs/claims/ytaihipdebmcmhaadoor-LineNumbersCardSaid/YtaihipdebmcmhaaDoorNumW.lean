/- The law LineNumbers, walked. -/
import Derived.Test.YtaihipdebmcmhaaDoorNumP
import Derived.IntWalk
namespace Go.Proofs.YtaihipdebmcmhaaDoor.Lines
open Go.RowKit Go.Shelf Go.Proofs.YtaihipdebmcmhaaDoorW.PrintWords Go.Proofs.YtaihipdebmcmhaaDoorW.PrintLast
attribute [local go_sem] Oper.semAt_some
set_option linter.unusedVariables false
theorem info3 : (Tryd.prog.info? 3).map (fun i => (i.zero, i.size, i.bytes)) = some (some (.int .i64 0), 1, 8) := by kernel_rfl
def remL (gs : List Int) : List Nat := gs.map (fun x => (x % 4).toNat)
def NumRel (gs : List Int) (B : Nat) (w : World) (s at_ want i : Value) (wr : World) : Prop :=
  ∃ k : Nat, k ≤ gs.length ∧ i = .int .i64 k ∧ s = .string (ba (txtG ((remL gs).take k))) ∧ at_ = .int .i64 (atG 2 ((remL gs).take k)) ∧ wr.ownsRow B 3 1 want k ((wants 2 ((remL gs).take k)).map (Value.int .i64)) ∧ Below B w wr
theorem digits_calls (k : Nat) (h : k < 40) (w : World) : Calls Tryd.prog 10 #[.int .i64 (k : Int)] w fun e w' => e = .returned (.string (ba (dg k))) ∧ Below w.heap.size w w' :=
  reveilleref1_Digits.calls 5 _ _ w (digits_f k h)
theorem cell_one_new (w : World) (v : Value) (t : TypeId) : ∀ j u, [v][j]? = some u → (w.alloc (.cells #[v] t)).cell? ((⟨w.heap.size, 0, none⟩ : Addr).add j) = some u := by
  intro j u hj
  have hb : (w.alloc (.cells #[v] t)).heap[w.heap.size]? = some (.cells #[v] t) := World.alloc_heap_new w _
  match j, hj with
  | 0, hj => obtain rfl := Option.some.inj hj; show World.cell? _ ⟨w.heap.size, 0 + 0, none⟩ = _; unfold World.cell?; rw [hb]; rfl
theorem remL_snoc {gs : List Int} {k : Nat} (h : k < gs.length) : (remL gs).take (k + 1) = (remL gs).take k ++ [(gs.getD k 0 % 4).toNat] := by
  have h2 : k < (remL gs).length := by unfold remL; simpa using h
  rw [List.take_succ_eq_append_getElem h2]
  have : (remL gs)[k] = (gs.getD k 0 % 4).toNat := by
    simp [remL, List.getD_eq_getElem?_getD, List.getElem?_eq_getElem h]
  rw [this]
theorem joinR_len (l : List (List UInt8)) : ∀ (l : List (List UInt8)), (joinR (l)).length = (l.map (fun x => x.length + 1)).sum := by
  intro l
  induction l with
  | nil => rfl
  | cons x l ih => have : joinR (x :: l) = x ++ 10 :: joinR l := by simp [joinR]
                   rw [this, List.length_append, List.length_cons, ih, List.map_cons, List.sum_cons]; omega
theorem rowsG_sum : ∀ (L : List Nat) (i : Nat), ((rowsG i L).map (fun x => x.length + 1)).sum ≤ 24 * L.length := by
  intro L
  induction L with
  | nil => intro i; exact Nat.le_refl _
  | cons r L ih =>
    intro i
    have hd := dg_len i
    have h1 := ih (i + 1)
    rw [rowsG, List.map_append, List.sum_append, List.length_cons]
    have : ((preR r ++ lnR i r).map (fun x => x.length + 1)).sum ≤ 24 := by
      unfold preR lnR
      split <;> split <;> (try split) <;> simp <;> omega
    omega
theorem txtG_len (L : List Nat) : (txtG L).length ≤ 4 + 24 * L.length := by
  unfold txtG
  rw [joinR_len [], List.map_cons, List.sum_cons]
  have := rowsG_sum L 0
  simp only [List.length_cons, List.length_nil]
  omega
theorem atG_le : ∀ (L : List Nat) (a : Nat), atG a L ≤ a + 4 * L.length := by
  intro L
  induction L with
  | nil => intro a; exact Nat.le_refl _
  | cons r L ih =>
    intro a
    rw [atG, List.length_cons]
    have := ih (a + (preR r).length + (if r = 3 then 2 else 1))
    have hp : (preR r).length + (if r = 3 then 2 else 1) ≤ 4 := by
      unfold preR
      split <;> (try split) <;> (try split) <;> simp
    omega
theorem ba_app (x y : List UInt8) : ba (x ++ y) = ba x ++ ba y := by
  unfold ba
  rw [ByteArray.ext_iff]
  simp
theorem str0 (L : List Nat) : ba (txtG L) ++ ⟨#[107]⟩ ++ ba (dg L.length) ++ ⟨#[61, 97]⟩ ++ ⟨#[10]⟩ = ba (txtG (L ++ [0])) := by
  rw [txtG_snoc]
  show ba _ ++ ba [107] ++ ba _ ++ ba [61, 97] ++ ba [10] = _
  simp only [← ba_app]
  congr 1
  simp [joinR, preR, lnR]
theorem str1 (L : List Nat) : ba (txtG L) ++ ⟨#[35, 32, 110, 111, 116, 101, 10]⟩ ++ ⟨#[107]⟩ ++ ba (dg L.length) ++ ⟨#[61, 97]⟩ ++ ⟨#[10]⟩ = ba (txtG (L ++ [1])) := by
  rw [txtG_snoc]
  show ba _ ++ ba [35, 32, 110, 111, 116, 101, 10] ++ ba [107] ++ ba _ ++ ba [61, 97] ++ ba [10] = _
  simp only [← ba_app]
  congr 1
  simp [joinR, preR, lnR]
theorem str2 (L : List Nat) : ba (txtG L) ++ ⟨#[32, 9, 10, 59, 10]⟩ ++ ⟨#[107]⟩ ++ ba (dg L.length) ++ ⟨#[61, 97]⟩ ++ ⟨#[10]⟩ = ba (txtG (L ++ [2])) := by
  rw [txtG_snoc]
  show ba _ ++ ba [32, 9, 10, 59, 10] ++ ba [107] ++ ba _ ++ ba [61, 97] ++ ba [10] = _
  simp only [← ba_app]
  congr 1
  simp [joinR, preR, lnR]
theorem str3 (L : List Nat) : ba (txtG L) ++ ⟨#[107]⟩ ++ ba (dg L.length) ++ ⟨#[61, 97]⟩ ++ ⟨#[32, 92, 10, 32, 98]⟩ ++ ⟨#[10]⟩ = ba (txtG (L ++ [3])) := by
  rw [txtG_snoc]
  show ba _ ++ ba [107] ++ ba _ ++ ba [61, 97] ++ ba [32, 92, 10, 32, 98] ++ ba [10] = _
  simp only [← ba_app]
  congr 1
  simp [joinR, preR, lnR]
theorem num_rel {gs : List Int} {B : Nat} {w : World} {k r a : Nat} {L : List Nat} {S : ByteArray} {M N K : Int} {v : Value} {wr : World} (hlt : k < gs.length) (hsn : (remL gs).take (k + 1) = L ++ [r]) (hae : atG 2 L = a)
    (hS : S = ba (txtG (L ++ [r]))) (hM : M = ((a + (preR r).length + (if r = 3 then 2 else 1) : Nat) : Int)) (hN : N = ((a + (preR r).length : Nat) : Int)) (hK : K = ((k + 1 : Nat) : Int))
    (hown : wr.ownsRow B 3 1 v (k + 1) ((wants 2 L).map (Value.int .i64) ++ [.int .i64 N])) (hb : Below B w wr) : NumRel gs B w (.string S) (.int .i64 M) v (.int .i64 K) wr := by
  subst hS hM hN hK
  refine ⟨k + 1, hlt, rfl, by rw [hsn], by rw [hsn, atG_snoc, hae], ?_, hb⟩
  rw [hsn, wants_snoc, List.map_append, hae]
  exact hown
theorem lines_num (L : List Nat) (hL : L.length ≤ 40) (w : World) (hG : GW w) :
    Calls Tryd.prog 11 #[.string (ba (txtG L))] w fun e w' => ∃ v, e = .returned (.tuple #[v, .int .i64 0, .int .i64 0]) ∧ w'.ownsRow w.heap.size 31 4 v (L.length + 1) ((⟨1, ba [65], ⟨#[]⟩, 1⟩ :: resG 0 2 L : List S31).flatMap cells31) ∧ Below w.heap.size w w' := by
  have hs : (txtG L).length ≤ 4000 := by have := txtG_len L; omega
  obtain ⟨m, hm, _, _⟩ := hG.maxLen
  have hgs : 0 < Tryd.prog.globals.size := by decide +kernel
  have := callsIn_wide.1 (lines_in 3 (Nat.le_refl _) (txtG L) hs (rowsL (txtG L)) (rows_of _) (Nat.le_trans (tot_rows _) hs) readF read_total w hG m hm (Nat.lt_of_lt_of_le hgs hG.size))
  have e : coll readF (items (rowsL (txtG L)).length (rowsL (txtG L)).length (rowsL (txtG L))) = _ := lines_G L hL
  rw [e] at this
  dsimp only at this
  rw [List.length_cons, resG_len] at this
  exact this
/-- the two rows' cells -/
theorem want_cell {w : World} {B n : Nat} {A : Option Addr} {c : Nat} {xs : List Int} (h : w.ownsRow B 3 1 (.slice A n c) n (xs.map (Value.int .i64))) (hx : xs.length = n) (k : Nat) (hk : k < n) : ∃ ad : Addr, A = some ad ∧ ad.block < w.heap.size ∧ w.cell? (ad.add k) = some (.int .i64 (xs.getD k 0)) := by
  have h0 := h
  rcases h.2 with ⟨h1, h2⟩ | ⟨g, cap, cur, h1, _⟩
  · injection h1 with e1 e2 e3
    omega
  · injection h1 with e1 e2 e3
    subst e1
    refine ⟨⟨g, 0, none⟩, rfl, (h0.lt g rfl).2, h0.cells rfl k _ ?_⟩
    rw [List.getElem?_map, List.getElem?_eq_getElem (by omega), List.getD_eq_getElem?_getD, List.getElem?_eq_getElem (by omega)]
    rfl
theorem line_cell {w : World} {B : Nat} {A : Option Addr} {n c : Nat} {l : List S31} (h : w.ownsRow B 31 4 (.slice A n c) n (l.flatMap cells31)) (hl : l.length = n) (k : Nat) (hk : k < n) (x : S31) (hx : l[k]? = some x) : ∃ ad : Addr, A = some ad ∧ ad.block < w.heap.size ∧ w.cell? ⟨(ad.add (k * 4)).block, (ad.add (k * 4)).off + 1, none⟩ = some (.string x.f1) ∧ w.cell? ⟨(ad.add (k * 4)).block, (ad.add (k * 4)).off + 2, none⟩ = some (.string x.f2) ∧ w.cell? ⟨(ad.add (k * 4)).block, (ad.add (k * 4)).off + 3, none⟩ = some (.int .i64 x.f3) := by
  subst hl
  obtain ⟨A1, c1, he1, hc1, hC1⟩ := Kd.R_reads (own_R h)
  obtain ⟨rfl, rfl⟩ : A = A1 ∧ c = c1 := by injection he1 with h1 h2 h3; exact ⟨h1, h3⟩
  obtain ⟨ad, hA, _, h1, h2, h3⟩ := at_T31 hC1 (k : Int) (by omega) (by omega)
  have hr : rd_T31 l (k : Int) = x := by
    unfold rd_T31
    rw [show ((k : Int)).toNat = k from by omega, List.getD_eq_getElem?_getD, hx]
    rfl
  rw [hr, show ((k : Int)).toNat = k from by omega] at h1 h2 h3
  refine ⟨ad, hA, ?_, h1, h2, h3⟩
  subst hA
  exact (h.lt ad.block rfl).2
def NumRel2 (gs : List Int) (W wr : World) (i : Value) : Prop := ∃ k : Nat, k ≤ gs.length ∧ i = .int .i64 k ∧ Below W.heap.size W wr
theorem remL_len (gs : List Int) : (remL gs).length = gs.length := by unfold remL; rw [List.length_map]
/-- a later world with a setting's cells -/
def NumS (W : World) (p1 p2 p3 p4 : Addr) (K V : ByteArray) (M : Int) (wr : World) : Prop :=
  wr.cell? p1 = some (.string K) ∧ wr.cell? p2 = some (.string V) ∧ wr.cell? p3 = some (.int .i64 M) ∧ wr.cell? p4 = some (.int .i64 M) ∧ Below W.heap.size W wr
theorem cell_keep {X Y : World} {p : Addr} {v : Value} (h : X.cell? p = some v) (hb : Below X.heap.size X Y) : Y.cell? p = some v := (hb.cell (World.block_lt_of_cell? X p h)).trans h
theorem numS_keep {W : World} {p1 p2 p3 p4 : Addr} {K V : ByteArray} {M : Int} {X Y : World} (h : NumS W p1 p2 p3 p4 K V M X) (hb : Below X.heap.size X Y) : NumS W p1 p2 p3 p4 K V M Y :=
  ⟨cell_keep h.1 hb, cell_keep h.2.1 hb, cell_keep h.2.2.1 hb, cell_keep h.2.2.2.1 hb, h.2.2.2.2.trans (hb.mono h.2.2.2.2.size)⟩
theorem numS_drew {W : World} {p1 p2 p3 p4 : Addr} {K V : ByteArray} {M : Int} {X : World} (h : NumS W p1 p2 p3 p4 K V M X) : NumS W p1 p2 p3 p4 K V M X.drew :=
  ⟨h.1, h.2.1, h.2.2.1, h.2.2.2.1, h.2.2.2.2.drew⟩
theorem valG_a (x : Int) (h0 : 0 ≤ x) (h : ¬ x % 4 = 3) : ba (valG (x % 4).toNat) = ⟨#[97]⟩ := by
  unfold valG
  rw [if_neg (by omega)]
  rfl
theorem nsm (k n : Nat) (h : k < n) : n - ((k : Int) + 1).toNat < n - ((k : Int)).toNat := by omega
theorem nsk (k : Nat) : Value.int .i64 ((k : Int) + 1) = Value.int .i64 ((k + 1 : Nat) : Int) := rfl
theorem ns0 (k : Nat) (h : k < 40) : IntKind.i64.wrap ((k : Int) + 1) = (k : Int) + 1 := IntWalk.i64_in _ (by omega)
theorem ns1 (k : Nat) (h : k < 40) : wrap64 ((k : Int) + 1) = (k : Int) + 1 := by unfold wrap64; omega
theorem ns2 (k : Nat) : (0 : Int) ≤ (k : Int) + 1 := by omega
theorem ns3 (k : Nat) : ((k : Int) + 1).toNat = k + 1 := by omega
theorem ns4 (k n : Nat) (h : k < n) : ((k : Int) + 1) < ((n + 1 : Nat) : Int) := by omega
set_option maxRecDepth 100000 in
set_option maxHeartbeats 4000000 in
theorem numbers_walk (A : Option Addr) (c : Nat) (gs : List Int) (w : World) (hlen : gs.length ≤ c) (hA : ∀ i, i < gs.length → ∃ ad, A = some ad ∧ ad.block < w.heap.size ∧ w.cell? (ad.add i) = some (.int .u8 (gs.getD i 0)) ∧ 0 ≤ gs.getD i 0 ∧ gs.getD i 0 < 256) (hG : GW w) (h40 : gs.length ≤ 40) :
    Calls Tryd.prog 3 #[.slice A gs.length c] w fun e w' => e = .returned (.bool true) ∧ Below w.heap.size w w' := by
  obtain ⟨B, hB⟩ : ∃ B, w.heap.size = B := ⟨_, rfl⟩
  have hsz : decide ((40 : Int) < (gs.length : Int)) = false := decide_eq_false (by omega)
  obtain ⟨i0, hi, hz0, hz1, hz2⟩ := info_parts info3
  rw [hB] at hA ⊢
  have HL := Aside0.mk hB
  clear hB
  have HA := Aside0.mk hA
  clear hA
  go_enter Tryd.func3, Tryd.ntmps3
  go_wp2_with (go_at_call 9; refine (reveillelaw5_known.calls true _ rfl hG).mono ?_; rintro e w1 ⟨rfl, hb1⟩)
  go_loopw [3, 4, 5, 6] (fun s at_ want i wr => NumRel gs B w s at_ want i wr) (fun _ _ _ i _ => gs.length - (intOf i).toNat)
  case atStart => exact ⟨0, Nat.zero_le _, rfl, rfl, rfl, World.ownsRow_nil .., by rw [← HL.out]; exact hb1⟩
  case round =>
    obtain ⟨k, hk, rfl, rfl, rfl, hrow, hbw⟩ := hrel
    by_cases hlt : k < gs.length
    · obtain ⟨ad, hAe, hblk, hcell, hx0, hx1⟩ := HA.out k hlt
      subst hAe
      have hblk' : (ad.add k).block < B := by unfold Addr.add; split <;> exact hblk
      have hsn := remL_snoc hlt
      have hcr : wr.cell? (ad.add k) = some (.int .u8 (gs.getD k 0)) := (hbw.cell (p := ad.add k) hblk').trans hcell
      have hLl : ((remL gs).take k).length = k := by rw [List.length_take]; unfold remL; rw [List.length_map]; omega
      have ht1 := txtG_len ((remL gs).take k)
      have ha1 := atG_le ((remL gs).take k) 2
      obtain ⟨L, hL⟩ : ∃ L, (remL gs).take k = L := ⟨_, rfl⟩
      rw [hL] at hsn hLl ht1 ha1 hrow ⊢
      obtain ⟨x, hx⟩ : ∃ x, gs.getD k 0 = x := ⟨_, rfl⟩
      rw [hx] at hsn hcr hx0 hx1 hcell
      have hDg := fun X => digits_calls k (by omega) X
      have hD1 := dg_len k
      obtain ⟨D, hDe⟩ : ∃ D, ba (dg k) = D := ⟨_, rfl⟩
      have hD : D.size ≤ 2 := by rw [← hDe, ba_size]; exact hD1
      rw [hDe] at hDg
      obtain ⟨t, hte⟩ : ∃ t, ba (txtG L) = t := ⟨_, rfl⟩
      have ht : t.size ≤ 3000 := by rw [← hte, ba_size]; omega
      obtain ⟨a, hae⟩ : ∃ a, atG 2 L = a := ⟨_, rfl⟩
      rw [hae] at ha1 ⊢
      rw [hte]
      have ha : a ≤ 200 := by omega
      have hlen1 : k + 1 ≤ maxLen := by unfold maxLen; omega
      have hlen2 : (k + 1) * 8 ≤ 140737488355328 := by omega
      have hwle : B ≤ wr.heap.size := by rw [← HL.out]; exact hbw.size
      have hA1 : B ≤ (wr.alloc (.cells #[.int .i64 (a : Int)] 3)).heap.size := Nat.le_trans hwle (World.grownBy_alloc _ _ none).size
      have HS := Aside0.mk (And.intro hsn (And.intro hLl (And.intro hDe (And.intro hte (And.intro hae (And.intro hL hcell))))))
      clear hsn hLl hDe hte hae hL hcell hx ht1 ha1 hD1
      have hk40 : k < 40 := by omega
      rcases (show x % 4 = 0 ∨ x % 4 = 1 ∨ x % 4 = 2 ∨ x % 4 = 3 by omega) with hr | hr | hr | hr
      · have e1 : (x % 4 == 1) = false := by rw [hr]; rfl
        have e2 : (x % 4 == 2) = false := by rw [hr]; rfl
        have e3 : (x % 4 == 3) = false := by rw [hr]; rfl
        have h0 : (remL gs).take (k + 1) = L ++ [0] := by
          have := HS.out.1
          rw [hr] at this
          exact this
        have H0 := Aside0.mk h0
        clear hr h0
        go_wp2_with (first | (at_builtin; refine wpList_append_own _ rfl _ _ 24 rfl B 3 i0 (.int .i64 0) 1 8 Tryd.underlying24 hi hz0 hz1 hz2 rfl (by decide) _ _ _ rfl (hrow.alloc _) ⟨wr.heap.size, 0, none⟩ 1 1 [.int .i64 (a : Int)] rfl rfl (cell_one_new wr _ 3) (by simp [Value.oneCell']) hlen1 hlen2 (Nat.le_trans hwle (World.grownBy_alloc _ _ none).size) ?_; intro v' w2 hown' hgrow _; have hb2 := Aside0.mk ((hbw.alloc hwle _).grown hgrow (Nat.le_trans hwle (World.grownBy_alloc _ _ none).size) (fun k e => (hrow.lt k e).1)); have hown2 := Aside0.mk hown'; clear hown' hgrow) | (go_at_call 10; refine (hDg _).mono ?_; rintro e w3 ⟨rfl, hb3⟩; have hb4 := Aside0.mk (hb2.out.trans (hb3.mono (by rw [← HL.out]; exact hb2.out.size))); have hown4 := Aside0.mk (pw_own_below hown2.out hb3); clear hb3; have hcr3 := (hb4.out.cell (p := ad.add k) hblk').trans HS.out.2.2.2.2.2.2))
        exact ⟨num_rel (r := 0) hlt H0.out HS.out.2.2.2.2.1 (by rw [← str0, HS.out.2.1, HS.out.2.2.1, HS.out.2.2.2.1]) (by simp [preR]; try omega) (by simp [preR]) (by simp) hown4.out hb4.out, by simp [intOf]; omega⟩
      · have e1 : (x % 4 == 1) = true := by rw [hr]; rfl
        have e2 : (x % 4 == 2) = false := by rw [hr]; rfl
        have e3 : (x % 4 == 3) = false := by rw [hr]; rfl
        have h0 : (remL gs).take (k + 1) = L ++ [1] := by
          have := HS.out.1
          rw [hr] at this
          exact this
        have H0 := Aside0.mk h0
        clear hr h0
        go_wp2_with (first | (at_builtin; refine wpList_append_own _ rfl _ _ 24 rfl B 3 i0 (.int .i64 0) 1 8 Tryd.underlying24 hi hz0 hz1 hz2 rfl (by decide) _ _ _ rfl (hrow.alloc _) ⟨wr.heap.size, 0, none⟩ 1 1 [.int .i64 ((a : Int) + 1)] rfl rfl (cell_one_new wr _ 3) (by simp [Value.oneCell']) hlen1 hlen2 (Nat.le_trans hwle (World.grownBy_alloc _ _ none).size) ?_; intro v' w2 hown' hgrow _; have hb2 := Aside0.mk ((hbw.alloc hwle _).grown hgrow (Nat.le_trans hwle (World.grownBy_alloc _ _ none).size) (fun k e => (hrow.lt k e).1)); have hown2 := Aside0.mk hown'; clear hown' hgrow) | (go_at_call 10; refine (hDg _).mono ?_; rintro e w3 ⟨rfl, hb3⟩; have hb4 := Aside0.mk (hb2.out.trans (hb3.mono (by rw [← HL.out]; exact hb2.out.size))); have hown4 := Aside0.mk (pw_own_below hown2.out hb3); clear hb3; have hcr3 := (hb4.out.cell (p := ad.add k) hblk').trans HS.out.2.2.2.2.2.2))
        exact ⟨num_rel (r := 1) hlt H0.out HS.out.2.2.2.2.1 (by rw [← str1, HS.out.2.1, HS.out.2.2.1, HS.out.2.2.2.1]) (by simp [preR]; try omega) (by simp [preR]) (by simp) hown4.out hb4.out, by simp [intOf]; omega⟩
      · have e1 : (x % 4 == 1) = false := by rw [hr]; rfl
        have e2 : (x % 4 == 2) = true := by rw [hr]; rfl
        have e3 : (x % 4 == 3) = false := by rw [hr]; rfl
        have h0 : (remL gs).take (k + 1) = L ++ [2] := by
          have := HS.out.1
          rw [hr] at this
          exact this
        have H0 := Aside0.mk h0
        clear hr h0
        go_wp2_with (first | (at_builtin; refine wpList_append_own _ rfl _ _ 24 rfl B 3 i0 (.int .i64 0) 1 8 Tryd.underlying24 hi hz0 hz1 hz2 rfl (by decide) _ _ _ rfl (hrow.alloc _) ⟨wr.heap.size, 0, none⟩ 1 1 [.int .i64 ((a : Int) + 2)] rfl rfl (cell_one_new wr _ 3) (by simp [Value.oneCell']) hlen1 hlen2 (Nat.le_trans hwle (World.grownBy_alloc _ _ none).size) ?_; intro v' w2 hown' hgrow _; have hb2 := Aside0.mk ((hbw.alloc hwle _).grown hgrow (Nat.le_trans hwle (World.grownBy_alloc _ _ none).size) (fun k e => (hrow.lt k e).1)); have hown2 := Aside0.mk hown'; clear hown' hgrow) | (go_at_call 10; refine (hDg _).mono ?_; rintro e w3 ⟨rfl, hb3⟩; have hb4 := Aside0.mk (hb2.out.trans (hb3.mono (by rw [← HL.out]; exact hb2.out.size))); have hown4 := Aside0.mk (pw_own_below hown2.out hb3); clear hb3; have hcr3 := (hb4.out.cell (p := ad.add k) hblk').trans HS.out.2.2.2.2.2.2))
        exact ⟨num_rel (r := 2) hlt H0.out HS.out.2.2.2.2.1 (by rw [← str2, HS.out.2.1, HS.out.2.2.1, HS.out.2.2.2.1]) (by simp [preR]; try omega) (by simp [preR]) (by simp) hown4.out hb4.out, by simp [intOf]; omega⟩
      · have e1 : (x % 4 == 1) = false := by rw [hr]; rfl
        have e2 : (x % 4 == 2) = false := by rw [hr]; rfl
        have e3 : (x % 4 == 3) = true := by rw [hr]; rfl
        have h0 : (remL gs).take (k + 1) = L ++ [3] := by
          have := HS.out.1
          rw [hr] at this
          exact this
        have H0 := Aside0.mk h0
        clear hr h0
        go_wp2_with (first | (at_builtin; refine wpList_append_own _ rfl _ _ 24 rfl B 3 i0 (.int .i64 0) 1 8 Tryd.underlying24 hi hz0 hz1 hz2 rfl (by decide) _ _ _ rfl (hrow.alloc _) ⟨wr.heap.size, 0, none⟩ 1 1 [.int .i64 (a : Int)] rfl rfl (cell_one_new wr _ 3) (by simp [Value.oneCell']) hlen1 hlen2 (Nat.le_trans hwle (World.grownBy_alloc _ _ none).size) ?_; intro v' w2 hown' hgrow _; have hb2 := Aside0.mk ((hbw.alloc hwle _).grown hgrow (Nat.le_trans hwle (World.grownBy_alloc _ _ none).size) (fun k e => (hrow.lt k e).1)); have hown2 := Aside0.mk hown'; clear hown' hgrow) | (go_at_call 10; refine (hDg _).mono ?_; rintro e w3 ⟨rfl, hb3⟩; have hb4 := Aside0.mk (hb2.out.trans (hb3.mono (by rw [← HL.out]; exact hb2.out.size))); have hown4 := Aside0.mk (pw_own_below hown2.out hb3); clear hb3; have hcr3 := (hb4.out.cell (p := ad.add k) hblk').trans HS.out.2.2.2.2.2.2))
        exact ⟨num_rel (r := 3) hlt H0.out HS.out.2.2.2.2.1 (by rw [← str3, HS.out.2.1, HS.out.2.2.1, HS.out.2.2.2.1]) (by simp [preR]; try omega) (by simp [preR]) (by simp) hown4.out hb4.out, by simp [intOf]; omega⟩
    · obtain rfl : k = gs.length := by omega
      have hLe : (remL gs).take gs.length = remL gs := by rw [← remL_len gs, List.take_length]
      rw [hLe] at hrow ⊢
      have hLn := remL_len gs
      obtain ⟨L, hL⟩ : ∃ L, remL gs = L := ⟨_, rfl⟩
      rw [hL] at hrow hLn ⊢
      obtain ⟨A2, c2, rfl⟩ := own_slice hrow
      have hGr : GW wr := hG.below (by rw [HL.out]; exact hbw)
      have hln := fun X hX => lines_num L (by omega) X hX
      obtain ⟨T, hT⟩ : ∃ T, ba (txtG L) = T := ⟨_, rfl⟩
      obtain ⟨a, ha⟩ : ∃ a, atG 2 L = a := ⟨_, rfl⟩
      rw [hT] at hln ⊢
      rw [ha]
      simp only [hLn] at hln
      have HK := Aside0.mk (And.intro hLn (And.intro hL hLe))
      clear hLn hL hLe hT ha
      go_wp2_with (go_at_call 11; refine (hln _ hGr).mono ?_; rintro e w5 ⟨v5, rfl, hrow5, hb5⟩; obtain ⟨A5, c5, rfl⟩ := own_slice hrow5)
      have hN0 : gs.length < 9223372036854775807 := by omega
      have HW := Aside0.mk (pw_own_below hrow hb5)
      have HR5 := Aside0.mk hrow5
      have HB5 := Aside0.mk hb5
      have HBW := Aside0.mk hbw
      have HGR := Aside0.mk hGr
      clear hrow hrow5 hb5 hbw hGr hln
      go_loopw [10] (fun i wr2 => NumRel2 gs w5 wr2 i) (fun i _ => gs.length - (intOf i).toNat)
      case atStart => exact ⟨0, Nat.zero_le _, rfl, Below.refl _ _⟩
      case round =>
        obtain ⟨k, hk2, rfl, hbr⟩ := hrel
        by_cases hlt2 : k < gs.length
        · obtain ⟨ad, hAe, hblk, hcell, hx0, hx1⟩ := HA.out k hlt2
          subst hAe
          obtain ⟨ad2, hA2, hblk2, hcell2⟩ := want_cell HW.out (by rw [wants_len]; exact HK.out.1) k hlt2
          subst hA2
          have hLk : L[k]? = some (gs.getD k 0 % 4).toNat := by
            rw [← HK.out.2.1]
            simp [remL, List.getD_eq_getElem?_getD, List.getElem?_eq_getElem hlt2]
          obtain ⟨ad5, hA5, hblk5, hK1, hV1, hM1⟩ := line_cell (l := ⟨1, ba [65], ⟨#[]⟩, 1⟩ :: resG 0 2 L) HR5.out (by rw [List.length_cons, resG_len, HK.out.1]) (k + 1) (by omega) _ (by rw [List.getElem?_cons_succ]; exact resG_at L 0 2 k _ hLk)
          subst hA5
          have hw5 : B ≤ w5.heap.size := Nat.le_trans (by rw [← HL.out]; exact HBW.out.size) HB5.out.size
          have hk40 : k < 40 := Nat.lt_of_lt_of_le hlt2 h40
          have hblk' : (ad.add k).block < w5.heap.size := Nat.lt_of_lt_of_le (by unfold Addr.add; split <;> exact hblk) hw5
          have hbl2 : (ad2.add k).block < w5.heap.size := by unfold Addr.add; split <;> exact hblk2
          have hbl5 : (ad5.add ((k + 1) * 4)).block < w5.heap.size := by unfold Addr.add; split <;> exact hblk5
          have hcr : wr.cell? (ad.add k) = some (.int .u8 (gs.getD k 0)) := (hbr.cell hblk').trans ((HB5.out.cell (p := ad.add k) (Nat.lt_of_lt_of_le (by unfold Addr.add; split <;> exact hblk) (by rw [← HL.out]; exact HBW.out.size))).trans ((HBW.out.cell (p := ad.add k) (by unfold Addr.add; split <;> exact hblk)).trans hcell))
          have hS : NumS w5 ⟨(ad5.add ((k + 1) * 4)).block, (ad5.add ((k + 1) * 4)).off + 1, none⟩ ⟨(ad5.add ((k + 1) * 4)).block, (ad5.add ((k + 1) * 4)).off + 2, none⟩ ⟨(ad5.add ((k + 1) * 4)).block, (ad5.add ((k + 1) * 4)).off + 3, none⟩ (ad2.add k) (ba (107 :: dg (0 + k))) (ba (valG (gs.getD k 0 % 4).toNat)) ((wants 2 L).getD k 0) wr :=
            ⟨(hbr.cell (p := ⟨(ad5.add ((k + 1) * 4)).block, (ad5.add ((k + 1) * 4)).off + 1, none⟩) hbl5).trans hK1, (hbr.cell (p := ⟨(ad5.add ((k + 1) * 4)).block, (ad5.add ((k + 1) * 4)).off + 2, none⟩) hbl5).trans hV1, (hbr.cell (p := ⟨(ad5.add ((k + 1) * 4)).block, (ad5.add ((k + 1) * 4)).off + 3, none⟩) hbl5).trans hM1, (hbr.cell hbl2).trans hcell2, hbr⟩
          have hKe : ba (107 :: dg (0 + k)) = ⟨#[107]⟩ ++ ba (dg k) := by rw [Nat.zero_add]; exact ba_app [107] (dg k)
          rw [hKe] at hS
          have hDg := fun X => digits_calls k (by omega) X
          have hD1 := dg_len k
          obtain ⟨D, hDe⟩ : ∃ D, ba (dg k) = D := ⟨_, rfl⟩
          have hD : D.size ≤ 2 := by rw [← hDe, ba_size]; exact hD1
          rw [hDe] at hDg hS
          obtain ⟨M, hM⟩ : ∃ M, (wants 2 L).getD k 0 = M := ⟨_, rfl⟩
          obtain ⟨x, hx⟩ : ∃ x, gs.getD k 0 = x := ⟨_, rfl⟩
          rw [hM, hx] at hS
          rw [hx] at hcr hx0 hx1
          clear hK1 hV1 hM1 hcell2 hcell hKe hDe hM hx hLk hD1
          have hs1 := ns1 k hk40
          have hs0 := ns0 k hk40
          have hs2 := ns2 k
          have hs3 := ns3 k
          have hs4 := ns4 k gs.length hlt2
          by_cases h3 : x % 4 = 3
          · have e3 : (x % 4 == 3) = true := by rw [h3]; rfl
            have hv : ba (valG (x % 4).toNat) = ⟨#[97, 32, 32, 32, 98]⟩ := by rw [h3]; rfl
            rw [hv] at hS
            clear h3 hv
            go_wp2
            have hSd := numS_drew hS
            have hcc : (9223372036854775807 < 1 + D.size) = False := eq_false (by omega)
            obtain ⟨c1, c2, c3, c4, hbr'⟩ := hS
            go_region_held3 (fun w' => w'.cell? ⟨(ad5.add ((k + 1) * 4)).block, (ad5.add ((k + 1) * 4)).off + 1, none⟩ = some (.string (⟨#[107]⟩ ++ D)) ∧ w'.cell? ⟨(ad5.add ((k + 1) * 4)).block, (ad5.add ((k + 1) * 4)).off + 2, none⟩ = some (.string ⟨#[97, 32, 32, 32, 98]⟩) ∧ w'.cell? ⟨(ad5.add ((k + 1) * 4)).block, (ad5.add ((k + 1) * 4)).off + 3, none⟩ = some (.int .i64 M) ∧ w'.cell? (ad2.add k) = some (.int .i64 M) ∧ Below w5.heap.size w5 w') ((first | exact hSd | exact numS_keep hSd hbD)) ((go_at_call 10; refine (hDg _).mono ?_; rintro e w' ⟨rfl, hbD⟩))
            go_wp2
            rename_i hZ
            exact ⟨⟨k + 1, hlt2, nsk k, hZ.2.2.2.2⟩, nsm k _ hlt2⟩
          · have e3 : (x % 4 == 3) = false := by simp [h3]
            have hv : ba (valG (x % 4).toNat) = ⟨#[97]⟩ := valG_a x hx0 h3
            rw [hv] at hS
            clear h3 hv
            go_wp2
            have hSd := numS_drew hS
            have hcc : (9223372036854775807 < 1 + D.size) = False := eq_false (by omega)
            obtain ⟨c1, c2, c3, c4, hbr'⟩ := hS
            go_region_held3 (fun w' => w'.cell? ⟨(ad5.add ((k + 1) * 4)).block, (ad5.add ((k + 1) * 4)).off + 1, none⟩ = some (.string (⟨#[107]⟩ ++ D)) ∧ w'.cell? ⟨(ad5.add ((k + 1) * 4)).block, (ad5.add ((k + 1) * 4)).off + 2, none⟩ = some (.string ⟨#[97]⟩) ∧ w'.cell? ⟨(ad5.add ((k + 1) * 4)).block, (ad5.add ((k + 1) * 4)).off + 3, none⟩ = some (.int .i64 M) ∧ w'.cell? (ad2.add k) = some (.int .i64 M) ∧ Below w5.heap.size w5 w') ((first | exact hSd | exact numS_keep hSd hbD)) ((go_at_call 10; refine (hDg _).mono ?_; rintro e w' ⟨rfl, hbD⟩))
            go_wp2
            rename_i hZ
            exact ⟨⟨k + 1, hlt2, nsk k, hZ.2.2.2.2⟩, nsm k _ hlt2⟩
        · go_wp2
          go_ret
          exact ⟨rfl, (HBW.out.trans (HB5.out.mono (by rw [← HL.out]; exact HBW.out.size))).trans (hbr.mono (Nat.le_trans (by rw [← HL.out]; exact HBW.out.size) HB5.out.size))⟩
end Go.Proofs.YtaihipdebmcmhaaDoor.Lines
