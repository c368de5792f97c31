/- The plain law of SpanParts: its loop lays such a text. -/
import Derived.Test.YtfpfdeechhaheaaDoorPartsP
namespace Go.Proofs.YtfpfdeechhaheaaDoor.Reads
open Go.RowKit Go.Proofs.YtfpfdeechhaheaaDoorW.PrintWords Go.Proofs.YtfpfdeechhaheaaDoorW.PrintLast
set_option linter.unusedVariables false
set_option linter.unusedSectionVars false
set_option linter.unusedSimpArgs false
def bl (z : Int) : List UInt8 := if z = 0 then [] else if z = 1 then [32] else [32, 32, 32]
def nmL (z : Int) : List UInt8 := if z = 0 then [115] else if z = 1 then [115, 101, 99] else if z = 2 then [109] else if z = 3 then [109, 105, 110] else if z = 4 then [104] else if z = 5 then [104, 114] else if z = 6 then [100] else [119]
theorem bk_ba (z : Int) : bkA z = ba (bl z) := by
  unfold bkA bl
  split
  · rfl
  · split <;> rfl
theorem nm_ba (z : Int) : nmA z = ba (nmL z) := by
  unfold nmA nmL
  repeat (first | rfl | split)
theorem bl_blank (z : Int) : blank (bl z) := by
  unfold bl
  split
  · exact .inl rfl
  · split
    · exact .inr (.inl rfl)
    · exact .inr (.inr rfl)
theorem nm_mem {z : Int} (h0 : 0 ≤ z) (h8 : z < 8) : (nmL z, scA z) ∈ names8 := by
  rcases (by omega : z = 0 ∨ z = 1 ∨ z = 2 ∨ z = 3 ∨ z = 4 ∨ z = 5 ∨ z = 6 ∨ z = 7) with rfl | rfl | rfl | rfl | rfl | rfl | rfl | rfl <;> decide
theorem rd_range {l : List Int} {b : Int} (hb : 0 ≤ b) (h : ∀ x ∈ l, 0 ≤ x ∧ x ≤ b) (i : Int) : 0 ≤ rd l i ∧ rd l i ≤ b := by
  unfold rd
  rw [List.getD_eq_getElem?_getD]
  cases hx : l[i.toNat]? with
  | none => exact ⟨Int.le_refl _, hb⟩
  | some x => exact h x (List.mem_of_getElem? hx)
theorem txt_snoc (p : Pc) : ∀ l, txt (l ++ [p]) = txt l ++ (p.b1 ++ p.tail []) := by
  intro l
  induction l with
  | nil => simp [txt]
  | cons q l ih =>
    show q.b1 ++ q.tail (txt (l ++ [p])) = (q.b1 ++ q.tail (txt l)) ++ _
    rw [ih]
    unfold Pc.tail
    simp [List.append_assoc]
theorem total_snoc (p : Pc) : ∀ l, total (l ++ [p]) = total l + p.v := by
  intro l
  induction l with
  | nil => show p.v + 0 = 0 + p.v; omega
  | cons q l ih =>
    show q.v + total (l ++ [p]) = q.v + total l + p.v
    rw [ih]; omega
theorem blank_len {b : List UInt8} (h : blank b) : b.length ≤ 3 := by
  rcases h with rfl | rfl | rfl <;> decide
theorem txt_len : ∀ l : List Pc, (∀ p ∈ l, p.Ok) → (txt l).length ≤ 17 * l.length := by
  intro l
  induction l with
  | nil => intro _; decide
  | cons p l ih =>
    intro h
    have hp := h p (List.mem_cons_self ..)
    have := ih (fun q hq => h q (List.mem_cons_of_mem _ hq))
    have h1 := blank_len hp.b1
    have h2 := blank_len hp.b2
    have h3 := blank_len hp.b3
    have h4 := hp.len
    have h5 := (sc_range hp).2.2
    show (p.b1 ++ (p.ds ++ (p.b2 ++ (p.nm ++ (p.b3 ++ txt l))))).length ≤ _
    simp only [List.length_append, List.length_cons]
    omega
theorem total_range : ∀ l : List Pc, (∀ p ∈ l, p.Ok) → 0 ≤ total l ∧ total l ≤ 39635568000 * l.length := by
  intro l
  induction l with
  | nil => intro _; exact ⟨Int.le_refl _, by decide⟩
  | cons p l ih =>
    intro h
    have hp := v_range (h p (List.mem_cons_self ..))
    have := ih (fun q hq => h q (List.mem_cons_of_mem _ hq))
    show 0 ≤ p.v + total l ∧ p.v + total l ≤ _
    rw [List.length_cons]
    push_cast
    omega
section
variable (l0 l1 l2 : List Int)
def pc (i : Nat) : Pc := ⟨bl (rd l2 i % 3), dec 5 (rd l0 i).toNat, bl (rd l2 i / 3 % 3), nmL (rd l1 i % 8), bl (rd l2 i / 9 % 3), scA (rd l1 i % 8)⟩
def ps (n : Nat) : List Pc := (List.range n).map (pc l0 l1 l2)
theorem ps_succ (n : Nat) : ps l0 l1 l2 (n + 1) = ps l0 l1 l2 n ++ [pc l0 l1 l2 n] := by
  unfold ps
  rw [List.range_succ, List.map_append]; rfl
variable (h0 : ∀ x ∈ l0, 0 ≤ x ∧ x ≤ 65535) (h1 : ∀ x ∈ l1, 0 ≤ x ∧ x ≤ 255) (h2 : ∀ x ∈ l2, 0 ≤ x ∧ x ≤ 255)
include h0 h1 h2
theorem pc_ok (i : Nat) : (pc l0 l1 l2 i).Ok ∧ (pc l0 l1 l2 i).v = rd l0 i * scA (rd l1 i % 8) := by
  obtain ⟨a0, a1⟩ := rd_range (by decide) h0 (i : Int)
  obtain ⟨u0, u1⟩ := rd_range (by decide) h1 (i : Int)
  obtain ⟨d1, d2, d3, d4⟩ := dec_ok 5 (rd l0 i).toNat (by omega) (by decide)
  refine ⟨⟨bl_blank _, bl_blank _, bl_blank _, d1, d2, d3, ?_, nm_mem (by omega) (by omega)⟩, ?_⟩
  · show numOf 0 (dec 5 (rd l0 i).toNat) ≤ 65535
    rw [d4]; omega
  · show ((numOf 0 (dec 5 (rd l0 i).toNat) : Nat) : Int) * _ = _
    rw [d4, Int.toNat_of_nonneg a0]
    rfl
theorem ps_ok (n : Nat) : ∀ p ∈ ps l0 l1 l2 n, p.Ok := by
  intro p hp
  unfold ps at hp
  obtain ⟨i, _, rfl⟩ := List.mem_map.1 hp
  exact (pc_ok l0 l1 l2 h0 h1 h2 i).1
theorem loop_ok (hn1 : 1 ≤ l0.length) (hn : l0.length ≤ 12) (hl1 : l0.length ≤ l1.length) (hl2 : l0.length ≤ l2.length) : ∀ (m i : Nat), i + m = l0.length →
    EvS (fun k => reveillelaw1_SpanParts.l0 k l0 l1 l2 (ba (txt (ps l0 l1 l2 i))) (total (ps l0 l1 l2 i)) (i : Int)) true := by
  intro m
  induction m with
  | zero =>
    intro i hi
    have hok := ps_ok l0 l1 l2 h0 h1 h2 i
    have hlen : (ps l0 l1 l2 i).length = i := by unfold ps; simp
    have htl := txt_len _ hok
    rw [hlen] at htl
    have hp := prog_reads (txt (ps l0 l1 l2 i)) (by omega)
    cases hps : ps l0 l1 l2 i with
    | nil => rw [hps] at hlen; simp at hlen; omega
    | cons p l =>
      rw [hps] at hp hok hlen
      rw [reads_txt l p hok (by rw [List.length_cons] at hlen; omega)] at hp
      obtain ⟨K, hp⟩ := hp
      refine ⟨K + 1, fun k hk => ?_⟩
      obtain ⟨j, rfl⟩ : ∃ j, k = j + 1 := ⟨k - 1, by omega⟩
      simp only []
      rw [reveillelaw1_SpanParts.l0, if_neg (by omega), show span_Parse.f j (ba (txt (p :: l))) = _ from hp j (by omega), Option.bind_some]
      simp
  | succ m ih =>
    intro i hi
    have ih := ih (i + 1) (by omega)
    have hok := ps_ok l0 l1 l2 h0 h1 h2 i
    have hlen : (ps l0 l1 l2 i).length = i := by unfold ps; simp
    have htl := txt_len _ hok
    rw [hlen] at htl
    have htr := total_range _ hok
    rw [hlen] at htr
    obtain ⟨hpk, hpv⟩ := pc_ok l0 l1 l2 h0 h1 h2 i
    have hvr := v_range hpk
    rw [hpv] at hvr
    obtain ⟨a0, a1⟩ := rd_range (by decide) h0 (i : Int)
    obtain ⟨u0, u1⟩ := rd_range (by decide) h1 (i : Int)
    obtain ⟨g0, g1⟩ := rd_range (by decide) h2 (i : Int)
    obtain ⟨K1, hd⟩ := digits_ev 5 (rd l0 i).toNat (by omega) (by decide) (by decide)
    have b1 := blank_len hpk.b1
    have b2 := blank_len hpk.b2
    have b3 := blank_len hpk.b3
    have b4 := hpk.len
    have b5 := (sc_range hpk).2.2
    rw [ps_succ, txt_snoc, total_snoc, hpv] at ih
    have hN : ((rd l0 (i : Int)).toNat : Int) = rd l0 i := Int.toNat_of_nonneg a0
    obtain ⟨T, hT⟩ : ∃ T, txt (ps l0 l1 l2 i) = T := ⟨_, rfl⟩
    obtain ⟨S, hS⟩ : ∃ S, total (ps l0 l1 l2 i) = S := ⟨_, rfl⟩
    rw [hT] at ih htl
    rw [hS] at ih htr
    rw [hT, hS]
    simp only [pc] at b1 b2 b3 b4 b5 ih
    simp only [Pc.tail, List.append_nil] at ih
    rw [hN] at hd
    obtain ⟨N, eN⟩ : ∃ N, rd l0 (i : Int) = N := ⟨_, rfl⟩
    obtain ⟨U, eU⟩ : ∃ U, rd l1 (i : Int) = U := ⟨_, rfl⟩
    obtain ⟨G, eG⟩ : ∃ G, rd l2 (i : Int) = G := ⟨_, rfl⟩
    rw [eN] at a0 a1 hd b4 ih hvr
    rw [eU] at u0 u1 b5 ih hvr
    rw [eG] at g0 g1 b1 b2 b3 ih
    have w1 : wrap64 G = G := by unfold wrap64; omega
    have w3 : wrap64 (G / 3) = G / 3 := by unfold wrap64; omega
    have w9 : wrap64 (G / 9) = G / 9 := by unfold wrap64; omega
    have w8 : wrap64 (U % 8) = U % 8 := by unfold wrap64; omega
    have wN : wrap64 N = N := by unfold wrap64; omega
    have wv : wrap64 (N * scA (U % 8)) = N * scA (U % 8) := by unfold wrap64; omega
    have ws : wrap64 (S + N * scA (U % 8)) = S + N * scA (U % 8) := by unfold wrap64; omega
    have wi : wrap64 ((i : Int) + 1) = ((i + 1 : Nat) : Int) := by unfold wrap64; omega
    have e1 : Int.tmod G 3 = G % 3 := Int.tmod_eq_emod_of_nonneg g0
    have t3 : Int.tdiv G 3 = G / 3 := Int.tdiv_eq_ediv_of_nonneg g0
    have t9 : Int.tdiv G 9 = G / 9 := Int.tdiv_eq_ediv_of_nonneg g0
    have e3 : Int.tmod (G / 3) 3 = G / 3 % 3 := Int.tmod_eq_emod_of_nonneg (by clear e1 t3 t9; omega)
    have e9 : Int.tmod (G / 9) 3 = G / 9 % 3 := Int.tmod_eq_emod_of_nonneg (by clear e1 t3 t9 e3; omega)
    have e8 : Int.tmod U 8 = U % 8 := Int.tmod_eq_emod_of_nonneg u0
    obtain ⟨K2, ih⟩ := ih
    refine ⟨K1 + K2 + 1, fun k hk => ?_⟩
    obtain ⟨j, rfl⟩ : ∃ j, k = j + 1 := ⟨k - 1, by omega⟩
    have hd := hd j (by omega)
    have ih := ih j (by omega)
    simp only [] at hd ih ⊢
    rw [reveillelaw1_SpanParts.l0]
    simp only [eN, eU, eG, w1, e1, t3, t9, w3, w9, e3, e9, e8, w8, wN, wv, ws, wi, bk_ba, nm_ba, ba_append, ba_size, List.length_append]
    clear e1 t3 t9 w3 w9 e3 e9 e8 w8 w1 wN wv ws wi eN eU eG
    rw [if_pos (by omega), if_pos (by omega), if_pos (by omega), if_pos (by omega), if_pos (by omega), if_pos (by omega), if_pos (by omega), hd, Option.bind_some]
    simp only [ba_append, ba_size, List.length_append]
    rw [if_pos (by omega), if_pos (by omega), if_pos (by omega), if_pos (by omega), if_pos (by omega), if_pos (by omega), if_pos (by omega), if_pos (by omega), if_pos (by omega), if_pos (by omega)]
    rw [← ih]
    simp only [List.append_assoc]
theorem pure_law : ∃ k, reveillelaw1_SpanParts.f k l0 l1 l2 = some true := by
  have hj : ∀ k, reveillelaw1_SpanParts.j0 (k + 1) l0 l1 l2 true = some true := fun k => by rw [reveillelaw1_SpanParts.j0, if_pos rfl]
  by_cases c1 : l0.length < 1
  · refine ⟨1, ?_⟩
    rw [reveillelaw1_SpanParts.f, reveillelaw1_known.f, Option.bind_some, if_pos rfl, if_pos (by omega), hj]
  · by_cases c2 : l0.length > 12
    · refine ⟨1, ?_⟩
      rw [reveillelaw1_SpanParts.f, reveillelaw1_known.f, Option.bind_some, if_pos rfl, if_neg (by omega), if_pos (by omega), hj]
    · by_cases c3 : l1.length < l0.length
      · refine ⟨1, ?_⟩
        rw [reveillelaw1_SpanParts.f, reveillelaw1_known.f, Option.bind_some, if_pos rfl, if_neg (by omega), if_neg (by omega), if_pos (by omega), hj]
      · by_cases c4 : l2.length < l0.length
        · refine ⟨1, ?_⟩
          rw [reveillelaw1_SpanParts.f, reveillelaw1_known.f, Option.bind_some, if_pos rfl, if_neg (by omega), if_neg (by omega), if_neg (by omega), decide_eq_true (by omega), hj]
        · obtain ⟨K, h⟩ := loop_ok l0 l1 l2 h0 h1 h2 (by omega) (by omega) (by omega) (by omega) l0.length 0 (by omega)
          refine ⟨K + 1, ?_⟩
          rw [reveillelaw1_SpanParts.f, reveillelaw1_known.f, Option.bind_some, if_pos rfl, if_neg (by omega), if_neg (by omega), if_neg (by omega), decide_eq_false (by omega), reveillelaw1_SpanParts.j0, if_neg (by decide)]
          exact h K (Nat.le_refl _)
end
theorem wf_int {k : IntKind} {l : List Int} (h : ∀ x ∈ l, (Lit.int k x).wf = true) : ∀ x ∈ l, k.min ≤ x ∧ x ≤ k.max := by
  intro x hx
  have := h x hx
  simpa [Lit.wf] using this
theorem law_calls (a0 : Option Addr) (len0 cap0 : Nat) (z0 : List Int) (a1 : Option Addr) (len1 cap1 : Nat) (z1 : List Int) (a2 : Option Addr) (len2 cap2 : Nat) (z2 : List Int) (w : World) (w0 : (a0 = none ∧ len0 = 0 ∧ cap0 = 0 ∧ z0 = []) ∨ ∃ x, a0 = some x ∧ len0 ≤ cap0 ∧ cap0 ≤ maxLen ∧ z0.length = cap0 ∧ (∀ i, i < z0.length → w.cell? (x.add i) = some (.int .u16 (z0.getD i 0))) ∧ ∀ n ∈ z0, (Lit.int .u16 n).wf = true) (w1 : (a1 = none ∧ len1 = 0 ∧ cap1 = 0 ∧ z1 = []) ∨ ∃ x, a1 = some x ∧ len1 ≤ cap1 ∧ cap1 ≤ maxLen ∧ z1.length = cap1 ∧ (∀ i, i < z1.length → w.cell? (x.add i) = some (.int .u8 (z1.getD i 0))) ∧ ∀ n ∈ z1, (Lit.int .u8 n).wf = true) (w2 : (a2 = none ∧ len2 = 0 ∧ cap2 = 0 ∧ z2 = []) ∨ ∃ x, a2 = some x ∧ len2 ≤ cap2 ∧ cap2 ≤ maxLen ∧ z2.length = cap2 ∧ (∀ i, i < z2.length → w.cell? (x.add i) = some (.int .u8 (z2.getD i 0))) ∧ ∀ n ∈ z2, (Lit.int .u8 n).wf = true) (hs : w.ShapedOpen Tryd.prog) :
    Calls Tryd.prog 5 #[.slice a0 len0 cap0, .slice a1 len1 cap1, .slice a2 len2 cap2] w fun e w' => e = .returned (.bool true) ∧ Below w.heap.size w w' := by
  obtain ⟨l0, rfl, hr0, hm0, hw0, hc0⟩ := ReadsInt.ofRowC w0
  obtain ⟨l1, rfl, hr1, hm1, hw1, hc1⟩ := ReadsInt.ofRowC w1
  obtain ⟨l2, rfl, hr2, hm2, hw2, hc2⟩ := ReadsInt.ofRowC w2
  obtain ⟨k, h⟩ := pure_law l0 l1 l2 (wf_int hw0) (wf_int hw1) (wf_int hw2)
  exact reveillelaw1_SpanParts.calls k _ _ l0 _ _ l1 _ _ l2 true w (Kd.C_of_reads (d := (0 : Int)) (h1 := fun _ => rfl) hr0) hc0 (Kd.C_of_reads (d := (0 : Int)) (h1 := fun _ => rfl) hr1) hc1 (Kd.C_of_reads (d := (0 : Int)) (h1 := fun _ => rfl) hr2) hc2 h ⟨w, hs, Below.refl _ _⟩
end Go.Proofs.YtfpfdeechhaheaaDoor.Reads
