/- The plain law: plain words are told in order. -/
import Derived.Test.YtaihipdebmcmhaaDoorWordsB
namespace Go.Proofs.YtaihipdebmcmhaaDoor.Splits
open Go.RowKit Go.Proofs.YtaihipdebmcmhaaDoorW.PrintWords Go.Proofs.YtaihipdebmcmhaaDoorW.PrintLast
set_option linter.unusedVariables false
set_option linter.unusedSectionVars false
set_option linter.unusedSimpArgs false
theorem texts_same (l : List ByteArray) (hl : l.length ≤ 100000) : ∃ k, reveillehelp_Texts.f k l l = some true := by
  have key : ∀ m i : Nat, i + m = l.length → ∃ k, reveillehelp_Texts.l0 k l l (i : Int) = some true := by
    intro m
    induction m with
    | zero =>
      intro i hi
      refine ⟨1, ?_⟩
      rw [reveillehelp_Texts.l0, if_neg (by omega)]
    | succ m ih =>
      intro i hi
      obtain ⟨k, h⟩ := ih (i + 1) (by omega)
      refine ⟨k + 1, ?_⟩
      rw [reveillehelp_Texts.l0, if_pos (by omega), if_pos (by omega), if_pos (by omega), if_pos rfl, wrap_ok (by omega) (by omega)]
      exact h
  obtain ⟨k, h⟩ := key l.length 0 (by omega)
  exact ⟨k, by unfold reveillehelp_Texts.f; rw [if_pos rfl]; exact h⟩
theorem rd_drop (l : List ByteArray) (i : Nat) (b : ByteArray) (t : List ByteArray) (h : l.drop i = b :: t) : rdOf ByteArray.empty l (i : Int) = b := by
  unfold rdOf
  have h1 : l[i]? = some b := by
    have := congrArg (fun x => x[0]?) h
    simpa using this
  rw [List.getD_eq_getElem?_getD, show (i : Int).toNat = i from rfl, h1]; rfl
theorem short_f (l : List ByteArray) (n m : Int) (hl : l.length ≤ 9223372036854775807) : ∃ k b, reveillehelp_Short.f k l n m = some b ∧ (b = true → (l.length : Int) ≤ n ∧ ∀ x, x ∈ l → (x.size : Int) ≤ m) := by
  have key : ∀ (t : List ByteArray) (i : Nat), l.drop i = t → i + t.length = l.length → ∃ k b, reveillehelp_Short.l0 k l n m (i : Int) = some b ∧ (b = true → (l.length : Int) ≤ n ∧ ∀ x, x ∈ t → (x.size : Int) ≤ m) := by
    intro t
    induction t with
    | nil =>
      intro i hd hi
      simp at hi
      refine ⟨1, decide ((l.length : Int) ≤ n), ?_, fun h => ⟨of_decide_eq_true h, fun x hx => nomatch hx⟩⟩
      rw [reveillehelp_Short.l0, if_neg (by omega)]
    | cons b t ih =>
      intro i hd hi
      simp only [List.length_cons] at hi
      have hr := rd_drop l i b t hd
      have hd2 : l.drop (i + 1) = t := by
        have := congrArg List.tail hd
        simpa using this
      obtain ⟨k, v, h1, h2⟩ := ih (i + 1) hd2 (by omega)
      by_cases hb : (b.size : Int) > m
      · refine ⟨1, false, ?_, fun h => nomatch h⟩
        rw [reveillehelp_Short.l0, if_pos (by omega), if_pos (by omega), hr, if_pos hb]
      · refine ⟨k + 1, v, ?_, fun h => ⟨(h2 h).1, fun x hx => ?_⟩⟩
        · rw [reveillehelp_Short.l0, if_pos (by omega), if_pos (by omega), hr, if_neg hb, wrap_ok (by omega) (by omega)]
          exact h1
        · rcases List.mem_cons.1 hx with rfl | hx
          · omega
          · exact (h2 h).2 x hx
  obtain ⟨k, b, h1, h2⟩ := key l 0 rfl (by omega)
  exact ⟨k, b, h1, h2⟩
theorem size_list (b : ByteArray) : b.data.toList.length = b.size := by rw [Array.length_toList]; rfl

def good (b : ByteArray) : Prop := ∃ c w, b.data.toList = c :: w ∧ c ≠ 34 ∧ c ≠ 39 ∧ ∀ x, x ∈ b.data.toList → blank x = false
def gap (g : List UInt8) : Prop := g ≠ [] ∧ ∀ x, x ∈ g → blank x = true
theorem drop_blanks {p : UInt8 → Bool} : ∀ (g r : List UInt8), (∀ x, x ∈ g → p x = true) → (g ++ r).dropWhile p = r.dropWhile p := by
  intro g
  induction g with
  | nil => intro r _; rfl
  | cons c g ih =>
    intro r h
    rw [List.cons_append, List.dropWhile_cons_of_pos (h c (by simp))]
    exact ih r (fun x hx => h x (List.mem_cons_of_mem _ hx))
theorem take_words {p : UInt8 → Bool} : ∀ (g r : List UInt8), (∀ x, x ∈ g → p x = true) → (g ++ r).takeWhile p = g ++ r.takeWhile p := by
  intro g
  induction g with
  | nil => intro r _; rfl
  | cons c g ih =>
    intro r h
    rw [List.cons_append, List.takeWhile_cons_of_pos (h c (by simp)), ih r (fun x hx => h x (List.mem_cons_of_mem _ hx))]
    rfl
def txt (ps : List (ByteArray × List UInt8)) : List UInt8 := ps.flatMap fun x => x.1.data.toList ++ x.2
theorem spl_words : ∀ (ps : List (ByteArray × List UInt8)) (g0 : List UInt8) (n : Nat) (acc : List ByteArray), (∀ x, x ∈ g0 → blank x = true) → (∀ x, x ∈ ps → good x.1 ∧ gap x.2) → ps.length < n → spl n (g0 ++ txt ps) acc = (acc ++ ps.map (·.1), 0) := by
  intro ps
  induction ps with
  | nil =>
    intro g0 n acc h0 _ hn
    cases n with
    | zero => simp at hn
    | succ n =>
      have e : (g0 ++ txt []).dropWhile blank = [] := by
        rw [drop_blanks g0 _ h0]; rfl
      rw [spl, e]
      simp
  | cons x ps ih =>
    intro g0 n acc h0 hx hn
    cases n with
    | zero => simp at hn
    | succ n =>
      obtain ⟨⟨c, w, hw, n34, n39, hnb⟩, hg, hgb⟩ := hx x (by simp)
      have et : txt (x :: ps) = x.1.data.toList ++ (x.2 ++ txt ps) := by unfold txt; rw [List.flatMap_cons, List.append_assoc]
      have hcb : blank c = false := hnb c (by rw [hw]; simp)
      have e1 : (g0 ++ txt (x :: ps)).dropWhile blank = c :: (w ++ (x.2 ++ txt ps)) := by
        rw [drop_blanks g0 _ h0, et, hw, List.cons_append, List.dropWhile_cons_of_neg (by rw [hcb]; decide)]
      have e2 : (c :: (w ++ (x.2 ++ txt ps))) = x.1.data.toList ++ (x.2 ++ txt ps) := by rw [hw]; rfl
      obtain ⟨d, g', hd⟩ : ∃ d g', x.2 = d :: g' := by
        cases hx2 : x.2 with
        | nil => exact absurd hx2 hg
        | cons d g' => exact ⟨d, g', rfl⟩
      have hdb : blank d = true := hgb d (by rw [hd]; simp)
      have hnb' : ∀ y, y ∈ x.1.data.toList → (!blank y) = true := fun y hy => by rw [hnb y hy]; rfl
      have e3 : (x.2 ++ txt ps).takeWhile (fun y => !blank y) = [] := by
        rw [hd, List.cons_append, List.takeWhile_cons_of_neg (p := fun y => !blank y) (by rw [hdb]; decide)]
      have e4 : (x.2 ++ txt ps).dropWhile (fun y => !blank y) = x.2 ++ txt ps := by
        rw [hd, List.cons_append, List.dropWhile_cons_of_neg (p := fun y => !blank y) (by rw [hdb]; decide)]
      rw [spl, e1]
      simp only
      rw [if_neg (by rintro (h | h); exact n34 h; exact n39 h), e2, drop_blanks (p := fun y => !blank y) _ _ hnb', take_words (p := fun y => !blank y) _ _ hnb', e3, e4, List.append_nil, ba_of,
        ih x.2 n (acc ++ [x.1]) hgb (fun y hy => hx y (List.mem_cons_of_mem _ hy)) (by simp at hn; omega)]
      simp
theorem blk_gap (z : Int) : gap (blk z).data.toList ∧ (blk z).size ≤ 4 := by
  unfold blk
  split
  · exact ⟨⟨by decide, by decide⟩, by decide⟩
  · split
    · exact ⟨⟨by decide, by decide⟩, by decide⟩
    · split
      · exact ⟨⟨by decide, by decide⟩, by decide⟩
      · exact ⟨⟨by decide, by decide⟩, by decide⟩
theorem ba_app (b c : ByteArray) : b ++ c = ba (b.data.toList ++ c.data.toList) := by
  unfold ba; apply ByteArray.ext; apply Array.ext'; simp
section
variable {l : List ByteArray} {l1 : List Int}
/-- the bytes of a word are gone through -/
theorem words_l1 {b : ByteArray} {x6 : ByteArray} {i : Nat} (hi : i < l.length) (hb : rdOf ByteArray.empty l (i : Int) = b) (hsz : b.size ≤ 40)
    (hend : (∀ x, x ∈ b.data.toList → blank x = false) → ∃ k, reveillelaw5_LineWords.l1 k l l1 x6 (i : Int) (b.size : Int) = some true) :
    ∀ t : List UInt8, t <:+ b.data.toList → (∀ p, p ++ t = b.data.toList → ∀ x, x ∈ p → blank x = false) → ∃ k, reveillelaw5_LineWords.l1 k l l1 x6 (i : Int) (pos b.data.toList t) = some true := by
  intro t
  induction t with
  | nil =>
    intro hs hp
    rw [pos_nil rfl]
    exact hend (fun x hx => hp b.data.toList (by simp) x hx)
  | cons c t ih =>
    intro hs hp
    have g1 := pos_lt rfl hs
    have g2 := pos_ge rfl hs
    have g3 := bt_pos rfl hs
    have g4 := pos_next rfl (by rw [size_list]; omega) hs
    by_cases h32 : (c.toNat : Int) = 32
    · refine ⟨1, ?_⟩
      rw [reveillelaw5_LineWords.l1, if_pos (by omega), if_pos (by omega), hb, if_pos g1, if_pos g2, g3, if_pos h32]
    · by_cases h9 : (c.toNat : Int) = 9
      · refine ⟨1, ?_⟩
        rw [reveillelaw5_LineWords.l1, if_pos (by omega), if_pos (by omega), hb, if_pos g1, if_pos g2, g3, if_neg h32, if_pos h9]
      · have hcb : blank c = false := by
          rw [u32] at h32; rw [u9] at h9
          rw [blank_eq]; simp [h32, h9]
        obtain ⟨k, h⟩ := ih ((List.suffix_cons c t).trans hs) (fun p hpt x hx => by
          obtain ⟨q, hq⟩ := hs
          have e : p = q ++ [c] := by
            have : p ++ t = (q ++ [c]) ++ t := by rw [hpt, ← hq]; simp
            exact List.append_cancel_right this
          subst e
          rcases List.mem_append.1 hx with hx | hx
          · exact hp q hq x hx
          · rw [List.mem_singleton.1 hx]; exact hcb)
        refine ⟨k + 1, ?_⟩
        rw [reveillelaw5_LineWords.l1, if_pos (by omega), if_pos (by omega), hb, if_pos g1, if_pos g2, g3, if_neg h32, if_neg h9, g4]
        exact h
theorem words_l0 (hl : l.length ≤ 20) (hsz : ∀ x, x ∈ l → x.size ≤ 40) (hg : l.length + 1 ≤ l1.length) (g0 : List UInt8) (hg0 : ∀ x, x ∈ g0 → blank x = true) (hg04 : g0.length ≤ 4) :
    ∀ (t : List ByteArray) (ps : List (ByteArray × List UInt8)), ps.map (·.1) ++ t = l → (∀ x, x ∈ ps → good x.1 ∧ gap x.2) → (txt ps).length ≤ 44 * ps.length →
      ∃ k, reveillelaw5_LineWords.l0 k l l1 (ba (g0 ++ txt ps)) (ps.length : Int) = some true := by
  intro t
  induction t with
  | nil =>
    intro ps hp hgood hlen
    rw [List.append_nil] at hp
    have hpl : ps.length = l.length := by rw [← hp, List.length_map]
    obtain ⟨k2, h2⟩ := line_l0 ((g0 ++ txt ps).length + 100) (g0 ++ txt ps) [] (by omega) (by simp; omega)
    rw [spl_words ps g0 _ [] hg0 hgood (by omega), hp, List.nil_append] at h2
    obtain ⟨k3, h3⟩ := texts_same l (by omega)
    refine ⟨k2 + k3 + 1, ?_⟩
    have f2 := leO_le (f := fun k => line_Split.l0 k (ba (g0 ++ txt ps)) []) (fun k => (line_Split.mono_l k).1 _ _) (show k2 ≤ k2 + k3 by omega) _ h2
    have f3 := leO_le (f := fun k => reveillehelp_Texts.f k l l) (fun k => reveillehelp_Texts.mono _ _ k) (show k3 ≤ k2 + k3 by omega) _ h3
    have f2' : line_Split.f (k2 + k3) (ba (g0 ++ txt ps)) = some (l, 0) := f2
    have f3' : reveillehelp_Texts.f (k2 + k3) l l = some true := f3
    rw [reveillelaw5_LineWords.l0, if_neg (by omega), f2', Option.bind_some, if_pos rfl, f3', Option.bind_some]
  | cons b t ih =>
    intro ps hp hgood hlen
    have hll : l.length = ps.length + (t.length + 1) := by rw [← hp]; simp
    have hbm : b ∈ l := by rw [← hp]; simp
    have hb40 := hsz b hbm
    have hrd : rdOf ByteArray.empty l (ps.length : Int) = b := rd_drop l ps.length b t (by rw [← hp]; simp)
    obtain ⟨z, hz⟩ : ∃ z, (rd l1 ((ps.length + 1 : Nat) : Int)).tmod 4 = z := ⟨_, rfl⟩
    obtain ⟨hgp, hg4⟩ := blk_gap z
    have HZ := Aside0.mk hz
    clear hz
    have h00 : (0 : Int) ≤ (ps.length : Int) := Int.natCast_nonneg _
    have h01 : (ps.length : Int) < (l.length : Int) := by omega
    have key := words_l1 (l := l) (l1 := l1) (x6 := ba (g0 ++ txt ps)) (i := ps.length) (by omega) hrd hb40 (fun hnb => by
      have hw : wrap64 ((ps.length : Int) + 1) = ((ps.length + 1 : Nat) : Int) := by rw [wrap_ok (by omega) (by omega)]; omega
      by_cases he : b.toList = ([] : List UInt8)
      · refine ⟨1, ?_⟩
        rw [reveillelaw5_LineWords.l1, if_pos h00, if_pos h01, hrd, if_neg (Int.lt_irrefl _), if_pos he]
      · obtain ⟨c, w, hbl⟩ : ∃ c w, b.data.toList = c :: w := by
          cases hx : b.data.toList with
          | nil => exact absurd (by rw [Lib.toList_data]; exact hx) he
          | cons c w => exact ⟨c, w, rfl⟩
        have hs : (c :: w) <:+ b.data.toList := by rw [hbl]; exact List.suffix_refl _
        have hsz0 : 0 < (b.size : Int) := by have := size_list b; rw [hbl] at this; simp at this; omega
        have g3 : bt b 0 = (c.toNat : Int) := by
          have := bt_pos (a0 := b) rfl hs
          rwa [show pos b.data.toList (c :: w) = 0 by unfold pos; rw [hbl]; omega] at this
        have hne := he
        by_cases h34 : (c.toNat : Int) = 34
        · refine ⟨1, ?_⟩
          rw [reveillelaw5_LineWords.l1, if_pos h00, if_pos h01, hrd, if_neg (Int.lt_irrefl _), if_neg hne, if_pos hsz0, g3, if_pos h34]
        · by_cases h39 : (c.toNat : Int) = 39
          · refine ⟨1, ?_⟩
            rw [reveillelaw5_LineWords.l1, if_pos h00, if_pos h01, hrd, if_neg (Int.lt_irrefl _), if_neg hne, if_pos hsz0, g3, if_neg h34, if_pos h39]
          · have hgd : good b := ⟨c, w, hbl, by rw [u34] at h34; exact h34, by rw [u39] at h39; exact h39, hnb⟩
            have etx : txt (ps ++ [(b, (blk z).data.toList)]) = txt ps ++ (b.data.toList ++ (blk z).data.toList) := by unfold txt; rw [List.flatMap_append]; simp
            obtain ⟨k, h⟩ := ih (ps ++ [(b, (blk z).data.toList)]) (by rw [← hp]; simp) (fun x hx => by
              rcases List.mem_append.1 hx with hx | hx
              · exact hgood x hx
              · rw [List.mem_singleton.1 hx]; exact ⟨hgd, hgp⟩) (by
                rw [etx, List.length_append, List.length_append, List.length_append, List.length_singleton, size_list, size_list]
                omega)
            have ecat : (ba (g0 ++ txt ps) ++ b) ++ blk z = ba (g0 ++ txt (ps ++ [(b, (blk z).data.toList)])) := by
              rw [ba_app, ba_app, ba_list, ba_list, etx]; simp
            refine ⟨k + 1, ?_⟩
            rw [reveillelaw5_LineWords.l1, if_pos h00, if_pos h01, hrd, if_neg (Int.lt_irrefl _), if_neg hne, if_pos hsz0, g3, if_neg h34, if_neg h39,
              if_pos (by rw [ba_size, List.length_append]; omega), hw, if_pos (by omega), if_pos (by omega), HZ.out]
            unfold blk_.f
            rw [Option.bind_some, if_pos (by rw [ByteArray.size_append, ba_size, List.length_append]; omega), ecat]
            rw [List.length_append, List.length_singleton] at h
            exact h)
    obtain ⟨k, h⟩ := key b.data.toList (List.suffix_refl _) (fun p hp x hx => by
      have : p = [] := by
        have := congrArg List.length hp
        rw [List.length_append] at this
        exact List.length_eq_zero_iff.1 (by omega)
      subst this
      exact nomatch hx)
    have hpos : pos b.data.toList b.data.toList = 0 := by unfold pos; omega
    rw [hpos] at h
    refine ⟨k + 1, ?_⟩
    rw [reveillelaw5_LineWords.l0, if_pos (by omega)]
    exact h
end
theorem words_law (l : List ByteArray) (l1 : List Int) (hl : l.length ≤ 9223372036854775807) (hl1 : l1.length ≤ 9223372036854775807) : ∃ k, reveillelaw5_LineWords.f k l l1 = some true := by
  obtain ⟨k1, b, h1, hb⟩ := short_f l 20 40 hl
  cases b with
  | false =>
    refine ⟨k1 + 1, ?_⟩
    have f1 := leO_le (f := fun k => reveillehelp_Short.f k l 20 40) (fun k => reveillehelp_Short.mono _ _ _ k) (show k1 ≤ k1 + 1 by omega) _ h1
    have f1' : reveillehelp_Short.f (k1 + 1) l 20 40 = some false := f1
    unfold reveillelaw5_LineWords.f reveillelaw5_known.f
    rw [Option.bind_some, if_pos rfl, f1', Option.bind_some, if_neg (by decide), reveillelaw5_LineWords.j0, if_pos rfl]
  | true =>
    obtain ⟨hlen, hsz⟩ := hb rfl
    have hw : wrap64 ((l.length : Int) + 1) = (l.length : Int) + 1 := wrap_ok (by omega) (by omega)
    by_cases hg : (l1.length : Int) < (l.length : Int) + 1
    · refine ⟨k1 + 1, ?_⟩
      have f1 := leO_le (f := fun k => reveillehelp_Short.f k l 20 40) (fun k => reveillehelp_Short.mono _ _ _ k) (show k1 ≤ k1 + 1 by omega) _ h1
      have f1' : reveillehelp_Short.f (k1 + 1) l 20 40 = some true := f1
      unfold reveillelaw5_LineWords.f reveillelaw5_known.f
      rw [Option.bind_some, if_pos rfl, f1', Option.bind_some, if_pos rfl, hw, decide_eq_true hg, reveillelaw5_LineWords.j0, if_pos rfl]
    · obtain ⟨z, hz⟩ : ∃ z, (rd l1 0).tmod 4 = z := ⟨_, rfl⟩
      obtain ⟨⟨_, hgb⟩, hg4⟩ := blk_gap z
      obtain ⟨k2, h2⟩ := words_l0 (l := l) (l1 := l1) (by omega) (fun x hx => by have := hsz x hx; omega) (by omega) (blk z).data.toList hgb (by rw [size_list]; exact hg4) l [] rfl (fun x hx => nomatch hx) (by simp [txt])
      have e0 : ba ((blk z).data.toList ++ txt []) = blk z := by unfold txt; rw [List.flatMap_nil, List.append_nil, ba_of]
      rw [e0] at h2
      refine ⟨k1 + k2 + 1, ?_⟩
      have f1 := leO_le (f := fun k => reveillehelp_Short.f k l 20 40) (fun k => reveillehelp_Short.mono _ _ _ k) (show k1 ≤ k1 + k2 + 1 by omega) _ h1
      have f1' : reveillehelp_Short.f (k1 + k2 + 1) l 20 40 = some true := f1
      have f2 := leO_le (f := fun k => reveillelaw5_LineWords.l0 k l l1 (blk z) 0) (fun k => (reveillelaw5_LineWords.mono_l k).2.1 _ _ _ _) (show k2 ≤ k1 + k2 by omega) _ h2
      have f2' : reveillelaw5_LineWords.l0 (k1 + k2) l l1 (blk z) 0 = some true := f2
      unfold reveillelaw5_LineWords.f reveillelaw5_known.f
      rw [Option.bind_some, if_pos rfl, f1', Option.bind_some, if_pos rfl, hw, decide_eq_false hg, reveillelaw5_LineWords.j0, if_neg (by decide), if_pos (by omega), hz]
      unfold blk_.f
      rw [Option.bind_some]
      exact f2'
theorem words_calls (A0 : Option Addr) (c0 : Nat) (l0 : List ByteArray) (A1 : Option Addr) (c1 : Nat) (l1 : List Int) (w : World) (hr0 : Kd.C Kd.string w A0 l0.length l0) (hc0 : l0.length ≤ c0) (hr1 : Kd.C (Kd.int .u8) w A1 l1.length l1) (hc1 : l1.length ≤ c1) (hrg : ∀ x, x ∈ l1 → 0 ≤ x ∧ x < 256) (hs : w.ShapedOpen Tryd.prog) :
    Calls Tryd.prog 5 #[.slice A0 l0.length c0, .slice A1 l1.length c1] w fun e w' => e = .returned (.bool true) ∧ Below w.heap.size w w' := by
  obtain ⟨k, h⟩ := words_law l0 l1 hr0.2.1 hr1.2.1
  exact reveillelaw5_LineWords.calls k A0 c0 l0 A1 c1 l1 true w hr0 hc0 hr1 hc1 h hrg ⟨w, hs, Below.refl _ _⟩
end Go.Proofs.YtaihipdebmcmhaaDoor.Splits
