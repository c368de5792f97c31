/- The reference's lines, row by row. -/
import Derived.Test.YtbigbjfppaenfaaDoorRefQ
namespace Go.Proofs.YtbigbjfppaenfaaDoor.Lines
open Go.RowKit Go.Proofs.YtbigbjfppaenfaaDoorW.PrintWords Go.Proofs.YtbigbjfppaenfaaDoorW.PrintLast
set_option linter.unusedVariables false
set_option linter.unusedSectionVars false
set_option linter.unusedSimpArgs false
abbrev RL := List S60 × Int × Int
theorem rd_row (rows : List (List UInt8)) (i : Nat) (r : List UInt8) (h : rows[i]? = some r) : rdOf ByteArray.empty (rows.map ba) (i : Int) = ba r := by
  unfold rdOf
  rw [Int.toNat_natCast, List.getD_eq_getElem?_getD, List.getElem?_map, h]
  rfl
theorem suf_at {rows : List (List UInt8)} {r : List UInt8} {rest : List (List UInt8)} {i : Nat} (hs : (r :: rest) <:+ rows) (hi : i + (r :: rest).length = rows.length) : rows[i]? = some r := by
  obtain ⟨p, hp⟩ := hs
  have : p.length = i := by have := congrArg List.length hp; simp at this hi; omega
  rw [← hp, List.getElem?_append_right (by omega), this, Nat.sub_self]
  rfl
theorem goL_len : ∀ (rest : List (List UInt8)) (all : List UInt8), (goL all rest).1.length ≤ all.length + tot rest := by
  intro rest
  induction rest with
  | nil =>
    intro all
    unfold goL
    split
    · rename_i h
      have hp : 0 < all.length := by
        cases all with
        | nil => exact absurd h (by decide)
        | cons _ _ => exact Nat.succ_pos _
      simp; omega
    · simp
  | cons r rest ih =>
    intro all
    unfold goL
    rw [tot_cons]
    split
    · rename_i h
      have hp : 0 < all.length := by
        cases all with
        | nil => exact absurd h (by decide)
        | cons _ _ => exact Nat.succ_pos _
      have := ih (all.take (all.length - 1) ++ [32] ++ r)
      simp at this
      simp
      omega
    · simp <;> omega
theorem wrap_nat2 (k : Nat) (h : k ≤ 100000) : wrap64 ((k : Int) + 1) = ((k + 1 : Nat) : Int) := by unfold wrap64; omega
theorem cont (rows : List (List UInt8)) (hN : rows.length ≤ 5000) (acc : List S60) (number : Int) (res : RL) : ∀ (rest : List (List UInt8)) (all : List UInt8) (i : Nat), i + 1 + rest.length = rows.length → rest <:+ rows → all.length + tot rest ≤ 5000 →
    EvS (fun k => reveilleref5_Lines.j4 k (rows.map ba) acc ((rows.length - 1 - (goL all rest).2.length : Nat) : Int) number (ba (goL all rest).1)) res →
    EvS (fun k => reveilleref5_Lines.l1 k (rows.map ba) acc (i : Int) number (ba all)) res := by
  intro rest
  have plain : ∀ (rest : List (List UInt8)) (all : List UInt8) (i : Nat), i + 1 + rest.length = rows.length → all.length ≤ 5000 → Lib.hasSuffix all [92] = false →
      EvS (fun k => reveilleref5_Lines.j4 k (rows.map ba) acc ((rows.length - 1 - (goL all rest).2.length : Nat) : Int) number (ba (goL all rest).1)) res → EvS (fun k => reveilleref5_Lines.l1 k (rows.map ba) acc (i : Int) number (ba all)) res := by
    intro rest all i hi hal hsx h
    have hgo : goL all rest = (all, rest) := by
      cases rest with
      | nil => rw [goL, hsx]; rfl
      | cons r rest => rw [goL, hsx]; rfl
    rw [hgo] at h
    have e : rows.length - 1 - rest.length = i := by omega
    dsimp only at h
    rw [e] at h
    refine EvS.step (EvS.step h (f := fun k => reveilleref5_Lines.j3 k (rows.map ba) acc (i : Int) number (ba all) false) fun n => ?_) fun n => ?_
    · rw [reveilleref5_Lines.j3, if_neg (by decide)]
    · rcases List.eq_nil_or_concat all with rfl | ⟨a, c, rfl⟩
      · rw [reveilleref5_Lines.l1, if_neg (by decide)]
      · rw [List.concat_eq_append] at *
        rw [hasSuf_snoc] at hsx
        have hz : ((ba (a ++ [c])).size : Int) = ((a.length + 1 : Nat) : Int) := by rw [ba_size]; simp
        have ha : a.length + 1 ≤ 5000 := by simpa using hal
        rw [reveilleref5_Lines.l1, hz, if_pos (by omega), wrap_pred (n := a.length) (by omega), if_pos (by omega), if_pos (by omega), last_byte, show ((c.toNat : Int) == 92) = (c == 92) from beq_byte c 92 (by decide), hsx]
  have goes : ∀ (a : List UInt8) (i : Nat) (rest : List (List UInt8)), a.length + 1 ≤ 5000 → i + 1 ≤ 5000 → EvS (fun k => reveilleref5_Lines.j3 k (rows.map ba) acc (i : Int) number (ba (a ++ [92])) true) res → EvS (fun k => reveilleref5_Lines.l1 k (rows.map ba) acc (i : Int) number (ba (a ++ [92]))) res := by
    intro a i rest ha hi h
    refine EvS.step h fun n => ?_
    have hz : ((ba (a ++ [92])).size : Int) = ((a.length + 1 : Nat) : Int) := by rw [ba_size]; simp
    rw [reveilleref5_Lines.l1, hz, if_pos (by omega), wrap_pred (n := a.length) (by omega), if_pos (by omega), if_pos (by omega), last_byte]
    rfl
  have ext : ∀ a : List UInt8, (ba (a ++ [92])).extract 0 a.length = ba a := by
    intro a
    rw [ba_take, List.take_left]
  induction rest with
  | nil =>
    intro all i hi hs hal h
    cases hsx : Lib.hasSuffix all [92] with
    | false => exact plain [] all i hi (by omega) hsx h
    | true =>
      rcases List.eq_nil_or_concat all with rfl | ⟨a, c, rfl⟩
      · exact absurd hsx (by decide)
      · rw [List.concat_eq_append] at *
        rw [hasSuf_snoc, beq_iff_eq] at hsx
        subst hsx
        have ha : a.length + 1 ≤ 5000 := by simp at hal; omega
        have hgo : goL (a ++ [92]) [] = (a ++ [32], []) := by rw [goL, hasSuf_snoc]; simp
        rw [hgo] at h
        have e : rows.length - 1 - ([] : List (List UInt8)).length = i := by simp at hi ⊢; omega
        dsimp only at h
        rw [e] at h
        refine goes a i [] ha (by simp at hi; omega) (EvS.step h fun n => ?_)
        have hz : ((ba (a ++ [92])).size : Int) = ((a.length + 1 : Nat) : Int) := by rw [ba_size]; simp
        rw [reveilleref5_Lines.j3, if_pos rfl, hz, wrap_pred (n := a.length) (by omega), if_pos (by omega), if_pos (by omega), Int.toNat_natCast, ext, ba_size, if_pos (by omega), wrap_nat2 i (by simp at hi; omega), List.length_map, if_pos (by simp at hi; omega)]
        rw [show ba a ++ (⟨#[32]⟩ : ByteArray) = ba (a ++ [32]) from ba_append a [32]]
  | cons r rest ih =>
    intro all i hi hs hal h
    cases hsx : Lib.hasSuffix all [92] with
    | false => exact plain (r :: rest) all i hi (by omega) hsx h
    | true =>
      rcases List.eq_nil_or_concat all with rfl | ⟨a, c, rfl⟩
      · exact absurd hsx (by decide)
      · rw [List.concat_eq_append] at *
        rw [hasSuf_snoc, beq_iff_eq] at hsx
        subst hsx
        rw [tot_cons] at hal
        have ha : a.length + 1 + (r.length + tot rest) ≤ 5000 := by simp at hal; omega
        have hgo : goL (a ++ [92]) (r :: rest) = goL (a ++ [32] ++ r) rest := by
          rw [goL, hasSuf_snoc, if_pos (by decide)]
          simp
        rw [hgo] at h
        have hi2 : i + 1 + 1 + rest.length = rows.length := by simp at hi; omega
        have h2 := ih (a ++ [32] ++ r) (i + 1) hi2 ((List.suffix_cons r rest).trans hs) (by simp; omega) h
        have hget := suf_at (i := i + 1) hs (by simpa using hi)
        refine goes a i [] (by omega) (by omega) (EvS.step h2 fun n => ?_)
        have hz : ((ba (a ++ [92])).size : Int) = ((a.length + 1 : Nat) : Int) := by rw [ba_size]; simp
        rw [reveilleref5_Lines.j3, if_pos rfl, hz, wrap_pred (n := a.length) (by omega), if_pos (by omega), if_pos (by omega), Int.toNat_natCast, ext, ba_size, if_pos (by omega), wrap_nat2 i (by omega), List.length_map, if_neg (by omega), if_pos (by omega), if_pos (by omega), rd_row rows (i + 1) r hget]
        rw [show ba a ++ (⟨#[32]⟩ : ByteArray) = ba (a ++ [32]) from ba_append a [32], ba_size, ba_size, if_pos (by simp; omega), ba_append]
def collA (acc : List S60) (l : List (Int × List UInt8)) : RL :=
  match l.find? (fun x => (readF x.2).err != 0) with
  | some x => ([], x.1, (readF x.2).err)
  | none => (acc ++ l.map (mkL readF), 0, 0)
theorem collA_ok (acc : List S60) (x : Int × List UInt8) (l : List (Int × List UInt8)) (h : (readF x.2).err = 0) : collA acc (x :: l) = collA (acc ++ [mkL readF x]) l := by
  unfold collA
  rw [List.find?_cons, show ((readF x.2).err != 0) = false by rw [h]; rfl]
  dsimp only
  cases l.find? (fun x => (readF x.2).err != 0) with
  | some y => rfl
  | none => simp
theorem collA_bad (acc : List S60) (x : Int × List UInt8) (l : List (Int × List UInt8)) (h : (readF x.2).err ≠ 0) : collA acc (x :: l) = ([], x.1, (readF x.2).err) := by
  unfold collA
  rw [List.find?_cons, show ((readF x.2).err != 0) = true from bne_iff_ne.2 h]
theorem idle_trm (r : List UInt8) : idleL r = match trm r with | [] => true | c :: _ => c == 35 || c == 59 := by
  show (match trmL r with | [] => true | c :: _ => c == 35 || c == 59) = _
  rw [trm_eq]
  cases h : trmL r with
  | nil => rfl
  | cons c t =>
    have hc : ¬ blk c = true := by
      intro hb
      have h2 := trmL_idem r
      rw [h, trmL_cons, if_pos hb] at h2
      have := congrArg List.length h2
      have h3 := trmL_len t
      simp at this
      omega
    rw [trmR_cons, if_neg (fun x => hc x.2)]
theorem ref_rows (rows : List (List UInt8)) (hN : rows.length ≤ 5000) (htot : tot rows ≤ 5000) : ∀ (f : Nat) (cur : List (List UInt8)) (acc : List S60) (i : Nat), cur.length ≤ f → i + cur.length = rows.length → cur <:+ rows → acc.length + cur.length ≤ 6000 →
    EvS (fun k => reveilleref5_Lines.l0 k (rows.map ba) acc (i : Int)) (collA acc (items rows.length f cur)) := by
  have stop : ∀ (f : Nat) (acc : List S60) (i : Nat), i = rows.length → EvS (fun k => reveilleref5_Lines.l0 k (rows.map ba) acc (i : Int)) (collA acc (items rows.length f [])) := by
    intro f acc i hi
    have e : items rows.length f [] = [] := by cases f <;> rfl
    rw [e]
    refine EvS.pure fun n => ?_
    rw [reveilleref5_Lines.l0, List.length_map, if_neg (by omega)]
    simp [collA]
  intro f
  induction f with
  | zero =>
    intro cur acc i hf hi hs hacc
    obtain rfl : cur = [] := List.length_eq_zero_iff.1 (by omega)
    exact stop 0 acc i (by simpa using hi)
  | succ f ih =>
    intro cur acc i hf hi hs hacc
    cases cur with
    | nil => exact stop _ acc i (by simpa using hi)
    | cons r rest =>
      rw [List.length_cons] at hf hacc
      have hget := suf_at hs hi
      have hsr : rest <:+ rows := (List.suffix_cons r rest).trans hs
      have hi2 : i + 1 + rest.length = rows.length := by simp at hi; omega
      have htr : r.length + tot rest ≤ 5000 := by
        obtain ⟨p, hp⟩ := hs
        have : tot rows = tot p + tot (r :: rest) := by rw [← hp]; simp [tot]
        rw [tot_cons] at this
        omega
      obtain ⟨KT, hT⟩ := trim_ev r (by omega)
      have hil : (i : Int) < ((rows.map ba).length : Int) := by rw [List.length_map]; omega
      -- into j1
      have into : ∀ res, EvS (fun k => reveilleref5_Lines.j1 k (rows.map ba) acc (i : Int) (idleL r)) res → EvS (fun k => reveilleref5_Lines.l0 k (rows.map ba) acc (i : Int)) res := by
        rintro res ⟨K2, k2⟩
        refine ⟨KT + K2 + 1, fun n0 h0 => ?_⟩
        obtain ⟨n, rfl⟩ : ∃ n, n0 = n + 1 := ⟨n0 - 1, by omega⟩
        have k1 := hT n (by omega)
        have k2 := k2 n (by omega)
        dsimp only at k1 k2 ⊢
        rw [reveilleref5_Lines.l0, if_pos hil, if_pos (by omega), rd_row rows i r hget, k1, Option.bind_some, ba_toList, ba_size]
        rw [idle_trm] at k2
        cases hu : trm r with
        | nil =>
          rw [hu] at k2
          rw [if_pos rfl]
          exact k2
        | cons c t =>
          rw [hu] at k2
          have hbt : bt (ba (c :: t)) 0 = (c.toNat : Int) := bt_list _ 0 c (by rw [ba_list]; rfl)
          rw [if_neg (by simp), if_pos (by simp <;> omega), hbt]
          dsimp only at k2
          by_cases h35 : (c.toNat : Int) = 35
          · rw [if_pos h35]
            obtain rfl : c = 35 := (toNat_eq (n := 35) (by decide)).1 h35
            exact k2
          · rw [if_neg h35, show ((c.toNat : Int) == 59) = (c == 59) from beq_byte c 59 (by decide)]
            have : (c == 35) = false := beq_eq_false_iff_ne.2 fun e => h35 (by rw [e]; rfl)
            rw [this, Bool.false_or] at k2
            exact k2
      cases hid : idleL r with
      | true =>
        rw [hid] at into
        rw [items, if_pos hid]
        refine into _ (EvS.step (ih rest acc (i + 1) (by omega) hi2 hsr (by omega)) fun n => ?_)
        rw [reveilleref5_Lines.j1, if_pos rfl, wrap_nat2 i (by omega)]
      | false =>
        rw [hid] at into
        rw [items, if_neg (by rw [hid]; decide)]
        have hnum : ((rows.length - rest.length : Nat) : Int) = ((i + 1 : Nat) : Int) := by omega
        rw [hnum]
        have hgl := goL_len rest r
        have hsf := goL_suffix rest r
        have hrl := hsf.length_le
        obtain ⟨all, rest', hgo⟩ : ∃ all rest', goL r rest = (all, rest') := ⟨_, _, rfl⟩
        have hcont := cont rows hN acc ((i + 1 : Nat) : Int) (collA acc ((((i + 1 : Nat) : Int), all) :: items rows.length f rest')) rest r i hi2 hsr htr
        rw [hgo] at hgl hsf hrl hcont ⊢
        dsimp only at hgl hsf hrl hcont ⊢
        refine into _ (EvS.step (hcont ?_) fun n => ?_)
        · -- j4
          have hi' : ((rows.length - 1 - rest'.length : Nat) : Int) + 1 = ((rows.length - rest'.length : Nat) : Int) := by omega
          by_cases hl : 400 < all.length
          · rw [collA_bad acc (((i + 1 : Nat) : Int), all) _ (by dsimp only; unfold readF; rw [if_pos hl]; decide)]
            refine EvS.pure fun n => ?_
            rw [reveilleref5_Lines.j4, ba_size, if_pos (by omega)]
            dsimp only
            unfold readF
            rw [if_pos hl]
            rfl
          · obtain ⟨res, ⟨K1, k1⟩, hsays⟩ := line_ev all (by omega) ((i + 1 : Nat) : Int)
            have hR : readF all = readT (trm all) := by unfold readF; rw [if_neg hl]
            rw [← hR] at hsays
            rcases hsays with ⟨he, rfl⟩ | ⟨he, hok⟩
            · rw [collA_ok acc (((i + 1 : Nat) : Int), all) _ he]
              obtain ⟨K2, k2⟩ := ih rest' (acc ++ [mkL readF (((i + 1 : Nat) : Int), all)]) (rows.length - rest'.length) (by omega) (by omega) (hsf.trans hsr) (by simp; omega)
              refine ⟨K1 + K2 + 1, fun n0 h0 => ?_⟩
              obtain ⟨n, rfl⟩ : ∃ n, n0 = n + 1 := ⟨n0 - 1, by omega⟩
              have k1 := k1 n (by omega)
              have k2 := k2 n (by omega)
              dsimp only at k1 k2 ⊢
              rw [reveilleref5_Lines.j4, ba_size, if_neg (by omega), k1, Option.bind_some, if_pos rfl, if_pos (by omega), show wrap64 (((rows.length - 1 - rest'.length : Nat) : Int) + 1) = ((rows.length - rest'.length : Nat) : Int) by rw [hi']; unfold wrap64; omega]
              exact k2
            · rw [collA_bad acc (((i + 1 : Nat) : Int), all) _ (by dsimp only; rw [he]; decide)]
              refine ⟨K1 + 1, fun n0 h0 => ?_⟩
              obtain ⟨n, rfl⟩ : ∃ n, n0 = n + 1 := ⟨n0 - 1, by omega⟩
              have k1 := k1 n (by omega)
              dsimp only at k1 ⊢
              rw [reveilleref5_Lines.j4, ba_size, if_neg (by omega), k1, Option.bind_some, if_neg (by rw [hok]; decide), he]
        · rw [reveilleref5_Lines.j1, if_neg (by decide), if_pos (by omega), if_pos hil, wrap_nat2 i (by omega), rd_row rows i r hget]
theorem rowsL_len (s : List UInt8) : (rowsL s).length ≤ s.length + 1 := by
  induction s with
  | nil => exact Nat.le_refl _
  | cons c s ih =>
    unfold rowsL
    split
    · simp; omega
    · obtain ⟨r, rs, h⟩ := rowsL_cons s
      rw [h] at ih ⊢
      simp [consR] at *
      omega
/-- the reference's lines are these -/
theorem ref_lines (s : List UInt8) : EvS (fun k => reveilleref5_Lines.f k (ba s)) (if 4000 < s.length then ([], 0, 51) else linesF s) := by
  by_cases h : 4000 < s.length
  · rw [if_pos h]
    exact ⟨0, fun n _ => by dsimp only; unfold reveilleref5_Lines.f; rw [ba_size, if_pos (by omega)]⟩
  · rw [if_neg h]
    obtain ⟨K1, k1⟩ := raw_ev s (by omega)
    have hl := rowsL_len s
    have ht := tot_rows s
    obtain ⟨K2, k2⟩ := ref_rows (rowsL s) (by omega) (by omega) (rowsL s).length (rowsL s) [] 0 (Nat.le_refl _) (by omega) (List.suffix_refl _) (by simp; omega)
    refine ⟨K1 + K2, fun n h0 => ?_⟩
    have k1 := k1 n (by omega)
    have k2 := k2 n (by omega)
    dsimp only at k1 k2 ⊢
    unfold reveilleref5_Lines.f
    rw [ba_size, if_neg (by omega), k1, Option.bind_some]
    have e : collA [] (items (rowsL s).length (rowsL s).length (rowsL s)) = linesF s := by
      unfold collA linesF coll
      cases (items (rowsL s).length (rowsL s).length (rowsL s)).find? (fun x => (readF x.2).err != 0) <;> rfl
    rw [← e]
    exact k2
end Go.Proofs.YtbigbjfppaenfaaDoor.Lines
