/- The evaluator Ev and its soundness, part 5 of 7: what it computes of a function, the model's machine computes on every tape. -/
import Derived.Test.YtfpfdeechhaheaaDoorEv3
import Derived.Lib.UnsafeStr
import Derived.Lib.Bytealg
section
/- Ev, part 26: operations that act: what is left; the theorem. -/
namespace Go.Ev
variable [F : Facts] [E : Env]
set_option linter.unusedSimpArgs false
set_option linter.unusedVariables false
set_option linter.unusedSectionVars false
variable {P : Program} {μ : Mu}
variable {wr : WrT} {io : Opd → Option AV} {ρ : Operand → Value}

theorem erase_ok {l : List (AV × AV × Nat)} {a : Array MapEntry} (h : All2 (EntR μ) l a.toList) {i : Nat} (hi : i < a.size) : All2 (EntR μ) (app (takeN l i) (dropN l (Nat.succ i))) (a.eraseIdxIfInBounds i).toList := by
  have e : (a.eraseIdxIfInBounds i).toList = a.toList.take i ++ a.toList.drop (i + 1) := by
    unfold Array.eraseIdxIfInBounds
    rw [dif_pos hi, Array.toList_eraseIdx, List.eraseIdx_eq_take_drop_succ]
  rw [app_eq, takeN_eq, dropN_eq, e]
  exact (h.take i).append (h.drop (i + 1))

theorem decode_ascii {s : ByteArray} {p : Nat} {c : UInt8} (hc : s.data.toList[p]? = some c) (h : c.toNat < 128) : Utf8.decode s p = (c.toNat, 1) := by
  have hlt := (List.getElem?_eq_some_iff.1 hc).1
  have hget : (s.get! (p + 0)).toNat = c.toNat := by
    show (s.data[p]!).toNat = c.toNat
    have hlt2 : p < s.data.size := by simpa using hlt
    rw [getElem!_pos s.data p hlt2]
    have : s.data[p]? = some c := by simpa using hc
    rw [Array.getElem?_eq_getElem hlt2] at this
    injection this with this
    rw [this]
  unfold Utf8.decode
  simp only [hget]
  rw [if_pos h]

section
variable (hio : IOR μ wr io ρ)
include hio

theorem next_ok {A A' : AH} {w : World} (hR : R P μ A w) {x : Operand} {x' : Opd} (hx : opnd wr x = some x') {v : AV} (he : wNext io A x' = some (v, A')) (ty : TypeId) :
    Acts P μ A w (do pure (.value (← Instr.next (ρ x) true ty))) v A' := by
  obtain ⟨u, hu, he⟩ := ob_eq he
  obtain ⟨b, o, e, he⟩ := onPtr_eq he
  subst e
  obtain ⟨ho0, he⟩ := ot_eq he
  rw [nbeq_eq, decide_eq_true_eq] at ho0
  subst ho0
  obtain ⟨ob', ho, he⟩ := ob_eq he
  obtain ⟨l, n, p, e, he⟩ := onSit_eq he
  subst e
  obtain ⟨b', d, xx, hm, ex⟩ := (hio _ _ _ hx hu).inv_ptr
  obtain ⟨o', g1, g2⟩ := hR.obj b _ _ ho hm
  cases o' with
  | stringIter s pos =>
    obtain ⟨hd0, hs, hp⟩ := g2
    replace hd0 : d = 0 := hd0
    subst hd0; subst hp
    unfold ofStr at hs
    injection hs with hl hn
    rw [len_eq] at hl
    subst hl; subst hn
    simp only at g1
    have hget := run_getObj (P := P) g1 (fun c e f h => nomatch h)
    have hsz : s.size = s.data.toList.length := rfl
    have he9 : next1 A b s.data.toList.length (bytesNum s.data.toList) p = some (v, A') := he
    clear he
    have he := he9
    clear he9
    unfold next1 at he
    rw [bif2_eq, nlt_eq] at he
    by_cases hlt : p < s.data.toList.length
    · rw [if_pos (by simpa using hlt)] at he
      obtain ⟨hb, he⟩ := ot_eq he
      rw [nlt_eq, decide_eq_true_eq] at hb
      have hc : s.data.toList[p]? = some s.data.toList[p] := List.getElem?_eq_getElem hlt
      have hat := bytesNum_at s.data.toList p _ hc
      have hat' : Nat.mod (Nat.div (bytesNum s.data.toList) (Nat.pow 256 p)) 256 = s.data.toList[p].toNat := hat
      rw [hat'] at hb he
      injection he with he
      injection he with h1 h2
      have hdec := decode_ascii hc hb
      have hset := setObj_wset g1 (.stringIter s (p + 1))
      obtain ⟨q1, q2⟩ := hR.plain (o2 := .siter s.data.toList.length (bytesNum s.data.toList) (Nat.succ p)) ho hm hset rfl rfl rfl ⟨rfl, by unfold ofStr; rw [len_eq], rfl⟩ (fun L hL => by rw [show w.heap[(b', 0, xx).1]? = w.heap[b']? from rfl, g1] at hL; exact nomatch hL) A.next
      rw [h2] at q1 q2
      refine acts_v (v' := .tuple #[.bool true, goInt p, .int .i32 (s.data.toList[p].toNat : Int)]) (w' := { w with heap := w.heap.setIfInBounds b' (.stringIter s (p + 1)) }) ?_ q1 (by rw [← h1]; exact .tup (.cons (.bool _) (.cons (.int _ _) (.cons (.int _ _) .nil)))) q2
      rw [ex]
      unfold Instr.next
      show (getObj b' >>= fun _ => _).run P w = _
      rw [run_ok hget]
      show (if p < s.size then _ else _ : Sem Value).run P w = _
      rw [if_pos (by rw [hsz]; exact hlt), hdec]
      show (setObj b' (.stringIter s (p + 1)) >>= fun _ => _).run P w = _
      rw [run_ok (run_setObj g1 (fun c e f h => nomatch h))]
      rfl
    · rw [if_neg (by simpa using hlt)] at he
      injection he with he
      injection he with h1 h2
      subst h2
      refine acts_v (v' := .tuple #[.bool false]) (w' := w) ?_ hR (by rw [← h1]; exact .tup (.cons (.bool _) .nil)) (Kept.refl _ _ _ _)
      rw [ex]
      unfold Instr.next
      show (getObj b' >>= fun _ => _).run P w = _
      rw [run_ok hget]
      show (if p < s.size then _ else _ : Sem Value).run P w = _
      rw [if_neg (by rw [hsz]; exact hlt)]
      rfl
  | _ => exact g2.elim
end

theorem delete_ok {A A' : AH} {w : World} (hR : R P μ A w) {ts : Array TypeId} {t u kt et : TypeId} {m k v : AV} {m' k' : Value} (hts : ts = #[t, u]) (hd : und (ttOf P) t = some (.map kt et)) (hm : VR μ m m') (hk : VR μ k k')
    (he : onMap (fun b => ob (A.obj b) (onMapO (del1 P (ttOf P) A kt b k))) (ot (ckey (ttOf P) 10000 kt k) (unit A)) m = some (v, A')) (ty : TypeId) :
    Acts P μ A w (do pure (.value (← Builtin.delete_ ts ty #[m', k']))) v A' := by
  subst hts
  rcases onMap_eq he with ⟨b, e, he2⟩ | ⟨e, he2⟩
  · subst e
    obtain ⟨ob', ho, he3⟩ := ob_eq he2
    obtain ⟨es, clock, e, he4⟩ := onMapO_eq he3
    subst e
    obtain ⟨hck, he5⟩ := ot_eq he4
    obtain ⟨r, hf, he6⟩ := ob_eq he5
    obtain ⟨b', d, xx, hμ, em⟩ := hm.inv_map
    obtain ⟨es', hh, hes⟩ := hR.mapAt ho hμ
    obtain ⟨r', hfr, hrun⟩ := findKey_ok hk w hf hes
    have hget := run_getObj (P := P) hh (fun c e f h => nomatch h)
    have hkey := key_ok (P := P) es'.isEmpty 10000 kt k k' w hck hk
    have hrun0 : (Builtin.delete_ #[t, u] ty #[m', k']).run P w = ((match r' with
        | some (i, _) => setObj b' (.map (es'.eraseIdxIfInBounds i) clock)
        | none => setObj b' (.map es' clock)) >>= fun _ => (pure (.tuple #[]) : Sem Value)).run P w := by
      rw [em]
      unfold Builtin.delete_
      show (underlying t >>= fun _ => _).run P w = _
      rw [run_ok (run_und hd w)]
      show (getObj b' >>= fun _ => _).run P w = _
      rw [run_ok hget]
      show (Instr.checkKey es'.isEmpty 10000 kt k' >>= fun _ => _).run P w = _
      rw [run_ok hkey]
      show (Instr.findKey kt k' es'.toList >>= fun _ => _).run P w = _
      rw [run_ok hrun]
      cases r' with
      | none => rfl
      | some q => rfl
    cases r with
    | some q =>
      obtain ⟨i, k0, v0⟩ := q
      replace he6 : unit (A.set b (.map (app (takeN es i) (dropN es (Nat.succ i))) clock)) = some (v, A') := he6
      injection he6 with he6
      injection he6 with h1 h2
      cases r' with
      | none => exact hfr.elim
      | some q =>
        obtain ⟨i', vv⟩ := q
        obtain ⟨hi, _, _, e1, he1, _, _⟩ := hfr
        subst hi
        have hilt : i < es'.size := by
          have := (List.getElem?_eq_some_iff.1 he1).1
          simpa using this
        have hset := setObj_wset hh (.map (es'.eraseIdxIfInBounds i) clock)
        obtain ⟨q1, q2⟩ := hR.plain (o2 := .map (app (takeN es i) (dropN es (Nat.succ i))) clock) ho hμ hset rfl rfl rfl ⟨rfl, erase_ok hes hilt⟩ (fun L hL => by rw [hh] at hL; exact nomatch hL) A.next
        rw [h2] at q1 q2
        refine acts_v (v' := .tuple #[]) ?_ q1 (by rw [← h1]; exact .tup .nil) q2
        rw [hrun0]
        show (setObj b' (.map (es'.eraseIdxIfInBounds i) clock) >>= fun _ => _).run P w = _
        rw [run_ok (run_setObj hh (fun c e f h => nomatch h))]
        rfl
    | none =>
      replace he6 : unit A = some (v, A') := he6
      injection he6 with he6
      injection he6 with h1 h2
      subst h2
      cases r' with
      | some q => exact hfr.elim
      | none =>
        refine acts_v (v' := .tuple #[]) (w' := w) ?_ hR (by rw [← h1]; exact .tup .nil) (Kept.refl _ _ _ _)
        rw [hrun0]
        show (setObj b' (.map es' clock) >>= fun _ => _).run P w = _
        rw [run_ok (run_setObj hh (fun c e f h => nomatch h)), set_same hh]
        rfl
  · subst e
    obtain ⟨hck, he3⟩ := ot_eq he2
    injection he3 with he3
    injection he3 with h1 h2
    subst h2
    have em := hm.inv_nilm
    have hkey := key_ok (P := P) true 10000 kt k k' w hck hk
    refine acts_v (v' := .tuple #[]) (w' := w) ?_ hR (by rw [← h1]; exact .tup .nil) (Kept.refl _ _ _ _)
    rw [em]
    unfold Builtin.delete_
    show (underlying t >>= fun _ => _).run P w = _
    rw [run_ok (run_und hd w)]
    show (Instr.checkKey true 10000 kt k' >>= fun _ => _).run P w = _
    rw [run_ok hkey]
    rfl

/-- cells written at a slice's start -/
theorem write_sl {A A' : AH} {w : World} (hR : R P μ A w) {b o l cap : Nat} {vs : List AV} {vs' : List Value} {s' : Value} (hw : A.write b o vs = some A') (hs : VR μ (.sl b o l cap) s') (hv : VRs μ vs vs') (h1 : ∀ v ∈ vs, oneA v = true)
    (hvl : l = 0 → vs = []) (B : Nat) : ∃ a c w', s' = .slice (some a) l c ∧ (storeCells a vs').run P w = .ok () w' ∧ R P μ A' w' ∧ Kept B μ μ A A' w w' := by
  obtain ⟨b', d, xx, hm, hv2⟩ := hs.inv_sl
  obtain ⟨w', r1, r2, r3, _⟩ := write_ok hR hw hm hv h1 B
  rcases hv2 with ⟨cap', e, _, _⟩ | ⟨o', cap', S, _, h0, _, e⟩
  · exact ⟨_, _, w', e, r1, r2, r3⟩
  · have e1 := hvl h0
    subst e1
    cases hv
    have hww : w' = w := by
      have r1' : Result.ok () w = Result.ok () w' := r1
      injection r1' with _ h
      exact h.symm
    subst hww
    exact ⟨⟨b', o', none⟩, cap', w', by rw [e, h0], rfl, r2, r3⟩

theorem copy_ok {A A' : AH} {w : World} (hR : R P μ A w) {ts : Array TypeId} {t u e : TypeId} {n : Nat} {s x v : AV} {s' x' : Value} (hts : ts = #[t, u]) (hd : und (ttOf P) t = some (.slice e)) (hn : tsize (ttOf P) e = some n)
    (hs : VR μ s s') (hx : VR μ x x') (he : onSl (fun b o l _ => copy1 A n x b o l) (ob (seqOf A n x) fun _ => some (goN 0, A)) s = some (v, A')) (ty : TypeId) :
    Acts P μ A w (do pure (.value (← Builtin.copy_ ts ty #[s', x']))) v A' := by
  subst hts
  rcases onSl_eq he with ⟨b, o, l, cap, e1, he2⟩ | ⟨e1, he2⟩
  · subst e1
    obtain ⟨⟨k, cs⟩, hseq, he3⟩ := ob_eq he2
    obtain ⟨cs', hcr, hc1, hcl, hlen, hfirst⟩ := seq_ok hR hseq hx
    have hll : cs'.length = k * n := by rw [← hcr.length, hcl]
    have main : ∀ (q : Nat) (vs : List AV), q = Nat.min k l → vs = cs.take (q * n) → A.write b o vs = some A' → v = goN q → Acts P μ A w (do pure (.value (← Builtin.copy_ #[t, u] ty #[s', x']))) v A' := by
      intro q vs hq hvs hw hv
      have hqk : q ≤ k := by rw [hq]; exact Nat.min_le_left _ _
      have hql : q ≤ l := by rw [hq]; exact Nat.min_le_right _ _
      obtain ⟨a, c, w', es, r1, r2, r3⟩ := write_sl hR hw hs (vs' := cs'.take (q * n)) (by rw [hvs]; exact hcr.take _) (by rw [hvs]; exact fun c hc => hc1 c (List.mem_of_mem_take hc)) (by
        intro h0
        have : q = 0 := by omega
        rw [hvs, this]; simp) A.next
      refine acts_v (v' := goInt q) ?_ r2 (by rw [hv]; exact .int _ _) r3
      rw [es]
      unfold Builtin.copy_
      show (underlying t >>= fun _ => _).run P w = _
      rw [run_ok (run_und hd w)]
      show (Builtin.lenOf x' >>= fun _ => _).run P w = _
      rw [run_ok hlen]
      show (sizeOf e >>= fun _ => _).run P w = _
      rw [run_ok (run_size hn w)]
      show (Builtin.firstCells n (Nat.min k l) x' >>= fun _ => _).run P w = _
      rw [← hq, run_ok (hfirst q hqk)]
      show (storeCells a (cs'.take (q * n)).toArray.toList >>= fun _ => _).run P w = _
      rw [run_ok r1]; rfl
    replace he3 : bif2 (Nat.ble k l) (ob (A.write b o cs) fun A' => some (goN k, A')) (ob (A.write b o (takeN cs (Nat.mul l n))) fun A' => some (goN l, A')) = some (v, A') := he3
    rw [bif2_eq, nle_eq] at he3
    by_cases hkl : k ≤ l
    · rw [if_pos (by simpa using hkl)] at he3
      obtain ⟨A1, hw, he4⟩ := ob_eq he3
      injection he4 with he4
      injection he4 with h1 h2
      subst h2
      exact main k cs (by show _ = min k l; omega) (by rw [List.take_of_length_le (by rw [hcl]; exact Nat.le_refl _)]) hw h1.symm
    · rw [if_neg (by simpa using hkl)] at he3
      obtain ⟨A1, hw, he4⟩ := ob_eq he3
      injection he4 with he4
      injection he4 with h1 h2
      subst h2
      exact main l _ (by show _ = min k l; omega) (takeN_eq _ _) hw h1.symm
  · subst e1
    obtain ⟨⟨k, cs⟩, hseq, he3⟩ := ob_eq he2
    injection he3 with he3
    injection he3 with h1 h2
    subst h2
    obtain ⟨cs', hcr, hc1, hcl, hlen, hfirst⟩ := seq_ok hR hseq hx
    refine acts_v (v' := goInt 0) (w' := w) ?_ hR (by rw [← h1]; exact .int _ _) (Kept.refl _ _ _ _)
    rw [hs.inv_nils]
    unfold Builtin.copy_
    show (underlying t >>= fun _ => _).run P w = _
    rw [run_ok (run_und hd w)]
    show (Builtin.lenOf x' >>= fun _ => _).run P w = _
    rw [run_ok hlen]
    show (sizeOf e >>= fun _ => _).run P w = _
    rw [run_ok (run_size hn w)]
    have hmin : Nat.min k 0 = 0 := Nat.min_zero k
    show (Builtin.firstCells n (Nat.min k 0) x' >>= fun _ => _).run P w = _
    rw [hmin, run_ok (hfirst 0 (Nat.zero_le _))]
    rfl

theorem clear_ok {A A' : AH} {w : World} (hR : R P μ A w) {ts : Array TypeId} {t e : TypeId} {n : Nat} {z s v : AV} {s' : Value} (hts : ts = #[t]) (hd : und (ttOf P) t = some (.slice e)) (hz : zeroOf (ttOf P) e = some z) (hn0 : 0 < n) (hzl : len (cellsV z) = n)
    (hs : VR μ s s') (he : onSl (fun b o l _ => bif2 (Nat.beq l 0) (unit A) (ob (A.write b o (repeatTo l (cellsV z))) unit)) (unit A) s = some (v, A')) (ty : TypeId) :
    Acts P μ A w (do pure (.value (← Builtin.clear_ ts ty #[s']))) v A' := by
  subst hts
  rcases onSl_eq he with ⟨b, o, l, cap, e1, he2⟩ | ⟨e1, he2⟩
  · subst e1
    rw [bif2_eq, nbeq_eq] at he2
    by_cases hl0 : l = 0
    · rw [if_pos (by simpa using hl0)] at he2
      injection he2 with he2
      injection he2 with h1 h2
      subst h2; subst hl0
      obtain ⟨a, c, es, _⟩ := hs.slice_form
      refine acts_v (v' := .tuple #[]) (w' := w) ?_ hR (by rw [← h1]; exact .tup .nil) (Kept.refl _ _ _ _)
      rw [es]
      unfold Builtin.clear_
      show (underlying t >>= fun _ => _).run P w = _
      rw [run_ok (run_und hd w)]
      rfl
    · rw [if_neg (by simpa using hl0)] at he2
      obtain ⟨A1, hw, he3⟩ := ob_eq he2
      injection he3 with he3
      injection he3 with h1 h2
      subst h2
      obtain ⟨zv, hzr, hzv⟩ := zeroOf_run hz μ w
      have hzc : zv.cells.size = n := by
        have := (cellsV_rel hzv).length
        rw [len_eq] at hzl
        rw [hzl] at this
        simpa using this.symm
      obtain ⟨a, c, w', es, r1, r2, r3⟩ := write_sl hR hw hs (repeatTo_rel (cellsV_rel hzv) l) (repeatTo_one (zeroOf_one hz) l) (fun h => absurd h hl0) A.next
      refine acts_v (v' := .tuple #[]) ?_ r2 (by rw [← h1]; exact .tup .nil) r3
      rw [es]
      unfold Builtin.clear_
      show (underlying t >>= fun _ => _).run P w = _
      rw [run_ok (run_und hd w)]
      cases l with
      | zero => exact absurd rfl hl0
      | succ l =>
        have hzz : (Builtin.zeroCells zv.cells (l + 1)).toList = (List.replicate (l + 1) zv.cells.toList).flatten := by
          unfold Builtin.zeroCells
          rw [hzc]
          have := zeroRange (n := l + 1) hzc hn0
          rw [hzc] at this
          exact this
        show (zeroValue e >>= fun z => storeCells a (Builtin.zeroCells z.cells (l + 1)).toList >>= fun _ => (pure (.tuple #[]) : Sem Value)).run P w = _
        rw [run_ok hzr, hzz, run_ok r1]; rfl
  · subst e1
    injection he2 with he2
    injection he2 with h1 h2
    subst h2
    refine acts_v (v' := .tuple #[]) (w' := w) ?_ hR (by rw [← h1]; exact .tup .nil) (Kept.refl _ _ _ _)
    rw [hs.inv_nils]
    unfold Builtin.clear_
    show (underlying t >>= fun _ => _).run P w = _
    rw [run_ok (run_und hd w)]
    rfl

theorem freeze_wset {w : World} {b n : Nat} {cs : Array Value} {e : TypeId} {fr : Nat × Nat} (h : w.heap[b]? = some (.cells cs e fr)) (hn : n ≠ 0) :
    WSet w (w.freeze ⟨b, 0, none⟩ n) b (.cells cs e (if fr.1 == fr.2 then (0, 0 + n) else (min fr.1 0, max fr.2 (0 + n)))) := by
  unfold World.freeze
  rw [if_neg hn]
  refine ⟨?_, ?_, ?_, rfl, rfl, rfl⟩
  · show (w.heap.modify b _)[b]? = _
    rw [Array.getElem?_modify, if_pos rfl, h]
    rfl
  · intro c hc
    show (w.heap.modify b _)[c]? = _
    rw [Array.getElem?_modify, if_neg (fun e => hc e.symm)]
  · show (w.heap.modify b _).size = _
    rw [Array.size_modify]

theorem unsafeStr_ok {A A' : AH} {w : World} (hR : R P μ A w) {ts : Array TypeId} {t u e : TypeId} {p n v : AV} {p' n' : Value} (hts : ts = #[t, u]) (hd : und (ttOf P) t = some (.pointer e)) (hsz : tsize (ttOf P) e = some 1)
    (hp : VR μ p p') (hn : VR μ n n') (he : strPtr A e p n = some (v, A')) (ty : TypeId) :
    Acts P μ A w (do pure (.value (← Builtin.unsafeString_ ts ty #[p', n']))) v A' := by
  subst hts
  unfold strPtr at he
  split at he
  · obtain ⟨kk, k, e1, he2⟩ := onNat_eq he
    injection e1 with e0 e1
    subst e1
    obtain ⟨hk, he3⟩ := ot_eq he2
    rw [nlt_eq, decide_eq_true_eq] at hk
    have en := hn.inv_int
    subst en
    have hempty : ∀ q : Option Addr, p' = .pointer q → k = 0 → v = .str 0 0 → A' = A → Acts P μ A w (do pure (.value (← Builtin.unsafeString_ #[t, u] ty #[p', .int .i64 (Int.ofNat k)]))) v A' := by
      intro q eq hk0 hv hA
      subst hk0; subst hA; subst eq
      refine acts_v (v' := .string .empty) (w' := w) ?_ hR (by rw [hv]; exact VR.str_of rfl rfl) (Kept.refl _ _ _ _)
      exact Lib.run_unsafeString_none (P := P) w t u ty q
    unfold strPtr1 at he3
    split at he3
    · obtain ⟨hk0, he4⟩ := ot_eq he3
      rw [nbeq_eq, decide_eq_true_eq] at hk0
      injection he4 with he4
      injection he4 with h1 h2
      exact hempty none (by cases hp; rfl) hk0 h1.symm h2.symm
    · rename_i b o
      obtain ⟨b', d, xx, hm, ep⟩ := hp.inv_ptr
      rw [bif2_eq, nbeq_eq] at he3
      by_cases hk0 : k = 0
      · rw [if_pos (by simpa using hk0)] at he3
        injection he3 with he3
        injection he3 with h1 h2
        exact hempty _ ep hk0 h1.symm h2.symm
      · rw [if_neg (by simpa using hk0)] at he3
        obtain ⟨s, hstr, he4⟩ := ob_eq he3
        obtain ⟨ob', ho, he5⟩ := ob_eq he4
        obtain ⟨m, c, e2, ex, md, fz, ch, e3, he6⟩ := onCells_eq he5
        subst e3
        obtain ⟨hc, he7⟩ := ot_eq he6
        simp only [ba_eq, nbeq_eq, Bool.and_eq_true, decide_eq_true_eq] at hc
        obtain ⟨ho0, hmd, hee⟩ := hc
        subst ho0; subst hmd; subst hee
        injection he7 with he7
        injection he7 with h1 h2
        subst h1
        obtain ⟨bs, hbl, hvr, _, hcell⟩ := strOf_ok hR hstr hm
        obtain ⟨o', g1, g2⟩ := hR.obj b _ _ ho hm
        cases o' with
        | cells cs e' fr =>
          obtain ⟨k1, k2, k3, k4, k5, k6, k7, k8, k9⟩ := g2
          simp only at k1 k2 k3 k4 k5 k6 k7 k8 k9 g1
          have hd0 := k4.1
          subst hd0
          subst k2
          have hkc : k ≤ cs.size := by
            have hlast := hcell (k - 1) bs[k - 1] (List.getElem?_eq_getElem (by omega))
            unfold World.cell? at hlast
            simp only [g1] at hlast
            have := (Array.getElem?_eq_some_iff.1 hlast).1
            omega
          have hset := freeze_wset g1 hk0
          have hnew : ObjR P μ 0 xx (.cells m c e2 ex 0 (bif2 (Nat.ble fz k) k fz) ch) (.cells cs e2 (if fr.1 == fr.2 then (0, 0 + k) else (min fr.1 0, max fr.2 (0 + k)))) := by
            have hfz : bif2 (Nat.ble fz k) k fz = max fz k := by
              rw [bif2_eq, nle_eq]
              by_cases h : fz ≤ k
              · rw [if_pos (by simpa using h)]; omega
              · rw [if_neg (by simpa using h)]; omega
            rw [hfz]
            refine ⟨k1, rfl, k3, k4, k5, k6, ?_, ?_, k9⟩
            · intro j h1 h2 h3
              split at h1
              · rename_i heq
                rw [if_pos heq] at h2
                simp only at h2
                omega
              · rename_i heq
                rw [if_neg heq] at h2
                simp only at h2
                have hne : fr.1 ≠ fr.2 := by simpa using heq
                have := k8 trivial
                omega
            · intro _
              by_cases heq : (fr.1 == fr.2) = true
              · rw [if_pos heq]; right; simp only; omega
              · rw [if_neg heq]
                have hne : fr.1 ≠ fr.2 := by simpa using heq
                have := k8 trivial
                right; simp only; omega
          obtain ⟨q1, q2⟩ := hR.own ho hm hset (by decide) hnew A.next
          rw [h2] at q1 q2
          refine acts_v (v' := .string ⟨bs.toArray⟩) ?_ q1 hvr q2
          rw [ep]
          have hcells : P.cellsOf e2 = 1 := by
            obtain ⟨i, hi, hi1⟩ := tsize_get hsz
            unfold Program.cellsOf
            rw [tt_get hi]
            simp [hi1]
          have := Lib.run_unsafeString_row (P := P) (w := w) t u ty e2 (und_eq hd) hcells b' cs.size (by unfold World.shape?; simp [g1]) bs (by
              intro e0
              rw [e0] at hbl
              exact hk0 hbl.symm) (by omega) (by omega) (fun j x hj => by
              have h9 := hcell j x hj
              show w.cell? ((⟨b', 0 + 0, none⟩ : Addr).add j) = _
              rw [addr_add, ← Nat.add_assoc]
              exact h9)
          rw [hbl] at this
          exact this
        | _ => exact g2.elim
    · exact nomatch he3
  · exact nomatch he
end Go.Ev
end

section
/- Ev, part 27: operations that act: the theorem. -/
namespace Go.Ev
variable [F : Facts] [E : Env]
set_option linter.unusedSimpArgs false
set_option linter.unusedVariables false
set_option linter.unusedSectionVars false
variable {P : Program} {μ : Mu}
variable {wr : WrT} {io : Opd → Option AV} {ρ : Operand → Value}

/-- a call -/
def isCallW : WOp → Bool
  | .call _ _ => true
  | .callV _ _ => true
  | .invoke _ _ _ => true
  | .fail => true
  | _ => false

theorem Acts.of_run {A A' : AH} {w : World} {s s' : Sem Next} {v : AV} (h : s.run P w = s'.run P w) (k : Acts P μ A w s' v A') : Acts P μ A w s v A' := by
  obtain ⟨nx, v', w', h1, h2⟩ := k
  exact ⟨nx, v', w', by rw [h]; exact h1, h2⟩

theorem noW_p {a : POp} {q : WOp} (h : some (IOp.p a) = some (IOp.w q)) : False := by injection h with h; exact IOp.noConfusion h
theorem noW_l {a : LOp} {q : WOp} (h : some (IOp.l a) = some (IOp.w q)) : False := by injection h with h; exact IOp.noConfusion h
theorem noW_a {a : AOp} {q : WOp} (h : some (IOp.a a) = some (IOp.w q)) : False := by injection h with h; exact IOp.noConfusion h

section
variable {TT : T TypeInfo} {FR : Rec}
variable (hio : IOR μ wr io ρ)
include hio

theorem act_call {A A' : AH} {w : World} (hR : R P μ A w) {o : Oper} {c : Call} (ho : o.op = .call c) {q : WOp} {v : AV} (hc : kCall (ttOf P) wr c = some (.w q)) (hq : isCallW q = false)
    (he : evW P (ttOf P) FR io A q = some (v, A')) : Acts P μ A w (execOp ρ o) v A' := by
  obtain ⟨as, has, hc⟩ := ob_eq hc
  unfold kCallee at hc
  split at hc
  · have := (inj_w hc).symm; subst this; exact nomatch hq
  · obtain ⟨f, _, hc⟩ := ob_eq hc
    have := (inj_w hc).symm; subst this; exact nomatch hq
  · obtain ⟨f, _, hc⟩ := ob_eq hc
    have := (inj_w hc).symm; subst this; exact nomatch hq
  · rename_i b hb
    refine Acts.of_run (call_builtin (P := P) (ρ := ρ) ho hb w) ?_
    unfold kBuiltin at hc
    split at hc
    · exact (noW_p hc).elim
    · split at hc
      · rename_i x t hts
        obtain ⟨d, hd, hc⟩ := ob_eq hc
        obtain ⟨ox, hox, hxx⟩ := opnds_one has
        have ea := one_arr hox
        have et := one_arr hts
        rw [ea, map_one]
        unfold kBuiltin1 at hc
        split at hc
        · exfalso
          unfold kLen at hc
          cases d with
          | map kt e => exact noW_l hc
          | string => exact noW_p hc
          | slice _ => exact noW_p hc
          | array _ _ => exact noW_p hc
          | _ => exact nomatch hc
        · obtain ⟨_, hc⟩ := ot_eq hc
          exact (noW_p hc).elim
        · unfold kClear1 at hc
          cases d with
          | slice e =>
            obtain ⟨z, hz, hc⟩ := ob_eq hc
            obtain ⟨n, hn, hc⟩ := ob_eq hc
            obtain ⟨hnz, hc⟩ := ot_eq hc
            simp only [ba_eq, Bool.and_eq_true, nlt_eq, nbeq_eq, decide_eq_true_eq] at hnz
            have hq := (inj_w hc).symm
            subst hq
            obtain ⟨u, hu, he⟩ := ob_eq he
            exact clear_ok hR et hd hz hnz.1 hnz.2 (hio _ _ _ hxx hu) he o.type
          | _ => exact nomatch hc
        · exact (noW_p hc).elim
        · exact nomatch hc
      · rename_i x y t u hts
        obtain ⟨d, hd, hc⟩ := ob_eq hc
        obtain ⟨d2, hd2, hc⟩ := ob_eq hc
        obtain ⟨ox, oy, hox, hxx, hyy⟩ := opnds_two has
        have ea := two_arr hox
        have et := two_arr hts
        rw [ea, map_two]
        unfold kBuiltin2 at hc
        split at hc
        · have app : ∀ e i z, und (ttOf P) t = some (.slice e) → ((∃ e', d2 = .slice e') ∨ d2 = .string) → (ttOf P).get e = some i → zeroOf (ttOf P) e = some z →
              (0 < i.size ∧ 0 < i.bytes) → len (cellsV z) = i.size → evW P (ttOf P) FR io A (.append e i.size i.bytes x y) = some (v, A') →
              Acts P μ A w (builtin .append c.argTypes o.type (c.args.map fun | .const _ => true | _ => false) #[ρ ox, ρ oy]) v A' := by
            intro e i z h1 h2 h3 h4 h5 h6 h7
            obtain ⟨s, hs, h7⟩ := ob_eq h7
            obtain ⟨y', hy', h7⟩ := ob_eq h7
            obtain ⟨v', w', r1, r2⟩ := append_ok hR et h1 hd2 h2 h3 h4 h6 h5.1 h5.2 (hio _ _ _ hxx hs) (hio _ _ _ hyy hy') h7 o.type
            exact ⟨.value v', v', w', run_v r1, .inl rfl, r2⟩
          unfold kAppend1 at hc
          split at hc
          · rename_i e e'
            obtain ⟨i, hi, hc⟩ := ob_eq hc
            obtain ⟨z, hz, hc⟩ := ob_eq hc
            obtain ⟨hnz, hc⟩ := ot_eq hc
            simp only [ba_eq, Bool.and_eq_true, nlt_eq, nbeq_eq, decide_eq_true_eq] at hnz
            have hq := (inj_w hc).symm
            subst hq
            exact app _ i z hd (.inl ⟨_, rfl⟩) hi hz hnz.1 hnz.2 he
          · rename_i e
            obtain ⟨i, hi, hc⟩ := ob_eq hc
            obtain ⟨z, hz, hc⟩ := ob_eq hc
            obtain ⟨hnz, hc⟩ := ot_eq hc
            simp only [ba_eq, Bool.and_eq_true, nlt_eq, nbeq_eq, decide_eq_true_eq] at hnz
            have hq := (inj_w hc).symm
            subst hq
            exact app _ i z hd (.inr rfl) hi hz hnz.1 hnz.2 he
          · exact nomatch hc
        · unfold kCopy1 at hc
          split at hc
          · rename_i e
            obtain ⟨n, hn, hc⟩ := ob_eq hc
            obtain ⟨_, hc⟩ := ot_eq hc
            have hq := (inj_w hc).symm
            subst hq
            obtain ⟨s, hs, he⟩ := ob_eq he
            obtain ⟨y', hy', he⟩ := ob_eq he
            exact copy_ok hR et hd hn (hio _ _ _ hxx hs) (hio _ _ _ hyy hy') he o.type
          · exact nomatch hc
        · unfold kDelete1 at hc
          split at hc
          · rename_i kt et2
            have hq := (inj_w hc).symm
            subst hq
            obtain ⟨k, hk, he⟩ := ob_eq he
            obtain ⟨m, hm, he⟩ := ob_eq he
            exact delete_ok hR et hd (hio _ _ _ hxx hm) (hio _ _ _ hyy hk) he o.type
          · exact nomatch hc
        · unfold kUnsafeStr1 at hc
          split at hc
          · rename_i e
            obtain ⟨s, hs, hc⟩ := ob_eq hc
            obtain ⟨hs1, hc⟩ := ot_eq hc
            rw [nbeq_eq, decide_eq_true_eq] at hs1
            subst hs1
            have hq := (inj_w hc).symm
            subst hq
            obtain ⟨n, hn, he⟩ := ob_eq he
            obtain ⟨p, hp, he⟩ := ob_eq he
            exact unsafeStr_ok hR et hd hs (hio _ _ _ hxx hp) (hio _ _ _ hyy hn) he o.type
          · exact nomatch hc
        · exact nomatch hc
      · exact nomatch hc

theorem act_ok {A A' : AH} {w : World} (hR : R P μ A w) (o : Oper) {q : WOp} {v : AV} (hc : compOp0 P (ttOf P) wr o.op = some (.w q)) (hq : isCallW q = false) (he : evW P (ttOf P) FR io A q = some (v, A')) :
    Acts P μ A w (execOp ρ o) v A' := by
  cases ho : o.op with
  | store t a x =>
    rw [ho] at hc
    obtain ⟨a', ha, hc⟩ := ob_eq hc
    obtain ⟨x', hx, hc⟩ := ob_eq hc
    obtain ⟨g, hg, hc⟩ := ob_eq hc
    obtain ⟨n, hn, hc⟩ := ob_eq hc
    obtain ⟨hgn, hc⟩ := ot_eq hc
    have hq := (inj_w hc).symm
    subst hq
    have hexec : execOp ρ o = (do Instr.storeAt t (ρ a) (ρ x); pure .skip : Sem Next) := by unfold execOp; rw [ho]
    rw [hexec]
    refine store_ok hio hR ha hx hg hn ?_ he
    intro hgf
    subst hgf
    simpa [bo_eq, nbeq_eq] using hgn
  | mapUpdate t m k x =>
    rw [ho] at hc
    obtain ⟨m', hm, hc⟩ := ob_eq hc
    obtain ⟨k', hk, hc⟩ := ob_eq hc
    obtain ⟨x', hx, hc⟩ := ob_eq hc
    obtain ⟨d, hd, hc⟩ := ob_eq hc
    have hexec : execOp ρ o = (do Instr.mapUpdate t (ρ m) (ρ k) (ρ x); pure .skip : Sem Next) := by unfold execOp; rw [ho]
    rw [hexec]
    unfold kMapPut1 at hc
    split at hc
    · have hq := (inj_w hc).symm
      subst hq
      exact mapPut_ok hio hR hd hm hk hx he
    · exact nomatch hc
  | insert t m k x =>
    rw [ho] at hc
    obtain ⟨m', hm, hc⟩ := ob_eq hc
    obtain ⟨k', hk, hc⟩ := ob_eq hc
    obtain ⟨x', hx, hc⟩ := ob_eq hc
    obtain ⟨d, hd, hc⟩ := ob_eq hc
    have hexec : execOp ρ o = (do Instr.mapUpdate t (ρ m) (ρ k) (ρ x); pure .skip : Sem Next) := by unfold execOp; rw [ho]
    rw [hexec]
    unfold kMapPut1 at hc
    split at hc
    · have hq := (inj_w hc).symm
      subst hq
      exact mapPut_ok hio hR hd hm hk hx he
    · exact nomatch hc
  | next x s =>
    rw [ho] at hc
    obtain ⟨x', hx, hc⟩ := ob_eq hc
    obtain ⟨hs, hc⟩ := ot_eq hc
    subst hs
    have hq := (inj_w hc).symm
    subst hq
    have hexec : execOp ρ o = (do pure (.value (← Instr.next (ρ x) true o.type)) : Sem Next) := by unfold execOp; rw [ho]
    rw [hexec]
    exact next_ok hio hR hx he o.type
  | call c =>
    rw [ho] at hc
    exact act_call hio hR ho hc hq he
  | move x =>
    rw [ho] at hc
    obtain ⟨a, _, hc⟩ := ob_eq hc
    exact (noW_p hc).elim
  | assign x =>
    rw [ho] at hc
    obtain ⟨a, _, hc⟩ := ob_eq hc
    exact (noW_p hc).elim
  | pick c a b =>
    rw [ho] at hc
    obtain ⟨_, _, hc⟩ := ob_eq hc
    obtain ⟨_, _, hc⟩ := ob_eq hc
    obtain ⟨_, _, hc⟩ := ob_eq hc
    exact (noW_p hc).elim
  | alloc e =>
    rw [ho] at hc
    obtain ⟨_, _, hc⟩ := ob_eq hc
    exact (noW_a hc).elim
  | box e x =>
    rw [ho] at hc
    obtain ⟨_, _, hc⟩ := ob_eq hc
    exact (noW_a hc).elim
  | build t parts =>
    rw [ho] at hc
    obtain ⟨z, _, hc⟩ := ob_eq hc
    obtain ⟨d, _, hc⟩ := ob_eq hc
    unfold kBuild1 at hc
    split at hc
    · obtain ⟨_, _, hc⟩ := ob_eq hc
      obtain ⟨_, _, hc⟩ := ob_eq hc
      exact (noW_p hc).elim
    · obtain ⟨_, _, hc⟩ := ob_eq hc
      obtain ⟨_, _, hc⟩ := ob_eq hc
      exact (noW_p hc).elim
    · exact nomatch hc
  | buildSlice t n parts =>
    rw [ho] at hc
    obtain ⟨d, _, hc⟩ := ob_eq hc
    unfold kBuildSl1 at hc
    split at hc
    · obtain ⟨_, _, hc⟩ := ob_eq hc
      obtain ⟨_, _, hc⟩ := ob_eq hc
      obtain ⟨_, _, hc⟩ := ob_eq hc
      obtain ⟨_, hc⟩ := ot_eq hc
      exact (noW_a hc).elim
    · exact nomatch hc
  | load t a =>
    rw [ho] at hc
    obtain ⟨_, _, hc⟩ := ob_eq hc
    obtain ⟨g, _, hc⟩ := ob_eq hc
    rw [bif2_eq] at hc
    split at hc
    · obtain ⟨_, _, hc⟩ := ob_eq hc
      exact (noW_l hc).elim
    · exact (noW_l hc).elim
  | nilCheck x =>
    rw [ho] at hc
    obtain ⟨_, _, hc⟩ := ob_eq hc
    exact (noW_p hc).elim
  | binOp op t x y p =>
    rw [ho] at hc
    obtain ⟨_, _, hc⟩ := ob_eq hc
    obtain ⟨_, _, hc⟩ := ob_eq hc
    rw [bif2_eq] at hc
    split at hc
    · obtain ⟨d, _, hc⟩ := ob_eq hc
      unfold kBin1 at hc
      split at hc
      · exact (noW_p hc).elim
      · exact (noW_p hc).elim
      · obtain ⟨_, hc⟩ := ot_eq hc
        obtain ⟨_, _, hc⟩ := ob_eq hc
        exact (noW_p hc).elim
      · obtain ⟨_, hc⟩ := ot_eq hc
        obtain ⟨_, _, hc⟩ := ob_eq hc
        exact (noW_p hc).elim
    · exact (noW_p hc).elim
  | unOp op t x =>
    rw [ho] at hc
    obtain ⟨_, _, hc⟩ := ob_eq hc
    exact (noW_p hc).elim
  | convert s d x =>
    rw [ho] at hc
    obtain ⟨_, _, hc⟩ := ob_eq hc
    obtain ⟨_, _, hc⟩ := ob_eq hc
    obtain ⟨_, _, hc⟩ := ob_eq hc
    unfold kConv1 at hc
    split at hc
    · exact (noW_p hc).elim
    · exact (noW_p hc).elim
    · exact (noW_p hc).elim
    · obtain ⟨_, _, hc⟩ := ob_eq hc
      obtain ⟨_, hc⟩ := ot_eq hc
      obtain ⟨_, _, hc⟩ := ob_eq hc
      obtain ⟨_, hc⟩ := ot_eq hc
      exact (noW_a hc).elim
    · obtain ⟨_, _, hc⟩ := ob_eq hc
      obtain ⟨_, hc⟩ := ot_eq hc
      exact (noW_l hc).elim
    · obtain ⟨_, _, hc⟩ := ob_eq hc
      obtain ⟨_, hc⟩ := ot_eq hc
      exact (noW_l hc).elim
    · obtain ⟨_, _, hc⟩ := ob_eq hc
      obtain ⟨_, hc⟩ := ot_eq hc
      exact (noW_l hc).elim
    · exact nomatch hc
  | makeInterface t x =>
    rw [ho] at hc
    obtain ⟨_, _, hc⟩ := ob_eq hc
    obtain ⟨_, _, hc⟩ := ob_eq hc
    obtain ⟨_, hc⟩ := ot_eq hc
    exact (noW_p hc).elim
  | makeFunc fn a b =>
    rw [ho] at hc
    obtain ⟨_, _, hc⟩ := ob_eq hc
    obtain ⟨_, _, hc⟩ := ob_eq hc
    obtain ⟨_, hc⟩ := ot_eq hc
    exact (noW_p hc).elim
  | makeMap t r =>
    rw [ho] at hc
    cases r with
    | none => exact (noW_a hc).elim
    | some r => exact nomatch hc
  | makeSlice t l c =>
    rw [ho] at hc
    obtain ⟨_, _, hc⟩ := ob_eq hc
    obtain ⟨_, _, hc⟩ := ob_eq hc
    obtain ⟨d, _, hc⟩ := ob_eq hc
    unfold kMkSl1 at hc
    split at hc
    · obtain ⟨_, _, hc⟩ := ob_eq hc
      obtain ⟨_, _, hc⟩ := ob_eq hc
      exact (noW_a hc).elim
    · exact nomatch hc
  | slice t x lo hi mx =>
    rw [ho] at hc
    obtain ⟨_, _, hc⟩ := ob_eq hc
    obtain ⟨_, _, hc⟩ := ob_eq hc
    obtain ⟨_, _, hc⟩ := ob_eq hc
    obtain ⟨_, _, hc⟩ := ob_eq hc
    obtain ⟨d, _, hc⟩ := ob_eq hc
    unfold kSlice1 at hc
    split at hc
    · obtain ⟨_, hc⟩ := ot_eq hc
      exact (noW_p hc).elim
    · obtain ⟨_, _, hc⟩ := ob_eq hc
      obtain ⟨_, hc⟩ := ot_eq hc
      exact (noW_p hc).elim
    · obtain ⟨_, _, hc⟩ := ob_eq hc
      obtain ⟨_, hc⟩ := ot_eq hc
      exact (noW_p hc).elim
    · exact nomatch hc
  | fieldAddr t x f =>
    rw [ho] at hc
    obtain ⟨_, _, hc⟩ := ob_eq hc
    obtain ⟨d, _, hc⟩ := ob_eq hc
    unfold kFieldAddr1 at hc
    split at hc
    · obtain ⟨_, _, hc⟩ := ob_eq hc
      obtain ⟨_, _, hc⟩ := ob_eq hc
      obtain ⟨_, hc⟩ := ot_eq hc
      exact (noW_p hc).elim
    · exact nomatch hc
  | field t x f =>
    rw [ho] at hc
    obtain ⟨_, _, hc⟩ := ob_eq hc
    obtain ⟨d, _, hc⟩ := ob_eq hc
    unfold kField1 at hc
    split at hc
    · obtain ⟨_, _, hc⟩ := ob_eq hc
      obtain ⟨_, _, hc⟩ := ob_eq hc
      obtain ⟨_, _, hc⟩ := ob_eq hc
      exact (noW_p hc).elim
    · exact nomatch hc
  | indexAddr t x ix =>
    rw [ho] at hc
    obtain ⟨_, _, hc⟩ := ob_eq hc
    obtain ⟨_, _, hc⟩ := ob_eq hc
    obtain ⟨d, _, hc⟩ := ob_eq hc
    unfold kIxAddr1 at hc
    split at hc
    · obtain ⟨_, _, hc⟩ := ob_eq hc
      exact (noW_p hc).elim
    · obtain ⟨_, _, hc⟩ := ob_eq hc
      exact (noW_p hc).elim
    · exact nomatch hc
  | index t x ix =>
    rw [ho] at hc
    obtain ⟨_, _, hc⟩ := ob_eq hc
    obtain ⟨_, _, hc⟩ := ob_eq hc
    obtain ⟨d, _, hc⟩ := ob_eq hc
    unfold kIndex1 at hc
    split at hc
    · obtain ⟨_, _, hc⟩ := ob_eq hc
      obtain ⟨_, _, hc⟩ := ob_eq hc
      exact (noW_p hc).elim
    · exact (noW_p hc).elim
    · exact nomatch hc
  | lookup t x k ok =>
    rw [ho] at hc
    obtain ⟨_, _, hc⟩ := ob_eq hc
    obtain ⟨_, _, hc⟩ := ob_eq hc
    obtain ⟨d, _, hc⟩ := ob_eq hc
    unfold kLookup1 at hc
    split at hc
    · obtain ⟨_, _, hc⟩ := ob_eq hc
      exact (noW_l hc).elim
    · exact nomatch hc
  | range t x =>
    rw [ho] at hc
    obtain ⟨_, _, hc⟩ := ob_eq hc
    obtain ⟨_, _, hc⟩ := ob_eq hc
    obtain ⟨_, hc⟩ := ot_eq hc
    exact (noW_a hc).elim
  | typeAssert x xt t ok =>
    rw [ho] at hc
    obtain ⟨_, _, hc⟩ := ob_eq hc
    obtain ⟨_, _, hc⟩ := ob_eq hc
    obtain ⟨_, _, hc⟩ := ob_eq hc
    obtain ⟨_, hc⟩ := ot_eq hc
    exact (noW_p hc).elim
  | extract t ix =>
    rw [ho] at hc
    obtain ⟨_, _, hc⟩ := ob_eq hc
    exact (noW_p hc).elim
  | _ => rw [ho] at hc; exact nomatch hc
end
end Go.Ev
end

section
/- Ev, part 28: functions without a body. -/
namespace Go.Ev
variable [F : Facts] [E : Env]
set_option linter.unusedSimpArgs false
set_option linter.unusedVariables false
set_option linter.unusedSectionVars false
variable {P : Program} {μ : Mu}

theorem idxOf_ok (c : UInt8) : ∀ (l : List UInt8) (i : Nat), (match idxOf c.toNat (l.map UInt8.toNat) i with | some j => (j : Int) | none => -1) = (if Lib.indexByte l c == -1 then -1 else (i : Int) + Lib.indexByte l c) ∧ (∀ j, idxOf c.toNat (l.map UInt8.toNat) i = some j → i ≤ j) := by
  intro l
  induction l with
  | nil => intro i; exact ⟨rfl, (fun j h => nomatch h)⟩
  | cons b l ih =>
    intro i
    have hstep : idxOf c.toNat ((b :: l).map UInt8.toNat) i = if b = c then some i else idxOf c.toNat (l.map UInt8.toNat) (i + 1) := by
      show bif2 (Nat.beq b.toNat c.toNat) (some i) (idxOf c.toNat (l.map UInt8.toNat) (Nat.succ i)) = _
      rw [bif2_eq, nbeq_eq]
      by_cases e : b = c
      · subst e; simp
      · rw [if_neg (by
          simp only [decide_eq_true_eq]
          intro h; exact e (UInt8.toNat_inj.1 h)), if_neg e]
    rw [hstep]
    unfold Lib.indexByte
    by_cases e : b = c
    · subst e
      simp
    · have e' : (b == c) = false := by simpa using e
      obtain ⟨h1, h2⟩ := ih (i + 1)
      have hge := Lib.indexByte_ge l c
      rw [if_neg e, e']
      simp only [Bool.false_eq_true, if_false]
      refine ⟨?_, fun j hj => by have := h2 j hj; omega⟩
      rw [h1]
      by_cases h3 : (Lib.indexByte l c == -1) = true
      · simp [h3]
      · have h3' : (Lib.indexByte l c == -1) = false := by simpa using h3
        have h4 : ((Lib.indexByte l c + 1) == -1) = false := by
          have : Lib.indexByte l c ≠ -1 := by simpa using h3
          rw [beq_eq_false_iff_ne]
          omega
        simp only [h3', Bool.false_eq_true, if_false, h4]
        omega
theorem extIdx_ok (l : List UInt8) (c : UInt8) : extIdx l.length (bytesNum l) c.toNat = some (.int .i64 (Lib.indexByte l c)) := by
  unfold extIdx
  rw [bytesN_eq]
  have h := (idxOf_ok c l 0).1
  cases hh : idxOf c.toNat (l.map UInt8.toNat) 0 with
  | none =>
    rw [hh] at h
    have : Lib.indexByte l c = -1 := by
      by_cases h3 : (Lib.indexByte l c == -1) = true
      · simpa using h3
      · have h3' : (Lib.indexByte l c == -1) = false := by simpa using h3
        simp only [h3', Bool.false_eq_true, if_false] at h
        omega
    rw [this]
    rfl
  | some j =>
    rw [hh] at h
    have : Lib.indexByte l c = (j : Int) := by
      by_cases h3 : (Lib.indexByte l c == -1) = true
      · simp only [h3, if_true] at h
        omega
      · have h3' : (Lib.indexByte l c == -1) = false := by simpa using h3
        simp only [h3', Bool.false_eq_true, if_false] at h
        omega
    rw [this]
    rfl
theorem cntOf_ok (c : UInt8) (l : List UInt8) : cntOf c.toNat (l.map UInt8.toNat) = Lib.countByte l c := by
  induction l with
  | nil => rfl
  | cons b l ih =>
    show bif2 (Nat.beq b.toNat c.toNat) (Nat.succ (cntOf c.toNat (l.map UInt8.toNat))) (cntOf c.toNat (l.map UInt8.toNat)) = _
    rw [ih, bif2_eq, nbeq_eq]
    unfold Lib.countByte
    rw [List.count_cons]
    by_cases e : b = c
    · subst e; simp
    · rw [if_neg (by
        simp only [decide_eq_true_eq]
        intro h; exact e (UInt8.toNat_inj.1 h))]
      have e' : (b == c) = false := by simpa using e
      simp [e']

theorem byte1_eq {f : Nat → Option AV} {v r : AV} {v' : Value} (h : byte1 f v = some r) (hv : VR μ v v') : ∃ c : UInt8, v' = .int .u8 (c.toNat : Int) ∧ f c.toNat = some r := by
  unfold byte1 at h
  split at h
  · obtain ⟨k, n, e, h2⟩ := onNat_eq h
    injection e with e0 e1
    subst e1
    obtain ⟨hlt, h3⟩ := ot_eq h2
    rw [nlt_eq, decide_eq_true_eq] at hlt
    have hc : (UInt8.ofNat n).toNat = n := by simp; omega
    refine ⟨UInt8.ofNat n, ?_, ?_⟩
    · rw [hc]; exact hv.inv_int
    · rw [hc]; exact h3
  · exact nomatch h

theorem ext2_eq {f : Nat → Nat → Nat → Option AV} {args : List AV} {v : AV} {args' : List Value} (h : ext2 f args = some v) (ha : VRs μ args args') :
    ∃ (s : ByteArray) (c : UInt8), args' = [.string s, .int .u8 (c.toNat : Int)] ∧ f s.data.toList.length (bytesNum s.data.toList) c.toNat = some v := by
  unfold ext2 at h
  split at h
  · rename_i s c
    obtain ⟨l, n, e, h2⟩ := onStr_eq h
    subst e
    cases ha with
    | cons h3 ha =>
    cases ha with
    | cons h4 ha =>
    cases ha with
    | nil =>
    obtain ⟨s', e, hl, hn⟩ := h3.inv_str
    subst e; subst hl; subst hn
    obtain ⟨c', e, h5⟩ := byte1_eq h2 h4
    subst e
    exact ⟨s', c', rfl, h5⟩
  · exact nomatch h

theorem toNat_toUInt8 (c : UInt8) : ((c.toNat : Int).toNat).toUInt8 = c := by simp

theorem find_idx : ∀ fn : Func, fn.name = "internal/bytealg.IndexByteString" → fn.origin = "" → Extern.findNext fn = none ∧ Extern.find fn = some Extern.BytealgIndexByte.indexByte := by
  intro fn h1 h2
  unfold Extern.findNext Extern.find
  rw [h1, h2]
  exact ⟨rfl, rfl⟩
theorem find_cnt : ∀ fn : Func, fn.name = "internal/bytealg.CountString" → fn.origin = "" → Extern.findNext fn = none ∧ Extern.find fn = some Extern.BytealgCount.count := by
  intro fn h1 h2
  unfold Extern.findNext Extern.find
  rw [h1, h2]
  exact ⟨rfl, rfl⟩
theorem find_esc : ∀ fn : Func, fn.name = "internal/abi.NoEscape" → fn.origin = "" → Extern.findNext fn = none ∧ Extern.find fn = some Extern.AbiNoEscape.same := by
  intro fn h1 h2
  unfold Extern.findNext Extern.find
  rw [h1, h2]
  exact ⟨rfl, rfl⟩

theorem callFunc_ext {f : FuncId} {fn : Func} {e : Array Value → Sem Value} {args : Array Value} {w : World} {v : Value} (hf : P.funcs[f]? = some fn) (hb : fn.body = none) (hn : (fn.name == "runtime.NumGoroutine") = false)
    (h1 : Extern.findNext fn = none) (h2 : Extern.find fn = some e) (h3 : (e args).run P w = .ok v w) : (callFunc f args).run P w = .ok (.value v) w := by
  unfold callFunc
  show (program >>= fun _ => _).run P w = _
  rw [run_ok (show program.run P w = .ok P w from rfl)]
  simp only [hf, hn, hb, Option.isNone_none, if_true, Bool.false_eq_true, if_false]
  show (mark (.extern f) >>= fun _ => _).run P w = _
  rw [run_ok (show (mark (.extern f)).run P w = .ok () w from rfl)]
  simp only [h1, h2]
  show (e args >>= fun _ => _).run P w = _
  rw [run_ok h3]; rfl

theorem ext_ok {f : FuncId} {fn : Func} {args : List AV} {args' : Array Value} {v : AV} {w : World} (hf : P.funcs[f]? = some fn) (hb : fn.body = none) (hn : (fn.name == "runtime.NumGoroutine") = false) (ho : fn.origin = "")
    (he : extern (kindOfExt fn.name) args = some v) (ha : VRs μ args args'.toList) : ∃ v', (callFunc f args').run P w = .ok (.value v') w ∧ VR μ v v' := by
  unfold kindOfExt at he
  split at he
  · rename_i hname
    have hname' := eq_of_beq hname
    obtain ⟨s, c, e, h⟩ := ext2_eq (show ext2 extIdx args = some v from he) ha
    obtain ⟨g1, g2⟩ := find_idx fn hname' ho
    have ea : args' = #[.string s, .int .u8 (c.toNat : Int)] := two_arr e
    refine ⟨_, callFunc_ext hf hb hn g1 g2 (by rw [ea]; exact Lib.run_indexByteString s _ w), ?_⟩
    rw [extIdx_ok] at h
    injection h with h
    rw [← h, toNat_toUInt8]
    exact .int _ _
  · split at he
    · rename_i hname
      have hname' := eq_of_beq hname
      obtain ⟨s, c, e, h⟩ := ext2_eq (show ext2 (fun l n c => some (goN (cntOf c (bytesN l n)))) args = some v from he) ha
      obtain ⟨g1, g2⟩ := find_cnt fn hname' ho
      have ea : args' = #[.string s, .int .u8 (c.toNat : Int)] := two_arr e
      refine ⟨_, callFunc_ext hf hb hn g1 g2 (by rw [ea]; exact Lib.run_countString s _ w), ?_⟩
      injection h with h
      rw [← h, bytesN_eq, cntOf_ok, toNat_toUInt8]
      exact .int _ _
    · split at he
      · rename_i hname
        have hname' := eq_of_beq hname
        replace he : ext1 args = some v := he
        unfold ext1 at he
        split at he
        · rename_i x
          injection he with he
          subst he
          cases h : args'.toList with
          | nil => rw [h] at ha; exact nomatch ha
          | cons y l =>
            rw [h] at ha
            cases ha with
            | cons h1 h2 =>
            cases h2 with
            | nil =>
            have ea : args' = #[y] := one_arr h
            obtain ⟨g1, g2⟩ := find_esc fn hname' ho
            exact ⟨y, callFunc_ext hf hb hn g1 g2 (by rw [ea]; rfl), h1⟩
        · exact nomatch he
      · exact nomatch he
end Go.Ev
end

section
/- Ev, part 29: the machine's frames and steps. -/
namespace Go.Ev
variable [F : Facts] [E : Env]
set_option linter.unusedSimpArgs false
set_option linter.unusedVariables false
set_option linter.unusedSectionVars false
variable {P : Program} {μ : Mu}

/-- a frame at a place -/
def frm (b : Frame) (t : Array Value) (ds : List Deferred) (todo : List Item) : Frame := { b with tmps := t, todo := todo, defers := ds, mode := .run }
def evT (t : Array Value) : Operand → Value
  | .tmp i => t.getD i undef
  | .const v => v
  | .global g => .pointer (some ⟨g, 0, none⟩)
  | .func f => .func (.func f) #[] #[]
theorem frm_eval (b : Frame) (t : Array Value) (ds : List Deferred) (todo : List Item) : (frm b t ds todo).eval = evT t := by
  funext x; cases x <;> rfl

section steps
variable {b : Frame} {t : Array Value} {ds : List Deferred} {k : List Item} {cs : List Frame} {w : World}
theorem st_skip : step P (lone (frm b t ds (.code .skip :: k)) cs w) = .next (lone (frm b t ds k) cs w) := step_lone_go (by simp [stepG, stepG.exec, frm])
theorem st_label {l : Nat} : step P (lone (frm b t ds (.code (.label l) :: k)) cs w) = .next (lone (frm b t ds k) cs w) := step_lone_go (by simp [stepG, stepG.exec, frm])
theorem st_inBlock {id : Nat} : step P (lone (frm b t ds (.inBlock id :: k)) cs w) = .next (lone (frm b t ds k) cs w) := step_lone_go (by simp [stepG, stepG.exec, frm])
theorem st_inScope {c : Code} : step P (lone (frm b t ds (.inScope c :: k)) cs w) = .next (lone (frm b t ds k) cs w) := step_lone_go (by simp [stepG, stepG.exec, frm])
theorem st_seq {x y : Code} : step P (lone (frm b t ds (.code (.seq x y) :: k)) cs w) = .next (lone (frm b t ds (.code x :: .code y :: k)) cs w) := step_lone_go (by simp [stepG, stepG.exec, frm])
theorem st_cond {c : Operand} {x y : Code} {v : Bool} (h : evT t c = .bool v) : step P (lone (frm b t ds (.code (.cond c x y) :: k)) cs w) = .next (lone (frm b t ds (.code (if v then x else y) :: k)) cs w) :=
  step_lone_go (by
    have he := congrFun (frm_eval b t ds (.code (.cond c x y) :: k)) c
    simp only [frm] at he
    simp [stepG, stepG.exec, frm, he, h])
theorem st_block {id : Nat} {c : Code} : step P (lone (frm b t ds (.code (.block id c) :: k)) cs w) = .next (lone (frm b t ds (.code c :: .inBlock id :: k)) cs w) := step_lone_go (by simp [stepG, stepG.exec, frm])
theorem st_loop {c : Code} : step P (lone (frm b t ds (.code (.loop c) :: k)) cs w) = .next (lone (frm b t ds (.code c :: .inLoop c :: k)) cs w) := step_lone_go (by simp [stepG, stepG.exec, frm])
theorem st_inLoop {c : Code} : step P (lone (frm b t ds (.inLoop c :: k)) cs w) = .next (lone (frm b t ds (.code c :: .inLoop c :: k)) cs w) := step_lone_go (by simp [stepG, stepG.exec, frm])
theorem st_scope {c : Code} : step P (lone (frm b t ds (.code (.scope c) :: k)) cs w) = .next (lone (frm b t ds (.code c :: .inScope c :: k)) cs w) := step_lone_go (by simp [stepG, stepG.exec, frm])
theorem st_exit {id : Nat} {k' : List Item} (h : exitTo id k = some k') : step P (lone (frm b t ds (.code (.exit id) :: k)) cs w) = .next (lone (frm b t ds k') cs w) := step_lone_go (by simp [stepG, stepG.exec, frm, h])
theorem st_region {id : Nat} {ops : Array Oper} : step P (lone (frm b t ds (.code (.region id ops false) :: k)) cs w) = .next (lone (frm b t ds (.inRegion ops (List.range ops.size) :: k)) cs w) := step_lone_go (by simp [stepG, stepG.exec, frm])
theorem st_draw {id : Nat} {ops : Array Oper} : step P (lone (frm b t ds (.code (.region id ops true) :: k)) cs w) =
    .next (lone (frm b t ds (.inRegion ops (Region.schedule (P.follows .mixedOrders) ops (w.tape w.drawn (.order b.fn id))) :: k)) cs { w with drawn := w.drawn + 1 }) :=
  step_lone_go (by simp [stepG, stepG.exec, frm, choose, Sem.run, Question.forced, Question.cut])
theorem st_region_end {ops : Array Oper} : step P (lone (frm b t ds (.inRegion ops [] :: k)) cs w) = .next (lone (frm b t ds k) cs w) := step_lone_go (by simp [stepG, stepG.exec, frm])

/-- a temporary is written -/
def putT (t : Array Value) (d : Option Nat) (v : Value) : Array Value :=
  match d with
  | some d => t.setIfInBounds d v
  | none => t
theorem finish_frm (ops : Array Oper) (i : Nat) (rest : List Nat) (v : Value) :
    (frm b t ds (.inRegion ops (i :: rest) :: k)).finish v = frm b (putT t ((ops[i]?).bind (·.dst)) v) ds (.inRegion ops rest :: k) := by
  cases h : (ops[i]?).bind (·.dst) <;> simp [Frame.finish, frm, putT, h]
theorem st_op_skip {ops : Array Oper} {i : Nat} {rest : List Nat} {o : Oper} (ho : ops[i]? = some o) (hw : Region.wanted o (yielded ops t) = false) :
    step P (lone (frm b t ds (.inRegion ops (i :: rest) :: k)) cs w) = .next (lone (frm b (putT t o.dst undef) ds (.inRegion ops rest :: k)) cs w) := by
  have hf := finish_frm (b := b) (t := t) (ds := ds) (k := k) ops i rest undef
  rw [ho] at hf
  rw [show putT t o.dst undef = putT t ((some o).bind (·.dst)) undef from rfl, ← hf]
  exact step_lone_go (by simp [stepG, stepG.exec, frm, ho, hw])
theorem st_op {ops : Array Oper} {i : Nat} {rest : List Nat} {o : Oper} (ho : ops[i]? = some o) (hw : Region.wanted o (yielded ops t) = true) (hd : ∀ c, o.op ≠ .defer c) :
    stepG P true { frame := frm b t ds (.inRegion ops (i :: rest) :: k), callers := cs, status := .running, dying := none } w =
      stepG.apply P true (frm b t ds (.inRegion ops (i :: rest) :: k)) cs none (execOp (evT t) o) w := by
  have he := frm_eval b t ds (.inRegion ops (i :: rest) :: k)
  simp only [frm] at he
  simp only [stepG, stepG.exec, stepG.oper, Frame.oper?, frm, ho, hw, he, Option.map_some, Option.getD_some, if_true]
  split
  · rename_i l c _ hop; exact absurd hop (hd c)
  · rfl
end steps

/-- at a place where what an operation gives is looked for -/
def Top (fr : Frame) : Prop := (∃ ops i rest k, fr.todo = .inRegion ops (i :: rest) :: k) ∨ (∃ l k, fr.todo = .inRangeFunc l :: k)

theorem apply_value {fr : Frame} {cs : List Frame} {s : Sem Next} {w w' : World} {v : Value} (h : s.run P w = .ok (.value v) w') :
    (stepG.apply P true fr cs none s w).bare = .go { frame := fr.finish v, callers := cs, status := .running, dying := none } w' := by
  simp [stepG.apply, h]
theorem apply_skip {fr : Frame} {cs : List Frame} {s : Sem Next} {w w' : World} (h : s.run P w = .ok .skip w') :
    (stepG.apply P true fr cs none s w).bare = .go { frame := fr.finish undef, callers := cs, status := .running, dying := none } w' := by
  simp [stepG.apply, h]
theorem apply_enter {fr : Frame} {cs : List Frame} {s : Sem Next} {w w' : World} {f : FuncId} {args : Array Value} (hf : Top fr) (h : s.run P w = .ok (.enter f args) w') :
    (stepG.apply P true fr cs none s w).bare = .go { frame := Frame.enter P f args .normal, callers := fr :: cs, status := .running, dying := none } w' := by
  rcases hf with ⟨ops, i, rest, k, ht⟩ | ⟨l, k, ht⟩ <;> simp [stepG.apply, h, ht]
theorem apply_round {fr : Frame} {cs : List Frame} {s : Sem Next} {w w' : World} {l : Nat} {f : FuncId} {t : Array Value} {a bo : Code} (h : s.run P w = .ok (.round l f t a bo) w') :
    (stepG.apply P true fr cs none s w).bare = .go { frame := Frame.round l f t a bo .normal, callers := fr :: cs, status := .running, dying := none } w' := by
  simp [stepG.apply, h]

/-- what an operation's run comes back with -/
def BackR (P : Program) (Q : Value → World → Prop) : Result Next → Prop
  | .ok (.value v) w' => Q v w'
  | .ok .skip w' => Q undef w'
  | .ok (.enter f args) w' => Calls P f args w' fun e w'' => ∃ v', e = .returned v' ∧ Q v' w''
  | .ok (.round l f t a bo) w' => ∀ (c : Frame) (cs : List Frame), Top c → ∃ v' w'', Q v' w'' ∧ Steps P (lone (Frame.round l f t a bo .normal) (c :: cs) w') (lone (c.finish v') cs w'')
  | _ => False
/-- an operation comes back with a value -/
def Back (P : Program) (s : Sem Next) (w : World) (Q : Value → World → Prop) : Prop := BackR P Q (s.run P w)

theorem Back.of_run {s s' : Sem Next} {w : World} {Q : Value → World → Prop} (h : s.run P w = s'.run P w) (k : Back P s' w Q) : Back P s w Q := by
  unfold Back
  rw [h]; exact k
theorem Back.of_bind {α : Type} {s : Sem α} {f : α → Sem Next} {w w' : World} {a : α} {Q : Value → World → Prop} (h : s.run P w = .ok a w') (k : Back P (f a) w' Q) : Back P (s >>= f) w Q := by
  unfold Back
  rw [run_ok h]; exact k

theorem Back.steps {s : Sem Next} {w w0 : World} {Q : Value → World → Prop} (h : Back P s w Q) {fr fr0 : Frame} {cs : List Frame} (ht : Top fr)
    (he : (stepG P true { frame := fr0, callers := cs, status := .running, dying := none } w0).bare = (stepG.apply P true fr cs none s w).bare) :
    ∃ v' w', Q v' w' ∧ Steps P (lone fr0 cs w0) (lone (fr.finish v') cs w') := by
  unfold Back at h
  generalize hr : s.run P w = r at h
  cases r with
  | halt x w' => exact h.elim
  | ok n w' =>
    cases n with
    | value v => exact ⟨v, w', h, Steps.one (step_lone_go (he.trans (apply_value hr)))⟩
    | skip => exact ⟨undef, w', h, Steps.one (step_lone_go (he.trans (apply_skip hr)))⟩
    | enter f args =>
      obtain ⟨e, w'', fr', ⟨v', hev, hq⟩, hcomes, _, hleave⟩ := h (fr :: cs)
      subst hev
      have h1 : Steps P (lone fr0 cs w0) (lone (Frame.enter P f args .normal) (fr :: cs) w') := Steps.one (step_lone_go (he.trans (apply_enter ht hr)))
      have h2 : Steps P (lone (Frame.enter P f args .normal) (fr :: cs) w') (lone fr' (fr :: cs) w'') := hcomes
      exact ⟨v', w'', hq, (h1.trans h2).trans (Steps.one (step_leave_returned hleave))⟩
    | round l f t a bo =>
      obtain ⟨v', w'', hq, hs⟩ := h fr cs ht
      exact ⟨v', w'', hq, Steps.head (step_lone_go (he.trans (apply_round hr))) hs⟩
    | _ => exact h.elim

theorem Acts.back {A A' : AH} {w : World} {s : Sem Next} {v : AV} (h : Acts P μ A w s v A') : Back P s w (Post P μ A w v A') := by
  obtain ⟨nx, v', w', h1, h2, h3⟩ := h
  unfold Back
  rw [h1]
  rcases h2 with rfl | ⟨rfl, rfl⟩
  · exact h3
  · exact h3
theorem Gives.back {A : AH} {w : World} {s : Sem Next} {v : AV} (hR : R P μ A w) (h : Gives P μ s w v) : Back P s w (Post P μ A w v A) := by
  obtain ⟨v', h1, h2⟩ := h
  unfold Back
  rw [h1]
  exact ⟨μ, hR, h2, Kept.refl _ _ _ _⟩
theorem Born.back {A : AH} {w : World} {s : Sem Next} {v : AV} {ob : AObj} (hR : R P μ A w) (h : Born P μ A.next w ob v s) : Back P s w (Post P μ A w v (A.new ob)) := by
  obtain ⟨o', v', w', x, h1, h2, h3, h4⟩ := h
  unfold Back
  rw [h1]
  obtain ⟨q1, q2⟩ := hR.made h2 h4
  exact ⟨_, q1, h3, q2⟩

/-! ### what the temporaries are -/
theorem env_ior {A : AH} {w : World} {env : T AV} {t : Array Value} (hR : R P μ A w) (h : EnvR μ env t) (res : T AV) : IOR μ (plainW P) (ioOf env res) (evT t) := by
  intro x a v hx ha
  cases x with
  | tmp i =>
    replace hx : some (Opd.t i) = some a := hx
    injection hx with hx
    subst hx
    obtain ⟨v', h1, h2⟩ := h i v ha
    show VR μ v (t.getD i undef)
    rw [Array.getD_eq_getD_getElem?, h1]
    exact h2
  | const c =>
    obtain ⟨u, hu, hx⟩ := ob_eq hx
    injection hx with hx
    subst hx
    injection ha with ha
    subst ha
    exact ofValue_rel μ _ _ _ hu
  | global g =>
    obtain ⟨hg, hx⟩ := ot_eq (show ot (nlt g P.globals.size) _ = some a from hx)
    rw [nlt_eq, decide_eq_true_eq] at hg
    injection hx with hx
    subst hx
    injection ha with ha
    subst ha
    exact VR.ptr (o := 0) (hR.glob g hg)
  | func f =>
    injection hx with hx
    subst hx
    injection ha with ha
    subst ha
    exact .fn f .nil .nil

/-! ### what calls do -/
/-- what a recursion's calls are worth -/
def CallsOK (P : Program) (FR : Rec) : Prop := ∀ f args A v A', FR.call f args A = some (v, A') → ∀ (μ : Mu) (w : World) (args' : Array Value), R P μ A w → VRs μ args args'.toList →
  Back P (callFunc f args') w (Post P μ A w v A')
end Go.Ev
end

section
/- Ev, part 30: what code comes to; the rounds of a range over a function. -/
namespace Go.Ev
variable [F : Facts] [E : Env]
set_option linter.unusedSimpArgs false
set_option linter.unusedVariables false
set_option linter.unusedSectionVars false
set_option linter.constructorNameAsVariable false
variable {P : Program} {μ : Mu}

def mark1 (r : Nat) : Deferred := { target := .collected r, args := #[] }
/-- the marks that ranges over functions left among a frame's deferred calls -/
structure Marks (b : Frame) (μ : Mu) (A : AH) (s0 : Nat) (w : World) (ms : List Deferred) : Prop where
  all : ∀ d ∈ ms, ∃ r, d = mark1 r ∧ s0 ≤ r ∧ w.heap[r]? = some (.deferred (some [])) ∧ ¬ Wr μ A r
  diff : ms.Pairwise (· ≠ ·)
  round : b.roundOf ≠ none → ms = []
theorem Marks.nil (b : Frame) (μ : Mu) (A : AH) (s0 : Nat) (w : World) : Marks b μ A s0 w [] := ⟨(fun d h => nomatch h), .nil, fun _ => rfl⟩

def OkF (b : Frame) (w : World) : Prop := ∀ l, b.roundOf = some l → ∃ L, w.heap[l]? = some (.loop L)
theorem OkF.kept {b : Frame} {w w' : World} {μ μ' : Mu} {A A' : AH} {B : Nat} (h : OkF b w) (k : Kept B μ μ' A A' w w') : OkF b w' :=
  fun l hl => let ⟨L, hL⟩ := h l hl; let ⟨L', h1, _⟩ := k.loops l L hL; ⟨L', h1⟩

/-- where code is once it has been begun -/
def entry (c : Code) (k : List Item) : List Item :=
  match c with
  | .loop body => .code body :: .inLoop body :: k
  | c => .code c :: k

def Goes (P : Program) (b : Frame) (k : List Item) (cs : List Frame) (m : Machine) (ex : Ex) (t : Array Value) (ds : List Deferred) (w : World) : Prop :=
  match ex with
  | .normal => Steps P m (lone (frm b t ds k) cs w)
  | .exit id => ∃ k2, exitTo id k2 = exitTo id k ∧ Steps P m (lone (frm b t ds (.code (.exit id) :: k2)) cs w)
  | .ret => ∃ k2, Steps P m (lone (frm b t ds (.code .ret :: k2)) cs w)
theorem Goes.of_steps {b : Frame} {k : List Item} {cs : List Frame} {m m1 : Machine} {ex : Ex} {t : Array Value} {ds : List Deferred} {w : World} (h : Steps P m m1) (g : Goes P b k cs m1 ex t ds w) : Goes P b k cs m ex t ds w := by
  cases ex with
  | normal => exact h.trans g
  | exit id => obtain ⟨k2, h1, h2⟩ := g; exact ⟨k2, h1, h.trans h2⟩
  | ret => obtain ⟨k2, h2⟩ := g; exact ⟨k2, h.trans h2⟩

theorem to_entry {b : Frame} {t : Array Value} {ds : List Deferred} {c : Code} {k : List Item} {cs : List Frame} {w : World} : Steps P (lone (frm b t ds (.code c :: k)) cs w) (lone (frm b t ds (entry c k)) cs w) := by
  cases c with
  | loop body => exact .one st_loop
  | _ => exact .refl _ _

/-- what stands once code has been run -/
structure Fin (P : Program) (μ : Mu) (A : AH) (w : World) (t : Array Value) (b : Frame) (env' : T AV) (A' : AH) (μ' : Mu) (w' : World) (t' : Array Value) (ms : List Deferred) : Prop where
  r : R P μ' A' w'
  env : EnvR μ' env' t'
  size : t'.size = t.size
  kept : Kept A.next μ μ' A A' w w'
  marks : Marks b μ' A' w.heap.size w' ms

theorem Marks.kept {b : Frame} {μ μ' : Mu} {A A' : AH} {s0 B : Nat} {w w' : World} {ms : List Deferred} (h : Marks b μ A s0 w ms) (k : Kept B μ μ' A A' w w') : Marks b μ' A' s0 w' ms where
  all d hd := by
    obtain ⟨r, h1, h2, h3, h4⟩ := h.all d hd
    have hlt := (Array.getElem?_eq_some_iff.1 h3).1
    exact ⟨r, h1, h2, by rw [k.block r hlt h4]; exact h3, fun hw => h4 (k.wr r hlt hw)⟩
  diff := h.diff
  round := h.round
theorem Marks.append {b : Frame} {μ : Mu} {A : AH} {s0 s1 : Nat} {w : World} {ms ms' : List Deferred} (h : Marks b μ A s0 w ms) (h' : Marks b μ A s1 w ms') (hs : s0 ≤ s1) (hlt : ∀ r, mark1 r ∈ ms → r < s1) : Marks b μ A s0 w (ms' ++ ms) where
  all d hd := by
    rcases List.mem_append.1 hd with hd | hd
    · obtain ⟨r, h1, h2, h3, h4⟩ := h'.all d hd
      exact ⟨r, h1, by omega, h3, h4⟩
    · exact h.all d hd
  diff := by
    refine List.pairwise_append.2 ⟨h'.diff, h.diff, ?_⟩
    intro d hd e he heq
    subst heq
    obtain ⟨r, h1, h2, _, _⟩ := h'.all d hd
    subst h1
    have := hlt r he
    omega
  round hb := by rw [h'.round hb, h.round hb]; rfl

theorem Fin.trans {A A1 A2 : AH} {w w1 w2 : World} {t t1 t2 : Array Value} {b : Frame} {env1 env2 : T AV} {μ1 μ2 : Mu} {ms1 ms2 : List Deferred} (h : Fin P μ A w t b env1 A1 μ1 w1 t1 ms1) (k : Fin P μ1 A1 w1 t1 b env2 A2 μ2 w2 t2 ms2) :
    Fin P μ A w t b env2 A2 μ2 w2 t2 (ms2 ++ ms1) where
  r := k.r
  env := k.env
  size := k.size.trans h.size
  kept := h.kept.trans (k.kept.weaken h.kept.next)
  marks := by
    refine (h.marks.kept k.kept).append k.marks h.kept.size ?_
    intro r hr
    obtain ⟨r', h1, _, h3, _⟩ := h.marks.all _ hr
    unfold mark1 at h1
    injection h1 with h1 _
    injection h1 with h1
    subst h1
    exact (Array.getElem?_eq_some_iff.1 h3).1

def CodeAt (P : Program) (FR : Rec) (nt : Nat) (c : Code) (ic : IC) : Prop :=
  ∀ env A ex env' A', FR.code ic env A = some (ex, env', A') → ∀ (μ : Mu) (w : World) (t : Array Value) (b : Frame) (ds : List Deferred) (k : List Item) (cs : List Frame), R P μ A w → EnvR μ env t → nt ≤ t.size → OkF b w →
    ∃ μ' w' t' ms, Fin P μ A w t b env' A' μ' w' t' ms ∧ Goes P b k cs (lone (frm b t ds (entry c k)) cs w) ex t' (ms ++ ds) w'
def CodesOK (P : Program) (FR : Rec) : Prop := ∀ c nt ic, comp P (ttOf P) nt c = some ic → CodeAt P FR nt c ic

theorem env_put {env : T AV} {t : Array Value} (h : EnvR μ env t) {v : AV} {v' : Value} (hv : VR μ v v') {p : Nat} (hp : p < t.size) : EnvR μ (env.put (some v) p) (t.setIfInBounds p v') := by
  intro i u hu
  rw [T.get_put] at hu
  rw [Array.getElem?_setIfInBounds]
  split at hu
  · rename_i e
    subst e
    injection hu with hu
    subst hu
    exact ⟨v', by rw [if_pos rfl, if_pos hp], hv⟩
  · rename_i e
    rw [if_neg (fun e' => e e'.symm)]
    exact h i u hu

theorem bindP_ok : ∀ {ps : List Nat} {vs : List AV} {env e : T AV} {t : Array Value} {args : List Value}, bindP ps vs e = some env → VRs μ vs args → EnvR μ e t → (∀ p ∈ ps, p < t.size) →
    ps.length = args.length ∧ EnvR μ env ((ps.zip args).foldl (fun t q => t.setIfInBounds q.1 q.2) t) ∧ ((ps.zip args).foldl (fun t q => t.setIfInBounds q.1 q.2) t).size = t.size := by
  intro ps
  induction ps with
  | nil =>
    intro vs env e t args h hv he hp
    cases vs with
    | nil =>
      cases hv
      have h2 : some e = some env := h
      injection h2 with h2
      subst h2
      exact ⟨rfl, he, rfl⟩
    | cons v vs => exact nomatch h
  | cons p ps ih =>
    intro vs env e t args h hv he hp
    cases vs with
    | nil => exact nomatch h
    | cons v vs =>
      have h : bindP ps vs (e.put (some v) p) = some env := h
      cases hv with
      | cons h1 h2 =>
      have hpt := hp p (by simp)
      obtain ⟨k1, k2, k3⟩ := ih h h2 (env_put he h1 hpt) (fun q hq => by rw [Array.size_setIfInBounds]; exact hp q (by simp [hq]))
      exact ⟨by simp [k1], k2, by rw [List.zip_cons_cons, List.foldl_cons, k3, Array.size_setIfInBounds]⟩

/-! ### rounds -/
theorem R.loopAt {A : AH} {w : World} (h : R P μ A w) {l : Nat} {st : LoopState} {p : Option Ex} {fn : FuncId} {tm : T AV} {ps : List Nat} {as bo : IC} {l' d : Nat} {x : Option (Nat × Nat)} (ho : A.obj l = some (.loop st p fn tm ps as bo)) (hm : μ l = some (l', d, x)) :
    ∃ L : Loop, w.heap[l']? = some (.loop L) ∧ ObjR P μ d x (.loop st p fn tm ps as bo) (.loop L) := by
  obtain ⟨o', h1, h2⟩ := h.obj l _ _ ho hm
  cases o' with
  | loop L => exact ⟨L, h1, h2⟩
  | _ => exact h2.elim
theorem run_getLoop {w : World} {l : Nat} {L : Loop} (h : w.heap[l]? = some (.loop L)) : (Instr.getLoop l).run P w = .ok L w := by
  unfold Instr.getLoop
  rw [run_ok (run_getObj h (fun c e f h => nomatch h))]; rfl

/-- a loop's state is changed -/
theorem R.loopSet {A : AH} {w : World} (h : R P μ A w) {l : Nat} {st st2 : LoopState} {p p2 : Option Ex} {pe : Option Code} {fn : FuncId} {tm : T AV} {ps : List Nat} {as bo : IC} {l' d : Nat} {x : Option (Nat × Nat)} (ho : A.obj l = some (.loop st p fn tm ps as bo)) (hm : μ l = some (l', d, x))
    {L : Loop} (hL : w.heap[l']? = some (.loop L)) (hr : ObjR P μ d x (.loop st p fn tm ps as bo) (.loop L)) (hp : PendR p2 pe) (B : Nat) :
    (setObj l' (.loop { L with state := st2, pending := pe })).run P w = .ok () { w with heap := w.heap.setIfInBounds l' (.loop { L with state := st2, pending := pe }) } ∧
    R P μ (A.set l (.loop st2 p2 fn tm ps as bo)) { w with heap := w.heap.setIfInBounds l' (.loop { L with state := st2, pending := pe }) } ∧
    Kept B μ μ A (A.set l (.loop st2 p2 fn tm ps as bo)) w { w with heap := w.heap.setIfInBounds l' (.loop { L with state := st2, pending := pe }) } := by
  have hset := setObj_wset hL (.loop { L with state := st2, pending := pe })
  refine ⟨run_setObj hL (fun c e f h => nomatch h), ?_⟩
  obtain ⟨h1, h2, h3, h4, nt, h5⟩ := hr
  exact h.plain (o2 := .loop st2 p2 fn tm ps as bo) ho hm hset rfl rfl rfl (show ObjR P μ d x (.loop st2 p2 fn tm ps as bo) (.loop { L with state := st2, pending := pe }) from ⟨rfl, hp, h3, h4, nt, h5⟩) (fun L0 hL0 => by
    rw [show w.heap[(l', d, x).1]? = w.heap[l']? from rfl, hL] at hL0
    injection hL0 with hL0
    injection hL0 with hL0
    subst hL0
    exact ⟨_, rfl, rfl⟩) B

section
variable {b : Frame} {t : Array Value} {ds : List Deferred} {c : Frame} {cs : List Frame} {w w' : World} {l : Nat} {v : Value}
theorem st_leave_normal (hr : b.roundOf = some l) (hk : b.kind = .normal) (h : (Instr.endRound l none).run P w = .ok v w') :
    step P (lone (frm b t ds []) (c :: cs) w) = .next (lone (c.finish v) cs w') :=
  step_lone_go (by simp [stepG, stepG.exec, frm, hr, hk, h, doReturn])
theorem st_leave_ret {k : List Item} (hr : b.roundOf = some l) (hk : b.kind = .normal) (h : (Instr.endRound l (some .ret)).run P w = .ok v w') :
    step P (lone (frm b t ds (.code .ret :: k)) (c :: cs) w) = .next (lone (c.finish v) cs w') :=
  step_lone_go (by simp [stepG, stepG.exec, frm, hr, hk, h, doReturn])
theorem st_leave_exit {k : List Item} {id : Nat} (hr : b.roundOf = some l) (hk : b.kind = .normal) (he : exitTo id k = none) (h : (Instr.endRound l (some (.exit id))).run P w = .ok v w') :
    step P (lone (frm b t ds (.code (.exit id) :: k)) (c :: cs) w) = .next (lone (c.finish v) cs w') :=
  step_lone_go (by simp [stepG, stepG.exec, frm, hr, hk, he, h, doReturn])
theorem st_beginRound {k : List Item} (hr : b.roundOf = some l) (h : (Instr.beginRound l).run P w = .ok () w') :
    step P (lone (frm b t ds (.beginRound :: k)) cs w) = .next (lone (frm b t ds k) cs w') := by
  have hs : (do (some l).elim (stuck "beginRound: no round") Instr.beginRound; pure Next.skip : Sem Next).run P w = .ok .skip w' := run_u h
  refine step_lone_go ?_
  have := apply_skip (P := P) (fr := frm b t ds (.beginRound :: k)) (cs := cs) hs
  simp only [stepG, stepG.exec, frm, hr] at this ⊢
  exact this
end

def exCode : Ex → Option Code
  | .normal => none
  | .exit id => some (.exit id)
  | .ret => some .ret
theorem pend_exCode (e : Ex) : PendR (pend e) (exCode e) := by cases e <;> first | trivial | rfl

theorem round_ok {FR : Rec} (hC : CodesOK P FR) {A A' : AH} {w : World} (hR : R P μ A w) {l l' d : Nat} {x : Option (Nat × Nat)} (hm : μ l = some (l', d, x)) {vs : List AV} {args : Array Value} (hv : VRs μ vs args.toList) {v : AV}
    (he : round1 FR l vs A = some (v, A')) : Back P (Instr.yield l' args) w (Post P μ A w v A') := by
  obtain ⟨ob', ho, he1⟩ := ob_eq he
  obtain ⟨st, p, fn, tm, ps, as, bo, e, he2⟩ := onLoop_eq he1
  subst e
  obtain ⟨env, henv, he3⟩ := ob_eq he2
  obtain ⟨⟨ex1, env1, A1⟩, hr1, he4⟩ := ob_eq he3
  obtain ⟨hn, he5⟩ := ot_eq he4
  replace he5 : round2 FR l bo env1 A1 = some (v, A') := he5
  obtain ⟨L, hL, hobj⟩ := hR.loopAt ho hm
  obtain ⟨h1, h2, h3, h4, nt, h5, h6, h7, h8⟩ := hobj
  obtain ⟨b1, b2, b3⟩ := bindP_ok henv hv h3 (fun q hq => Nat.lt_of_lt_of_le (h8 q hq) h5)
  have hps : (L.params.zip args).foldl (fun t q => t.setIfInBounds q.1 q.2) L.tmps = (ps.zip args.toList).foldl (fun t q => t.setIfInBounds q.1 q.2) L.tmps := by
    rw [← Array.foldl_toList, Array.toList_zip, h4]
  have hyield : (Instr.yield l' args).run P w = .ok (.round l' L.fn ((L.params.zip args).foldl (fun t q => t.setIfInBounds q.1 q.2) L.tmps) L.assign L.body) w := by
    unfold Instr.yield
    rw [run_ok (run_getLoop hL)]
    have hsz : args.size = L.params.size := by
      rw [← Array.length_toList, ← Array.length_toList, ← b1, h4]
    rw [if_neg (by simp [hsz])]
    rfl
  unfold Back
  rw [hyield, hps]
  intro c cs _
  generalize htt : (ps.zip args.toList).foldl (fun t q => t.setIfInBounds q.1 q.2) L.tmps = t0 at b2 b3 ⊢
  let b : Frame := { fn := L.fn, tmps := #[], todo := [], defers := [], mode := .run, kind := .normal, roundOf := some l' }
  have hb : b.roundOf = some l' := rfl
  have hbk : b.kind = .normal := rfl
  have hok : OkF b w := fun l0 hl0 => by rw [hb] at hl0; injection hl0 with hl0; subst hl0; exact ⟨L, hL⟩
  have hfr : Frame.round l' L.fn t0 L.assign L.body .normal = frm b t0 [] (.code L.assign :: [.beginRound, .code L.body]) := rfl
  rw [hfr]
  cases ex1 with
  | exit id => exact nomatch hn
  | ret => exact nomatch hn
  | normal =>
  obtain ⟨μ1, w1, t1, ms1, f1, g1⟩ := hC _ _ _ h6 env A .normal env1 A1 hr1 μ w t0 b [] [.beginRound, .code L.body] (c :: cs) hR b2 (by rw [b3]; exact h5) hok
  have hms1 : ms1 = [] := f1.marks.round (by rw [hb]; exact fun h => nomatch h)
  subst hms1
  have s1 : Steps P (lone (frm b t0 [] (.code L.assign :: [.beginRound, .code L.body])) (c :: cs) w) (lone (frm b t1 [] [.beginRound, .code L.body]) (c :: cs) w1) := to_entry.trans g1
  -- the round begins
  obtain ⟨ob2, ho2, he6⟩ := ob_eq he5
  obtain ⟨st2, p2, fn2, tm2, ps2, as2, bo2, e, he7⟩ := onLoop_eq he6
  subst e
  obtain ⟨hrd, he8⟩ := ot_eq he7
  obtain ⟨⟨ex3, env3, A3⟩, hr3, he9⟩ := ob_eq he8
  replace he9 : round3 l ex3 A3 = some (v, A') := he9
  have hm1 := f1.kept.le _ _ hm
  obtain ⟨L1, hL1, hobj1⟩ := f1.r.loopAt ho2 hm1
  obtain ⟨q1, q2, q3⟩ := f1.r.loopSet (st2 := .busy) (p2 := p2) (pe := L1.pending) ho2 hm1 hL1 hobj1 hobj1.2.1 A1.next
  have hbegin : (Instr.beginRound l').run P w1 = .ok () { w1 with heap := w1.heap.setIfInBounds l' (.loop { L1 with state := .busy, pending := L1.pending }) } := by
    unfold Instr.beginRound
    rw [run_ok (run_getLoop hL1)]
    show (setObj l' (.loop { L1 with state := .busy, pending := L1.pending }) >>= fun _ => _).run P w1 = _
    rw [run_ok q1]
    have hst : L1.state = .ready := by
      have := hobj1.1
      rw [← this]
      cases st2 <;> first | rfl | exact nomatch hrd
    rw [hst]; rfl
  generalize hw2 : ({ w1 with heap := w1.heap.setIfInBounds l' (.loop { L1 with state := .busy, pending := L1.pending }) } : World) = w2 at q1 q2 q3 hbegin
  have hok2 : OkF b w2 := (hok.kept f1.kept).kept q3
  obtain ⟨μ3, w3, t3, ms3, f3, g3⟩ := hC _ _ _ h7 env1 _ ex3 env3 A3 hr3 μ1 w2 t1 b [] [] (c :: cs) q2 f1.env (by rw [f1.size, b3]; exact h5) hok2
  have hms3 : ms3 = [] := f3.marks.round (by rw [hb]; exact fun h => nomatch h)
  subst hms3
  -- the round ends
  obtain ⟨ob4, ho4, he10⟩ := ob_eq he9
  obtain ⟨st4, p4, fn4, tm4, ps4, as4, bo4, e, he11⟩ := onLoop_eq he10
  subst e
  injection he11 with he11
  injection he11 with hv4 hA4
  have hm3 := f3.kept.le _ _ hm1
  obtain ⟨L3, hL3, hobj3⟩ := f3.r.loopAt ho4 hm3
  obtain ⟨r1, r2, r3⟩ := f3.r.loopSet (st2 := bif2 (isNormal ex3) .ready .done) (p2 := pend ex3) (pe := exCode ex3) ho4 hm3 hL3 hobj3 (pend_exCode ex3) A3.next
  rw [hA4] at r2 r3
  have hend : (Instr.endRound l' (exCode ex3)).run P w3 = .ok (.bool (exCode ex3).isNone) { w3 with heap := w3.heap.setIfInBounds l' (.loop { L3 with state := bif2 (isNormal ex3) .ready .done, pending := exCode ex3 }) } := by
    unfold Instr.endRound
    rw [run_ok (run_getLoop hL3)]
    have : (if (exCode ex3).isNone = true then LoopState.ready else LoopState.done) = bif2 (isNormal ex3) .ready .done := by cases ex3 <;> rfl
    rw [this]
    show (setObj l' _ >>= fun _ => _).run P w3 = _
    rw [run_ok r1]; rfl
  have s2 := s1.trans (Steps.one (st_beginRound (k := [.code L.body]) hb hbegin))
  have s3 := s2.trans to_entry
  refine ⟨.bool (exCode ex3).isNone, _, ⟨μ3, r2, ?_, ?_⟩, ?_⟩
  · rw [← hv4]
    have : (exCode ex3).isNone = isNormal ex3 := by cases ex3 <;> rfl
    rw [this]; exact .bool _
  · exact ((f1.kept.trans (q3.weaken f1.kept.next)).trans (f3.kept.weaken (Nat.le_trans f1.kept.next q3.next))).trans (r3.weaken (Nat.le_trans (Nat.le_trans f1.kept.next q3.next) f3.kept.next))
  · cases ex3 with
    | normal => exact (s3.trans g3).trans (Steps.one (st_leave_normal hb hbk hend))
    | exit id =>
      obtain ⟨k2, e1, e2⟩ := g3
      exact (s3.trans e2).trans (Steps.one (st_leave_exit hb hbk (e1.trans rfl) hend))
    | ret =>
      obtain ⟨k2, e2⟩ := g3
      exact (s3.trans e2).trans (Steps.one (st_leave_ret hb hbk hend))
end Go.Ev
end

section
/- Ev, part 31: every operation. -/
namespace Go.Ev
variable [F : Facts] [E : Env]
set_option linter.unusedSimpArgs false
set_option linter.unusedVariables false
set_option linter.unusedSectionVars false
set_option linter.constructorNameAsVariable false
variable {P : Program} {μ : Mu}
variable {wr : WrT} {io : Opd → Option AV} {t : Array Value}

theorem cons_zero (a : Value) (xs : Array Value) : (#[a] ++ xs)[0]? = some a := by
  rw [Array.getElem?_append_left (by simp)]; rfl
theorem cons_rest (a : Value) (xs : Array Value) : (#[a] ++ xs).extract 1 (#[a] ++ xs).size = xs := by
  apply Array.ext_getElem?
  intro i
  rw [Array.getElem?_extract]
  simp only [Array.size_append, List.size_toArray, List.length_cons, List.length_nil]
  by_cases h : i < xs.size
  · rw [if_pos (by omega), Array.getElem?_append_right (by simp)]; simp
  · rw [if_neg (by omega), Array.getElem?_eq_none (by omega)]

theorem exec_call {o : Oper} {c : Call} (ho : o.op = .call c) : execOp (evT t) o = (resolve (evT t) c o.type >>= fun d => invoke d.target d.args) := by
  unfold execOp; rw [ho]

theorem run_method {ty : TypeId} {i : TypeInfo} {m : Method} {name : String} {fp : FuncId × Bool} {d : TypeDesc} {v : Value} {w : World} (hi : (ttOf P).get ty = some i) (hm : i.methods.toList.find? (fun m => m.name == name) = some m)
    (hp : m.path.toList.isEmpty = true) (hf : m.func = some fp) (hd : und (ttOf P) ty = some d) (hb : beqB fp.2 (byPtr d) = true) (n : Nat) : (Go.method (n + 1) ty v name).run P w = .ok (fp.1, v) w := by
  unfold Go.method
  rw [run_ok (run_info hi w)]
  have hm' : i.methods.find? (fun m => m.name == name) = some m := by rw [← Array.find?_toList]; exact hm
  rw [hm']
  have hpl : m.path.toList = [] := by simpa using hp
  show (Go.follow m.path.toList ty (.val v) >>= fun _ => _).run P w = _
  rw [hpl]
  rw [run_ok (show (Go.follow [] ty (.val v)).run P w = .ok (ty, .val v) w from rfl)]
  simp only [hf]
  obtain ⟨f, pr⟩ := fp
  have hrec : ∀ wrap, (Go.receiverAt ty (.val v) pr wrap).run P w = .ok v w := by
    intro wrap
    unfold Go.receiverAt
    rw [run_ok (run_und hd w)]
    rw [beqB_eq] at hb
    cases d <;> cases pr <;> first | rfl | exact nomatch hb
  show (Go.receiverAt ty (.val v) pr _ >>= fun _ => _).run P w = _
  rw [run_ok (hrec _)]
  rfl

section
variable {FR : Rec} (hF : CallsOK P FR) (hC : CodesOK P FR)
include hF hC

theorem call_ok {A A' : AH} {w : World} (hio : IOR μ wr io (evT t)) (hR : R P μ A w) {o : Oper} {c : Call} (ho : o.op = .call c) {q : WOp} {v : AV} (hc : kCall (ttOf P) wr c = some (.w q)) (hq : isCallW q = true)
    (he : evW P (ttOf P) FR io A q = some (v, A')) : Back P (execOp (evT t) o) w (Post P μ A w v A') := by
  rw [exec_call ho]
  obtain ⟨as, has, hc1⟩ := ob_eq hc
  unfold kCallee at hc1
  split at hc1
  · -- a function by its name
    rename_i f hcal
    have hq1 := (inj_w hc1).symm
    subst hq1
    obtain ⟨vs, hvs, he1⟩ := ob_eq he
    have hr := ios_rel hio has hvs
    have hres : (resolve (evT t) c o.type).run P w = .ok { target := .fn (.func f) #[], args := #[] ++ c.args.map (evT t) } w := by
      unfold resolve
      rw [hcal]; rfl
    refine Back.of_bind hres ?_
    show Back P (callFunc f ((#[] ++ c.args.map (evT t)) ++ #[])) w _
    exact hF f vs A v A' he1 μ w _ hR (by simpa using hr)
  · -- a function value
    rename_i f hnf hcal
    obtain ⟨f', hf', hc2⟩ := ob_eq hc1
    have hq1 := (inj_w hc2).symm
    subst hq1
    obtain ⟨fv, hfv, he1⟩ := ob_eq he
    obtain ⟨vs, hvs, he2⟩ := ob_eq he1
    obtain ⟨g, first, captured, e, he3⟩ := onFn_eq he2
    subst e
    have hr := ios_rel hio has hvs
    have hfr := hio _ _ _ hf' hfv
    have hres : (resolve (evT t) c o.type).run P w = (Deferred.ofValue (evT t f) (c.args.map (evT t))).run P w := by
      unfold resolve
      rw [hcal]
    unfold callV1 at he3
    split at he3
    · rename_i g
      generalize hx : evT t f = fx at hfr hres
      cases hfr with
      | fn _ ha hcap =>
      rename_i a' c'
      refine Back.of_bind (hres.trans rfl) ?_
      show Back P (callFunc g ((a' ++ c.args.map (evT t)) ++ c')) w _
      refine hF g _ A v A' he3 μ w _ hR ?_
      rw [app_eq, app_eq, ← List.append_assoc, Array.toList_append, Array.toList_append, Array.toList_map]
      exact (ha.append hr).append hcap
    · rename_i l
      split at he3
      · generalize hx : evT t f = fx at hfr hres
        cases hfr with
        | yld hm =>
        rename_i l' d x
        refine Back.of_bind (hres.trans rfl) ?_
        show Back P (Instr.yield l' (#[] ++ c.args.map (evT t))) w _
        exact round_ok hC hR hm (by simpa using hr) he3
      · exact nomatch he3
    · exact nomatch he3
  · -- a method of an interface value
    rename_i r name hcal
    obtain ⟨r', hr', hc2⟩ := ob_eq hc1
    have hq1 := (inj_w hc2).symm
    subst hq1
    obtain ⟨rv, hrv, he1⟩ := ob_eq he
    obtain ⟨vs, hvs, he2⟩ := ob_eq he1
    rcases onIfc_eq he2 with ⟨ty, u, e, he3⟩ | ⟨_, he3⟩
    · subst e
      obtain ⟨i, hi, he4⟩ := ob_eq he3
      obtain ⟨m, hm, he5⟩ := ob_eq he4
      obtain ⟨hp, he6⟩ := ot_eq he5
      obtain ⟨fp, hfp, he7⟩ := ob_eq he6
      obtain ⟨d, hd, he8⟩ := ob_eq he7
      obtain ⟨hb, he9⟩ := ot_eq he8
      have hr := ios_rel hio has hvs
      have hrr := hio _ _ _ hr' hrv
      generalize hx : evT t r = rx at hrr
      cases hrr with
      | ifc _ hu =>
      rename_i u'
      have hres : (resolve (evT t) c o.type).run P w = .ok { target := .fn (.method name) #[], args := #[Value.iface ty u'] ++ c.args.map (evT t) } w := by
        unfold resolve
        rw [hcal]
        show (pure { target := .fn (.method name) #[], args := #[evT t r] ++ c.args.map (evT t) } : Sem Deferred).run P w = _
        rw [hx]; rfl
      refine Back.of_bind hres ?_
      have hinv : invoke (.fn (.method name) #[]) (#[Value.iface ty u'] ++ c.args.map (evT t)) = callMethod (.iface ty u') name (c.args.map (evT t)) := by
        unfold invoke
        have h0 : (#[Value.iface ty u'] ++ c.args.map (evT t))[0]? = some (Value.iface ty u') := cons_zero _ _
        have h1 : (#[Value.iface ty u'] ++ c.args.map (evT t)).extract 1 (#[Value.iface ty u'] ++ c.args.map (evT t)).size = c.args.map (evT t) := cons_rest _ _
        simp only [h0, h1]
      show Back P (invoke (.fn (.method name) #[]) (#[Value.iface ty u'] ++ c.args.map (evT t))) w _
      rw [hinv]
      unfold callMethod
      have hmd : 0 < Made.depth := by decide
      obtain ⟨n, hn⟩ : ∃ n, P.types.size + Made.depth = n + 1 := ⟨P.types.size + Made.depth - 1, by omega⟩
      refine Back.of_bind (s := program) (a := P) (w' := w) rfl ?_
      refine Back.of_bind (w' := w) (a := (fp.1, u')) (by rw [hn]; exact run_method hi hm hp hfp hd hb n) ?_
      refine hF fp.1 _ A v A' he9 μ w _ hR ?_
      simpa using All2.cons hu hr
    · exact nomatch he3
  · -- a builtin
    exfalso
    rename_i b hb
    unfold kBuiltin at hc1
    split at hc1
    · exact noW_p hc1
    · split at hc1
      · obtain ⟨d, hd, hc2⟩ := ob_eq hc1
        unfold kBuiltin1 at hc2
        split at hc2
        · unfold kLen at hc2
          cases d with
          | map kt e => exact noW_l hc2
          | string => exact noW_p hc2
          | slice _ => exact noW_p hc2
          | array _ _ => exact noW_p hc2
          | _ => exact nomatch hc2
        · obtain ⟨_, hc3⟩ := ot_eq hc2
          exact noW_p hc3
        · unfold kClear1 at hc2
          cases d with
          | slice e =>
            obtain ⟨z, hz, hc3⟩ := ob_eq hc2
            obtain ⟨n, hn, hc4⟩ := ob_eq hc3
            obtain ⟨hnz, hc5⟩ := ot_eq hc4
            have := (inj_w hc5).symm
            subst this
            exact nomatch hq
          | _ => exact nomatch hc2
        · exact noW_p hc2
        · exact nomatch hc2
      · obtain ⟨d, hd, hc2⟩ := ob_eq hc1
        obtain ⟨d2, hd2, hc3⟩ := ob_eq hc2
        unfold kBuiltin2 at hc3
        split at hc3
        · unfold kAppend1 at hc3
          split at hc3
          · obtain ⟨i, hi, hc4⟩ := ob_eq hc3
            obtain ⟨z, hz, hc5⟩ := ob_eq hc4
            obtain ⟨hnz, hc6⟩ := ot_eq hc5
            have := (inj_w hc6).symm
            subst this
            exact nomatch hq
          · obtain ⟨i, hi, hc4⟩ := ob_eq hc3
            obtain ⟨z, hz, hc5⟩ := ob_eq hc4
            obtain ⟨hnz, hc6⟩ := ot_eq hc5
            have := (inj_w hc6).symm
            subst this
            exact nomatch hq
          · exact nomatch hc3
        · unfold kCopy1 at hc3
          split at hc3
          · obtain ⟨n, hn, hc4⟩ := ob_eq hc3
            obtain ⟨_, hc5⟩ := ot_eq hc4
            have := (inj_w hc5).symm
            subst this
            exact nomatch hq
          · exact nomatch hc3
        · unfold kDelete1 at hc3
          split at hc3
          · have := (inj_w hc3).symm
            subst this
            exact nomatch hq
          · exact nomatch hc3
        · unfold kUnsafeStr1 at hc3
          split at hc3
          · obtain ⟨n, hn, hc4⟩ := ob_eq hc3
            obtain ⟨_, hc5⟩ := ot_eq hc4
            have := (inj_w hc5).symm
            subst this
            exact nomatch hq
          · exact nomatch hc3
        · exact nomatch hc3
      · exact nomatch hc1

/-- an operation that calls is a call -/
theorem isCall_op {o : Oper} {q : WOp} (hc : compOp0 P (ttOf P) wr o.op = some (.w q)) (hq : isCallW q = true) : ∃ c, o.op = .call c := by
  cases ho : o.op with
  | call c => exact ⟨c, rfl⟩
  | store t a x =>
    rw [ho] at hc
    obtain ⟨_, _, hc1⟩ := ob_eq hc
    obtain ⟨_, _, hc2⟩ := ob_eq hc1
    obtain ⟨_, _, hc3⟩ := ob_eq hc2
    obtain ⟨_, _, hc4⟩ := ob_eq hc3
    obtain ⟨_, hc5⟩ := ot_eq hc4
    have := (inj_w hc5).symm
    subst this
    exact nomatch hq
  | mapUpdate t m k x =>
    rw [ho] at hc
    obtain ⟨_, _, hc1⟩ := ob_eq hc
    obtain ⟨_, _, hc2⟩ := ob_eq hc1
    obtain ⟨_, _, hc3⟩ := ob_eq hc2
    obtain ⟨d, _, hc4⟩ := ob_eq hc3
    unfold kMapPut1 at hc4
    split at hc4
    · have := (inj_w hc4).symm
      subst this
      exact nomatch hq
    · exact nomatch hc4
  | insert t m k x =>
    rw [ho] at hc
    obtain ⟨_, _, hc1⟩ := ob_eq hc
    obtain ⟨_, _, hc2⟩ := ob_eq hc1
    obtain ⟨_, _, hc3⟩ := ob_eq hc2
    obtain ⟨d, _, hc4⟩ := ob_eq hc3
    unfold kMapPut1 at hc4
    split at hc4
    · have := (inj_w hc4).symm
      subst this
      exact nomatch hq
    · exact nomatch hc4
  | next x s =>
    rw [ho] at hc
    obtain ⟨_, _, hc1⟩ := ob_eq hc
    obtain ⟨_, hc2⟩ := ot_eq hc1
    have := (inj_w hc2).symm
    subst this
    exact nomatch hq
  | move x =>
    rw [ho] at hc
    obtain ⟨a, _, hc⟩ := ob_eq hc
    exact (noW_p hc).elim
  | assign x =>
    rw [ho] at hc
    obtain ⟨a, _, hc⟩ := ob_eq hc
    exact (noW_p hc).elim
  | pick c a b =>
    rw [ho] at hc
    obtain ⟨_, _, hc⟩ := ob_eq hc
    obtain ⟨_, _, hc⟩ := ob_eq hc
    obtain ⟨_, _, hc⟩ := ob_eq hc
    exact (noW_p hc).elim
  | alloc e =>
    rw [ho] at hc
    obtain ⟨_, _, hc⟩ := ob_eq hc
    exact (noW_a hc).elim
  | box e x =>
    rw [ho] at hc
    obtain ⟨_, _, hc⟩ := ob_eq hc
    exact (noW_a hc).elim
  | build t parts =>
    rw [ho] at hc
    obtain ⟨z, _, hc⟩ := ob_eq hc
    obtain ⟨d, _, hc⟩ := ob_eq hc
    unfold kBuild1 at hc
    split at hc
    · obtain ⟨_, _, hc⟩ := ob_eq hc
      obtain ⟨_, _, hc⟩ := ob_eq hc
      exact (noW_p hc).elim
    · obtain ⟨_, _, hc⟩ := ob_eq hc
      obtain ⟨_, _, hc⟩ := ob_eq hc
      exact (noW_p hc).elim
    · exact nomatch hc
  | buildSlice t n parts =>
    rw [ho] at hc
    obtain ⟨d, _, hc⟩ := ob_eq hc
    unfold kBuildSl1 at hc
    split at hc
    · obtain ⟨_, _, hc⟩ := ob_eq hc
      obtain ⟨_, _, hc⟩ := ob_eq hc
      obtain ⟨_, _, hc⟩ := ob_eq hc
      obtain ⟨_, hc⟩ := ot_eq hc
      exact (noW_a hc).elim
    · exact nomatch hc
  | load t a =>
    rw [ho] at hc
    obtain ⟨_, _, hc⟩ := ob_eq hc
    obtain ⟨g, _, hc⟩ := ob_eq hc
    rw [bif2_eq] at hc
    split at hc
    · obtain ⟨_, _, hc⟩ := ob_eq hc
      exact (noW_l hc).elim
    · exact (noW_l hc).elim
  | nilCheck x =>
    rw [ho] at hc
    obtain ⟨_, _, hc⟩ := ob_eq hc
    exact (noW_p hc).elim
  | binOp op t x y p =>
    rw [ho] at hc
    obtain ⟨_, _, hc⟩ := ob_eq hc
    obtain ⟨_, _, hc⟩ := ob_eq hc
    rw [bif2_eq] at hc
    split at hc
    · obtain ⟨d, _, hc⟩ := ob_eq hc
      unfold kBin1 at hc
      split at hc
      · exact (noW_p hc).elim
      · exact (noW_p hc).elim
      · obtain ⟨_, hc⟩ := ot_eq hc
        obtain ⟨_, _, hc⟩ := ob_eq hc
        exact (noW_p hc).elim
      · obtain ⟨_, hc⟩ := ot_eq hc
        obtain ⟨_, _, hc⟩ := ob_eq hc
        exact (noW_p hc).elim
    · exact (noW_p hc).elim
  | unOp op t x =>
    rw [ho] at hc
    obtain ⟨_, _, hc⟩ := ob_eq hc
    exact (noW_p hc).elim
  | convert s d x =>
    rw [ho] at hc
    obtain ⟨_, _, hc⟩ := ob_eq hc
    obtain ⟨_, _, hc⟩ := ob_eq hc
    obtain ⟨_, _, hc⟩ := ob_eq hc
    unfold kConv1 at hc
    split at hc
    · exact (noW_p hc).elim
    · exact (noW_p hc).elim
    · exact (noW_p hc).elim
    · obtain ⟨_, _, hc⟩ := ob_eq hc
      obtain ⟨_, hc⟩ := ot_eq hc
      obtain ⟨_, _, hc⟩ := ob_eq hc
      obtain ⟨_, hc⟩ := ot_eq hc
      exact (noW_a hc).elim
    · obtain ⟨_, _, hc⟩ := ob_eq hc
      obtain ⟨_, hc⟩ := ot_eq hc
      exact (noW_l hc).elim
    · obtain ⟨_, _, hc⟩ := ob_eq hc
      obtain ⟨_, hc⟩ := ot_eq hc
      exact (noW_l hc).elim
    · obtain ⟨_, _, hc⟩ := ob_eq hc
      obtain ⟨_, hc⟩ := ot_eq hc
      exact (noW_l hc).elim
    · exact nomatch hc
  | makeInterface t x =>
    rw [ho] at hc
    obtain ⟨_, _, hc⟩ := ob_eq hc
    obtain ⟨_, _, hc⟩ := ob_eq hc
    obtain ⟨_, hc⟩ := ot_eq hc
    exact (noW_p hc).elim
  | makeFunc fn a b =>
    rw [ho] at hc
    obtain ⟨_, _, hc⟩ := ob_eq hc
    obtain ⟨_, _, hc⟩ := ob_eq hc
    obtain ⟨_, hc⟩ := ot_eq hc
    exact (noW_p hc).elim
  | makeMap t r =>
    rw [ho] at hc
    cases r with
    | none => exact (noW_a hc).elim
    | some r => exact nomatch hc
  | makeSlice t l c =>
    rw [ho] at hc
    obtain ⟨_, _, hc⟩ := ob_eq hc
    obtain ⟨_, _, hc⟩ := ob_eq hc
    obtain ⟨d, _, hc⟩ := ob_eq hc
    unfold kMkSl1 at hc
    split at hc
    · obtain ⟨_, _, hc⟩ := ob_eq hc
      obtain ⟨_, _, hc⟩ := ob_eq hc
      exact (noW_a hc).elim
    · exact nomatch hc
  | slice t x lo hi mx =>
    rw [ho] at hc
    obtain ⟨_, _, hc⟩ := ob_eq hc
    obtain ⟨_, _, hc⟩ := ob_eq hc
    obtain ⟨_, _, hc⟩ := ob_eq hc
    obtain ⟨_, _, hc⟩ := ob_eq hc
    obtain ⟨d, _, hc⟩ := ob_eq hc
    unfold kSlice1 at hc
    split at hc
    · obtain ⟨_, hc⟩ := ot_eq hc
      exact (noW_p hc).elim
    · obtain ⟨_, _, hc⟩ := ob_eq hc
      obtain ⟨_, hc⟩ := ot_eq hc
      exact (noW_p hc).elim
    · obtain ⟨_, _, hc⟩ := ob_eq hc
      obtain ⟨_, hc⟩ := ot_eq hc
      exact (noW_p hc).elim
    · exact nomatch hc
  | fieldAddr t x f =>
    rw [ho] at hc
    obtain ⟨_, _, hc⟩ := ob_eq hc
    obtain ⟨d, _, hc⟩ := ob_eq hc
    unfold kFieldAddr1 at hc
    split at hc
    · obtain ⟨_, _, hc⟩ := ob_eq hc
      obtain ⟨_, _, hc⟩ := ob_eq hc
      obtain ⟨_, hc⟩ := ot_eq hc
      exact (noW_p hc).elim
    · exact nomatch hc
  | field t x f =>
    rw [ho] at hc
    obtain ⟨_, _, hc⟩ := ob_eq hc
    obtain ⟨d, _, hc⟩ := ob_eq hc
    unfold kField1 at hc
    split at hc
    · obtain ⟨_, _, hc⟩ := ob_eq hc
      obtain ⟨_, _, hc⟩ := ob_eq hc
      obtain ⟨_, _, hc⟩ := ob_eq hc
      exact (noW_p hc).elim
    · exact nomatch hc
  | indexAddr t x ix =>
    rw [ho] at hc
    obtain ⟨_, _, hc⟩ := ob_eq hc
    obtain ⟨_, _, hc⟩ := ob_eq hc
    obtain ⟨d, _, hc⟩ := ob_eq hc
    unfold kIxAddr1 at hc
    split at hc
    · obtain ⟨_, _, hc⟩ := ob_eq hc
      exact (noW_p hc).elim
    · obtain ⟨_, _, hc⟩ := ob_eq hc
      exact (noW_p hc).elim
    · exact nomatch hc
  | index t x ix =>
    rw [ho] at hc
    obtain ⟨_, _, hc⟩ := ob_eq hc
    obtain ⟨_, _, hc⟩ := ob_eq hc
    obtain ⟨d, _, hc⟩ := ob_eq hc
    unfold kIndex1 at hc
    split at hc
    · obtain ⟨_, _, hc⟩ := ob_eq hc
      obtain ⟨_, _, hc⟩ := ob_eq hc
      exact (noW_p hc).elim
    · exact (noW_p hc).elim
    · exact nomatch hc
  | lookup t x k ok =>
    rw [ho] at hc
    obtain ⟨_, _, hc⟩ := ob_eq hc
    obtain ⟨_, _, hc⟩ := ob_eq hc
    obtain ⟨d, _, hc⟩ := ob_eq hc
    unfold kLookup1 at hc
    split at hc
    · obtain ⟨_, _, hc⟩ := ob_eq hc
      exact (noW_l hc).elim
    · exact nomatch hc
  | range t x =>
    rw [ho] at hc
    obtain ⟨_, _, hc⟩ := ob_eq hc
    obtain ⟨_, _, hc⟩ := ob_eq hc
    obtain ⟨_, hc⟩ := ot_eq hc
    exact (noW_a hc).elim
  | typeAssert x xt t ok =>
    rw [ho] at hc
    obtain ⟨_, _, hc⟩ := ob_eq hc
    obtain ⟨_, _, hc⟩ := ob_eq hc
    obtain ⟨_, _, hc⟩ := ob_eq hc
    obtain ⟨_, hc⟩ := ot_eq hc
    exact (noW_p hc).elim
  | extract t ix =>
    rw [ho] at hc
    obtain ⟨_, _, hc⟩ := ob_eq hc
    exact (noW_p hc).elim
  | _ => rw [ho] at hc; exact nomatch hc

/-- every operation -/
theorem oper_ok {A A' : AH} {w : World} (hio : IOR μ wr io (evT t)) (hk : ∀ a v, io (.c a) = some v → v = a) (hR : R P μ A w) (o : Oper) {v : AV}
    (he : evOp P (ttOf P) FR io A (compOp P (ttOf P) wr o.op) = some (v, A')) : Back P (execOp (evT t) o) w (Post P μ A w v A') := by
  unfold compOp at he
  cases hc : compOp0 P (ttOf P) wr o.op with
  | none => rw [hc] at he; exact nomatch he
  | some op =>
    rw [hc] at he
    cases op with
    | p q =>
      obtain ⟨u, hu, he1⟩ := ob_eq (show ob _ _ = _ from he)
      injection he1 with he1
      injection he1 with h1 h2
      subst h1; subst h2
      exact Gives.back hR (pure_ok hio hk o hc hu w)
    | l q =>
      obtain ⟨u, hu, he1⟩ := ob_eq (show ob _ _ = _ from he)
      injection he1 with he1
      injection he1 with h1 h2
      subst h1; subst h2
      exact Gives.back hR (load_ok hio hR o hc hu)
    | a q =>
      obtain ⟨ob1, hA, hborn⟩ := alloc_ok o hc (show evA io A q = some (v, A') from he)
      subst hA
      exact Born.back hR (hborn μ _ w hio hR.next_none)
    | w q =>
      replace he : evW P (ttOf P) FR io A q = some (v, A') := he
      cases hq : isCallW q with
      | false => exact (act_ok hio hR o hc hq he).back
      | true =>
        obtain ⟨c, ho⟩ := isCall_op (P := P) hF hC hc hq
        have hc' := hc
        rw [ho] at hc'
        exact call_ok hF hC hio hR ho hc' hq he
end
end Go.Ev
end

section
/- Ev, part 32: regions in their order; code. -/
namespace Go.Ev
variable [F : Facts] [E : Env]
set_option linter.unusedSimpArgs false
set_option linter.unusedVariables false
set_option linter.unusedSectionVars false
set_option linter.constructorNameAsVariable false
variable {P : Program} {μ : Mu}

theorem not_defer {FR : Rec} {wr : WrT} {io : Opd → Option AV} {A : AH} {o : Oper} {r : AV × AH} (he : evOp P (ttOf P) FR io A (compOp P (ttOf P) wr o.op) = some r) : ∀ c, o.op ≠ .defer c := by
  intro c hc
  rw [hc] at he
  exact nomatch he

theorem wants_bool {v : AV} {want bb : Bool} (h : wants v want = some bb) : (∃ b0, v = .bool b0 ∧ bb = (b0 == want)) ∨ (v = .tup [] ∧ bb = false) := by
  unfold wants at h
  split at h
  · injection h with h
    rw [beqB_eq] at h
    exact .inl ⟨_, rfl, h.symm⟩
  · injection h with h
    exact .inr ⟨rfl, h.symm⟩
  · exact nomatch h

/-- is an operation wanted? -/
theorem wanted_ok {ops : Array Oper} {o oj : Oper} {j d : Nat} {want bb : Bool} {t : Array Value} {v : AV} {v' : Value} (hg : o.guard = some (j, want)) (hj : ops[j]? = some oj) (hd : oj.dst = some d) (ht : t[d]? = some v') (hv : VR μ v v')
    (h : wants v want = some bb) : Region.wanted o (yielded ops t) = bb := by
  unfold Region.wanted
  rw [hg]
  show (yielded ops t j == some want) = bb
  have hy : yielded ops t j = (match v' with | .bool b => some b | _ => none) := by
    unfold yielded
    rw [hj]
    simp only [Option.bind_some, hd, ht]
    cases v' <;> rfl
  rw [hy]
  rcases wants_bool h with ⟨b0, e, h1⟩ | ⟨e, h1⟩
  · subst e
    have := hv.inv_bool
    subst this
    rw [h1]; cases b0 <;> cases want <;> rfl
  · subst e
    obtain ⟨cs', e2, _⟩ := hv.inv_tup
    subst e2
    rw [h1]; rfl

section
variable {b : Frame} {t : Array Value} {ds : List Deferred} {k : List Item} {cs : List Frame} {w : World} {ops : Array Oper} {i : Nat} {rest : List Nat} {o : Oper}

/-- an operation that is made -/
theorem made_op {Q : Value → World → Prop} (ho : ops[i]? = some o) (hw : Region.wanted o (yielded ops t) = true) (hd : ∀ c, o.op ≠ .defer c) (hb : Back P (execOp (evT t) o) w Q) :
    ∃ v' w', Q v' w' ∧ Steps P (lone (frm b t ds (.inRegion ops (i :: rest) :: k)) cs w) (lone (frm b (putT t o.dst v') ds (.inRegion ops rest :: k)) cs w') := by
  obtain ⟨v', w', hq, hs⟩ := hb.steps (fr := frm b t ds (.inRegion ops (i :: rest) :: k)) (cs := cs) (.inl ⟨ops, i, rest, k, rfl⟩) (congrArg GStep.bare (st_op ho hw hd))
  rw [finish_frm, ho] at hs
  exact ⟨v', w', hq, hs⟩
end

theorem envput_d {env : T AV} {t : Array Value} (h : EnvR μ env t) {v : AV} {v' : Value} (hv : VR μ v v') {d : Option Nat} {nt : Nat} (hd : okDst nt d = true) (ht : nt ≤ t.size) :
    EnvR μ (putD env v d) (putT t d v') ∧ (putT t d v').size = t.size := by
  cases d with
  | none => exact ⟨h, rfl⟩
  | some d =>
    have : d < nt := by
      have hd : nlt d nt = true := hd
      rw [nlt_eq, decide_eq_true_eq] at hd
      exact hd
    exact ⟨env_put h hv (by omega), by unfold putT; rw [Array.size_setIfInBounds]⟩

section
variable {FR : Rec} (hF : CallsOK P FR) (hC : CodesOK P FR)
include hF hC

theorem ops_ok {ops : Array Oper} {nt : Nat} : ∀ (suf pre : List Oper) (ls : List IOper), ops.toList = pre ++ suf → mapO (compP1 P (ttOf P) nt ops.toList) suf = some ls →
    ∀ {env env' : T AV} {A A' : AH} {μ : Mu} {w : World} {t : Array Value} (b : Frame) (ds : List Deferred) (k : List Item) (cs : List Frame), evOps P (ttOf P) FR ls env A = some (env', A') → R P μ A w → EnvR μ env t → nt ≤ t.size →
      ∃ μ' w' t', Fin P μ A w t b env' A' μ' w' t' [] ∧ Steps P (lone (frm b t ds (.inRegion ops (List.range' pre.length suf.length) :: k)) cs w) (lone (frm b t' ds (.inRegion ops [] :: k)) cs w') := by
  intro suf
  induction suf with
  | nil =>
    intro pre ls hops hl env env' A A' μ w t b ds k cs he hR hE ht
    injection hl with hl
    subst hl
    injection he with he
    injection he with h1 h2
    subst h1; subst h2
    exact ⟨μ, w, t, ⟨hR, hE, rfl, Kept.refl _ _ _ _, .nil _ _ _ _ _⟩, .refl _ _⟩
  | cons o suf ih =>
    intro pre ls hops hl env env' A A' μ w t b ds k cs he hR hE ht
    rw [mapO_cons] at hl
    obtain ⟨c, hc, hl1⟩ := ob_eq hl
    obtain ⟨ls', hls', hl2⟩ := ob_eq hl1
    injection hl2 with hl2
    subst hl2
    obtain ⟨hdst, hc1⟩ := ot_eq hc
    obtain ⟨g, hg, hc2⟩ := ob_eq hc1
    injection hc2 with hc2
    subst hc2
    obtain ⟨⟨v, A1⟩, hev, he1⟩ := ob_eq (show ob _ _ = _ from he)
    replace he1 : evOps P (ttOf P) FR ls' (putD env v o.dst) A1 = some (env', A') := he1
    have ho : ops[pre.length]? = some o := by
      rw [← Array.getElem?_toList, hops, List.getElem?_append_right (Nat.le_refl _)]; simp
    have hrange : List.range' pre.length (o :: suf).length = pre.length :: List.range' (pre ++ [o]).length suf.length := by
      rw [List.length_cons, List.range'_succ, List.length_append]; rfl
    -- one step
    have one : ∃ μ1 w1 v', R P μ1 A1 w1 ∧ VR μ1 v v' ∧ Kept A.next μ μ1 A A1 w w1 ∧
        Steps P (lone (frm b t ds (.inRegion ops (pre.length :: List.range' (pre ++ [o]).length suf.length) :: k)) cs w) (lone (frm b (putT t o.dst v') ds (.inRegion ops (List.range' (pre ++ [o]).length suf.length) :: k)) cs w1) := by
      have hior := env_ior hR hE .e
      have mk : Region.wanted o (yielded ops t) = true → evOp P (ttOf P) FR (ioOf env .e) A (compOp P (ttOf P) (plainW P) o.op) = some (v, A1) → ∃ μ1 w1 v', R P μ1 A1 w1 ∧ VR μ1 v v' ∧ Kept A.next μ μ1 A A1 w w1 ∧
          Steps P (lone (frm b t ds (.inRegion ops (pre.length :: List.range' (pre ++ [o]).length suf.length) :: k)) cs w) (lone (frm b (putT t o.dst v') ds (.inRegion ops (List.range' (pre ++ [o]).length suf.length) :: k)) cs w1) := fun hw hop => by
        obtain ⟨v', w', ⟨μ', q1, q2, q3⟩, hs⟩ := made_op (b := b) (ds := ds) (k := k) (cs := cs) (rest := List.range' (pre ++ [o]).length suf.length) ho hw (not_defer hop) (oper_ok hF hC hior (fun a v h => by injection h with h; exact h.symm) hR o hop)
        exact ⟨μ', w', v', q1, q2, q3, hs⟩
      cases hog : o.guard with
      | none =>
        rw [hog] at hg
        injection hg with hg
        subst hg
        exact mk (by unfold Region.wanted; rw [hog]) hev
      | some jw =>
        obtain ⟨j, want⟩ := jw
        rw [hog] at hg
        obtain ⟨oj, hj, hg1⟩ := ob_eq hg
        obtain ⟨d, hd, hg2⟩ := ob_eq hg1
        injection hg2 with hg2
        subst hg2
        obtain ⟨gv, hgv, hev1⟩ := ob_eq (show ob (ioOf env .e (.t d)) _ = _ from hev)
        obtain ⟨bb, hbb, hev2⟩ := ob_eq hev1
        obtain ⟨gv', hgt, hgr⟩ := hE d gv hgv
        rw [nth_eq] at hj
        have hwt := wanted_ok (ops := ops) (t := t) hog (by rw [← Array.getElem?_toList]; exact hj) hd hgt hgr hbb
        cases bb with
        | true => exact mk hwt hev2
        | false =>
          have hev3 : some (undefA, A) = some (v, A1) := hev2
          injection hev3 with hev3
          injection hev3 with h1 h2
          subst h1; subst h2
          exact ⟨μ, w, undef, hR, .tup .nil, Kept.refl _ _ _ _, Steps.one (st_op_skip ho hwt)⟩
    obtain ⟨μ1, w1, v', q1, q2, q3, q4⟩ := one
    obtain ⟨e1, e2⟩ := envput_d (hE.mono q3.le) q2 hdst ht
    obtain ⟨μ', w', t', f1, s1⟩ := ih (pre ++ [o]) ls' (by rw [hops]; simp) hls' b ds k cs he1 q1 e1 (by rw [e2]; exact ht)
    have f0 : Fin P μ A w t b (putD env v o.dst) A1 μ1 w1 (putT t o.dst v') [] := ⟨q1, e1, e2, q3, .nil _ _ _ _ _⟩
    refine ⟨μ', w', t', by simpa using f0.trans f1, ?_⟩
    rw [hrange]
    exact q4.trans s1
end

theorem R.push {A : AH} {w : World} (h : R P μ A w) (o : Obj) : R P μ A (pushW w o) := by
  have hw := wnew_push w o
  exact {
    obj := fun b p m h1 h2 => by
      obtain ⟨p', h3, h4⟩ := h.obj b p m h1 h2
      exact ⟨p', by rw [hw.get (h.dom b m h2).2]; exact h3, h4⟩
    dom := fun b m h1 => ⟨(h.dom b m h1).1, by rw [hw.size]; exact Nat.lt_succ_of_lt (h.dom b m h1).2⟩
    live := h.live
    glob := h.glob
    sep := h.sep
    ord := h.ord
    mem := h.mem }
theorem kept_push (A : AH) (w : World) (o : Obj) (B : Nat) : Kept B μ μ A A w (pushW w o) :=
  ⟨Mu.le_refl _, rfl, rfl, rfl, by rw [(wnew_push w o).size]; omega, Nat.le_refl _, fun c hc _ => (wnew_push w o).get hc, fun _ _ h => h, fun _ _ h => ⟨h, rfl⟩,
    fun c L h => ⟨L, by rw [(wnew_push w o).get (Array.getElem?_eq_some_iff.1 h).1]; exact h, rfl⟩⟩
theorem not_wr {A : AH} {w : World} (h : R P μ A w) {r : Nat} {x : Option (List Deferred)} (hr : w.heap[r]? = some (.deferred x)) : ¬ Wr μ A r := by
  rintro ⟨b, m, o, h1, h2, h3, h4⟩
  obtain ⟨o', k1, k2⟩ := h.obj b o m h3 h1
  rw [h2, hr] at k1
  injection k1 with k1
  subst k1
  cases o <;> exact k2.elim

/-- a range over a function begins -/
theorem enterLoop_ok {A : AH} {w : World} (hR : R P μ A w) {b : Frame} {t : Array Value} {env : T AV} (hE : EnvR μ env t) (hok : OkF b w) {nt : Nat} (ht : nt ≤ t.size) {params : Array Nat} {assign body : Code} {as bo : IC}
    (ha : comp P (ttOf P) nt assign = some as) (hb : comp P (ttOf P) nt body = some bo) (hp : ∀ p ∈ params.toList, p < nt) :
    ∃ μ1 w1 l ms, (Instr.enterLoop b.fn t params assign body b.roundOf).run P w = .ok (l, ms) w1 ∧ R P μ1 (A.new (.loop .ready none 0 env params.toList as bo)) w1 ∧ μ1 A.next = some (l, 0, none) ∧
      Kept A.next μ μ1 A (A.new (.loop .ready none 0 env params.toList as bo)) w w1 ∧ Marks b μ1 (A.new (.loop .ready none 0 env params.toList as bo)) w.heap.size w1 ms := by
  have core : ∀ (w0 : World) (d : Nat), R P μ A w0 → R P (μ.put A.next (w0.heap.size, 0, none)) (A.new (.loop .ready none 0 env params.toList as bo)) (pushW w0 (.loop { state := .ready, pending := none, fn := b.fn, tmps := t, params, assign, body, defers := d })) ∧
      Kept A.next μ (μ.put A.next (w0.heap.size, 0, none)) A (A.new (.loop .ready none 0 env params.toList as bo)) w0 (pushW w0 (.loop { state := .ready, pending := none, fn := b.fn, tmps := t, params, assign, body, defers := d })) := by
    intro w0 d hR0
    exact hR0.made (x := none) (wnew_push _ _) ⟨rfl, trivial, hE.mono (Mu.le_put _ hR0.next_none), rfl, nt, ht, ha, hb, hp⟩
  cases hro : b.roundOf with
  | some l0 =>
    obtain ⟨L, hL⟩ := hok l0 hro
    obtain ⟨q1, q2⟩ := core w L.defers hR
    refine ⟨_, _, w.heap.size, [], ?_, q1, Mu.put_same _ _ _, q2, .nil _ _ _ _ _⟩
    unfold Instr.enterLoop
    show (Instr.getLoop l0 >>= fun _ => _).run P w = _
    rw [run_ok (run_getLoop hL)]
    rfl
  | none =>
    have hR0 := hR.push (.deferred (some []))
    obtain ⟨q1, q2⟩ := core (pushW w (.deferred (some []))) w.heap.size hR0
    have hsz : (pushW w (.deferred (some []))).heap.size = w.heap.size + 1 := (wnew_push w _).size
    have hget : (pushW w (.deferred (some []))).heap[w.heap.size]? = some (.deferred (some [])) := (wnew_push w _).last
    have hget2 : (pushW (pushW w (.deferred (some []))) (.loop { state := .ready, pending := none, fn := b.fn, tmps := t, params, assign, body, defers := w.heap.size })).heap[w.heap.size]? = some (.deferred (some [])) := by
      rw [(wnew_push _ _).get (by omega)]; exact hget
    refine ⟨_, _, w.heap.size + 1, [mark1 w.heap.size], ?_, q1, by rw [Mu.put_same, hsz], (kept_push A w _ A.next).trans q2, ?_⟩
    · unfold Instr.enterLoop
      show (newObj (.deferred (some [])) >>= fun _ => _).run P w = _
      rw [run_ok (run_newObj _ w)]
      show (newObj _ >>= fun _ => _).run P (pushW w (.deferred (some []))) = _
      rw [run_ok (run_newObj _ _), hsz]
      rfl
    · refine ⟨?_, List.pairwise_singleton _ _, fun h => absurd hro h⟩
      intro d hd
      simp only [List.mem_singleton] at hd
      exact ⟨w.heap.size, hd, Nat.le_refl _, hget2, not_wr q1 hget2⟩
end Go.Ev
end
