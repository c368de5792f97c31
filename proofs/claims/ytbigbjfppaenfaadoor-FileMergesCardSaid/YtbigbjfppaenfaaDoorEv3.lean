/- The evaluator Ev and its soundness, part 4 of 5: what it computes of a function, the model's machine computes on every tape. -/
import Derived.Test.YtbigbjfppaenfaaDoorEv2
import Derived.Lib.UnsafeStr
import Derived.Lib.Bytealg
import Derived.Lib.MakeNoZero
section
/- Ev, part 26: operations that act: what is left; the theorem. -/
namespace Go.Ev
variable [F : Facts] [E : Env]
set_option linter.unusedSimpArgs false
set_option linter.unusedVariables false
set_option linter.unusedSectionVars false
variable {P : Program} {μ : Mu}
variable {wr : WrT} {io : Opd → Option AV} {ρ : Operand → Value}

theorem erase_ok {l : List (AV × AV × Nat)} {a : Array MapEntry} (h : All2 (EntR μ) l a.toList) {i : Nat} (hi : i < a.size) : All2 (EntR μ) (app (takeN l i) (dropN l (Nat.succ i))) (a.eraseIdxIfInBounds i).toList := by
  have e : (a.eraseIdxIfInBounds i).toList = a.toList.take i ++ a.toList.drop (i + 1) := by
    unfold Array.eraseIdxIfInBounds
    rw [dif_pos hi, Array.toList_eraseIdx, List.eraseIdx_eq_take_drop_succ]
  rw [app_eq, takeN_eq, dropN_eq, e]
  exact (h.take i).append (h.drop (i + 1))

theorem decode_ascii {s : ByteArray} {p : Nat} {c : UInt8} (hc : s.data.toList[p]? = some c) (h : c.toNat < 128) : Utf8.decode s p = (c.toNat, 1) := by
  have hlt := (List.getElem?_eq_some_iff.1 hc).1
  have hget : (s.get! (p + 0)).toNat = c.toNat := by
    show (s.data[p]!).toNat = c.toNat
    have hlt2 : p < s.data.size := by simpa using hlt
    rw [getElem!_pos s.data p hlt2]
    have : s.data[p]? = some c := by simpa using hc
    rw [Array.getElem?_eq_getElem hlt2] at this
    injection this with this
    rw [this]
  unfold Utf8.decode
  simp only [hget]
  rw [if_pos h]

section
variable (hio : IOR μ wr io ρ)
include hio

theorem next_ok {A A' : AH} {w : World} (hR : R P μ A w) {x : Operand} {x' : Opd} (hx : opnd wr x = some x') {v : AV} (he : wNext io A x' = some (v, A')) (ty : TypeId) :
    Acts P μ A w (do pure (.value (← Instr.next (ρ x) true ty))) v A' := by
  obtain ⟨u, hu, he⟩ := ob_eq he
  obtain ⟨b, o, e, he⟩ := onPtr_eq he
  subst e
  obtain ⟨ho0, he⟩ := ot_eq he
  rw [nbeq_eq, decide_eq_true_eq] at ho0
  subst ho0
  obtain ⟨ob', ho, he⟩ := ob_eq he
  obtain ⟨l, n, p, e, he⟩ := onSit_eq he
  subst e
  obtain ⟨b', d, xx, hm, ex⟩ := (hio _ _ _ hx hu).inv_ptr
  obtain ⟨o', g1, g2⟩ := hR.obj b _ _ ho hm
  cases o' with
  | stringIter s pos =>
    obtain ⟨hd0, hs, hp⟩ := g2
    replace hd0 : d = 0 := hd0
    subst hd0; subst hp
    unfold ofStr at hs
    injection hs with hl hn
    rw [len_eq] at hl
    subst hl; subst hn
    simp only at g1
    have hget := run_getObj (P := P) g1 (fun c e f h => nomatch h)
    have hsz : s.size = s.data.toList.length := rfl
    have he9 : next1 A b s.data.toList.length (bytesNum s.data.toList) p = some (v, A') := he
    clear he
    have he := he9
    clear he9
    unfold next1 at he
    rw [bif2_eq, nlt_eq] at he
    by_cases hlt : p < s.data.toList.length
    · rw [if_pos (by simpa using hlt)] at he
      obtain ⟨hb, he⟩ := ot_eq he
      rw [nlt_eq, decide_eq_true_eq] at hb
      have hc : s.data.toList[p]? = some s.data.toList[p] := List.getElem?_eq_getElem hlt
      have hat := bytesNum_at s.data.toList p _ hc
      have hat' : Nat.mod (Nat.div (bytesNum s.data.toList) (Nat.pow 256 p)) 256 = s.data.toList[p].toNat := hat
      rw [hat'] at hb he
      injection he with he
      injection he with h1 h2
      have hdec := decode_ascii hc hb
      have hset := setObj_wset g1 (.stringIter s (p + 1))
      obtain ⟨q1, q2⟩ := hR.plain (o2 := .siter s.data.toList.length (bytesNum s.data.toList) (Nat.succ p)) ho hm hset rfl rfl rfl ⟨rfl, by unfold ofStr; rw [len_eq], rfl⟩ (fun L hL => by rw [show w.heap[(b', 0, xx).1]? = w.heap[b']? from rfl, g1] at hL; exact nomatch hL) A.next
      rw [h2] at q1 q2
      refine acts_v (v' := .tuple #[.bool true, goInt p, .int .i32 (s.data.toList[p].toNat : Int)]) (w' := { w with heap := w.heap.setIfInBounds b' (.stringIter s (p + 1)) }) ?_ q1 (by rw [← h1]; exact .tup (.cons (.bool _) (.cons (.int _ _) (.cons (.int _ _) .nil)))) q2
      rw [ex]
      unfold Instr.next
      show (getObj b' >>= fun _ => _).run P w = _
      rw [run_ok hget]
      show (if p < s.size then _ else _ : Sem Value).run P w = _
      rw [if_pos (by rw [hsz]; exact hlt), hdec]
      show (setObj b' (.stringIter s (p + 1)) >>= fun _ => _).run P w = _
      rw [run_ok (run_setObj g1 (fun c e f h => nomatch h))]
      rfl
    · rw [if_neg (by simpa using hlt)] at he
      injection he with he
      injection he with h1 h2
      subst h2
      refine acts_v (v' := .tuple #[.bool false]) (w' := w) ?_ hR (by rw [← h1]; exact .tup (.cons (.bool _) .nil)) (Kept.refl _ _ _ _)
      rw [ex]
      unfold Instr.next
      show (getObj b' >>= fun _ => _).run P w = _
      rw [run_ok hget]
      show (if p < s.size then _ else _ : Sem Value).run P w = _
      rw [if_neg (by rw [hsz]; exact hlt)]
      rfl
  | _ => exact g2.elim
end

theorem delete_ok {A A' : AH} {w : World} (hR : R P μ A w) {ts : Array TypeId} {t u kt et : TypeId} {m k v : AV} {m' k' : Value} (hts : ts = #[t, u]) (hd : und (ttOf P) t = some (.map kt et)) (hm : VR μ m m') (hk : VR μ k k')
    (he : onMap (fun b => ob (A.obj b) (onMapO (del1 P (ttOf P) A kt b k))) (ot (ckey (ttOf P) 10000 kt k) (unit A)) m = some (v, A')) (ty : TypeId) :
    Acts P μ A w (do pure (.value (← Builtin.delete_ ts ty #[m', k']))) v A' := by
  subst hts
  rcases onMap_eq he with ⟨b, e, he2⟩ | ⟨e, he2⟩
  · subst e
    obtain ⟨ob', ho, he3⟩ := ob_eq he2
    obtain ⟨es, clock, e, he4⟩ := onMapO_eq he3
    subst e
    obtain ⟨hck, he5⟩ := ot_eq he4
    obtain ⟨r, hf, he6⟩ := ob_eq he5
    obtain ⟨b', d, xx, hμ, em⟩ := hm.inv_map
    obtain ⟨es', hh, hes⟩ := hR.mapAt ho hμ
    obtain ⟨r', hfr, hrun⟩ := findKey_ok hk w hf hes
    have hget := run_getObj (P := P) hh (fun c e f h => nomatch h)
    have hkey := key_ok (P := P) es'.isEmpty 10000 kt k k' w hck hk
    have hrun0 : (Builtin.delete_ #[t, u] ty #[m', k']).run P w = ((match r' with
        | some (i, _) => setObj b' (.map (es'.eraseIdxIfInBounds i) clock)
        | none => setObj b' (.map es' clock)) >>= fun _ => (pure (.tuple #[]) : Sem Value)).run P w := by
      rw [em]
      unfold Builtin.delete_
      show (underlying t >>= fun _ => _).run P w = _
      rw [run_ok (run_und hd w)]
      show (getObj b' >>= fun _ => _).run P w = _
      rw [run_ok hget]
      show (Instr.checkKey es'.isEmpty 10000 kt k' >>= fun _ => _).run P w = _
      rw [run_ok hkey]
      show (Instr.findKey kt k' es'.toList >>= fun _ => _).run P w = _
      rw [run_ok hrun]
      cases r' with
      | none => rfl
      | some q => rfl
    cases r with
    | some q =>
      obtain ⟨i, k0, v0⟩ := q
      replace he6 : unit (A.set b (.map (app (takeN es i) (dropN es (Nat.succ i))) clock)) = some (v, A') := he6
      injection he6 with he6
      injection he6 with h1 h2
      cases r' with
      | none => exact hfr.elim
      | some q =>
        obtain ⟨i', vv⟩ := q
        obtain ⟨hi, _, _, e1, he1, _, _⟩ := hfr
        subst hi
        have hilt : i < es'.size := by
          have := (List.getElem?_eq_some_iff.1 he1).1
          simpa using this
        have hset := setObj_wset hh (.map (es'.eraseIdxIfInBounds i) clock)
        obtain ⟨q1, q2⟩ := hR.plain (o2 := .map (app (takeN es i) (dropN es (Nat.succ i))) clock) ho hμ hset rfl rfl rfl ⟨rfl, erase_ok hes hilt⟩ (fun L hL => by rw [hh] at hL; exact nomatch hL) A.next
        rw [h2] at q1 q2
        refine acts_v (v' := .tuple #[]) ?_ q1 (by rw [← h1]; exact .tup .nil) q2
        rw [hrun0]
        show (setObj b' (.map (es'.eraseIdxIfInBounds i) clock) >>= fun _ => _).run P w = _
        rw [run_ok (run_setObj hh (fun c e f h => nomatch h))]
        rfl
    | none =>
      replace he6 : unit A = some (v, A') := he6
      injection he6 with he6
      injection he6 with h1 h2
      subst h2
      cases r' with
      | some q => exact hfr.elim
      | none =>
        refine acts_v (v' := .tuple #[]) (w' := w) ?_ hR (by rw [← h1]; exact .tup .nil) (Kept.refl _ _ _ _)
        rw [hrun0]
        show (setObj b' (.map es' clock) >>= fun _ => _).run P w = _
        rw [run_ok (run_setObj hh (fun c e f h => nomatch h)), set_same hh]
        rfl
  · subst e
    obtain ⟨hck, he3⟩ := ot_eq he2
    injection he3 with he3
    injection he3 with h1 h2
    subst h2
    have em := hm.inv_nilm
    have hkey := key_ok (P := P) true 10000 kt k k' w hck hk
    refine acts_v (v' := .tuple #[]) (w' := w) ?_ hR (by rw [← h1]; exact .tup .nil) (Kept.refl _ _ _ _)
    rw [em]
    unfold Builtin.delete_
    show (underlying t >>= fun _ => _).run P w = _
    rw [run_ok (run_und hd w)]
    show (Instr.checkKey true 10000 kt k' >>= fun _ => _).run P w = _
    rw [run_ok hkey]
    rfl

/-- cells written at a slice's start -/
theorem write_sl {A A' : AH} {w : World} (hR : R P μ A w) {b o l cap : Nat} {vs : List AV} {vs' : List Value} {s' : Value} (hw : A.write b o vs = some A') (hs : VR μ (.sl b o l cap) s') (hv : VRs μ vs vs') (h1 : ∀ v ∈ vs, oneA v = true)
    (hvl : l = 0 → vs = []) (B : Nat) : ∃ a c w', s' = .slice (some a) l c ∧ (storeCells a vs').run P w = .ok () w' ∧ R P μ A' w' ∧ Kept B μ μ A A' w w' := by
  obtain ⟨b', d, xx, hm, hv2⟩ := hs.inv_sl
  obtain ⟨w', r1, r2, r3, _⟩ := write_ok hR hw hm hv h1 B
  rcases hv2 with ⟨cap', e, _, _⟩ | ⟨o', cap', S, _, h0, _, e⟩
  · exact ⟨_, _, w', e, r1, r2, r3⟩
  · have e1 := hvl h0
    subst e1
    cases hv
    have hww : w' = w := by
      have r1' : Result.ok () w = Result.ok () w' := r1
      injection r1' with _ h
      exact h.symm
    subst hww
    exact ⟨⟨b', o', none⟩, cap', w', by rw [e, h0], rfl, r2, r3⟩

theorem copy_ok {A A' : AH} {w : World} (hR : R P μ A w) {ts : Array TypeId} {t u e : TypeId} {n : Nat} {s x v : AV} {s' x' : Value} (hts : ts = #[t, u]) (hd : und (ttOf P) t = some (.slice e)) (hn : tsize (ttOf P) e = some n)
    (hs : VR μ s s') (hx : VR μ x x') (he : onSl (fun b o l _ => copy1 A n x b o l) (ob (seqOf A n x) fun _ => some (goN 0, A)) s = some (v, A')) (ty : TypeId) :
    Acts P μ A w (do pure (.value (← Builtin.copy_ ts ty #[s', x']))) v A' := by
  subst hts
  rcases onSl_eq he with ⟨b, o, l, cap, e1, he2⟩ | ⟨e1, he2⟩
  · subst e1
    obtain ⟨⟨k, cs⟩, hseq, he3⟩ := ob_eq he2
    obtain ⟨cs', hcr, hc1, hcl, hlen, hfirst⟩ := seq_ok hR hseq hx
    have hll : cs'.length = k * n := by rw [← hcr.length, hcl]
    have main : ∀ (q : Nat) (vs : List AV), q = Nat.min k l → vs = cs.take (q * n) → A.write b o vs = some A' → v = goN q → Acts P μ A w (do pure (.value (← Builtin.copy_ #[t, u] ty #[s', x']))) v A' := by
      intro q vs hq hvs hw hv
      have hqk : q ≤ k := by rw [hq]; exact Nat.min_le_left _ _
      have hql : q ≤ l := by rw [hq]; exact Nat.min_le_right _ _
      obtain ⟨a, c, w', es, r1, r2, r3⟩ := write_sl hR hw hs (vs' := cs'.take (q * n)) (by rw [hvs]; exact hcr.take _) (by rw [hvs]; exact fun c hc => hc1 c (List.mem_of_mem_take hc)) (by
        intro h0
        have : q = 0 := by omega
        rw [hvs, this]; simp) A.next
      refine acts_v (v' := goInt q) ?_ r2 (by rw [hv]; exact .int _ _) r3
      rw [es]
      unfold Builtin.copy_
      show (underlying t >>= fun _ => _).run P w = _
      rw [run_ok (run_und hd w)]
      show (Builtin.lenOf x' >>= fun _ => _).run P w = _
      rw [run_ok hlen]
      show (sizeOf e >>= fun _ => _).run P w = _
      rw [run_ok (run_size hn w)]
      show (Builtin.firstCells n (Nat.min k l) x' >>= fun _ => _).run P w = _
      rw [← hq, run_ok (hfirst q hqk)]
      show (storeCells a (cs'.take (q * n)).toArray.toList >>= fun _ => _).run P w = _
      rw [run_ok r1]; rfl
    replace he3 : bif2 (Nat.ble k l) (ob (A.write b o cs) fun A' => some (goN k, A')) (ob (A.write b o (takeN cs (Nat.mul l n))) fun A' => some (goN l, A')) = some (v, A') := he3
    rw [bif2_eq, nle_eq] at he3
    by_cases hkl : k ≤ l
    · rw [if_pos (by simpa using hkl)] at he3
      obtain ⟨A1, hw, he4⟩ := ob_eq he3
      injection he4 with he4
      injection he4 with h1 h2
      subst h2
      exact main k cs (by show _ = min k l; omega) (by rw [List.take_of_length_le (by rw [hcl]; exact Nat.le_refl _)]) hw h1.symm
    · rw [if_neg (by simpa using hkl)] at he3
      obtain ⟨A1, hw, he4⟩ := ob_eq he3
      injection he4 with he4
      injection he4 with h1 h2
      subst h2
      exact main l _ (by show _ = min k l; omega) (takeN_eq _ _) hw h1.symm
  · subst e1
    obtain ⟨⟨k, cs⟩, hseq, he3⟩ := ob_eq he2
    injection he3 with he3
    injection he3 with h1 h2
    subst h2
    obtain ⟨cs', hcr, hc1, hcl, hlen, hfirst⟩ := seq_ok hR hseq hx
    refine acts_v (v' := goInt 0) (w' := w) ?_ hR (by rw [← h1]; exact .int _ _) (Kept.refl _ _ _ _)
    rw [hs.inv_nils]
    unfold Builtin.copy_
    show (underlying t >>= fun _ => _).run P w = _
    rw [run_ok (run_und hd w)]
    show (Builtin.lenOf x' >>= fun _ => _).run P w = _
    rw [run_ok hlen]
    show (sizeOf e >>= fun _ => _).run P w = _
    rw [run_ok (run_size hn w)]
    have hmin : Nat.min k 0 = 0 := Nat.min_zero k
    show (Builtin.firstCells n (Nat.min k 0) x' >>= fun _ => _).run P w = _
    rw [hmin, run_ok (hfirst 0 (Nat.zero_le _))]
    rfl

theorem clear_ok {A A' : AH} {w : World} (hR : R P μ A w) {ts : Array TypeId} {t e : TypeId} {n : Nat} {z s v : AV} {s' : Value} (hts : ts = #[t]) (hd : und (ttOf P) t = some (.slice e)) (hz : zeroOf (ttOf P) e = some z) (hn0 : 0 < n) (hzl : len (cellsV z) = n)
    (hs : VR μ s s') (he : onSl (fun b o l _ => bif2 (Nat.beq l 0) (unit A) (ob (A.write b o (repeatTo l (cellsV z))) unit)) (unit A) s = some (v, A')) (ty : TypeId) :
    Acts P μ A w (do pure (.value (← Builtin.clear_ ts ty #[s']))) v A' := by
  subst hts
  rcases onSl_eq he with ⟨b, o, l, cap, e1, he2⟩ | ⟨e1, he2⟩
  · subst e1
    rw [bif2_eq, nbeq_eq] at he2
    by_cases hl0 : l = 0
    · rw [if_pos (by simpa using hl0)] at he2
      injection he2 with he2
      injection he2 with h1 h2
      subst h2; subst hl0
      obtain ⟨a, c, es, _⟩ := hs.slice_form
      refine acts_v (v' := .tuple #[]) (w' := w) ?_ hR (by rw [← h1]; exact .tup .nil) (Kept.refl _ _ _ _)
      rw [es]
      unfold Builtin.clear_
      show (underlying t >>= fun _ => _).run P w = _
      rw [run_ok (run_und hd w)]
      rfl
    · rw [if_neg (by simpa using hl0)] at he2
      obtain ⟨A1, hw, he3⟩ := ob_eq he2
      injection he3 with he3
      injection he3 with h1 h2
      subst h2
      obtain ⟨zv, hzr, hzv⟩ := zeroOf_run hz μ w
      have hzc : zv.cells.size = n := by
        have := (cellsV_rel hzv).length
        rw [len_eq] at hzl
        rw [hzl] at this
        simpa using this.symm
      obtain ⟨a, c, w', es, r1, r2, r3⟩ := write_sl hR hw hs (repeatTo_rel (cellsV_rel hzv) l) (repeatTo_one (zeroOf_one hz) l) (fun h => absurd h hl0) A.next
      refine acts_v (v' := .tuple #[]) ?_ r2 (by rw [← h1]; exact .tup .nil) r3
      rw [es]
      unfold Builtin.clear_
      show (underlying t >>= fun _ => _).run P w = _
      rw [run_ok (run_und hd w)]
      cases l with
      | zero => exact absurd rfl hl0
      | succ l =>
        have hzz : (Builtin.zeroCells zv.cells (l + 1)).toList = (List.replicate (l + 1) zv.cells.toList).flatten := by
          unfold Builtin.zeroCells
          rw [hzc]
          have := zeroRange (n := l + 1) hzc hn0
          rw [hzc] at this
          exact this
        show (zeroValue e >>= fun z => storeCells a (Builtin.zeroCells z.cells (l + 1)).toList >>= fun _ => (pure (.tuple #[]) : Sem Value)).run P w = _
        rw [run_ok hzr, hzz, run_ok r1]; rfl
  · subst e1
    injection he2 with he2
    injection he2 with h1 h2
    subst h2
    refine acts_v (v' := .tuple #[]) (w' := w) ?_ hR (by rw [← h1]; exact .tup .nil) (Kept.refl _ _ _ _)
    rw [hs.inv_nils]
    unfold Builtin.clear_
    show (underlying t >>= fun _ => _).run P w = _
    rw [run_ok (run_und hd w)]
    rfl

theorem freeze_wset {w : World} {b n : Nat} {cs : Array Value} {e : TypeId} {fr : Nat × Nat} (h : w.heap[b]? = some (.cells cs e fr)) (hn : n ≠ 0) :
    WSet w (w.freeze ⟨b, 0, none⟩ n) b (.cells cs e (if fr.1 == fr.2 then (0, 0 + n) else (min fr.1 0, max fr.2 (0 + n)))) := by
  unfold World.freeze
  rw [if_neg hn]
  refine ⟨?_, ?_, ?_, rfl, rfl, rfl⟩
  · show (w.heap.modify b _)[b]? = _
    rw [Array.getElem?_modify, if_pos rfl, h]
    rfl
  · intro c hc
    show (w.heap.modify b _)[c]? = _
    rw [Array.getElem?_modify, if_neg (fun e => hc e.symm)]
  · show (w.heap.modify b _).size = _
    rw [Array.size_modify]

theorem unsafeStr_ok {A A' : AH} {w : World} (hR : R P μ A w) {ts : Array TypeId} {t u e : TypeId} {p n v : AV} {p' n' : Value} (hts : ts = #[t, u]) (hd : und (ttOf P) t = some (.pointer e)) (hsz : tsize (ttOf P) e = some 1)
    (hp : VR μ p p') (hn : VR μ n n') (he : strPtr A e p n = some (v, A')) (ty : TypeId) :
    Acts P μ A w (do pure (.value (← Builtin.unsafeString_ ts ty #[p', n']))) v A' := by
  subst hts
  unfold strPtr at he
  split at he
  · obtain ⟨kk, k, e1, he2⟩ := onNat_eq he
    injection e1 with e0 e1
    subst e1
    obtain ⟨hk, he3⟩ := ot_eq he2
    rw [nlt_eq, decide_eq_true_eq] at hk
    have en := hn.inv_int
    subst en
    have hempty : ∀ q : Option Addr, p' = .pointer q → k = 0 → v = .str 0 0 → A' = A → Acts P μ A w (do pure (.value (← Builtin.unsafeString_ #[t, u] ty #[p', .int .i64 (Int.ofNat k)]))) v A' := by
      intro q eq hk0 hv hA
      subst hk0; subst hA; subst eq
      refine acts_v (v' := .string .empty) (w' := w) ?_ hR (by rw [hv]; exact VR.str_of rfl rfl) (Kept.refl _ _ _ _)
      exact Lib.run_unsafeString_none (P := P) w t u ty q
    unfold strPtr1 at he3
    split at he3
    · obtain ⟨hk0, he4⟩ := ot_eq he3
      rw [nbeq_eq, decide_eq_true_eq] at hk0
      injection he4 with he4
      injection he4 with h1 h2
      exact hempty none (by cases hp; rfl) hk0 h1.symm h2.symm
    · rename_i b o
      obtain ⟨b', d, xx, hm, ep⟩ := hp.inv_ptr
      rw [bif2_eq, nbeq_eq] at he3
      by_cases hk0 : k = 0
      · rw [if_pos (by simpa using hk0)] at he3
        injection he3 with he3
        injection he3 with h1 h2
        exact hempty _ ep hk0 h1.symm h2.symm
      · rw [if_neg (by simpa using hk0)] at he3
        obtain ⟨s, hstr, he4⟩ := ob_eq he3
        obtain ⟨ob', ho, he5⟩ := ob_eq he4
        obtain ⟨m, c, e2, ex, md, fz, ch, e3, he6⟩ := onCells_eq he5
        subst e3
        obtain ⟨hc, he7⟩ := ot_eq he6
        simp only [ba_eq, nbeq_eq, Bool.and_eq_true, decide_eq_true_eq] at hc
        obtain ⟨ho0, hmd, hee⟩ := hc
        subst ho0; subst hmd; subst hee
        injection he7 with he7
        injection he7 with h1 h2
        subst h1
        obtain ⟨bs, hbl, hvr, _, hcell⟩ := strOf_ok hR hstr hm
        obtain ⟨o', g1, g2⟩ := hR.obj b _ _ ho hm
        cases o' with
        | cells cs e' fr =>
          obtain ⟨k1, k2, k3, k4, k5, k6, k7, k8, k9⟩ := g2
          simp only at k1 k2 k3 k4 k5 k6 k7 k8 k9 g1
          have hd0 := k4.1
          subst hd0
          subst k2
          have hkc : k ≤ cs.size := by
            have hlast := hcell (k - 1) bs[k - 1] (List.getElem?_eq_getElem (by omega))
            unfold World.cell? at hlast
            simp only [g1] at hlast
            have := (Array.getElem?_eq_some_iff.1 hlast).1
            omega
          have hset := freeze_wset g1 hk0
          have hnew : ObjR P μ 0 xx (.cells m c e2 ex 0 (bif2 (Nat.ble fz k) k fz) ch) (.cells cs e2 (if fr.1 == fr.2 then (0, 0 + k) else (min fr.1 0, max fr.2 (0 + k)))) := by
            have hfz : bif2 (Nat.ble fz k) k fz = max fz k := by
              rw [bif2_eq, nle_eq]
              by_cases h : fz ≤ k
              · rw [if_pos (by simpa using h)]; omega
              · rw [if_neg (by simpa using h)]; omega
            rw [hfz]
            refine ⟨k1, rfl, k3, k4, k5, k6, ?_, ?_, k9⟩
            · intro j h1 h2 h3
              split at h1
              · rename_i heq
                rw [if_pos heq] at h2
                simp only at h2
                omega
              · rename_i heq
                rw [if_neg heq] at h2
                simp only at h2
                have hne : fr.1 ≠ fr.2 := by simpa using heq
                have := k8 trivial
                omega
            · intro _
              by_cases heq : (fr.1 == fr.2) = true
              · rw [if_pos heq]; right; simp only; omega
              · rw [if_neg heq]
                have hne : fr.1 ≠ fr.2 := by simpa using heq
                have := k8 trivial
                right; simp only; omega
          obtain ⟨q1, q2⟩ := hR.own ho hm hset (by decide) hnew A.next
          rw [h2] at q1 q2
          refine acts_v (v' := .string ⟨bs.toArray⟩) ?_ q1 hvr q2
          rw [ep]
          have hcells : P.cellsOf e2 = 1 := by
            obtain ⟨i, hi, hi1⟩ := tsize_get hsz
            unfold Program.cellsOf
            rw [tt_get hi]
            simp [hi1]
          have := Lib.run_unsafeString_row (P := P) (w := w) t u ty e2 (und_eq hd) hcells b' cs.size (by unfold World.shape?; simp [g1]) bs (by
              intro e0
              rw [e0] at hbl
              exact hk0 hbl.symm) (by omega) (by omega) (fun j x hj => by
              have h9 := hcell j x hj
              show w.cell? ((⟨b', 0 + 0, none⟩ : Addr).add j) = _
              rw [addr_add, ← Nat.add_assoc]
              exact h9)
          rw [hbl] at this
          exact this
        | _ => exact g2.elim
    · exact nomatch he3
  · exact nomatch he
end Go.Ev
end

section
/- Ev, part 27: operations that act: the theorem. -/
namespace Go.Ev
variable [F : Facts] [E : Env]
set_option linter.unusedSimpArgs false
set_option linter.unusedVariables false
set_option linter.unusedSectionVars false
variable {P : Program} {μ : Mu}
variable {wr : WrT} {io : Opd → Option AV} {ρ : Operand → Value}

/-- a call -/
def isCallW : WOp → Bool
  | .call _ _ => true
  | .callV _ _ => true
  | .invoke _ _ _ => true
  | .fail => true
  | _ => false

theorem Acts.of_run {A A' : AH} {w : World} {s s' : Sem Next} {v : AV} (h : s.run P w = s'.run P w) (k : Acts P μ A w s' v A') : Acts P μ A w s v A' := by
  obtain ⟨nx, v', w', h1, h2⟩ := k
  exact ⟨nx, v', w', by rw [h]; exact h1, h2⟩

theorem noW_p {a : POp} {q : WOp} (h : some (IOp.p a) = some (IOp.w q)) : False := by injection h with h; exact IOp.noConfusion h
theorem noW_l {a : LOp} {q : WOp} (h : some (IOp.l a) = some (IOp.w q)) : False := by injection h with h; exact IOp.noConfusion h
theorem noW_a {a : AOp} {q : WOp} (h : some (IOp.a a) = some (IOp.w q)) : False := by injection h with h; exact IOp.noConfusion h

section
variable {TT : T TypeInfo} {FR : Rec}
variable (hio : IOR μ wr io ρ)
include hio

theorem act_call {A A' : AH} {w : World} (hR : R P μ A w) {o : Oper} {c : Call} (ho : o.op = .call c) {q : WOp} {v : AV} (hc : kCall (ttOf P) wr c = some (.w q)) (hq : isCallW q = false)
    (he : evW P (ttOf P) FR io A q = some (v, A')) : Acts P μ A w (execOp ρ o) v A' := by
  obtain ⟨as, has, hc⟩ := ob_eq hc
  unfold kCallee at hc
  split at hc
  · have := (inj_w hc).symm; subst this; exact nomatch hq
  · obtain ⟨f, _, hc⟩ := ob_eq hc
    have := (inj_w hc).symm; subst this; exact nomatch hq
  · obtain ⟨f, _, hc⟩ := ob_eq hc
    have := (inj_w hc).symm; subst this; exact nomatch hq
  · rename_i b hb
    refine Acts.of_run (call_builtin (P := P) (ρ := ρ) ho hb w) ?_
    unfold kBuiltin at hc
    split at hc
    · exact (noW_p hc).elim
    · split at hc
      · rename_i x t hts
        obtain ⟨d, hd, hc⟩ := ob_eq hc
        obtain ⟨ox, hox, hxx⟩ := opnds_one has
        have ea := one_arr hox
        have et := one_arr hts
        rw [ea, map_one]
        unfold kBuiltin1 at hc
        split at hc
        · exfalso
          unfold kLen at hc
          cases d with
          | map kt e => exact noW_l hc
          | string => exact noW_p hc
          | slice _ => exact noW_p hc
          | array _ _ => exact noW_p hc
          | _ => exact nomatch hc
        · obtain ⟨_, hc⟩ := ot_eq hc
          exact (noW_p hc).elim
        · unfold kClear1 at hc
          cases d with
          | slice e =>
            obtain ⟨z, hz, hc⟩ := ob_eq hc
            obtain ⟨n, hn, hc⟩ := ob_eq hc
            obtain ⟨hnz, hc⟩ := ot_eq hc
            simp only [ba_eq, Bool.and_eq_true, nlt_eq, nbeq_eq, decide_eq_true_eq] at hnz
            have hq := (inj_w hc).symm
            subst hq
            obtain ⟨u, hu, he⟩ := ob_eq he
            exact clear_ok hR et hd hz hnz.1 hnz.2 (hio _ _ _ hxx hu) he o.type
          | _ => exact nomatch hc
        · exact (noW_p hc).elim
        · exact nomatch hc
      · rename_i x y t u hts
        obtain ⟨d, hd, hc⟩ := ob_eq hc
        obtain ⟨d2, hd2, hc⟩ := ob_eq hc
        obtain ⟨ox, oy, hox, hxx, hyy⟩ := opnds_two has
        have ea := two_arr hox
        have et := two_arr hts
        rw [ea, map_two]
        unfold kBuiltin2 at hc
        split at hc
        · have app : ∀ e i z, und (ttOf P) t = some (.slice e) → ((∃ e', d2 = .slice e') ∨ d2 = .string) → (ttOf P).get e = some i → zeroOf (ttOf P) e = some z →
              (0 < i.size ∧ 0 < i.bytes) → len (cellsV z) = i.size → evW P (ttOf P) FR io A (.append e i.size i.bytes x y) = some (v, A') →
              Acts P μ A w (builtin .append c.argTypes o.type (c.args.map fun | .const _ => true | _ => false) #[ρ ox, ρ oy]) v A' := by
            intro e i z h1 h2 h3 h4 h5 h6 h7
            obtain ⟨s, hs, h7⟩ := ob_eq h7
            obtain ⟨y', hy', h7⟩ := ob_eq h7
            obtain ⟨v', w', r1, r2⟩ := append_ok hR et h1 hd2 h2 h3 h4 h6 h5.1 h5.2 (hio _ _ _ hxx hs) (hio _ _ _ hyy hy') h7 o.type
            exact ⟨.value v', v', w', run_v r1, .inl rfl, r2⟩
          unfold kAppend1 at hc
          split at hc
          · rename_i e e'
            obtain ⟨i, hi, hc⟩ := ob_eq hc
            obtain ⟨z, hz, hc⟩ := ob_eq hc
            obtain ⟨hnz, hc⟩ := ot_eq hc
            simp only [ba_eq, Bool.and_eq_true, nlt_eq, nbeq_eq, decide_eq_true_eq] at hnz
            have hq := (inj_w hc).symm
            subst hq
            exact app _ i z hd (.inl ⟨_, rfl⟩) hi hz hnz.1 hnz.2 he
          · rename_i e
            obtain ⟨i, hi, hc⟩ := ob_eq hc
            obtain ⟨z, hz, hc⟩ := ob_eq hc
            obtain ⟨hnz, hc⟩ := ot_eq hc
            simp only [ba_eq, Bool.and_eq_true, nlt_eq, nbeq_eq, decide_eq_true_eq] at hnz
            have hq := (inj_w hc).symm
            subst hq
            exact app _ i z hd (.inr rfl) hi hz hnz.1 hnz.2 he
          · exact nomatch hc
        · unfold kCopy1 at hc
          split at hc
          · rename_i e
            obtain ⟨n, hn, hc⟩ := ob_eq hc
            obtain ⟨_, hc⟩ := ot_eq hc
            have hq := (inj_w hc).symm
            subst hq
            obtain ⟨s, hs, he⟩ := ob_eq he
            obtain ⟨y', hy', he⟩ := ob_eq he
            exact copy_ok hR et hd hn (hio _ _ _ hxx hs) (hio _ _ _ hyy hy') he o.type
          · exact nomatch hc
        · unfold kDelete1 at hc
          split at hc
          · rename_i kt et2
            have hq := (inj_w hc).symm
            subst hq
            obtain ⟨k, hk, he⟩ := ob_eq he
            obtain ⟨m, hm, he⟩ := ob_eq he
            exact delete_ok hR et hd (hio _ _ _ hxx hm) (hio _ _ _ hyy hk) he o.type
          · exact nomatch hc
        · unfold kUnsafeStr1 at hc
          split at hc
          · rename_i e
            obtain ⟨s, hs, hc⟩ := ob_eq hc
            obtain ⟨hs1, hc⟩ := ot_eq hc
            rw [nbeq_eq, decide_eq_true_eq] at hs1
            subst hs1
            have hq := (inj_w hc).symm
            subst hq
            obtain ⟨n, hn, he⟩ := ob_eq he
            obtain ⟨p, hp, he⟩ := ob_eq he
            exact unsafeStr_ok hR et hd hs (hio _ _ _ hxx hp) (hio _ _ _ hyy hn) he o.type
          · exact nomatch hc
        · exact nomatch hc
      · exact nomatch hc

theorem act_ok {A A' : AH} {w : World} (hR : R P μ A w) (o : Oper) {q : WOp} {v : AV} (hc : compOp0 P (ttOf P) wr o.op = some (.w q)) (hq : isCallW q = false) (he : evW P (ttOf P) FR io A q = some (v, A')) :
    Acts P μ A w (execOp ρ o) v A' := by
  cases ho : o.op with
  | store t a x =>
    rw [ho] at hc
    obtain ⟨a', ha, hc⟩ := ob_eq hc
    obtain ⟨x', hx, hc⟩ := ob_eq hc
    obtain ⟨g, hg, hc⟩ := ob_eq hc
    obtain ⟨n, hn, hc⟩ := ob_eq hc
    obtain ⟨hgn, hc⟩ := ot_eq hc
    have hq := (inj_w hc).symm
    subst hq
    have hexec : execOp ρ o = (do Instr.storeAt t (ρ a) (ρ x); pure .skip : Sem Next) := by unfold execOp; rw [ho]
    rw [hexec]
    refine store_ok hio hR ha hx hg hn ?_ he
    intro hgf
    subst hgf
    simpa [bo_eq, nbeq_eq] using hgn
  | mapUpdate t m k x =>
    rw [ho] at hc
    obtain ⟨m', hm, hc⟩ := ob_eq hc
    obtain ⟨k', hk, hc⟩ := ob_eq hc
    obtain ⟨x', hx, hc⟩ := ob_eq hc
    obtain ⟨d, hd, hc⟩ := ob_eq hc
    have hexec : execOp ρ o = (do Instr.mapUpdate t (ρ m) (ρ k) (ρ x); pure .skip : Sem Next) := by unfold execOp; rw [ho]
    rw [hexec]
    unfold kMapPut1 at hc
    split at hc
    · have hq := (inj_w hc).symm
      subst hq
      exact mapPut_ok hio hR hd hm hk hx he
    · exact nomatch hc
  | insert t m k x =>
    rw [ho] at hc
    obtain ⟨m', hm, hc⟩ := ob_eq hc
    obtain ⟨k', hk, hc⟩ := ob_eq hc
    obtain ⟨x', hx, hc⟩ := ob_eq hc
    obtain ⟨d, hd, hc⟩ := ob_eq hc
    have hexec : execOp ρ o = (do Instr.mapUpdate t (ρ m) (ρ k) (ρ x); pure .skip : Sem Next) := by unfold execOp; rw [ho]
    rw [hexec]
    unfold kMapPut1 at hc
    split at hc
    · have hq := (inj_w hc).symm
      subst hq
      exact mapPut_ok hio hR hd hm hk hx he
    · exact nomatch hc
  | next x s =>
    rw [ho] at hc
    obtain ⟨x', hx, hc⟩ := ob_eq hc
    obtain ⟨hs, hc⟩ := ot_eq hc
    subst hs
    have hq := (inj_w hc).symm
    subst hq
    have hexec : execOp ρ o = (do pure (.value (← Instr.next (ρ x) true o.type)) : Sem Next) := by unfold execOp; rw [ho]
    rw [hexec]
    exact next_ok hio hR hx he o.type
  | call c =>
    rw [ho] at hc
    exact act_call hio hR ho hc hq he
  | move x =>
    rw [ho] at hc
    obtain ⟨a, _, hc⟩ := ob_eq hc
    exact (noW_p hc).elim
  | assign x =>
    rw [ho] at hc
    obtain ⟨a, _, hc⟩ := ob_eq hc
    exact (noW_p hc).elim
  | pick c a b =>
    rw [ho] at hc
    obtain ⟨_, _, hc⟩ := ob_eq hc
    obtain ⟨_, _, hc⟩ := ob_eq hc
    obtain ⟨_, _, hc⟩ := ob_eq hc
    exact (noW_p hc).elim
  | alloc e =>
    rw [ho] at hc
    obtain ⟨_, _, hc⟩ := ob_eq hc
    exact (noW_a hc).elim
  | box e x =>
    rw [ho] at hc
    obtain ⟨_, _, hc⟩ := ob_eq hc
    exact (noW_a hc).elim
  | build t parts =>
    rw [ho] at hc
    obtain ⟨z, _, hc⟩ := ob_eq hc
    obtain ⟨d, _, hc⟩ := ob_eq hc
    unfold kBuild1 at hc
    split at hc
    · obtain ⟨_, _, hc⟩ := ob_eq hc
      obtain ⟨_, _, hc⟩ := ob_eq hc
      exact (noW_p hc).elim
    · obtain ⟨_, _, hc⟩ := ob_eq hc
      obtain ⟨_, _, hc⟩ := ob_eq hc
      exact (noW_p hc).elim
    · exact nomatch hc
  | buildSlice t n parts =>
    rw [ho] at hc
    obtain ⟨d, _, hc⟩ := ob_eq hc
    unfold kBuildSl1 at hc
    split at hc
    · obtain ⟨_, _, hc⟩ := ob_eq hc
      obtain ⟨_, _, hc⟩ := ob_eq hc
      obtain ⟨_, _, hc⟩ := ob_eq hc
      obtain ⟨_, hc⟩ := ot_eq hc
      exact (noW_a hc).elim
    · exact nomatch hc
  | load t a =>
    rw [ho] at hc
    obtain ⟨_, _, hc⟩ := ob_eq hc
    obtain ⟨g, _, hc⟩ := ob_eq hc
    rw [bif2_eq] at hc
    split at hc
    · obtain ⟨_, _, hc⟩ := ob_eq hc
      exact (noW_l hc).elim
    · exact (noW_l hc).elim
  | nilCheck x =>
    rw [ho] at hc
    obtain ⟨_, _, hc⟩ := ob_eq hc
    exact (noW_p hc).elim
  | binOp op t x y p =>
    rw [ho] at hc
    obtain ⟨_, _, hc⟩ := ob_eq hc
    obtain ⟨_, _, hc⟩ := ob_eq hc
    rw [bif2_eq] at hc
    split at hc
    · obtain ⟨d, _, hc⟩ := ob_eq hc
      unfold kBin1 at hc
      split at hc
      · exact (noW_p hc).elim
      · exact (noW_p hc).elim
      · obtain ⟨_, hc⟩ := ot_eq hc
        obtain ⟨_, _, hc⟩ := ob_eq hc
        exact (noW_p hc).elim
      · obtain ⟨_, hc⟩ := ot_eq hc
        obtain ⟨_, _, hc⟩ := ob_eq hc
        exact (noW_p hc).elim
    · exact (noW_p hc).elim
  | unOp op t x =>
    rw [ho] at hc
    obtain ⟨_, _, hc⟩ := ob_eq hc
    exact (noW_p hc).elim
  | convert s d x =>
    rw [ho] at hc
    obtain ⟨_, _, hc⟩ := ob_eq hc
    obtain ⟨_, _, hc⟩ := ob_eq hc
    obtain ⟨_, _, hc⟩ := ob_eq hc
    unfold kConv1 at hc
    split at hc
    · exact (noW_p hc).elim
    · exact (noW_p hc).elim
    · exact (noW_p hc).elim
    · obtain ⟨_, _, hc⟩ := ob_eq hc
      obtain ⟨_, hc⟩ := ot_eq hc
      obtain ⟨_, _, hc⟩ := ob_eq hc
      obtain ⟨_, hc⟩ := ot_eq hc
      exact (noW_a hc).elim
    · obtain ⟨_, _, hc⟩ := ob_eq hc
      obtain ⟨_, hc⟩ := ot_eq hc
      exact (noW_l hc).elim
    · obtain ⟨_, _, hc⟩ := ob_eq hc
      obtain ⟨_, hc⟩ := ot_eq hc
      exact (noW_l hc).elim
    · obtain ⟨_, _, hc⟩ := ob_eq hc
      obtain ⟨_, hc⟩ := ot_eq hc
      exact (noW_l hc).elim
    · exact nomatch hc
  | makeInterface t x =>
    rw [ho] at hc
    obtain ⟨_, _, hc⟩ := ob_eq hc
    obtain ⟨_, _, hc⟩ := ob_eq hc
    obtain ⟨_, hc⟩ := ot_eq hc
    exact (noW_p hc).elim
  | makeFunc fn a b =>
    rw [ho] at hc
    obtain ⟨_, _, hc⟩ := ob_eq hc
    obtain ⟨_, _, hc⟩ := ob_eq hc
    obtain ⟨_, hc⟩ := ot_eq hc
    exact (noW_p hc).elim
  | makeMap t r =>
    rw [ho] at hc
    cases r with
    | none => exact (noW_a hc).elim
    | some r => exact nomatch hc
  | makeSlice t l c =>
    rw [ho] at hc
    obtain ⟨_, _, hc⟩ := ob_eq hc
    obtain ⟨_, _, hc⟩ := ob_eq hc
    obtain ⟨d, _, hc⟩ := ob_eq hc
    unfold kMkSl1 at hc
    split at hc
    · obtain ⟨_, _, hc⟩ := ob_eq hc
      obtain ⟨_, _, hc⟩ := ob_eq hc
      exact (noW_a hc).elim
    · exact nomatch hc
  | slice t x lo hi mx =>
    rw [ho] at hc
    obtain ⟨_, _, hc⟩ := ob_eq hc
    obtain ⟨_, _, hc⟩ := ob_eq hc
    obtain ⟨_, _, hc⟩ := ob_eq hc
    obtain ⟨_, _, hc⟩ := ob_eq hc
    obtain ⟨d, _, hc⟩ := ob_eq hc
    unfold kSlice1 at hc
    split at hc
    · obtain ⟨_, hc⟩ := ot_eq hc
      exact (noW_p hc).elim
    · obtain ⟨_, _, hc⟩ := ob_eq hc
      obtain ⟨_, hc⟩ := ot_eq hc
      exact (noW_p hc).elim
    · obtain ⟨_, _, hc⟩ := ob_eq hc
      obtain ⟨_, hc⟩ := ot_eq hc
      exact (noW_p hc).elim
    · exact nomatch hc
  | fieldAddr t x f =>
    rw [ho] at hc
    obtain ⟨_, _, hc⟩ := ob_eq hc
    obtain ⟨d, _, hc⟩ := ob_eq hc
    unfold kFieldAddr1 at hc
    split at hc
    · obtain ⟨_, _, hc⟩ := ob_eq hc
      obtain ⟨_, _, hc⟩ := ob_eq hc
      obtain ⟨_, hc⟩ := ot_eq hc
      exact (noW_p hc).elim
    · exact nomatch hc
  | field t x f =>
    rw [ho] at hc
    obtain ⟨_, _, hc⟩ := ob_eq hc
    obtain ⟨d, _, hc⟩ := ob_eq hc
    unfold kField1 at hc
    split at hc
    · obtain ⟨_, _, hc⟩ := ob_eq hc
      obtain ⟨_, _, hc⟩ := ob_eq hc
      obtain ⟨_, _, hc⟩ := ob_eq hc
      exact (noW_p hc).elim
    · exact nomatch hc
  | indexAddr t x ix =>
    rw [ho] at hc
    obtain ⟨_, _, hc⟩ := ob_eq hc
    obtain ⟨_, _, hc⟩ := ob_eq hc
    obtain ⟨d, _, hc⟩ := ob_eq hc
    unfold kIxAddr1 at hc
    split at hc
    · obtain ⟨_, _, hc⟩ := ob_eq hc
      exact (noW_p hc).elim
    · obtain ⟨_, _, hc⟩ := ob_eq hc
      exact (noW_p hc).elim
    · exact nomatch hc
  | index t x ix =>
    rw [ho] at hc
    obtain ⟨_, _, hc⟩ := ob_eq hc
    obtain ⟨_, _, hc⟩ := ob_eq hc
    obtain ⟨d, _, hc⟩ := ob_eq hc
    unfold kIndex1 at hc
    split at hc
    · obtain ⟨_, _, hc⟩ := ob_eq hc
      obtain ⟨_, _, hc⟩ := ob_eq hc
      exact (noW_p hc).elim
    · exact (noW_p hc).elim
    · exact nomatch hc
  | lookup t x k ok =>
    rw [ho] at hc
    obtain ⟨_, _, hc⟩ := ob_eq hc
    obtain ⟨_, _, hc⟩ := ob_eq hc
    obtain ⟨d, _, hc⟩ := ob_eq hc
    unfold kLookup1 at hc
    split at hc
    · obtain ⟨_, _, hc⟩ := ob_eq hc
      exact (noW_l hc).elim
    · exact nomatch hc
  | range t x =>
    rw [ho] at hc
    obtain ⟨_, _, hc⟩ := ob_eq hc
    obtain ⟨_, _, hc⟩ := ob_eq hc
    obtain ⟨_, hc⟩ := ot_eq hc
    exact (noW_a hc).elim
  | typeAssert x xt t ok =>
    rw [ho] at hc
    obtain ⟨_, _, hc⟩ := ob_eq hc
    obtain ⟨_, _, hc⟩ := ob_eq hc
    obtain ⟨_, _, hc⟩ := ob_eq hc
    obtain ⟨_, hc⟩ := ot_eq hc
    exact (noW_p hc).elim
  | extract t ix =>
    rw [ho] at hc
    obtain ⟨_, _, hc⟩ := ob_eq hc
    exact (noW_p hc).elim
  | _ => rw [ho] at hc; exact nomatch hc
end
end Go.Ev
end

section
/- Ev, part 28: functions without a body. -/
namespace Go.Ev
variable [F : Facts] [E : Env]
set_option linter.unusedSimpArgs false
set_option linter.unusedVariables false
set_option linter.unusedSectionVars false
variable {P : Program} {μ : Mu}

theorem idxOf_ok (c : UInt8) : ∀ (l : List UInt8) (i : Nat), (match idxOf c.toNat (l.map UInt8.toNat) i with | some j => (j : Int) | none => -1) = (if Lib.indexByte l c == -1 then -1 else (i : Int) + Lib.indexByte l c) ∧ (∀ j, idxOf c.toNat (l.map UInt8.toNat) i = some j → i ≤ j) := by
  intro l
  induction l with
  | nil => intro i; exact ⟨rfl, (fun j h => nomatch h)⟩
  | cons b l ih =>
    intro i
    have hstep : idxOf c.toNat ((b :: l).map UInt8.toNat) i = if b = c then some i else idxOf c.toNat (l.map UInt8.toNat) (i + 1) := by
      show bif2 (Nat.beq b.toNat c.toNat) (some i) (idxOf c.toNat (l.map UInt8.toNat) (Nat.succ i)) = _
      rw [bif2_eq, nbeq_eq]
      by_cases e : b = c
      · subst e; simp
      · rw [if_neg (by
          simp only [decide_eq_true_eq]
          intro h; exact e (UInt8.toNat_inj.1 h)), if_neg e]
    rw [hstep]
    unfold Lib.indexByte
    by_cases e : b = c
    · subst e
      simp
    · have e' : (b == c) = false := by simpa using e
      obtain ⟨h1, h2⟩ := ih (i + 1)
      have hge := Lib.indexByte_ge l c
      rw [if_neg e, e']
      simp only [Bool.false_eq_true, if_false]
      refine ⟨?_, fun j hj => by have := h2 j hj; omega⟩
      rw [h1]
      by_cases h3 : (Lib.indexByte l c == -1) = true
      · simp [h3]
      · have h3' : (Lib.indexByte l c == -1) = false := by simpa using h3
        have h4 : ((Lib.indexByte l c + 1) == -1) = false := by
          have : Lib.indexByte l c ≠ -1 := by simpa using h3
          rw [beq_eq_false_iff_ne]
          omega
        simp only [h3', Bool.false_eq_true, if_false, h4]
        omega
theorem extIdx_ok (l : List UInt8) (c : UInt8) : extIdx l.length (bytesNum l) c.toNat = some (.int .i64 (Lib.indexByte l c)) := by
  unfold extIdx
  rw [bytesN_eq]
  have h := (idxOf_ok c l 0).1
  cases hh : idxOf c.toNat (l.map UInt8.toNat) 0 with
  | none =>
    rw [hh] at h
    have : Lib.indexByte l c = -1 := by
      by_cases h3 : (Lib.indexByte l c == -1) = true
      · simpa using h3
      · have h3' : (Lib.indexByte l c == -1) = false := by simpa using h3
        simp only [h3', Bool.false_eq_true, if_false] at h
        omega
    rw [this]
    rfl
  | some j =>
    rw [hh] at h
    have : Lib.indexByte l c = (j : Int) := by
      by_cases h3 : (Lib.indexByte l c == -1) = true
      · simp only [h3, if_true] at h
        omega
      · have h3' : (Lib.indexByte l c == -1) = false := by simpa using h3
        simp only [h3', Bool.false_eq_true, if_false] at h
        omega
    rw [this]
    rfl
theorem cntOf_ok (c : UInt8) (l : List UInt8) : cntOf c.toNat (l.map UInt8.toNat) = Lib.countByte l c := by
  induction l with
  | nil => rfl
  | cons b l ih =>
    show bif2 (Nat.beq b.toNat c.toNat) (Nat.succ (cntOf c.toNat (l.map UInt8.toNat))) (cntOf c.toNat (l.map UInt8.toNat)) = _
    rw [ih, bif2_eq, nbeq_eq]
    unfold Lib.countByte
    rw [List.count_cons]
    by_cases e : b = c
    · subst e; simp
    · rw [if_neg (by
        simp only [decide_eq_true_eq]
        intro h; exact e (UInt8.toNat_inj.1 h))]
      have e' : (b == c) = false := by simpa using e
      simp [e']

theorem byte1_eq {f : Nat → Option AV} {v r : AV} {v' : Value} (h : byte1 f v = some r) (hv : VR μ v v') : ∃ c : UInt8, v' = .int .u8 (c.toNat : Int) ∧ f c.toNat = some r := by
  unfold byte1 at h
  split at h
  · obtain ⟨k, n, e, h2⟩ := onNat_eq h
    injection e with e0 e1
    subst e1
    obtain ⟨hlt, h3⟩ := ot_eq h2
    rw [nlt_eq, decide_eq_true_eq] at hlt
    have hc : (UInt8.ofNat n).toNat = n := by simp; omega
    refine ⟨UInt8.ofNat n, ?_, ?_⟩
    · rw [hc]; exact hv.inv_int
    · rw [hc]; exact h3
  · exact nomatch h

theorem ext2_eq {f : Nat → Nat → Nat → Option AV} {args : List AV} {v : AV} {args' : List Value} (h : ext2 f args = some v) (ha : VRs μ args args') :
    ∃ (s : ByteArray) (c : UInt8), args' = [.string s, .int .u8 (c.toNat : Int)] ∧ f s.data.toList.length (bytesNum s.data.toList) c.toNat = some v := by
  unfold ext2 at h
  split at h
  · rename_i s c
    obtain ⟨l, n, e, h2⟩ := onStr_eq h
    subst e
    cases ha with
    | cons h3 ha =>
    cases ha with
    | cons h4 ha =>
    cases ha with
    | nil =>
    obtain ⟨s', e, hl, hn⟩ := h3.inv_str
    subst e; subst hl; subst hn
    obtain ⟨c', e, h5⟩ := byte1_eq h2 h4
    subst e
    exact ⟨s', c', rfl, h5⟩
  · exact nomatch h

theorem toNat_toUInt8 (c : UInt8) : ((c.toNat : Int).toNat).toUInt8 = c := by simp

theorem find_idx : ∀ fn : Func, fn.name = "internal/bytealg.IndexByteString" → fn.origin = "" → Extern.findNext fn = none ∧ Extern.find fn = some Extern.BytealgIndexByte.indexByte := by
  intro fn h1 h2
  unfold Extern.findNext Extern.find
  rw [h1, h2]
  exact ⟨rfl, rfl⟩
theorem find_cnt : ∀ fn : Func, fn.name = "internal/bytealg.CountString" → fn.origin = "" → Extern.findNext fn = none ∧ Extern.find fn = some Extern.BytealgCount.count := by
  intro fn h1 h2
  unfold Extern.findNext Extern.find
  rw [h1, h2]
  exact ⟨rfl, rfl⟩
theorem find_esc : ∀ fn : Func, fn.name = "internal/abi.NoEscape" → fn.origin = "" → Extern.findNext fn = none ∧ Extern.find fn = some Extern.AbiNoEscape.same := by
  intro fn h1 h2
  unfold Extern.findNext Extern.find
  rw [h1, h2]
  exact ⟨rfl, rfl⟩

theorem callFunc_ext {f : FuncId} {fn : Func} {e : Array Value → Sem Value} {args : Array Value} {w : World} {v : Value} (hf : P.funcs[f]? = some fn) (hb : fn.body = none) (hn : (fn.name == "runtime.NumGoroutine") = false)
    (h1 : Extern.findNext fn = none) (h2 : Extern.find fn = some e) (h3 : (e args).run P w = .ok v w) : (callFunc f args).run P w = .ok (.value v) w := by
  unfold callFunc
  show (program >>= fun _ => _).run P w = _
  rw [run_ok (show program.run P w = .ok P w from rfl)]
  simp only [hf, hn, hb, Option.isNone_none, if_true, Bool.false_eq_true, if_false]
  show (mark (.extern f) >>= fun _ => _).run P w = _
  rw [run_ok (show (mark (.extern f)).run P w = .ok () w from rfl)]
  simp only [h1, h2]
  show (e args >>= fun _ => _).run P w = _
  rw [run_ok h3]; rfl

theorem ext_ok {f : FuncId} {fn : Func} {args : List AV} {args' : Array Value} {v : AV} {w : World} (hf : P.funcs[f]? = some fn) (hb : fn.body = none) (hn : (fn.name == "runtime.NumGoroutine") = false) (ho : fn.origin = "")
    (he : extern (kindOfExt fn.name) args = some v) (ha : VRs μ args args'.toList) : ∃ v', (callFunc f args').run P w = .ok (.value v') w ∧ VR μ v v' := by
  unfold kindOfExt at he
  split at he
  · rename_i hname
    have hname' := eq_of_beq hname
    obtain ⟨s, c, e, h⟩ := ext2_eq (show ext2 extIdx args = some v from he) ha
    obtain ⟨g1, g2⟩ := find_idx fn hname' ho
    have ea : args' = #[.string s, .int .u8 (c.toNat : Int)] := two_arr e
    refine ⟨_, callFunc_ext hf hb hn g1 g2 (by rw [ea]; exact Lib.run_indexByteString s _ w), ?_⟩
    rw [extIdx_ok] at h
    injection h with h
    rw [← h, toNat_toUInt8]
    exact .int _ _
  · split at he
    · rename_i hname
      have hname' := eq_of_beq hname
      obtain ⟨s, c, e, h⟩ := ext2_eq (show ext2 (fun l n c => some (goN (cntOf c (bytesN l n)))) args = some v from he) ha
      obtain ⟨g1, g2⟩ := find_cnt fn hname' ho
      have ea : args' = #[.string s, .int .u8 (c.toNat : Int)] := two_arr e
      refine ⟨_, callFunc_ext hf hb hn g1 g2 (by rw [ea]; exact Lib.run_countString s _ w), ?_⟩
      injection h with h
      rw [← h, bytesN_eq, cntOf_ok, toNat_toUInt8]
      exact .int _ _
    · split at he
      · rename_i hname
        have hname' := eq_of_beq hname
        replace he : ext1 args = some v := he
        unfold ext1 at he
        split at he
        · rename_i x
          injection he with he
          subst he
          cases h : args'.toList with
          | nil => rw [h] at ha; exact nomatch ha
          | cons y l =>
            rw [h] at ha
            cases ha with
            | cons h1 h2 =>
            cases h2 with
            | nil =>
            have ea : args' = #[y] := one_arr h
            obtain ⟨g1, g2⟩ := find_esc fn hname' ho
            exact ⟨y, callFunc_ext hf hb hn g1 g2 (by rw [ea]; rfl), h1⟩
        · exact nomatch he
      · exact nomatch he
end Go.Ev
end

section
/- Ev, part 29: the machine's frames and steps. -/
namespace Go.Ev
variable [F : Facts] [E : Env]
set_option linter.unusedSimpArgs false
set_option linter.unusedVariables false
set_option linter.unusedSectionVars false
variable {P : Program} {μ : Mu}

/-- a frame at a place -/
def frm (b : Frame) (t : Array Value) (ds : List Deferred) (todo : List Item) : Frame := { b with tmps := t, todo := todo, defers := ds, mode := .run }
def evT (t : Array Value) : Operand → Value
  | .tmp i => t.getD i undef
  | .const v => v
  | .global g => .pointer (some ⟨g, 0, none⟩)
  | .func f => .func (.func f) #[] #[]
theorem frm_eval (b : Frame) (t : Array Value) (ds : List Deferred) (todo : List Item) : (frm b t ds todo).eval = evT t := by
  funext x; cases x <;> rfl

section steps
variable {b : Frame} {t : Array Value} {ds : List Deferred} {k : List Item} {cs : List Frame} {w : World}
theorem st_skip : step P (lone (frm b t ds (.code .skip :: k)) cs w) = .next (lone (frm b t ds k) cs w) := step_lone_go (by simp [stepG, stepG.exec, frm])
theorem st_label {l : Nat} : step P (lone (frm b t ds (.code (.label l) :: k)) cs w) = .next (lone (frm b t ds k) cs w) := step_lone_go (by simp [stepG, stepG.exec, frm])
theorem st_inBlock {id : Nat} : step P (lone (frm b t ds (.inBlock id :: k)) cs w) = .next (lone (frm b t ds k) cs w) := step_lone_go (by simp [stepG, stepG.exec, frm])
theorem st_inScope {c : Code} : step P (lone (frm b t ds (.inScope c :: k)) cs w) = .next (lone (frm b t ds k) cs w) := step_lone_go (by simp [stepG, stepG.exec, frm])
theorem st_seq {x y : Code} : step P (lone (frm b t ds (.code (.seq x y) :: k)) cs w) = .next (lone (frm b t ds (.code x :: .code y :: k)) cs w) := step_lone_go (by simp [stepG, stepG.exec, frm])
theorem st_cond {c : Operand} {x y : Code} {v : Bool} (h : evT t c = .bool v) : step P (lone (frm b t ds (.code (.cond c x y) :: k)) cs w) = .next (lone (frm b t ds (.code (if v then x else y) :: k)) cs w) :=
  step_lone_go (by
    have he := congrFun (frm_eval b t ds (.code (.cond c x y) :: k)) c
    simp only [frm] at he
    simp [stepG, stepG.exec, frm, he, h])
theorem st_block {id : Nat} {c : Code} : step P (lone (frm b t ds (.code (.block id c) :: k)) cs w) = .next (lone (frm b t ds (.code c :: .inBlock id :: k)) cs w) := step_lone_go (by simp [stepG, stepG.exec, frm])
theorem st_loop {c : Code} : step P (lone (frm b t ds (.code (.loop c) :: k)) cs w) = .next (lone (frm b t ds (.code c :: .inLoop c :: k)) cs w) := step_lone_go (by simp [stepG, stepG.exec, frm])
theorem st_inLoop {c : Code} : step P (lone (frm b t ds (.inLoop c :: k)) cs w) = .next (lone (frm b t ds (.code c :: .inLoop c :: k)) cs w) := step_lone_go (by simp [stepG, stepG.exec, frm])
theorem st_scope {c : Code} : step P (lone (frm b t ds (.code (.scope c) :: k)) cs w) = .next (lone (frm b t ds (.code c :: .inScope c :: k)) cs w) := step_lone_go (by simp [stepG, stepG.exec, frm])
theorem st_exit {id : Nat} {k' : List Item} (h : exitTo id k = some k') : step P (lone (frm b t ds (.code (.exit id) :: k)) cs w) = .next (lone (frm b t ds k') cs w) := step_lone_go (by simp [stepG, stepG.exec, frm, h])
theorem st_region {id : Nat} {ops : Array Oper} : step P (lone (frm b t ds (.code (.region id ops false) :: k)) cs w) = .next (lone (frm b t ds (.inRegion ops (List.range ops.size) :: k)) cs w) := step_lone_go (by simp [stepG, stepG.exec, frm])
theorem st_draw {id : Nat} {ops : Array Oper} : step P (lone (frm b t ds (.code (.region id ops true) :: k)) cs w) =
    .next (lone (frm b t ds (.inRegion ops (Region.schedule (P.follows .mixedOrders) ops (w.tape w.drawn (.order b.fn id))) :: k)) cs { w with drawn := w.drawn + 1 }) :=
  step_lone_go (by simp [stepG, stepG.exec, frm, choose, Sem.run, Question.forced, Question.cut])
theorem st_region_end {ops : Array Oper} : step P (lone (frm b t ds (.inRegion ops [] :: k)) cs w) = .next (lone (frm b t ds k) cs w) := step_lone_go (by simp [stepG, stepG.exec, frm])

/-- a temporary is written -/
def putT (t : Array Value) (d : Option Nat) (v : Value) : Array Value :=
  match d with
  | some d => t.setIfInBounds d v
  | none => t
theorem finish_frm (ops : Array Oper) (i : Nat) (rest : List Nat) (v : Value) :
    (frm b t ds (.inRegion ops (i :: rest) :: k)).finish v = frm b (putT t ((ops[i]?).bind (·.dst)) v) ds (.inRegion ops rest :: k) := by
  cases h : (ops[i]?).bind (·.dst) <;> simp [Frame.finish, frm, putT, h]
theorem st_op_skip {ops : Array Oper} {i : Nat} {rest : List Nat} {o : Oper} (ho : ops[i]? = some o) (hw : Region.wanted o (yielded ops t) = false) :
    step P (lone (frm b t ds (.inRegion ops (i :: rest) :: k)) cs w) = .next (lone (frm b (putT t o.dst undef) ds (.inRegion ops rest :: k)) cs w) := by
  have hf := finish_frm (b := b) (t := t) (ds := ds) (k := k) ops i rest undef
  rw [ho] at hf
  rw [show putT t o.dst undef = putT t ((some o).bind (·.dst)) undef from rfl, ← hf]
  exact step_lone_go (by simp [stepG, stepG.exec, frm, ho, hw])
theorem st_op {ops : Array Oper} {i : Nat} {rest : List Nat} {o : Oper} (ho : ops[i]? = some o) (hw : Region.wanted o (yielded ops t) = true) (hd : ∀ c, o.op ≠ .defer c) :
    stepG P true { frame := frm b t ds (.inRegion ops (i :: rest) :: k), callers := cs, status := .running, dying := none } w =
      stepG.apply P true (frm b t ds (.inRegion ops (i :: rest) :: k)) cs none (execOp (evT t) o) w := by
  have he := frm_eval b t ds (.inRegion ops (i :: rest) :: k)
  simp only [frm] at he
  simp only [stepG, stepG.exec, stepG.oper, Frame.oper?, frm, ho, hw, he, Option.map_some, Option.getD_some, if_true]
  split
  · rename_i l c _ hop; exact absurd hop (hd c)
  · rfl
end steps

/-- at a place where what an operation gives is looked for -/
def Top (fr : Frame) : Prop := (∃ ops i rest k, fr.todo = .inRegion ops (i :: rest) :: k) ∨ (∃ l k, fr.todo = .inRangeFunc l :: k)

theorem apply_value {fr : Frame} {cs : List Frame} {s : Sem Next} {w w' : World} {v : Value} (h : s.run P w = .ok (.value v) w') :
    (stepG.apply P true fr cs none s w).bare = .go { frame := fr.finish v, callers := cs, status := .running, dying := none } w' := by
  simp [stepG.apply, h]
theorem apply_skip {fr : Frame} {cs : List Frame} {s : Sem Next} {w w' : World} (h : s.run P w = .ok .skip w') :
    (stepG.apply P true fr cs none s w).bare = .go { frame := fr.finish undef, callers := cs, status := .running, dying := none } w' := by
  simp [stepG.apply, h]
theorem apply_enter {fr : Frame} {cs : List Frame} {s : Sem Next} {w w' : World} {f : FuncId} {args : Array Value} (hf : Top fr) (h : s.run P w = .ok (.enter f args) w') :
    (stepG.apply P true fr cs none s w).bare = .go { frame := Frame.enter P f args .normal, callers := fr :: cs, status := .running, dying := none } w' := by
  rcases hf with ⟨ops, i, rest, k, ht⟩ | ⟨l, k, ht⟩ <;> simp [stepG.apply, h, ht]
theorem apply_round {fr : Frame} {cs : List Frame} {s : Sem Next} {w w' : World} {l : Nat} {f : FuncId} {t : Array Value} {a bo : Code} (h : s.run P w = .ok (.round l f t a bo) w') :
    (stepG.apply P true fr cs none s w).bare = .go { frame := Frame.round l f t a bo .normal, callers := fr :: cs, status := .running, dying := none } w' := by
  simp [stepG.apply, h]

/-- what an operation's run comes back with -/
def BackR (P : Program) (Q : Value → World → Prop) : Result Next → Prop
  | .ok (.value v) w' => Q v w'
  | .ok .skip w' => Q undef w'
  | .ok (.enter f args) w' => Calls P f args w' fun e w'' => ∃ v', e = .returned v' ∧ Q v' w''
  | .ok (.round l f t a bo) w' => ∀ (c : Frame) (cs : List Frame), Top c → ∃ v' w'', Q v' w'' ∧ Steps P (lone (Frame.round l f t a bo .normal) (c :: cs) w') (lone (c.finish v') cs w'')
  | _ => False
/-- an operation comes back with a value -/
def Back (P : Program) (s : Sem Next) (w : World) (Q : Value → World → Prop) : Prop := BackR P Q (s.run P w)

theorem Back.of_run {s s' : Sem Next} {w : World} {Q : Value → World → Prop} (h : s.run P w = s'.run P w) (k : Back P s' w Q) : Back P s w Q := by
  unfold Back
  rw [h]; exact k
theorem Back.of_bind {α : Type} {s : Sem α} {f : α → Sem Next} {w w' : World} {a : α} {Q : Value → World → Prop} (h : s.run P w = .ok a w') (k : Back P (f a) w' Q) : Back P (s >>= f) w Q := by
  unfold Back
  rw [run_ok h]; exact k

theorem Back.steps {s : Sem Next} {w w0 : World} {Q : Value → World → Prop} (h : Back P s w Q) {fr fr0 : Frame} {cs : List Frame} (ht : Top fr)
    (he : (stepG P true { frame := fr0, callers := cs, status := .running, dying := none } w0).bare = (stepG.apply P true fr cs none s w).bare) :
    ∃ v' w', Q v' w' ∧ Steps P (lone fr0 cs w0) (lone (fr.finish v') cs w') := by
  unfold Back at h
  generalize hr : s.run P w = r at h
  cases r with
  | halt x w' => exact h.elim
  | ok n w' =>
    cases n with
    | value v => exact ⟨v, w', h, Steps.one (step_lone_go (he.trans (apply_value hr)))⟩
    | skip => exact ⟨undef, w', h, Steps.one (step_lone_go (he.trans (apply_skip hr)))⟩
    | enter f args =>
      obtain ⟨e, w'', fr', ⟨v', hev, hq⟩, hcomes, _, hleave⟩ := h (fr :: cs)
      subst hev
      have h1 : Steps P (lone fr0 cs w0) (lone (Frame.enter P f args .normal) (fr :: cs) w') := Steps.one (step_lone_go (he.trans (apply_enter ht hr)))
      have h2 : Steps P (lone (Frame.enter P f args .normal) (fr :: cs) w') (lone fr' (fr :: cs) w'') := hcomes
      exact ⟨v', w'', hq, (h1.trans h2).trans (Steps.one (step_leave_returned hleave))⟩
    | round l f t a bo =>
      obtain ⟨v', w'', hq, hs⟩ := h fr cs ht
      exact ⟨v', w'', hq, Steps.head (step_lone_go (he.trans (apply_round hr))) hs⟩
    | _ => exact h.elim

theorem Acts.back {A A' : AH} {w : World} {s : Sem Next} {v : AV} (h : Acts P μ A w s v A') : Back P s w (Post P μ A w v A') := by
  obtain ⟨nx, v', w', h1, h2, h3⟩ := h
  unfold Back
  rw [h1]
  rcases h2 with rfl | ⟨rfl, rfl⟩
  · exact h3
  · exact h3
theorem Gives.back {A : AH} {w : World} {s : Sem Next} {v : AV} (hR : R P μ A w) (h : Gives P μ s w v) : Back P s w (Post P μ A w v A) := by
  obtain ⟨v', h1, h2⟩ := h
  unfold Back
  rw [h1]
  exact ⟨μ, hR, h2, Kept.refl _ _ _ _⟩
theorem Born.back {A : AH} {w : World} {s : Sem Next} {v : AV} {ob : AObj} (hR : R P μ A w) (h : Born P μ A.next w ob v s) : Back P s w (Post P μ A w v (A.new ob)) := by
  obtain ⟨o', v', w', x, h1, h2, h3, h4⟩ := h
  unfold Back
  rw [h1]
  obtain ⟨q1, q2⟩ := hR.made h2 h4
  exact ⟨_, q1, h3, q2⟩

/-! ### what the temporaries are -/
theorem env_ior {A : AH} {w : World} {env : T AV} {t : Array Value} (hR : R P μ A w) (h : EnvR μ env t) (res : T AV) : IOR μ (plainW P) (ioOf env res) (evT t) := by
  intro x a v hx ha
  cases x with
  | tmp i =>
    replace hx : some (Opd.t i) = some a := hx
    injection hx with hx
    subst hx
    obtain ⟨v', h1, h2⟩ := h i v ha
    show VR μ v (t.getD i undef)
    rw [Array.getD_eq_getD_getElem?, h1]
    exact h2
  | const c =>
    obtain ⟨u, hu, hx⟩ := ob_eq hx
    injection hx with hx
    subst hx
    injection ha with ha
    subst ha
    exact ofValue_rel μ _ _ _ hu
  | global g =>
    obtain ⟨hg, hx⟩ := ot_eq (show ot (nlt g P.globals.size) _ = some a from hx)
    rw [nlt_eq, decide_eq_true_eq] at hg
    injection hx with hx
    subst hx
    injection ha with ha
    subst ha
    exact VR.ptr (o := 0) (hR.glob g hg)
  | func f =>
    injection hx with hx
    subst hx
    injection ha with ha
    subst ha
    exact .fn f .nil .nil

/-! ### what calls do -/
/-- what a recursion's calls are worth -/
def CallsOK (P : Program) (FR : Rec) : Prop := ∀ f args A v A', FR.call f args A = some (v, A') → ∀ (μ : Mu) (w : World) (args' : Array Value), R P μ A w → VRs μ args args'.toList →
  Back P (callFunc f args') w (Post P μ A w v A')
end Go.Ev
end

section
/- Ev, part 30: what code comes to; the rounds of a range over a function. -/
namespace Go.Ev
variable [F : Facts] [E : Env]
set_option linter.unusedSimpArgs false
set_option linter.unusedVariables false
set_option linter.unusedSectionVars false
set_option linter.constructorNameAsVariable false
variable {P : Program} {μ : Mu}

def mark1 (r : Nat) : Deferred := { target := .collected r, args := #[] }
/-- the marks that ranges over functions left among a frame's deferred calls -/
structure Marks (b : Frame) (μ : Mu) (A : AH) (s0 : Nat) (w : World) (ms : List Deferred) : Prop where
  all : ∀ d ∈ ms, ∃ r, d = mark1 r ∧ s0 ≤ r ∧ w.heap[r]? = some (.deferred (some [])) ∧ ¬ Wr μ A r
  diff : ms.Pairwise (· ≠ ·)
  round : b.roundOf ≠ none → ms = []
theorem Marks.nil (b : Frame) (μ : Mu) (A : AH) (s0 : Nat) (w : World) : Marks b μ A s0 w [] := ⟨(fun d h => nomatch h), .nil, fun _ => rfl⟩

def OkF (b : Frame) (w : World) : Prop := ∀ l, b.roundOf = some l → ∃ L, w.heap[l]? = some (.loop L)
theorem OkF.kept {b : Frame} {w w' : World} {μ μ' : Mu} {A A' : AH} {B : Nat} (h : OkF b w) (k : Kept B μ μ' A A' w w') : OkF b w' :=
  fun l hl => let ⟨L, hL⟩ := h l hl; let ⟨L', h1, _⟩ := k.loops l L hL; ⟨L', h1⟩

/-- where code is once it has been begun -/
def entry (c : Code) (k : List Item) : List Item :=
  match c with
  | .loop body => .code body :: .inLoop body :: k
  | c => .code c :: k

def Goes (P : Program) (b : Frame) (k : List Item) (cs : List Frame) (m : Machine) (ex : Ex) (t : Array Value) (ds : List Deferred) (w : World) : Prop :=
  match ex with
  | .normal => Steps P m (lone (frm b t ds k) cs w)
  | .exit id => ∃ k2, exitTo id k2 = exitTo id k ∧ Steps P m (lone (frm b t ds (.code (.exit id) :: k2)) cs w)
  | .ret => ∃ k2, Steps P m (lone (frm b t ds (.code .ret :: k2)) cs w)
theorem Goes.of_steps {b : Frame} {k : List Item} {cs : List Frame} {m m1 : Machine} {ex : Ex} {t : Array Value} {ds : List Deferred} {w : World} (h : Steps P m m1) (g : Goes P b k cs m1 ex t ds w) : Goes P b k cs m ex t ds w := by
  cases ex with
  | normal => exact h.trans g
  | exit id => obtain ⟨k2, h1, h2⟩ := g; exact ⟨k2, h1, h.trans h2⟩
  | ret => obtain ⟨k2, h2⟩ := g; exact ⟨k2, h.trans h2⟩

theorem to_entry {b : Frame} {t : Array Value} {ds : List Deferred} {c : Code} {k : List Item} {cs : List Frame} {w : World} : Steps P (lone (frm b t ds (.code c :: k)) cs w) (lone (frm b t ds (entry c k)) cs w) := by
  cases c with
  | loop body => exact .one st_loop
  | _ => exact .refl _ _

/-- what stands once code has been run -/
structure Fin (P : Program) (μ : Mu) (A : AH) (w : World) (t : Array Value) (b : Frame) (env' : T AV) (A' : AH) (μ' : Mu) (w' : World) (t' : Array Value) (ms : List Deferred) : Prop where
  r : R P μ' A' w'
  env : EnvR μ' env' t'
  size : t'.size = t.size
  kept : Kept A.next μ μ' A A' w w'
  marks : Marks b μ' A' w.heap.size w' ms

theorem Marks.kept {b : Frame} {μ μ' : Mu} {A A' : AH} {s0 B : Nat} {w w' : World} {ms : List Deferred} (h : Marks b μ A s0 w ms) (k : Kept B μ μ' A A' w w') : Marks b μ' A' s0 w' ms where
  all d hd := by
    obtain ⟨r, h1, h2, h3, h4⟩ := h.all d hd
    have hlt := (Array.getElem?_eq_some_iff.1 h3).1
    exact ⟨r, h1, h2, by rw [k.block r hlt h4]; exact h3, fun hw => h4 (k.wr r hlt hw)⟩
  diff := h.diff
  round := h.round
theorem Marks.append {b : Frame} {μ : Mu} {A : AH} {s0 s1 : Nat} {w : World} {ms ms' : List Deferred} (h : Marks b μ A s0 w ms) (h' : Marks b μ A s1 w ms') (hs : s0 ≤ s1) (hlt : ∀ r, mark1 r ∈ ms → r < s1) : Marks b μ A s0 w (ms' ++ ms) where
  all d hd := by
    rcases List.mem_append.1 hd with hd | hd
    · obtain ⟨r, h1, h2, h3, h4⟩ := h'.all d hd
      exact ⟨r, h1, by omega, h3, h4⟩
    · exact h.all d hd
  diff := by
    refine List.pairwise_append.2 ⟨h'.diff, h.diff, ?_⟩
    intro d hd e he heq
    subst heq
    obtain ⟨r, h1, h2, _, _⟩ := h'.all d hd
    subst h1
    have := hlt r he
    omega
  round hb := by rw [h'.round hb, h.round hb]; rfl

theorem Fin.trans {A A1 A2 : AH} {w w1 w2 : World} {t t1 t2 : Array Value} {b : Frame} {env1 env2 : T AV} {μ1 μ2 : Mu} {ms1 ms2 : List Deferred} (h : Fin P μ A w t b env1 A1 μ1 w1 t1 ms1) (k : Fin P μ1 A1 w1 t1 b env2 A2 μ2 w2 t2 ms2) :
    Fin P μ A w t b env2 A2 μ2 w2 t2 (ms2 ++ ms1) where
  r := k.r
  env := k.env
  size := k.size.trans h.size
  kept := h.kept.trans (k.kept.weaken h.kept.next)
  marks := by
    refine (h.marks.kept k.kept).append k.marks h.kept.size ?_
    intro r hr
    obtain ⟨r', h1, _, h3, _⟩ := h.marks.all _ hr
    unfold mark1 at h1
    injection h1 with h1 _
    injection h1 with h1
    subst h1
    exact (Array.getElem?_eq_some_iff.1 h3).1

def CodeAt (P : Program) (FR : Rec) (nt : Nat) (c : Code) (ic : IC) : Prop :=
  ∀ env A ex env' A', FR.code ic env A = some (ex, env', A') → ∀ (μ : Mu) (w : World) (t : Array Value) (b : Frame) (ds : List Deferred) (k : List Item) (cs : List Frame), R P μ A w → EnvR μ env t → nt ≤ t.size → OkF b w →
    ∃ μ' w' t' ms, Fin P μ A w t b env' A' μ' w' t' ms ∧ Goes P b k cs (lone (frm b t ds (entry c k)) cs w) ex t' (ms ++ ds) w'
def CodesOK (P : Program) (FR : Rec) : Prop := ∀ c nt ic, comp P (ttOf P) nt c = some ic → CodeAt P FR nt c ic

theorem env_put {env : T AV} {t : Array Value} (h : EnvR μ env t) {v : AV} {v' : Value} (hv : VR μ v v') {p : Nat} (hp : p < t.size) : EnvR μ (env.put (some v) p) (t.setIfInBounds p v') := by
  intro i u hu
  rw [T.get_put] at hu
  rw [Array.getElem?_setIfInBounds]
  split at hu
  · rename_i e
    subst e
    injection hu with hu
    subst hu
    exact ⟨v', by rw [if_pos rfl, if_pos hp], hv⟩
  · rename_i e
    rw [if_neg (fun e' => e e'.symm)]
    exact h i u hu

theorem bindP_ok : ∀ {ps : List Nat} {vs : List AV} {env e : T AV} {t : Array Value} {args : List Value}, bindP ps vs e = some env → VRs μ vs args → EnvR μ e t → (∀ p ∈ ps, p < t.size) →
    ps.length = args.length ∧ EnvR μ env ((ps.zip args).foldl (fun t q => t.setIfInBounds q.1 q.2) t) ∧ ((ps.zip args).foldl (fun t q => t.setIfInBounds q.1 q.2) t).size = t.size := by
  intro ps
  induction ps with
  | nil =>
    intro vs env e t args h hv he hp
    cases vs with
    | nil =>
      cases hv
      have h2 : some e = some env := h
      injection h2 with h2
      subst h2
      exact ⟨rfl, he, rfl⟩
    | cons v vs => exact nomatch h
  | cons p ps ih =>
    intro vs env e t args h hv he hp
    cases vs with
    | nil => exact nomatch h
    | cons v vs =>
      have h : bindP ps vs (e.put (some v) p) = some env := h
      cases hv with
      | cons h1 h2 =>
      have hpt := hp p (by simp)
      obtain ⟨k1, k2, k3⟩ := ih h h2 (env_put he h1 hpt) (fun q hq => by rw [Array.size_setIfInBounds]; exact hp q (by simp [hq]))
      exact ⟨by simp [k1], k2, by rw [List.zip_cons_cons, List.foldl_cons, k3, Array.size_setIfInBounds]⟩

/-! ### rounds -/
theorem R.loopAt {A : AH} {w : World} (h : R P μ A w) {l : Nat} {st : LoopState} {p : Option Ex} {fn : FuncId} {tm : T AV} {ps : List Nat} {as bo : IC} {l' d : Nat} {x : Option (Nat × Nat)} (ho : A.obj l = some (.loop st p fn tm ps as bo)) (hm : μ l = some (l', d, x)) :
    ∃ L : Loop, w.heap[l']? = some (.loop L) ∧ ObjR P μ d x (.loop st p fn tm ps as bo) (.loop L) := by
  obtain ⟨o', h1, h2⟩ := h.obj l _ _ ho hm
  cases o' with
  | loop L => exact ⟨L, h1, h2⟩
  | _ => exact h2.elim
theorem run_getLoop {w : World} {l : Nat} {L : Loop} (h : w.heap[l]? = some (.loop L)) : (Instr.getLoop l).run P w = .ok L w := by
  unfold Instr.getLoop
  rw [run_ok (run_getObj h (fun c e f h => nomatch h))]; rfl

/-- a loop's state is changed -/
theorem R.loopSet {A : AH} {w : World} (h : R P μ A w) {l : Nat} {st st2 : LoopState} {p p2 : Option Ex} {pe : Option Code} {fn : FuncId} {tm : T AV} {ps : List Nat} {as bo : IC} {l' d : Nat} {x : Option (Nat × Nat)} (ho : A.obj l = some (.loop st p fn tm ps as bo)) (hm : μ l = some (l', d, x))
    {L : Loop} (hL : w.heap[l']? = some (.loop L)) (hr : ObjR P μ d x (.loop st p fn tm ps as bo) (.loop L)) (hp : PendR p2 pe) (B : Nat) :
    (setObj l' (.loop { L with state := st2, pending := pe })).run P w = .ok () { w with heap := w.heap.setIfInBounds l' (.loop { L with state := st2, pending := pe }) } ∧
    R P μ (A.set l (.loop st2 p2 fn tm ps as bo)) { w with heap := w.heap.setIfInBounds l' (.loop { L with state := st2, pending := pe }) } ∧
    Kept B μ μ A (A.set l (.loop st2 p2 fn tm ps as bo)) w { w with heap := w.heap.setIfInBounds l' (.loop { L with state := st2, pending := pe }) } := by
  have hset := setObj_wset hL (.loop { L with state := st2, pending := pe })
  refine ⟨run_setObj hL (fun c e f h => nomatch h), ?_⟩
  obtain ⟨h1, h2, h3, h4, nt, h5⟩ := hr
  exact h.plain (o2 := .loop st2 p2 fn tm ps as bo) ho hm hset rfl rfl rfl (show ObjR P μ d x (.loop st2 p2 fn tm ps as bo) (.loop { L with state := st2, pending := pe }) from ⟨rfl, hp, h3, h4, nt, h5⟩) (fun L0 hL0 => by
    rw [show w.heap[(l', d, x).1]? = w.heap[l']? from rfl, hL] at hL0
    injection hL0 with hL0
    injection hL0 with hL0
    subst hL0
    exact ⟨_, rfl, rfl⟩) B

section
variable {b : Frame} {t : Array Value} {ds : List Deferred} {c : Frame} {cs : List Frame} {w w' : World} {l : Nat} {v : Value}
theorem st_leave_normal (hr : b.roundOf = some l) (hk : b.kind = .normal) (h : (Instr.endRound l none).run P w = .ok v w') :
    step P (lone (frm b t ds []) (c :: cs) w) = .next (lone (c.finish v) cs w') :=
  step_lone_go (by simp [stepG, stepG.exec, frm, hr, hk, h, doReturn])
theorem st_leave_ret {k : List Item} (hr : b.roundOf = some l) (hk : b.kind = .normal) (h : (Instr.endRound l (some .ret)).run P w = .ok v w') :
    step P (lone (frm b t ds (.code .ret :: k)) (c :: cs) w) = .next (lone (c.finish v) cs w') :=
  step_lone_go (by simp [stepG, stepG.exec, frm, hr, hk, h, doReturn])
theorem st_leave_exit {k : List Item} {id : Nat} (hr : b.roundOf = some l) (hk : b.kind = .normal) (he : exitTo id k = none) (h : (Instr.endRound l (some (.exit id))).run P w = .ok v w') :
    step P (lone (frm b t ds (.code (.exit id) :: k)) (c :: cs) w) = .next (lone (c.finish v) cs w') :=
  step_lone_go (by simp [stepG, stepG.exec, frm, hr, hk, he, h, doReturn])
theorem st_beginRound {k : List Item} (hr : b.roundOf = some l) (h : (Instr.beginRound l).run P w = .ok () w') :
    step P (lone (frm b t ds (.beginRound :: k)) cs w) = .next (lone (frm b t ds k) cs w') := by
  have hs : (do (some l).elim (stuck "beginRound: no round") Instr.beginRound; pure Next.skip : Sem Next).run P w = .ok .skip w' := run_u h
  refine step_lone_go ?_
  have := apply_skip (P := P) (fr := frm b t ds (.beginRound :: k)) (cs := cs) hs
  simp only [stepG, stepG.exec, frm, hr] at this ⊢
  exact this
end

def exCode : Ex → Option Code
  | .normal => none
  | .exit id => some (.exit id)
  | .ret => some .ret
theorem pend_exCode (e : Ex) : PendR (pend e) (exCode e) := by cases e <;> first | trivial | rfl

theorem round_ok {FR : Rec} (hC : CodesOK P FR) {A A' : AH} {w : World} (hR : R P μ A w) {l l' d : Nat} {x : Option (Nat × Nat)} (hm : μ l = some (l', d, x)) {vs : List AV} {args : Array Value} (hv : VRs μ vs args.toList) {v : AV}
    (he : round1 FR l vs A = some (v, A')) : Back P (Instr.yield l' args) w (Post P μ A w v A') := by
  obtain ⟨ob', ho, he1⟩ := ob_eq he
  obtain ⟨st, p, fn, tm, ps, as, bo, e, he2⟩ := onLoop_eq he1
  subst e
  obtain ⟨env, henv, he3⟩ := ob_eq he2
  obtain ⟨⟨ex1, env1, A1⟩, hr1, he4⟩ := ob_eq he3
  obtain ⟨hn, he5⟩ := ot_eq he4
  replace he5 : round2 FR l bo env1 A1 = some (v, A') := he5
  obtain ⟨L, hL, hobj⟩ := hR.loopAt ho hm
  obtain ⟨h1, h2, h3, h4, nt, h5, h6, h7, h8⟩ := hobj
  obtain ⟨b1, b2, b3⟩ := bindP_ok henv hv h3 (fun q hq => Nat.lt_of_lt_of_le (h8 q hq) h5)
  have hps : (L.params.zip args).foldl (fun t q => t.setIfInBounds q.1 q.2) L.tmps = (ps.zip args.toList).foldl (fun t q => t.setIfInBounds q.1 q.2) L.tmps := by
    rw [← Array.foldl_toList, Array.toList_zip, h4]
  have hyield : (Instr.yield l' args).run P w = .ok (.round l' L.fn ((L.params.zip args).foldl (fun t q => t.setIfInBounds q.1 q.2) L.tmps) L.assign L.body) w := by
    unfold Instr.yield
    rw [run_ok (run_getLoop hL)]
    have hsz : args.size = L.params.size := by
      rw [← Array.length_toList, ← Array.length_toList, ← b1, h4]
    rw [if_neg (by simp [hsz])]
    rfl
  unfold Back
  rw [hyield, hps]
  intro c cs _
  generalize htt : (ps.zip args.toList).foldl (fun t q => t.setIfInBounds q.1 q.2) L.tmps = t0 at b2 b3 ⊢
  let b : Frame := { fn := L.fn, tmps := #[], todo := [], defers := [], mode := .run, kind := .normal, roundOf := some l' }
  have hb : b.roundOf = some l' := rfl
  have hbk : b.kind = .normal := rfl
  have hok : OkF b w := fun l0 hl0 => by rw [hb] at hl0; injection hl0 with hl0; subst hl0; exact ⟨L, hL⟩
  have hfr : Frame.round l' L.fn t0 L.assign L.body .normal = frm b t0 [] (.code L.assign :: [.beginRound, .code L.body]) := rfl
  rw [hfr]
  cases ex1 with
  | exit id => exact nomatch hn
  | ret => exact nomatch hn
  | normal =>
  obtain ⟨μ1, w1, t1, ms1, f1, g1⟩ := hC _ _ _ h6 env A .normal env1 A1 hr1 μ w t0 b [] [.beginRound, .code L.body] (c :: cs) hR b2 (by rw [b3]; exact h5) hok
  have hms1 : ms1 = [] := f1.marks.round (by rw [hb]; exact fun h => nomatch h)
  subst hms1
  have s1 : Steps P (lone (frm b t0 [] (.code L.assign :: [.beginRound, .code L.body])) (c :: cs) w) (lone (frm b t1 [] [.beginRound, .code L.body]) (c :: cs) w1) := to_entry.trans g1
  obtain ⟨ob2, ho2, he6⟩ := ob_eq he5
  obtain ⟨st2, p2, fn2, tm2, ps2, as2, bo2, e, he7⟩ := onLoop_eq he6
  subst e
  obtain ⟨hrd, he8⟩ := ot_eq he7
  obtain ⟨⟨ex3, env3, A3⟩, hr3, he9⟩ := ob_eq he8
  replace he9 : round3 l ex3 A3 = some (v, A') := he9
  have hm1 := f1.kept.le _ _ hm
  obtain ⟨L1, hL1, hobj1⟩ := f1.r.loopAt ho2 hm1
  obtain ⟨q1, q2, q3⟩ := f1.r.loopSet (st2 := .busy) (p2 := p2) (pe := L1.pending) ho2 hm1 hL1 hobj1 hobj1.2.1 A1.next
  have hbegin : (Instr.beginRound l').run P w1 = .ok () { w1 with heap := w1.heap.setIfInBounds l' (.loop { L1 with state := .busy, pending := L1.pending }) } := by
    unfold Instr.beginRound
    rw [run_ok (run_getLoop hL1)]
    show (setObj l' (.loop { L1 with state := .busy, pending := L1.pending }) >>= fun _ => _).run P w1 = _
    rw [run_ok q1]
    have hst : L1.state = .ready := by
      have := hobj1.1
      rw [← this]
      cases st2 <;> first | rfl | exact nomatch hrd
    rw [hst]; rfl
  generalize hw2 : ({ w1 with heap := w1.heap.setIfInBounds l' (.loop { L1 with state := .busy, pending := L1.pending }) } : World) = w2 at q1 q2 q3 hbegin
  have hok2 : OkF b w2 := (hok.kept f1.kept).kept q3
  obtain ⟨μ3, w3, t3, ms3, f3, g3⟩ := hC _ _ _ h7 env1 _ ex3 env3 A3 hr3 μ1 w2 t1 b [] [] (c :: cs) q2 f1.env (by rw [f1.size, b3]; exact h5) hok2
  have hms3 : ms3 = [] := f3.marks.round (by rw [hb]; exact fun h => nomatch h)
  subst hms3
  obtain ⟨ob4, ho4, he10⟩ := ob_eq he9
  obtain ⟨st4, p4, fn4, tm4, ps4, as4, bo4, e, he11⟩ := onLoop_eq he10
  subst e
  injection he11 with he11
  injection he11 with hv4 hA4
  have hm3 := f3.kept.le _ _ hm1
  obtain ⟨L3, hL3, hobj3⟩ := f3.r.loopAt ho4 hm3
  obtain ⟨r1, r2, r3⟩ := f3.r.loopSet (st2 := bif2 (isNormal ex3) .ready .done) (p2 := pend ex3) (pe := exCode ex3) ho4 hm3 hL3 hobj3 (pend_exCode ex3) A3.next
  rw [hA4] at r2 r3
  have hend : (Instr.endRound l' (exCode ex3)).run P w3 = .ok (.bool (exCode ex3).isNone) { w3 with heap := w3.heap.setIfInBounds l' (.loop { L3 with state := bif2 (isNormal ex3) .ready .done, pending := exCode ex3 }) } := by
    unfold Instr.endRound
    rw [run_ok (run_getLoop hL3)]
    have : (if (exCode ex3).isNone = true then LoopState.ready else LoopState.done) = bif2 (isNormal ex3) .ready .done := by cases ex3 <;> rfl
    rw [this]
    show (setObj l' _ >>= fun _ => _).run P w3 = _
    rw [run_ok r1]; rfl
  have s2 := s1.trans (Steps.one (st_beginRound (k := [.code L.body]) hb hbegin))
  have s3 := s2.trans to_entry
  refine ⟨.bool (exCode ex3).isNone, _, ⟨μ3, r2, ?_, ?_⟩, ?_⟩
  · rw [← hv4]
    have : (exCode ex3).isNone = isNormal ex3 := by cases ex3 <;> rfl
    rw [this]; exact .bool _
  · exact ((f1.kept.trans (q3.weaken f1.kept.next)).trans (f3.kept.weaken (Nat.le_trans f1.kept.next q3.next))).trans (r3.weaken (Nat.le_trans (Nat.le_trans f1.kept.next q3.next) f3.kept.next))
  · cases ex3 with
    | normal => exact (s3.trans g3).trans (Steps.one (st_leave_normal hb hbk hend))
    | exit id =>
      obtain ⟨k2, e1, e2⟩ := g3
      exact (s3.trans e2).trans (Steps.one (st_leave_exit hb hbk (e1.trans rfl) hend))
    | ret =>
      obtain ⟨k2, e2⟩ := g3
      exact (s3.trans e2).trans (Steps.one (st_leave_ret hb hbk hend))
end Go.Ev
end

section
/- Ev, part 31: every operation. -/
namespace Go.Ev
variable [F : Facts] [E : Env]
set_option linter.unusedSimpArgs false
set_option linter.unusedVariables false
set_option linter.unusedSectionVars false
set_option linter.constructorNameAsVariable false
variable {P : Program} {μ : Mu}
variable {wr : WrT} {io : Opd → Option AV} {t : Array Value}

theorem cons_zero (a : Value) (xs : Array Value) : (#[a] ++ xs)[0]? = some a := by
  rw [Array.getElem?_append_left (by simp)]; rfl
theorem cons_rest (a : Value) (xs : Array Value) : (#[a] ++ xs).extract 1 (#[a] ++ xs).size = xs := by
  apply Array.ext_getElem?
  intro i
  rw [Array.getElem?_extract]
  simp only [Array.size_append, List.size_toArray, List.length_cons, List.length_nil]
  by_cases h : i < xs.size
  · rw [if_pos (by omega), Array.getElem?_append_right (by simp)]; simp
  · rw [if_neg (by omega), Array.getElem?_eq_none (by omega)]

theorem exec_call {o : Oper} {c : Call} (ho : o.op = .call c) : execOp (evT t) o = (resolve (evT t) c o.type >>= fun d => invoke d.target d.args) := by
  unfold execOp; rw [ho]

theorem run_method {ty : TypeId} {i : TypeInfo} {m : Method} {name : String} {fp : FuncId × Bool} {d : TypeDesc} {v : Value} {w : World} (hi : (ttOf P).get ty = some i) (hm : i.methods.toList.find? (fun m => m.name == name) = some m)
    (hp : m.path.toList.isEmpty = true) (hf : m.func = some fp) (hd : und (ttOf P) ty = some d) (hb : beqB fp.2 (byPtr d) = true) (n : Nat) : (Go.method (n + 1) ty v name).run P w = .ok (fp.1, v) w := by
  unfold Go.method
  rw [run_ok (run_info hi w)]
  have hm' : i.methods.find? (fun m => m.name == name) = some m := by rw [← Array.find?_toList]; exact hm
  rw [hm']
  have hpl : m.path.toList = [] := by simpa using hp
  show (Go.follow m.path.toList ty (.val v) >>= fun _ => _).run P w = _
  rw [hpl]
  rw [run_ok (show (Go.follow [] ty (.val v)).run P w = .ok (ty, .val v) w from rfl)]
  simp only [hf]
  obtain ⟨f, pr⟩ := fp
  have hrec : ∀ wrap, (Go.receiverAt ty (.val v) pr wrap).run P w = .ok v w := by
    intro wrap
    unfold Go.receiverAt
    rw [run_ok (run_und hd w)]
    rw [beqB_eq] at hb
    cases d <;> cases pr <;> first | rfl | exact nomatch hb
  show (Go.receiverAt ty (.val v) pr _ >>= fun _ => _).run P w = _
  rw [run_ok (hrec _)]
  rfl

section
variable {FR : Rec} (hF : CallsOK P FR) (hC : CodesOK P FR)
include hF hC

theorem call_ok {A A' : AH} {w : World} (hio : IOR μ wr io (evT t)) (hR : R P μ A w) {o : Oper} {c : Call} (ho : o.op = .call c) {q : WOp} {v : AV} (hc : kCall (ttOf P) wr c = some (.w q)) (hq : isCallW q = true)
    (he : evW P (ttOf P) FR io A q = some (v, A')) : Back P (execOp (evT t) o) w (Post P μ A w v A') := by
  rw [exec_call ho]
  obtain ⟨as, has, hc1⟩ := ob_eq hc
  unfold kCallee at hc1
  split at hc1
  · -- a function by its name
    rename_i f hcal
    have hq1 := (inj_w hc1).symm
    subst hq1
    obtain ⟨vs, hvs, he1⟩ := ob_eq he
    have hr := ios_rel hio has hvs
    have hres : (resolve (evT t) c o.type).run P w = .ok { target := .fn (.func f) #[], args := #[] ++ c.args.map (evT t) } w := by
      unfold resolve
      rw [hcal]; rfl
    refine Back.of_bind hres ?_
    show Back P (callFunc f ((#[] ++ c.args.map (evT t)) ++ #[])) w _
    exact hF f vs A v A' he1 μ w _ hR (by simpa using hr)
  · -- a function value
    rename_i f hnf hcal
    obtain ⟨f', hf', hc2⟩ := ob_eq hc1
    have hq1 := (inj_w hc2).symm
    subst hq1
    obtain ⟨fv, hfv, he1⟩ := ob_eq he
    obtain ⟨vs, hvs, he2⟩ := ob_eq he1
    obtain ⟨g, first, captured, e, he3⟩ := onFn_eq he2
    subst e
    have hr := ios_rel hio has hvs
    have hfr := hio _ _ _ hf' hfv
    have hres : (resolve (evT t) c o.type).run P w = (Deferred.ofValue (evT t f) (c.args.map (evT t))).run P w := by
      unfold resolve
      rw [hcal]
    unfold callV1 at he3
    split at he3
    · rename_i g
      generalize hx : evT t f = fx at hfr hres
      cases hfr with
      | fn _ ha hcap =>
      rename_i a' c'
      refine Back.of_bind (hres.trans rfl) ?_
      show Back P (callFunc g ((a' ++ c.args.map (evT t)) ++ c')) w _
      refine hF g _ A v A' he3 μ w _ hR ?_
      rw [app_eq, app_eq, ← List.append_assoc, Array.toList_append, Array.toList_append, Array.toList_map]
      exact (ha.append hr).append hcap
    · rename_i l
      split at he3
      · generalize hx : evT t f = fx at hfr hres
        cases hfr with
        | yld hm =>
        rename_i l' d x
        refine Back.of_bind (hres.trans rfl) ?_
        show Back P (Instr.yield l' (#[] ++ c.args.map (evT t))) w _
        exact round_ok hC hR hm (by simpa using hr) he3
      · exact nomatch he3
    · exact nomatch he3
  · -- a method of an interface value
    rename_i r name hcal
    obtain ⟨r', hr', hc2⟩ := ob_eq hc1
    have hq1 := (inj_w hc2).symm
    subst hq1
    obtain ⟨rv, hrv, he1⟩ := ob_eq he
    obtain ⟨vs, hvs, he2⟩ := ob_eq he1
    rcases onIfc_eq he2 with ⟨ty, u, e, he3⟩ | ⟨_, he3⟩
    · subst e
      obtain ⟨i, hi, he4⟩ := ob_eq he3
      obtain ⟨m, hm, he5⟩ := ob_eq he4
      obtain ⟨hp, he6⟩ := ot_eq he5
      obtain ⟨fp, hfp, he7⟩ := ob_eq he6
      obtain ⟨d, hd, he8⟩ := ob_eq he7
      obtain ⟨hb, he9⟩ := ot_eq he8
      have hr := ios_rel hio has hvs
      have hrr := hio _ _ _ hr' hrv
      generalize hx : evT t r = rx at hrr
      cases hrr with
      | ifc _ hu =>
      rename_i u'
      have hres : (resolve (evT t) c o.type).run P w = .ok { target := .fn (.method name) #[], args := #[Value.iface ty u'] ++ c.args.map (evT t) } w := by
        unfold resolve
        rw [hcal]
        show (pure { target := .fn (.method name) #[], args := #[evT t r] ++ c.args.map (evT t) } : Sem Deferred).run P w = _
        rw [hx]; rfl
      refine Back.of_bind hres ?_
      have hinv : invoke (.fn (.method name) #[]) (#[Value.iface ty u'] ++ c.args.map (evT t)) = callMethod (.iface ty u') name (c.args.map (evT t)) := by
        unfold invoke
        have h0 : (#[Value.iface ty u'] ++ c.args.map (evT t))[0]? = some (Value.iface ty u') := cons_zero _ _
        have h1 : (#[Value.iface ty u'] ++ c.args.map (evT t)).extract 1 (#[Value.iface ty u'] ++ c.args.map (evT t)).size = c.args.map (evT t) := cons_rest _ _
        simp only [h0, h1]
      show Back P (invoke (.fn (.method name) #[]) (#[Value.iface ty u'] ++ c.args.map (evT t))) w _
      rw [hinv]
      unfold callMethod
      have hmd : 0 < Made.depth := by decide
      obtain ⟨n, hn⟩ : ∃ n, P.types.size + Made.depth = n + 1 := ⟨P.types.size + Made.depth - 1, by omega⟩
      refine Back.of_bind (s := program) (a := P) (w' := w) rfl ?_
      refine Back.of_bind (w' := w) (a := (fp.1, u')) (by rw [hn]; exact run_method hi hm hp hfp hd hb n) ?_
      refine hF fp.1 _ A v A' he9 μ w _ hR ?_
      simpa using All2.cons hu hr
    · exact nomatch he3
  · -- a builtin
    exfalso
    rename_i b hb
    unfold kBuiltin at hc1
    split at hc1
    · exact noW_p hc1
    · split at hc1
      · obtain ⟨d, hd, hc2⟩ := ob_eq hc1
        unfold kBuiltin1 at hc2
        split at hc2
        · unfold kLen at hc2
          cases d with
          | map kt e => exact noW_l hc2
          | string => exact noW_p hc2
          | slice _ => exact noW_p hc2
          | array _ _ => exact noW_p hc2
          | _ => exact nomatch hc2
        · obtain ⟨_, hc3⟩ := ot_eq hc2
          exact noW_p hc3
        · unfold kClear1 at hc2
          cases d with
          | slice e =>
            obtain ⟨z, hz, hc3⟩ := ob_eq hc2
            obtain ⟨n, hn, hc4⟩ := ob_eq hc3
            obtain ⟨hnz, hc5⟩ := ot_eq hc4
            have := (inj_w hc5).symm
            subst this
            exact nomatch hq
          | _ => exact nomatch hc2
        · exact noW_p hc2
        · exact nomatch hc2
      · obtain ⟨d, hd, hc2⟩ := ob_eq hc1
        obtain ⟨d2, hd2, hc3⟩ := ob_eq hc2
        unfold kBuiltin2 at hc3
        split at hc3
        · unfold kAppend1 at hc3
          split at hc3
          · obtain ⟨i, hi, hc4⟩ := ob_eq hc3
            obtain ⟨z, hz, hc5⟩ := ob_eq hc4
            obtain ⟨hnz, hc6⟩ := ot_eq hc5
            have := (inj_w hc6).symm
            subst this
            exact nomatch hq
          · obtain ⟨i, hi, hc4⟩ := ob_eq hc3
            obtain ⟨z, hz, hc5⟩ := ob_eq hc4
            obtain ⟨hnz, hc6⟩ := ot_eq hc5
            have := (inj_w hc6).symm
            subst this
            exact nomatch hq
          · exact nomatch hc3
        · unfold kCopy1 at hc3
          split at hc3
          · obtain ⟨n, hn, hc4⟩ := ob_eq hc3
            obtain ⟨_, hc5⟩ := ot_eq hc4
            have := (inj_w hc5).symm
            subst this
            exact nomatch hq
          · exact nomatch hc3
        · unfold kDelete1 at hc3
          split at hc3
          · have := (inj_w hc3).symm
            subst this
            exact nomatch hq
          · exact nomatch hc3
        · unfold kUnsafeStr1 at hc3
          split at hc3
          · obtain ⟨n, hn, hc4⟩ := ob_eq hc3
            obtain ⟨_, hc5⟩ := ot_eq hc4
            have := (inj_w hc5).symm
            subst this
            exact nomatch hq
          · exact nomatch hc3
        · exact nomatch hc3
      · exact nomatch hc1

/-- an operation that calls is a call -/
theorem isCall_op {o : Oper} {q : WOp} (hc : compOp0 P (ttOf P) wr o.op = some (.w q)) (hq : isCallW q = true) : ∃ c, o.op = .call c := by
  cases ho : o.op with
  | call c => exact ⟨c, rfl⟩
  | store t a x =>
    rw [ho] at hc
    obtain ⟨_, _, hc1⟩ := ob_eq hc
    obtain ⟨_, _, hc2⟩ := ob_eq hc1
    obtain ⟨_, _, hc3⟩ := ob_eq hc2
    obtain ⟨_, _, hc4⟩ := ob_eq hc3
    obtain ⟨_, hc5⟩ := ot_eq hc4
    have := (inj_w hc5).symm
    subst this
    exact nomatch hq
  | mapUpdate t m k x =>
    rw [ho] at hc
    obtain ⟨_, _, hc1⟩ := ob_eq hc
    obtain ⟨_, _, hc2⟩ := ob_eq hc1
    obtain ⟨_, _, hc3⟩ := ob_eq hc2
    obtain ⟨d, _, hc4⟩ := ob_eq hc3
    unfold kMapPut1 at hc4
    split at hc4
    · have := (inj_w hc4).symm
      subst this
      exact nomatch hq
    · exact nomatch hc4
  | insert t m k x =>
    rw [ho] at hc
    obtain ⟨_, _, hc1⟩ := ob_eq hc
    obtain ⟨_, _, hc2⟩ := ob_eq hc1
    obtain ⟨_, _, hc3⟩ := ob_eq hc2
    obtain ⟨d, _, hc4⟩ := ob_eq hc3
    unfold kMapPut1 at hc4
    split at hc4
    · have := (inj_w hc4).symm
      subst this
      exact nomatch hq
    · exact nomatch hc4
  | next x s =>
    rw [ho] at hc
    obtain ⟨_, _, hc1⟩ := ob_eq hc
    obtain ⟨_, hc2⟩ := ot_eq hc1
    have := (inj_w hc2).symm
    subst this
    exact nomatch hq
  | move x =>
    rw [ho] at hc
    obtain ⟨a, _, hc⟩ := ob_eq hc
    exact (noW_p hc).elim
  | assign x =>
    rw [ho] at hc
    obtain ⟨a, _, hc⟩ := ob_eq hc
    exact (noW_p hc).elim
  | pick c a b =>
    rw [ho] at hc
    obtain ⟨_, _, hc⟩ := ob_eq hc
    obtain ⟨_, _, hc⟩ := ob_eq hc
    obtain ⟨_, _, hc⟩ := ob_eq hc
    exact (noW_p hc).elim
  | alloc e =>
    rw [ho] at hc
    obtain ⟨_, _, hc⟩ := ob_eq hc
    exact (noW_a hc).elim
  | box e x =>
    rw [ho] at hc
    obtain ⟨_, _, hc⟩ := ob_eq hc
    exact (noW_a hc).elim
  | build t parts =>
    rw [ho] at hc
    obtain ⟨z, _, hc⟩ := ob_eq hc
    obtain ⟨d, _, hc⟩ := ob_eq hc
    unfold kBuild1 at hc
    split at hc
    · obtain ⟨_, _, hc⟩ := ob_eq hc
      obtain ⟨_, _, hc⟩ := ob_eq hc
      exact (noW_p hc).elim
    · obtain ⟨_, _, hc⟩ := ob_eq hc
      obtain ⟨_, _, hc⟩ := ob_eq hc
      exact (noW_p hc).elim
    · exact nomatch hc
  | buildSlice t n parts =>
    rw [ho] at hc
    obtain ⟨d, _, hc⟩ := ob_eq hc
    unfold kBuildSl1 at hc
    split at hc
    · obtain ⟨_, _, hc⟩ := ob_eq hc
      obtain ⟨_, _, hc⟩ := ob_eq hc
      obtain ⟨_, _, hc⟩ := ob_eq hc
      obtain ⟨_, hc⟩ := ot_eq hc
      exact (noW_a hc).elim
    · exact nomatch hc
  | load t a =>
    rw [ho] at hc
    obtain ⟨_, _, hc⟩ := ob_eq hc
    obtain ⟨g, _, hc⟩ := ob_eq hc
    rw [bif2_eq] at hc
    split at hc
    · obtain ⟨_, _, hc⟩ := ob_eq hc
      exact (noW_l hc).elim
    · exact (noW_l hc).elim
  | nilCheck x =>
    rw [ho] at hc
    obtain ⟨_, _, hc⟩ := ob_eq hc
    exact (noW_p hc).elim
  | binOp op t x y p =>
    rw [ho] at hc
    obtain ⟨_, _, hc⟩ := ob_eq hc
    obtain ⟨_, _, hc⟩ := ob_eq hc
    rw [bif2_eq] at hc
    split at hc
    · obtain ⟨d, _, hc⟩ := ob_eq hc
      unfold kBin1 at hc
      split at hc
      · exact (noW_p hc).elim
      · exact (noW_p hc).elim
      · obtain ⟨_, hc⟩ := ot_eq hc
        obtain ⟨_, _, hc⟩ := ob_eq hc
        exact (noW_p hc).elim
      · obtain ⟨_, hc⟩ := ot_eq hc
        obtain ⟨_, _, hc⟩ := ob_eq hc
        exact (noW_p hc).elim
    · exact (noW_p hc).elim
  | unOp op t x =>
    rw [ho] at hc
    obtain ⟨_, _, hc⟩ := ob_eq hc
    exact (noW_p hc).elim
  | convert s d x =>
    rw [ho] at hc
    obtain ⟨_, _, hc⟩ := ob_eq hc
    obtain ⟨_, _, hc⟩ := ob_eq hc
    obtain ⟨_, _, hc⟩ := ob_eq hc
    unfold kConv1 at hc
    split at hc
    · exact (noW_p hc).elim
    · exact (noW_p hc).elim
    · exact (noW_p hc).elim
    · obtain ⟨_, _, hc⟩ := ob_eq hc
      obtain ⟨_, hc⟩ := ot_eq hc
      obtain ⟨_, _, hc⟩ := ob_eq hc
      obtain ⟨_, hc⟩ := ot_eq hc
      exact (noW_a hc).elim
    · obtain ⟨_, _, hc⟩ := ob_eq hc
      obtain ⟨_, hc⟩ := ot_eq hc
      exact (noW_l hc).elim
    · obtain ⟨_, _, hc⟩ := ob_eq hc
      obtain ⟨_, hc⟩ := ot_eq hc
      exact (noW_l hc).elim
    · obtain ⟨_, _, hc⟩ := ob_eq hc
      obtain ⟨_, hc⟩ := ot_eq hc
      exact (noW_l hc).elim
    · exact nomatch hc
  | makeInterface t x =>
    rw [ho] at hc
    obtain ⟨_, _, hc⟩ := ob_eq hc
    obtain ⟨_, _, hc⟩ := ob_eq hc
    obtain ⟨_, hc⟩ := ot_eq hc
    exact (noW_p hc).elim
  | makeFunc fn a b =>
    rw [ho] at hc
    obtain ⟨_, _, hc⟩ := ob_eq hc
    obtain ⟨_, _, hc⟩ := ob_eq hc
    obtain ⟨_, hc⟩ := ot_eq hc
    exact (noW_p hc).elim
  | makeMap t r =>
    rw [ho] at hc
    cases r with
    | none => exact (noW_a hc).elim
    | some r => exact nomatch hc
  | makeSlice t l c =>
    rw [ho] at hc
    obtain ⟨_, _, hc⟩ := ob_eq hc
    obtain ⟨_, _, hc⟩ := ob_eq hc
    obtain ⟨d, _, hc⟩ := ob_eq hc
    unfold kMkSl1 at hc
    split at hc
    · obtain ⟨_, _, hc⟩ := ob_eq hc
      obtain ⟨_, _, hc⟩ := ob_eq hc
      exact (noW_a hc).elim
    · exact nomatch hc
  | slice t x lo hi mx =>
    rw [ho] at hc
    obtain ⟨_, _, hc⟩ := ob_eq hc
    obtain ⟨_, _, hc⟩ := ob_eq hc
    obtain ⟨_, _, hc⟩ := ob_eq hc
    obtain ⟨_, _, hc⟩ := ob_eq hc
    obtain ⟨d, _, hc⟩ := ob_eq hc
    unfold kSlice1 at hc
    split at hc
    · obtain ⟨_, hc⟩ := ot_eq hc
      exact (noW_p hc).elim
    · obtain ⟨_, _, hc⟩ := ob_eq hc
      obtain ⟨_, hc⟩ := ot_eq hc
      exact (noW_p hc).elim
    · obtain ⟨_, _, hc⟩ := ob_eq hc
      obtain ⟨_, hc⟩ := ot_eq hc
      exact (noW_p hc).elim
    · exact nomatch hc
  | fieldAddr t x f =>
    rw [ho] at hc
    obtain ⟨_, _, hc⟩ := ob_eq hc
    obtain ⟨d, _, hc⟩ := ob_eq hc
    unfold kFieldAddr1 at hc
    split at hc
    · obtain ⟨_, _, hc⟩ := ob_eq hc
      obtain ⟨_, _, hc⟩ := ob_eq hc
      obtain ⟨_, hc⟩ := ot_eq hc
      exact (noW_p hc).elim
    · exact nomatch hc
  | field t x f =>
    rw [ho] at hc
    obtain ⟨_, _, hc⟩ := ob_eq hc
    obtain ⟨d, _, hc⟩ := ob_eq hc
    unfold kField1 at hc
    split at hc
    · obtain ⟨_, _, hc⟩ := ob_eq hc
      obtain ⟨_, _, hc⟩ := ob_eq hc
      obtain ⟨_, _, hc⟩ := ob_eq hc
      exact (noW_p hc).elim
    · exact nomatch hc
  | indexAddr t x ix =>
    rw [ho] at hc
    obtain ⟨_, _, hc⟩ := ob_eq hc
    obtain ⟨_, _, hc⟩ := ob_eq hc
    obtain ⟨d, _, hc⟩ := ob_eq hc
    unfold kIxAddr1 at hc
    split at hc
    · obtain ⟨_, _, hc⟩ := ob_eq hc
      exact (noW_p hc).elim
    · obtain ⟨_, _, hc⟩ := ob_eq hc
      exact (noW_p hc).elim
    · exact nomatch hc
  | index t x ix =>
    rw [ho] at hc
    obtain ⟨_, _, hc⟩ := ob_eq hc
    obtain ⟨_, _, hc⟩ := ob_eq hc
    obtain ⟨d, _, hc⟩ := ob_eq hc
    unfold kIndex1 at hc
    split at hc
    · obtain ⟨_, _, hc⟩ := ob_eq hc
      obtain ⟨_, _, hc⟩ := ob_eq hc
      exact (noW_p hc).elim
    · exact (noW_p hc).elim
    · exact nomatch hc
  | lookup t x k ok =>
    rw [ho] at hc
    obtain ⟨_, _, hc⟩ := ob_eq hc
    obtain ⟨_, _, hc⟩ := ob_eq hc
    obtain ⟨d, _, hc⟩ := ob_eq hc
    unfold kLookup1 at hc
    split at hc
    · obtain ⟨_, _, hc⟩ := ob_eq hc
      exact (noW_l hc).elim
    · exact nomatch hc
  | range t x =>
    rw [ho] at hc
    obtain ⟨_, _, hc⟩ := ob_eq hc
    obtain ⟨_, _, hc⟩ := ob_eq hc
    obtain ⟨_, hc⟩ := ot_eq hc
    exact (noW_a hc).elim
  | typeAssert x xt t ok =>
    rw [ho] at hc
    obtain ⟨_, _, hc⟩ := ob_eq hc
    obtain ⟨_, _, hc⟩ := ob_eq hc
    obtain ⟨_, _, hc⟩ := ob_eq hc
    obtain ⟨_, hc⟩ := ot_eq hc
    exact (noW_p hc).elim
  | extract t ix =>
    rw [ho] at hc
    obtain ⟨_, _, hc⟩ := ob_eq hc
    exact (noW_p hc).elim
  | _ => rw [ho] at hc; exact nomatch hc

/-- every operation -/
theorem oper_ok {A A' : AH} {w : World} (hio : IOR μ wr io (evT t)) (hk : ∀ a v, io (.c a) = some v → v = a) (hR : R P μ A w) (o : Oper) {v : AV}
    (he : evOp P (ttOf P) FR io A (compOp P (ttOf P) wr o.op) = some (v, A')) : Back P (execOp (evT t) o) w (Post P μ A w v A') := by
  unfold compOp at he
  cases hc : compOp0 P (ttOf P) wr o.op with
  | none => rw [hc] at he; exact nomatch he
  | some op =>
    rw [hc] at he
    cases op with
    | p q =>
      obtain ⟨u, hu, he1⟩ := ob_eq (show ob _ _ = _ from he)
      injection he1 with he1
      injection he1 with h1 h2
      subst h1; subst h2
      exact Gives.back hR (pure_ok hio hk o hc hu w)
    | l q =>
      obtain ⟨u, hu, he1⟩ := ob_eq (show ob _ _ = _ from he)
      injection he1 with he1
      injection he1 with h1 h2
      subst h1; subst h2
      exact Gives.back hR (load_ok hio hR o hc hu)
    | a q =>
      obtain ⟨ob1, hA, hborn⟩ := alloc_ok o hc (show evA io A q = some (v, A') from he)
      subst hA
      exact Born.back hR (hborn μ _ w hio hR.next_none)
    | w q =>
      replace he : evW P (ttOf P) FR io A q = some (v, A') := he
      cases hq : isCallW q with
      | false => exact (act_ok hio hR o hc hq he).back
      | true =>
        obtain ⟨c, ho⟩ := isCall_op (P := P) hF hC hc hq
        have hc' := hc
        rw [ho] at hc'
        exact call_ok hF hC hio hR ho hc' hq he
end
end Go.Ev
end

section
/- Ev, part 32: regions in their order; code. -/
namespace Go.Ev
variable [F : Facts] [E : Env]
set_option linter.unusedSimpArgs false
set_option linter.unusedVariables false
set_option linter.unusedSectionVars false
set_option linter.constructorNameAsVariable false
variable {P : Program} {μ : Mu}

theorem not_defer {FR : Rec} {wr : WrT} {io : Opd → Option AV} {A : AH} {o : Oper} {r : AV × AH} (he : evOp P (ttOf P) FR io A (compOp P (ttOf P) wr o.op) = some r) : ∀ c, o.op ≠ .defer c := by
  intro c hc
  rw [hc] at he
  exact nomatch he

theorem wants_bool {v : AV} {want bb : Bool} (h : wants v want = some bb) : (∃ b0, v = .bool b0 ∧ bb = (b0 == want)) ∨ (v = .tup [] ∧ bb = false) := by
  unfold wants at h
  split at h
  · injection h with h
    rw [beqB_eq] at h
    exact .inl ⟨_, rfl, h.symm⟩
  · injection h with h
    exact .inr ⟨rfl, h.symm⟩
  · exact nomatch h

/-- is an operation wanted? -/
theorem wanted_ok {ops : Array Oper} {o oj : Oper} {j d : Nat} {want bb : Bool} {t : Array Value} {v : AV} {v' : Value} (hg : o.guard = some (j, want)) (hj : ops[j]? = some oj) (hd : oj.dst = some d) (ht : t[d]? = some v') (hv : VR μ v v')
    (h : wants v want = some bb) : Region.wanted o (yielded ops t) = bb := by
  unfold Region.wanted
  rw [hg]
  show (yielded ops t j == some want) = bb
  have hy : yielded ops t j = (match v' with | .bool b => some b | _ => none) := by
    unfold yielded
    rw [hj]
    simp only [Option.bind_some, hd, ht]
    cases v' <;> rfl
  rw [hy]
  rcases wants_bool h with ⟨b0, e, h1⟩ | ⟨e, h1⟩
  · subst e
    have := hv.inv_bool
    subst this
    rw [h1]; cases b0 <;> cases want <;> rfl
  · subst e
    obtain ⟨cs', e2, _⟩ := hv.inv_tup
    subst e2
    rw [h1]; rfl

section
variable {b : Frame} {t : Array Value} {ds : List Deferred} {k : List Item} {cs : List Frame} {w : World} {ops : Array Oper} {i : Nat} {rest : List Nat} {o : Oper}

/-- an operation that is made -/
theorem made_op {Q : Value → World → Prop} (ho : ops[i]? = some o) (hw : Region.wanted o (yielded ops t) = true) (hd : ∀ c, o.op ≠ .defer c) (hb : Back P (execOp (evT t) o) w Q) :
    ∃ v' w', Q v' w' ∧ Steps P (lone (frm b t ds (.inRegion ops (i :: rest) :: k)) cs w) (lone (frm b (putT t o.dst v') ds (.inRegion ops rest :: k)) cs w') := by
  obtain ⟨v', w', hq, hs⟩ := hb.steps (fr := frm b t ds (.inRegion ops (i :: rest) :: k)) (cs := cs) (.inl ⟨ops, i, rest, k, rfl⟩) (congrArg GStep.bare (st_op ho hw hd))
  rw [finish_frm, ho] at hs
  exact ⟨v', w', hq, hs⟩
end

theorem envput_d {env : T AV} {t : Array Value} (h : EnvR μ env t) {v : AV} {v' : Value} (hv : VR μ v v') {d : Option Nat} {nt : Nat} (hd : okDst nt d = true) (ht : nt ≤ t.size) :
    EnvR μ (putD env v d) (putT t d v') ∧ (putT t d v').size = t.size := by
  cases d with
  | none => exact ⟨h, rfl⟩
  | some d =>
    have : d < nt := by
      have hd : nlt d nt = true := hd
      rw [nlt_eq, decide_eq_true_eq] at hd
      exact hd
    exact ⟨env_put h hv (by omega), by unfold putT; rw [Array.size_setIfInBounds]⟩

section
variable {FR : Rec} (hF : CallsOK P FR) (hC : CodesOK P FR)
include hF hC

theorem ops_ok {ops : Array Oper} {nt : Nat} : ∀ (suf pre : List Oper) (ls : List IOper), ops.toList = pre ++ suf → mapO (compP1 P (ttOf P) nt ops.toList) suf = some ls →
    ∀ {env env' : T AV} {A A' : AH} {μ : Mu} {w : World} {t : Array Value} (b : Frame) (ds : List Deferred) (k : List Item) (cs : List Frame), evOps P (ttOf P) FR ls env A = some (env', A') → R P μ A w → EnvR μ env t → nt ≤ t.size →
      ∃ μ' w' t', Fin P μ A w t b env' A' μ' w' t' [] ∧ Steps P (lone (frm b t ds (.inRegion ops (List.range' pre.length suf.length) :: k)) cs w) (lone (frm b t' ds (.inRegion ops [] :: k)) cs w') := by
  intro suf
  induction suf with
  | nil =>
    intro pre ls hops hl env env' A A' μ w t b ds k cs he hR hE ht
    injection hl with hl
    subst hl
    injection he with he
    injection he with h1 h2
    subst h1; subst h2
    exact ⟨μ, w, t, ⟨hR, hE, rfl, Kept.refl _ _ _ _, .nil _ _ _ _ _⟩, .refl _ _⟩
  | cons o suf ih =>
    intro pre ls hops hl env env' A A' μ w t b ds k cs he hR hE ht
    rw [mapO_cons] at hl
    obtain ⟨c, hc, hl1⟩ := ob_eq hl
    obtain ⟨ls', hls', hl2⟩ := ob_eq hl1
    injection hl2 with hl2
    subst hl2
    obtain ⟨hdst, hc1⟩ := ot_eq hc
    obtain ⟨g, hg, hc2⟩ := ob_eq hc1
    injection hc2 with hc2
    subst hc2
    obtain ⟨⟨v, A1⟩, hev, he1⟩ := ob_eq (show ob _ _ = _ from he)
    replace he1 : evOps P (ttOf P) FR ls' (putD env v o.dst) A1 = some (env', A') := he1
    have ho : ops[pre.length]? = some o := by
      rw [← Array.getElem?_toList, hops, List.getElem?_append_right (Nat.le_refl _)]; simp
    have hrange : List.range' pre.length (o :: suf).length = pre.length :: List.range' (pre ++ [o]).length suf.length := by
      rw [List.length_cons, List.range'_succ, List.length_append]; rfl
    have one : ∃ μ1 w1 v', R P μ1 A1 w1 ∧ VR μ1 v v' ∧ Kept A.next μ μ1 A A1 w w1 ∧
        Steps P (lone (frm b t ds (.inRegion ops (pre.length :: List.range' (pre ++ [o]).length suf.length) :: k)) cs w) (lone (frm b (putT t o.dst v') ds (.inRegion ops (List.range' (pre ++ [o]).length suf.length) :: k)) cs w1) := by
      have hior := env_ior hR hE .e
      have mk : Region.wanted o (yielded ops t) = true → evOp P (ttOf P) FR (ioOf env .e) A (compOp P (ttOf P) (plainW P) o.op) = some (v, A1) → ∃ μ1 w1 v', R P μ1 A1 w1 ∧ VR μ1 v v' ∧ Kept A.next μ μ1 A A1 w w1 ∧
          Steps P (lone (frm b t ds (.inRegion ops (pre.length :: List.range' (pre ++ [o]).length suf.length) :: k)) cs w) (lone (frm b (putT t o.dst v') ds (.inRegion ops (List.range' (pre ++ [o]).length suf.length) :: k)) cs w1) := fun hw hop => by
        obtain ⟨v', w', ⟨μ', q1, q2, q3⟩, hs⟩ := made_op (b := b) (ds := ds) (k := k) (cs := cs) (rest := List.range' (pre ++ [o]).length suf.length) ho hw (not_defer hop) (oper_ok hF hC hior (fun a v h => by injection h with h; exact h.symm) hR o hop)
        exact ⟨μ', w', v', q1, q2, q3, hs⟩
      cases hog : o.guard with
      | none =>
        rw [hog] at hg
        injection hg with hg
        subst hg
        exact mk (by unfold Region.wanted; rw [hog]) hev
      | some jw =>
        obtain ⟨j, want⟩ := jw
        rw [hog] at hg
        obtain ⟨oj, hj, hg1⟩ := ob_eq hg
        obtain ⟨d, hd, hg2⟩ := ob_eq hg1
        injection hg2 with hg2
        subst hg2
        obtain ⟨gv, hgv, hev1⟩ := ob_eq (show ob (ioOf env .e (.t d)) _ = _ from hev)
        obtain ⟨bb, hbb, hev2⟩ := ob_eq hev1
        obtain ⟨gv', hgt, hgr⟩ := hE d gv hgv
        rw [nth_eq] at hj
        have hwt := wanted_ok (ops := ops) (t := t) hog (by rw [← Array.getElem?_toList]; exact hj) hd hgt hgr hbb
        cases bb with
        | true => exact mk hwt hev2
        | false =>
          have hev3 : some (undefA, A) = some (v, A1) := hev2
          injection hev3 with hev3
          injection hev3 with h1 h2
          subst h1; subst h2
          exact ⟨μ, w, undef, hR, .tup .nil, Kept.refl _ _ _ _, Steps.one (st_op_skip ho hwt)⟩
    obtain ⟨μ1, w1, v', q1, q2, q3, q4⟩ := one
    obtain ⟨e1, e2⟩ := envput_d (hE.mono q3.le) q2 hdst ht
    obtain ⟨μ', w', t', f1, s1⟩ := ih (pre ++ [o]) ls' (by rw [hops]; simp) hls' b ds k cs he1 q1 e1 (by rw [e2]; exact ht)
    have f0 : Fin P μ A w t b (putD env v o.dst) A1 μ1 w1 (putT t o.dst v') [] := ⟨q1, e1, e2, q3, .nil _ _ _ _ _⟩
    refine ⟨μ', w', t', by simpa using f0.trans f1, ?_⟩
    rw [hrange]
    exact q4.trans s1
end

theorem R.push {A : AH} {w : World} (h : R P μ A w) (o : Obj) : R P μ A (pushW w o) := by
  have hw := wnew_push w o
  exact {
    obj := fun b p m h1 h2 => by
      obtain ⟨p', h3, h4⟩ := h.obj b p m h1 h2
      exact ⟨p', by rw [hw.get (h.dom b m h2).2]; exact h3, h4⟩
    dom := fun b m h1 => ⟨(h.dom b m h1).1, by rw [hw.size]; exact Nat.lt_succ_of_lt (h.dom b m h1).2⟩
    live := h.live
    glob := h.glob
    sep := h.sep
    ord := h.ord
    mem := h.mem }
theorem kept_push (A : AH) (w : World) (o : Obj) (B : Nat) : Kept B μ μ A A w (pushW w o) :=
  ⟨Mu.le_refl _, rfl, rfl, rfl, by rw [(wnew_push w o).size]; omega, Nat.le_refl _, fun c hc _ => (wnew_push w o).get hc, fun _ _ h => h, fun _ _ h => ⟨h, rfl⟩,
    fun c L h => ⟨L, by rw [(wnew_push w o).get (Array.getElem?_eq_some_iff.1 h).1]; exact h, rfl⟩⟩
theorem not_wr {A : AH} {w : World} (h : R P μ A w) {r : Nat} {x : Option (List Deferred)} (hr : w.heap[r]? = some (.deferred x)) : ¬ Wr μ A r := by
  rintro ⟨b, m, o, h1, h2, h3, h4⟩
  obtain ⟨o', k1, k2⟩ := h.obj b o m h3 h1
  rw [h2, hr] at k1
  injection k1 with k1
  subst k1
  cases o <;> exact k2.elim

/-- a range over a function begins -/
theorem enterLoop_ok {A : AH} {w : World} (hR : R P μ A w) {b : Frame} {t : Array Value} {env : T AV} (hE : EnvR μ env t) (hok : OkF b w) {nt : Nat} (ht : nt ≤ t.size) {params : Array Nat} {assign body : Code} {as bo : IC}
    (ha : comp P (ttOf P) nt assign = some as) (hb : comp P (ttOf P) nt body = some bo) (hp : ∀ p ∈ params.toList, p < nt) :
    ∃ μ1 w1 l ms, (Instr.enterLoop b.fn t params assign body b.roundOf).run P w = .ok (l, ms) w1 ∧ R P μ1 (A.new (.loop .ready none 0 env params.toList as bo)) w1 ∧ μ1 A.next = some (l, 0, none) ∧
      Kept A.next μ μ1 A (A.new (.loop .ready none 0 env params.toList as bo)) w w1 ∧ Marks b μ1 (A.new (.loop .ready none 0 env params.toList as bo)) w.heap.size w1 ms := by
  have core : ∀ (w0 : World) (d : Nat), R P μ A w0 → R P (μ.put A.next (w0.heap.size, 0, none)) (A.new (.loop .ready none 0 env params.toList as bo)) (pushW w0 (.loop { state := .ready, pending := none, fn := b.fn, tmps := t, params, assign, body, defers := d })) ∧
      Kept A.next μ (μ.put A.next (w0.heap.size, 0, none)) A (A.new (.loop .ready none 0 env params.toList as bo)) w0 (pushW w0 (.loop { state := .ready, pending := none, fn := b.fn, tmps := t, params, assign, body, defers := d })) := by
    intro w0 d hR0
    exact hR0.made (x := none) (wnew_push _ _) ⟨rfl, trivial, hE.mono (Mu.le_put _ hR0.next_none), rfl, nt, ht, ha, hb, hp⟩
  cases hro : b.roundOf with
  | some l0 =>
    obtain ⟨L, hL⟩ := hok l0 hro
    obtain ⟨q1, q2⟩ := core w L.defers hR
    refine ⟨_, _, w.heap.size, [], ?_, q1, Mu.put_same _ _ _, q2, .nil _ _ _ _ _⟩
    unfold Instr.enterLoop
    show (Instr.getLoop l0 >>= fun _ => _).run P w = _
    rw [run_ok (run_getLoop hL)]
    rfl
  | none =>
    have hR0 := hR.push (.deferred (some []))
    obtain ⟨q1, q2⟩ := core (pushW w (.deferred (some []))) w.heap.size hR0
    have hsz : (pushW w (.deferred (some []))).heap.size = w.heap.size + 1 := (wnew_push w _).size
    have hget : (pushW w (.deferred (some []))).heap[w.heap.size]? = some (.deferred (some [])) := (wnew_push w _).last
    have hget2 : (pushW (pushW w (.deferred (some []))) (.loop { state := .ready, pending := none, fn := b.fn, tmps := t, params, assign, body, defers := w.heap.size })).heap[w.heap.size]? = some (.deferred (some [])) := by
      rw [(wnew_push _ _).get (by omega)]; exact hget
    refine ⟨_, _, w.heap.size + 1, [mark1 w.heap.size], ?_, q1, by rw [Mu.put_same, hsz], (kept_push A w _ A.next).trans q2, ?_⟩
    · unfold Instr.enterLoop
      show (newObj (.deferred (some [])) >>= fun _ => _).run P w = _
      rw [run_ok (run_newObj _ w)]
      show (newObj _ >>= fun _ => _).run P (pushW w (.deferred (some []))) = _
      rw [run_ok (run_newObj _ _), hsz]
      rfl
    · refine ⟨?_, List.pairwise_singleton _ _, fun h => absurd hro h⟩
      intro d hd
      simp only [List.mem_singleton] at hd
      exact ⟨w.heap.size, hd, Nat.le_refl _, hget2, not_wr q1 hget2⟩
end Go.Ev
end

section
/- Ev, part 33: code. -/
namespace Go.Ev
variable [F : Facts] [E : Env]
set_option linter.unusedSimpArgs false
set_option linter.unusedVariables false
set_option linter.unusedSectionVars false
set_option linter.constructorNameAsVariable false
variable {P : Program} {μ : Mu}

/-- a region that draws -/
def DrawOK (P : Program) (FR : Rec) : Prop := ∀ nt id ops ic (cl : FuncId → List AV → AH → Option (AV × AH)), compDraw P (ttOf P) nt ops.toList = some ic → CodeAt P ⟨cl, codeStep P (ttOf P) FR⟩ nt (.region id ops true) ic

theorem st_endRange {b : Frame} {t : Array Value} {ds : List Deferred} {k : List Item} {cs : List Frame} {w w' : World} {l : Nat} {jump : Option Code} (h : (Instr.endLoop l).run P w = .ok jump w') :
    step P (lone (frm b t ds (.endRangeFunc l :: k)) cs w) = .next (lone (frm b t ds ((jump.map Item.code).toList ++ k)) cs w') :=
  step_lone_go (by simp [stepG, stepG.exec, frm, h])

theorem stepG_range {b : Frame} {t : Array Value} {ds : List Deferred} {k : List Item} {cs : List Frame} {w w1 : World} {f : Operand} {params : Array Nat} {assign body : Code} {l : Nat} {ms : List Deferred}
    (h : (Instr.enterLoop b.fn t params assign body b.roundOf).run P w = .ok (l, ms) w1) {g : FuncId} {first captured : Array Value} (hf : evT t f = .func (.func g) first captured) :
    (stepG P true { frame := frm b t ds (.code (.rangeFunc f params assign body) :: k), callers := cs, status := .running, dying := none } w).bare =
      (stepG.apply P true (frm b t (ms ++ ds) (.inRangeFunc l :: k)) cs none (callFunc g ((first ++ #[.func (.yield l) #[] #[]]) ++ captured)) w1).bare := by
  have he := congrFun (frm_eval b t (ms ++ ds) (.inRangeFunc l :: k)) f
  simp only [frm] at he
  simp only [stepG, stepG.exec, frm, Sem.runT_eq, h, GStep.bare_after]
  have hrun : (do
      let d ← resolve ({ b with tmps := t, todo := .inRangeFunc l :: k, defers := ms ++ ds, mode := .run } : Frame).eval { callee := .value f, args := #[.const (.func (.yield l) #[] #[])], argTypes := #[] } 0
      invoke d.target d.args : Sem Next).run P w1 = (callFunc g ((first ++ #[.func (.yield l) #[] #[]]) ++ captured)).run P w1 := by
    have hres : (resolve ({ b with tmps := t, todo := .inRangeFunc l :: k, defers := ms ++ ds, mode := .run } : Frame).eval { callee := .value f, args := #[.const (.func (.yield l) #[] #[])], argTypes := #[] } 0).run P w1 =
        .ok { target := .fn (.func g) captured, args := first ++ #[.func (.yield l) #[] #[]] } w1 := by
      unfold resolve
      simp only [he, hf, map_one]
      rfl
    rw [run_ok hres]
    rfl
  simp only [stepG.apply, Sem.runT_eq, if_true, GStep.bare_after]
  rw [hrun]

section
variable {FR : Rec} (hF : CallsOK P FR) (hC : CodesOK P FR) (hD : DrawOK P FR)
include hF hC hD

theorem range_ok {nt : Nat} {f : Operand} {params : Array Nat} {assign body : Code} {ic : IC} (hc : comp P (ttOf P) nt (.rangeFunc f params assign body) = some ic) (cl : FuncId → List AV → AH → Option (AV × AH)) :
    CodeAt P ⟨cl, codeStep P (ttOf P) FR⟩ nt (.rangeFunc f params assign body) ic := by
  intro env A ex env' A' he μ w t b ds k cs hR hE ht hok
  obtain ⟨f', hf', hc1⟩ := ob_eq hc
  obtain ⟨as, has, hc2⟩ := ob_eq (show ob (comp P (ttOf P) nt assign) _ = some ic from hc1)
  obtain ⟨bo, hbo, hc3⟩ := ob_eq (show ob (comp P (ttOf P) nt body) _ = some ic from hc2)
  obtain ⟨hps, hc4⟩ := ot_eq hc3
  injection hc4 with hc4
  subst hc4
  have hp : ∀ p ∈ params.toList, p < nt := by
    rw [allB_eq, List.all_eq_true] at hps
    intro p hpm
    have := hps p hpm
    rw [nlt_eq, decide_eq_true_eq] at this
    exact this
  replace he : ob (ioOf env .e f') (onFn (cRange FR params.toList as bo env A)) = some (ex, env', A') := he
  obtain ⟨fv, hfv, he1⟩ := ob_eq he
  obtain ⟨g, first, captured, e, he2⟩ := onFn_eq he1
  subst e
  have hfr := env_ior hR hE .e f f' _ hf' hfv
  unfold cRange at he2
  split at he2
  · rename_i g
    obtain ⟨⟨rv, A2⟩, hcall, he3⟩ := ob_eq he2
    replace he3 : cRange1 env A.next A2 = some (ex, env', A') := he3
    generalize hx : evT t f = fx at hfr
    cases hfr with
    | fn _ h1 h2 =>
    rename_i first' captured'
    obtain ⟨μ1, w1, l, ms, henter, r1, m1, k1, mk1⟩ := enterLoop_ok hR (b := b) (t := t) hE hok ht has hbo hp
    have hback := hF g _ _ rv A2 hcall μ1 w1 ((first' ++ #[.func (.yield l) #[] #[]]) ++ captured') r1 (by
      rw [app_eq, Array.toList_append, Array.toList_append, List.append_assoc]
      exact ((VRs.mono k1.le h1)).append (.cons (.yld m1) (VRs.mono k1.le h2)))
    obtain ⟨v', w2, ⟨μ2, q1, q2, q3⟩, s1⟩ := hback.steps (fr := frm b t (ms ++ ds) (.inRangeFunc l :: k)) (fr0 := frm b t ds (.code (.rangeFunc f params assign body) :: k)) (w0 := w) (cs := cs) (.inr ⟨l, k, rfl⟩) (stepG_range henter hx)
    have hfin : (frm b t (ms ++ ds) (.inRangeFunc l :: k)).finish v' = frm b t (ms ++ ds) (.endRangeFunc l :: k) := rfl
    rw [hfin] at s1
    obtain ⟨ob1, ho1, he4⟩ := ob_eq he3
    obtain ⟨st, p, fn, tm, ps, as2, bo2, e, he5⟩ := onLoop_eq he4
    subst e
    obtain ⟨hnb, he6⟩ := ot_eq he5
    injection he6 with he6
    injection he6 with e1 he6
    injection he6 with e2 e3
    have m2 := q3.le _ _ m1
    obtain ⟨L, hL, hobj⟩ := q1.loopAt ho1 m2
    obtain ⟨z1, z2, z3⟩ := q1.loopSet (st2 := .exhausted) (p2 := p) (pe := L.pending) ho1 m2 hL hobj hobj.2.1 A2.next
    rw [e3] at z2 z3
    have hend : (Instr.endLoop l).run P w2 = .ok L.pending { w2 with heap := w2.heap.setIfInBounds l (.loop { L with state := .exhausted, pending := L.pending }) } := by
      unfold Instr.endLoop
      rw [run_ok (run_getLoop hL)]
      have hst : (L.state == LoopState.busy) = false := by
        have := hobj.1
        rw [← this]
        cases st <;> first | rfl | exact nomatch hnb
      rw [hst]
      show (setObj l (.loop { L with state := .exhausted, pending := L.pending }) >>= fun _ => _).run P w2 = _
      rw [run_ok z1]; rfl
    have s2 := s1.trans (Steps.one (st_endRange (b := b) (t := t) (ds := ms ++ ds) (k := k) (cs := cs) hend))
    have kk : Kept A.next μ μ2 A A' w { w2 with heap := w2.heap.setIfInBounds l (.loop { L with state := .exhausted, pending := L.pending }) } :=
      (k1.trans (q3.weaken k1.next)).trans (z3.weaken (Nat.le_trans k1.next q3.next))
    refine ⟨μ2, _, t, ms, ⟨z2, ?_, rfl, kk, (mk1.kept q3).kept z3⟩, ?_⟩
    · rw [← e2]
      exact hE.mono (Mu.le_trans k1.le q3.le)
    · have hpend := hobj.2.1
      subst e1
      revert s2
      generalize L.pending = pe at hpend
      intro s2
      cases p with
      | none =>
        cases pe with
        | none => exact s2
        | some _ => exact hpend.elim
      | some e =>
        cases e with
        | normal => cases pe <;> exact hpend.elim
        | ret =>
          cases pe with
          | none => exact hpend.elim
          | some c =>
            cases c with
            | ret => exact ⟨k, s2⟩
            | _ => exact hpend.elim
        | exit id =>
          cases pe with
          | none => exact hpend.elim
          | some c =>
            cases c with
            | exit id' =>
              have : id = id' := hpend
              subst this
              exact ⟨k, rfl, s2⟩
            | _ => exact hpend.elim
  · exact nomatch he2

theorem codes_step (cl : FuncId → List AV → AH → Option (AV × AH)) : CodesOK P ⟨cl, codeStep P (ttOf P) FR⟩ := by
  intro c nt ic hc
  cases c with
  | skip =>
    injection hc with hc
    subst hc
    intro env A ex env' A' he μ w t b ds k cs hR hE ht hok
    have he : some (Ex.normal, env, A) = some (ex, env', A') := he
    injection he with he
    injection he with h1 h2
    injection h2 with h2 h3
    subst h1; subst h2; subst h3
    exact ⟨μ, w, t, [], ⟨hR, hE, rfl, Kept.refl _ _ _ _, .nil _ _ _ _ _⟩, Steps.one st_skip⟩
  | label l =>
    injection hc with hc
    subst hc
    intro env A ex env' A' he μ w t b ds k cs hR hE ht hok
    have he : some (Ex.normal, env, A) = some (ex, env', A') := he
    injection he with he
    injection he with h1 h2
    injection h2 with h2 h3
    subst h1; subst h2; subst h3
    exact ⟨μ, w, t, [], ⟨hR, hE, rfl, Kept.refl _ _ _ _, .nil _ _ _ _ _⟩, Steps.one st_label⟩
  | exit id =>
    injection hc with hc
    subst hc
    intro env A ex env' A' he μ w t b ds k cs hR hE ht hok
    have he : some (Ex.exit id, env, A) = some (ex, env', A') := he
    injection he with he
    injection he with h1 h2
    injection h2 with h2 h3
    subst h1; subst h2; subst h3
    exact ⟨μ, w, t, [], ⟨hR, hE, rfl, Kept.refl _ _ _ _, .nil _ _ _ _ _⟩, k, rfl, Steps.refl _ _⟩
  | ret =>
    injection hc with hc
    subst hc
    intro env A ex env' A' he μ w t b ds k cs hR hE ht hok
    have he : some (Ex.ret, env, A) = some (ex, env', A') := he
    injection he with he
    injection he with h1 h2
    injection h2 with h2 h3
    subst h1; subst h2; subst h3
    exact ⟨μ, w, t, [], ⟨hR, hE, rfl, Kept.refl _ _ _ _, .nil _ _ _ _ _⟩, k, Steps.refl _ _⟩
  | goto l =>
    injection hc with hc
    subst hc
    intro env A ex env' A' he
    exact nomatch he
  | refuse why =>
    injection hc with hc
    subst hc
    intro env A ex env' A' he
    exact nomatch he
  | region id ops draw =>
    cases draw with
    | true => exact hD nt id ops ic cl hc
    | false =>
      obtain ⟨l, hl, hc1⟩ := ob_eq (show ob (compOps P (ttOf P) nt ops.toList) _ = some ic from hc)
      injection hc1 with hc1
      subst hc1
      intro env A ex env' A' he μ w t b ds k cs hR hE ht hok
      obtain ⟨⟨env1, A1⟩, he1, he2⟩ := ob_eq (show ob (evOps P (ttOf P) FR l env A) _ = some (ex, env', A') from he)
      injection he2 with he2
      injection he2 with h1 h2
      injection h2 with h2 h3
      subst h1; subst h2; subst h3
      obtain ⟨μ', w', t', f, s⟩ := ops_ok hF hC ops.toList [] l rfl hl b ds k cs he1 hR hE ht
      refine ⟨μ', w', t', [], f, ?_⟩
      have hr : List.range ops.size = List.range' ([] : List Oper).length ops.toList.length := by
        rw [Array.length_toList]; exact List.range_eq_range'
      show Steps P _ _
      refine Steps.trans (Steps.one st_region) ?_
      rw [hr]
      exact s.trans (Steps.one st_region_end)
  | seq x y =>
    obtain ⟨ia, ha, hc1⟩ := ob_eq (show ob (comp P (ttOf P) nt x) _ = some ic from hc)
    obtain ⟨ib, hb, hc2⟩ := ob_eq (show ob (comp P (ttOf P) nt y) _ = some ic from hc1)
    injection hc2 with hc2
    subst hc2
    intro env A ex env' A' he μ w t b ds k cs hR hE ht hok
    obtain ⟨⟨e1, env1, A1⟩, he1, he2⟩ := ob_eq (show ob (FR.code ia env A) _ = some (ex, env', A') from he)
    replace he2 : seq1 FR ib e1 env1 A1 = some (ex, env', A') := he2
    obtain ⟨μ1, w1, t1, ms1, f1, g1⟩ := hC _ _ _ ha env A e1 env1 A1 he1 μ w t b ds (.code y :: k) cs hR hE ht hok
    have s0 : Steps P (lone (frm b t ds (.code (.seq x y) :: k)) cs w) (lone (frm b t ds (entry x (.code y :: k))) cs w) := (Steps.one st_seq).trans to_entry
    cases e1 with
    | normal =>
      obtain ⟨μ2, w2, t2, ms2, f2, g2⟩ := hC _ _ _ hb env1 A1 ex env' A' he2 μ1 w1 t1 b (ms1 ++ ds) k cs f1.r f1.env (by rw [f1.size]; exact ht) (hok.kept f1.kept)
      refine ⟨μ2, w2, t2, ms2 ++ ms1, f1.trans f2, ?_⟩
      rw [List.append_assoc]
      exact Goes.of_steps ((s0.trans g1).trans to_entry) g2
    | exit id =>
      have he3 : some (Ex.exit id, env1, A1) = some (ex, env', A') := he2
      injection he3 with he3
      injection he3 with h1 h2
      injection h2 with h2 h3
      subst h1; subst h2; subst h3
      obtain ⟨k2, q1, q2⟩ := g1
      exact ⟨μ1, w1, t1, ms1, f1, k2, q1.trans rfl, s0.trans q2⟩
    | ret =>
      have he3 : some (Ex.ret, env1, A1) = some (ex, env', A') := he2
      injection he3 with he3
      injection he3 with h1 h2
      injection h2 with h2 h3
      subst h1; subst h2; subst h3
      obtain ⟨k2, q2⟩ := g1
      exact ⟨μ1, w1, t1, ms1, f1, k2, s0.trans q2⟩
  | cond c x y =>
    obtain ⟨c', hc', hc1⟩ := ob_eq (show ob (opnd (plainW P) c) _ = some ic from hc)
    obtain ⟨ia, ha, hc2⟩ := ob_eq (show ob (comp P (ttOf P) nt x) _ = some ic from hc1)
    obtain ⟨ib, hb, hc3⟩ := ob_eq (show ob (comp P (ttOf P) nt y) _ = some ic from hc2)
    injection hc3 with hc3
    subst hc3
    intro env A ex env' A' he μ w t b ds k cs hR hE ht hok
    obtain ⟨cv, hcv, he1⟩ := ob_eq (show ob (ioOf env .e c') _ = some (ex, env', A') from he)
    obtain ⟨bb, e, he2⟩ := onBool_eq he1
    subst e
    have hbool := (env_ior hR hE .e c c' _ hc' hcv).inv_bool
    cases bb with
    | true =>
      obtain ⟨μ1, w1, t1, ms1, f1, g1⟩ := hC _ _ _ ha env A ex env' A' he2 μ w t b ds k cs hR hE ht hok
      exact ⟨μ1, w1, t1, ms1, f1, Goes.of_steps ((Steps.one (st_cond hbool)).trans to_entry) g1⟩
    | false =>
      obtain ⟨μ1, w1, t1, ms1, f1, g1⟩ := hC _ _ _ hb env A ex env' A' he2 μ w t b ds k cs hR hE ht hok
      exact ⟨μ1, w1, t1, ms1, f1, Goes.of_steps ((Steps.one (st_cond hbool)).trans to_entry) g1⟩
  | block id x =>
    obtain ⟨ia, ha, hc1⟩ := ob_eq (show ob (comp P (ttOf P) nt x) _ = some ic from hc)
    injection hc1 with hc1
    subst hc1
    intro env A ex env' A' he μ w t b ds k cs hR hE ht hok
    obtain ⟨⟨e1, env1, A1⟩, he1, he2⟩ := ob_eq (show ob (FR.code ia env A) _ = some (ex, env', A') from he)
    injection he2 with he2
    injection he2 with h1 h2
    injection h2 with h2 h3
    subst h2; subst h3
    obtain ⟨μ1, w1, t1, ms1, f1, g1⟩ := hC _ _ _ ha env A e1 env1 A1 he1 μ w t b ds (.inBlock id :: k) cs hR hE ht hok
    have s0 : Steps P (lone (frm b t ds (.code (.block id x) :: k)) cs w) (lone (frm b t ds (entry x (.inBlock id :: k))) cs w) := (Steps.one st_block).trans to_entry
    refine ⟨μ1, w1, t1, ms1, f1, ?_⟩
    cases e1 with
    | normal =>
      subst h1
      exact (s0.trans g1).trans (Steps.one st_inBlock)
    | exit i =>
      obtain ⟨k2, q1, q2⟩ := g1
      have h1' : bif2 (Nat.beq i id) Ex.normal (.exit i) = ex := h1
      rw [bif2_eq, nbeq_eq] at h1'
      by_cases hi : i = id
      · rw [if_pos (by simpa using hi)] at h1'
        subst h1'
        have hex : exitTo i k2 = some k := by
          rw [q1]
          simp [exitTo, hi]
        exact (s0.trans q2).trans (Steps.one (st_exit hex))
      · rw [if_neg (by simpa using hi)] at h1'
        subst h1'
        refine ⟨k2, ?_, s0.trans q2⟩
        rw [q1]
        have : (id == i) = false := by simpa using fun h => hi h.symm
        simp [exitTo, this]
    | ret =>
      subst h1
      obtain ⟨k2, q2⟩ := g1
      exact ⟨k2, s0.trans q2⟩
  | loop x =>
    obtain ⟨ia, ha, hc1⟩ := ob_eq (show ob (comp P (ttOf P) nt x) _ = some ic from hc)
    injection hc1 with hc1
    subst hc1
    intro env A ex env' A' he μ w t b ds k cs hR hE ht hok
    obtain ⟨⟨e1, env1, A1⟩, he1, he2⟩ := ob_eq (show ob (FR.code ia env A) _ = some (ex, env', A') from he)
    replace he2 : seq1 FR (.loop ia) e1 env1 A1 = some (ex, env', A') := he2
    obtain ⟨μ1, w1, t1, ms1, f1, g1⟩ := hC _ _ _ ha env A e1 env1 A1 he1 μ w t b ds (.inLoop x :: k) cs hR hE ht hok
    have s0 : Steps P (lone (frm b t ds (entry (.loop x) k)) cs w) (lone (frm b t ds (entry x (.inLoop x :: k))) cs w) := to_entry
    cases e1 with
    | normal =>
      obtain ⟨μ2, w2, t2, ms2, f2, g2⟩ := hC (.loop x) nt (.loop ia) hc env1 A1 ex env' A' he2 μ1 w1 t1 b (ms1 ++ ds) k cs f1.r f1.env (by rw [f1.size]; exact ht) (hok.kept f1.kept)
      refine ⟨μ2, w2, t2, ms2 ++ ms1, f1.trans f2, ?_⟩
      rw [List.append_assoc]
      exact Goes.of_steps ((s0.trans g1).trans (Steps.one st_inLoop)) g2
    | exit id =>
      have he3 : some (Ex.exit id, env1, A1) = some (ex, env', A') := he2
      injection he3 with he3
      injection he3 with h1 h2
      injection h2 with h2 h3
      subst h1; subst h2; subst h3
      obtain ⟨k2, q1, q2⟩ := g1
      exact ⟨μ1, w1, t1, ms1, f1, k2, q1.trans rfl, s0.trans q2⟩
    | ret =>
      have he3 : some (Ex.ret, env1, A1) = some (ex, env', A') := he2
      injection he3 with he3
      injection he3 with h1 h2
      injection h2 with h2 h3
      subst h1; subst h2; subst h3
      obtain ⟨k2, q2⟩ := g1
      exact ⟨μ1, w1, t1, ms1, f1, k2, s0.trans q2⟩
  | scope x =>
    obtain ⟨ia, ha, hc1⟩ := ob_eq (show ob (comp P (ttOf P) nt x) _ = some ic from hc)
    injection hc1 with hc1
    subst hc1
    intro env A ex env' A' he μ w t b ds k cs hR hE ht hok
    have he1 : FR.code ia env A = some (ex, env', A') := he
    obtain ⟨μ1, w1, t1, ms1, f1, g1⟩ := hC _ _ _ ha env A ex env' A' he1 μ w t b ds (.inScope x :: k) cs hR hE ht hok
    have s0 : Steps P (lone (frm b t ds (.code (.scope x) :: k)) cs w) (lone (frm b t ds (entry x (.inScope x :: k))) cs w) := (Steps.one st_scope).trans to_entry
    refine ⟨μ1, w1, t1, ms1, f1, ?_⟩
    cases ex with
    | normal => exact (s0.trans g1).trans (Steps.one st_inScope)
    | exit i =>
      obtain ⟨k2, q1, q2⟩ := g1
      exact ⟨k2, q1.trans rfl, s0.trans q2⟩
    | ret =>
      obtain ⟨k2, q2⟩ := g1
      exact ⟨k2, s0.trans q2⟩
  | rangeFunc f ps x y => exact range_ok hF hC hD hc cl
end
end Go.Ev
end

section
/- Ev, part 34: functions. -/
namespace Go.Ev
open Go.RowKit (Below)
variable [F : Facts] [E : Env]
set_option linter.unusedSimpArgs false
set_option linter.unusedVariables false
set_option linter.unusedSectionVars false
set_option linter.constructorNameAsVariable false
variable {P : Program} {μ : Mu}

theorem ft_get {f : FuncId} {fn : Func} (h : (ftOf P).get f = some fn) : P.funcs[f]? = some fn := by
  unfold ftOf at h
  rw [T.get_ofList_e] at h
  simpa using h

theorem Kept.far {B : Nat} {μ μ' : Mu} {A A' : AH} {w w' w'' : World} (h : Kept B μ μ' A A' w w') (hos : w''.os = w'.os) (htp : w''.tape = w'.tape) (hop : w''.output = w'.output) (hsz : w'.heap.size ≤ w''.heap.size)
    (heq : ∀ c, c < w.heap.size → w''.heap[c]? = w'.heap[c]?) : Kept B μ μ' A A' w w'' where
  le := h.le
  os := hos.trans h.os
  tape := htp.trans h.tape
  output := hop.trans h.output
  size := Nat.le_trans h.size hsz
  next := h.next
  block c hc hw := (heq c hc).trans (h.block c hc hw)
  wr := h.wr
  unborn := h.unborn
  loops c L hc := by
    obtain ⟨L', h1, h2⟩ := h.loops c L hc
    exact ⟨L', by rw [heq c (Array.getElem?_eq_some_iff.1 hc).1]; exact h1, h2⟩

/-- a block of deferred calls is emptied -/
theorem R.empty {A : AH} {w : World} (h : R P μ A w) {r : Nat} {x : Option (List Deferred)} (hr : w.heap[r]? = some (.deferred x)) (y : Option (List Deferred)) :
    R P μ A { w with heap := w.heap.setIfInBounds r (.deferred y) } := by
  have hset := setObj_wset hr (.deferred y)
  exact {
    obj := fun b o m h1 h2 => by
      obtain ⟨o', h3, h4⟩ := h.obj b o m h1 h2
      refine ⟨o', ?_, h4⟩
      rw [hset.other]
      · exact h3
      · intro e
        rw [e, hr] at h3
        injection h3 with h3
        subst h3
        cases o <;> exact h4.elim
    dom := fun b m h1 => by rw [hset.size]; exact h.dom b m h1
    live := h.live
    glob := h.glob
    sep := h.sep
    ord := h.ord
    mem := h.mem }

theorem st_pop {fr : Frame} {cs : List Frame} {w w' : World} {r : Nat} {ds : List Deferred} (hm : fr.mode = .returning) (hd : fr.defers = mark1 r :: ds) (h : (Instr.takeDeferred r).run P w = .ok [] w') :
    step P (lone fr cs w) = .next (lone { fr with defers := ds } cs w') :=
  step_lone_go (by simp [stepG, unwind, hm, hd, mark1, h])

theorem pops {A : AH} {s0 : Nat} : ∀ (ms : List Deferred) (b : Frame) (w : World) (fr : Frame) (cs : List Frame), R P μ A w → Marks b μ A s0 w ms → fr.mode = .returning → fr.defers = ms →
    ∃ w', R P μ A w' ∧ w'.os = w.os ∧ w'.tape = w.tape ∧ w'.output = w.output ∧ w'.heap.size = w.heap.size ∧ (∀ c, c < s0 → w'.heap[c]? = w.heap[c]?) ∧ Steps P (lone fr cs w) (lone { fr with defers := [] } cs w') := by
  intro ms
  induction ms with
  | nil =>
    intro b w fr cs hR hM hm hd
    refine ⟨w, hR, rfl, rfl, rfl, rfl, fun _ _ => rfl, ?_⟩
    have : ({ fr with defers := [] } : Frame) = fr := by rw [← hd]
    rw [this]; exact .refl _ _
  | cons d ms ih =>
    intro b w fr cs hR hM hm hd
    obtain ⟨r, h1, h2, h3, h4⟩ := hM.all d (by simp)
    subst h1
    have htake : (Instr.takeDeferred r).run P w = .ok [] { w with heap := w.heap.setIfInBounds r (.deferred none) } := by
      unfold Instr.takeDeferred
      rw [run_ok (run_getObj h3 (fun c e f h => nomatch h))]
      show (setObj r (.deferred none) >>= fun _ => _).run P w = _
      rw [run_ok (run_setObj h3 (fun c e f h => nomatch h))]
      rfl
    have hset := setObj_wset h3 (.deferred none)
    have hR2 := hR.empty h3 none
    have hM2 : Marks b μ A s0 { w with heap := w.heap.setIfInBounds r (.deferred none) } ms := by
      refine ⟨?_, (List.pairwise_cons.1 hM.diff).2, fun hb => by have := hM.round hb; exact nomatch this⟩
      intro e he
      obtain ⟨r', k1, k2, k3, k4⟩ := hM.all e (by simp [he])
      refine ⟨r', k1, k2, ?_, k4⟩
      rw [hset.other]
      · exact k3
      · intro e'
        subst e'
        exact (List.pairwise_cons.1 hM.diff).1 e he k1.symm
    obtain ⟨w', q1, q2, q3, q4, q5, q6, q7⟩ := ih b _ { fr with defers := ms } cs hR2 hM2 hm rfl
    refine ⟨w', q1, q2, q3, q4, q5.trans hset.size, fun c hc => (q6 c hc).trans (hset.other c (by omega)), Steps.head (st_pop hm hd htake) q7⟩

theorem res1_ok {A : AH} {w : World} (hR : R P μ A w) {env : T AV} {t : Array Value} (hE : EnvR μ env t) {r : ResultVar} {a : ARes} {v : AV} (hr : resOf1 (ttOf P) r = some a) (hv : res1 env A a = some v) :
    ∃ v', ((match r with | .tmp i => pure (t.getD i undef) | .cell i ty => do loadVar ty (← asAddr (t.getD i undef))) : Sem Value).run P w = .ok v' w ∧ VR μ v v' := by
  cases r with
  | tmp i =>
    injection hr with hr
    subst hr
    obtain ⟨v', h1, h2⟩ := hE i v hv
    refine ⟨v', ?_, h2⟩
    show (pure (t.getD i undef) : Sem Value).run P w = _
    rw [Array.getD_eq_getD_getElem?, h1]; rfl
  | cell i ty =>
    obtain ⟨n, hn, hr1⟩ := ob_eq hr
    obtain ⟨g, hg, hr2⟩ := ob_eq hr1
    injection hr2 with hr2
    subst hr2
    obtain ⟨u, hu, hv1⟩ := ob_eq (show ob (env.get i) _ = some v from hv)
    obtain ⟨b, o, e, hv2⟩ := onPtr_eq hv1
    subst e
    obtain ⟨u', h1, h2⟩ := hE i _ hu
    obtain ⟨b', d, x, hm, eu⟩ := h2.inv_ptr
    have hget : t.getD i undef = .pointer (some ⟨b', d + o, none⟩) := by
      rw [Array.getD_eq_getD_getElem?, h1, eu]; rfl
    have hload : ∀ v', (loadVar ty ⟨b', d + o, none⟩).run P w = .ok v' w → ((match ResultVar.cell i ty with | .tmp i => pure (t.getD i undef) | .cell i ty => do loadVar ty (← asAddr (t.getD i undef))) : Sem Value).run P w = .ok v' w := by
      intro v' hl
      show (asAddr (t.getD i undef) >>= fun a => loadVar ty a).run P w = _
      rw [hget, run_ok (show (asAddr (.pointer (some ⟨b', d + o, none⟩))).run P w = .ok ⟨b', d + o, none⟩ w from rfl)]
      exact hl
    rw [bif2_eq] at hv2
    by_cases hgt : g = true
    · rw [if_pos hgt] at hv2
      obtain ⟨cs, hcs, hv3⟩ := ob_eq hv2
      injection hv3 with hv3
      obtain ⟨l', hr, hlen, h1c, hcell⟩ := hR.cellsOf hcs hm
      refine ⟨.agg l'.toArray, hload _ ?_, by rw [← hv3]; exact .agg (by simpa using hr) h1c⟩
      unfold loadVar
      rw [run_ok (run_agg hg w), hgt]
      simp only [if_true]
      rw [run_ok (run_size hn w)]
      have := run_loads (P := P) (w := w) (b' := b') (k := d + o) (l := l') (fun i v' hi => by rw [Nat.add_assoc]; exact hcell i v' hi)
      rw [← hr.length, hlen] at this
      rw [run_ok this]; rfl
    · rw [if_neg hgt] at hv2
      obtain ⟨v', hcell, hr, _⟩ := hR.cell hv2 hm
      refine ⟨v', hload _ ?_, hr⟩
      have hgf : g = false := by simpa using hgt
      unfold loadVar
      rw [run_ok (run_agg hg w), hgf]
      exact run_load1 hcell

theorem resultsM_ok {A : AH} {w : World} (hR : R P μ A w) {env : T AV} {t : Array Value} (hE : EnvR μ env t) : ∀ {rs : List ResultVar} {as : List ARes} {l : List AV}, mapO (resOf1 (ttOf P)) rs = some as → mapO (res1 env A) as = some l →
    ∃ vs : List Value, (rs.mapM (fun r => (match r with | .tmp i => pure (t.getD i undef) | .cell i ty => do loadVar ty (← asAddr (t.getD i undef)) : Sem Value))).run P w = .ok vs w ∧ VRs μ l vs := by
  intro rs
  induction rs with
  | nil =>
    intro as l h1 h2
    injection h1 with h1
    subst h1
    injection h2 with h2
    subst h2
    exact ⟨[], rfl, .nil⟩
  | cons r rs ih =>
    intro as l h1 h2
    rw [mapO_cons] at h1
    obtain ⟨a, ha, h3⟩ := ob_eq h1
    obtain ⟨as', has, h4⟩ := ob_eq h3
    injection h4 with h4
    subst h4
    rw [mapO_cons] at h2
    obtain ⟨v, hv, h5⟩ := ob_eq h2
    obtain ⟨l', hl, h6⟩ := ob_eq h5
    injection h6 with h6
    subst h6
    obtain ⟨v', k1, k2⟩ := res1_ok hR hE ha hv
    obtain ⟨vs, k3, k4⟩ := ih has hl
    refine ⟨v' :: vs, ?_, .cons k2 k4⟩
    rw [List.mapM_cons, run_ok k1, run_ok k3]
    rfl

theorem run_arr {α β : Type} {f : α → Sem β} {l : Array α} {vs : List β} {w : World} (h : (l.toList.mapM f).run P w = .ok vs w) : (l.mapM f).run P w = .ok vs.toArray w := by
  rw [Array.mapM_eq_mapM_toList]
  show (List.toArray <$> List.mapM f l.toList).run P w = _
  rw [map_eq_pure_bind, run_ok h]
  rfl

theorem results_ok {A : AH} {w : World} (hR : R P μ A w) {env : T AV} {t : Array Value} (hE : EnvR μ env t) {fn : Func} {as : List ARes} {l : List AV} (h1 : mapO (resOf1 (ttOf P)) fn.results.toList = some as) (h2 : mapO (res1 env A) as = some l) :
    ∃ v', (results fn t).run P w = .ok v' w ∧ VR μ (packR l) v' := by
  obtain ⟨vs, k1, k2⟩ := resultsM_ok hR hE h1 h2
  have hm : (fn.results.mapM (fun r => (match r with | .tmp i => pure (t.getD i undef) | .cell i ty => do loadVar ty (← asAddr (t.getD i undef)) : Sem Value))).run P w = .ok vs.toArray w := by
    exact run_arr k1
  refine ⟨if h : vs.toArray.size = 1 then vs.toArray[0] else .tuple vs.toArray, ?_, ?_⟩
  · unfold results
    exact (run_ok hm).trans rfl
  · cases k2 with
    | nil => exact .tup .nil
    | cons h3 h4 =>
      cases h4 with
      | nil => exact h3
      | cons h5 h6 => exact .tup (.cons h3 (.cons h5 h6))

theorem find_mnz : ∀ fn : Func, fn.name = "internal/bytealg.MakeNoZero" → fn.origin = "" → Extern.findNext fn = none ∧ Extern.find fn = some (Extern.BytealgMakeNoZero.makeNoZero fn.params fn.resultTypes) := by
  intro fn h1 h2
  unfold Extern.findNext Extern.find
  rw [h1, h2]
  exact ⟨rfl, rfl⟩
theorem callFunc_ext2 {f : FuncId} {fn : Func} {e : Array Value → Sem Value} {args : Array Value} {w w' : World} {v : Value} (hf : P.funcs[f]? = some fn) (hb : fn.body = none) (hn : (fn.name == "runtime.NumGoroutine") = false)
    (h1 : Extern.findNext fn = none) (h2 : Extern.find fn = some e) (h3 : (e args).run P w = .ok v w') : (callFunc f args).run P w = .ok (.value v) w' := by
  unfold callFunc
  show (program >>= fun _ => _).run P w = _
  rw [run_ok (show program.run P w = .ok P w from rfl)]
  simp only [hf, hn, hb, Option.isNone_none, if_true, Bool.false_eq_true, if_false]
  show (mark (.extern f) >>= fun _ => _).run P w = _
  rw [run_ok (show (mark (.extern f)).run P w = .ok () w from rfl)]
  simp only [h1, h2]
  show (e args >>= fun _ => _).run P w = _
  rw [run_ok h3]; rfl
theorem mkNZ_ok {f : FuncId} {fn : Func} {A A' : AH} {w : World} (hR : R P μ A w) {args : List AV} {args' : Array Value} {v : AV} {e : TypeId} (hf : P.funcs[f]? = some fn) (hb : fn.body = none) (hn : (fn.name == "runtime.NumGoroutine") = false) (ho : fn.origin = "")
    (hname : fn.name = "internal/bytealg.MakeNoZero") (hk : mkNZOf (ttOf P) fn.resultTypes.toList = some (.mkNZ e)) (ha : VRs μ args args'.toList) (he : makeNZ e args A = some (v, A')) :
    ∃ v' w', (callFunc f args').run P w = .ok (.value v') w' ∧ Post P μ A w v A' v' w' := by
  unfold mkNZOf at hk
  split at hk
  · rename_i l t hl
    obtain ⟨d, hd, hk⟩ := ob_eq hk
    unfold mkNZ1 at hk
    split at hk
    · rename_i e2
      obtain ⟨s, hs, hk⟩ := ob_eq hk
      obtain ⟨hs1, hk⟩ := ot_eq hk
      rw [nbeq_eq, decide_eq_true_eq] at hs1
      subst hs1
      injection hk with hk
      injection hk with hk
      subst hk
      have hrt : fn.resultTypes = #[t] := by
        cases h : fn.resultTypes with
        | mk l' => rw [h] at hl; simp at hl; rw [hl]
      unfold makeNZ at he
      split at he
      · rename_i n0
        obtain ⟨k, n, en, he⟩ := onNat_eq he
        injection en with _ en
        subst en
        obtain ⟨hle, he⟩ := ot_eq he
        rw [nle_eq, decide_eq_true_eq] at hle
        injection he with he
        injection he with h1 h2
        subst h1; subst h2
        have hargs : args' = #[.int .i64 (n : Int)] := by
          have : args'.toList = [.int .i64 (n : Int)] := by
            generalize args'.toList = m at ha
            cases ha with
            | cons hx hs =>
              cases hs
              have := hx.inv_int
              rw [this]; rfl
          cases args'; simp_all
        obtain ⟨cs, hrun, hcs, _⟩ := Lib.run_makeNoZero (P := P) w fn.params t e2 (und_eq hd) n (by omega)
        obtain ⟨g1, g2⟩ := find_mnz fn hname ho
        have hnew : WNew w (w.drew.drew.alloc (.cells cs e2)) (.cells cs e2 (0, 0)) := ⟨rfl, rfl, rfl, rfl⟩
        obtain ⟨r1, r2⟩ := hR.made (o := .cells n (.tr .e) e2 false 0 0 A.next) (x := some (cs.size, 1)) hnew
          ⟨rfl, rfl, by show 0 + n ≤ cs.size; omega, ⟨rfl, (fun h => nomatch h)⟩, (fun l e => nomatch e), (fun i v hv => nomatch hv), (fun o _ h2 _ => absurd h2 (Nat.not_lt_zero o)), (fun _ => .inl rfl), (fun S s' e' => by
            injection e' with e'
            injection e' with e1 e2
            subst e1; subst e2
            exact ⟨rfl, hs⟩)⟩
        refine ⟨_, _, callFunc_ext2 hf hb hn g1 g2 (by rw [hargs, hrt]; exact hrun), _, r1, ?_, r2⟩
        refine VR.sl (b' := w.heap.size) (d := 0) (x := some (cs.size, 1)) (Mu.put_same _ _ _) hcs (.inr ⟨cs.size, 1, rfl, fun _ _ => by omega⟩)
      · exact nomatch he
    · exact nomatch hk
  · exact nomatch hk

theorem find_ixs : ∀ fn : Func, fn.name = "internal/bytealg.IndexString" → fn.origin = "" → Extern.findNext fn = none ∧ Extern.find fn = some Extern.BytealgIndex.index := by
  intro fn h1 h2
  unfold Extern.findNext Extern.find
  rw [h1, h2]
  exact ⟨rfl, rfl⟩
omit F E in
theorem find_congr {α : Type} {p q : α → Bool} : ∀ {l : List α}, (∀ a ∈ l, p a = q a) → l.find? p = l.find? q := by
  intro l
  induction l with
  | nil => intro _; rfl
  | cons a l ih =>
    intro h
    rw [List.find?_cons, List.find?_cons, h a (by simp), ih fun b hb => h b (by simp [hb])]
omit F E in
theorem findS_eq (a lb b : Nat) : ∀ (cnt i : Nat), findS a lb b cnt i = (List.range' i cnt).find? fun j => decide (subN a j lb = b) := by
  intro cnt
  induction cnt with
  | zero => intro i; rfl
  | succ cnt ih =>
    intro i
    show bif2 (Nat.beq (subN a i lb) b) (some i) (findS a lb b cnt (Nat.succ i)) = _
    rw [bif2_eq, nbeq_eq, ih, List.range'_succ, List.find?_cons]
    by_cases h : subN a i lb = b
    · simp [h]
    · simp [h]
theorem idxStr_ok {f : FuncId} {fn : Func} {A : AH} {w : World} (hR : R P μ A w) {args : List AV} {args' : Array Value} {v : AV} {g : Nat} (hf : P.funcs[f]? = some fn) (hb : fn.body = none) (hn : (fn.name == "runtime.NumGoroutine") = false) (ho : fn.origin = "")
    (hname : fn.name = "internal/bytealg.IndexString") (hg : (P.globals.toList.findIdx? fun g => g.name == "internal/bytealg.MaxLen") = some g) (ha : VRs μ args args'.toList) (he : idxStr g args A = some v) :
    ∃ v', (callFunc f args').run P w = .ok (.value v') w ∧ VR μ v v' := by
  unfold idxStr at he
  split at he
  · rename_i la a lb b
    obtain ⟨mv, hmv, he⟩ := ob_eq he
    have hgi : P.globals.findIdx? (fun g => g.name == "internal/bytealg.MaxLen") = some g := by
      rw [← hg, ← List.findIdx?_toArray]
    have hgl : g < P.globals.size := by
      have := List.findIdx?_eq_some_iff_getElem.1 hg
      obtain ⟨h, _⟩ := this
      simpa using h
    obtain ⟨mv', hcell, hmr, _⟩ := hR.cell hmv (hR.glob g hgl)
    obtain ⟨k, c, l, he, emv⟩ := onSum_eq he hmr
    obtain ⟨r, hr, he⟩ := ob_eq he
    obtain ⟨t, et, he⟩ := onBool_eq he
    subst et
    obtain ⟨hc, he⟩ := ot_eq he
    injection he with he9
    simp only [ba_eq, Bool.and_eq_true, nle_eq, nlt_eq, decide_eq_true_eq] at hc
    obtain ⟨ht, hlb, hla⟩ := hc
    subst ht
    have hle := cmpL_ok hr
    have hle2 : (lb : Int) ≤ c + linV E.val l := by
      unfold cmpI at hle
      injection hle with hle
      injection hle with hle
      rw [ile_eq, decide_eq_true_eq] at hle
      simpa using hle
    obtain ⟨sa, sb, eargs, hsa1, hsa2, hsb1, hsb2⟩ : ∃ sa sb : ByteArray, args' = #[.string sa, .string sb] ∧ la = sa.data.toList.length ∧ a = bytesNum sa.data.toList ∧ lb = sb.data.toList.length ∧ b = bytesNum sb.data.toList := by
      have : ∃ sa sb : ByteArray, args'.toList = [.string sa, .string sb] ∧ la = sa.data.toList.length ∧ a = bytesNum sa.data.toList ∧ lb = sb.data.toList.length ∧ b = bytesNum sb.data.toList := by
        generalize args'.toList = m at ha
        cases ha with
        | cons hx hs =>
          cases hs with
          | cons hy hs =>
            cases hs
            obtain ⟨s1, e1, e2, e3⟩ := hx.inv_str
            obtain ⟨s2, f1, f2, f3⟩ := hy.inv_str
            exact ⟨s1, s2, by rw [e1, f1], e2, e3, f2, f3⟩
      obtain ⟨sa, sb, e, h⟩ := this
      exact ⟨sa, sb, by cases args'; simp_all, h⟩
    obtain ⟨g1, g2⟩ := find_ixs fn hname ho
    have hsa : sa.size = la := by rw [hsa1]; rfl
    have hsb : sb.size = lb := by rw [hsb1]; rfl
    have hmax : Extern.BytealgIndex.maxLen.run P w = .ok (c + linV E.val l) w := by
      unfold Extern.BytealgIndex.maxLen
      have hga : (globalAddr "internal/bytealg.MaxLen").run P w = .ok ⟨g, 0, none⟩ w := by
        unfold globalAddr
        rw [run_ok (show program.run P w = .ok P w from rfl), hgi]
        rfl
      rw [run_ok hga, run_ok (run_load1 (by simpa using hcell)), emv]
      rfl
    have hfind : (List.range (sa.size + 1 - sb.size)).find? (fun i => sa.extract i (i + sb.size) == sb) = findS a lb b (Nat.sub (Nat.succ la) lb) 0 := by
      rw [findS_eq, hsa, hsb, List.range_eq_range']
      show _ = (List.range' 0 (la + 1 - lb)).find? _
      refine find_congr fun i hi => ?_
      have hi2 : i < la + 1 - lb := by simpa using List.mem_range'_1.1 hi
      have hex : (sa.extract i (i + lb)).data.toList = (sa.data.toList.drop i).take lb := by
        rw [byteArray_extract, Nat.add_sub_cancel_left]
      have hlen : ((sa.data.toList.drop i).take lb).length = lb := by simp; omega
      have e1 : (sa.extract i (i + lb) == sb) = ((sa.data.toList.drop i).take lb == sb.data.toList) := by
        rw [← hex]
        generalize sa.extract i (i + lb) = x
        show (x.data == sb.data) = _
        rw [Bool.eq_iff_iff]
        simp only [beq_iff_eq]
        exact Array.toList_inj.symm
      have hnum : subN a i lb = bytesNum ((sa.data.toList.drop i).take lb) := by
        unfold subN
        rw [hsa2]
        show (bytesNum _ / 256 ^ i) % 256 ^ lb = _
        rw [bytesNum_div, bytesNum_mod]
      rw [e1, hnum, hsb2, Bool.eq_iff_iff]
      simp only [beq_iff_eq, decide_eq_true_eq]
      exact ⟨fun h => by rw [h], fun h => bytesNum_inj _ _ (by rw [hlen, hsb1]) h⟩
    refine ⟨match findS a lb b (Nat.sub (Nat.succ la) lb) 0 with | some i => goInt i | none => goInt (-1), callFunc_ext hf hb hn g1 g2 ?_, ?_⟩
    · rw [eargs]
      show (Extern.BytealgIndex.index #[.string sa, .string sb]).run P w = _
      unfold Extern.BytealgIndex.index
      show (Extern.Bytes.bytesOf (.string sa) >>= fun a => Extern.Bytes.bytesOf (.string sb) >>= fun b => _).run P w = _
      rw [run_ok (show (Extern.Bytes.bytesOf (.string sa)).run P w = .ok sa w from rfl), run_ok (show (Extern.Bytes.bytesOf (.string sb)).run P w = .ok sb w from rfl)]
      have h2 : ¬ sb.size < 2 := by omega
      have h3 : ¬ (sb.size : Int) > c + linV E.val l := by rw [hsb]; omega
      have h4 : ¬ sa.size ≥ 4294967281 := by omega
      simp only [h2, decide_false, Bool.false_or]
      rw [run_ok hmax]
      simp only [h3, decide_false, Bool.false_eq_true, if_false]
      simp [h4]
      rw [hfind]
      cases findS a lb b (Nat.sub (Nat.succ la) lb) 0 <;> rfl
    · rw [← he9]
      unfold foundAt
      cases findS a lb b (Nat.sub (Nat.succ la) lb) 0 with
      | none => exact .int _ _
      | some i => exact .int _ _
  · exact nomatch he

/-- what the functions answer that are taken as they are said to answer -/
def SumsOK (P : Program) : Prop := ∀ f args v, F.sum f args = some v → ∀ (μ : Mu) (w : World) (args' : Array Value), VRs μ args args'.toList → P.globals.size ≤ w.heap.size →
  (∀ w, (callFunc f args').run P w = .ok (.enter f args') w) ∧ Calls P f args' w fun e w' => ∃ v', e = .returned v' ∧ VR μ v v' ∧ Below w.heap.size w w'
theorem R.gsize {A : AH} {w : World} (h : R P μ A w) : P.globals.size ≤ w.heap.size := by
  by_cases h0 : P.globals.size = 0
  · omega
  · have := (h.dom _ _ (h.glob (P.globals.size - 1) (by omega))).2
    have e : ((P.globals.size - 1, 0, none) : Nat × Nat × Option (Nat × Nat)).1 = P.globals.size - 1 := rfl
    rw [e] at this
    omega
theorem R.below {A : AH} {w w' : World} (h : R P μ A w) (hb : Below w.heap.size w w') : R P μ A w' :=
  { h with
    obj := fun b o m h1 h2 => by rw [hb.block _ (h.dom b m h2).2]; exact h.obj b o m h1 h2
    dom := fun b m h1 => ⟨(h.dom b m h1).1, Nat.lt_of_lt_of_le (h.dom b m h1).2 hb.size⟩ }
theorem kept_below {A : AH} {w w' : World} (hb : Below w.heap.size w w') (B : Nat) : Kept B μ μ A A w w' where
  le := Mu.le_refl μ
  os := hb.os
  tape := hb.tape
  output := hb.output
  size := hb.size
  next := Nat.le_refl _
  block c hc _ := hb.block c hc
  wr c _ h := h
  unborn b _ h := ⟨h, rfl⟩
  loops c L h := ⟨L, by rw [hb.block c (Array.getElem?_eq_some_iff.1 h).1]; exact h, rfl⟩

section
variable {FR : Rec} (hS : SumsOK P) (hF : CallsOK P FR) (hC : CodesOK P FR)
include hS hF hC

theorem calls_step (cd : IC → T AV → AH → Option (Ex × T AV × AH)) : CallsOK P ⟨callStep P (ttOf P) (ftOf P) FR, cd⟩ := by
  intro f args A v A' he μ w args' hR hv
  have he0 : orSum (F.sum f args) A (ob (fnOf P (ttOf P) (ftOf P) f) fun k => match k with
    | .ext k => ob (extern k args) fun v => some (v, A)
    | .mkNZ e => makeNZ e args A
    | .idx g => ob (idxStr g args A) fun v => some (v, A)
    | .go fn => call1 FR args A fn) = some (v, A') := he
  clear he
  unfold orSum at he0
  split at he0
  · rename_i u hu
    injection he0 with he0
    injection he0 with h1 h2
    subst h1; subst h2
    obtain ⟨k1, k2⟩ := hS f args u hu μ w args' hv hR.gsize
    unfold Back
    rw [k1 w]
    exact k2.mono fun e w' ⟨v', e1, e2, e3⟩ => ⟨v', e1, μ, hR.below e3, e2, kept_below e3 _⟩
  rename_i hnone
  have he := he0
  obtain ⟨kk, hkk, he1⟩ := ob_eq (show ob (fnOf P (ttOf P) (ftOf P) f) _ = some (v, A') from he)
  obtain ⟨fn, hfn, hk1⟩ := ob_eq hkk
  have hf := ft_get hfn
  unfold fnOf1 at hk1
  cases hb : fn.body with
  | none =>
    rw [hb] at hk1
    obtain ⟨hcond, hk2⟩ := ot_eq hk1
    rw [ba_eq, Bool.and_eq_true, nb_eq, Bool.not_eq_true'] at hcond
    unfold extOf at hk2
    rw [bif2_eq] at hk2
    split at hk2
    · rename_i hnm
      have hkk2 : ∃ e, kk = .mkNZ e := by
        unfold mkNZOf at hk2
        split at hk2
        · obtain ⟨d, _, hk3⟩ := ob_eq hk2
          unfold mkNZ1 at hk3
          split at hk3
          · obtain ⟨s, _, hk4⟩ := ob_eq hk3
            obtain ⟨_, hk5⟩ := ot_eq hk4
            injection hk5 with hk5
            exact ⟨_, hk5.symm⟩
          · exact nomatch hk3
        · exact nomatch hk2
      obtain ⟨e, rfl⟩ := hkk2
      obtain ⟨v', w', k1, k2⟩ := mkNZ_ok (P := P) hR hf hb hcond.2 (eq_of_beq hcond.1) (eq_of_beq hnm) hk2 hv (show makeNZ e args A = some (v, A') from he1)
      unfold Back
      rw [k1]
      exact k2
    rw [bif2_eq] at hk2
    split at hk2
    · rename_i hnm
      obtain ⟨g, hg, hk3⟩ := ob_eq hk2
      injection hk3 with hk3
      subst hk3
      obtain ⟨u, hu, he2⟩ := ob_eq (show ob (idxStr g args A) _ = some (v, A') from he1)
      injection he2 with he2
      injection he2 with h1 h2
      subst h1; subst h2
      obtain ⟨v', k1, k2⟩ := idxStr_ok (P := P) hR hf hb hcond.2 (eq_of_beq hcond.1) (eq_of_beq hnm) hg hv hu
      unfold Back
      rw [k1]
      exact ⟨μ, hR, k2, Kept.refl _ _ _ _⟩
    injection hk2 with hk2
    subst hk2
    obtain ⟨u, hu, he2⟩ := ob_eq (show ob (extern (kindOfExt fn.name) args) _ = some (v, A') from he1)
    injection he2 with he2
    injection he2 with h1 h2
    subst h1; subst h2
    obtain ⟨v', k1, k2⟩ := ext_ok (P := P) (w := w) hf hb hcond.2 (eq_of_beq hcond.1) hu hv
    unfold Back
    rw [k1]
    exact ⟨μ, hR, k2, Kept.refl _ _ _ _⟩
  | some c =>
    rw [hb] at hk1
    obtain ⟨hname, hk2⟩ := ot_eq hk1
    rw [nb_eq, Bool.not_eq_true'] at hname
    obtain ⟨bo, hbo, hk3⟩ := ob_eq hk2
    obtain ⟨rs, hrs, hk4⟩ := ob_eq hk3
    injection hk4 with hk4
    subst hk4
    obtain ⟨⟨ex, env', A1⟩, hcode, he2⟩ := ob_eq (show ob (FR.code bo (trOf args) A) _ = some (v, A') from he1)
    obtain ⟨hend, he3⟩ := ot_eq he2
    obtain ⟨l, hl, he4⟩ := ob_eq he3
    injection he4 with he4
    injection he4 with h1 h2
    subst h1
    have hA : A1 = A' := h2
    subst hA
    have hrun : (callFunc f args').run P w = .ok (.enter f args') w := by
      unfold callFunc
      show (program >>= fun _ => _).run P w = _
      rw [run_ok (show program.run P w = .ok P w from rfl)]
      simp only [hf, hname, hb, Option.isNone_some, Bool.false_eq_true, if_false]
      rfl
    unfold Back
    rw [hrun]
    intro cs
    let t0 : Array Value := args' ++ Array.replicate (fn.ntmps - args'.size) undef
    let b : Frame := { fn := f, tmps := #[], todo := [], defers := [], mode := .run, kind := .normal }
    have hfr : Frame.enter P f args' .normal = frm b t0 [] (.code c :: []) := by
      show Frame.enter P f args' .normal = ({ fn := f, tmps := t0, todo := [.code c], defers := [], mode := .run, kind := .normal } : Frame)
      unfold Frame.enter
      simp only [hf, Option.map_some, Option.getD_some, Option.bind_some, hb]
      rfl
    have hE : EnvR μ (trOf args) t0 := by
      intro i u hu
      rw [trOf_get] at hu
      obtain ⟨u', h3, h4⟩ := hv.get hu
      refine ⟨u', ?_, h4⟩
      have hlt := (List.getElem?_eq_some_iff.1 h3).1
      show (args' ++ _)[i]? = _
      rw [Array.getElem?_append_left (by simpa using hlt)]
      simpa using h3
    have ht : fn.ntmps ≤ t0.size := by
      show fn.ntmps ≤ (args' ++ Array.replicate (fn.ntmps - args'.size) undef).size
      rw [Array.size_append, Array.size_replicate]; omega
    obtain ⟨μ1, w1, t1, ms, f1, g1⟩ := hC _ _ _ hbo (trOf args) A ex env' A1 hcode μ w t0 b [] [] cs hR hE ht (fun l hl => nomatch hl)
    rw [List.append_nil] at g1
    have s0 : Steps P (lone (Frame.enter P f args' .normal) cs w) (lone (frm b t0 [] (entry c [])) cs w) := by rw [hfr]; exact to_entry
    have sret : ∃ todo, Steps P (lone (frm b t0 [] (entry c [])) cs w) (lone { frm b t1 ms todo with mode := .returning } cs w1) := by
      cases ex with
      | normal =>
        refine ⟨[], g1.trans (Steps.one (step_lone_go ?_))⟩
        simp [stepG, stepG.exec, frm, b]
      | ret =>
        obtain ⟨k2, q⟩ := g1
        refine ⟨_, q.trans (Steps.one (step_lone_go (fr' := { frm b t1 ms (.code .ret :: k2) with mode := .returning }) ?_))⟩
        simp [stepG, stepG.exec, frm, b]
      | exit id => exact nomatch hend
    obtain ⟨todo, s1⟩ := sret
    obtain ⟨w2, q1, q2, q3, q4, q5, q6, q7⟩ := pops ms b w1 { frm b t1 ms todo with mode := .returning } cs f1.r f1.marks rfl rfl
    obtain ⟨v', r1, r2⟩ := results_ok q1 f1.env hrs hl
    have hkept := f1.kept.far q2 q3 q4 (by omega) q6
    exact ⟨.returned v', w2, _, ⟨v', rfl, μ1, q1, r2, hkept⟩, (s0.trans s1).trans q7, rfl, rfl, rfl, rfl, fn, hf, r1⟩
end

theorem ev_ok (hS : SumsOK P) (hD : ∀ FR, CallsOK P FR → CodesOK P FR → DrawOK P FR) : ∀ n, CallsOK P (ev P (ttOf P) (ftOf P) n) ∧ CodesOK P (ev P (ttOf P) (ftOf P) n) := by
  intro n
  induction n with
  | zero => exact ⟨(fun f args A v A' h => nomatch h), (fun c nt ic _ env A ex env' A' h => nomatch h)⟩
  | succ n ih => exact ⟨calls_step hS ih.1 ih.2 _, codes_step ih.1 ih.2 (hD _ ih.1 ih.2) _⟩
end Go.Ev
end
