/- service.Run over the inputs: step by step, as far as it is asked for. -/
import Derived.Test.YtnoddedgkgkfhaaSvcS4
namespace Go.Proofs.Ytnoddedgkgkfhaa.Svc
open Go.RowKit Go.Shelf Go.Proofs.YtnoddedgkgkfhaaW.PrintWords Go.Proofs.YtnoddedgkgkfhaaW.PrintLast
attribute [local go_sem] Oper.semAt_some
attribute [local go_sem ↓] execOp_load24
set_option linter.unusedVariables false
set_option linter.unusedSimpArgs false
set_option maxRecDepth 100000
set_option maxHeartbeats 2000000
theorem wplIn_letter {F : Fence} {n : Nat} {P : Program} {ops : Array Oper} {Q : Exit → Act → World → Prop} {o : Oper} {rest : List Oper} {a : Act} {W : World} {N : Tmp} (_hN : o.dst = some N) (h : ∀ w9, w9 = W → wpListIn F n P ops Q (o :: rest) a w9) : wpListIn F n P ops Q (o :: rest) a W := h W rfl
theorem ri_start {W0 w w5 : World} {hi gu gl gst gat gok gnow ru gs : Nat} {os : Array Value} {e : En} {u : U0} {A1 : Option Addr} {c1 : Nat} {l1 : List S38} {stop : Int} {s : S} {A : Option Addr} {m c : Nat}
    (o : Od W0.heap.size hi gu gl gst gat gok gnow) (hhi : hi ≤ w.heap.size) (h : RL W0.heap.size hi gu gl gst gat gok gnow e u A1 c1 l1 stop w 0 s A m c) (hA : ∀ ad, A = some ad → ad.block < W0.heap.size) (hs : s.starts.length ≤ 1000)
    (hbn : w5.heap[w.heap.size + 1]? = some (.cells (svcC s A m c) 30 (0, 0))) (hby : w5.heap[w.heap.size]? = some (.cells #[yieldV gu gl gst gat gok gnow] 65 (0, 0))) (hru : w5.heap[ru]? = some (.cells (unitC e u) 24 (0, 0)))
    (hb : Below w.heap.size w w5) (hB0 : Below W0.heap.size W0 w) (hkx : w.heap[gs]? = some (.cells os 30 (0, 0))) (hsz : w5.heap.size = w.heap.size + 2) :
    RI W0 (w.heap.size + 2) gu gl gst gat gok gnow ru (w.heap.size + 1) w.heap.size gs os e u A1 c1 l1 stop w5 ([] : List S38).length := by
  have h5 := h.below hb
  have hap : ∀ ad, A = some ad → ad.block < W0.heap.size ∨ w.heap.size + 2 ≤ ad.block := fun ad ha => .inl (hA ad ha)
  exact ⟨⟨s, A, m, c, A, m, c, ⟨h5.bu, h5.bl, h5.bst, h5.bat, h5.bok, h5.bnow, h5.ra, hap⟩, hbn, h5.ra, hap, hs⟩, hby, hru, hB0.trans (hb.mono hB0.size), blk_below hkx hb⟩
theorem inputs_cells {W0 W : World} {A1 : Option Addr} {l1 : List S38} (hr1 : Kd.C k38 W0 A1 l1.length l1) (hB : Below W0.heap.size W0 W) :
    ∀ k x, l1[k]? = some x → ∃ ad, A1 = some ad ∧ ∀ X, Below W0.heap.size W X → X.cell? (ad.add (k * 5)) = some (.int .i64 x.f0) ∧ X.cell? ⟨(ad.add (k * 5)).block, (ad.add (k * 5)).off + 1, none⟩ = some (.int .i64 x.f1) ∧ X.cell? ⟨(ad.add (k * 5)).block, (ad.add (k * 5)).off + 2, none⟩ = some (.int .i64 x.f2) ∧ X.cell? ⟨(ad.add (k * 5)).block, (ad.add (k * 5)).off + 3, none⟩ = some (.string x.f3) ∧ X.cell? ⟨(ad.add (k * 5)).block, (ad.add (k * 5)).off + 4, none⟩ = some (.int .i64 x.f4) := by
  intro k x hx
  have hlt : k < l1.length := (List.getElem?_eq_some_iff.1 hx).1
  obtain ⟨ad, eA1, hx0, hx1, hx2, hx3, hx4⟩ := at_T38 hr1 (k : Int) (by omega) (by omega)
  simp only [Int.toNat_natCast] at hx0 hx1 hx2 hx3 hx4
  have hrd : rd_T38 l1 (k : Int) = x := by unfold rd_T38; rw [Int.toNat_natCast, List.getD_eq_getElem?_getD, hx]; rfl
  rw [hrd] at hx0 hx1 hx2 hx3 hx4
  refine ⟨ad, eA1, fun X hX => ?_⟩
  have hb := hB.trans hX
  exact ⟨(hb.cell (World.block_lt_of_cell? W0 _ hx0)).trans hx0, (hb.cell (World.block_lt_of_cell? W0 _ hx1)).trans hx1, (hb.cell (World.block_lt_of_cell? W0 _ hx2)).trans hx2, (hb.cell (World.block_lt_of_cell? W0 _ hx3)).trans hx3, (hb.cell (World.block_lt_of_cell? W0 _ hx4)).trans hx4⟩
theorem kpi_put {n0 gl2 B : Nat} (h : n0 ≤ B) (hg : gl2 < B) : ∀ (W : World) (l : Nat) (o o' : Obj), B ≤ l → W.heap[l]? = some o → o.isCells = false → o.isWalk = false → KpI n0 gl2 W (W.putObj l o') := by
  intro W l o o' hl ho hc hw
  exact ⟨(Below.refl n0 W).grown (grownBy_putObj' W l o') (by have := blk_lt ho; omega) (fun k e => by injection e with e; omega), World.putObj_heap_other (by omega)⟩
theorem run1_in (n : Nat) (hn5 : 5 ≤ n) {W0 w : World} {hi gu gl gst gat gok gnow gl2 ru rs ri gs : Nat} {os : Array Value} {e : En} (u : U0) (hu : e.o = mkO u) {A1 : Option Addr} {c1 : Nat} {l1 : List S38} {stop : Int} {s : S} {A : Option Addr} {m c : Nat}
    (hp : Kd.C Kd.string W0 e.Apre e.pre.length e.pre ∧ Kd.C Kd.string W0 e.Asta e.sta.length e.sta ∧ Kd.C Kd.string W0 e.Asto e.sto.length e.sto)
    (o : Od W0.heap.size hi gu gl gst gat gok gnow) (hhi : hi ≤ w.heap.size) (q1 : gnow < gl2) (q2 : gl2 < ru) (q3 : ru < w.heap.size) (hB0 : Below W0.heap.size W0 w) (hr1 : Kd.C k38 W0 A1 l1.length l1)
    (h : RL W0.heap.size hi gu gl gst gat gok gnow e u A1 c1 l1 stop w 0 s A m c) (hA : ∀ ad, A = some ad → ad.block < W0.heap.size) (hs : s.starts.length ≤ 1000)
    (hrs : w.heap[rs]? = some (.cells (svcC s A m c) 30 (0, 0))) (hri : w.heap[ri]? = some (.cells #[.func (.func 36) #[] #[.pointer (some ⟨gl2, 0, none⟩)]] 61 (0, 0))) (hru : w.heap[ru]? = some (.cells (unitC e u) 24 (0, 0))) (hgl : w.heap[gl2]? = some (.cells #[.slice A1 l1.length c1] 25 (0, 0))) (hgs : gs < gat) (hkx : w.heap[gs]? = some (.cells os 30 (0, 0))) :
    CallsIn Fence.wide n Try.prog 35 #[yieldV gu gl gst gat gok gnow, .pointer (some ⟨rs, 0, none⟩), .pointer (some ⟨ri, 0, none⟩), .pointer (some ⟨ru, 0, none⟩)] w fun e' w' =>
      e' = .returned (.tuple #[]) ∧ ∃ k s' A' n' c' B, RL W0.heap.size B gu gl gst gat gok gnow e u A1 c1 l1 stop w' k s' A' n' c' ∧ (k = l1.length ∨ (k : Int) = stop) ∧ Below W0.heap.size W0 w' ∧ w'.heap[gs]? = some (.cells os 30 (0, 0)) := by
  have h1 : 1 ≤ n := by omega
  have hb4 : Below w.heap.size w (w.alloc (.cells #[.func (.func 26) #[] #[.pointer (some ⟨gat, 0, none⟩), .pointer (some ⟨gl, 0, none⟩), .pointer (some ⟨gok, 0, none⟩), .pointer (some ⟨gu, 0, none⟩), .pointer (some ⟨gnow, 0, none⟩), .pointer (some ⟨gst, 0, none⟩)]] 65)) := (Below.refl _ _).alloc (Nat.le_refl _) _
  have hb5 : Below w.heap.size w ((w.alloc (.cells #[.func (.func 26) #[] #[.pointer (some ⟨gat, 0, none⟩), .pointer (some ⟨gl, 0, none⟩), .pointer (some ⟨gok, 0, none⟩), .pointer (some ⟨gu, 0, none⟩), .pointer (some ⟨gnow, 0, none⟩), .pointer (some ⟨gst, 0, none⟩)]] 65)).alloc (.cells #[.int .i64 s.sub, .int .i64 s.main, .int .i64 s.control, .int .i64 s.next, .slice A m c, .bool s.stopping, .int .i64 s.result, .bool s.waiting] 30)) := below_alloc hb4 _
  obtain ⟨s0, s1, s2, s3, s4, s5, s6, s7⟩ := svc_reads (blk_below hrs hb4)
  have cri := (blk_cell (blk_below hri hb5) 0).trans rfl
  have by5 : ((w.alloc (.cells #[.func (.func 26) #[] #[.pointer (some ⟨gat, 0, none⟩), .pointer (some ⟨gl, 0, none⟩), .pointer (some ⟨gok, 0, none⟩), .pointer (some ⟨gu, 0, none⟩), .pointer (some ⟨gnow, 0, none⟩), .pointer (some ⟨gst, 0, none⟩)]] 65)).alloc (.cells #[.int .i64 s.sub, .int .i64 s.main, .int .i64 s.control, .int .i64 s.next, .slice A m c, .bool s.stopping, .int .i64 s.result, .bool s.waiting] 30)).heap[w.heap.size]? = some (.cells #[yieldV gu gl gst gat gok gnow] 65 (0, 0)) := blk_alloc (blk_new w _) _
  have bn5 : ((w.alloc (.cells #[.func (.func 26) #[] #[.pointer (some ⟨gat, 0, none⟩), .pointer (some ⟨gl, 0, none⟩), .pointer (some ⟨gok, 0, none⟩), .pointer (some ⟨gu, 0, none⟩), .pointer (some ⟨gnow, 0, none⟩), .pointer (some ⟨gst, 0, none⟩)]] 65)).alloc (.cells #[.int .i64 s.sub, .int .i64 s.main, .int .i64 s.control, .int .i64 s.next, .slice A m c, .bool s.stopping, .int .i64 s.result, .bool s.waiting] 30)).heap[w.heap.size + 1]? = some (.cells (svcC s A m c) 30 (0, 0)) := by
    have := blk_new (w.alloc (.cells #[.func (.func 26) #[] #[.pointer (some ⟨gat, 0, none⟩), .pointer (some ⟨gl, 0, none⟩), .pointer (some ⟨gok, 0, none⟩), .pointer (some ⟨gu, 0, none⟩), .pointer (some ⟨gnow, 0, none⟩), .pointer (some ⟨gst, 0, none⟩)]] 65)) (.cells #[.int .i64 s.sub, .int .i64 s.main, .int .i64 s.control, .int .i64 s.next, .slice A m c, .bool s.stopping, .int .i64 s.result, .bool s.waiting] 30)
    rwa [World.size_alloc] at this
  have hsz5 : ((w.alloc (.cells #[.func (.func 26) #[] #[.pointer (some ⟨gat, 0, none⟩), .pointer (some ⟨gl, 0, none⟩), .pointer (some ⟨gok, 0, none⟩), .pointer (some ⟨gu, 0, none⟩), .pointer (some ⟨gnow, 0, none⟩), .pointer (some ⟨gst, 0, none⟩)]] 65)).alloc (.cells #[.int .i64 s.sub, .int .i64 s.main, .int .i64 s.control, .int .i64 s.next, .slice A m c, .bool s.stopping, .int .i64 s.result, .bool s.waiting] 30)).heap.size = w.heap.size + 2 := by rw [World.size_alloc, World.size_alloc]
  have hRI := ri_start o hhi h hA hs bn5 by5 (blk_below hru hb5) hb5 hB0 hkx hsz5
  have hgl5 := blk_below hgl hb5
  have oe : Oe gnow gl2 ru w.heap.size (w.heap.size + 1) (w.heap.size + 2) := ⟨q1, q2, q3, Nat.lt_succ_self _, Nat.lt_succ_self _⟩
  have o2 : Od W0.heap.size (w.heap.size + 2) gu gl gst gat gok gnow := ⟨o.h0, o.h1, o.h2, o.h3, o.h4, o.h5, by have := o.h6; omega⟩
  have hW5 := hB0.trans (hb5.mono hB0.size)
  refine callsIn_of_wp_marks Try.func35 rfl trivial ?_ rfl
  simp only [Try.ntmps35, List.size_toArray, List.length_cons, List.length_nil, Nat.reduceAdd, Nat.reduceSub, Array.replicate_succ, Array.replicate_zero, List.push_toArray, List.append_toArray, List.nil_append, List.cons_append]
  unfold yieldV
  gi_wp2
  obtain ⟨w5, hw5⟩ : ∃ w5, ((w.alloc (.cells #[.func (.func 26) #[] #[.pointer (some ⟨gat, 0, none⟩), .pointer (some ⟨gl, 0, none⟩), .pointer (some ⟨gok, 0, none⟩), .pointer (some ⟨gu, 0, none⟩), .pointer (some ⟨gnow, 0, none⟩), .pointer (some ⟨gst, 0, none⟩)]] 65)).alloc (.cells #[.int .i64 s.sub, .int .i64 s.main, .int .i64 s.control, .int .i64 s.next, .slice A m c, .bool s.stopping, .int .i64 s.result, .bool s.waiting] 30)) = w5 := ⟨_, rfl⟩
  rw [hw5] at hRI hgl5 hW5 hsz5 ⊢
  clear hb4 hb5 s0 s1 s2 s3 s4 s5 s6 s7 cri by5 bn5 hw5
  refine range_next (F := Fence.wide) rfl h1 (gf := 36) (lb := #[.pointer (some ⟨gl2, 0, none⟩)]) rfl trivial (enters_of Try.func36 (by kernel_rfl) rfl)
    (encs := fun x : S38 => #[Value.agg (inC x)]) (Kp := KpI W0.heap.size gl2) (S := fun xs => xs = l1) (Sp := fun pre => pre <+: l1) (R := fun pre x => l1[pre.length]? = some x)
    (fun l J Jx W hW hY h0 => inputs_in (n - 1) l gl2 W0.heap.size (by omega) A1 c1 l1 J Jx W hY (blk_below hgl5 hW) hr1.2.1 (inputs_cells hr1 (hW5.trans (hW.mono hW5.size))) h0)
    (fun h k => KpI.trans h k) (kpi_put (by have := hW5.size; omega) (by omega)) (fun _ => rfl)
    (fun pre W => RI W0 (w.heap.size + 2) gu gl gst gat gok gnow ru (w.heap.size + 1) w.heap.size gs os e u A1 c1 l1 stop W pre.length)
    (fun pre W => RX W0 (w.heap.size + 2) gu gl gst gat gok gnow gs os e u A1 c1 l1 stop W pre.length)
    (by rw [hsz5]; exact ri_own (by have := hB0.size; omega)) (by rw [hsz5]; exact rx_own (by have := hB0.size; omega)) hRI
    (fun x a' W => ∃ Bx, W.heap[Bx]? = some (.cells (inC x) 38 (0, 0)) ∧ a' = { tmps := #[.func (.func 26) #[] #[.pointer (some ⟨gat, 0, none⟩), .pointer (some ⟨gl, 0, none⟩), .pointer (some ⟨gok, 0, none⟩), .pointer (some ⟨gu, 0, none⟩), .pointer (some ⟨gnow, 0, none⟩), .pointer (some ⟨gst, 0, none⟩)], .pointer (some ⟨rs, 0, none⟩), .pointer (some ⟨ri, 0, none⟩), .pointer (some ⟨ru, 0, none⟩), .pointer (some ⟨w.heap.size, 0, none⟩), .pointer (some ⟨w.heap.size + 1, 0, none⟩), .pointer (some ⟨Bx, 0, none⟩), undef, undef, undef, .agg #[.int .i64 s.sub, .int .i64 s.main, .int .i64 s.control, .int .i64 s.next, .slice A m c, .bool s.stopping, .int .i64 s.result, .bool s.waiting], .func (.func 36) #[] #[.pointer (some ⟨gl2, 0, none⟩)], .agg (inC x), undef, undef, undef, undef, undef, undef, undef, undef, undef, undef, undef, undef, undef, undef], defers := [] })
    ?hAx ?assign ?body ?done ?stop
  case hAx =>
    rintro x a' _ X Y row ⟨Bx, h1, h2⟩ hg hr
    exact ⟨Bx, cells_own h1 hg (fun r e => (hr r e).2), h2⟩
  case assign =>
    intro l pre x W K hi hK
    simp only [inC] at hK ⊢
    gi_wp2
    have hlW := blk_lt hi.bru
    exact hK _ _ ((KeepsOthers.alloc _ _).from _) ⟨(Below.refl _ _).alloc hi.bel.size _, Below.heap_alloc W _ gl2 (by omega)⟩ (ri_below hi ((Below.refl _ _).alloc (Nat.le_refl _) _)) ⟨W.heap.size, blk_new _ _, rfl⟩
  case body =>
    rintro l pre x a' W hI ⟨Bx, bX, rfl⟩ hx
    obtain ⟨st, Ar, nr, cr, Al, nl, cl, hRL, hbn, hra, hap, hsl⟩ := hI.ex
    have hWB : w.heap.size + 2 ≤ W.heap.size := Nat.lt_of_lt_of_le (by have := blk_lt hbn; omega) (Nat.le_refl _)
    obtain ⟨⟨s2, acts, er⟩, hst⟩ : ∃ p, stepS u (inE e x) st = p := ⟨_, rfl⟩
    have hl2 := step_len hst hsl
    have HSt := step_calls (W := W) (e := inE e x) (s := st) u hu Ar nr cr hra (by omega) ⟨Kd.C_below hp.1 hI.bel, Kd.C_below hp.2.1 hI.bel, Kd.C_below hp.2.2 hI.bel⟩
    have hUV : unitV e = .agg (unitC e u) := by unfold unitV unitC; simp only [hu, mkO]
    obtain ⟨uv, huv⟩ : ∃ uv, unitV e = uv := ⟨_, rfl⟩
    simp only [unitV_inE, inV_inE, svcV, huv, hst] at HSt
    have L24 : (load24 (.pointer (some ⟨ru, 0, none⟩))).run Try.prog W = .ok uv W := by rw [← huv, hUV]; exact load24_run hI.bru (by kernel_rfl)
    obtain ⟨b0, b1, b2, b3, b4, b5, b6, b7⟩ := svc_reads hbn
    obtain ⟨x0, x1, x2, x3, x4⟩ := in_reads bX
    have HI := Aside0.mk hI
    have HGS := Aside0.mk hgs
    have HRL := Aside0.mk hRL
    have HBN := Aside0.mk hbn
    have HX := Aside0.mk hx
    have HP := Aside0.mk hp
    have HR1 := Aside0.mk hr1
    have HAP := Aside0.mk hap
    have HL2 := Aside0.mk hl2
    have HSL := Aside0.mk hsl
    have HST := Aside0.mk hst
    have HO := Aside0.mk o2
    have HOE := Aside0.mk oe
    have HWB := Aside0.mk hWB
    have hn2 : 1 ≤ n - 1 - 1 := by omega
    have T22 := True.intro
    clear hI hRL hbn hx hp hr1 hap hl2 hsl hst o2 oe hWB huv hUV hra h hRI hgl5 hW5
    cases hbs : (((pre.length + 1 : Nat) : Int) != stop) with
    | true =>
      gi_wp2_with (first | (refine ⟨trivial, ?_⟩; gi_at_call 18; refine (CallsIn.inRound l (callsIn_wide.2 HSt)).mono ?_; rintro e' w7 ⟨vs', vo', rfl, hra7, hown7, hB7, hfr7⟩; clear L24 b0 b1 b2 b3 b4 b5 b6 b7 x0 x1 x2 x3 x4 HSt; obtain ⟨A7, n7, c7, rfl⟩ := hra7.form; obtain ⟨Ao, co, rfl⟩ := own_slice hown7; have hbn8 : (w7.alloc (.cells #[.int .i64 s2.sub, .int .i64 s2.main, .int .i64 s2.control, .int .i64 s2.next, .slice A7 n7 c7, .bool s2.stopping, .int .i64 s2.result, .bool s2.waiting] 30)).heap[w.heap.size + 1]? = some (.cells (svcC st Ar nr cr) 30 (0, 0)) := blk_below (blk_below HBN.out hB7) ((Below.refl _ _).alloc (Nat.le_refl _) _); obtain ⟨b0, b1, b2, b3, b4, b5, b6, b7⟩ := svc_reads hbn8; have fb : ∀ k, (w7.alloc (.cells #[.int .i64 s2.sub, .int .i64 s2.main, .int .i64 s2.control, .int .i64 s2.next, .slice A7 n7 c7, .bool s2.stopping, .int .i64 s2.result, .bool s2.waiting] 30)).frozen? ⟨w.heap.size + 1, k, none⟩ = false := fun k => blk_frozen hbn8 k; have hy8 : (w7.alloc (.cells #[.int .i64 s2.sub, .int .i64 s2.main, .int .i64 s2.control, .int .i64 s2.next, .slice A7 n7 c7, .bool s2.stopping, .int .i64 s2.result, .bool s2.waiting] 30)).heap[w7.heap.size]? = some (.cells (svcC s2 A7 n7 c7) 30 (0, 0)) := blk_new _ _; obtain ⟨y0, y1, y2, y3, y4, y5, y6, y7⟩ := svc_reads hy8; have HRA7 := Aside0.mk hra7; have HOW7 := Aside0.mk hown7; have HB7 := Aside0.mk hB7; have HFR7 := Aside0.mk hfr7; clear hra7 hown7 hB7 hfr7 hbn8 hy8) | ((with_reducible refine wplIn_letter (N := 22) rfl (fun w9 hw9 => ?_)); clear T22; (try clear b0); (try clear b1); (try clear b2); (try clear b3); (try clear b4); (try clear b5); (try clear b6); (try clear b7); (try clear fb); (try clear y0); (try clear y1); (try clear y2); (try clear y3); (try clear y4); (try clear y5); (try clear y6); (try clear y7); have HS := Aside0.mk (ri_set (w9 := w9) HO.out HOE.out HWB.out HRL.out HBN.out HAP.out HI.out.by_ HI.out.bru HI.out.bel HGS.out HI.out.kx HB7.out HRA7.out HOW7.out HFR7.out (by rw [hw9]; rfl)); clear hw9; have cy : w9.cell? ⟨w.heap.size, 0, none⟩ = some (.func (.func 26) #[] #[.pointer (some ⟨gat, 0, none⟩), .pointer (some ⟨gl, 0, none⟩), .pointer (some ⟨gok, 0, none⟩), .pointer (some ⟨gu, 0, none⟩), .pointer (some ⟨gnow, 0, none⟩), .pointer (some ⟨gst, 0, none⟩)]) := (blk_cell HS.out.2.2.2.2.1 0).trans rfl; obtain ⟨b0, b1, b2, b3, b4, b5, b6, b7⟩ := svc_reads HS.out.2.1) | (refine ⟨trivial, ?_⟩; gi_at_call 26; have hY := yields_calls (stop := stop) u hu HP.out HO.out HS.out.2.2.2.2.2.2.1 HS.out.2.2.2.2.2.2.2.2.1 HR1.out HX.out HS.out.1 (by have := HSL.out; omega) (by have := HL2.out; omega) HST.out HS.out.2.2.1 HS.out.2.2.2.2.2.2.2.1; rw [hbs] at hY; refine (CallsIn.inRound l (callsIn_wide.2 hY)).mono ?_; rintro e' w10 ⟨rfl, A8, n8, c8, hRL10, hKb⟩; have HN := Aside0.mk (ri_next HO.out HOE.out HWB.out HS.out.2.1 HS.out.2.2.1 HS.out.2.2.2.1 HL2.out HS.out.2.2.2.2.1 HS.out.2.2.2.2.2.1 HS.out.2.2.2.2.2.2.1 HS.out.2.2.2.2.2.2.2.2.2.1 HGS.out HS.out.2.2.2.2.2.2.2.2.2.2 hRL10 hKb); have HRX := Aside0.mk hRL10; clear hRL10 hKb hY cy b0 b1 b2 b3 b4 b5 b6 b7))
      refine ⟨by rw [hsz5]; exact HN.out.2.1, HN.out.2.2.1, ?_⟩
      try dsimp only
      rw [List.length_append, List.length_singleton]
      exact HN.out.1
    | false =>
      gi_wp2_with (first | (refine ⟨trivial, ?_⟩; gi_at_call 18; refine (CallsIn.inRound l (callsIn_wide.2 HSt)).mono ?_; rintro e' w7 ⟨vs', vo', rfl, hra7, hown7, hB7, hfr7⟩; clear L24 b0 b1 b2 b3 b4 b5 b6 b7 x0 x1 x2 x3 x4 HSt; obtain ⟨A7, n7, c7, rfl⟩ := hra7.form; obtain ⟨Ao, co, rfl⟩ := own_slice hown7; have hbn8 : (w7.alloc (.cells #[.int .i64 s2.sub, .int .i64 s2.main, .int .i64 s2.control, .int .i64 s2.next, .slice A7 n7 c7, .bool s2.stopping, .int .i64 s2.result, .bool s2.waiting] 30)).heap[w.heap.size + 1]? = some (.cells (svcC st Ar nr cr) 30 (0, 0)) := blk_below (blk_below HBN.out hB7) ((Below.refl _ _).alloc (Nat.le_refl _) _); obtain ⟨b0, b1, b2, b3, b4, b5, b6, b7⟩ := svc_reads hbn8; have fb : ∀ k, (w7.alloc (.cells #[.int .i64 s2.sub, .int .i64 s2.main, .int .i64 s2.control, .int .i64 s2.next, .slice A7 n7 c7, .bool s2.stopping, .int .i64 s2.result, .bool s2.waiting] 30)).frozen? ⟨w.heap.size + 1, k, none⟩ = false := fun k => blk_frozen hbn8 k; have hy8 : (w7.alloc (.cells #[.int .i64 s2.sub, .int .i64 s2.main, .int .i64 s2.control, .int .i64 s2.next, .slice A7 n7 c7, .bool s2.stopping, .int .i64 s2.result, .bool s2.waiting] 30)).heap[w7.heap.size]? = some (.cells (svcC s2 A7 n7 c7) 30 (0, 0)) := blk_new _ _; obtain ⟨y0, y1, y2, y3, y4, y5, y6, y7⟩ := svc_reads hy8; have HRA7 := Aside0.mk hra7; have HOW7 := Aside0.mk hown7; have HB7 := Aside0.mk hB7; have HFR7 := Aside0.mk hfr7; clear hra7 hown7 hB7 hfr7 hbn8 hy8) | ((with_reducible refine wplIn_letter (N := 22) rfl (fun w9 hw9 => ?_)); clear T22; (try clear b0); (try clear b1); (try clear b2); (try clear b3); (try clear b4); (try clear b5); (try clear b6); (try clear b7); (try clear fb); (try clear y0); (try clear y1); (try clear y2); (try clear y3); (try clear y4); (try clear y5); (try clear y6); (try clear y7); have HS := Aside0.mk (ri_set (w9 := w9) HO.out HOE.out HWB.out HRL.out HBN.out HAP.out HI.out.by_ HI.out.bru HI.out.bel HGS.out HI.out.kx HB7.out HRA7.out HOW7.out HFR7.out (by rw [hw9]; rfl)); clear hw9; have cy : w9.cell? ⟨w.heap.size, 0, none⟩ = some (.func (.func 26) #[] #[.pointer (some ⟨gat, 0, none⟩), .pointer (some ⟨gl, 0, none⟩), .pointer (some ⟨gok, 0, none⟩), .pointer (some ⟨gu, 0, none⟩), .pointer (some ⟨gnow, 0, none⟩), .pointer (some ⟨gst, 0, none⟩)]) := (blk_cell HS.out.2.2.2.2.1 0).trans rfl; obtain ⟨b0, b1, b2, b3, b4, b5, b6, b7⟩ := svc_reads HS.out.2.1) | (refine ⟨trivial, ?_⟩; gi_at_call 26; have hY := yields_calls (stop := stop) u hu HP.out HO.out HS.out.2.2.2.2.2.2.1 HS.out.2.2.2.2.2.2.2.2.1 HR1.out HX.out HS.out.1 (by have := HSL.out; omega) (by have := HL2.out; omega) HST.out HS.out.2.2.1 HS.out.2.2.2.2.2.2.2.1; rw [hbs] at hY; refine (CallsIn.inRound l (callsIn_wide.2 hY)).mono ?_; rintro e' w10 ⟨rfl, A8, n8, c8, hRL10, hKb⟩; have HN := Aside0.mk (ri_next HO.out HOE.out HWB.out HS.out.2.1 HS.out.2.2.1 HS.out.2.2.2.1 HL2.out HS.out.2.2.2.2.1 HS.out.2.2.2.2.2.1 HS.out.2.2.2.2.2.2.1 HS.out.2.2.2.2.2.2.2.2.2.1 HGS.out HS.out.2.2.2.2.2.2.2.2.2.2 hRL10 hKb); have HRX := Aside0.mk hRL10; clear hRL10 hKb hY cy b0 b1 b2 b3 b4 b5 b6 b7))
      refine ⟨by rw [hsz5]; exact HN.out.2.1, rfl, ?_⟩
      try dsimp only
      rw [List.length_append, List.length_singleton]
      exact ⟨⟨s2, A8, n8, c8, HRX.out⟩, bne_eq_false_iff_eq.1 hbs, HN.out.2.2.2, HN.out.1.kx⟩
  case done =>
    rintro D xs W hD rfl hI hK
    have hd : W0.heap.size ≤ D := by have := hB0.size; omega
    obtain ⟨st, Ar, nr, cr, Al, nl, cl, hRL, _⟩ := hI.ex
    have hRL2 := hRL.own (grownBy_putObj' W D (.deferred none)) (fun r e => by cases e; exact ⟨_, hK, rfl⟩)
    have hbl := hI.bel.grown (grownBy_putObj' W D (.deferred none)) hI.bel.size (fun k e => by cases e; exact hd)
    gi_wp2
    refine ⟨by simp, .inl ⟨_, _, rfl, run_takeDeferred hK, ?_⟩⟩
    exact ⟨_, results_none rfl _ _ _, rfl, _, _, _, _, _, _, hRL2, .inl rfl, hbl, cells_own hI.kx (grownBy_putObj' W D (.deferred none)) (fun r e => by cases e; exact ⟨_, hK, rfl⟩)⟩
  case stop =>
    rintro D pre W hD hp hX hK
    have hd : W0.heap.size ≤ D := by have := hB0.size; omega
    obtain ⟨st, Al, nl, cl, hRL⟩ := hX.ex
    have hRL2 := hRL.own (grownBy_putObj' W D (.deferred none)) (fun r e => by cases e; exact ⟨_, hK, rfl⟩)
    have hbl := hX.bel.grown (grownBy_putObj' W D (.deferred none)) hX.bel.size (fun k e => by cases e; exact hd)
    gi_wp2
    refine ⟨by simp, .inl ⟨_, _, rfl, run_takeDeferred hK, ?_⟩⟩
    exact ⟨_, results_none rfl _ _ _, rfl, _, _, _, _, _, _, hRL2, .inr hX.st, hbl, cells_own hX.kx (grownBy_putObj' W D (.deferred none)) (fun r e => by cases e; exact ⟨_, hK, rfl⟩)⟩
end Go.Proofs.Ytnoddedgkgkfhaa.Svc
