/- What is taken by a contract of its own. -/
import Derived.Test.YtfpfdeechhaheaaDoorProg
import Derived.Below
import Derived.Laws.Runes
import Derived.Test.YtfpfdeechhaheaaDoorReadsK
import Derived.Test.YtfpfdeechhaheaaDoorShelf
import Derived.WalkSmall
import Derived.Lib.AtoiErrMem
import Derived.Deep.Draws
import Derived.Deep.AppendLies
import Derived.Maps.AppendAt
import Derived.OwnWalk
import Derived.Laws.BytesArg
import Derived.Laws.MakeOwn
import Derived.Laws.OwnMore
import Derived.Deep.OwnRows
import Derived.Tactics
import Derived.Lib.ConvBytes
import Derived.Laws.Slices
import Derived.WalkKit
import Derived.KernelRfl
import Derived.RowKit3
import Derived.Deep.LoopGhost
import Derived.Deep.QuietTactic
import Derived.BigQuiet
import Derived.WideLaws
import Derived.Deep.DeepCutAuto
import Derived.Deep.CutBlock
import Derived.Deep.RegionHeld3
import Derived.Laws.Rows
import Derived.Lib.AppendStr
import Derived.ArgAppend
import Derived.Laws.IdiomCopy
import Derived.OrdersHeld
import Derived.Laws.BitsLemmas
import Derived.RowKit
import Derived.Test.YtfpfdeechhaheaaDoorWWords
import Derived.Test.YtfpfdeechhaheaaDoorWLast
import Derived.Test.YtfpfdeechhaheaaDoorWTab
import Derived.Test.YtfpfdeechhaheaaDoorWRepsOne
namespace Go.Proofs.YtfpfdeechhaheaaDoor.Reads
open Go.RowKit Go.Proofs.YtfpfdeechhaheaaDoorW.PrintWords Go.Proofs.YtfpfdeechhaheaaDoorW.PrintLast
set_option linter.unusedVariables false
set_option linter.unusedSimpArgs false
theorem drewN_self (w : World) (n : Nat) : w.drewN n = w.drewN n := rfl
theorem gate_callee {P : Program} {ops : Array Oper} {Q : Exit → Act → World → Prop} {o : Oper} {rest : List Oper} {a : Act} {W : World} {f : FuncId} {as1 : Array Operand} {ts : Array TypeId} (_ho : o.op = .call { callee := .value (.func f), args := as1, argTypes := ts }) (h : wpList P ops Q (o :: rest) a W) : wpList P ops Q (o :: rest) a W := h
theorem gate_builtin {P : Program} {ops : Array Oper} {Q : Exit → Act → World → Prop} {o : Oper} {rest : List Oper} {a : Act} {W : World} {b : Builtin} {xs : Array Operand} {ts : Array TypeId} (_ho : o.op = .call { callee := .builtin b, args := xs, argTypes := ts }) (h : wpList P ops Q (o :: rest) a W) : wpList P ops Q (o :: rest) a W := h

def errW : Option Int → Value
  | none => .nilIface
  | some c => .iface 98 (.int .i64 c)
theorem errW_none : errW none = .nilIface := rfl
theorem errW_some (c : Int) : errW (some c) = .iface 98 (.int .i64 c) := rfl
theorem info5 : (Tryd.prog.info? 5).map (fun i => (i.zero, i.size, i.bytes)) = some (some (.int .u8 0), 1, 1) := by kernel_rfl
theorem info57 : (Tryd.prog.info? 57).map (fun i => (i.zero, i.size, i.bytes)) = some (some (.agg #[(.string ⟨#[]⟩), (.int .u64 0)]), 2, 24) := by kernel_rfl
-- the values' own types
/-! #### struct type 57 -/
structure S57 where
  f0 : ByteArray
  f1 : Int
def z57 : S57 := ⟨(⟨#[]⟩ : ByteArray), (0 : Int)⟩
def k57 : Kd S57 := Kd.iso (Kd.pair Kd.string (Kd.int .u64)) (fun x : S57 => (x.f0, x.f1))
theorem k57_open {w : World} {x : S57} {cs : List Value} (h : k57.K w x cs) : cs = [.string x.f0, .int .u64 x.f1] := by
  obtain ⟨_, _, rfl, rfl, rfl⟩ := h
  exact rfl
theorem k57_openM {w : World} {base : Nat} {ok : Nat → Prop} {x : S57} {cs : List Value} (h : k57.M w base ok x cs) : cs = [.string x.f0, .int .u64 x.f1] := by
  obtain ⟨_, _, rfl, rfl, rfl⟩ := h
  exact rfl
theorem k57_mk (w : World) (x : S57)  : k57.K w x [.string x.f0, .int .u64 x.f1] := ⟨[.string x.f0], [.int .u64 x.f1], rfl, rfl, rfl⟩
theorem k57_mkM (w : World) (base : Nat) (ok : Nat → Prop) (x : S57)  : k57.M w base ok x [.string x.f0, .int .u64 x.f1] := ⟨[.string x.f0], [.int .u64 x.f1], rfl, rfl, rfl⟩
def rd_T57 (xs : List S57) (i : Int) : S57 := xs.getD i.toNat z57
theorem at_T57 {w : World} {A : Option Addr} {n : Nat} {xs : List S57} (h : Kd.C k57 w A n xs) (i : Int) (h0 : 0 ≤ i) (h1 : i < n) : ∃ ad , A = some ad ∧ w.cell? (ad.add (i.toNat * 2)) = some (.string (rd_T57 xs i).f0) ∧ w.cell? ⟨(ad.add (i.toNat * 2)).block, (ad.add (i.toNat * 2)).off + 1, none⟩ = some (.int .u64 (rd_T57 xs i).f1) := by
  obtain ⟨ad, c, e, _, hK, hc0⟩ := Kd.C_get h z57 i h0 h1
  have hc : ∀ j u, c[j]? = some u → w.cell? (ad.add (i.toNat * 2 + j)) = some u := hc0
  obtain rfl := k57_open hK
  exact ⟨ad, e, hc 0 _ rfl, by rw [← add_field _ _ 1 (by omega)]; exact hc 1 _ rfl⟩
def GW (w : World) : Prop := ∃ W0 : World, W0.ShapedOpen Tryd.prog ∧ Below W0.heap.size W0 w
theorem GW.below {w W : World} (h : GW w) (hb : Below w.heap.size w W) : GW W := by
  obtain ⟨W0, h1, h2⟩ := h
  exact ⟨W0, h1, h2.trans (hb.mono h2.size)⟩
def strings_TrimLeft.f (a0 a1 : ByteArray) : Option ByteArray := if a1 = ⟨#[32]⟩ then some ⟨(a0.data.toList.dropWhile (· == 32)).toArray⟩ else none
theorem strings_TrimLeft.calls (a0 : ByteArray) (a1 : ByteArray) (r : ByteArray) (w : World) (h : strings_TrimLeft.f a0 a1 = some r) :
    Calls Tryd.prog 17 #[.string a0, .string a1] w fun e w' => e = .returned (.string r) ∧ Below w.heap.size w w' := by
  unfold strings_TrimLeft.f at h
  split at h
  · rename_i h1
    subst h1
    injection h with h
    subst h
    exact (Tryd.strings_TrimLeft_one a0 32 (by decide) w).mono fun e w' ⟨h1, h2⟩ => ⟨h1, by rw [h2]; exact Below.refl _ _⟩
  · exact nomatch h
def digits (l : List UInt8) : Bool := l.all fun c => decide (48 ≤ c.toNat ∧ c.toNat ≤ 57)
def numOf (n : Nat) (l : List UInt8) : Nat := l.foldl (fun n c => n * 10 + (c.toNat - 48)) n
theorem parse_ok : ∀ (l : List UInt8) (acc : Nat), digits l = true → (acc + 1) * 10 ^ l.length ≤ 1000000000000000000 → Lib.parseUint10 acc l = .ok (numOf acc l) := by
  intro l
  induction l with
  | nil => intro acc _ _; rfl
  | cons c l ih =>
    intro acc hd hb
    have hd' : (48 ≤ c.toNat ∧ c.toNat ≤ 57) ∧ digits l = true := by
      unfold digits at hd ⊢
      simpa using hd
    have hp : 1 ≤ 10 ^ l.length := Nat.pow_pos (by decide)
    have hb2 : (acc * 10 + (c.toNat - 48) + 1) * 10 ^ l.length ≤ 1000000000000000000 := by
      have e : (acc + 1) * 10 ^ (c :: l).length = ((acc + 1) * 10) * 10 ^ l.length := by rw [List.length_cons, Nat.pow_succ, Nat.mul_assoc, Nat.mul_comm 10]
      have h1 : (acc * 10 + (c.toNat - 48) + 1) * 10 ^ l.length ≤ ((acc + 1) * 10) * 10 ^ l.length := Nat.mul_le_mul_right _ (by omega)
      omega
    have hs : acc * 10 + (c.toNat - 48) + 1 ≤ 1000000000000000000 := Nat.le_trans (Nat.le_mul_of_pos_right _ hp) hb2
    rw [Lib.parseUint10, if_pos hd'.1, if_neg (by omega), if_neg (by omega), ih _ hd'.2 hb2]
    rfl
def strconv_ParseUint_31.f (a0 : ByteArray) (a1 : Int) (a2 : Int) : Option (Int × Option Int) := if a1 = 10 ∧ a2 = 64 ∧ 1 ≤ a0.size ∧ a0.size ≤ 18 ∧ digits a0.data.toList = true then some ((numOf 0 a0.data.toList : Nat), none) else none
set_option maxHeartbeats 1000000 in
theorem strconv_ParseUint_31.calls (a0 : ByteArray) (a1 : Int) (a2 : Int) (r1 : Int) (r2 : Option Int) (w : World) (h : strconv_ParseUint_31.f a0 a1 a2 = some (r1, r2)) :
    Calls Tryd.prog 31 #[.string a0, .int .i64 a1, .int .i64 a2] w fun e w' => e = .returned (.tuple #[.int .u64 r1, errW r2]) ∧ Below w.heap.size w w' := by
  unfold strconv_ParseUint_31.f at h
  split at h
  · rename_i h1
    obtain ⟨rfl, rfl, h2, h3, h4⟩ := h1
    injection h with h
    injection h with h5 h6
    subst h5; subst h6
    have hlen : a0.data.toList.length = a0.size := by rw [Array.length_toList]; rfl
    have hp := parse_ok a0.data.toList 0 h4 (by
      rw [hlen, Nat.zero_add, Nat.one_mul]
      exact Nat.pow_le_pow_right (by decide) h3)
    have hI := Tryd.internal_strconv_ParseUint_10_b64 a0 (by omega) (by omega) w
    rw [hp] at hI
    obtain ⟨u, hu⟩ : ∃ u, numOf 0 a0.data.toList = u := ⟨_, rfl⟩
    rw [hu] at hI ⊢
    have hI : Calls Tryd.prog 42 #[.string a0, .int .i64 10, .int .i64 64] w fun e w' => e = .returned (.tuple #[.int .u64 u, .nilIface]) ∧ w' = Lib.bytesWorld w 5 a0 := hI
    clear hp h2 h3 h4 hlen hu
    go_enter Tryd.func31, Tryd.ntmps31
    go_wp2_with (go_at_call 42; refine hI.mono ?_; rintro e W1 ⟨rfl, hW⟩)
    go_wp2
    go_ret2
    refine ⟨rfl, ?_⟩
    exact Lib.bytesWorld_below w 5 a0
  · exact nomatch h
def unitNames : List (List UInt8 × Int) := [([115, 101, 99], 1), ([109, 105, 110], 60), ([104, 114], 3600), ([115], 1), ([109], 60), ([104], 3600), ([100], 86400), ([119], 604800)]
def unitOf (l : List (List UInt8 × Int)) (a0 : ByteArray) : Int × Int := match l.find? fun x => x.1.isPrefixOf a0.data.toList with | some x => (x.2, (x.1.length : Int)) | none => (1, 0)
def nameAt (i : Nat) : List UInt8 := (unitNames.getD i ([], 0)).1
def secAt (i : Nat) : Int := (unitNames.getD i ([], 0)).2
theorem pfx (nm : List UInt8) (a0 : ByteArray) : nm.isPrefixOf a0.data.toList = true ↔ nm.length ≤ a0.size ∧ ((a0.extract 0 nm.length).toList == nm) = true := by
  have e : (a0.extract 0 nm.length).toList = a0.data.toList.take nm.length := by
    rw [Lib.toList_data, ByteArray.data_extract, Array.toList_extract]; simp
  have hz : a0.data.toList.length = a0.size := by rw [Array.length_toList]; rfl
  rw [e, beq_iff_eq, List.isPrefixOf_iff_prefix, List.prefix_iff_eq_take]
  constructor
  · intro h
    refine ⟨?_, h.symm⟩
    have := congrArg List.length h
    rw [List.length_take] at this
    omega
  · intro h; exact h.2.symm
theorem unit_step {i : Nat} (hi : i < 8) (a0 : ByteArray) : unitOf (unitNames.drop i) a0 = if (nameAt i).length ≤ a0.size ∧ ((a0.extract 0 (nameAt i).length).toList == nameAt i) = true then (secAt i, ((nameAt i).length : Int)) else unitOf (unitNames.drop (i + 1)) a0 := by
  have hd : unitNames.drop i = (nameAt i, secAt i) :: unitNames.drop (i + 1) := by
    rcases (by omega : i = 0 ∨ i = 1 ∨ i = 2 ∨ i = 3 ∨ i = 4 ∨ i = 5 ∨ i = 6 ∨ i = 7) with rfl | rfl | rfl | rfl | rfl | rfl | rfl | rfl <;> rfl
  rw [hd]
  unfold unitOf
  rw [List.find?_cons]
  by_cases h : (nameAt i).isPrefixOf a0.data.toList = true
  · rw [if_pos ((pfx _ _).1 h)]; simp only [h]
  · rw [if_neg (fun h2 => h ((pfx _ _).2 h2))]
    have h' : (nameAt i).isPrefixOf a0.data.toList = false := Bool.eq_false_iff.mpr h
    simp only [h']
def namesO : Obj := .cells #[.string ⟨#[115, 101, 99]⟩, .string ⟨#[109, 105, 110]⟩, .string ⟨#[104, 114]⟩, .string ⟨#[115]⟩, .string ⟨#[109]⟩, .string ⟨#[104]⟩, .string ⟨#[100]⟩, .string ⟨#[119]⟩] 34
def secsO : Obj := .cells #[.int .i64 1, .int .i64 60, .int .i64 3600, .int .i64 1, .int .i64 60, .int .i64 3600, .int .i64 86400, .int .i64 604800] 35
theorem below_two (w : World) : Below w.heap.size w ((w.alloc namesO).alloc secsO) := ((Below.refl _ _).alloc (Nat.le_refl _) _).alloc (by simp) _
theorem names_at (w : World) (i : Nat) (hi : i < 8) : ((w.alloc namesO).alloc secsO).cell? ⟨w.heap.size, i, none⟩ = some (.string ⟨(nameAt i).toArray⟩) := by
  have e : ((w.alloc namesO).alloc secsO).heap[w.heap.size]? = some namesO := by
    show ((w.heap.push namesO).push secsO)[w.heap.size]? = _
    rw [Array.getElem?_push]
    simp
  unfold World.cell?
  rw [e]
  rcases (by omega : i = 0 ∨ i = 1 ∨ i = 2 ∨ i = 3 ∨ i = 4 ∨ i = 5 ∨ i = 6 ∨ i = 7) with rfl | rfl | rfl | rfl | rfl | rfl | rfl | rfl <;> rfl
theorem secs_at (w : World) (i : Nat) (hi : i < 8) : ((w.alloc namesO).alloc secsO).cell? ⟨w.heap.size + 1, i, none⟩ = some (.int .i64 (secAt i)) := by
  have e : ((w.alloc namesO).alloc secsO).heap[w.heap.size + 1]? = some secsO := by
    show ((w.heap.push namesO).push secsO)[w.heap.size + 1]? = _
    rw [Array.getElem?_push]
    simp
  unfold World.cell?
  rw [e]
  rcases (by omega : i = 0 ∨ i = 1 ∨ i = 2 ∨ i = 3 ∨ i = 4 ∨ i = 5 ∨ i = 6 ∨ i = 7) with rfl | rfl | rfl | rfl | rfl | rfl | rfl | rfl <;> rfl
def reveilleref1_unit.f (a0 : ByteArray) : Option (Int × Int) := some (unitOf unitNames a0)
set_option maxHeartbeats 4000000 in
set_option maxRecDepth 100000 in
theorem reveilleref1_unit.calls (a0 : ByteArray) (r1 : Int) (r2 : Int) (w : World) (h : reveilleref1_unit.f a0 = some (r1, r2)) :
    Calls Tryd.prog 22 #[.string a0] w fun e w' => e = .returned (.tuple #[.int .i64 r1, .int .i64 r2]) ∧ Below w.heap.size w w' := by
  have h : unitOf unitNames a0 = (r1, r2) := Option.some.inj h
  have H0 := Aside0.mk h
  clear h
  go_enter Tryd.func22, Tryd.ntmps22
  go_wp2
  obtain ⟨W, hW⟩ : ∃ W, ((w.alloc namesO).alloc secsO) = W := ⟨_, rfl⟩
  have hbel := Aside0.mk (hW ▸ below_two w : Below w.heap.size w W)
  have hc1 := Aside0.mk (hW ▸ names_at w : ∀ i, i < 8 → W.cell? ⟨w.heap.size, i, none⟩ = some (.string ⟨(nameAt i).toArray⟩))
  have hc2 := Aside0.mk (hW ▸ secs_at w : ∀ i, i < 8 → W.cell? ⟨w.heap.size + 1, i, none⟩ = some (.int .i64 (secAt i)))
  go_loopg [6, 7] 8 (fun g v6 v7 wx => ∃ i : Nat, i + g = 8 ∧ v6 = .int .i64 i ∧ wx = W ∧ Aside0 (unitOf (unitNames.drop i) a0 = (r1, r2)))
  case atStart => exact ⟨0, rfl, rfl, hW, H0⟩
  case round =>
    obtain ⟨i, hig, rfl, rfl, HU⟩ := hrel
    cases gk with
    | zero =>
      obtain rfl : i = 8 := by omega
      have e : ((1 : Int), (0 : Int)) = (r1, r2) := HU.out
      injection e with e1 e2
      subst e1; subst e2
      go_wp2
      go_ret2
      exact ⟨rfl, hbel.out⟩
    | succ g =>
      have hi8 : (i : Int) < 8 := by omega
      have hi0 : (0 : Int) ≤ (i : Int) := by omega
      have f1 := hc1.out i (by omega)
      have f2 := hc2.out i (by omega)
      obtain ⟨nm, hnm⟩ : ∃ nm, nameAt i = nm := ⟨_, rfl⟩
      obtain ⟨sc, hsc⟩ : ∃ sc, secAt i = sc := ⟨_, rfl⟩
      rw [hnm] at f1
      rw [hsc] at f2
      have HD := Aside0.mk (unit_step (by omega : i < 8) a0)
      rw [hnm, hsc] at HD
      have hw1 : IntKind.i64.wrap ((i : Int) + 1) = ((i + 1 : Nat) : Int) := by rw [wrap_small _ (by omega) (by omega)]; omega
      by_cases hl : nm.length ≤ a0.size
      · by_cases he : ((a0.extract 0 nm.length).toList == nm) = true
        · have hr := HU.out
          rw [HD.out, if_pos ⟨hl, he⟩] at hr
          injection hr with e1 e2
          subst e1; subst e2
          go_wp2
          go_ret2
          exact ⟨rfl, hbel.out⟩
        · have hr := HU.out
          rw [HD.out, if_neg (fun h => he h.2)] at hr
          replace he : ((a0.extract 0 nm.length).toList == nm) = false := by simpa using he
          have HU2 := Aside0.mk hr
          clear hr
          go_wp2
          go_roundg g
          case measure => omega
          case rel => exact ⟨i + 1, by omega, rfl, rfl, HU2⟩
      · have hr := HU.out
        rw [HD.out, if_neg (fun h => hl h.1)] at hr
        have HU2 := Aside0.mk hr
        clear hr
        go_wp2
        go_roundg g
        case measure => omega
        case rel => exact ⟨i + 1, by omega, rfl, rfl, HU2⟩
def reveillelaw1_known.f : Option Bool := some true
theorem shapedSize {W : World} (h : W.ShapedOpen Tryd.prog) : Tryd.prog.globals.size ≤ W.heap.size := by
  obtain ⟨o, _, ho, _⟩ := h.2 Tryd.prog.globals.size (Nat.le_refl _) (by simp [begin])
  exact Nat.le_of_lt (Array.getElem?_eq_some_iff.1 ho).1
theorem reveillelaw1_known.calls (r : Bool) (w : World) (h : reveillelaw1_known.f = some r) (hG : GW w) :
    Calls Tryd.prog 8 #[] w fun e w' => e = .returned (.bool r) ∧ Below w.heap.size w w' := by
  injection h with h
  subst h
  obtain ⟨W0, hsh, hb⟩ := hG
  exact known_calls w (Nat.le_trans (shapedSize hsh) hb.size) Tryd.checked.mixed
end Go.Proofs.YtfpfdeechhaheaaDoor.Reads
