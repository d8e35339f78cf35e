/- The walk of bytes.Repeat at one byte, told 128, 256 or 300 times. Calls (Op) of the laws on disks; the walks of few, does and alive. The walk of alive of the laws on disks. The walk of the law DiskFuse. The walk of the law DiskKeeps. The walk of the law DiskPicks. The walk of the law DiskPicks. Slices of truths, and of calls on a disk, among the arguments, opened. -/
import Derived.Test.YthhalmjapiempaaZ1
import Derived.Laws.CopyOwn
import Derived.Deep.DeepCutAuto
import Derived.Laws.Externs
import Derived.Lib.MakeNoZero
import Derived.Test.YthhalmjapiempaaZG
import Derived.Test.YthhalmjapiempaaZD
import Derived.Lib.SmallJoins
set_option linter.unusedVariables false
set_option linter.unusedSimpArgs false
namespace Go.Proofs.Ythhalmjapiempaa
open Go.RowKit

set_option maxHeartbeats 1000000 in
theorem mul64_256 (w : World) : Calls Try.prog 88 #[.int .u64 1, .int .u64 256] w fun e w' => e = .returned (.tuple #[.int .u64 0, .int .u64 256]) ∧ w = w' := by
  go_enter Try.func88, Try.ntmps88
  go_wp2
  go_ret2
  exact ⟨rfl, rfl⟩
set_option maxHeartbeats 1000000 in
theorem mul_256 (w : World) : Calls Try.prog 62 #[.int .u64 1, .int .u64 256] w fun e w' => e = .returned (.tuple #[.int .u64 0, .int .u64 256]) ∧ w = w' := by
  go_enter Try.func62, Try.ntmps62
  go_wp2_with (go_at_call 88; refine (mul64_256 _).mono ?_; rintro e w1 ⟨rfl, rfl⟩)
  go_ret2
  exact ⟨rfl, rfl⟩
/-- A row whose first j bytes are all the same. -/
structure Same (w : World) (g K j : Nat) (v : UInt8) : Prop where
  row : ∃ cur : Array Value, w.heap[g]? = some (.cells cur 5 (0, 0)) ∧ K ≤ cur.size ∧ ∀ i, i < j → cur[i]? = some (.int .u8 (v.toNat : Int))
theorem same_copy {w : World} {g K j : Nat} {v : UInt8} {cur : Array Value} (hh : w.heap[g]? = some (.cells cur 5 (0, 0))) (hK : K ≤ cur.size) (hc : ∀ i, i < j → cur[i]? = some (.int .u8 (v.toNat : Int))) (m : Nat) (hm : j + m ≤ K) :
    Same (w.setRow g (cur.toList.take j ++ (List.replicate m (Value.int .u8 (v.toNat : Int)) ++ cur.toList.drop (j + (List.replicate m (Value.int .u8 (v.toNat : Int))).length))).toArray) g K (j + m) v := by
  refine ⟨_, setRow_heap _ _ _ _ _ _ hh, ?_, fun i hi => ?_⟩
  · simp
    omega
  · have l1 : (cur.toList.take j).length = j := by simp; omega
    rw [List.getElem?_toArray]
    rcases Nat.lt_or_ge i j with q | q
    · rw [List.getElem?_append_left (by omega), List.getElem?_take_of_lt q]
      have := hc i q
      rwa [← Array.getElem?_toList] at this
    · rw [List.getElem?_append_right (by omega), l1, List.getElem?_append_left (by simp; omega), List.getElem?_replicate_of_lt (by omega)]
set_option maxHeartbeats 4000000 in
set_option maxRecDepth 100000 in
theorem repeat_one (K : Nat) (A : Option Addr) (c : Nat) (v : UInt8) (w : World) (hb : Bs w A 1 c [v]) (h1 : 1 ≤ K) (h2 : K ≤ 8192)
    (hmul : ∀ w, Calls Try.prog 62 #[.int .u64 1, .int .u64 (K : Int)] w fun e w' => e = .returned (.tuple #[.int .u64 0, .int .u64 (K : Int)]) ∧ w = w') :
    Calls Try.prog 40 #[.slice A 1 c, .int .i64 (K : Int)] w fun e' w' => ∃ g, e' = .returned (.slice (some ⟨g, 0, none⟩) K K) ∧ w.heap.size ≤ g ∧ g < w'.heap.size ∧ Bs w' (some ⟨g, 0, none⟩) K K (List.replicate K v) ∧ Below w.heap.size w w' := by
  obtain ⟨ad, rfl, hx⟩ := hb.cells (by omega)
  have f0 : ((K : Int) == 0) = false := beq_eq_false_iff_ne.2 (by omega)
  have f1 : decide ((K : Int) < 0) = false := decide_eq_false (by omega)
  have f2 : decide ((8192 : Int) < (K : Int)) = false := decide_eq_false (by omega)
  have f2' : decide (8192 < K) = false := decide_eq_false (by omega)
  have f3 : decide ((9223372036854775807 : Int) < (K : Int)) = false := decide_eq_false (by omega)
  have f3' : decide (9223372036854775807 < K) = false := decide_eq_false (by omega)
  have i1 : IntKind.u64.wrap (K : Int) = (K : Int) := by
    simp [IntKind.wrap, IntKind.bits, IntKind.signed]
    omega
  have i2 : IntKind.i64.wrap (K : Int) = (K : Int) := IntWalk.i64_in _ (by omega)
  obtain ⟨cs, hrunM, hle, hmax⟩ := Lib.run_makeNoZero (P := Try.prog) w #[3] 22 5 Try.underlying22 K (by omega)
  have hcall : (callFunc 63 #[.int .i64 (K : Int)]).run Try.prog w = .ok (.value (.slice (some ⟨w.heap.size, 0, none⟩) K cs.size)) ((w.alloc (.cells cs 5)).drewN 2) := by
    rw [run_callFunc_extern Try.func63 (by kernel_rfl) (by kernel_rfl) (by kernel_rfl) (e := Extern.BytealgMakeNoZero.makeNoZero #[3] #[22]) (by kernel_rfl), hrunM]
    rfl
  have hz1 : (0 : Int) ≤ (K : Int) := by omega
  have hz2 : (K : Int) ≤ (cs.size : Int) := by omega
  obtain ⟨W0, hW0⟩ : ∃ X, (w.alloc (.cells cs 5)).drewN 2 = X := ⟨_, rfl⟩
  have hbel : Below w.heap.size w W0 := by rw [← hW0]; exact below_drawn ((Below.refl _ w).alloc (Nat.le_refl _) _) 2
  have hrow : W0.heap[w.heap.size]? = some (.cells cs 5 (0, 0)) := by rw [← hW0]; exact heap_alloc_new w _
  rw [hW0] at hcall
  have HX := Aside0.mk (show W0.cell? ad = some (.int .u8 (v.toNat : Int)) from by
    have := cell_below hbel (hx 0 (by omega))
    simpa [b8, Addr.add] using this)
  have HR := Aside0.mk hrow
  have HB := Aside0.mk hbel
  have HL := Aside0.mk hle
  have HM := Aside0.mk (fun w => hmul w)
  clear hrunM hx hb hrow hbel hmul hW0 hle hmax
  have C1 := Aside0.mk (show (List.replicate 1 (Value.int .u8 (v.toNat : Int))).length = Nat.min 1 K from (Nat.min_eq_left h1).symm)
  have C2 := Aside0.mk (show ∀ (j : Nat) (u : Value), (List.replicate 1 (Value.int .u8 (v.toNat : Int)))[j]? = some u → W0.cell? (ad.add j) = some u from fun j u hu => by
    cases j with
    | zero => (injection hu with hu; rw [← hu]; simpa [Addr.add] using HX.out)
    | succ j => simp at hu)
  have C3 := Aside0.mk (show 0 + (List.replicate 1 (Value.int .u8 (v.toNat : Int))).length ≤ cs.size by rw [List.length_replicate]; have := HL.out; omega)
  have C4 := Aside0.mk (show ∀ u ∈ List.replicate 1 (Value.int .u8 (v.toNat : Int)), u.oneCell' = true from fun u hu => by rw [List.eq_of_mem_replicate hu]; rfl)
  have C5 := Aside0.mk (show (Try.prog.info? 5).map (·.size) = some 1 by kernel_rfl)
  have C6 := Aside0.mk (same_copy (j := 0) (v := v) HR.out HL.out (fun i hi => absurd hi (by omega)) 1 (by omega))
  go_enter Try.func40, Try.ntmps40
  go_wp2_with (first
    | (go_at_call 62; refine (HM.out _).mono ?_; rintro e w1 ⟨rfl, rfl⟩)
    | (with_reducible refine wpList_copy_own rfl _ _ _ _ rfl 5 Try.underlying22 C5.out w.heap.size 0 K K ad 1 c rfl rfl cs 5 HR.out (List.replicate 1 (Value.int .u8 (v.toNat : Int))) C1.out C2.out C3.out C4.out ?_))
  have HS0 := Aside0.mk (And.intro C6.out (below_setRow HB.out (Nat.le_refl _) (cs.toList.take 0 ++ (List.replicate 1 (Value.int .u8 (v.toNat : Int)) ++ cs.toList.drop (0 + (List.replicate 1 (Value.int .u8 (v.toNat : Int))).length))).toArray))
  clear C1 C2 C3 C4 C6 hcall
  go_loopg [10] (K - 1) (fun gk v10 wr => ∃ j : Nat, Aside (gk + j = K) ∧ v10 = .int .i64 (j : Int) ∧ 1 ≤ j ∧ Aside0 (Same wr w.heap.size K j v ∧ Below w.heap.size w wr))
  case atStart => exact ⟨1, (by show K - 1 + 1 = K; omega), rfl, Nat.le_refl _, ⟨by simpa using HS0.out.1, by simpa using HS0.out.2⟩⟩
  case round =>
    obtain ⟨j, hk, rfl, hj1, hI⟩ := hrel
    have hjK : j ≤ K := by have := hk.out; omega
    rcases Nat.lt_or_ge j K with hlt | hge
    · have d1 : decide ((j : Int) < (K : Int)) = true := decide_eq_true (by omega)
      have d1' : decide (j < K) = true := decide_eq_true hlt
      have d2 : decide ((K : Int) < (j : Int)) = false := decide_eq_false (by omega)
      obtain ⟨cur, hcur, hKc, hsame⟩ := hI.out.1.row
      obtain ⟨m, hm⟩ : ∃ m, Nat.min j (K - j) = m := ⟨_, rfl⟩
      have hm1 : 1 ≤ m := by rw [← hm]; exact Nat.le_min.2 ⟨hj1, by omega⟩
      have hm2 : m ≤ j := by rw [← hm]; exact Nat.min_le_left _ _
      have hm3 : j + m ≤ K := by have : m ≤ K - j := by rw [← hm]; exact Nat.min_le_right _ _
                                 omega
      have t1 : ∀ W : World, (Instr.slice 22 (.slice (some ⟨w.heap.size, 0, none⟩) K K) (some (.int .i64 (j : Int))) none none).run Try.prog W = .ok (.slice (some ⟨w.heap.size, j, none⟩) (K - j) (K - j)) W := fun W => by
        rw [sl8_l W _ K K .i64 (j : Int) (by omega) (by omega), show ((j : Int)).toNat = j by omega]
        unfold cutA
        rw [if_neg (by omega), Option.map_some, add_plain]
      have t2 : ∀ W : World, (Instr.slice 22 (.slice (some ⟨w.heap.size, 0, none⟩) K K) none (some (.int .i64 (j : Int))) none).run Try.prog W = .ok (.slice (some ⟨w.heap.size, 0, none⟩) j K) W := fun W => by
        rw [sl8_h W _ K K .i64 (j : Int) (by omega) (by omega), show ((j : Int)).toNat = j by omega]
      have iw : IntKind.i64.wrap ((j : Int) + (m : Int)) = ((j + m : Nat) : Int) := by rw [IntWalk.i64_in _ (by omega)]; omega
      have C1 := Aside0.mk (show (List.replicate m (Value.int .u8 (v.toNat : Int))).length = Nat.min j (K - j) from by rw [List.length_replicate, hm])
      have C2 := Aside0.mk (show ∀ (i : Nat) (u : Value), (List.replicate m (Value.int .u8 (v.toNat : Int)))[i]? = some u → wr.drew.cell? ((⟨w.heap.size, 0, none⟩ : Addr).add i) = some u from fun i u hu => by
        have hi : i < m := by
          have := (List.getElem?_eq_some_iff.1 hu).1
          simpa using this
        rw [List.getElem?_replicate_of_lt hi] at hu
        rw [add_plain]
        have h := hsame i (by omega)
        rw [cell_of_row _ _ _ _ _ _ (show wr.drew.heap[w.heap.size]? = some (.cells cur 5 (0, 0)) from hcur), h, hu])
      have C3 := Aside0.mk (show j + (List.replicate m (Value.int .u8 (v.toNat : Int))).length ≤ cur.size by rw [List.length_replicate]; omega)
      have C4 := Aside0.mk (show ∀ u ∈ List.replicate m (Value.int .u8 (v.toNat : Int)), u.oneCell' = true from fun u hu => by rw [List.eq_of_mem_replicate hu]; rfl)
      have HC := Aside0.mk (show wr.drew.heap[w.heap.size]? = some (.cells cur 5 (0, 0)) from hcur)
      have HN := Aside0.mk (And.intro (same_copy (w := wr.drew) HC.out hKc hsame m hm3) (below_setRow (below_drew hI.out.2) (Nat.le_refl _) (cur.toList.take j ++ (List.replicate m (Value.int .u8 (v.toNat : Int)) ++ cur.toList.drop (j + (List.replicate m (Value.int .u8 (v.toNat : Int))).length))).toArray))
      replace hm := Aside0.mk hm
      clear hsame hcur
      go_upto_region 20 with fail
      refine wp_region_M (fun j => false) (fun _ => True) (by kernel_rfl) ?_
      refine wpAnyM_take0 (i := 0) (v := ?_) (by simp only [List.getElem?_toArray, List.getElem?_cons_succ, List.getElem?_cons_zero]; rfl) (by kernel_rfl) (by kernel_rfl) (by kernel_rfl) (by rfl) (by exact fun _ _ _ h => h) (Or.inl ⟨by rfl, ?_⟩) ?_
      rotate_left
      · (intro w' _; go_simp; try with_reducible rfl)
      try simp only [Act.put, List.setIfInBounds_toArray, List.set_cons_zero, List.set_cons_succ]
      refine wpAnyM_take0 (i := 1) (v := ?_) (by simp only [List.getElem?_toArray, List.getElem?_cons_succ, List.getElem?_cons_zero]; rfl) (by kernel_rfl) (by kernel_rfl) (by kernel_rfl) (by rfl) (by exact fun _ _ _ h => h) (Or.inl ⟨by rfl, ?_⟩) ?_
      rotate_left
      · (intro w' _; go_simp; try with_reducible rfl)
      try simp only [Act.put, List.setIfInBounds_toArray, List.set_cons_zero, List.set_cons_succ]
      refine wpAnyM_take0 (i := 2) (v := ?_) (by simp only [List.getElem?_toArray, List.getElem?_cons_succ, List.getElem?_cons_zero]; rfl) (by kernel_rfl) (by kernel_rfl) (by kernel_rfl) (by rfl) (by exact fun _ _ _ h => h) (Or.inl ⟨by rfl, ?_⟩) ?_
      rotate_left
      · (intro w' _; go_simp; try with_reducible rfl)
      try simp only [Act.put, List.setIfInBounds_toArray, List.set_cons_zero, List.set_cons_succ]
      refine wpAnyM_take0 (i := 3) (v := ?_) (by simp only [List.getElem?_toArray, List.getElem?_cons_succ, List.getElem?_cons_zero]; rfl) (by kernel_rfl) (by kernel_rfl) (by kernel_rfl) (by rfl) (by exact fun _ _ _ h => h) (Or.inl ⟨by rfl, ?_⟩) ?_
      rotate_left
      · (intro w' _; go_simp; try with_reducible rfl)
      try simp only [Act.put, List.setIfInBounds_toArray, List.set_cons_zero, List.set_cons_succ]
      refine wpAnyM_take0 (i := 4) (v := ?_) (by simp only [List.getElem?_toArray, List.getElem?_cons_succ, List.getElem?_cons_zero]; rfl) (by kernel_rfl) (by kernel_rfl) (by kernel_rfl) (by rfl) (by exact fun _ _ _ h => h) (Or.inl ⟨by rfl, ?_⟩) ?_
      rotate_left
      · (intro w' _; go_simp; try with_reducible rfl)
      try simp only [Act.put, List.setIfInBounds_toArray, List.set_cons_zero, List.set_cons_succ]
      refine wpAnyM_take0 (i := 5) (v := ?_) (by simp only [List.getElem?_toArray, List.getElem?_cons_succ, List.getElem?_cons_zero]; rfl) (by kernel_rfl) (by kernel_rfl) (by kernel_rfl) (by rfl) (by exact fun _ _ _ h => h) (Or.inl ⟨by rfl, ?_⟩) ?_
      rotate_left
      · (intro w' _; go_simp; try with_reducible rfl)
      try simp only [Act.put, List.setIfInBounds_toArray, List.set_cons_zero, List.set_cons_succ]
      refine wpAnyM_take0 (i := 6) (v := ?_) (by simp only [List.getElem?_toArray, List.getElem?_cons_succ, List.getElem?_cons_zero]; rfl) (by kernel_rfl) (by kernel_rfl) (by kernel_rfl) (by rfl) (by exact fun _ _ _ h => h) (Or.inl ⟨by rfl, ?_⟩) ?_
      rotate_left
      · (intro w' _; go_simp; try with_reducible rfl)
      try simp only [Act.put, List.setIfInBounds_toArray, List.set_cons_zero, List.set_cons_succ]
      refine wpAnyM_one (i := 7) (by kernel_rfl) (by simp only [List.getElem?_toArray, List.getElem?_cons_succ, List.getElem?_cons_zero]; rfl) ?_
      refine wpList_copy_own (by rfl) (.tmp 70) (.tmp 73) _ _ (by rfl) 5 Try.underlying22 C5.out w.heap.size j (K - j) (K - j) ⟨w.heap.size, 0, none⟩ j K (by rfl) (by rfl) cur 5 HC.out (List.replicate m (Value.int .u8 (v.toNat : Int))) C1.out C2.out C3.out C4.out ?_
      refine wpl_nil ⟨rfl, fun _ => trivial, ?_⟩
      rw [List.length_replicate] at HN ⊢
      try simp only [Act.put, List.setIfInBounds_toArray, List.set_cons_zero, List.set_cons_succ]
      refine wpAnyM_take0 (i := 8) (v := ?_) (by simp only [List.getElem?_toArray, List.getElem?_cons_succ, List.getElem?_cons_zero]; rfl) (by kernel_rfl) (by kernel_rfl) (by kernel_rfl) (by rfl) (by exact fun _ _ _ h => h) (Or.inl ⟨by rfl, ?_⟩) ?_
      rotate_left
      · (intro w' _; go_simp; try with_reducible rfl)
      try simp only [Act.put, List.setIfInBounds_toArray, List.set_cons_zero, List.set_cons_succ]
      refine wpAnyM_take0 (i := 9) (v := ?_) (by simp only [List.getElem?_toArray, List.getElem?_cons_succ, List.getElem?_cons_zero]; rfl) (by kernel_rfl) (by kernel_rfl) (by kernel_rfl) (by rfl) (by exact fun _ _ _ h => h) (Or.inl ⟨by rfl, ?_⟩) ?_
      rotate_left
      · (intro w' _; go_simp; try with_reducible rfl)
      try simp only [Act.put, List.setIfInBounds_toArray, List.set_cons_zero, List.set_cons_succ]
      refine wpAnyM_done (by kernel_rfl) ?_ _
      go_wp2_with fail
      go_roundg (K - (j + m))
      case measure => have := hk.out; omega
      case rel => exact ⟨j + m, (by show K - (j + m) + (j + m) = K; omega), by go_num, by omega, ⟨HN.out.1, HN.out.2⟩⟩
    · obtain rfl : K = j := by omega
      have d1 : decide ((K : Int) < (K : Int)) = false := by simp
      go_wp2_with fail
      go_ret
      obtain ⟨cur, hcur, hKc, hsame⟩ := hI.out.1.row
      refine ⟨_, rfl, Nat.le_refl _, (Array.getElem?_eq_some_iff.1 hcur).1, ⟨by simp, Nat.le_refl _, by omega, by omega, fun _ => ⟨_, rfl, fun i hi => ?_⟩⟩, hI.out.2⟩
      rw [add_plain, cell_of_row _ _ _ _ _ _ hcur, hsame i hi]
      simp [b8, List.getD_eq_getElem?_getD, List.getElem?_replicate_of_lt hi]
end Go.Proofs.Ythhalmjapiempaa

set_option linter.unusedVariables false
set_option linter.unusedSimpArgs false
namespace Go.Proofs.Ythhalmjapiempaa
open Go.RowKit

/-- A call, as a value. -/
structure OpW where
  k : Int
  at_ : Int
  many : Int
  b : List UInt8
  keep : List Bool
def op0 : OpW := ⟨0, 0, 0, [], []⟩
theorem DH.holdx {w0 : World} {g : Nat} {R : List (Nat × Obj)} {d : DV} {W W1 : World} (h : DH w0 g R d W) (hB : Below W.heap.size W W1) (i : Nat) (hi : W.heap.size ≤ i) (hl : i < W1.heap.size) : ∃ o, DH w0 g ((i, o) :: R) d W1 :=
  ⟨_, h.hold hB i _ hi (Array.getElem?_eq_getElem hl)⟩
end Go.Proofs.Ythhalmjapiempaa

set_option linter.unusedVariables false
set_option linter.unusedSimpArgs false
namespace Go.Proofs.Ythhalmjapiempaa
open Go.RowKit

theorem DH.lit {w0 : World} {g : Nat} {R : List (Nat × Obj)} {d : DV} {W : World} (h : DH w0 g R d W) (o : Obj) : DH w0 g ((W.heap.size, o) :: R) d (W.alloc o) := h.hold ((Below.refl _ W).alloc (Nat.le_refl _) o) _ o (Nat.le_refl _) (heap_alloc_new W o)
theorem Bs.blk {w w1 : World} {A : Option Addr} {n c : Nat} {xs : List UInt8} (h : Bs w A n c xs) (hb : ∀ a, A = some a → 0 < n → w1.heap[a.block]? = w.heap[a.block]?) : Bs w1 A n c xs :=
  ⟨h.len, h.le, h.cap, h.lim, fun hn => by
    obtain ⟨ad, e, hc⟩ := h.cells hn
    refine ⟨ad, e, fun j hj => ?_⟩
    rw [← hc j hj]
    exact World.cell?_of_block (by rw [add_block]; exact hb ad e hn)⟩
/-- A slice that a call made is held beside a disk. -/
theorem DH.ow {w0 : World} {g : Nat} {R : List (Nat × Obj)} {d : DV} {W W1 : World} {A : Option Addr} {n c : Nat} {xs : List UInt8} (h : DH w0 g R d W) (hB : Below W.heap.size W W1) (hO : Ow W1 W.heap.size A n c xs) (h0 : 0 < n) :
    ∃ i o, A = some ⟨i, 0, none⟩ ∧ W.heap.size ≤ i ∧ DH w0 g ((i, o) :: R) d W1 ∧ W1.heap[i]? = some o := by
  obtain ⟨i, e, h1, h2, _⟩ := hO.head h0
  obtain ⟨o, ho⟩ := h.holdx hB i h1 h2
  exact ⟨i, o, e, h1, ho, ho.row List.mem_cons_self⟩
end Go.Proofs.Ythhalmjapiempaa

set_option linter.unusedVariables false
set_option linter.unusedSimpArgs false
namespace Go.Proofs.Ythhalmjapiempaa
open Go.RowKit

/-- A slice whose row is held. -/
def InR (R : List (Nat × Obj)) (A : Option Addr) (n : Nat) : Prop := 0 < n → ∃ i o, A = some ⟨i, 0, none⟩ ∧ (i, o) ∈ R
theorem DH.own {w0 : World} {g : Nat} {R : List (Nat × Obj)} {d : DV} {W W1 : World} {A : Option Addr} {n c : Nat} {xs : List UInt8} (h : DH w0 g R d W) (hB : Below W.heap.size W W1) (hO : Ow W1 W.heap.size A n c xs) :
    ∃ R1, DH w0 g R1 d W1 ∧ InR R1 A n ∧ ∀ p ∈ R, p ∈ R1 := by
  rcases Nat.eq_zero_or_pos n with h0 | h0
  · exact ⟨R, h.step hB, fun q => absurd q (by omega), fun p hp => hp⟩
  · obtain ⟨i, o, e, _, hh, _⟩ := h.ow hB hO h0
    exact ⟨_, hh, fun _ => ⟨i, o, e, List.mem_cons_self⟩, fun p hp => List.mem_cons_of_mem _ hp⟩
theorem DH.same {w0 : World} {g g' : Nat} {R : List (Nat × Obj)} {d1 d2 : DV} {W1 W2 : World} {A : Option Addr} {n c : Nat} {xs : List UInt8} (h1 : DH w0 g R d1 W1) (h2 : DH w0 g' R d2 W2) (hi : InR R A n) (hb : Bs W1 A n c xs) : Bs W2 A n c xs :=
  hb.blk fun a e h0 => by
    obtain ⟨i, o, e2, hm⟩ := hi h0
    rw [e2] at e
    injection e with e
    subst e
    exact (h2.row hm).trans (h1.row hm).symm
theorem Free.arg {w : World} {R : List (Nat × Obj)} {A : Option Addr} {n c : Nat} {xs : List UInt8} (h : Bs w A n c xs) : Free w R A n := fun h0 a e => .inl (h.lt a e h0)
theorem Free.up {w : World} {R : List (Nat × Obj)} {A : Option Addr} {n : Nat} (h : Free w [] A n) : Free w R A n := fun h0 a e => (h h0 a e).imp id (fun ⟨o, q⟩ => by cases q)
end Go.Proofs.Ythhalmjapiempaa

set_option linter.unusedVariables false
set_option linter.unusedSimpArgs false
namespace Go.Proofs.Ythhalmjapiempaa
open Go.RowKit

theorem eq_yes {x k : Int} (h : x = k) : (x == k) = true ∧ decide (x = k) = true ∧ (x != k) = false ∧ decide (¬ x = k) = false := ⟨beq_iff_eq.2 h, decide_eq_true h, by rw [bne, beq_iff_eq.2 h]; rfl, decide_eq_false (fun q => q h)⟩
theorem eq_no {x k : Int} (h : ¬ x = k) : (x == k) = false ∧ decide (x = k) = false ∧ (x != k) = true ∧ decide (¬ x = k) = true := ⟨beq_eq_false_iff_ne.2 h, decide_eq_false h, by rw [bne, beq_eq_false_iff_ne.2 h]; rfl, decide_eq_true h⟩
theorem DM.hi {w : World} {base g n c m e : Nat} {A B : Option Addr} {d : DV} (h : DM w base g A n c B m e d) : g < w.heap.size ∧ (∀ k, A = some ⟨k, 0, none⟩ → k < w.heap.size) ∧ (∀ k, B = some ⟨k, 0, none⟩ → k < w.heap.size) := by
  refine ⟨(Array.getElem?_eq_some_iff.1 h.row).1, fun k q => ?_, fun k q => ?_⟩
  · rcases h.sl.addr with r | ⟨i, r, _, r2⟩
    · rw [r] at q; cases q
    · rw [r] at q; injection q with q; injection q with q; omega
  · rcases h.sr.addr with r | ⟨i, r, _, r2⟩
    · rw [r] at q; cases q
    · rw [r] at q; injection q with q; injection q with q; omega
/-- What is done to one disk leaves another as it was. -/
theorem DM.fr {w w1 : World} {base g n c m e g' : Nat} {A B A' B' : Option Addr} {d : DV} (h : DM w base g A n c B m e d) (hf : Fr g' A' B' w w1) (hg : Apt g' A' B' g) (hA : ∀ k, A = some ⟨k, 0, none⟩ → Apt g' A' B' k) (hB : ∀ k, B = some ⟨k, 0, none⟩ → Apt g' A' B' k) : DM w1 base g A n c B m e d :=
  ⟨(hf.block g h.hi.1 hg.1 hg.2.1 hg.2.2).trans h.row, h.lo, h.sl.kept (fun k e q => hf.block k q (hA k e).1 (hA k e).2.1 (hA k e).2.2), h.sr.kept (fun k e q => hf.block k q (hB k e).1 (hB k e).2.1 (hB k e).2.2), h.na, h.nb, h.ab⟩
theorem Bs.fr {w w1 : World} {g' : Nat} {A' B' A : Option Addr} {n c : Nat} {xs : List UInt8} (h : Bs w A n c xs) (hf : Fr g' A' B' w w1) (hA : 0 < n → ∀ a, A = some a → Apt g' A' B' a.block) : Bs w1 A n c xs :=
  h.blk fun a e h0 => hf.block _ (h.lt a e h0) (hA h0 a e).1 (hA h0 a e).2.1 (hA h0 a e).2.2
end Go.Proofs.Ythhalmjapiempaa

set_option linter.unusedVariables false
set_option linter.unusedSimpArgs false
namespace Go.Proofs.Ythhalmjapiempaa
open Go.RowKit

end Go.Proofs.Ythhalmjapiempaa

set_option linter.unusedVariables false
set_option linter.unusedSimpArgs false
namespace Go.Proofs.Ythhalmjapiempaa
open Go.RowKit

end Go.Proofs.Ythhalmjapiempaa

set_option linter.unusedVariables false
set_option linter.unusedSimpArgs false
namespace Go.Proofs.Ythhalmjapiempaa
open Go.ChangeShapes Go.WideShapes Go.ChangeAt Go.RowKit Go.Joins Go.Deep

instance : Inhabited OpW := ⟨op0⟩
end Go.Proofs.Ythhalmjapiempaa
