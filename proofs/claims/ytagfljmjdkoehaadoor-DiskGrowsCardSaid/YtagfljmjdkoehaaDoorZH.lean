/- The walk of bytes.Repeat at one byte, told 128, 256 or 300 times. Calls (Op) of the laws on disks; the walks of few, does and alive. The walk of alive of the laws on disks. The walk of the law DiskFuse. -/
import Derived.Test.YtagfljmjdkoehaaDoorZ1
import Derived.Laws.CopyOwn
import Derived.Deep.DeepCutAuto
import Derived.Laws.Externs
import Derived.Lib.MakeNoZero
import Derived.Test.YtagfljmjdkoehaaDoorZG
set_option linter.unusedVariables false
set_option linter.unusedSimpArgs false
namespace Go.Proofs.YtagfljmjdkoehaaDoor
open Go.RowKit

set_option maxHeartbeats 1000000 in
theorem mul64_128 (w : World) : Calls Tryd.prog 61 #[.int .u64 1, .int .u64 128] w fun e w' => e = .returned (.tuple #[.int .u64 0, .int .u64 128]) ∧ w = w' := by
  go_enter Tryd.func61, Tryd.ntmps61
  go_wp2
  go_ret2
  exact ⟨rfl, rfl⟩
set_option maxHeartbeats 1000000 in
theorem mul_128 (w : World) : Calls Tryd.prog 55 #[.int .u64 1, .int .u64 128] w fun e w' => e = .returned (.tuple #[.int .u64 0, .int .u64 128]) ∧ w = w' := by
  go_enter Tryd.func55, Tryd.ntmps55
  go_wp2_with (go_at_call 61; refine (mul64_128 _).mono ?_; rintro e w1 ⟨rfl, rfl⟩)
  go_ret2
  exact ⟨rfl, rfl⟩
set_option maxHeartbeats 1000000 in
theorem mul64_256 (w : World) : Calls Tryd.prog 61 #[.int .u64 1, .int .u64 256] w fun e w' => e = .returned (.tuple #[.int .u64 0, .int .u64 256]) ∧ w = w' := by
  go_enter Tryd.func61, Tryd.ntmps61
  go_wp2
  go_ret2
  exact ⟨rfl, rfl⟩
set_option maxHeartbeats 1000000 in
theorem mul_256 (w : World) : Calls Tryd.prog 55 #[.int .u64 1, .int .u64 256] w fun e w' => e = .returned (.tuple #[.int .u64 0, .int .u64 256]) ∧ w = w' := by
  go_enter Tryd.func55, Tryd.ntmps55
  go_wp2_with (go_at_call 61; refine (mul64_256 _).mono ?_; rintro e w1 ⟨rfl, rfl⟩)
  go_ret2
  exact ⟨rfl, rfl⟩
set_option maxHeartbeats 1000000 in
theorem mul64_300 (w : World) : Calls Tryd.prog 61 #[.int .u64 1, .int .u64 300] w fun e w' => e = .returned (.tuple #[.int .u64 0, .int .u64 300]) ∧ w = w' := by
  go_enter Tryd.func61, Tryd.ntmps61
  go_wp2
  go_ret2
  exact ⟨rfl, rfl⟩
set_option maxHeartbeats 1000000 in
theorem mul_300 (w : World) : Calls Tryd.prog 55 #[.int .u64 1, .int .u64 300] w fun e w' => e = .returned (.tuple #[.int .u64 0, .int .u64 300]) ∧ w = w' := by
  go_enter Tryd.func55, Tryd.ntmps55
  go_wp2_with (go_at_call 61; refine (mul64_300 _).mono ?_; rintro e w1 ⟨rfl, rfl⟩)
  go_ret2
  exact ⟨rfl, rfl⟩
/-- A row whose first j bytes are all the same. -/
structure Same (w : World) (g K j : Nat) (v : UInt8) : Prop where
  row : ∃ cur : Array Value, w.heap[g]? = some (.cells cur 5 (0, 0)) ∧ K ≤ cur.size ∧ ∀ i, i < j → cur[i]? = some (.int .u8 (v.toNat : Int))
theorem same_copy {w : World} {g K j : Nat} {v : UInt8} {cur : Array Value} (hh : w.heap[g]? = some (.cells cur 5 (0, 0))) (hK : K ≤ cur.size) (hc : ∀ i, i < j → cur[i]? = some (.int .u8 (v.toNat : Int))) (m : Nat) (hm : j + m ≤ K) :
    Same (w.setRow g (cur.toList.take j ++ (List.replicate m (Value.int .u8 (v.toNat : Int)) ++ cur.toList.drop (j + (List.replicate m (Value.int .u8 (v.toNat : Int))).length))).toArray) g K (j + m) v := by
  refine ⟨_, setRow_heap _ _ _ _ _ _ hh, ?_, fun i hi => ?_⟩
  · simp
    omega
  · have l1 : (cur.toList.take j).length = j := by simp; omega
    rw [List.getElem?_toArray]
    rcases Nat.lt_or_ge i j with q | q
    · rw [List.getElem?_append_left (by omega), List.getElem?_take_of_lt q]
      have := hc i q
      rwa [← Array.getElem?_toList] at this
    · rw [List.getElem?_append_right (by omega), l1, List.getElem?_append_left (by simp; omega), List.getElem?_replicate_of_lt (by omega)]
set_option maxHeartbeats 4000000 in
set_option maxRecDepth 100000 in
theorem repeat_one (K : Nat) (A : Option Addr) (c : Nat) (v : UInt8) (w : World) (hb : Bs w A 1 c [v]) (h1 : 1 ≤ K) (h2 : K ≤ 8192)
    (hmul : ∀ w, Calls Tryd.prog 55 #[.int .u64 1, .int .u64 (K : Int)] w fun e w' => e = .returned (.tuple #[.int .u64 0, .int .u64 (K : Int)]) ∧ w = w') :
    Calls Tryd.prog 39 #[.slice A 1 c, .int .i64 (K : Int)] w fun e' w' => ∃ g, e' = .returned (.slice (some ⟨g, 0, none⟩) K K) ∧ w.heap.size ≤ g ∧ g < w'.heap.size ∧ Bs w' (some ⟨g, 0, none⟩) K K (List.replicate K v) ∧ Below w.heap.size w w' := by
  obtain ⟨ad, rfl, hx⟩ := hb.cells (by omega)
  have f0 : ((K : Int) == 0) = false := beq_eq_false_iff_ne.2 (by omega)
  have f1 : decide ((K : Int) < 0) = false := decide_eq_false (by omega)
  have f2 : decide ((8192 : Int) < (K : Int)) = false := decide_eq_false (by omega)
  have f2' : decide (8192 < K) = false := decide_eq_false (by omega)
  have f3 : decide ((9223372036854775807 : Int) < (K : Int)) = false := decide_eq_false (by omega)
  have f3' : decide (9223372036854775807 < K) = false := decide_eq_false (by omega)
  have i1 : IntKind.u64.wrap (K : Int) = (K : Int) := by
    simp [IntKind.wrap, IntKind.bits, IntKind.signed]
    omega
  have i2 : IntKind.i64.wrap (K : Int) = (K : Int) := IntWalk.i64_in _ (by omega)
  obtain ⟨cs, hrunM, hle, hmax⟩ := Lib.run_makeNoZero (P := Tryd.prog) w #[3] 27 5 Tryd.underlying27 K (by omega)
  have hcall : (callFunc 56 #[.int .i64 (K : Int)]).run Tryd.prog w = .ok (.value (.slice (some ⟨w.heap.size, 0, none⟩) K cs.size)) ((w.alloc (.cells cs 5)).drewN 2) := by
    rw [run_callFunc_extern Tryd.func56 (by kernel_rfl) (by kernel_rfl) (by kernel_rfl) (e := Extern.BytealgMakeNoZero.makeNoZero #[3] #[27]) (by kernel_rfl), hrunM]
    rfl
  have hz1 : (0 : Int) ≤ (K : Int) := by omega
  have hz2 : (K : Int) ≤ (cs.size : Int) := by omega
  obtain ⟨W0, hW0⟩ : ∃ X, (w.alloc (.cells cs 5)).drewN 2 = X := ⟨_, rfl⟩
  have hbel : Below w.heap.size w W0 := by rw [← hW0]; exact below_drawn ((Below.refl _ w).alloc (Nat.le_refl _) _) 2
  have hrow : W0.heap[w.heap.size]? = some (.cells cs 5 (0, 0)) := by rw [← hW0]; exact heap_alloc_new w _
  rw [hW0] at hcall
  have HX := Aside0.mk (show W0.cell? ad = some (.int .u8 (v.toNat : Int)) from by
    have := cell_below hbel (hx 0 (by omega))
    simpa [b8, Addr.add] using this)
  have HR := Aside0.mk hrow
  have HB := Aside0.mk hbel
  have HL := Aside0.mk hle
  have HM := Aside0.mk (fun w => hmul w)
  clear hrunM hx hb hrow hbel hmul hW0 hle hmax
  have C1 := Aside0.mk (show (List.replicate 1 (Value.int .u8 (v.toNat : Int))).length = Nat.min 1 K from (Nat.min_eq_left h1).symm)
  have C2 := Aside0.mk (show ∀ (j : Nat) (u : Value), (List.replicate 1 (Value.int .u8 (v.toNat : Int)))[j]? = some u → W0.cell? (ad.add j) = some u from fun j u hu => by
    cases j with
    | zero => (injection hu with hu; rw [← hu]; simpa [Addr.add] using HX.out)
    | succ j => simp at hu)
  have C3 := Aside0.mk (show 0 + (List.replicate 1 (Value.int .u8 (v.toNat : Int))).length ≤ cs.size by rw [List.length_replicate]; have := HL.out; omega)
  have C4 := Aside0.mk (show ∀ u ∈ List.replicate 1 (Value.int .u8 (v.toNat : Int)), u.oneCell' = true from fun u hu => by rw [List.eq_of_mem_replicate hu]; rfl)
  have C5 := Aside0.mk (show (Tryd.prog.info? 5).map (·.size) = some 1 by kernel_rfl)
  have C6 := Aside0.mk (same_copy (j := 0) (v := v) HR.out HL.out (fun i hi => absurd hi (by omega)) 1 (by omega))
  go_enter Tryd.func39, Tryd.ntmps39
  go_wp2_with (first
    | (go_at_call 55; refine (HM.out _).mono ?_; rintro e w1 ⟨rfl, rfl⟩)
    | (with_reducible refine wpList_copy_own rfl _ _ _ _ rfl 5 Tryd.underlying27 C5.out w.heap.size 0 K K ad 1 c rfl rfl cs 5 HR.out (List.replicate 1 (Value.int .u8 (v.toNat : Int))) C1.out C2.out C3.out C4.out ?_))
  have HS0 := Aside0.mk (And.intro C6.out (below_setRow HB.out (Nat.le_refl _) (cs.toList.take 0 ++ (List.replicate 1 (Value.int .u8 (v.toNat : Int)) ++ cs.toList.drop (0 + (List.replicate 1 (Value.int .u8 (v.toNat : Int))).length))).toArray))
  clear C1 C2 C3 C4 C6 hcall
  go_loopg [10] (K - 1) (fun gk v10 wr => ∃ j : Nat, Aside (gk + j = K) ∧ v10 = .int .i64 (j : Int) ∧ 1 ≤ j ∧ Aside0 (Same wr w.heap.size K j v ∧ Below w.heap.size w wr))
  case atStart => exact ⟨1, (by show K - 1 + 1 = K; omega), rfl, Nat.le_refl _, ⟨by simpa using HS0.out.1, by simpa using HS0.out.2⟩⟩
  case round =>
    obtain ⟨j, hk, rfl, hj1, hI⟩ := hrel
    have hjK : j ≤ K := by have := hk.out; omega
    rcases Nat.lt_or_ge j K with hlt | hge
    · have d1 : decide ((j : Int) < (K : Int)) = true := decide_eq_true (by omega)
      have d1' : decide (j < K) = true := decide_eq_true hlt
      have d2 : decide ((K : Int) < (j : Int)) = false := decide_eq_false (by omega)
      obtain ⟨cur, hcur, hKc, hsame⟩ := hI.out.1.row
      obtain ⟨m, hm⟩ : ∃ m, Nat.min j (K - j) = m := ⟨_, rfl⟩
      have hm1 : 1 ≤ m := by rw [← hm]; exact Nat.le_min.2 ⟨hj1, by omega⟩
      have hm2 : m ≤ j := by rw [← hm]; exact Nat.min_le_left _ _
      have hm3 : j + m ≤ K := by have : m ≤ K - j := by rw [← hm]; exact Nat.min_le_right _ _
                                 omega
      have t1 : ∀ W : World, (Instr.slice 27 (.slice (some ⟨w.heap.size, 0, none⟩) K K) (some (.int .i64 (j : Int))) none none).run Tryd.prog W = .ok (.slice (some ⟨w.heap.size, j, none⟩) (K - j) (K - j)) W := fun W => by
        rw [sl8_l W _ K K .i64 (j : Int) (by omega) (by omega), show ((j : Int)).toNat = j by omega]
        unfold cutA
        rw [if_neg (by omega), Option.map_some, add_plain]
      have t2 : ∀ W : World, (Instr.slice 27 (.slice (some ⟨w.heap.size, 0, none⟩) K K) none (some (.int .i64 (j : Int))) none).run Tryd.prog W = .ok (.slice (some ⟨w.heap.size, 0, none⟩) j K) W := fun W => by
        rw [sl8_h W _ K K .i64 (j : Int) (by omega) (by omega), show ((j : Int)).toNat = j by omega]
      have iw : IntKind.i64.wrap ((j : Int) + (m : Int)) = ((j + m : Nat) : Int) := by rw [IntWalk.i64_in _ (by omega)]; omega
      have C1 := Aside0.mk (show (List.replicate m (Value.int .u8 (v.toNat : Int))).length = Nat.min j (K - j) from by rw [List.length_replicate, hm])
      have C2 := Aside0.mk (show ∀ (i : Nat) (u : Value), (List.replicate m (Value.int .u8 (v.toNat : Int)))[i]? = some u → wr.drew.cell? ((⟨w.heap.size, 0, none⟩ : Addr).add i) = some u from fun i u hu => by
        have hi : i < m := by
          have := (List.getElem?_eq_some_iff.1 hu).1
          simpa using this
        rw [List.getElem?_replicate_of_lt hi] at hu
        rw [add_plain]
        have h := hsame i (by omega)
        rw [cell_of_row _ _ _ _ _ _ (show wr.drew.heap[w.heap.size]? = some (.cells cur 5 (0, 0)) from hcur), h, hu])
      have C3 := Aside0.mk (show j + (List.replicate m (Value.int .u8 (v.toNat : Int))).length ≤ cur.size by rw [List.length_replicate]; omega)
      have C4 := Aside0.mk (show ∀ u ∈ List.replicate m (Value.int .u8 (v.toNat : Int)), u.oneCell' = true from fun u hu => by rw [List.eq_of_mem_replicate hu]; rfl)
      have HC := Aside0.mk (show wr.drew.heap[w.heap.size]? = some (.cells cur 5 (0, 0)) from hcur)
      have HN := Aside0.mk (And.intro (same_copy (w := wr.drew) HC.out hKc hsame m hm3) (below_setRow (below_drew hI.out.2) (Nat.le_refl _) (cur.toList.take j ++ (List.replicate m (Value.int .u8 (v.toNat : Int)) ++ cur.toList.drop (j + (List.replicate m (Value.int .u8 (v.toNat : Int))).length))).toArray))
      replace hm := Aside0.mk hm
      clear hsame hcur
      go_upto_region 20 with fail
      refine wp_region_M (fun j => false) (fun _ => True) (by kernel_rfl) ?_
      refine wpAnyM_take0 (i := 0) (v := ?_) (by simp only [List.getElem?_toArray, List.getElem?_cons_succ, List.getElem?_cons_zero]; rfl) (by kernel_rfl) (by kernel_rfl) (by kernel_rfl) (by rfl) (by exact fun _ _ _ h => h) (Or.inl ⟨by rfl, ?_⟩) ?_
      rotate_left
      · (intro w' _; go_simp; try with_reducible rfl)
      try simp only [Act.put, List.setIfInBounds_toArray, List.set_cons_zero, List.set_cons_succ]
      refine wpAnyM_take0 (i := 1) (v := ?_) (by simp only [List.getElem?_toArray, List.getElem?_cons_succ, List.getElem?_cons_zero]; rfl) (by kernel_rfl) (by kernel_rfl) (by kernel_rfl) (by rfl) (by exact fun _ _ _ h => h) (Or.inl ⟨by rfl, ?_⟩) ?_
      rotate_left
      · (intro w' _; go_simp; try with_reducible rfl)
      try simp only [Act.put, List.setIfInBounds_toArray, List.set_cons_zero, List.set_cons_succ]
      refine wpAnyM_take0 (i := 2) (v := ?_) (by simp only [List.getElem?_toArray, List.getElem?_cons_succ, List.getElem?_cons_zero]; rfl) (by kernel_rfl) (by kernel_rfl) (by kernel_rfl) (by rfl) (by exact fun _ _ _ h => h) (Or.inl ⟨by rfl, ?_⟩) ?_
      rotate_left
      · (intro w' _; go_simp; try with_reducible rfl)
      try simp only [Act.put, List.setIfInBounds_toArray, List.set_cons_zero, List.set_cons_succ]
      refine wpAnyM_take0 (i := 3) (v := ?_) (by simp only [List.getElem?_toArray, List.getElem?_cons_succ, List.getElem?_cons_zero]; rfl) (by kernel_rfl) (by kernel_rfl) (by kernel_rfl) (by rfl) (by exact fun _ _ _ h => h) (Or.inl ⟨by rfl, ?_⟩) ?_
      rotate_left
      · (intro w' _; go_simp; try with_reducible rfl)
      try simp only [Act.put, List.setIfInBounds_toArray, List.set_cons_zero, List.set_cons_succ]
      refine wpAnyM_take0 (i := 4) (v := ?_) (by simp only [List.getElem?_toArray, List.getElem?_cons_succ, List.getElem?_cons_zero]; rfl) (by kernel_rfl) (by kernel_rfl) (by kernel_rfl) (by rfl) (by exact fun _ _ _ h => h) (Or.inl ⟨by rfl, ?_⟩) ?_
      rotate_left
      · (intro w' _; go_simp; try with_reducible rfl)
      try simp only [Act.put, List.setIfInBounds_toArray, List.set_cons_zero, List.set_cons_succ]
      refine wpAnyM_take0 (i := 5) (v := ?_) (by simp only [List.getElem?_toArray, List.getElem?_cons_succ, List.getElem?_cons_zero]; rfl) (by kernel_rfl) (by kernel_rfl) (by kernel_rfl) (by rfl) (by exact fun _ _ _ h => h) (Or.inl ⟨by rfl, ?_⟩) ?_
      rotate_left
      · (intro w' _; go_simp; try with_reducible rfl)
      try simp only [Act.put, List.setIfInBounds_toArray, List.set_cons_zero, List.set_cons_succ]
      refine wpAnyM_take0 (i := 6) (v := ?_) (by simp only [List.getElem?_toArray, List.getElem?_cons_succ, List.getElem?_cons_zero]; rfl) (by kernel_rfl) (by kernel_rfl) (by kernel_rfl) (by rfl) (by exact fun _ _ _ h => h) (Or.inl ⟨by rfl, ?_⟩) ?_
      rotate_left
      · (intro w' _; go_simp; try with_reducible rfl)
      try simp only [Act.put, List.setIfInBounds_toArray, List.set_cons_zero, List.set_cons_succ]
      refine wpAnyM_one (i := 7) (by kernel_rfl) (by simp only [List.getElem?_toArray, List.getElem?_cons_succ, List.getElem?_cons_zero]; rfl) ?_
      refine wpList_copy_own (by rfl) (.tmp 70) (.tmp 73) _ _ (by rfl) 5 Tryd.underlying27 C5.out w.heap.size j (K - j) (K - j) ⟨w.heap.size, 0, none⟩ j K (by rfl) (by rfl) cur 5 HC.out (List.replicate m (Value.int .u8 (v.toNat : Int))) C1.out C2.out C3.out C4.out ?_
      refine wpl_nil ⟨rfl, fun _ => trivial, ?_⟩
      rw [List.length_replicate] at HN ⊢
      try simp only [Act.put, List.setIfInBounds_toArray, List.set_cons_zero, List.set_cons_succ]
      refine wpAnyM_take0 (i := 8) (v := ?_) (by simp only [List.getElem?_toArray, List.getElem?_cons_succ, List.getElem?_cons_zero]; rfl) (by kernel_rfl) (by kernel_rfl) (by kernel_rfl) (by rfl) (by exact fun _ _ _ h => h) (Or.inl ⟨by rfl, ?_⟩) ?_
      rotate_left
      · (intro w' _; go_simp; try with_reducible rfl)
      try simp only [Act.put, List.setIfInBounds_toArray, List.set_cons_zero, List.set_cons_succ]
      refine wpAnyM_take0 (i := 9) (v := ?_) (by simp only [List.getElem?_toArray, List.getElem?_cons_succ, List.getElem?_cons_zero]; rfl) (by kernel_rfl) (by kernel_rfl) (by kernel_rfl) (by rfl) (by exact fun _ _ _ h => h) (Or.inl ⟨by rfl, ?_⟩) ?_
      rotate_left
      · (intro w' _; go_simp; try with_reducible rfl)
      try simp only [Act.put, List.setIfInBounds_toArray, List.set_cons_zero, List.set_cons_succ]
      refine wpAnyM_done (by kernel_rfl) ?_ _
      go_wp2_with fail
      go_roundg (K - (j + m))
      case measure => have := hk.out; omega
      case rel => exact ⟨j + m, (by show K - (j + m) + (j + m) = K; omega), by go_num, by omega, ⟨HN.out.1, HN.out.2⟩⟩
    · obtain rfl : K = j := by omega
      have d1 : decide ((K : Int) < (K : Int)) = false := by simp
      go_wp2_with fail
      go_ret
      obtain ⟨cur, hcur, hKc, hsame⟩ := hI.out.1.row
      refine ⟨_, rfl, Nat.le_refl _, (Array.getElem?_eq_some_iff.1 hcur).1, ⟨by simp, Nat.le_refl _, by omega, by omega, fun _ => ⟨_, rfl, fun i hi => ?_⟩⟩, hI.out.2⟩
      rw [add_plain, cell_of_row _ _ _ _ _ _ hcur, hsame i hi]
      simp [b8, List.getD_eq_getElem?_getD, List.getElem?_replicate_of_lt hi]
end Go.Proofs.YtagfljmjdkoehaaDoor

set_option linter.unusedVariables false
set_option linter.unusedSimpArgs false
namespace Go.Proofs.YtagfljmjdkoehaaDoor
open Go.RowKit

/-- A call, as a value. -/
structure OpW where
  k : Int
  at_ : Int
  many : Int
  b : List UInt8
  keep : List Bool
structure OpD (w : World) (p : Addr) (o : OpW) (B : Option Addr) (m d : Nat) (K : Option Addr) (kn kc : Nat) : Prop where
  c0 : w.cell? p = some (.int .i64 o.k)
  c1 : w.cell? ⟨p.block, p.off + 1, none⟩ = some (.int .i64 o.at_)
  c2 : w.cell? ⟨p.block, p.off + 2, none⟩ = some (.int .i64 o.many)
  c3 : w.cell? ⟨p.block, p.off + 3, none⟩ = some (.slice B m d)
  c4 : w.cell? ⟨p.block, p.off + 4, none⟩ = some (.slice K kn kc)
  row : Bs w B m d o.b
  kr : Rb w K kn kc o.keep
  bk : -9223372036854775808 ≤ o.k ∧ o.k ≤ 9223372036854775807
  ba : -9223372036854775808 ≤ o.at_ ∧ o.at_ ≤ 9223372036854775807
  bm : -9223372036854775808 ≤ o.many ∧ o.many ≤ 9223372036854775807
theorem Rb.map {w w1 : World} {A : Option Addr} {n c : Nat} {ks : List Bool} (h : Rb w A n c ks) (hb : ∀ a v, w.cell? a = some v → w1.cell? a = some v) : Rb w1 A n c ks :=
  ⟨h.len, h.le, h.cap, h.lim, fun hn => by
    obtain ⟨ad, e, hc⟩ := h.cells hn
    exact ⟨ad, e, fun j hj => hb _ _ (hc j hj)⟩⟩
theorem Rb.below {w w1 : World} {A : Option Addr} {n c : Nat} {ks : List Bool} (h : Rb w A n c ks) (hb : Below w.heap.size w w1) : Rb w1 A n c ks := h.map fun _ _ hc => cell_below hb hc
theorem OpD.below {w w1 : World} {p : Addr} {o : OpW} {B K : Option Addr} {m d kn kc : Nat} (h : OpD w p o B m d K kn kc) (hb : Below w.heap.size w w1) : OpD w1 p o B m d K kn kc :=
  ⟨cell_below hb h.c0, cell_below hb h.c1, cell_below hb h.c2, cell_below hb h.c3, cell_below hb h.c4, h.row.below hb, h.kr.below hb, h.bk, h.ba, h.bm⟩
def op0 : OpW := ⟨0, 0, 0, [], []⟩
structure OpsD (w : World) (A : Option Addr) (n c : Nat) (l : List OpW) : Prop where
  len : l.length = n
  le : n ≤ c
  cap : c ≤ 9223372036854775807
  lim : n ≤ 140737488355328
  cells : 0 < n → ∃ ad, A = some ad ∧ ∀ j, (hj : j < n) → ∃ B m d K kn kc, OpD w (ad.add (j * 5)) (l.getD j op0) B m d K kn kc
theorem OpsD.atN {w : World} {A : Option Addr} {n c : Nat} {l : List OpW} (h : OpsD w A n c l) (i : Nat) (h1 : i < n) :
    ∃ ad, A = some ad ∧ ∃ B m d K kn kc, OpD w (ad.add (i * 5)) (l.getD i op0) B m d K kn kc := by
  obtain ⟨ad, e, hc⟩ := h.cells (by omega)
  exact ⟨ad, e, hc _ h1⟩
theorem OpsD.below {w w1 : World} {A : Option Addr} {n c : Nat} {l : List OpW} (h : OpsD w A n c l) (hb : Below w.heap.size w w1) : OpsD w1 A n c l :=
  ⟨h.len, h.le, h.cap, h.lim, fun hn => by
    obtain ⟨ad, e, hc⟩ := h.cells hn
    exact ⟨ad, e, fun j hj => by obtain ⟨B, m, d, K, kn, kc, h1⟩ := hc j hj; exact ⟨B, m, d, K, kn, kc, h1.below hb⟩⟩⟩
/-- All its bytes and truths, counted. -/
def totD (l : List OpW) : Nat → Nat
  | 0 => 0
  | k + 1 => totD l k + ((l.getD k op0).b.length + (l.getD k op0).keep.length)
def totX (l : List OpW) : Nat → Int
  | 0 => 0
  | k + 1 => wrap64 (totX l k + wrap64 (((l.getD k op0).b.length : Int) + ((l.getD k op0).keep.length : Int)))
theorem totX_eq {w : World} {A : Option Addr} {n c : Nat} {l : List OpW} (h : OpsD w A n c l) (hn : n ≤ 60) : ∀ j, j ≤ n → totX l j = (totD l j : Int) ∧ totD l j ≤ j * 281474976710656
  | 0, _ => ⟨rfl, by simp [totD]⟩
  | j + 1, hj => by
    obtain ⟨e, hl⟩ := totX_eq h hn j (by omega)
    obtain ⟨ad, _, B, m, d, K, kn, kc, ho⟩ := h.atN j (by omega)
    have h1 := ho.row.lim
    have h2 := ho.kr.lim
    have h3 := ho.row.len
    have h4 := ho.kr.len
    have hw : ∀ x : Int, -9223372036854775808 ≤ x ∧ x ≤ 9223372036854775807 → wrap64 x = x := fun x hx => by unfold wrap64; omega
    refine ⟨?_, ?_⟩
    · show wrap64 (totX l j + wrap64 _) = ((totD l j + _ : Nat) : Int)
      rw [e, hw (((l.getD j op0).b.length : Int) + ((l.getD j op0).keep.length : Int)) (by omega), hw _ (by omega)]
      omega
    · show totD l j + _ ≤ _
      omega
theorem totD_le (l : List OpW) (n : Nat) : ∀ j, j < n → totD l j + (l.getD j op0).b.length ≤ totD l n := by
  intro j hj
  induction n with
  | zero => omega
  | succ n ih =>
    show _ ≤ totD l n + _
    rcases Nat.lt_or_ge j n with q | q
    · have := ih q; omega
    · obtain rfl : j = n := by omega
      omega
/-- Is no disk asked to grow too far? -/
def okO (o : OpW) : Prop := ¬ (o.k = 0 ∧ 64 < o.at_ ∧ o.at_ ≤ 65536)
structure FewQ (n : Nat) (l : List OpW) : Prop where
  n60 : n ≤ 60
  tot : totD l n ≤ 8000
  ok : ∀ j, j < n → okO (l.getD j op0)
theorem row5_cells {W : World} {g : Nat} {T : TypeId} {a b c d e : Value} (k : W.heap[g]? = some (.cells #[a, b, c, d, e] T)) :
    W.cell? ⟨g, 0, none⟩ = some a ∧ W.cell? ⟨g, 1, none⟩ = some b ∧ W.cell? ⟨g, 2, none⟩ = some c ∧ W.cell? ⟨g, 3, none⟩ = some d ∧ W.cell? ⟨g, 4, none⟩ = some e :=
  ⟨by rw [cell_of_row _ _ _ _ _ _ k]; rfl, by rw [cell_of_row _ _ _ _ _ _ k]; rfl, by rw [cell_of_row _ _ _ _ _ _ k]; rfl, by rw [cell_of_row _ _ _ _ _ _ k]; rfl, by rw [cell_of_row _ _ _ _ _ _ k]; rfl⟩
def FewC (w : World) (n : Nat) (l : List OpW) (e : Ending) (w' : World) : Prop := ∃ b, e = .returned (.bool b) ∧ (b = true → FewQ n l) ∧ (FewQ n l → b = true) ∧ Below w.heap.size w w'
theorem DH.holdx {w0 : World} {g : Nat} {R : List (Nat × Obj)} {d : DV} {W W1 : World} (h : DH w0 g R d W) (hB : Below W.heap.size W W1) (i : Nat) (hi : W.heap.size ≤ i) (hl : i < W1.heap.size) : ∃ o, DH w0 g ((i, o) :: R) d W1 :=
  ⟨_, h.hold hB i _ hi (Array.getElem?_eq_getElem hl)⟩
/-- What a call does. -/
def doesE (d : DV) (o : OpW) : Int := if o.k = 0 then growE d o.at_ else if o.k = 1 then readE d o.at_ o.many else if o.k = 2 then writeE d o.at_ o.b else syncE d
def doesD (d : DV) (o : OpW) : DV := if o.k = 0 then growD d o.at_ else if o.k = 1 then d else if o.k = 2 then writeD d o.at_ o.b else syncD d
end Go.Proofs.YtagfljmjdkoehaaDoor

set_option linter.unusedVariables false
set_option linter.unusedSimpArgs false
namespace Go.Proofs.YtagfljmjdkoehaaDoor
open Go.RowKit

def dA0 : DV := ⟨limI 4, [], [], 0, -1, false⟩
def dA1 : DV := growD dA0 2
def dA2 : DV := writeD dA1 0 (List.replicate 128 1)
def dA3 : DV := crashD dA2 [true, false]
def dA4 : DV := armD dA3 0
def dA5 : DV := syncD dA4
theorem rb_lit (w : World) (N : Nat) (hN : w.heap.size = N) (C : Array Value) (T : TypeId) (n : Nat) (ks : List Bool) (hC : C = (ks.map Value.bool).toArray) (hn : ks.length = n) (hl : n ≤ 140737488355328) : Rb (w.alloc (.cells C T)) (some ⟨N, 0, none⟩) n n ks := by
  subst hN
  refine ⟨hn, Nat.le_refl _, by omega, hl, fun _ => ⟨_, rfl, fun j hj => ?_⟩⟩
  rw [add_plain, World.cell?_alloc_mark, hC]
  simp [List.getElem?_eq_getElem (show j < ks.length by omega), List.getD_eq_getElem?_getD]
theorem DH.lit {w0 : World} {g : Nat} {R : List (Nat × Obj)} {d : DV} {W : World} (h : DH w0 g R d W) (o : Obj) : DH w0 g ((W.heap.size, o) :: R) d (W.alloc o) := h.hold ((Below.refl _ W).alloc (Nat.le_refl _) o) _ o (Nat.le_refl _) (heap_alloc_new W o)
theorem Bs.blk {w w1 : World} {A : Option Addr} {n c : Nat} {xs : List UInt8} (h : Bs w A n c xs) (hb : ∀ a, A = some a → 0 < n → w1.heap[a.block]? = w.heap[a.block]?) : Bs w1 A n c xs :=
  ⟨h.len, h.le, h.cap, h.lim, fun hn => by
    obtain ⟨ad, e, hc⟩ := h.cells hn
    refine ⟨ad, e, fun j hj => ?_⟩
    rw [← hc j hj]
    exact World.cell?_of_block (by rw [add_block]; exact hb ad e hn)⟩
/-- A slice that a call made is held beside a disk. -/
theorem DH.ow {w0 : World} {g : Nat} {R : List (Nat × Obj)} {d : DV} {W W1 : World} {A : Option Addr} {n c : Nat} {xs : List UInt8} (h : DH w0 g R d W) (hB : Below W.heap.size W W1) (hO : Ow W1 W.heap.size A n c xs) (h0 : 0 < n) :
    ∃ i o, A = some ⟨i, 0, none⟩ ∧ W.heap.size ≤ i ∧ DH w0 g ((i, o) :: R) d W1 ∧ W1.heap[i]? = some o := by
  obtain ⟨i, e, h1, h2, _⟩ := hO.head h0
  obtain ⟨o, ho⟩ := h.holdx hB i h1 h2
  exact ⟨i, o, e, h1, ho, ho.row List.mem_cons_self⟩
set_option maxHeartbeats 4000000 in
set_option maxRecDepth 100000 in
theorem aliveD_any (w : World) : Calls Tryd.prog 14 #[] w fun e w' => e = .returned (.bool true) ∧ Below w.heap.size w w' := by
  have E1 := Aside0.mk (show growE dA0 2 = 0 by decide +kernel)
  have E2 := Aside0.mk (show writeE dA1 0 (List.replicate 128 1) = 0 by decide +kernel)
  have E3 := Aside0.mk (show dA2.row.length = 2 by decide +kernel)
  have E4 := Aside0.mk (show readE dA3 0 2 = 0 by decide +kernel)
  have E5 := Aside0.mk (show (readB dA3 0 2).length = 128 by decide +kernel)
  have E6 := Aside0.mk (show b8 (readB dA3 0 2) 0 = 1 by decide +kernel)
  have E7 := Aside0.mk (show b8 (readB dA3 0 2) 64 = 0 by decide +kernel)
  have E8 := Aside0.mk (show syncE dA4 = 10 by decide +kernel)
  have E9 := Aside0.mk (show dA5.down = true by decide +kernel)
  have E10 := Aside0.mk (show nD dA5 = 2 by decide +kernel)
  have E11 := Aside0.mk (show dA5.limit = 4 by decide +kernel)
  have E12 := Aside0.mk (show dA5.ops = 2 by decide +kernel)
  have B1 := Aside0.mk (show dA1.row.length + 128 ≤ 1000000 ∧ 0 ≤ dA1.ops ∧ dA1.ops ≤ 1000000 ∧ dA1.fuse ≤ 9223372036854775807 by decide +kernel)
  have B4 := Aside0.mk (show 0 ≤ dA4.ops ∧ dA4.ops ≤ 1000000 ∧ dA4.fuse ≤ 9223372036854775807 by decide +kernel)
  go_enter Tryd.func14, Tryd.ntmps14
  go_wp2_with (first
    | (go_at_call 37; refine (new_h (w0 := w) 4 w (Below.refl _ _)).mono ?_; rintro e1 w1 ⟨g, rfl, hH, _⟩; (have H1 := Aside0.mk (show DH w g [] dA0 w1 from hH)); clear hH)
    | (go_at_call 18; refine (grow_h H1.out 2).mono ?_; rintro e2 w2 ⟨rfl, hH⟩; rw [E1.out]; (have H2 := Aside0.mk (show DH w g [] dA1 w2 from hH)); clear hH)
    | (go_at_call 39; refine (repeat_one 128 _ 1 1 _ (Bs.lit w2 _ rfl _ _ _ 1 1 [1] rfl rfl (by omega) (by omega) (by omega)) (by omega) (by omega) mul_128).mono ?_; rintro e3 w3 ⟨g3, rfl, hg3, hg3l, hb3, hB3⟩; (have hBB := below_then ((Below.refl _ w2).alloc (Nat.le_refl _) _) (by simp) hB3); (obtain ⟨o3, hh⟩ := H2.out.holdx hBB g3 (Nat.le_trans (by simp) hg3) hg3l); (have H3 := Aside0.mk (And.intro hh hb3)); clear hg3 hg3l hb3 hB3 hBB hh)
    | (go_at_call 38; refine (write_h H3.out.1 0 _ 128 128 _ H3.out.2 (fun _ a e => by injection e with e; rw [← e]; exact .inr ⟨o3, List.mem_cons_self⟩) B1.out.1 B1.out.2.1 B1.out.2.2.1 B1.out.2.2.2).mono ?_; rintro e4 w4 ⟨rfl, hH⟩; rw [E2.out]; (have H4 := Aside0.mk (show DH w g _ dA2 w4 from hH)); clear hH)
    | (go_at_call 40; refine (pending_h H4.out).mono ?_; rintro e5 w5 ⟨rfl, rfl⟩; rw [E3.out])
    | (go_at_call 20; refine (crash_h (H4.out.lit _) _ 2 2 [true, false] (rb_lit w4 _ rfl _ _ 2 [true, false] rfl rfl (by omega)) (fun _ a e => by injection e with e; rw [← e]; exact .inr ⟨_, List.mem_cons_self⟩)).mono ?_; rintro e6 w6 ⟨rfl, hH⟩; (have H6 := Aside0.mk (show DH w g _ dA3 w6 from hH)); clear hH)
    | (go_at_call 41; refine (read_h H6.out 0 2).mono ?_; rintro e7 w7 ⟨A7, c7, rfl, hO, hB⟩; rw [E5.out] at hO; rw [E5.out, E4.out]; (obtain ⟨iA, oA, rfl, hi, hh, hr⟩ := H6.out.ow hB hO (by omega)); (have H7 := Aside0.mk (And.intro hh (And.intro hr hO.bs))); clear hO hB hh hr hi)
    | (go_at_call 42; refine (arm_h H7.out.1 0).mono ?_; rintro e8 w8 ⟨rfl, hH⟩; (have H8 := Aside0.mk (show DH w g _ dA4 w8 from hH)); clear hH)
    | (go_at_call 43; refine (sync_h H8.out B4.out.1 B4.out.2.1 B4.out.2.2).mono ?_; rintro e9 w9 ⟨rfl, hH⟩; rw [E8.out]; (have H9 := Aside0.mk (show DH w g _ dA5 w9 from hH)); clear hH; (have hbs := H7.out.2.2.blk (w1 := w9) (fun a e _ => by injection e with e; rw [← e]; exact (H9.out.row List.mem_cons_self).trans H7.out.2.1.symm)); (obtain ⟨ad, e, hx⟩ := hbs.cells (by omega)); (injection e with e); (have x0 := hx 0 (by omega)); (have x1 := hx 64 (by omega)); rw [← e, add_plain, E6.out] at x0; rw [← e, add_plain, E7.out] at x1; clear hx hbs e)
    | (go_at_call 44; refine (down_h H9.out).mono ?_; rintro e10 w10 ⟨rfl, rfl⟩; rw [E9.out])
    | (go_at_call 17; refine (size_h H9.out).mono ?_; rintro e10 w10 ⟨rfl, rfl⟩; rw [E10.out])
    | (go_at_call 19; refine (limit_h H9.out).mono ?_; rintro e10 w10 ⟨rfl, rfl⟩; rw [E11.out])
    | (go_at_call 45; refine (ops_h H9.out).mono ?_; rintro e10 w10 ⟨rfl, rfl⟩; rw [E12.out])
    | fail)
  go_ret
  exact ⟨rfl, H9.out.bel⟩
end Go.Proofs.YtagfljmjdkoehaaDoor

set_option linter.unusedVariables false
set_option linter.unusedSimpArgs false
namespace Go.Proofs.YtagfljmjdkoehaaDoor
open Go.RowKit

/-- A slice whose row is held. -/
def InR (R : List (Nat × Obj)) (A : Option Addr) (n : Nat) : Prop := 0 < n → ∃ i o, A = some ⟨i, 0, none⟩ ∧ (i, o) ∈ R
theorem DH.own {w0 : World} {g : Nat} {R : List (Nat × Obj)} {d : DV} {W W1 : World} {A : Option Addr} {n c : Nat} {xs : List UInt8} (h : DH w0 g R d W) (hB : Below W.heap.size W W1) (hO : Ow W1 W.heap.size A n c xs) :
    ∃ R1, DH w0 g R1 d W1 ∧ InR R1 A n ∧ ∀ p ∈ R, p ∈ R1 := by
  rcases Nat.eq_zero_or_pos n with h0 | h0
  · exact ⟨R, h.step hB, fun q => absurd q (by omega), fun p hp => hp⟩
  · obtain ⟨i, o, e, _, hh, _⟩ := h.ow hB hO h0
    exact ⟨_, hh, fun _ => ⟨i, o, e, List.mem_cons_self⟩, fun p hp => List.mem_cons_of_mem _ hp⟩
theorem DH.same {w0 : World} {g g' : Nat} {R : List (Nat × Obj)} {d1 d2 : DV} {W1 W2 : World} {A : Option Addr} {n c : Nat} {xs : List UInt8} (h1 : DH w0 g R d1 W1) (h2 : DH w0 g' R d2 W2) (hi : InR R A n) (hb : Bs W1 A n c xs) : Bs W2 A n c xs :=
  hb.blk fun a e h0 => by
    obtain ⟨i, o, e2, hm⟩ := hi h0
    rw [e2] at e
    injection e with e
    subst e
    exact (h2.row hm).trans (h1.row hm).symm
theorem Free.arg {w : World} {R : List (Nat × Obj)} {A : Option Addr} {n c : Nat} {xs : List UInt8} (h : Bs w A n c xs) : Free w R A n := fun h0 a e => .inl (h.lt a e h0)
theorem Free.argb {w : World} {R : List (Nat × Obj)} {A : Option Addr} {n c : Nat} {xs : List Bool} (h : Rb w A n c xs) : Free w R A n := fun h0 a e => by
  obtain ⟨ad, e2, hc⟩ := h.cells h0
  have := World.block_lt_of_cell? w _ (hc 0 h0)
  rw [e] at e2
  injection e2 with e2
  rw [add_block, ← e2] at this
  exact .inl this
theorem Free.up {w : World} {R : List (Nat × Obj)} {A : Option Addr} {n : Nat} (h : Free w [] A n) : Free w R A n := fun h0 a e => (h h0 a e).imp id (fun ⟨o, q⟩ => by cases q)
/-- Where an armed disk stands. -/
structure FI (n : Int) (d : DV) : Prop where
  o0 : 0 ≤ d.ops
  fu : d.fuse ≤ 1000
  st : (n < 0 ∧ d.fuse = -1 ∧ d.down = false) ∨ (0 ≤ n ∧ d.down = false ∧ d.ops ≤ n ∧ d.fuse = n - d.ops) ∨ (0 ≤ n ∧ d.down = true ∧ n < d.ops)
theorem FI.op {n : Int} {d : DV} (h : FI n d) (hd : d.down = false) : FI n (opD d) ∧ (opD d).down = (d.fuse == 0) := by
  have h0 := h.o0
  have hf := h.fu
  refine ⟨⟨?_, ?_, ?_⟩, rfl⟩
  · show 0 ≤ d.ops + 1
    omega
  · show (if d.fuse - 1 < -1 then -1 else d.fuse - 1) ≤ 1000
    split <;> omega
  · show (n < 0 ∧ (if d.fuse - 1 < -1 then -1 else d.fuse - 1) = -1 ∧ (d.fuse == 0) = false) ∨ (0 ≤ n ∧ (d.fuse == 0) = false ∧ d.ops + 1 ≤ n ∧ (if d.fuse - 1 < -1 then -1 else d.fuse - 1) = n - (d.ops + 1)) ∨ (0 ≤ n ∧ (d.fuse == 0) = true ∧ n < d.ops + 1)
    rcases h.st with ⟨h1, h2, h3⟩ | ⟨h1, h2, h3, h4⟩ | ⟨h1, h2, h3⟩
    · exact .inl ⟨h1, by rw [h2]; rfl, by rw [h2]; rfl⟩
    · by_cases hz : d.fuse = 0
      · exact .inr (.inr ⟨h1, by rw [hz]; rfl, by omega⟩)
      · exact .inr (.inl ⟨h1, beq_eq_false_iff_ne.2 hz, by omega, by rw [if_neg (by omega)]; omega⟩)
    · rw [hd] at h2
      cases h2
theorem doesD_len (d : DV) (o : OpW) : (doesD d o).row.length ≤ d.row.length + o.b.length := by
  unfold doesD
  split
  · unfold growD; split <;> exact Nat.le_add_right _ _
  · split
    · exact Nat.le_add_right _ _
    · split
      · unfold writeD
        split
        · show (d.row ++ segs o.at_.toNat o.b (o.b.length / 64)).length ≤ _
          rw [List.length_append, segs_len]
          omega
        · exact Nat.le_add_right _ _
      · unfold syncD
        split
        · exact Nat.le_add_right _ _
        · split
          · exact Nat.le_add_right _ _
          · exact Nat.zero_le _
/-- What a call does to an armed disk. -/
theorem FI.step {n : Int} {d : DV} (h : FI n d) (o : OpW) : FI n (doesD d o) ∧ (d.down = true → doesE d o = 10 ∧ doesD d o = d) ∧ (d.down = false → ((doesE d o == 10) = (doesD d o).down)) ∧ (doesD d o).ops ≤ d.ops + 1 := by
  unfold doesD doesE
  by_cases k0 : o.k = 0
  · rw [if_pos k0, if_pos k0]
    by_cases hE : growE d o.at_ = 0
    · have hd : d.down = false := by
        cases hd : d.down with
        | false => rfl
        | true => rw [show growE d o.at_ = 10 from if_pos hd] at hE; exact absurd hE (by decide)
      rw [show growD d o.at_ = { d with l := d.l ++ List.replicate (64 * (o.at_.toNat - nD d)) 0 } from if_pos hE, hE]
      exact ⟨⟨h.o0, h.fu, h.st⟩, fun q => (by rw [hd] at q; cases q), fun _ => hd.symm, by show d.ops ≤ _; omega⟩
    · rw [show growD d o.at_ = d from if_neg hE]
      refine ⟨h, fun hd => ⟨if_pos hd, rfl⟩, fun hd => ?_, by omega⟩
      unfold growE at hE ⊢
      rw [hd, if_neg (by decide)] at hE ⊢
      split
      · rfl
      · rename_i hq
        rw [if_neg hq] at hE
        exact absurd rfl hE
  · rw [if_neg k0, if_neg k0]
    by_cases k1 : o.k = 1
    · rw [if_pos k1, if_pos k1]
      unfold readE
      refine ⟨h, fun hd => ⟨if_pos hd, rfl⟩, fun hd => ?_, by omega⟩
      rw [hd, if_neg (by decide)]
      split <;> rfl
    · rw [if_neg k1, if_neg k1]
      by_cases k2 : o.k = 2
      · rw [if_pos k2, if_pos k2]
        unfold writeD writeE
        by_cases hE : wrE d (nD d) o.at_ o.b.length = 0
        · rw [if_pos hE, if_pos hE]
          have hd := (wrE_ok hE).1
          obtain ⟨h1, h2⟩ := h.op hd
          refine ⟨⟨h1.o0, h1.fu, h1.st⟩, fun q => (by rw [hd] at q; cases q), fun _ => ?_, by show d.ops + 1 ≤ _; omega⟩
          show _ = (d.fuse == 0)
          by_cases hf : d.fuse = 0
          · rw [if_pos hf, hf]; rfl
          · rw [if_neg hf, beq_eq_false_iff_ne.2 hf]; rfl
        · rw [if_neg hE, if_neg hE]
          refine ⟨h, fun hd => ⟨if_pos hd, rfl⟩, fun hd => ?_, by omega⟩
          rw [hd]
          unfold wrE
          rw [hd, if_neg (by decide)]
          split
          · rfl
          · split <;> rfl
      · rw [if_neg k2, if_neg k2]
        unfold syncD syncE
        cases hd : d.down with
        | true => exact ⟨h, fun _ => ⟨rfl, rfl⟩, (fun q => by cases q), by simp only [if_true]; omega⟩
        | false =>
          obtain ⟨h1, h2⟩ := h.op hd
          simp only [Bool.false_eq_true, if_false]
          by_cases hf : d.fuse = 0
          · rw [if_pos hf, if_pos hf]
            exact ⟨h1, (fun q => by cases q), fun _ => by rw [h2, hf]; rfl, by show d.ops + 1 ≤ _; omega⟩
          · rw [if_neg hf, if_neg hf]
            exact ⟨⟨h1.o0, h1.fu, h1.st⟩, (fun q => by cases q), fun _ => by show _ = (opD d).down; rw [h2, beq_eq_false_iff_ne.2 hf]; rfl, by show d.ops + 1 ≤ _; omega⟩
theorem FI.eq {n : Int} {d : DV} (h : FI n d) : d.down = (decide (0 ≤ n) && decide (n < d.ops)) := by
  rcases h.st with ⟨h1, h2, h3⟩ | ⟨h1, h2, h3, h4⟩ | ⟨h1, h2, h3⟩
  · rw [h3, decide_eq_false (by omega)]; rfl
  · rw [h2, decide_eq_true h1, decide_eq_false (by omega)]; rfl
  · rw [h2, decide_eq_true h1, decide_eq_true h3]; rfl
end Go.Proofs.YtagfljmjdkoehaaDoor
