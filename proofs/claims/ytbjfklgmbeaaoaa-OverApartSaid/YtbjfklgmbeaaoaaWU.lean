/- bytes.Join, of pages and of nothing between them. -/
import Derived.Test.YtbjfklgmbeaaoaaWT
import Derived.Shelf.Bytes.SlJoin
set_option linter.unusedVariables false
set_option linter.unusedSimpArgs false
namespace Go.Proofs.Ytbjfklgmbeaaoaa
open Go.RowKit Go.Shelf Go.Proofs
/-- The numbers of bytes.Join, of what it calls and of its types, here. -/
def ren14 : Ren where
  f x := if x = 14 then 22 else if x = 15 then 56 else x
  t x := if x = 26 then 43 else if x = 22 then 27 else if x = 3 then 3 else if x = 4 then 4 else if x = 0 then 0 else if x = 9 then 9 else if x = 20 then 20 else if x = 5 then 5 else x
  g x := x
set_option maxRecDepth 100000 in
theorem lays14 : SlLaysJ.n14 Try.prog ren14 :=
  { mixed := by kernel_rfl,
    f14 := Try.func22.trans (by kernel_rfl),
    f15 := Try.func56.trans (by kernel_rfl),
    t0 := Try.underlying0,
    a0 := Try.isAgg0,
    z0 := Try.sizeOf0,
    v0 := Try.zeroValue0,
    t3 := Try.underlying3,
    a3 := Try.isAgg3,
    z3 := Try.sizeOf3,
    v3 := Try.zeroValue3,
    t4 := Try.underlying4,
    a4 := Try.isAgg4,
    z4 := Try.sizeOf4,
    v4 := Try.zeroValue4,
    t9 := Try.underlying9,
    a9 := Try.isAgg9,
    z9 := Try.sizeOf9,
    v9 := Try.zeroValue9,
    t20 := Try.underlying20,
    a20 := Try.isAgg20,
    z20 := Try.sizeOf20,
    v20 := Try.zeroValue20,
    t22 := Try.underlying27,
    a22 := Try.isAgg27,
    z22 := Try.sizeOf27,
    v22 := Try.zeroValue27,
    t26 := Try.underlying43,
    a26 := Try.isAgg43,
    z26 := Try.sizeOf43,
    v26 := Try.zeroValue43,
    t5 := Try.underlying5,
    z5 := Try.sizeOf5,
    i5 := by kernel_rfl }
theorem flat_len : ∀ {l : List (List UInt8)}, (∀ x, x ∈ l → x.length = 256) → l.flatten.length = 256 * l.length
  | [], _ => rfl
  | x :: l, h => by
    have h1 := h x List.mem_cons_self
    have h2 := flat_len (l := l) (fun y hy => h y (List.mem_cons_of_mem _ hy))
    rw [List.flatten_cons, List.length_append, h1, h2, List.length_cons]
    omega
theorem lens_256 : ∀ {l : List (List UInt8)}, (∀ x, x ∈ l → x.length = 256) → Lib.lens l = 256 * l.length
  | [], _ => rfl
  | x :: l, h => by
    have h1 := h x List.mem_cons_self
    have h2 := lens_256 (l := l) (fun y hy => h y (List.mem_cons_of_mem _ hy))
    unfold Lib.lens at h2 ⊢
    rw [List.map_cons, List.sum_cons, h1, h2, List.length_cons]
    omega
theorem join_nil {l : List (List UInt8)} : Lib.join l [] = l.flatten := by
  cases l with
  | nil => rfl
  | cons x r =>
    rw [Lib.join_cons]
    unfold Lib.joinTail
    simp
theorem fresh_bs {B : Nat} {w : World} {v : Value} {l : List UInt8} (h : Lib.FreshBytes B w v l) (hl : l.length ≤ 140737488355328) : ∃ g c1, v = .slice (some ⟨g, 0, none⟩) l.length c1 ∧ B ≤ g ∧ Bs w (some ⟨g, 0, none⟩) l.length c1 l := by
  obtain ⟨g, cap, zs, rfl, hB, hle, hmax, hzl, hz, hzb, hcell, _⟩ := h
  refine ⟨g, cap, rfl, hB, ⟨rfl, hle, Nat.le_trans hmax (by unfold maxLen; omega), hl, fun _ => ⟨_, rfl, fun j hj => ?_⟩⟩⟩
  rw [add_plain, hcell j (by omega)]
  have h1 : l[j]? = ((zs.take l.length).map fun n => UInt8.ofNat n.toNat)[j]? := by rw [show ((zs.take l.length).map fun n => UInt8.ofNat n.toNat) = l from hzb]
  have hj2 : j < zs.length := by omega
  rw [List.getElem?_map, List.getElem?_take, if_pos hj, List.getElem?_eq_getElem hj2, Option.map_some] at h1
  have h2 := hz zs[j] (List.getElem_mem hj2)
  unfold b8
  rw [List.getD_eq_getElem?_getD, List.getD_eq_getElem?_getD, h1, List.getElem?_eq_getElem hj2]
  simp only [Option.getD_some]
  congr 2
  rw [UInt8.toNat_ofNat']
  omega
theorem bsh_holds {w : World} {p : SH} {q : List UInt8} (h : Bs w p.1 p.2.1 p.2.2 q) (h256 : q.length = 256) : Lib.HoldsBytes w (shv p) q := by
  obtain ⟨A, n, c⟩ := p
  have hl : q.length = n := h.len
  obtain ⟨ad, e, hc⟩ := h.cells (by show 0 < n; omega)
  have e : A = some ad := e
  subst e
  refine ⟨some ad, c, by rw [hl]; rfl, (fun h => by cases h), fun a ha i x hx => ?_⟩
  injection ha with ha
  subst ha
  have hi := (List.getElem?_eq_some_iff.1 hx).1
  rw [hc i (by show i < n; omega)]
  unfold b8
  rw [List.getD_eq_getElem?_getD, hx]
  rfl
theorem join8_any (A : Option Addr) (n c : Nat) (hs : List SH) (l : List (List UInt8)) (b : Nat) (w : World) (h1 : 1 ≤ n) (hn : n ≤ 100) (hl : Oc w b 27 1 A n c (shl hs)) (hln : l.length = n) (hp : Pgf w b hs l) (h256 : ∀ x, x ∈ l → x.length = 256) :
    Calls Try.prog 22 #[.slice A n c, .slice none 0 0] w fun e w' => ∃ g c1, e = .returned (.slice (some ⟨g, 0, none⟩) (256 * n) c1) ∧ w.heap.size ≤ g ∧ Bs w' (some ⟨g, 0, none⟩) (256 * n) c1 l.flatten ∧ Below w.heap.size w w' := by
  have hhs : hs.length = n := by rw [hp.len, hln]
  have hfl : l.flatten.length = 256 * n := by rw [flat_len h256, hln]
  have hsh := fun j hj => hl.rc.sh hhs j hj
  obtain ⟨g0, hg0⟩ : ∃ g0, A = some ⟨g0, 0, none⟩ := by
    rcases hl.row.2 with ⟨q, _⟩ | ⟨g, cap, cur, q, _⟩
    · injection q with q1 q2 q3
      omega
    · injection q with q1 q2 q3
      exact ⟨g, q1⟩
  subst hg0
  have hcap : n ≤ c := hl.cap.1
  have hpa : Lib.PartsAt w ⟨g0, 0, none⟩ (shl hs) l := by
    refine ⟨by rw [shl_len, hhs, hln], fun i v hv => ?_, fun i v q hv hq => ?_⟩
    · have hi : i < n := by have := (List.getElem?_eq_some_iff.1 hv).1; rw [shl_len] at this; omega
      obtain ⟨ad, p, e, hpj, k⟩ := hsh i hi
      injection e with e
      subst e
      rw [k]
      unfold shl at hv
      rw [List.getElem?_map, hpj] at hv
      exact hv
    · have hi : i < n := by have := (List.getElem?_eq_some_iff.1 hv).1; rw [shl_len] at this; omega
      obtain ⟨ad, p, e, hpj, k⟩ := hsh i hi
      obtain ⟨q', hq', hb, _⟩ := hp.each i p hpj
      rw [hq'] at hq
      injection hq with hq
      subst hq
      unfold shl at hv
      rw [List.getElem?_map, hpj] at hv
      injection hv with hv
      subst hv
      exact bsh_holds hb (h256 _ (List.mem_of_getElem? hq'))
  have hf : ren14.f 14 = 22 := by kernel_rfl
  rw [← hf]
  by_cases q : n = 1
  · subst q
    obtain ⟨ad, ⟨pa, pn, pc⟩, e, hpj, k⟩ := hsh 0 (by omega)
    obtain ⟨q', hq', hb, _⟩ := hp.each 0 _ hpj
    have h2 := h256 _ (List.mem_of_getElem? hq')
    obtain ⟨p3, c3, e3, hno, hcc⟩ := bsh_holds hb h2
    injection e with e
    subst e
    rw [e3] at k
    obtain ⟨ad0, rfl⟩ : ∃ ad0, p3 = some ad0 := by
      cases p3 with
      | none => have := hno rfl; rw [this] at h2; cases h2
      | some a => exact ⟨a, rfl⟩
    have hlq : l.flatten = q' := by
      match l, hln, hq' with
      | [x], _, h => injection h with h; subst h; simp
    refine (Any.bytes_Join_one lays14 g0 0 c ad0 c3 q' (.slice none 0 0) w k (hcc ad0 rfl) (by omega) (by omega)).mono ?_
    rintro e w' ⟨v', rfl, hF, hB⟩
    obtain ⟨g, c1, rfl, hg, hb1⟩ := fresh_bs hF (by omega)
    rw [← hlq, hfl] at hb1
    rw [← hlq, hfl]
    exact ⟨g, c1, rfl, hg, hb1, hB⟩
  · refine (Any.bytes_Join_many lays14 g0 0 n c (shl hs) l (.slice none 0 0) [] w hln (by omega) hpa hcap ⟨none, 0, rfl, (fun _ => rfl), (fun a h => by cases h)⟩ (by omega) (by rw [lens_256 h256, hln]; simp; omega)).mono ?_
    rintro e w' ⟨v', rfl, hF, hB⟩
    rw [join_nil] at hF
    obtain ⟨g, c1, rfl, hg, hb1⟩ := fresh_bs hF (by omega)
    rw [hfl] at hb1
    rw [hfl]
    exact ⟨g, c1, rfl, hg, hb1, hB⟩
end Go.Proofs.Ytbjfklgmbeaaoaa
