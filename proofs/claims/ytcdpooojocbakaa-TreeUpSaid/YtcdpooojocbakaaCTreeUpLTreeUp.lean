/-
  Chapter 4: each leaf's path leads up to the root, from its own place, in its own tree; another leaf, another place, a path with a bit turned lead where the document's own reckoning leads.
-/
import Derived.Test.YtcdpooojocbakaaCTreeUpLTreeRuns
import Derived.Test.YtcdpooojocbakaaCTreeUpLRTree
import Derived.Test.YtcdpooojocbakaaCTreeUpLRows4
import Derived.Test.YtcdpooojocbakaaCTreeUpLWithin
namespace Go.Ax.V
open Go.Ax
set_option linter.unusedVariables false
set_option linter.unusedSimpArgs false

theorem upS_ok (leaf : List UInt8) (i n : Int) (p : List (List UInt8)) (h : isS i n = true) : (upS leaf i n p).2 = decide (p.length = (sidesF n.toNat i.toNat n.toNat).length) := by
  unfold upS
  by_cases e : p.length = (sidesF n.toNat i.toNat n.toNat).length
  · rw [if_pos ⟨h, e⟩, decide_eq_true e]
  · rw [if_neg (fun hh => e hh.2), decide_eq_false e]
theorem getI_small (l : List (List UInt8)) (hs : Small l) (k : Nat) : (l.getD k []).length ≤ 1000000 := by
  rw [List.getD_eq_getElem?_getD]
  cases e : l[k]? with
  | none => simp
  | some x => exact hs x (List.mem_of_getElem? e)
theorem tail2 (l : List (List UInt8)) (i : Int) (p : List (List UInt8)) (hp : ∀ x ∈ p, x.length = 32) (hl : l.length ≤ 16) (hs : Small l) (hi : 0 ≤ i ∧ i < (l.length : Int)) (he : p.length = (sidesF (l.length : Int).toNat i.toNat (l.length : Int).toNat).length) (hb : p.length ≤ 1000) (b0 : Int) :
    (fork (decide ((List.length p : Int) = (0 : Int))) (andThen (affiantlaw4_TreeRuns) (fun w39 => some w39)) (andThen (affiantbook_Within b0 (0 : Int) (w64 ((w64 ((256 : Int) * (List.length p : Int))) - (1 : Int)))) (fun w41 => need (List.length ([] : List (List UInt8)) + List.length p ≤ 2147483648) (need (0 ≤ (w64 (Int.tdiv w41 (256 : Int))) ∧ (w64 (Int.tdiv w41 (256 : Int))) < (List.length (([] : List (List UInt8)) ++ p) : Int)) (need (0 ≤ (w64 (Int.tdiv (Int.tmod w41 (256 : Int)) (8 : Int))) ∧ (w64 (Int.tdiv (Int.tmod w41 (256 : Int)) (8 : Int))) < (32 : Int)) (need (0 ≤ (((UInt64.ofNat (Int.toNat ((Int.tmod w41 (8 : Int)) % 18446744073709551616))).toNat : Nat) : Int)) (andThen (tree_Up (List.getD l (Int.toNat i) ([] : List UInt8)) i (List.length l : Int) (List.set (([] : List (List UInt8)) ++ p) (Int.toNat (w64 (Int.tdiv w41 (256 : Int)))) (List.set (List.getD (([] : List (List UInt8)) ++ p) (Int.toNat (w64 (Int.tdiv w41 (256 : Int)))) (List.replicate 32 (0 : UInt8))) (Int.toNat (w64 (Int.tdiv (Int.tmod w41 (256 : Int)) (8 : Int)))) ((List.getD (List.getD (([] : List (List UInt8)) ++ p) (Int.toNat (w64 (Int.tdiv w41 (256 : Int)))) (List.replicate 32 (0 : UInt8))) (Int.toNat (w64 (Int.tdiv (Int.tmod w41 (256 : Int)) (8 : Int)))) (0 : UInt8)) ^^^ (UInt8.ofNat (UInt8.toNat (1 : UInt8) <<< (Int.toNat (((UInt64.ofNat (Int.toNat ((Int.tmod w41 (8 : Int)) % 18446744073709551616))).toNat : Nat) : Int)))))))) (fun w47 => andThen (affiantref1_Up (List.getD l (Int.toNat i) ([] : List UInt8)) i (List.length l : Int) (List.set (([] : List (List UInt8)) ++ p) (Int.toNat (w64 (Int.tdiv w41 (256 : Int)))) (List.set (List.getD (([] : List (List UInt8)) ++ p) (Int.toNat (w64 (Int.tdiv w41 (256 : Int)))) (List.replicate 32 (0 : UInt8))) (Int.toNat (w64 (Int.tdiv (Int.tmod w41 (256 : Int)) (8 : Int)))) ((List.getD (List.getD (([] : List (List UInt8)) ++ p) (Int.toNat (w64 (Int.tdiv w41 (256 : Int)))) (List.replicate 32 (0 : UInt8))) (Int.toNat (w64 (Int.tdiv (Int.tmod w41 (256 : Int)) (8 : Int)))) (0 : UInt8)) ^^^ (UInt8.ofNat (UInt8.toNat (1 : UInt8) <<< (Int.toNat (((UInt64.ofNat (Int.toNat ((Int.tmod w41 (8 : Int)) % 18446744073709551616))).toNat : Nat) : Int)))))))) (fun w49 => need (0 ≤ (1 : Int) ∧ (1 : Int) ≤ (List.length p : Int) ∧ (List.length p : Int) ≤ (List.length p : Int)) (andThen (tree_Up (List.getD l (Int.toNat i) ([] : List UInt8)) i (List.length l : Int) (cutL p (1 : Int) (List.length p : Int))) (fun w52 => fork w47.2 (fork (Ty.beq (.arr 32 (.int .u8)) w47.1 w49.1) (fork (!w52.2) (andThen (affiantlaw4_TreeRuns) (fun w57 => some w57)) (none)) (none)) (none)))))))))))) = some true := by
  by_cases h0 : p.length = 0
  · rw [fork_t (by omega), law_TreeRuns]; rfl
  · rw [fork_f (by omega)]
    simp only [List.nil_append]
    have g := getI_small l hs (Int.toNat i)
    have hS : isS i (l.length : Int) = true := (isS_iff _ _).2 (by omega)
    have e1 : w64 (w64 (256 * (p.length : Int)) - 1) = 256 * (p.length : Int) - 1 := by rw [w64_eq (n := 256 * (p.length : Int)) (by omega) (by omega), w64_eq (by omega) (by omega)]
    rw [e1]
    obtain ⟨b, e2, b1, b2⟩ := within_eq b0 0 (256 * (p.length : Int) - 1) (by omega) (by omega) (by omega)
    have d1 : w64 (Int.tdiv b 256) = b / 256 := by rw [Int.tdiv_eq_ediv_of_nonneg b1, w64_eq (by omega) (by omega)]
    have d2 : w64 (Int.tdiv (Int.tmod b 256) 8) = b % 256 / 8 := by rw [Int.tmod_eq_emod_of_nonneg b1, Int.tdiv_eq_ediv_of_nonneg (by omega), w64_eq (by omega) (by omega)]
    rw [e2, andThen_mk]
    simp only [d1, d2]
    rw [need_true (by simp; omega), need_true (by omega), need_true (by omega), need_true (by omega)]
    generalize hq : List.set p (Int.toNat (b / 256)) _ = q
    have q1 : q.length = p.length := by rw [← hq, List.length_set]
    have q2 : ∀ x ∈ q, x.length = 32 := by
      intro x hx
      rw [← hq] at hx
      rcases List.mem_or_eq_of_mem_set hx with h | h
      · exact hp x h
      · rw [h, List.length_set]
        rw [List.getD_eq_getElem?_getD]
        cases e : p[Int.toNat (b / 256)]? with
        | none => rfl
        | some y => exact hp y (List.mem_of_getElem? e)
    have ok := upS_ok (l.getD (Int.toNat i) []) i (l.length : Int) q hS
    rw [q1, decide_eq_true he] at ok
    have no := upS_ok (l.getD (Int.toNat i) []) i (l.length : Int) (cutL p 1 (p.length : Int)) hS
    have cl := cut_len p 1 (p.length : Int) (by omega) (by omega) (by omega)
    rw [decide_eq_false (by omega)] at no
    obtain ⟨x, x1, x2, _⟩ := rup_eq (l.getD (Int.toNat i) []) g i (l.length : Int) (by omega) q q2 (by omega)
    have hcm : ∀ x ∈ cutL p 1 (p.length : Int), x.length = 32 := fun x hx => hp x (List.mem_of_mem_take (List.mem_of_mem_drop hx))
    rw [up_eq _ g i _ (by omega) q q2 (by omega), andThen_mk, x1, andThen_mk, need_true (by omega), up_eq _ g i _ (by omega) _ hcm (by omega), andThen_mk, ok, fork_tt, x2 ok, beq_hash, fork_tt, no, show (!false) = true from rfl, fork_tt, law_TreeRuns]
    rfl
theorem law_TreeUp (y0 : List (List UInt8)) (y1 y2 y3 : Int) (y4 : List UInt8) (w0 : Wf (.slice .str) y0) (w1 : Wf (.int .i64) y1) (w2 : Wf (.int .i64) y2) (w3 : Wf (.int .i64) y3) (w4 : Wf .str y4) : affiantlaw4_TreeUp y0 y1 y2 y3 y4 = some true := by
  unfold affiantlaw4_TreeUp
  obtain ⟨l, e0, hl, hs⟩ := rows_eq y0 16 (by omega)
  have e0' : affiantlaw4_rows y0 16 = some l := e0
  rw [e0', andThen_mk]
  by_cases h0 : l.length = 0
  · rw [fork_t (by omega), law_TreeRuns]; rfl
  · obtain ⟨i, e1, i1, i2⟩ := within_eq y1 0 ((l.length : Int) - 1) (by omega) (by omega) (by omega)
    obtain ⟨j, e2, j1, j2⟩ := within_eq y2 0 ((l.length : Int) - 1) (by omega) (by omega) (by omega)
    have hw : w64 ((l.length : Int) - 1) = (l.length : Int) - 1 := w64_eq (by omega) (by omega)
    rw [fork_f (by omega), root_eq l (by omega) hs, andThen_mk, hw, e1, andThen_mk, e2, andThen_mk, path_eq l i (by omega) hs, andThen_mk, need_true (by omega)]
    have hS : isS i (l.length : Int) = true := (isS_iff _ _).2 (by omega)
    have g := getI_small l hs (Int.toNat i)
    have hpS : pathS l i = pathF l.length l i.toNat := if_pos (by omega)
    have hp : ∀ x ∈ pathS l i, x.length = 32 := by rw [hpS]; exact pathF_32 _ _ _
    have hpl : (pathS l i).length ≤ 16 := by rw [hpS]; exact Nat.le_trans (pathF_len _ _ _) hl
    have he : (pathS l i).length = (sidesF (l.length : Int).toNat i.toNat (l.length : Int).toNat).length := by
      rw [hpS, path_sides _ _ _ (by omega), Int.toNat_natCast]
    have hup : upS (l.getD (Int.toNat i) []) i (l.length : Int) (pathS l i) = (rootS l, true) := by
      unfold upS
      rw [if_pos ⟨hS, he⟩, Int.toNat_natCast, hpS, path_up _ l _ (by omega) (by omega) (by omega)]
    have hc := cut_len y4 0 (min (y4.length : Int) 20) (by omega) (by omega) (by omega)
    have tl := tail2 l i (pathS l i) hp hl hs (by omega) he (by omega) y3
    rw [up_eq _ g i _ (by omega) _ hp (by omega), hup, andThen_mk]
    simp only
    rw [show (!true) = false from rfl, fork_ff, beq_hash, show (!true) = false from rfl, fork_ff, depth_eq i _ (by omega), if_pos hS, andThen_mk, fork_nt (by omega), need_true (by omega)]
    generalize cutL y4 0 (min (y4.length : Int) 20) = o at hc ⊢
    have go : o.length ≤ 1000000 := by omega
    have ok := upS_ok o i (l.length : Int) (pathS l i) hS
    rw [decide_eq_true he] at ok
    obtain ⟨x, x1, x2, _⟩ := rup_eq o go i (l.length : Int) (by omega) (pathS l i) hp (by omega)
    obtain ⟨y, z1, z2, _⟩ := rup_eq (l.getD (Int.toNat i) []) g j (l.length : Int) (by omega) (pathS l i) hp (by omega)
    rw [up_eq o go i _ (by omega) _ hp (by omega), andThen_mk, up_eq _ g j _ (by omega) _ hp (by omega), andThen_mk, x1, andThen_mk, z1, andThen_mk, ok]
    simp only
    rw [show (!true) = false from rfl, fork_ff, x2 ok, beq_hash, show (!true) = false from rfl, fork_ff, beq_self_eq_true, show (!true) = false from rfl, fork_ff, tl]
    have same : o = l.getD (Int.toNat i) [] → (upS o i (l.length : Int) (pathS l i)).1 = rootS l := fun e => by rw [e, hup]
    cases hb : (upS (l.getD (Int.toNat i) []) j (l.length : Int) (pathS l i)).2 with
    | true =>
      rw [fork_tt, z2 hb, beq_hash, show (!true) = false from rfl, fork_ff]
      by_cases c : o = l.getD (Int.toNat i) []
      · rw [fork_t c, same c, beq_hash]; rfl
      · rw [fork_f c]
    | false =>
      rw [fork_ff]
      by_cases c : o = l.getD (Int.toNat i) []
      · rw [fork_t c, same c, beq_hash]; rfl
      · rw [fork_f c]
end Go.Ax.V
