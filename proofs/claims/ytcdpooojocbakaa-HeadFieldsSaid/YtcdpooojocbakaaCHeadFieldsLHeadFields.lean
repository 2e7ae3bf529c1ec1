/-
  Chapter 11: heights and times at their edges; each field is kept by itself.
-/
import Derived.Test.YtcdpooojocbakaaCHeadFieldsLHeadTells1
namespace Go.Ax.V
open Go.Ax
set_option linter.unusedVariables false
set_option linter.unusedSimpArgs false

theorem xor_ne (a c : UInt8) (h : c ≠ 0) : a ^^^ c ≠ a := by
  intro e
  apply h
  have : a ^^^ (a ^^^ c) = a ^^^ a := by rw [e]
  rwa [← UInt8.xor_assoc, UInt8.xor_self, UInt8.zero_xor] at this
theorem or_one_ne (a : UInt8) : a ||| 1 ≠ 0 := by
  intro e
  have h := congrArg UInt8.toNat e
  rw [UInt8.toNat_or] at h
  have : (1 : UInt8).toNat ≤ a.toNat ||| (1 : UInt8).toNat := Nat.right_le_or
  rw [h] at this
  exact absurd this (by decide)
theorem set_ne (l : List UInt8) (hl : l.length = 32) (j : Nat) (hj : j < 32) (c : UInt8) (hc : c ≠ 0) : l.set j (l.getD j 0 ^^^ c) ≠ l := by
  intro e
  have h := congrArg (fun x : List UInt8 => x.getD j 0) e
  simp only [List.getD_eq_getElem?_getD] at h
  rw [List.getElem?_set_self (by omega)] at h
  exact xor_ne _ c hc h
theorem tailF (x y : Hdr) (hx : Hashes x) (hy : Hashes y) (rx : rightHS x = true) (ry : rightHS y = true) (ne : y ≠ x) :
    andThen (head_Bytes y) (fun u23 => andThen (head_Read u23) (fun u25 => fork (decide (u25.2 = (0 : Int))) (fork (Ty.beq (.fld (.int .i64) (.fld (.int .i64) (.fld (.arr 32 (.int .u8)) (.fld (.arr 32 (.int .u8)) (.fld (.arr 32 (.int .u8)) (.fld (.arr 32 (.int .u8)) .unit)))))) u25.1 y) (fork (!(Ty.beq (.fld (.int .i64) (.fld (.int .i64) (.fld (.arr 32 (.int .u8)) (.fld (.arr 32 (.int .u8)) (.fld (.arr 32 (.int .u8)) (.fld (.arr 32 (.int .u8)) .unit)))))) u25.1 x)) (andThen (head_Bytes x) (fun u30 => andThen (head_Bytes y) (fun u32 => andThen (affiantbook_Same_byte u30 u32) (fun u34 => fork (!u34) (andThen (head_Hash y) (fun u37 => andThen (affiantref10_HeaderHash y) (fun u39 => fork (Ty.beq (.arr 32 (.int .u8)) u37 u39) (andThen (affiantlaw11_HeadRuns) (fun u42 => some u42)) (none)))) (none))))) (none)) (none)) (none))) = some true := by
  have lx := bytesS_len x hx
  have ly := bytesS_len y hy
  have eb : bytesS y = bodyS y := by unfold bytesS; rw [if_pos ry]
  have nb : Ty.beq hdrTy y x = false := by
    cases h : Ty.beq hdrTy y x with
    | false => rfl
    | true => exact absurd ((Ty.beq_iff hdrTy rfl y x).1 h) ne
  rw [bytes_eq y hy, andThen_mk, read_bytes y hy ry, andThen_mk, fork_t rfl, beq_self hdrTy rfl y, fork_tt]
  show fork (!Ty.beq hdrTy y x) _ _ = _
  rw [nb, show (!false) = true from rfl, fork_tt, bytes_eq x hx, andThen_mk, andThen_mk, same_eq _ _ (by omega) (by omega), andThen_mk, decide_eq_false (fun e => ne (bytes_inj y x hy hx ry rx e.symm)), show (!false) = true from rfl, fork_tt, headHash_eq y hy, andThen_mk, rheadHash_eq y hy, andThen_mk, eb, beq_hash, fork_tt, law_HeadRuns]
  rfl
theorem law_HeadFields (y0 : Int × Int × Int × Int × Int × Int × Unit) (y1 y2 y3 : Int) (y4 : UInt8) (w0 : Wf (.fld (.int .i64) (.fld (.int .i64) (.fld (.int .i64) (.fld (.int .i64) (.fld (.int .i64) (.fld (.int .i64) .unit)))))) y0) (w1 : Wf (.int .i64) y1) (w2 : Wf (.int .i64) y2) (w3 : Wf (.int .i64) y3) (w4 : Wf (.int .u8) y4) : affiantlaw11_HeadFields y0 y1 y2 y3 y4 = some true := by
  unfold affiantlaw11_HeadFields
  obtain ⟨k, e1, hk, _, _⟩ := header_eq y0
  obtain ⟨a, e2, a1, a2⟩ := within_eq y1 (-1) 18 (by omega) (by omega) (by omega)
  obtain ⟨t, e3, t1, t2⟩ := within_eq y2 (-2) 1073741826 (by omega) (by omega) (by omega)
  obtain ⟨q, e4, q1, q2⟩ := within_eq y3 0 3 (by omega) (by omega) (by omega)
  clear w0 w1 w2 w3 w4
  obtain ⟨k1, k2, r, v, n, l, u⟩ := k
  have hx : Hashes (a, t, r, v, n, l, ()) := hk
  have lx := bytesS_len _ hx
  have px := bytes_pos' (a, t, r, v, n, l, ())
  rw [e1, andThen_mk, e2, andThen_mk, e3, andThen_mk]
  simp only
  have bad : rightHS (a, t, r, v, n, l, ()) = false → andThen (head_Right (a, t, r, v, n, l, ())) (fun u112 => fork (!(u112 == false)) (none) (andThen (head_Bytes (a, t, r, v, n, l, ())) (fun u115 => fork (!((decide ((0 : Int) < (List.length u115 : Int))) == false)) (none) (andThen (affiantlaw11_HeadRuns) (fun u118 => some u118))))) = some true := by
    intro h
    rw [rightH_eq, andThen_mk, h, bytes_eq _ hx, andThen_mk, px, h, law_HeadRuns]; rfl
  by_cases c1 : 1 ≤ a
  · rw [fork_t c1]
    by_cases c2 : a ≤ 16
    · rw [fork_t c2]
      by_cases c3 : 0 ≤ t
      · rw [fork_t c3]
        have hr : rightHS (a, t, r, v, n, l, ()) = decide (t ≤ 1073741824) := by
          show (decide (1 ≤ a) && (decide (a ≤ 16) && (decide (0 ≤ t) && decide (t ≤ 1073741824)))) = _
          rw [decide_eq_true c1, decide_eq_true c2, decide_eq_true c3]; rfl
        rw [rightH_eq, andThen_mk, bytes_eq _ hx, andThen_mk, px, hr, e4, law_HeadRuns]
        cases ht : decide (t ≤ 1073741824) with
        | false => rfl
        | true =>
          rw [ht] at hr
          simp only [beq_self_eq_true, Bool.not_true, fork_ff, andThen_mk]
          have hj : (y4 &&& 31).toNat < 32 := by
            rw [UInt8.toNat_and]
            have : y4.toNat &&& (31 : UInt8).toNat ≤ (31 : UInt8).toNat := Nat.and_le_right
            have e : (31 : UInt8).toNat = 31 := rfl
            omega
          have hj2 : Int.toNat (((y4 &&& 31).toNat : Nat) : Int) < 32 := by omega
          have hc := or_one_ne y4
          have hx' := hx
          obtain ⟨x1, x2, x3, x4⟩ := hx'
          simp only at x1 x2 x3 x4
          have tl := fun y hy ry ne => tailF (a, t, r, v, n, l, ()) y hx hy hr ry ne
          simp only [law_HeadRuns, andThen_mk, bytes_eq _ hx] at tl
          by_cases d0 : q = 0
          · rw [fork_t d0, need_true (by omega)]
            exact tl (a, t, (List.set r (Int.toNat (((y4 &&& 31).toNat : Nat) : Int)) (List.getD r (Int.toNat (((y4 &&& 31).toNat : Nat) : Int)) 0 ^^^ (y4 ||| 1))), v, n, l, ()) ⟨by rw [List.length_set]; exact x1, x2, x3, x4⟩ hr (fun e => set_ne r x1 _ hj2 _ hc (congrArg (fun h : Hdr => h.2.2.1) e))
          · rw [fork_f d0]
            by_cases d1 : q = 1
            · rw [fork_t d1, need_true (by omega)]
              exact tl (a, t, r, (List.set v (Int.toNat (((y4 &&& 31).toNat : Nat) : Int)) (List.getD v (Int.toNat (((y4 &&& 31).toNat : Nat) : Int)) 0 ^^^ (y4 ||| 1))), n, l, ()) ⟨x1, by rw [List.length_set]; exact x2, x3, x4⟩ hr (fun e => set_ne v x2 _ hj2 _ hc (congrArg (fun h : Hdr => h.2.2.2.1) e))
            · rw [fork_f d1]
              by_cases d2 : q = 2
              · rw [fork_t d2, need_true (by omega)]
                exact tl (a, t, r, v, (List.set n (Int.toNat (((y4 &&& 31).toNat : Nat) : Int)) (List.getD n (Int.toNat (((y4 &&& 31).toNat : Nat) : Int)) 0 ^^^ (y4 ||| 1))), l, ()) ⟨x1, x2, by rw [List.length_set]; exact x3, x4⟩ hr (fun e => set_ne n x3 _ hj2 _ hc (congrArg (fun h : Hdr => h.2.2.2.2.1) e))
              · rw [fork_f d2, need_true (by omega)]
                exact tl (a, t, r, v, n, (List.set l (Int.toNat (((y4 &&& 31).toNat : Nat) : Int)) (List.getD l (Int.toNat (((y4 &&& 31).toNat : Nat) : Int)) 0 ^^^ (y4 ||| 1))), ()) ⟨x1, x2, x3, by rw [List.length_set]; exact x4⟩ hr (fun e => set_ne l x4 _ hj2 _ hc (congrArg (fun h : Hdr => h.2.2.2.2.2.1) e))
      · rw [fork_f c3]
        exact bad (by
          show (decide (1 ≤ a) && (decide (a ≤ 16) && (decide (0 ≤ t) && decide (t ≤ 1073741824)))) = _
          rw [decide_eq_false c3]; simp)
    · rw [fork_f c2]
      exact bad (by
        show (decide (1 ≤ a) && (decide (a ≤ 16) && (decide (0 ≤ t) && decide (t ≤ 1073741824)))) = _
        rw [decide_eq_false c2]; simp)
  · rw [fork_f c1]
    exact bad (by
      show (decide (1 ≤ a) && (decide (a ≤ 16) && (decide (0 ≤ t) && decide (t ≤ 1073741824)))) = _
      rw [decide_eq_false c1]; simp)
end Go.Ax.V
