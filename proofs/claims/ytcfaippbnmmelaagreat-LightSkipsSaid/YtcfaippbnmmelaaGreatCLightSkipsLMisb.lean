/-
  Two blocks of one height are told to a client.
-/
import Derived.Test.YtcfaippbnmmelaaGreatCLightSkipsLForge
namespace Go.Ax.V
open Go.Ax
set_option linter.unusedVariables false
set_option linter.unusedSimpArgs false
abbrev HdT : Ty := .fld (.int .i64) (.fld (.int .i64) (.fld (.arr 32 (.int .u8)) (.fld (.arr 32 (.int .u8)) (.fld (.arr 32 (.int .u8)) (.fld (.arr 32 (.int .u8)) .unit)))))
abbrev eqHd (a b : Hdr) : Bool := Ty.beq HdT a b
theorem eqHd_iff (a b : Hdr) : eqHd a b = true ↔ a = b := Ty.beq_iff HdT rfl a b
theorem eqHd_self (a : Hdr) : eqHd a a = true := (eqHd_iff a a).2 rfl
theorem eqHd_ne {a b : Hdr} (h : a ≠ b) : eqHd a b = false := by
 rw [← Bool.not_eq_true]; exact fun e => h ((eqHd_iff a b).1 e)
def misS (a b : Block) (c : Cli) : Int × Cli :=
 if c.2.2.2.1 = true then (5, c) else if wholeS a = false then (1, c) else if wholeS b = false then (1, c) else if a.1.1 ≠ b.1.1 then (1, c) else if eqHd a.1 b.1 = true then (1, c)
 else if enS a.2.2.1 a.1 a.2.1 = false ∨ soS c.2.1 a.1 a.2.1 = false then (9, c) else if enS b.2.2.1 b.1 b.2.1 = false ∨ soS c.2.1 b.1 b.2.1 = false then (9, c)
 else (0, (c.1, c.2.1, c.2.2.1, true, ()))
theorem m1_step (n i : Int) (c : Cli) (l : List Block) : qh_1_step n i c l =
  (fork (decide (i < n)) (need (0 ≤ i ∧ i < (List.length l : Int)) (andThen (q2b (l.getD (Int.toNat i) zBlk).2.2.1 (l.getD (Int.toNat i) zBlk).1 (l.getD (Int.toNat i) zBlk).2.1) (fun u13 => fork (!u13) (some (.inr (.inl ((9 : Int), c)))) (andThen (q31 c.2.1 (l.getD (Int.toNat i) zBlk).1 (l.getD (Int.toNat i) zBlk).2.1) (fun u16 => fork (!u16) (some (.inr (.inl ((9 : Int), c)))) (some (.inl (w64 (i + (1 : Int)))))))))) (some (.inr (.inr c))) : Option (Int ⊕ ((Int × Cli) ⊕ Cli))) := rfl
theorem m_one (a b : Block) (c : Cli) (hb : BlkOk b) (hset : SmallV b.2.2.1) (hn : SmallV c.2.1) (i : Int) (hi : i = 0 ∨ i = 1) (l : List Block) (hl : l.length = 2) (hg : l.getD (Int.toNat i) zBlk = b) : qh_1_step 2 i c l =
  if enS b.2.2.1 b.1 b.2.1 = false ∨ soS c.2.1 b.1 b.2.1 = false then some (.inr (.inl (9, c))) else some (.inl (i + 1)) := by
 obtain ⟨b1, b2, b3, _⟩ := hb
 have en := enough_eq b.2.2.1 hset b.1 b1 b.2.1 b3 b2
 have so := some_eq c.2.1 hn b.1 b1 b.2.1 b3 b2
 rw [show decide (allS b.2.2.1 * 2 < partS b.2.2.1 b.1 b.2.1 * 3) = enS b.2.2.1 b.1 b.2.1 from rfl] at en
 rw [show decide (allS c.2.1 * 1 < partS c.2.1 b.1 b.2.1 * 3) = soS c.2.1 b.1 b.2.1 from rfl] at so
 rw [m1_step, fork_t (by omega), need_true (by omega), hg, en, andThen_mk]
 cases enS b.2.2.1 b.1 b.2.1 with
 | false => rw [if_pos (.inl rfl)]; rfl
 | true =>
  rw [Bool.not_true, fork_ff, so, andThen_mk]
  cases soS c.2.1 b.1 b.2.1 with
  | false => rw [if_pos (.inr rfl)]; rfl
  | true => rw [if_neg (by simp), Bool.not_true, fork_ff, w64_eq (by omega) (by omega)]
theorem mis_eq (a b : Block) (c : Cli) (ha : BlkOk a) (hb : BlkOk b) (hc : CliOk c) : qh a b c = some (misS a b c) := by
 obtain ⟨c1, c2, c3, _, _⟩ := hc
 have wa := whole_eq a ha
 have wb := whole_eq b hb
 unfold qh misS
 by_cases q1 : c.2.2.2.1 = true
 ·rw [q1, fork_tt, if_pos rfl]
 rw [if_neg q1]
 have q1 : c.2.2.2.1 = false := by simpa using q1
 rw [q1, fork_ff, wa, andThen_mk]
 cases q2 : wholeS a with
 | false => rw [if_pos rfl]; rfl
 | true =>
  rw [if_neg (by simp), Bool.not_true, fork_ff, wb, andThen_mk]
  have sa : SmallV a.2.2.1 := by
   unfold wholeS at q2
   simp only [Bool.and_eq_true] at q2
   exact (right_small q2.2.1).1
  cases q3 : wholeS b with
  | false => rw [if_pos rfl]; rfl
  | true =>
   have sb : SmallV b.2.2.1 := by
    unfold wholeS at q3
    simp only [Bool.and_eq_true] at q3
    exact (right_small q3.2.1).1
   rw [if_neg (by simp), Bool.not_true, fork_ff]
   by_cases q4 : a.1.1 = b.1.1
   ·rw [fork_nt q4, if_neg (by simpa using q4)]
    show fork (eqHd a.1 b.1) _ _ = _
    cases q5 : eqHd a.1 b.1 with
    | true => rw [fork_tt, if_pos rfl]
    | false =>
     rw [fork_ff, if_neg (by simp)]
     have s0 := m_one a a c ha sa c3 0 (.inl rfl) [a, b] rfl rfl
     have s1 := m_one a b c hb sb c3 1 (.inr rfl) [a, b] rfl rfl
     show andThen (qh_1 2 0 c [a, b]) _ = _
     unfold qh_1
     by_cases r1 : enS a.2.2.1 a.1 a.2.1 = false ∨ soS c.2.1 a.1 a.2.1 = false
     ·rw [if_pos r1] at s0
      rw [if_pos r1, loop_out s0]
      rfl
     ·rw [if_neg r1] at s0
      rw [if_neg r1, loop_next s0]
      by_cases r2 : enS b.2.2.1 b.1 b.2.1 = false ∨ soS c.2.1 b.1 b.2.1 = false
      ·rw [if_pos r2] at s1
       rw [if_pos r2, show (0 : Int) + 1 = 1 from rfl, loop_out s1]
       rfl
      ·rw [if_neg r2] at s1
       rw [if_neg r2, show (0 : Int) + 1 = 1 from rfl, loop_next s1]
       have s2 : qh_1_step 2 ((1 : Int) + 1) c [a, b] = some (.inr (.inr c)) := by rw [m1_step, fork_f (by omega)]
       rw [loop_out s2]
       rfl
   ·rw [fork_nf q4, if_pos (by simpa using q4)]
end Go.Ax.V
