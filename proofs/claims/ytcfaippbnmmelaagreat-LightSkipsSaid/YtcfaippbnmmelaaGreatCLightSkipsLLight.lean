/-
  A client of a chain: new, told of blocks, of two that don't go together.
-/
import Derived.Test.YtcfaippbnmmelaaGreatCLightSkipsLChain
namespace Go.Ax.V
open Go.Ax
set_option linter.unusedVariables false
set_option linter.unusedSimpArgs false
abbrev eqH (x y : List UInt8) : Bool := Ty.beq (.arr 32 (.int .u8)) x y
abbrev Cli := List Hdr × List Val × Int × Bool × Unit
def KeyOk (l : List Val) : Prop := ∀ v ∈ l, v.2.2.1.length = 32
def BlkOk (b : Block) : Prop := Hashes b.1 ∧ SgOk b.2.1 ∧ b.2.1.length ≤ 1000000 ∧ KeyOk b.2.2.1 ∧ KeyOk b.2.2.2.1 ∧ b.2.2.1.length ≤ 1000000 ∧ b.2.2.2.1.length ≤ 1000000
theorem right_small {l : List Val} (h : rightS l = true) : SmallV l ∧ l.length ≤ 5 ∧ 1 ≤ l.length ∧ ∀ v ∈ l, v.1.length ≤ 16 := by
 unfold rightS at h
 simp only [Bool.and_eq_true, decide_eq_true_eq] at h
 obtain ⟨h1, h2, h3⟩ := h
 have key : ∀ v ∈ l, mayS v = true := by
  intro v hv
  obtain ⟨i, hi, rfl⟩ := List.getElem_of_mem hv
  have := List.all_eq_true.1 h1 i (List.mem_range.2 hi)
  unfold okAt at this
  rw [Bool.and_eq_true] at this
  rw [List.getD_eq_getElem?_getD, List.getElem?_eq_getElem hi] at this
  exact this.1
 have key2 : ∀ v ∈ l, v.1.length ≤ 16 ∧ 1 ≤ v.2.1 ∧ v.2.1 ≤ 1048576 := by
  intro v hv
  have := key v hv
  unfold mayS at this
  simp only [Bool.and_eq_true, decide_eq_true_eq] at this
  omega
 exact ⟨⟨by omega, fun v hv => by have := key2 v hv; omega⟩, h3, h2, fun v hv => (key2 v hv).1⟩
theorem right_sm {l : List Val} (h : rightS l = true) (hk : KeyOk l) : SetSm l := by
 obtain ⟨_, h2, _, h4⟩ := right_small h
 exact ⟨by omega, fun v hv => ⟨by have := h4 v hv; omega, hk v hv⟩⟩
def wholeS (b : Block) : Bool := rightHS b.1 && (rightS b.2.2.1 && (rightS b.2.2.2.1 && (decide (b.2.1.length ≤ 5) && (eqH (setH b.2.2.1) b.1.2.2.2.1 && eqH (setH b.2.2.2.1) b.1.2.2.2.2.1))))
theorem whole_eq (b : Block) (hb : BlkOk b) : q2a b = some (wholeS b) := by
 obtain ⟨b1, b2, b3, b4, b5, b6, b7⟩ := hb
 unfold q2a wholeS
 rw [rightH_eq, andThen_mk]
 cases c1 : rightHS b.1 with
 | false => rfl
 | true =>
  rw [fork_tt, right_eq _ (by omega), andThen_mk]
  cases c2 : rightS b.2.2.1 with
  | false => rfl
  | true =>
   rw [fork_tt, right_eq _ (by omega), andThen_mk]
   cases c3 : rightS b.2.2.2.1 with
   | false => rfl
   | true =>
    rw [fork_tt]
    by_cases c4 : b.2.1.length ≤ 5
    ·rw [fork_t (by omega), valsHash_eq _ (right_sm c2 b4), andThen_mk, decide_eq_true c4]
     cases c5 : Ty.beq (.arr 32 (.int .u8)) (setH b.2.2.1) b.1.2.2.2.1 with
     | false => rw [show eqH (setH b.2.2.1) b.1.2.2.2.1 = false from c5]; rfl
     | true => rw [show eqH (setH b.2.2.1) b.1.2.2.2.1 = true from c5, fork_tt, valsHash_eq _ (right_sm c3 b5), andThen_mk]; rfl
    ·rw [fork_f (by omega), decide_eq_false c4]; rfl
def lastH (c : Cli) : Hdr := c.1.getD (c.1.length - 1) zHdr
theorem latest_text (c : Cli) : qp c = need (0 ≤ (w64 ((List.length c.1 : Int) - (1 : Int))) ∧ (w64 ((List.length c.1 : Int) - (1 : Int))) < (List.length c.1 : Int)) (some (List.getD c.1 (Int.toNat (w64 ((List.length c.1 : Int) - (1 : Int)))) zHdr)) := rfl
theorem latest_eq (c : Cli) (h1 : 1 ≤ c.1.length) (h2 : c.1.length ≤ 1000000) : qp c = some (lastH c) := by
 rw [latest_text, w64_eq (by omega) (by omega), need_true (by omega)]
 unfold lastH
 congr 2
 omega
def CliOk (c : Cli) : Prop := 1 ≤ c.1.length ∧ c.1.length ≤ 1000000 ∧ SmallV c.2.1 ∧ (0 ≤ (lastH c).1 ∧ (lastH c).1 ≤ 1099511627776) ∧ (0 ≤ (lastH c).2.1 ∧ (lastH c).2.1 ≤ 1099511627776)
theorem expired_eq (now : Int) (c : Cli) (hc : CliOk c) (hn : -1099511627776 ≤ now ∧ now ≤ 1099511627776) : ql now c = some (decide (c.2.2.1 < now - (lastH c).2.1)) := by
 obtain ⟨h1, h2, _, _, h5⟩ := hc
 unfold ql
 rw [latest_eq c h1 h2, andThen_mk, w64_eq (by omega) (by omega)]
theorem cloneV_eq (l : List Val) (h : l.length ≤ 2147483648) : qy l = some l := by unfold qy; rw [need_true h]
theorem cloneH_eq (l : List Hdr) (h : l.length ≤ 2147483648) : qf l = some l := by unfold qf; rw [need_true h]
def enS (set : List Val) (h : Hdr) (s : List Signed) : Bool := decide (allS set * 2 < partS set h s * 3)
def soS (set : List Val) (h : Hdr) (s : List Signed) : Bool := decide (allS set * 1 < partS set h s * 3)
def cut6 (l : List Hdr) : List Hdr := if 6 < l.length then l.drop 1 else l
def updS (b : Block) (now : Int) (c : Cli) : Int × Cli :=
 if c.2.2.2.1 = true then (5, c) else if wholeS b = false then (1, c) else if b.1.1 ≤ (lastH c).1 then (8, c) else if b.1.2.1 ≤ (lastH c).2.1 then (1, c)
 else if c.2.2.1 < now - (lastH c).2.1 then (6, c) else if now < b.1.2.1 then (6, c)
 else if b.1.1 = (lastH c).1 + 1 ∧ eqH b.1.2.2.2.1 (lastH c).2.2.2.2.1 = false then (9, c) else if enS b.2.2.1 b.1 b.2.1 = false then (9, c)
 else if b.1.1 ≠ (lastH c).1 + 1 ∧ soS c.2.1 b.1 b.2.1 = false then (9, c)
 else (0, (cut6 (c.1 ++ [b.1]), b.2.2.2.1, c.2.2.1, c.2.2.2.1, ()))
theorem tail_eq (b : Block) (c : Cli) (hc : c.1.length ≤ 1000000) (hb : b.2.2.2.1.length ≤ 1000000) : (andThen (qf c.1) (fun u22 => need (List.length u22 + List.length ([b.1] : List Hdr) ≤ 2147483648) (fork (decide ((6 : Int) < (List.length (u22 ++ ([b.1] : List Hdr)) : Int))) (need (0 ≤ (1 : Int) ∧ (1 : Int) ≤ (List.length (u22 ++ ([b.1] : List Hdr)) : Int) ∧ (List.length (u22 ++ ([b.1] : List Hdr)) : Int) ≤ (List.length (u22 ++ ([b.1] : List Hdr)) : Int)) (andThen (qy b.2.2.2.1) (fun u27 => some ((0 : Int), ((cutL (u22 ++ ([b.1] : List Hdr)) (1 : Int) (List.length (u22 ++ ([b.1] : List Hdr)) : Int)), u27, c.2.2.1, c.2.2.2.1, ()))))) (andThen (qy b.2.2.2.1) (fun u29 => some ((0 : Int), ((u22 ++ ([b.1] : List Hdr)), u29, c.2.2.1, c.2.2.2.1, ())))))) : Option (Int × Cli)) =
  some (0, (cut6 (c.1 ++ [b.1]), b.2.2.2.1, c.2.2.1, c.2.2.2.1, ())) := by
 have hl : (c.1 ++ [b.1]).length = c.1.length + 1 := by simp
 have h1 : ([b.1] : List Hdr).length = 1 := rfl
 rw [cloneH_eq _ (by omega), andThen_mk, need_true (by omega)]
 unfold cut6
 by_cases h : (6 : Int) < ((c.1 ++ [b.1]).length : Int)
 ·rw [fork_t h, need_true (by omega), cloneV_eq _ (by omega), andThen_mk, if_pos (by omega), cut_from]
  rfl
 ·rw [fork_f h, cloneV_eq _ (by omega), andThen_mk, if_neg (by omega)]
theorem upd_eq (b : Block) (now : Int) (c : Cli) (hb : BlkOk b) (hc : CliOk c) (hn : -1099511627776 ≤ now ∧ now ≤ 1099511627776) : qn b now c = some (updS b now c) := by
 have hex := expired_eq now c hc hn
 obtain ⟨c1, c2, c3, c4, c5⟩ := hc
 have hw := whole_eq b hb
 obtain ⟨b1, b2, b3, b4, b5, b6, b7⟩ := hb
 have wl : w64 ((lastH c).1 + 1) = (lastH c).1 + 1 := w64_eq (by omega) (by omega)
 have htail := tail_eq b c (by omega) (by omega)
 unfold qn updS
 rw [latest_eq c c1 c2, andThen_mk]
 by_cases q1 : c.2.2.2.1 = true
 ·rw [q1, fork_tt, if_pos rfl]
 rw [if_neg q1]
 have q1 : c.2.2.2.1 = false := by simpa using q1
 rw [q1] at htail ⊢
 rw [fork_ff, hw, andThen_mk]
 cases q2 : wholeS b with
 | false => rw [if_pos rfl]; rfl
 | true =>
  rw [if_neg (by simp), Bool.not_true, fork_ff]
  have hset : SmallV b.2.2.1 := by
   unfold wholeS at q2
   simp only [Bool.and_eq_true] at q2
   exact (right_small q2.2.1).1
  by_cases q3 : b.1.1 ≤ (lastH c).1
  ·rw [fork_t q3, if_pos q3]
  rw [fork_f q3, if_neg q3]
  by_cases q4 : b.1.2.1 ≤ (lastH c).2.1
  ·rw [fork_t q4, if_pos q4]
  rw [fork_f q4, if_neg q4, hex, andThen_mk]
  by_cases q5 : c.2.2.1 < now - (lastH c).2.1
  ·rw [fork_t q5, if_pos q5]
  rw [fork_f q5, if_neg q5]
  by_cases q6 : now < b.1.2.1
  ·rw [fork_t q6, if_pos q6]
  rw [fork_f q6, if_neg q6, wl]
  have en := enough_eq b.2.2.1 hset b.1 b1 b.2.1 b3 b2
  have so := some_eq c.2.1 c3 b.1 b1 b.2.1 b3 b2
  rw [show decide (allS b.2.2.1 * 2 < partS b.2.2.1 b.1 b.2.1 * 3) = enS b.2.2.1 b.1 b.2.1 from rfl] at en
  rw [show decide (allS c.2.1 * 1 < partS c.2.1 b.1 b.2.1 * 3) = soS c.2.1 b.1 b.2.1 from rfl] at so
  by_cases q7 : b.1.1 = (lastH c).1 + 1
  ·rw [fork_t q7]
   cases q8 : Ty.beq (.arr 32 (.int .u8)) b.1.2.2.2.1 (lastH c).2.2.2.2.1 with
   | false => rw [if_pos ⟨q7, q8⟩]; rfl
   | true =>
    rw [if_neg (by rw [show eqH b.1.2.2.2.1 (lastH c).2.2.2.2.1 = true from q8]; simp), Bool.not_true, fork_ff, en, andThen_mk]
    cases q9 : enS b.2.2.1 b.1 b.2.1 with
    | false => rw [if_pos rfl]; rfl
    | true =>
     rw [if_neg (by simp), Bool.not_true, fork_ff, fork_nt q7, if_neg (fun h => h.1 q7)]
     exact htail
  ·rw [fork_f q7, if_neg (fun h => q7 h.1), en, andThen_mk]
   cases q9 : enS b.2.2.1 b.1 b.2.1 with
   | false => rw [if_pos rfl]; rfl
   | true =>
    rw [if_neg (by simp), Bool.not_true, fork_ff, fork_nf q7, so, andThen_mk]
    cases q10 : soS c.2.1 b.1 b.2.1 with
    | false => rw [if_pos ⟨q7, rfl⟩]; rfl
    | true =>
     rw [if_neg (by simp), Bool.not_true, fork_ff]
     exact htail
def newS (h : Hdr) (next : List Val) (p : Int) : Int ⊕ (Int × Cli) :=
 if rightHS h = true ∧ rightS next = true ∧ eqH h.2.2.2.2.1 (setH next) = true ∧ (0 ≤ p ∧ p ≤ 1073741824) then .inr (0, ([h], next, p, false, ())) else .inl 1
theorem new_eq (h : Hdr) (next : List Val) (p : Int) (hk : KeyOk next) (hl : next.length ≤ 1000000) : q2v h next p = some (newS h next p) := by
 unfold q2v newS
 rw [rightH_eq, andThen_mk]
 cases q1 : rightHS h with
 | false => rw [if_neg (by simp)]; rfl
 | true =>
  rw [Bool.not_true, fork_ff, right_eq _ (by omega), andThen_mk]
  cases q2 : rightS next with
  | false => rw [if_neg (by simp)]; rfl
  | true =>
   rw [Bool.not_true, fork_ff, valsHash_eq _ (right_sm q2 hk), andThen_mk]
   cases q3 : Ty.beq (.arr 32 (.int .u8)) h.2.2.2.2.1 (setH next) with
   | false => rw [if_neg (by rw [show eqH h.2.2.2.2.1 (setH next) = false from q3]; simp)]; rfl
   | true =>
    rw [Bool.not_true, fork_ff]
    unfold q27
    by_cases q4 : 0 ≤ p
    ·rw [fork_t q4, andThen_mk]
     by_cases q5 : p ≤ 1073741824
     ·rw [decide_eq_true q5, Bool.not_true, fork_ff, cloneV_eq _ (by omega), if_pos ⟨rfl, rfl, q3, q4, q5⟩]
      rfl
     ·rw [decide_eq_false q5, if_neg (by omega)]; rfl
    ·rw [fork_f q4, andThen_mk, if_neg (by omega)]; rfl
end Go.Ax.V
