/-
  The document's headers in bytes.
-/
import Derived.Test.YtcfaippbnmmelaaGreatCLightSkipsLHead
import Derived.Test.YtcfaippbnmmelaaGreatCLightSkipsLTag
import Derived.Test.YtcfaippbnmmelaaGreatCLightSkipsLRTag
namespace Go.Ax.V
open Go.Ax
set_option linter.unusedVariables false
set_option linter.unusedSimpArgs false
theorem rput_loop : ∀ (f k n : Nat), n < 128 ^ (f + 1) → f < k → f ≤ 100 → n ≤ 1099511627775 → q1m k (n : Int) = some (putF f n)
 | f, 0, n, h, hk, hf, hn => by omega
 | f, k + 1, n, h, hk, hf, hn => by
  rw [q1m, fork_f (by omega), fork_f (by omega)]
  by_cases h1 : n < 128
  ·rw [fork_t (by omega), putF_small h1 f, u8_ofInt]
  ·rw [fork_f (by omega)]
   cases f with
   | zero => simp at h; omega
   | succ f =>
    have hd : n / 128 < 128 ^ (f + 1) := by
     rw [Nat.div_lt_iff_lt_mul (by omega)]
     have : 128 ^ (f + 1 + 1) = 128 ^ (f + 1) * 128 := Nat.pow_succ ..
     omega
    rw [show Int.toNat 7 = 7 from rfl, ishr_nat n 7 (by omega), show n / 2 ^ 7 = n / 128 from rfl, rput_loop f k (n / 128) hd (by omega) (by omega) (by omega), andThen_mk, band127 n (by omega), bor128 _ (by omega), u8_ofInt]
    have := putF_len f (n / 128)
    rw [need_true (by simp; omega), putF, if_neg h1]; rfl
theorem rput_eq (n : Int) : q1y n = some (oneS n) := by
 unfold q1y oneS
 by_cases h0 : n < 0
 ·rw [q1m, fork_t h0, if_neg (by omega)]
 ·by_cases h1 : 1099511627775 < n
  ·rw [q1m, fork_f h0, fork_t h1, if_neg (by omega)]
  ·rw [if_pos (by omega)]
   obtain ⟨k, rfl⟩ := Int.eq_ofNat_of_zero_le (show 0 ≤ n by omega)
   exact rput_loop 6 64 k (by omega) (by omega) (by omega) (by omega)
theorem rbytes_loop (l : List (List UInt8)) (hl : l.length ≤ 1000) (hh : ∀ x ∈ l, x.length = 32) (acc : List UInt8) (ha : acc.length ≤ 1000) : qm_1 (l.length : Int) 0 acc l = some (acc ++ l.flatten) := by
 have hlen : ∀ i, ((l.take i).flatten).length ≤ 32 * l.length := by
  intro i
  have : ∀ (m : List (List UInt8)), (∀ x ∈ m, x.length = 32) → m.flatten.length = 32 * m.length := by
   intro m
   induction m with
   | nil => intro _; rfl
   | cons a m ih => intro hm; rw [List.flatten_cons, List.length_append, ih (fun x hx => hm x (List.mem_cons_of_mem _ hx)), hm a List.mem_cons_self, List.length_cons]; omega
  rw [this _ fun x hx => hh x (List.mem_of_mem_take hx), List.length_take]; omega
 unfold qm_1
 have := loop_for (step := fun (s : Int × List UInt8) => qm_1_step (l.length : Int) s.1 s.2 l) (fun i (_ : Unit) => ((i : Int), acc ++ (l.take i).flatten)) (fun _ _ => ()) (fun _ => acc ++ l.flatten) l.length (fun _ _ => True) (fun i w hi _ => ⟨?_, trivial⟩) (fun w _ => ?_) l.length 0 () (by omega) trivial
 ·simpa using this
 ·show qm_1_step (l.length : Int) (i : Int) (acc ++ (l.take i).flatten) l = _
  unfold qm_1_step
  have b := hlen i
  have hm : (l.getD i (List.replicate 32 0)).length = 32 := hh _ (by rw [List.getD_eq_getElem?_getD, List.getElem?_eq_getElem hi]; exact List.getElem_mem _)
  have e := flat_take (fun x : List UInt8 => x) l (List.replicate 32 0) hi
  simp only [List.flatMap_id'] at e
  rw [fork_t (by omega), need_true (by omega), Int.toNat_natCast, need_true (by rw [List.length_append]; omega), w64_eq (by omega) (by omega), List.append_assoc, e]
  rfl
 ·show qm_1_step (l.length : Int) (l.length : Int) (acc ++ (l.take l.length).flatten) l = _
  unfold qm_1_step
  rw [fork_f (by omega), List.take_of_length_le (Nat.le_refl _)]
theorem rbytes_eq (h : Hdr) (hh : Hashes h) : qm h = some (bodyS h) := by
 obtain ⟨a, b, c, d⟩ := hh
 have l1 := oneS_len h.1
 have l2 := oneS_len h.2.1
 unfold qm
 rw [rput_eq, andThen_mk, rput_eq, andThen_mk, need_true (by omega), rbytes_loop _ (by simp) (by
   intro x hx
   simp only [List.mem_cons, List.not_mem_nil, or_false] at hx
   rcases hx with rfl | rfl | rfl | rfl <;> assumption) _ (by rw [List.length_append]; omega), andThen_mk]
 congr 1
 simp [bodyS]
theorem headHash_eq (h : Hdr) (hh : Hashes h) : q2x h = some (sha (72 :: bytesS h)) := by
 have hl : (bytesS h).length ≤ 142 := by
  unfold bytesS; split
  ·exact body_len h hh
  ·simp
 unfold q2x
 have hf : [bytesS h].flatten = bytesS h := by simp
 rw [bytes_eq h hh, andThen_mk, tagged_eq _ _ (by rw [hf]; omega) (by simp), hf]
 rfl
theorem rheadHash_eq (h : Hdr) (hh : Hashes h) : qt h = some (sha (72 :: bodyS h)) := by
 have hl := body_len h hh
 unfold qt
 have hf : [bodyS h].flatten = bodyS h := by simp
 rw [rbytes_eq h hh, andThen_mk, rtagged_eq _ _ (by rw [hf]; omega) (by simp), hf]
 rfl
end Go.Ax.V
