/-
  Chapter 7: any calls: what is now, what is kept of each height, each root; a copy is by itself.
-/
import Derived.Test.YtanhbdkimbljeaaCStorePlaysLStoreOld
namespace Go.Ax.V
open Go.Ax
set_option linter.unusedVariables false
set_option linter.unusedSimpArgs false
theorem p1_step (x0 : List Int) (x1 : List Pr) (x2 : Int) (x3 : Int) (x4 : Bool) (x5 : (List Pr) × Int × (List (List Pr)) × Unit) (x6 : List (List Pr)) (x7 : Pr) (x8 : (List Pr) × Int × (List (List Pr)) × Unit) : affiantlaw7_StorePlays_1 x0 x1 x2 x3 x4 x5 x6 x7 x8 =
  (need (0 ≤ x2 ∧ x2 < (List.length x0 : Int)) (fork (decide ((Int.tmod (List.getD x0 (Int.toNat x2) (0 : Int)) (3 : Int)) = (0 : Int))) (andThen (store_Store_Commit_57df x5) (fun u16 => fork (decide ((List.length x6 : Int) < (16 : Int))) (need (List.length x6 + List.length ([x1] : List (List Pr)) ≤ 2147483648) (fork (!decide (u16.1 = (0 : Int))) (fork (!decide (u16.1 = (List.length (x6 ++ ([x1] : List (List Pr))) : Int))) (some (.inl false)) (some (.inr (x0, x1, x2, x3, x4, u16.2, (x6 ++ ([x1] : List (List Pr))), x8)))) (some (.inr (x0, x1, x2, x3, x4, u16.2, (x6 ++ ([x1] : List (List Pr))), x8))))) (fork (!decide (u16.1 = (0 : Int))) (some (.inl false)) (some (.inr (x0, x1, x2, x3, x4, u16.2, x6, x8)))))) (fork (decide ((Int.tmod (List.getD x0 (Int.toNat x2) (0 : Int)) (7 : Int)) = (1 : Int))) (andThen (store_Store_Del_71d6 x7.1 x5) (fun u24 => andThen (affiantref1_Del x1 x7.1) (fun u26 => some (.inr (x0, u26, x2, x3, x4, u24, x6, x8))))) (andThen (store_Store_Set_fb44 x7 x5) (fun u28 => fork (!u28.1) (some (.inl false)) (andThen (affiantref1_Set x1 x7) (fun u31 => some (.inr (x0, u31, x2, x3, x4, u28.2, x6, x8)))))))) : Option ((Bool) ⊕ (List Int × (List Pr) × Int × Int × Bool × Stt × (List (List Pr)) × (List Pr) × Int × (List (List Pr)) × Unit))) := rfl
theorem p2_step (x0 : List Int) (x1 : List Pr) (x2 : Int) (x3 : Int) (x4 : Int) (x5 : Bool) (x6 : List Pr) (x7 : Bool) (x8 : Bool) (x9 : (List Pr) × Int × (List (List Pr)) × Unit) (x10 : List (List Pr)) (x11 : List Int) (x12 : List Pr) : affiantlaw7_StorePlays_2_step x0 x1 x2 x3 x4 x5 x6 x7 x8 x9 x10 x11 x12 =
  (fork (decide (x3 ≤ (w64 ((List.length x10 : Int) + (1 : Int))))) (andThen (store_Store_At_79c2 x3 x9) (fun u51 => andThen (store_Store_Root_79c2 x3 x9) (fun u53 => fork (decide ((1 : Int) ≤ x3)) (fork (decide (x3 ≤ (List.length x10 : Int))) (fork (!(u51.2 == (decide ((w64 ((List.length x10 : Int) - (6 : Int))) < x3)))) (some (.inr (.inl false))) (fork (!(u53.2 == (decide ((w64 ((List.length x10 : Int) - (6 : Int))) < x3)))) (some (.inr (.inl false))) (fork (decide ((w64 ((List.length x10 : Int) - (6 : Int))) < x3)) (need (0 ≤ (w64 (x3 - (1 : Int))) ∧ (w64 (x3 - (1 : Int))) < (List.length x10 : Int)) (andThen (affiantbook_Same_Pair u51.1 (List.getD x10 (Int.toNat (w64 (x3 - (1 : Int)))) ([] : List Pr))) (fun u61 => fork (!u61) (some (.inr (.inl false))) (andThen (affiantref1_StoreRoot (List.getD x10 (Int.toNat (w64 (x3 - (1 : Int)))) ([] : List Pr))) (fun u64 => fork (!(Ty.beq (.arr 32 (.int .u8)) u53.1 u64)) (some (.inr (.inl false))) (fork (!(decide ((w64 ((List.length x10 : Int) - (6 : Int))) < x3))) (fork (!decide ((List.length u51.1 : Int) = (0 : Int))) (some (.inr (.inl false))) (fork (!(Ty.beq (.arr 32 (.int .u8)) u53.1 (List.replicate 32 (0 : UInt8)))) (some (.inr (.inl false))) (need (List.length x11 + List.length ([x3] : List (Int)) ≤ 2147483648) (some (.inl ((w64 (x3 + (1 : Int))), (x11 ++ ([x3] : List (Int))))))))) (need (List.length x11 + List.length ([x3] : List (Int)) ≤ 2147483648) (some (.inl ((w64 (x3 + (1 : Int))), (x11 ++ ([x3] : List (Int))))))))))))) (fork (!(decide ((w64 ((List.length x10 : Int) - (6 : Int))) < x3))) (fork (!decide ((List.length u51.1 : Int) = (0 : Int))) (some (.inr (.inl false))) (fork (!(Ty.beq (.arr 32 (.int .u8)) u53.1 (List.replicate 32 (0 : UInt8)))) (some (.inr (.inl false))) (some (.inl ((w64 (x3 + (1 : Int))), x11))))) (some (.inl ((w64 (x3 + (1 : Int))), x11))))))) (fork (!(u51.2 == false)) (some (.inr (.inl false))) (fork (!(u53.2 == false)) (some (.inr (.inl false))) (fork (!decide ((List.length u51.1 : Int) = (0 : Int))) (some (.inr (.inl false))) (fork (!(Ty.beq (.arr 32 (.int .u8)) u53.1 (List.replicate 32 (0 : UInt8)))) (some (.inr (.inl false))) (some (.inl ((w64 (x3 + (1 : Int))), x11)))))))) (fork (!(u51.2 == false)) (some (.inr (.inl false))) (fork (!(u53.2 == false)) (some (.inr (.inl false))) (fork (!decide ((List.length u51.1 : Int) = (0 : Int))) (some (.inr (.inl false))) (fork (!(Ty.beq (.arr 32 (.int .u8)) u53.1 (List.replicate 32 (0 : UInt8)))) (some (.inr (.inl false))) (some (.inl ((w64 (x3 + (1 : Int))), x11)))))))))) (some (.inr (.inr (x0, x1, x2, x4, x5, x6, x7, x8, x9, x10, x11, x12)))) : Option ((Int × List Int) ⊕ ((Bool) ⊕ (List Int × (List Pr) × Int × Int × Bool × (List Pr) × Bool × Bool × Stt × (List (List Pr)) × List Int × List Pr)))) := rfl
theorem p3_step (x0 : List Int) (x1 : List Pr) (x2 : Int) (x3 : (List Pr) × Int × (List (List Pr)) × Unit) (x4 : List (List Pr)) : affiantlaw7_StorePlays_3_step x0 x1 x2 x3 x4 =
  (fork (decide (x2 < (List.length x0 : Int))) (fork (decide (x2 < (60 : Int))) (need (0 ≤ x2 ∧ x2 < (List.length x0 : Int)) (andThen (affiantkeep_Key (List.getD x0 (Int.toNat x2) (0 : Int))) (fun u7 => andThen (affiantkeep_Text (w64 (Int.tdiv (List.getD x0 (Int.toNat x2) (0 : Int)) (12 : Int)))) (fun u9 => andThen (store_Store_Copy_57df x3) (fun u11 => andThen (affiantlaw7_StorePlays_1 x0 x1 x2 x2 (decide (x2 < (60 : Int))) x3 x4 (u7, u9, ()) u11) (fun o33 => (match o33 with | .inl o35 => some (.inr (.inl o35)) | .inr o36 => andThen (store_Store_Set_fb44 (([99, 111, 112, 121] : List UInt8), ([] : List UInt8), ()) o36.2.2.2.2.2.2.2) (fun u37 => andThen (store_Store_Commit_57df u37.2) (fun u39 => andThen (store_Store_Height_57df o36.2.2.2.2.2.1) (fun u41 => fork (!decide (u41 = (List.length o36.2.2.2.2.2.2.1 : Int))) (some (.inr (.inl false))) (andThen (store_Store_Now_57df o36.2.2.2.2.2.1) (fun u44 => andThen (affiantbook_Same_Pair u44 o36.2.1) (fun u46 => fork (!u46) (some (.inr (.inl false))) (andThen (affiantlaw7_StorePlays_2 o36.1 o36.2.1 o36.2.2.1 (0 : Int) o36.2.2.2.1 o36.2.2.2.2.1 o36.2.1 u46 (!u46) o36.2.2.2.2.2.1 o36.2.2.2.2.2.2.1 ([] : List (Int)) u44) (fun o83 => (match o83 with | .inl o85 => some (.inr (.inl o85)) | .inr o86 => andThen (store_Store_Kept_57df o86.2.2.2.2.2.2.2.2.1) (fun u87 => andThen (affiantbook_Same_int u87.2 o86.2.2.2.2.2.2.2.2.2.2.1) (fun u89 => fork (!u89) (some (.inr (.inl false))) (some (.inl (o86.1, o86.2.1, (w64 (o86.2.2.1 + (1 : Int))), u87.1, o86.2.2.2.2.2.2.2.2.2.1))))))))))))))))))))) (some (.inr (.inr ())))) (some (.inr (.inr ()))) : Option ((List Int × (List Pr) × Int × Stt × List (List Pr)) ⊕ ((Bool) ⊕ (Unit)))) := rfl
theorem si_step (x0 : List Int) (x1 : List Int) (x2 : Int) : affiantbook_Same_int_1_step x0 x1 x2 =
  (fork (decide (x2 < (List.length x0 : Int))) (need (0 ≤ x2 ∧ x2 < (List.length x0 : Int)) (need (0 ≤ x2 ∧ x2 < (List.length x1 : Int)) (fork (!decide ((List.getD x0 (Int.toNat x2) (0 : Int)) = (List.getD x1 (Int.toNat x2) (0 : Int)))) (some (.inr (.inl false))) (some (.inl (w64 (x2 + (1 : Int)))))))) (some (.inr (.inr ()))) : Option ((Int) ⊕ ((Bool) ⊕ (Unit)))) := rfl
theorem sameInt_refl (a : List Int) (ha : a.length ≤ 1073741824) : affiantbook_Same_int a a = some true := by
 have h : affiantbook_Same_int_1 a a 0 = some (.inr ()) := by
  unfold affiantbook_Same_int_1
  have := loop_for (step := fun (s : Int) => affiantbook_Same_int_1_step a a s) (fun i (_ : Unit) => (i : Int)) (fun _ _ => ()) (fun _ => .inr ()) a.length (fun _ _ => True) (fun i w hi _ => ⟨?_, trivial⟩) (fun w _ => ?_) a.length 0 () (by omega) trivial
  ·exact this
  ·show affiantbook_Same_int_1_step a a (i : Int) = _
   rw [si_step, fork_t (by omega), need_true (by omega), need_true (by omega), fork_nt rfl, w64_eq (by omega) (by omega)]
   rfl
  ·show affiantbook_Same_int_1_step a a (a.length : Int) = _
   rw [si_step, fork_f (by omega)]
 unfold affiantbook_Same_int
 rw [fork_nt (by omega), h, andThen_mk]
theorem nodup_len {α : Type} [BEq α] [LawfulBEq α] : ∀ (a b : List α), a.Nodup → (∀ x ∈ a, x ∈ b) → a.length ≤ b.length
 | [], _, _, _ => Nat.zero_le _
 | x :: a, b, hn, h => by
  obtain ⟨h1, h2⟩ := List.nodup_cons.1 hn
  have hx := h x List.mem_cons_self
  have ih := nodup_len a (b.erase x) h2 fun y hy => (List.mem_erase_of_ne (fun e : y = x => h1 (e ▸ hy))).2 (h y (List.mem_cons_of_mem _ hy))
  rw [List.length_erase_of_mem hx] at ih
  have : 0 < b.length := List.length_pos_of_mem hx
  rw [List.length_cons]; omega
def KeyOk12 (l : List Pr) : Prop := Rise l ∧ (∀ p ∈ l, p.1 ∈ keys12) ∧ ∀ p ∈ l, p.2.1.length ≤ 8
theorem key12_len {l : List Pr} (h : KeyOk12 l) : l.length ≤ 12 := by
 have := nodup_len (l.map (·.1)) keys12 (List.pairwise_map.2 (h.1.imp fun {a b} hab => sless_ne hab)) fun x hx => by
  obtain ⟨p, hp, rfl⟩ := List.mem_map.1 hx
  exact h.2.1 p hp
 rw [List.length_map] at this
 exact this
theorem key12_put {l : List Pr} (h : KeyOk12 l) {p : Pr} (h1 : p.1 ∈ keys12) (h2 : p.2.1.length ≤ 8) : KeyOk12 (putP l p) := by
 refine ⟨putP_rise h.1 p, fun q hq => ?_, fun q hq => ?_⟩ <;> rcases putP_mem hq with rfl | hq
 ·exact h1
 ·exact h.2.1 q hq
 ·exact h2
 ·exact h.2.2 q hq
theorem key12_cut {l : List Pr} (h : KeyOk12 l) (k : List UInt8) : KeyOk12 (cutP l k) := ⟨cutP_rise h.1 k, fun q hq => h.2.1 q (cutP_mem hq), fun q hq => h.2.2 q (cutP_mem hq)⟩
theorem set_ok12 {l : List Pr} (h : KeyOk12 l) {p : Pr} (h1 : p.1 ∈ keys12) (h2 : p.2.1.length ≤ 8) : setP l p = (putP l p, true) := by
 have hk := keys_b _ h1
 have hl := key12_len h
 have hm : mayP p = true := by
  unfold mayP
  have : p.1 ≠ [] := fun e => by rw [e] at hk; simp at hk
  simp only [Bool.and_eq_true, Bool.not_eq_true', decide_eq_true_eq, decide_eq_false_iff_not]
  exact ⟨this, by omega, by omega⟩
 unfold setP
 rw [hm, decide_eq_true (by omega : l.length < 30), Bool.or_true, Bool.and_true, if_pos rfl]
theorem plays_1 (ns : List Int) (i : Nat) (hi : i < ns.length) (b : Bool) (st : Stt) (all : List (List Pr)) (p : Pr) (c : Stt) (hh : HistOk st all) (hk : KeyOk12 st.1) (hp1 : p.1 ∈ keys12) (hp2 : p.2.1.length ≤ 8) :
  ∃ st' all', affiantlaw7_StorePlays_1 ns st.1 (i : Int) (i : Int) b st all p c = some (.inr (ns, st'.1, (i : Int), (i : Int), b, st', all', c)) ∧ HistOk st' all' ∧ KeyOk12 st'.1 := by
 have hl := key12_len hk
 have h16 := hh.2.2.2.1
 rw [p1_step, need_true (by omega)]
 by_cases c1 : Int.tmod (ns.getD (Int.toNat (i : Int)) 0) 3 = 0
 ·rw [fork_t c1, stCommit_eq st hh.1, andThen_mk]
  by_cases c2 : all.length < 16
  ·obtain ⟨ec, hc⟩ := hist_commit hh c2
   refine ⟨(commitS st).2, all ++ [st.1], ?_, hc, by rw [ec]; exact hk⟩
   rw [ec]
   dsimp only
   rw [fork_t (by omega), need_true (by simp only [List.length_cons, List.length_nil]; omega), fork_nf (by omega), fork_nt (by rw [List.length_append, List.length_singleton]; omega)]
  ·have e0 : commitS st = (0, st) := by
    unfold commitS
    rw [if_pos (by have := hh.2.1; omega)]
   refine ⟨st, all, ?_, hh, hk⟩
   rw [e0]
   dsimp only
   rw [fork_f (by omega), fork_nt rfl]
 ·rw [fork_f c1]
  by_cases c3 : Int.tmod (ns.getD (Int.toNat (i : Int)) 0) 7 = 1
  ·refine ⟨(cutP st.1 p.1, st.2.1, st.2.2.1, ()), all, ?_, ⟨st_del hh.1 _, hh.2⟩, key12_cut hk _⟩
   rw [fork_t c3, stDel_eq st hh.1, andThen_mk, rdel1_eq _ hk.1 (by omega), andThen_mk]
  ·have es := stSet_eq st hh.1 p
   have ks := st_set hh.1 p
   rw [set_ok12 hk hp1 hp2] at es ks
   refine ⟨(putP st.1 p, st.2.1, st.2.2.1, ()), all, ?_, ⟨ks, hh.2⟩, key12_put hk hp1 hp2⟩
   rw [fork_f c3, es, andThen_mk]
   dsimp only
   rw [Bool.not_true, fork_ff, rset1_eq _ (by omega), andThen_mk]
def lowN (n : Nat) : Nat := n - min n 6 + 1
def keptK (n h : Nat) : List Int := (List.range (min (h - lowN n) (min n 6))).map fun i => ((lowN n + i : Nat) : Int)
theorem keptK_in {n h : Nat} (h1 : lowN n ≤ h) (h2 : h ≤ n) : keptK n (h + 1) = keptK n h ++ [(h : Int)] := by
 have e : min (h + 1 - lowN n) (min n 6) = min (h - lowN n) (min n 6) + 1 := by unfold lowN at *; omega
 unfold keptK
 rw [e, List.range_succ, List.map_append]
 show _ ++ [((lowN n + min (h - lowN n) (min n 6) : Nat) : Int)] = _
 congr 2
 unfold lowN at *; omega
theorem keptK_out {n h : Nat} (h1 : h < lowN n ∨ n < h) : keptK n (h + 1) = keptK n h := by
 have e : min (h + 1 - lowN n) (min n 6) = min (h - lowN n) (min n 6) := by unfold lowN at *; omega
 unfold keptK
 rw [e]
theorem plays_2 (ns : List Int) (now : List Pr) (i : Int) (i2 : Int) (b : Bool) (l2 : List Pr) (b2 b3 : Bool) (st : Stt) (all : List (List Pr)) (l3 : List Pr) (hh : HistOk st all) :
  affiantlaw7_StorePlays_2 ns now i 0 i2 b l2 b2 b3 st all [] l3 = some (.inr (ns, now, i, i2, b, l2, b2, b3, st, all, keptS st, l3)) := by
 have h16 := hh.2.2.2.1
 have hkl : st.2.2.1.length = min all.length 6 := by rw [hh.2.2.1]; unfold last6; rw [List.length_drop]; omega
 have hks : keptS st = keptK all.length (all.length + 2) := by
  unfold keptS keptK lowS
  rw [hkl, hh.2.1, show min (all.length + 2 - lowN all.length) (min all.length 6) = min all.length 6 from by unfold lowN; omega]
  congr 1
  funext j
  unfold lowN; omega
 rw [hks]
 unfold affiantlaw7_StorePlays_2
 have := loop_for (step := fun (s : Int × List Int) => affiantlaw7_StorePlays_2_step ns now i s.1 i2 b l2 b2 b3 st all s.2 l3) (fun h (_ : Unit) => ((h : Int), keptK all.length h)) (fun _ _ => ()) (fun _ => .inr (ns, now, i, i2, b, l2, b2, b3, st, all, keptK all.length (all.length + 2), l3)) (all.length + 2) (fun _ _ => True) (fun h w hi _ => ⟨?_, trivial⟩) (fun w _ => ?_) (all.length + 2) 0 () (by omega) trivial
 ·have e0 : keptK all.length 0 = [] := by unfold keptK; rw [Nat.zero_sub, Nat.zero_min]; rfl
  rw [e0] at this
  exact this
 ·show affiantlaw7_StorePlays_2_step ns now i (h : Int) i2 b l2 b2 b3 st all (keptK all.length h) l3 = some (.inl (((h + 1 : Nat) : Int), keptK all.length (h + 1)))
  have ha := hist_at hh (h : Int)
  have hkn : (keptK all.length h).length ≤ 6 := by unfold keptK; rw [List.length_map, List.length_range]; omega
  rw [p2_step, w64_eq (n := (all.length : Int) + 1) (by omega) (by omega), fork_t (by omega), stAt_eq st hh.1, andThen_mk, stRoot_eq st hh.1, andThen_mk, w64_eq (n := (all.length : Int) - 6) (by omega) (by omega), w64_eq (n := (h : Int) + 1) (by omega) (by omega), ha]
  by_cases c1 : 1 ≤ h
  ·rw [fork_t (by omega)]
   by_cases c2 : h ≤ all.length
   ·rw [fork_t (by omega)]
    by_cases c3 : (all.length : Int) - 6 < (h : Int)
    ·have hb : RowB (all.getD (h - 1) []) := hh.2.2.2.2 _ (getD_mem (by omega))
     rw [if_pos ⟨by omega, by omega, c3⟩, decide_eq_true c3, w64_eq (n := (h : Int) - 1) (by omega) (by omega)]
     dsimp only
     rw [if_pos rfl]
     dsimp only
     rw [beq_self_eq_true, Bool.not_true, fork_ff, fork_ff, fork_tt, need_true (by omega), show ((h : Int) - 1).toNat = h - 1 from by omega, samePair_refl _ (by have := hb.2.1; omega), andThen_mk, Bool.not_true, fork_ff, rstroot_eq _ (rowB_kv hb), andThen_mk, beq_hash, Bool.not_true, fork_ff, fork_ff, need_true (by simp only [List.length_cons, List.length_nil]; omega), keptK_in (by unfold lowN; omega) c2]
     rfl
    ·rw [if_neg (fun q => c3 q.2.2), decide_eq_false c3]
     dsimp only
     rw [if_neg (by simp)]
     dsimp only
     rw [beq_self_eq_true, Bool.not_true, fork_ff, fork_ff, fork_ff, Bool.not_false, fork_tt, fork_nt (by rfl), beq_hash, Bool.not_true, fork_ff, keptK_out (.inl (by unfold lowN; omega))]
     rfl
   ·rw [fork_f (by omega), if_neg (fun q => c2 (by omega))]
    dsimp only
    rw [if_neg (by simp)]
    dsimp only
    rw [beq_self_eq_true, Bool.not_true, fork_ff, fork_ff, fork_nt (by rfl), beq_hash, Bool.not_true, fork_ff, keptK_out (.inr (by omega))]
    rfl
  ·rw [fork_f (by omega), if_neg (fun q => c1 (by omega))]
   dsimp only
   rw [if_neg (by simp)]
   dsimp only
   rw [beq_self_eq_true, Bool.not_true, fork_ff, fork_ff, fork_nt (by rfl), beq_hash, Bool.not_true, fork_ff, keptK_out (.inl (by unfold lowN; omega))]
   rfl
 ·show affiantlaw7_StorePlays_2_step ns now i ((all.length + 2 : Nat) : Int) i2 b l2 b2 b3 st all (keptK all.length (all.length + 2)) l3 = _
  rw [p2_step, w64_eq (n := (all.length : Int) + 1) (by omega) (by omega), fork_f (by omega)]
theorem plays_3 (ns : List Int) (hns : ns.length ≤ 140737488355328) : ∃ r, affiantlaw7_StorePlays_3 ns [] 0 ([], 0, [], ()) [] = some r ∧ r = .inr () := by
 unfold affiantlaw7_StorePlays_3
 refine loop_ex (step := fun (s : List Int × List Pr × Int × Stt × List (List Pr)) => affiantlaw7_StorePlays_3_step s.1 s.2.1 s.2.2.1 s.2.2.2.1 s.2.2.2.2) (fun m s => ∃ (i : Nat) (st : Stt) (all : List (List Pr)), s = (ns, st.1, (i : Int), st, all) ∧ i + m = min ns.length 60 ∧ HistOk st all ∧ KeyOk12 st.1) (fun r => r = .inr ()) (fun m s hs => ?_) (min ns.length 60) (ns, [], 0, ([], 0, [], ()), []) ⟨0, ([], 0, [], ()), [], rfl, by omega, ⟨st_new, rfl, rfl, by simp, by simp⟩, ⟨List.Pairwise.nil, by simp, by simp⟩⟩
 obtain ⟨i, st, all, rfl, hm, hh, hk⟩ := hs
 by_cases c : i < ns.length
 ·by_cases c2 : i < 60
  ·right
   obtain ⟨j, hj, ej⟩ := key_eq (ns.getD i 0)
   obtain ⟨x, ex, hx⟩ := text_eq (w64 (Int.tdiv (ns.getD i 0) 12))
   have hp1 : keys12.getD j [] ∈ keys12 := getD_mem hj
   obtain ⟨st', all', e1, hh', hk'⟩ := plays_1 ns i c (decide ((i : Int) < 60)) st all (keys12.getD j [], x, ()) st hh hk hp1 hx
   have e2 := plays_2 ns st'.1 (i : Int) (i : Int) (decide ((i : Int) < 60)) st'.1 true (!true) st' all' st'.1 hh'
   have ks := st_set hh.1 ([99, 111, 112, 121], [], ())
   have hl' := key12_len hk'
   have eh : store_Store_Height_57df st' = some (all'.length : Int) := congrArg some hh'.2.1
   refine ⟨m - 1, (ns, st'.1, ((i + 1 : Nat) : Int), st', all'), by omega, ?_, i + 1, st', all', rfl, by omega, hh', hk'⟩
   show affiantlaw7_StorePlays_3_step ns st.1 (i : Int) st all = _
   rw [p3_step, fork_t (by omega), fork_t (by omega), need_true (by omega), Int.toNat_natCast, ej, andThen_mk, ex, andThen_mk, copy_eq st hh.1, andThen_mk, e1, andThen_mk]
   dsimp only
   rw [stSet_eq st hh.1, andThen_mk]
   dsimp only
   rw [stCommit_eq _ ks, andThen_mk, eh, andThen_mk, fork_nt rfl, stNow_eq _ (by omega), andThen_mk, samePair_refl _ (by omega), andThen_mk, Bool.not_true, fork_ff]
   rw [Bool.not_true] at e2
   rw [e2, andThen_mk]
   dsimp only
   rw [kept_eq st' hh'.1, andThen_mk]
   dsimp only
   rw [sameInt_refl _ (by
    unfold keptS
    rw [List.length_map, List.length_range]
    have := hh'.1.2.2.2.1
    omega), andThen_mk, Bool.not_true, fork_ff, w64_eq (by omega) (by omega)]
   rfl
  ·left
   refine ⟨_, ?_, rfl⟩
   show affiantlaw7_StorePlays_3_step ns st.1 (i : Int) st all = _
   rw [p3_step, fork_t (by omega), fork_f (by omega)]
 ·left
  refine ⟨_, ?_, rfl⟩
  show affiantlaw7_StorePlays_3_step ns st.1 (i : Int) st all = _
  rw [p3_step, fork_f (by omega)]
theorem law_StorePlays (y0 : List Int) (w0 : Wf (.slice (.int .i64)) y0) : affiantlaw7_StorePlays y0 = some true := by
 have e8 : tyBytes (.int .i64) = 8 := rfl
 have hp0 : y0.length ≤ 140737488355328 := by have := w0.1; rw [e8] at this; omega
 obtain ⟨_, e3, rfl⟩ := plays_3 y0 hp0
 unfold affiantlaw7_StorePlays store_New
 rw [andThen_mk, e3, andThen_mk]
 dsimp only
 rw [law_StoreRuns]
 rfl
end Go.Ax.V
