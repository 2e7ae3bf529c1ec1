/-
  A semantics by value over the model: data, calls, code (part C).
-/
import Derived.Test.YtnckmagemlajeaaGreatAxB
import Derived.ScopeJumps
import Derived.OpenShut
import Derived.SizedLaws
namespace Go.Ax
set_option linter.unusedVariables false
set_option linter.unusedSimpArgs false
variable {P : Program} {T : Tab}
def clo (h : List AObj) : Nat → List Nat → List Nat → List Nat
 | 0, _, acc => acc
 | _ + 1, [], acc => acc
 | f + 1, l :: r, acc => bif acc.elem l then clo h f r acc else clo h f ((objAt h l).ids ++ r) (acc ++ [l])
def idsOf (ss : List (Nat × Slot)) : List Nat → List Nat
 | [] => []
 | t :: r => (look ss t).ids ++ idsOf ss r
theorem idsOf_mem {ss : List (Nat × Slot)} : ∀ {rd : List Nat} {t i : Nat}, t ∈ rd → i ∈ (look ss t).ids → i ∈ idsOf ss rd
 | u :: r, t, i, h, hi => by
  rcases List.mem_cons.1 h with h | h
  ·subst h; simp [idsOf, hi]
  ·simp [idsOf, idsOf_mem h hi]
def miniS (ss : List (Nat × Slot)) (ks rd : List Nat) : List (Nat × Slot) := rd.map fun t => (t, (look ss t).ren (posF ks))
def rdSOf (ss : List (Nat × Slot)) (rd : List Nat) : List (Nat × Slot) := rd.map fun t => (t, look ss t)
def rdOOf (h : List AObj) (ks : List Nat) : List (Nat × AObj) := ks.map fun l => (l, objAt h l)
def J4o (ss : List (Nat × Slot)) (h : List AObj) (ks rd : List Nat) (o : Oper) (n : Nat) : Bool :=
 lentB h ks && (idsOf ss rd).all (isPos ks) && rd.all (fun t => Nat.blt t n) && dstB o n
def flg (o : Op) (its : List It) : Bool × List It :=
 match o with
 | .pick _ _ _ => match its with | .br b :: its => (b, its) | its => (false, its)
 | .slice _ _ _ _ _ => match its with | .br b :: its => (b, its) | its => (false, its)
 | .build _ _ => match its with | .asis :: its => (true, its) | its => (false, its)
 | _ => (false, its)
structure D1 where
 ps : List Prop
 its : List It
 e : Eff
 s : Slot
 h : List AObj
def landB (s : Slot) (h1 : List AObj) (k : Nat) : Bool :=
 Nat.ble k h1.length && s.ids.all (fun i => Nat.blt i h1.length) && h1.all (fun x => (AObj.ids x).all fun i => Nat.blt i h1.length)
def dropW {β : Type} (kept : List Nat) : List (Nat × β) → List (Nat × β)
 | [] => []
 | p :: r => bif isPos kept p.1 then dropW kept r else p :: dropW kept r
theorem J3g {β : Type} {kept : List Nat} : ∀ {ws : List (Nat × β)} {x : Nat}, x ∈ keys (dropW kept ws) → x ∈ keys ws ∧ isPos kept x = false
 | [], _, h => by simp [dropW, keys] at h
 | (i, v) :: r, x, h => by
  rw [dropW] at h
  cases hp : isPos kept i with
  | true => rw [hp] at h; have := J3g h; exact ⟨by simp [keys, this.1], this.2⟩
  | false =>
   rw [hp] at h
   simp only [cond_false, keys, List.mem_cons] at h ⊢
   rcases h with rfl | h
   ·exact ⟨.inl rfl, hp⟩
   ·have := J3g h; exact ⟨.inr this.1, this.2⟩
theorem J73 {β : Type} {f : Nat → β} {kept : List Nat} : ∀ {ws : List (Nat × β)} {x : Nat}, isPos kept x = false → wr f (dropW kept ws) x = wr f ws x
 | [], _, _ => rfl
 | (i, v) :: r, x, h => by
  rw [dropW]
  cases hp : isPos kept i with
  | true =>
   simp only [cond_true]
   rw [J73 h, wr]
   have : Nat.beq i x = false := by
    rw [← Bool.not_eq_true, Nat.beq_eq]
    rintro rfl
    rw [hp] at h; cases h
   rw [this]; rfl
  | false =>
   simp only [cond_false]
   rw [wr, wr, J73 h]
theorem wr_drop {β : Type} {f : Nat → β} {kept : List Nat} {ws : List (Nat × β)} (h : ∀ x ∈ kept, wr f ws x = f x) : wr f (dropW kept ws) = wr f ws := by
 funext x
 cases hp : isPos kept x with
 | false => exact J73 hp
 | true =>
  rw [h x (J46 hp), J74]
  intro hk
  have := (J3g hk).2
  rw [hp] at this; cases this
def keptP (kept ks : List Nat) (h0 h1 : List AObj) : Prop := kept.map (fun l => objAt h1 (posF ks l)) = kept.map (fun l => objAt h0 (posF ks l))
def callQ (P : Program) (ss : List (Nat × Slot)) (h : List AObj) (its : List It) (o : Op) : Option (List Prop × Slot × List It) :=
 match o with
 | .call cl => match cl.callee, its with
  | .value f0, .asis :: .call modes back snap fl ret objs' :: its => match exCall P ss h f0 cl.args.toList modes back snap fl ret objs' with
   | some (ps, s, h1) => some ((h1 = h) :: ps, s, its)
   | none => none
  | _, _ => none
 | _ => none
theorem callQ_ok (hT : TabOK P T) {E : List Nat} (hE : J18 P T E = true) {o : Oper} {st : St} {its its' : List It} {ps : List Prop} {s : Slot}
  (he : callQ P st.slots st.heap its o.op = some (ps, s, its')) (hps : AllP ps) : OpW P o st s st.heap := by
 generalize hop : o.op = op at he
 unfold callQ at he
 split at he
 ·rename_i cl
  split at he
  ·rename_i f0 modes back snap fl ret objs' its0 hcl
   split at he
   ·rename_i ps1 s1 h1 hx
    injection he with he; injection he with e1 e2; injection e2 with e2 e3
    subst e1; subst e2; subst e3
    obtain ⟨hh, hps⟩ := hps
    subst hh
    refine J2j (T := T) hT hE (its := .call modes back snap fl ret objs' :: its0) (its' := its0) ?_ hps
    rw [hop]
    simp only [J2i, hcl, hx]
   ·cases he
  ·cases he
 ·cases he
def runD0 (P : Program) (T : Tab) (E : List Nat) (ss : List (Nat × Slot)) (h : List AObj) (its : List It) (o : Oper) (rd ks : List Nat) : Option D1 :=
  match exQuiet T E (flg o.op its).1 (miniS ss ks rd) (lent h ks) o.op with
  | some (ps, s) => match landB s (lent h ks) ks.length with
    | true => some ⟨ps, (flg o.op its).2, ⟨rdSOf ss rd, rdOOf h ks, dstW o (s.ren (nameF ks [])), [], []⟩, s.ren (nameF ks []), h⟩
    | false => none
  | none => match callQ P (miniS ss ks rd) (lent h ks) its o.op with
   | some (ps, s, its') => match landB s (lent h ks) ks.length with
    | true => some ⟨ps, its', ⟨rdSOf ss rd, rdOOf h ks, dstW o (s.ren (nameF ks [])), [], []⟩, s.ren (nameF ks []), h⟩
    | false => none
   | none => match its with
   | .kept kept :: its1 => match J2i P T E (miniS ss ks rd) (lent h ks) its1 o.op with
     | some (ps, s, h1, its') => match landB s h1 ks.length && kept.all (isPos ks) with
       | true => some ⟨keptP kept ks (lent h ks) h1 :: ps, its', ⟨rdSOf ss rd, rdOOf h ks, dstW o (s.ren (nameF ks (List.range' h.length (h1.length - ks.length)))),
          dropW kept (zipN (ks ++ List.range' h.length (h1.length - ks.length)) (h1.map (AObj.ren (nameF ks (List.range' h.length (h1.length - ks.length)))))), List.range' h.length (h1.length - ks.length)⟩,
          s.ren (nameF ks (List.range' h.length (h1.length - ks.length))),
          (List.range (h.length + (h1.length - ks.length))).map (wr (objAt h) (dropW kept (zipN (ks ++ List.range' h.length (h1.length - ks.length)) (h1.map (AObj.ren (nameF ks (List.range' h.length (h1.length - ks.length))))))))⟩
       | false => none
     | none => none
   | _ => match J2i P T E (miniS ss ks rd) (lent h ks) its o.op with
    | some (ps, s, h1, its') => match landB s h1 ks.length with
      | true => some ⟨ps, its', ⟨rdSOf ss rd, rdOOf h ks, dstW o (s.ren (nameF ks (List.range' h.length (h1.length - ks.length)))),
          zipN (ks ++ List.range' h.length (h1.length - ks.length)) (h1.map (AObj.ren (nameF ks (List.range' h.length (h1.length - ks.length))))), List.range' h.length (h1.length - ks.length)⟩,
          s.ren (nameF ks (List.range' h.length (h1.length - ks.length))),
          (List.range (h.length + (h1.length - ks.length))).map (wr (objAt h) (zipN (ks ++ List.range' h.length (h1.length - ks.length)) (h1.map (AObj.ren (nameF ks (List.range' h.length (h1.length - ks.length)))))))⟩
      | false => none
    | none => none
def movedS (ss : List (Nat × Slot)) (rd : List Nat) (op : Op) : Option Slot :=
 match op with
 | .move (.tmp t) => match rd.elem t, look ss t with
  | true, .own l p => some (.own l p)
  | true, .ptr l p => some (.ptr l p)
  | _, _ => none
 | _ => none
theorem movedS_some {ss : List (Nat × Slot)} {rd : List Nat} {op : Op} {s : Slot} (h : movedS ss rd op = some s) : ∃ t, op = .move (.tmp t) ∧ t ∈ rd ∧ look ss t = s := by
 unfold movedS at h
 split at h
 ·rename_i t
  split at h
  ·rename_i l p h1 h2; injection h with h; subst h; exact ⟨t, rfl, List.elem_iff.1 h1, h2⟩
  ·rename_i l p h1 h2; injection h with h; subst h; exact ⟨t, rfl, List.elem_iff.1 h1, h2⟩
  ·cases h
 ·cases h
def loadedS (T : Tab) (ss : List (Nat × Slot)) (h : List AObj) (rd : List Nat) (op : Op) : Option (Nat × Slot) :=
 match op with
 | .load ty (.tmp t) => match rd.elem t, look ss t with
  | true, .ptr l p => match T.ty ty with
   | some y => if (objAt h l).lay.at p = some y ∧ (objAt h l).isDead = false then match (objAt h l).slot.get p with
     | .own l2 q => some (l, .own l2 q)
     | _ => none
    else none
   | none => none
  | _, _ => none
 | _ => none
theorem loadedS_some {ss : List (Nat × Slot)} {h : List AObj} {rd : List Nat} {op : Op} {l : Nat} {s : Slot} (hm : loadedS T ss h rd op = some (l, s)) :
  ∃ ty t p y l2 q, op = .load ty (.tmp t) ∧ t ∈ rd ∧ look ss t = .ptr l p ∧ T.ty ty = some y ∧ ((objAt h l).lay.at p = some y ∧ (objAt h l).isDead = false) ∧ (objAt h l).slot.get p = .own l2 q ∧ s = .own l2 q := by
 unfold loadedS at hm
 split at hm
 ·rename_i ty t
  split at hm
  ·rename_i l' p h1 h2
   split at hm
   ·rename_i y hy
    split at hm
    ·rename_i hc
     split at hm
     ·rename_i l2 q hg
      injection hm with hm; injection hm with e1 e2; subst e1; subst e2
      exact ⟨ty, t, p, y, l2, q, rfl, List.elem_iff.1 h1, h2, hy, hc, hg, rfl⟩
     ·cases hm
    ·cases hm
   ·cases hm
  ·cases hm
 ·cases hm
def J2m (T : Tab) (ss : List (Nat × Slot)) (h : List AObj) (rd : List Nat) (op : Op) : Option (Nat × Slot) :=
 match op with
 | .fieldAddr ty (.tmp t) k => match rd.elem t, look ss t with
  | true, .ptr l p => match J1t T h ty (.ptr l p) k with
   | some (.ptr _ _) => some (l, .ptr l (p ++ [.fld k]))
   | _ => none
  | _, _ => none
 | _ => none
theorem J2n {ss : List (Nat × Slot)} {h : List AObj} {rd : List Nat} {op : Op} {l : Nat} {s : Slot} (hm : J2m T ss h rd op = some (l, s)) :
  ∃ ty t k p, op = .fieldAddr ty (.tmp t) k ∧ t ∈ rd ∧ look ss t = .ptr l p ∧ (∃ z, J1t T h ty (.ptr l p) k = some z) ∧ s = .ptr l (p ++ [.fld k]) := by
 unfold J2m at hm
 split at hm
 ·rename_i ty t k
  split at hm
  ·rename_i l' p h1 h2
   split at hm
   ·rename_i z1 z2 hz
    injection hm with hm; injection hm with e1 e2; subst e1; subst e2
    exact ⟨ty, t, k, p, rfl, List.elem_iff.1 h1, h2, ⟨_, hz⟩, rfl⟩
   ·cases hm
  ·cases hm
 ·cases hm
theorem J1v {h h' : List AObj} {ty l l' k : Nat} {p : List Step} {z : Slot} (he : J1t T h ty (.ptr l p) k = some z)
  (h1 : (objAt h' l').lay = (objAt h l).lay) (h2 : (objAt h' l').isDead = (objAt h l).isDead) : J1t T h' ty (.ptr l' p) k = some (.ptr l' (p ++ [.fld k])) := by
 unfold J1t at he ⊢
 split at he
 ·cases he
 ·rename_i y hy
  split at he
  ·cases he
  ·rename_i o1 t1 hf
   split at he
   ·cases he
   ·rename_i h0
    dsimp only at he ⊢
    split at he
    ·rename_i hc
     rw [if_neg h0, h1, h2, if_pos hc]
    ·cases he
def runD (P : Program) (T : Tab) (E : List Nat) (ss : List (Nat × Slot)) (h : List AObj) (its : List It) (o : Oper) (rd ks : List Nat) : Option D1 :=
 match movedS ss rd o.op with
 | some s => some ⟨[], its, ⟨rdSOf ss rd, [], dstW o s, [], []⟩, s, h⟩
 | none => match loadedS T ss h rd o.op with
  | some (l, s) => some ⟨[], its, ⟨rdSOf ss rd, [(l, objAt h l)], dstW o s, [], []⟩, s, h⟩
  | none => match J2m T ss h rd o.op with
   | some (l, s) => some ⟨[], its, ⟨rdSOf ss rd, [(l, objAt h l)], dstW o s, [], []⟩, s, h⟩
   | none => runD0 P T E ss h its o rd ks
def goneD (ops : Array Oper) (ss : List (Nat × Slot)) (j : Nat) : Option Nat :=
 match ops[j]? with
 | some oj => match oj.dst with
  | some d => match look ss d with
   | .tnil => some d
   | _ => none
  | none => none
 | none => none
theorem goneD_some {ops : Array Oper} {ss : List (Nat × Slot)} {j d : Nat} (h : goneD ops ss j = some d) : ∃ oj, ops[j]? = some oj ∧ oj.dst = some d ∧ look ss d = .tnil := by
 unfold goneD at h
 split at h
 ·rename_i oj hj
  split at h
  ·rename_i d hd
   split at h
   ·rename_i hy; injection h with h; subst h; exact ⟨oj, hj, hd, hy⟩
   ·cases h
  ·cases h
 ·cases h
def evD1 (P : Program) (T : Tab) (E : List Nat) (ops : Array Oper) (n : Nat) (ss : List (Nat × Slot)) (h : List AObj) (its : List It) (o : Oper) : Option D1 :=
  match o.guard with
  | none => match J4o ss h (clo h 300 (idsOf ss (o.looksAt ops)) []) (o.looksAt ops) o n with
    | true => runD P T E ss h its o (o.looksAt ops) (clo h 300 (idsOf ss (o.looksAt ops)) [])
    | false => none
  | some (j, want) => match goneD ops ss j with
   | some d => match dstB o n, Nat.blt d n with
    | true, true => some ⟨[], its, ⟨[(d, look ss d)], [], dstW o .tnil, [], []⟩, .tnil, h⟩
    | _, _ => none
   | none => match its with
    | .br b :: its => match ops[j]? with
      | some oj => match oj.dst with
        | some d => match look ss d with
          | .v .bool x => match decide (b = want) with
            | true => match J4o ss h (clo h 300 (idsOf ss (d :: o.looksAt ops)) []) (d :: o.looksAt ops) o n with
              | true => match runD P T E ss h its o (d :: o.looksAt ops) (clo h 300 (idsOf ss (d :: o.looksAt ops)) []) with
                | some r => some { r with ps := ((x : Bool) = b) :: r.ps }
                | none => none
              | false => none
            | false => match dstB o n, Nat.blt d n with
              | true, true => some ⟨[(x : Bool) = b], its, ⟨[(d, look ss d)], [], dstW o .tnil, [], []⟩, .tnil, h⟩
              | _, _ => none
          | _ => none
        | none => none
      | none => none
    | _ => none
def putD (o : Oper) (s : Slot) (ss : List (Nat × Slot)) : List (Nat × Slot) := match o.dst with | some d => (d, s) :: ss | none => ss
def evD (P : Program) (T : Tab) (E : List Nat) (ops : Array Oper) (n : Nat) : List Oper → List It → List (Nat × Slot) → List AObj → Option (List Prop × List It × List Eff × List (Nat × Slot) × List AObj)
 | [], its, ss, h => some ([], its, [], ss, h)
 | o :: r, its, ss, h => match evD1 P T E ops n ss h its o with
  | some d => match evD P T E ops n r d.its (putD o d.s ss) d.h with
   | some (qs, its2, effs, ss2, h2) => some (d.ps ++ qs, its2, d.e :: effs, ss2, h2)
   | none => none
  | none => none
theorem J3u (o : Oper) (s : Slot) (ss : List (Nat × Slot)) (t : Nat) : look (putD o s ss) t = wr (look ss) (dstW o s) t := by
 rw [wr_dst]
 unfold putD
 cases hd : o.dst with
 | none => simp
 | some d => simp only [J3t, Option.some.injEq]
theorem J4j (f : Nat → AObj) (n l : Nat) : objAt ((List.range n).map f) l = if l < n then f l else .dead := by
 unfold objAt
 rw [List.getD_eq_getElem?_getD, List.getElem?_map]
 by_cases h : l < n
 ·rw [List.getElem?_range h, if_pos h]; rfl
 ·rw [List.getElem?_eq_none (by simpa using h), if_neg h]; rfl
theorem objAt_ge {h : List AObj} {l : Nat} (hl : h.length ≤ l) : objAt h l = .dead := by
 unfold objAt; rw [List.getD_eq_getElem?_getD, List.getElem?_eq_none hl]; rfl
theorem J4f (s n : Nat) : (List.range' s n).Nodup := by
 rw [List.nodup_iff_pairwise_ne]
 exact (List.pairwise_lt_range' (s := s) (n := n)).imp fun h => Nat.ne_of_lt h
structure D1OK (P : Program) (ops : Array Oper) (n m i : Nat) (o : Oper) (ss : List (Nat × Slot)) (h : List AObj) (d : D1) : Prop where
 eff : ∀ Q, EffOK P ops n m Q i d.e
 rdS : ∀ t s, (t, s) ∈ d.e.rdS → look ss t = s
 rdO : ∀ l x, (l, x) ∈ d.e.rdO → objAt h l = x
 sl : ∀ t, look (putD o d.s ss) t = wr (look ss) d.e.wS t
 ob : ∀ l, objAt d.h l = wr (objAt h) d.e.wO l
 nw : d.e.nw = List.range' h.length (d.h.length - h.length) ∧ h.length ≤ d.h.length
theorem J3j {s : Slot} {h1 : List AObj} {k : Nat} (h : landB s h1 k = true) : k ≤ h1.length ∧ (∀ i ∈ s.ids, i < h1.length) ∧ ∀ x ∈ h1, ∀ i ∈ AObj.ids x, i < h1.length := by
 simp only [landB, Bool.and_eq_true, List.all_eq_true] at h
 refine ⟨Nat.le_of_ble_eq_true h.1.1, fun i hi => ?_, fun x hx i hi => ?_⟩
 ·simpa using h.1.2 i hi
 ·simpa using h.2 x hx i hi
theorem runD0_ok (hT : TabOK P T) {E : List Nat} (hE : J18 P T E = true) {ops : Array Oper} {n m i : Nat} {ss : List (Nat × Slot)} {h : List AObj} {its : List It} {o : Oper} {rd ks : List Nat} {d : D1}
  (hio : ops[i]? = some o) (hok : J4o ss h ks rd o n = true) (hr : runD0 P T E ss h its o rd ks = some d) (hps : AllP d.ps)
  (hg : ∀ (c : Ctx) (names : List Nat) (sl : Nat → Slot) (ob : Nat → AObj) (a : Act) (w : World), (∀ t ∈ rd, sl t = look ss t) → NSR n m names sl ob c a w → Region.wanted o (yielded ops a.tmps) = true) :
  D1OK P ops n m i o ss h d := by
 simp only [J4o, Bool.and_eq_true, List.all_eq_true] at hok
 obtain ⟨⟨⟨hlb, hids⟩, hrd⟩, hdst⟩ := hok
 have hlb' := hlb
 simp only [lentB, Bool.and_eq_true, List.all_eq_true] at hlb'
 have hks : ks.Nodup := J4p.1 hlb'.1
 have hklt : ∀ l ∈ ks, l < h.length := fun l hl => by simpa using (hlb'.2 l hl).1
 have hkid : ∀ l ∈ ks, ∀ i ∈ (objAt h l).ids, i ∈ ks := fun l hl i hi => J46 ((hlb'.2 l hl).2 i hi)
 -- the effect, for what comes out
 have main : ∀ (s : Slot) (h1 : List AObj) (nw : List Nat), OpW P o ⟨miniS ss ks rd, lent h ks, n, ks.length⟩ s h1 → nw.Nodup → h1.length = ks.length + nw.length → (∀ i ∈ s.ids, i < h1.length) →
   (∀ x ∈ h1, ∀ i ∈ AObj.ids x, i < h1.length) → ∀ Q, EffOK P ops n m Q i ⟨rdSOf ss rd, rdOOf h ks, dstW o (s.ren (nameF ks nw)), zipN (ks ++ nw) (h1.map (AObj.ren (nameF ks nw))), nw⟩ := by
  intro s h1 nw hw hnw hlen hsi hoi Q names sl ob hwf hS hO hfr
  have hsl : ∀ t ∈ rd, sl t = look ss t := fun t ht => hS t _ (List.mem_map.2 ⟨t, ht, rfl⟩)
  have hob : ∀ l ∈ ks, l ∈ names ∧ ob l = objAt h l := fun l hl => hO l _ (List.mem_map.2 ⟨l, hl, rfl⟩)
  have hminih : lent h ks = ks.map fun l => (ob l).ren (posF ks) := by
   unfold lent; exact List.map_congr_left fun l hl => by rw [(hob l hl).2]
  rw [hminih] at hw
  obtain ⟨r1, r2⟩ := J17 (m := m) (sl := sl) (ob := ob) hwf hnw hfr hks (fun l hl => (hob l hl).1) (fun l hl i hi => hkid l hl i (by rw [← (hob l hl).2]; exact hi)) hw
   (fun t => by
    unfold miniS
    rw [J3s]
    by_cases ht : t ∈ rd
    ·rw [if_pos ht]
     refine .inr ⟨by simpa using hrd t ht, by rw [hsl t ht], fun i hi => ?_⟩
     rw [hsl t ht] at hi
     exact J46 (hids i (idsOf_mem ht hi))
    ·rw [if_neg ht]; exact .inl rfl) hlen hsi hoi (J16 hdst)
  refine ⟨r1, fun c a w hst K hK => ?_⟩
  unfold wpOp
  rw [hio]
  show (if Region.wanted o (yielded ops a.tmps) then _ else _)
  rw [if_pos (hg c names sl ob a w hsl hst)]
  exact .inl (r2 c a w hst K Q hK)
 have quietly : ∀ (ps : List Prop) (its' : List It) (s : Slot), OpW P o ⟨miniS ss ks rd, lent h ks, n, ks.length⟩ s (lent h ks) → landB s (lent h ks) ks.length = true →
   D1OK P ops n m i o ss h ⟨ps, its', ⟨rdSOf ss rd, rdOOf h ks, dstW o (s.ren (nameF ks [])), [], []⟩, s.ren (nameF ks []), h⟩ := by
  intro ps its' s hv hland
  obtain ⟨l1, l2, l3⟩ := J3j hland
  have hll : (lent h ks).length = ks.length + ([] : List Nat).length := by simp [lent]
  have hm := main s (lent h ks) [] hv (by simp) hll l2 l3
  refine ⟨fun Q => ?_, fun t s hts => ?_, fun l x hlx => ?_, J3u o _ ss, fun l => rfl, by simp, Nat.le_refl _⟩
  ·intro names sl ob hwf hS hO hfr
   have := hm Q names sl ob hwf hS hO hfr
   have hob : ∀ l ∈ ks, ob l = objAt h l := fun l hl => (hO l _ (List.mem_map.2 ⟨l, hl, rfl⟩)).2
   have e : wr ob (zipN (ks ++ []) ((lent h ks).map (AObj.ren (nameF ks [])))) = wr ob [] := by
    funext x
    show _ = ob x
    by_cases hx : x ∈ ks
    ·have hget := J5b hx
     have h2 : ((lent h ks).map (AObj.ren (nameF ks [])))[posF ks x]? = some (((objAt h x).ren (posF ks)).ren (nameF ks [])) := by
      unfold lent; rw [List.getElem?_map, List.getElem?_map, hget]; rfl
     rw [J75 (by simpa using hks) (by simpa using hget) h2, AObj.ren_ren, hob x hx]
     rw [AObj.ren_congr (g := fun y => y) _ (fun i hi => ?_), AObj.ren_id]
     have hik := hkid x hx i hi
     unfold nameF
     rw [List.append_nil, List.getD_eq_getElem?_getD, J5b hik]; rfl
    ·exact J74 fun hk => hx (by simpa using J3i hk)
   rw [e] at this
   exact this
  ·obtain ⟨u, _, hu⟩ := List.mem_map.1 hts
   injection hu with h1 h2; subst h1; exact h2
  ·obtain ⟨u, _, hu⟩ := List.mem_map.1 hlx
   injection hu with h1 h2; subst h1; exact h2
 unfold runD0 at hr
 split at hr
 ·rename_i ps s hq
  split at hr
  ·rename_i hland
   injection hr with hr; subst hr
   exact quietly _ _ _ (exQuiet_ok hT hE (st := ⟨miniS ss ks rd, lent h ks, n, ks.length⟩) hq hps).w hland
  ·cases hr
 ·split at hr
  ·rename_i ps s its' hq
   split at hr
   ·rename_i hland
    injection hr with hr; subst hr
    exact quietly _ _ _ (callQ_ok hT hE (st := ⟨miniS ss ks rd, lent h ks, n, ks.length⟩) hq hps) hland
   ·cases hr
  ·split at hr
   ·rename_i kept its1 _ _
    split at hr
    ·rename_i ps s h1 its' hx
     split at hr
     ·rename_i hland
      rw [Bool.and_eq_true] at hland
      injection hr with hr; subst hr
      obtain ⟨l1, l2, l3⟩ := J3j hland.1
      obtain ⟨hkept, hps⟩ := hps
      have hv := J2j hT hE (st := ⟨miniS ss ks rd, lent h ks, n, ks.length⟩) hx hps
      have hnk : ∀ x ∈ ks ++ List.range' h.length (h1.length - ks.length), x < h.length + (h1.length - ks.length) := by
       intro x hx
       rcases List.mem_append.1 hx with hx | hx
       ·have := hklt x hx; omega
       ·rw [List.mem_range'] at hx; obtain ⟨q, hq, rfl⟩ := hx; omega
      have hnd : (ks ++ List.range' h.length (h1.length - ks.length)).Nodup := by
       rw [List.nodup_append]
       refine ⟨hks, J4f _ _, fun x hx y hy => ?_⟩
       have := hklt x hx
       rw [List.mem_range'] at hy; obtain ⟨q, hq, rfl⟩ := hy; omega
      have hsame : ∀ (f : Nat → AObj), (∀ l ∈ ks, f l = objAt h l) → ∀ x ∈ kept, wr f (zipN (ks ++ List.range' h.length (h1.length - ks.length)) (h1.map (AObj.ren (nameF ks (List.range' h.length (h1.length - ks.length)))))) x = f x := by
       intro f hf x hxk
       have hx1 : x ∈ ks := J46 (List.all_eq_true.1 hland.2 x hxk)
       have hget := J5b hx1
       have hlt : posF ks x < ks.length := by
        rcases Nat.lt_or_ge (posF ks x) ks.length with h' | h'
        ·exact h'
        ·rw [List.getElem?_eq_none h'] at hget; cases hget
       have h0 : objAt h1 (posF ks x) = (objAt h x).ren (posF ks) := by
        have e := List.map_inj_left.1 hkept x hxk
        rw [e]
        unfold lent objAt
        rw [List.getD_eq_getElem?_getD, List.getElem?_map, hget]; rfl
       have h2 : (h1.map (AObj.ren (nameF ks (List.range' h.length (h1.length - ks.length)))))[posF ks x]? = some (((objAt h x).ren (posF ks)).ren (nameF ks (List.range' h.length (h1.length - ks.length)))) := by
        rw [List.getElem?_map]
        have : h1[posF ks x]? = some (objAt h1 (posF ks x)) := by
         unfold objAt
         rw [List.getD_eq_getElem?_getD, List.getElem?_eq_getElem (by omega)]; rfl
        rw [this, h0]; rfl
       rw [J75 hnd (by rw [List.getElem?_append_left hlt]; exact hget) h2, AObj.ren_ren, hf x hx1]
       rw [AObj.ren_congr (g := fun y => y) _ (fun i hi => ?_), AObj.ren_id]
       have hik := hkid x hx1 i hi
       have hgi := J5b hik
       have hlti : posF ks i < ks.length := by
        rcases Nat.lt_or_ge (posF ks i) ks.length with h' | h'
        ·exact h'
        ·rw [List.getElem?_eq_none h'] at hgi; cases hgi
       unfold nameF
       rw [List.getD_eq_getElem?_getD, List.getElem?_append_left hlti, hgi]; rfl
      refine ⟨fun Q => ?_, fun t s hts => ?_, fun l x hlx => ?_, J3u o _ ss, fun l => ?_, ?_⟩
      ·intro names sl ob hwf hS hO hfr
       have := main s h1 _ hv (J4f _ _) (by simp; omega) l2 l3 Q names sl ob hwf hS hO hfr
       have hob : ∀ l ∈ ks, ob l = objAt h l := fun l hl => (hO l _ (List.mem_map.2 ⟨l, hl, rfl⟩)).2
       have e := wr_drop (hsame ob hob)
       show WF _ _ (wr ob (dropW kept _)) ∧ ∀ (c : Ctx) (a : Act) (w : World), NSR n m names sl ob c a w → ∀ (K : Act → World → Prop), (∀ a' w', NSR n m _ _ (wr ob (dropW kept _)) c a' w' → K a' w') → wpOp P ops Q i K a w
       rw [e]
       exact this
      ·obtain ⟨u, _, hu⟩ := List.mem_map.1 hts
       injection hu with h1 h2; subst h1; exact h2
      ·obtain ⟨u, _, hu⟩ := List.mem_map.1 hlx
       injection hu with h1 h2; subst h1; exact h2
      ·show objAt ((List.range _).map _) l = _
       rw [J4j]
       split
       ·rfl
       ·rename_i hnl
        rw [J74, objAt_ge (by omega)]
        intro hk
        have := J3i (J3g hk).1
        exact hnl (hnk l this)
      ·simp
     ·cases hr
    ·cases hr
   ·split at hr
    ·rename_i ps s h1 its' hx
     split at hr
     ·rename_i hland
      injection hr with hr; subst hr
      obtain ⟨l1, l2, l3⟩ := J3j hland
      have hv := J2j hT hE (st := ⟨miniS ss ks rd, lent h ks, n, ks.length⟩) hx hps
      refine ⟨main s h1 _ hv (J4f _ _) (by simp; omega) l2 l3, fun t s hts => ?_, fun l x hlx => ?_, J3u o _ ss, fun l => ?_, ?_⟩
      ·obtain ⟨u, _, hu⟩ := List.mem_map.1 hts
       injection hu with h1 h2; subst h1; exact h2
      ·obtain ⟨u, _, hu⟩ := List.mem_map.1 hlx
       injection hu with h1 h2; subst h1; exact h2
      ·show objAt ((List.range _).map _) l = _
       rw [J4j]
       split
       ·rfl
       ·rename_i hnl
        rw [J74, objAt_ge (by omega)]
        intro hk
        have := J3i hk
        rcases List.mem_append.1 this with h | h
        ·have := hklt l h; omega
        ·rw [List.mem_range'] at h; obtain ⟨q, hq, rfl⟩ := h; omega
      ·simp
     ·cases hr
    ·cases hr
theorem runM_ok {ops : Array Oper} {n m i t : Nat} {ss : List (Nat × Slot)} {h : List AObj} {its : List It} {o : Oper} {rd ks : List Nat} (hio : ops[i]? = some o) (hok : J4o ss h ks rd o n = true) (hop : o.op = .move (.tmp t)) (ht : t ∈ rd)
  (hg : ∀ (c : Ctx) (names : List Nat) (sl : Nat → Slot) (ob : Nat → AObj) (a : Act) (w : World), (∀ t ∈ rd, sl t = look ss t) → NSR n m names sl ob c a w → Region.wanted o (yielded ops a.tmps) = true) :
  D1OK P ops n m i o ss h ⟨[], its, ⟨rdSOf ss rd, [], dstW o (look ss t), [], []⟩, look ss t, h⟩ := by
 simp only [J4o, Bool.and_eq_true, List.all_eq_true] at hok
 obtain ⟨⟨_, hrd⟩, hdst⟩ := hok
 have htn : t < n := by simpa using hrd t ht
 refine ⟨fun Q => ?_, fun t s hts => ?_, fun l x hlx => by simp at hlx, J3u o _ ss, fun l => rfl, by simp, Nat.le_refl _⟩
 ·intro names sl ob hwf hS hO hfr
  have hsl : ∀ t ∈ rd, sl t = look ss t := fun t ht => hS t _ (List.mem_map.2 ⟨t, ht, rfl⟩)
  have hw : OpW P o ⟨(List.range n).map fun t => (t, (sl t).ren (posF names)), names.map fun l => (ob l).ren (posF names), n, names.length⟩ ((sl t).ren (posF names)) (names.map fun l => (ob l).ren (posF names)) := by
   have := (J47 (P := P) (o := o) (st := ⟨(List.range n).map fun t => (t, (sl t).ren (posF names)), names.map fun l => (ob l).ren (posF names), n, names.length⟩) (x := .tmp t) (.inl hop)).w
   have e : opnd ((List.range n).map fun t => (t, (sl t).ren (posF names))) (.tmp t) = (sl t).ren (posF names) := by
    show look _ t = _
    rw [J3s]; simp [htn]
   rw [e] at this; exact this
  obtain ⟨r1, r2⟩ := J17 (m := m) (sl := sl) (ob := ob) (nw := []) hwf List.nodup_nil (fun l hl => by simp at hl) hwf.once (fun l hl => hl) (fun l hl i hi => hwf.ob l hl i hi) hw
   (fun t => by
    rw [J3s]
    by_cases ht : t ∈ List.range n
    ·rw [if_pos ht]
     exact .inr ⟨List.mem_range.1 ht, rfl, fun i hi => hwf.sl t i hi⟩
    ·rw [if_neg ht]; exact .inl rfl) (by simp) (fun i hi => by
     rw [Slot.ids_ren] at hi
     obtain ⟨j, hj, rfl⟩ := List.mem_map.1 hi
     rw [List.length_map]; exact J5c (hwf.sl t j hj)) (fun x hx i hi => by
     obtain ⟨l, hl, rfl⟩ := List.mem_map.1 hx
     rw [AObj.ids_ren] at hi
     obtain ⟨j, hj, rfl⟩ := List.mem_map.1 hi
     rw [List.length_map]; exact J5c (hwf.ob l hl j hj)) (J16 hdst)
  have es : ((sl t).ren (posF names)).ren (nameF names []) = look ss t := by
   rw [Slot.ren_ren, Slot.ren_congr (g := fun y => y) _ (fun i hi => ?_), Slot.ren_id, hsl t ht]
   unfold nameF
   rw [List.append_nil, List.getD_eq_getElem?_getD, J5b (hwf.sl t i hi)]; rfl
  have e : wr ob (zipN (names ++ []) ((names.map fun l => (ob l).ren (posF names)).map (AObj.ren (nameF names [])))) = wr ob [] := by
   funext x
   show _ = ob x
   by_cases hx : x ∈ names
   ·have hget := J5b hx
    have h2 : ((names.map fun l => (ob l).ren (posF names)).map (AObj.ren (nameF names [])))[posF names x]? = some (((ob x).ren (posF names)).ren (nameF names [])) := by
     rw [List.getElem?_map, List.getElem?_map, hget]; rfl
    rw [J75 (by simpa using hwf.once) (by simpa using hget) h2, AObj.ren_ren]
    rw [AObj.ren_congr (g := fun y => y) _ (fun i hi => ?_), AObj.ren_id]
    unfold nameF
    rw [List.append_nil, List.getD_eq_getElem?_getD, J5b (hwf.ob x hx i hi)]; rfl
   ·exact J74 fun hk => hx (by simpa using J3i hk)
  rw [es, e] at r1 r2
  refine ⟨r1, fun c a w hst K hK => ?_⟩
  unfold wpOp
  rw [hio]
  show (if Region.wanted o (yielded ops a.tmps) then _ else _)
  rw [if_pos (hg c names sl ob a w hsl hst)]
  exact .inl (r2 c a w hst K Q hK)
 ·obtain ⟨u, _, hu⟩ := List.mem_map.1 hts
  injection hu with h1 h2; subst h1; exact h2
theorem vget_own {l : Nat} {q : List Step} : ∀ (t : Ty) (x : t.den) (p : List Step), vget t x p ≠ .own l q := by
 intro t x p
 fun_induction vget t x p <;> first | assumption | (intro h; cases h)
theorem get_own_ren {f : Nat → Nat} {l : Nat} {q : List Step} : ∀ (s : Slot) (p : List Step), s.get p = .own l q → (s.ren f).get p = .own (f l) q := by
 intro s p
 fun_induction Slot.get s p
 ·intro h; subst h; rfl
 ·intro h; exact absurd h (vget_own _ _ _)
 ·rename_i ih; intro h; exact ih h
 ·rename_i ih; intro h; exact ih h
 ·intro h; cases h
theorem get_own_ids {l : Nat} {q : List Step} : ∀ {p : List Step} (o : AObj), o.slot.get p = .own l q → l ∈ o.ids := by
 have key : ∀ (s : Slot) (p : List Step), s.get p = .own l q → l ∈ s.ids := by
  intro s p
  fun_induction Slot.get s p
  ·intro h; subst h; simp [Slot.ids]
  ·intro h; exact absurd h (vget_own _ _ _)
  ·rename_i ih; intro h; simp [Slot.ids, ih h]
  ·rename_i ih; intro h; simp [Slot.ids, ih h]
  ·intro h; cases h
 intro p o h
 cases o with
 | box t s lv => exact key s p h
 | row e xs lv => exact absurd h (by intro h; have := key _ _ h; simp [AObj.slot, Slot.ids] at this)
 | map k v es lv => exact absurd h (by intro h; have := key _ _ h; simp [AObj.slot, Slot.ids] at this)
 | dead => exact absurd h (by intro h; have := key _ _ h; simp [AObj.slot, Slot.ids] at this)
theorem AObj.lay_ren (f : Nat → Nat) (o : AObj) : (o.ren f).lay = o.lay := by cases o <;> rfl
theorem AObj.slot_ren (f : Nat → Nat) (o : AObj) : (o.ren f).slot = o.slot.ren f := by cases o <;> rfl
theorem runL_ok (hT : TabOK P T) {ops : Array Oper} {n m i t ty l l2 : Nat} {p q : List Step} {y : Ty} {ss : List (Nat × Slot)} {h : List AObj} {its : List It} {o : Oper} {rd ks : List Nat} (hio : ops[i]? = some o) (hok : J4o ss h ks rd o n = true) (hop : o.op = .load ty (.tmp t)) (ht : t ∈ rd) (hlk : look ss t = .ptr l p) (hy : T.ty ty = some y) (hc : (objAt h l).lay.at p = some y ∧ (objAt h l).isDead = false) (hget : (objAt h l).slot.get p = .own l2 q)
  (hg : ∀ (c : Ctx) (names : List Nat) (sl : Nat → Slot) (ob : Nat → AObj) (a : Act) (w : World), (∀ t ∈ rd, sl t = look ss t) → NSR n m names sl ob c a w → Region.wanted o (yielded ops a.tmps) = true) :
  D1OK P ops n m i o ss h ⟨[], its, ⟨rdSOf ss rd, [(l, objAt h l)], dstW o (.own l2 q), [], []⟩, .own l2 q, h⟩ := by
 simp only [J4o, Bool.and_eq_true, List.all_eq_true] at hok
 obtain ⟨⟨_, hrd⟩, hdst⟩ := hok
 have htn : t < n := by simpa using hrd t ht
 have hrdO : ∀ l' x, (l', x) ∈ [(l, objAt h l)] → objAt h l' = x := by
  intro l' x hlx
  have := List.mem_singleton.1 hlx
  injection this with e1 e2; subst e1; exact e2.symm
 refine ⟨fun Q => ?_, fun t s hts => ?_, hrdO, J3u o _ ss, fun l => rfl, by simp, Nat.le_refl _⟩
 ·intro names sl ob hwf hS hO hfr
  have hsl : ∀ t ∈ rd, sl t = look ss t := fun t ht => hS t _ (List.mem_map.2 ⟨t, ht, rfl⟩)
  obtain ⟨hln, hlo⟩ := hO l (objAt h l) (List.mem_cons_self ..)
  have hl2 : l2 ∈ names := by
   have hi := hwf.ob l hln
   have : l2 ∈ (ob l).ids := by rw [hlo]; exact get_own_ids _ hget
   exact hi l2 this
  have hw : OpW P o ⟨(List.range n).map fun t => (t, (sl t).ren (posF names)), names.map fun l => (ob l).ren (posF names), n, names.length⟩ ((Slot.own l2 q).ren (posF names)) (names.map fun l => (ob l).ren (posF names)) := by
   refine (J22 (P := P) hT (o := o) (st := ⟨(List.range n).map fun t => (t, (sl t).ren (posF names)), names.map fun l => (ob l).ren (posF names), n, names.length⟩) (x := .tmp t) hop ?_).w
   have e : opnd ((List.range n).map fun t => (t, (sl t).ren (posF names))) (.tmp t) = .ptr (posF names l) p := by
    show look _ t = _
    rw [J3s, if_pos (by simpa using htn), hsl t ht, hlk]; rfl
   have eo : objAt (names.map fun l => (ob l).ren (posF names)) (posF names l) = (objAt h l).ren (posF names) := by
    unfold objAt
    rw [List.getD_eq_getElem?_getD, List.getElem?_map, J5b hln]
    show (ob l).ren _ = _
    rw [hlo]; rfl
   show J21 T (names.map fun l => (ob l).ren (posF names)) ty (opnd _ (.tmp t)) = _
   rw [e]
   unfold J21
   rw [hy]
   dsimp only
   rw [eo, AObj.lay_ren, AObj.isDead_ren, if_pos hc, AObj.slot_ren, get_own_ren _ _ hget]
   rfl
  obtain ⟨r1, r2⟩ := J17 (m := m) (sl := sl) (ob := ob) (nw := []) hwf List.nodup_nil (fun l hl => by simp at hl) hwf.once (fun l hl => hl) (fun l hl i hi => hwf.ob l hl i hi) hw
   (fun t => by
    rw [J3s]
    by_cases ht : t ∈ List.range n
    ·rw [if_pos ht]
     exact .inr ⟨List.mem_range.1 ht, rfl, fun i hi => hwf.sl t i hi⟩
    ·rw [if_neg ht]; exact .inl rfl) (by simp) (fun i hi => by
     have : i = posF names l2 := by simpa [Slot.ren, Slot.ids] using hi
     subst this
     rw [List.length_map]; exact J5c hl2) (fun x hx i hi => by
     obtain ⟨l, hl, rfl⟩ := List.mem_map.1 hx
     rw [AObj.ids_ren] at hi
     obtain ⟨j, hj, rfl⟩ := List.mem_map.1 hi
     rw [List.length_map]; exact J5c (hwf.ob l hl j hj)) (J16 hdst)
  have es : ((Slot.own l2 q).ren (posF names)).ren (nameF names []) = .own l2 q := by
   show Slot.own (nameF names [] (posF names l2)) q = _
   unfold nameF
   rw [List.append_nil, List.getD_eq_getElem?_getD, J5b hl2]; rfl
  have e : wr ob (zipN (names ++ []) ((names.map fun l => (ob l).ren (posF names)).map (AObj.ren (nameF names [])))) = wr ob [] := by
   funext x
   show _ = ob x
   by_cases hx : x ∈ names
   ·have hget := J5b hx
    have h2 : ((names.map fun l => (ob l).ren (posF names)).map (AObj.ren (nameF names [])))[posF names x]? = some (((ob x).ren (posF names)).ren (nameF names [])) := by
     rw [List.getElem?_map, List.getElem?_map, hget]; rfl
    rw [J75 (by simpa using hwf.once) (by simpa using hget) h2, AObj.ren_ren]
    rw [AObj.ren_congr (g := fun y => y) _ (fun i hi => ?_), AObj.ren_id]
    unfold nameF
    rw [List.append_nil, List.getD_eq_getElem?_getD, J5b (hwf.ob x hx i hi)]; rfl
   ·exact J74 fun hk => hx (by simpa using J3i hk)
  rw [es, e] at r1 r2
  refine ⟨r1, fun c a w hst K hK => ?_⟩
  unfold wpOp
  rw [hio]
  show (if Region.wanted o (yielded ops a.tmps) then _ else _)
  rw [if_pos (hg c names sl ob a w hsl hst)]
  exact .inl (r2 c a w hst K Q hK)
 ·obtain ⟨u, _, hu⟩ := List.mem_map.1 hts
  injection hu with h1 h2; subst h1; exact h2
theorem runF_ok (hT : TabOK P T) {ops : Array Oper} {n m i t ty k l : Nat} {p : List Step} {z : Slot} {ss : List (Nat × Slot)} {h : List AObj} {its : List It} {o : Oper} {rd ks : List Nat} (hio : ops[i]? = some o) (hok : J4o ss h ks rd o n = true) (hop : o.op = .fieldAddr ty (.tmp t) k) (ht : t ∈ rd) (hlk : look ss t = .ptr l p) (hz : J1t T h ty (.ptr l p) k = some z)
  (hg : ∀ (c : Ctx) (names : List Nat) (sl : Nat → Slot) (ob : Nat → AObj) (a : Act) (w : World), (∀ t ∈ rd, sl t = look ss t) → NSR n m names sl ob c a w → Region.wanted o (yielded ops a.tmps) = true) :
  D1OK P ops n m i o ss h ⟨[], its, ⟨rdSOf ss rd, [(l, objAt h l)], dstW o (.ptr l (p ++ [.fld k])), [], []⟩, .ptr l (p ++ [.fld k]), h⟩ := by
 simp only [J4o, Bool.and_eq_true, List.all_eq_true] at hok
 obtain ⟨⟨_, hrd⟩, hdst⟩ := hok
 have htn : t < n := by simpa using hrd t ht
 have hrdO : ∀ l' x, (l', x) ∈ [(l, objAt h l)] → objAt h l' = x := by
  intro l' x hlx
  have := List.mem_singleton.1 hlx
  injection this with e1 e2; subst e1; exact e2.symm
 refine ⟨fun Q => ?_, fun t s hts => ?_, hrdO, J3u o _ ss, fun l => rfl, by simp, Nat.le_refl _⟩
 ·intro names sl ob hwf hS hO hfr
  have hsl : ∀ t ∈ rd, sl t = look ss t := fun t ht => hS t _ (List.mem_map.2 ⟨t, ht, rfl⟩)
  obtain ⟨hln, hlo⟩ := hO l (objAt h l) (List.mem_cons_self ..)
  have hw : OpW P o ⟨(List.range n).map fun t => (t, (sl t).ren (posF names)), names.map fun l => (ob l).ren (posF names), n, names.length⟩ ((Slot.ptr l (p ++ [.fld k])).ren (posF names)) (names.map fun l => (ob l).ren (posF names)) := by
   refine (J1u (P := P) hT (o := o) (st := ⟨(List.range n).map fun t => (t, (sl t).ren (posF names)), names.map fun l => (ob l).ren (posF names), n, names.length⟩) (x := .tmp t) hop ?_).w
   have e : opnd ((List.range n).map fun t => (t, (sl t).ren (posF names))) (.tmp t) = .ptr (posF names l) p := by
    show look _ t = _
    rw [J3s, if_pos (by simpa using htn), hsl t ht, hlk]; rfl
   have eo : objAt (names.map fun l => (ob l).ren (posF names)) (posF names l) = (objAt h l).ren (posF names) := by
    unfold objAt
    rw [List.getD_eq_getElem?_getD, List.getElem?_map, J5b hln]
    show (ob l).ren _ = _
    rw [hlo]; rfl
   show J1t T (names.map fun l => (ob l).ren (posF names)) ty (opnd _ (.tmp t)) k = _
   rw [e]
   exact J1v hz (by rw [eo, AObj.lay_ren]) (by rw [eo, AObj.isDead_ren])
  obtain ⟨r1, r2⟩ := J17 (m := m) (sl := sl) (ob := ob) (nw := []) hwf List.nodup_nil (fun l hl => by simp at hl) hwf.once (fun l hl => hl) (fun l hl i hi => hwf.ob l hl i hi) hw
   (fun t => by
    rw [J3s]
    by_cases ht : t ∈ List.range n
    ·rw [if_pos ht]
     exact .inr ⟨List.mem_range.1 ht, rfl, fun i hi => hwf.sl t i hi⟩
    ·rw [if_neg ht]; exact .inl rfl) (by simp) (fun i hi => by
     have : i = posF names l := by simpa [Slot.ren, Slot.ids] using hi
     subst this
     rw [List.length_map]; exact J5c hln) (fun x hx i hi => by
     obtain ⟨l, hl, rfl⟩ := List.mem_map.1 hx
     rw [AObj.ids_ren] at hi
     obtain ⟨j, hj, rfl⟩ := List.mem_map.1 hi
     rw [List.length_map]; exact J5c (hwf.ob l hl j hj)) (J16 hdst)
  have es : ((Slot.ptr l (p ++ [.fld k])).ren (posF names)).ren (nameF names []) = .ptr l (p ++ [.fld k]) := by
   show Slot.ptr (nameF names [] (posF names l)) (p ++ [.fld k]) = _
   unfold nameF
   rw [List.append_nil, List.getD_eq_getElem?_getD, J5b hln]; rfl
  have e : wr ob (zipN (names ++ []) ((names.map fun l => (ob l).ren (posF names)).map (AObj.ren (nameF names [])))) = wr ob [] := by
   funext x
   show _ = ob x
   by_cases hx : x ∈ names
   ·have hget := J5b hx
    have h2 : ((names.map fun l => (ob l).ren (posF names)).map (AObj.ren (nameF names [])))[posF names x]? = some (((ob x).ren (posF names)).ren (nameF names [])) := by
     rw [List.getElem?_map, List.getElem?_map, hget]; rfl
    rw [J75 (by simpa using hwf.once) (by simpa using hget) h2, AObj.ren_ren]
    rw [AObj.ren_congr (g := fun y => y) _ (fun i hi => ?_), AObj.ren_id]
    unfold nameF
    rw [List.append_nil, List.getD_eq_getElem?_getD, J5b (hwf.ob x hx i hi)]; rfl
   ·exact J74 fun hk => hx (by simpa using J3i hk)
  rw [es, e] at r1 r2
  refine ⟨r1, fun c a w hst K hK => ?_⟩
  unfold wpOp
  rw [hio]
  show (if Region.wanted o (yielded ops a.tmps) then _ else _)
  rw [if_pos (hg c names sl ob a w hsl hst)]
  exact .inl (r2 c a w hst K Q hK)
 ·obtain ⟨u, _, hu⟩ := List.mem_map.1 hts
  injection hu with h1 h2; subst h1; exact h2
theorem runD_ok (hT : TabOK P T) {E : List Nat} (hE : J18 P T E = true) {ops : Array Oper} {n m i : Nat} {ss : List (Nat × Slot)} {h : List AObj} {its : List It} {o : Oper} {rd ks : List Nat} {d : D1}
  (hio : ops[i]? = some o) (hok : J4o ss h ks rd o n = true) (hr : runD P T E ss h its o rd ks = some d) (hps : AllP d.ps)
  (hg : ∀ (c : Ctx) (names : List Nat) (sl : Nat → Slot) (ob : Nat → AObj) (a : Act) (w : World), (∀ t ∈ rd, sl t = look ss t) → NSR n m names sl ob c a w → Region.wanted o (yielded ops a.tmps) = true) :
  D1OK P ops n m i o ss h d := by
 unfold runD at hr
 split at hr
 ·rename_i s hm
  injection hr with hr; subst hr
  obtain ⟨t, h1, h2, rfl⟩ := movedS_some hm
  exact runM_ok hio hok h1 h2 hg
 ·split at hr
  ·rename_i l s hm
   injection hr with hr; subst hr
   obtain ⟨ty, t, p, y, l2, q, h1, h2, h3, h4, h5, h6, rfl⟩ := loadedS_some hm
   exact runL_ok hT hio hok h1 h2 h3 h4 h5 h6 hg
  ·split at hr
   ·rename_i l s hm
    injection hr with hr; subst hr
    obtain ⟨ty, t, k, p, h1, h2, h3, ⟨z, h4⟩, rfl⟩ := J2n hm
    exact runF_ok hT hio hok h1 h2 h3 h4 hg
   ·exact runD0_ok hT hE hio hok hr hps hg
theorem J38 {n m : Nat} {names : List Nat} {sl : Nat → Slot} {ob : Nat → AObj} {c : Ctx} {a : Act} {w : World} (h : NSR n m names sl ob c a w) {ops : Array Oper} {j d : Nat} {oj : Oper} {x : Bool}
  (hj : ops[j]? = some oj) (hd : oj.dst = some d) (hdn : d < n) (hs : sl d = .v .bool x) : yielded ops a.tmps j = some x := by
 obtain ⟨G, hG⟩ := h
 refine J79 hG hj hd ?_
 rw [J3v, if_pos hdn, hs]; rfl
theorem left_out {ops : Array Oper} {n m i d : Nat} {ss : List (Nat × Slot)} {h : List AObj} {o : Oper} (hio : ops[i]? = some o) (hdst : dstB o n = true) {ps : List Prop} {its : List It}
  (hno : ∀ (c : Ctx) (names : List Nat) (sl : Nat → Slot) (ob : Nat → AObj) (a : Act) (w : World), sl d = look ss d → NSR n m names sl ob c a w → Region.wanted o (yielded ops a.tmps) = false) :
  D1OK P ops n m i o ss h ⟨ps, its, ⟨[(d, look ss d)], [], dstW o .tnil, [], []⟩, .tnil, h⟩ := by
 refine ⟨fun Q => ?_, fun t s hts => ?_, fun l x hlx => by simp at hlx, J3u o _ ss, fun l => rfl, by simp, Nat.le_refl _⟩
 ·intro names sl ob hwf hS hO hfr
  simp only [List.append_nil]
  have hs := hS d (look ss d) (List.mem_cons_self ..)
  refine ⟨⟨hwf.once, fun t i hi => ?_, hwf.ob⟩, fun c a w hst K hK => ?_⟩
  ·rw [wr_dst] at hi
   split at hi
   ·simp [Slot.ids] at hi
   ·exact hwf.sl t i hi
  ·unfold wpOp
   rw [hio]
   show (if Region.wanted o (yielded ops a.tmps) then _ else _)
   rw [if_neg (by rw [hno c names sl ob a w hs hst]; simp)]
   refine hK _ _ ?_
   obtain ⟨G, hG⟩ := hst
   have hf : SRG c G ⟨match o.dst with | some d => (d, Slot.tnil) :: (stOf names sl ob n m).slots | none => (stOf names sl ob n m).slots, (stOf names sl ob n m).heap, n, m⟩ (a.put o.dst undef) w := by
    cases hd : o.dst with
    | none => exact hG
    | some d2 => exact hG.put (J16 hdst d2 hd) rfl
   refine ⟨G, hf.toHRG, fun t => ?_, hf.ent, hf.em, hf.sz, hf.nodef⟩
   have ht := hf.slots t
   have e : look (stOf names (wr sl (dstW o .tnil)) (wr ob []) n m).slots t = .undef ∨
     look (stOf names (wr sl (dstW o .tnil)) (wr ob []) n m).slots t = look (match o.dst with | some d => (d, Slot.tnil) :: (stOf names sl ob n m).slots | none => (stOf names sl ob n m).slots) t := by
    rw [J3v, wr_dst]
    by_cases htn : t < n
    ·rw [if_pos htn]
     cases hd2 : o.dst with
     | none => right; simp [J3v, htn]
     | some d2 =>
      simp only [Option.some.injEq, J3t]
      by_cases h2 : d2 = t
      ·right; simp [h2, Slot.ren]
      ·right; simp [h2, J3v, htn]
    ·left; rw [if_neg htn]
   rcases e with e | e
   ·rw [e]; trivial
   ·rw [e]; exact ht
 ·simp at hts; obtain ⟨rfl, rfl⟩ := hts; rfl
theorem evD1_ok (hT : TabOK P T) {E : List Nat} (hE : J18 P T E = true) {ops : Array Oper} {n m i : Nat} {ss : List (Nat × Slot)} {h : List AObj} {its : List It} {o : Oper} {d : D1}
  (hio : ops[i]? = some o) (hr : evD1 P T E ops n ss h its o = some d) (hps : AllP d.ps) : D1OK P ops n m i o ss h d := by
 unfold evD1 at hr
 split at hr
 ·rename_i hgn
  split at hr
  ·rename_i hok
   exact runD_ok hT hE hio hok hr hps fun c names sl ob a w _ _ => by simp [Region.wanted, hgn]
  ·cases hr
 ·rename_i j want hgs
  split at hr
  ·rename_i dd hgone
   split at hr
   ·rename_i hdst hdn
    injection hr with hr; subst hr
    obtain ⟨oj, hj, hdd, hlk⟩ := goneD_some hgone
    have hdn : dd < n := by simpa using hdn
    exact left_out hio hdst fun c names sl ob a w hs hst => by
     rw [hlk] at hs
     obtain ⟨G, hG⟩ := hst
     have hy := J35 hG hj hdd (by rw [J3v, if_pos hdn, hs]; rfl)
     simp [Region.wanted, hgs, hy]
   ·cases hr
  split at hr
  ·rename_i b its0
   split at hr
   ·rename_i oj hj
    split at hr
    ·rename_i dd hdd
     split at hr
     ·rename_i x hx
      split at hr
      ·rename_i hbw
       have hbw := of_decide_eq_true hbw
       split at hr
       ·rename_i hok
        split at hr
        ·rename_i r hrr
         injection hr with hr; subst hr
         obtain ⟨hxb, hps⟩ := hps
         have hdn : dd < n := by
          simp only [J4o, Bool.and_eq_true, List.all_eq_true] at hok
          simpa using hok.1.2 dd (List.mem_cons_self ..)
         have := runD_ok (m := m) hT hE hio hok hrr hps fun c names sl ob a w hsl hst => by
          have hs := hsl dd (List.mem_cons_self ..)
          rw [hx] at hs
          have hy := J38 hst hj hdd hdn hs
          subst hxb; subst hbw
          simp [Region.wanted, hgs, hy]
         exact ⟨this.eff, this.rdS, this.rdO, this.sl, this.ob, this.nw⟩
        ·cases hr
       ·cases hr
      ·rename_i hbw
       have hbw := of_decide_eq_false hbw
       split at hr
       ·rename_i hdst hdn
        injection hr with hr; subst hr
        obtain ⟨hxb, _⟩ := hps
        have hdn : dd < n := by simpa using hdn
        exact left_out hio hdst fun c names sl ob a w hs hst => by
         rw [hx] at hs
         have hy := J38 hst hj hdd hdn hs
         subst hxb; simp [Region.wanted, hgs, hy, hbw]
       ·cases hr
     ·cases hr
    ·cases hr
   ·cases hr
  ·cases hr
theorem evD_ok (hT : TabOK P T) {E : List Nat} (hE : J18 P T E = true) {ops : Array Oper} {n m : Nat} : ∀ (l : List Oper) (i0 : Nat) (its its' : List It) (ss ss' : List (Nat × Slot)) (h h' : List AObj)
  (ps : List Prop) (effs : List Eff), (∀ k o, l[k]? = some o → ops[i0 + k]? = some o) → evD P T E ops n l its ss h = some (ps, its', effs, ss', h') → AllP ps →
  effs.length = l.length ∧ (∀ k e, effs[k]? = some e → ∀ Q, EffOK P ops n m Q (i0 + k) e) ∧ Chain effs (look ss) (objAt h) ∧
  (∀ j0 t, look ss' t = ov (fun _ => true) (effs.map Eff.wS) j0 (look ss) t) ∧ (∀ j0 x, objAt h' x = ov (fun _ => true) (effs.map Eff.wO) j0 (objAt h) x) ∧
  h.length ≤ h'.length ∧ ∀ (x : Nat), (∃ (k : Nat) (e : Eff), effs[k]? = some e ∧ x ∈ e.nw) ↔ h.length ≤ x ∧ x < h'.length
 | [], i0, its, its', ss, ss', h, h', ps, effs, _, he, _ => by
  simp only [evD] at he
  injection he with he; injection he with e1 e2; injection e2 with e2 e3; injection e3 with e3 e4; injection e4 with e4 e5
  subst e3; subst e4; subst e5
  refine ⟨rfl, by simp, trivial, fun _ _ => rfl, fun _ _ => rfl, Nat.le_refl _, fun x => ⟨fun ⟨k, e, h, _⟩ => by simp at h, fun h => by omega⟩⟩
 | o :: r, i0, its, its', ss, ss', h, h', ps, effs, hl, he, hps => by
  unfold evD at he
  split at he
  ·rename_i d hd
   split at he
   ·rename_i qs its2 effs2 ss2 h2 hr
    injection he with he; injection he with e1 e2; injection e2 with e2 e3; injection e3 with e3 e4; injection e4 with e4 e5
    subst e1; subst e3; subst e4; subst e5
    obtain ⟨p1, p2⟩ := AllP.append hps
    have h1 := evD1_ok (m := m) hT hE (by simpa using hl 0 o rfl) hd p1
    obtain ⟨q1, q2, q3, q4, q5, q6, q7⟩ := evD_ok hT hE (m := m) r (i0 + 1) _ _ _ _ _ _ _ _ (fun k o' hk => by
     have := hl (k + 1) o' (by simpa using hk)
     rwa [show i0 + (k + 1) = i0 + 1 + k by omega] at this) hr p2
    have eS : look (putD o d.s ss) = wr (look ss) d.e.wS := funext h1.sl
    have eO : objAt d.h = wr (objAt h) d.e.wO := funext h1.ob
    rw [eS] at q3 q4
    rw [eO] at q3 q5
    obtain ⟨n1, n2⟩ := h1.nw
    refine ⟨by simp [q1], fun k e hk Q => ?_, ⟨h1.rdS, h1.rdO, q3⟩, fun j0 t => ?_, fun j0 x => ?_, by omega, fun x => ?_⟩
    ·cases k with
     | zero => simp at hk; subst hk; rw [Nat.add_zero]; exact h1.eff Q
     | succ k =>
      have := q2 k e (by simpa using hk) Q
      rwa [show i0 + (k + 1) = i0 + 1 + k by omega]
    ·simp only [List.map_cons, ov, cond_true]; exact q4 (j0 + 1) t
    ·simp only [List.map_cons, ov, cond_true]; exact q5 (j0 + 1) x
    ·constructor
     ·rintro ⟨k, e, hk, hx⟩
      cases k with
      | zero =>
       simp at hk; subst hk
       rw [n1, List.mem_range'] at hx
       obtain ⟨y, hy, rfl⟩ := hx; omega
      | succ k =>
       have := (q7 x).1 ⟨k, e, by simpa using hk, hx⟩
       omega
     ·rintro ⟨hx1, hx2⟩
      rcases Nat.lt_or_ge x d.h.length with hlt | hge
      ·refine ⟨0, d.e, rfl, ?_⟩
       rw [n1, List.mem_range']
       exact ⟨x - h.length, by omega, by omega⟩
      ·obtain ⟨k, e, hk, hx⟩ := (q7 x).2 ⟨hge, hx2⟩
       exact ⟨k + 1, e, by simpa using hk, hx⟩
   ·cases he
  ·cases he
end Go.Ax
namespace Go.Ax
set_option linter.unusedVariables false
set_option linter.unusedSimpArgs false
variable {P : Program} {T : Tab}
def wfB (st : St) : Bool :=
 st.slots.all (fun x => Nat.blt x.1 st.n && x.2.ids.all fun i => Nat.blt i st.heap.length) && st.heap.all (fun x => (AObj.ids x).all fun i => Nat.blt i st.heap.length)
theorem look_all {n N : Nat} : ∀ {ss : List (Nat × Slot)}, ss.all (fun x => Nat.blt x.1 n && x.2.ids.all fun i => Nat.blt i N) = true → ∀ t, (∀ i ∈ (look ss t).ids, i < N) ∧ (n ≤ t → look ss t = .undef)
 | [], _, t => ⟨fun i hi => by simp [look, Slot.ids] at hi, fun _ => rfl⟩
 | (k, s) :: r, h, t => by
  simp only [List.all_cons, Bool.and_eq_true, List.all_eq_true] at h
  have hr := look_all (ss := r) (by rw [List.all_eq_true]; intro x hx; have := h.2 x hx; rw [Bool.and_eq_true, List.all_eq_true]; exact this) t
  rw [J3t]
  by_cases e : k = t
  ·rw [if_pos e]
   refine ⟨fun i hi => by simpa using h.1.2 i hi, fun hn => ?_⟩
   have := h.1.1
   simp at this; omega
  ·rw [if_neg e]; exact hr
theorem J5e {n x : Nat} (h : x < n) : posF (List.range n) x = x := J5d List.nodup_range (List.getElem?_range h)
theorem to_names {st : St} {c : Ctx} {a : Act} {w : World} (hwf : wfB st = true) (hs : SR c st a w) :
  WF (List.range st.heap.length) (look st.slots) (objAt st.heap) ∧ NSR st.n st.m (List.range st.heap.length) (look st.slots) (objAt st.heap) c a w := by
 simp only [wfB, Bool.and_eq_true] at hwf
 obtain ⟨h1, h2⟩ := hwf
 have hlk := look_all h1
 have hob : ∀ l, l < st.heap.length → ∀ i ∈ (objAt st.heap l).ids, i < st.heap.length := by
  intro l hl i hi
  rw [List.all_eq_true] at h2
  have hget : st.heap[l]? = some (objAt st.heap l) := by
   unfold objAt; rw [List.getD_eq_getElem?_getD, List.getElem?_eq_getElem hl]; rfl
  have := h2 _ (List.mem_of_getElem? hget)
  rw [List.all_eq_true] at this
  simpa using this i hi
 refine ⟨⟨List.nodup_range, fun t i hi => List.mem_range.2 ((hlk t).1 i hi), fun l hl i hi => List.mem_range.2 (hob l (List.mem_range.1 hl) i hi)⟩, ?_⟩
 obtain ⟨G, hG⟩ := hs
 have hheap : (stOf (List.range st.heap.length) (look st.slots) (objAt st.heap) st.n st.m).heap = st.heap := by
  apply List.ext_getElem?
  intro k
  rw [J3b]
  rcases Nat.lt_or_ge k st.heap.length with hk | hk
  ·rw [List.getElem?_range hk]
   simp only [Option.map_some]
   have hget : st.heap[k]? = some (objAt st.heap k) := by
    unfold objAt; rw [List.getD_eq_getElem?_getD, List.getElem?_eq_getElem hk]; rfl
   rw [hget, AObj.ren_congr (g := fun y => y) _ (fun i hi => J5e (hob k hk i hi)), AObj.ren_id]
  ·rw [List.getElem?_eq_none (by simpa using hk), List.getElem?_eq_none hk]; rfl
 refine ⟨G, ?_⟩
 refine ⟨by rw [hheap]; exact hG.toHRG, fun t => ?_, hG.ent, hG.em, hG.sz, hG.nodef⟩
 rw [hheap, J3v]
 by_cases ht : t < st.n
 ·rw [if_pos ht, Slot.ren_congr (g := fun y => y) _ (fun i hi => J5e ((hlk t).1 i hi)), Slot.ren_id]
  exact hG.slots t
 ·rw [if_neg ht]; trivial
theorem starts_of : ∀ {ks : List Nat} {i n : Nat}, (∀ k, k < n → ks[k]? = some (i + k)) → J6g ks i n = true
 | ks, i, 0, _ => by cases ks <;> rfl
 | [], i, n + 1, h => by have := h 0 (by omega); simp at this
 | k :: r, i, n + 1, h => by
  have h0 := h 0 (by omega)
  simp at h0; subst h0
  simp only [J6g, Bool.and_eq_true]
  refine ⟨by simp, starts_of fun k hk => ?_⟩
  have := h (k + 1) (by omega)
  rw [List.getElem?_cons_succ] at this
  rw [this]; congr 1; omega
theorem look_selS (ks : List Nat) (ss : List (Nat × Slot)) : ∀ (is : List Nat) (t : Nat), look (J60 ks ss is) t = if t ∈ is then (look ss t).ren (posF ks) else .undef
 | [], t => rfl
 | i :: r, t => by
  rw [J60, J3t]
  by_cases h : i = t
  ·subst h; simp
  ·rw [if_neg h, look_selS ks ss r t]; simp [Ne.symm h]
theorem from_names {n m M N0 : Nat} {names : List Nat} {sl : Nat → Slot} {ob : Nat → AObj} {c : Ctx} {a : Act} {w : World} (hwf : WF names sl ob) (hm : ∀ x, x ∈ names ↔ x < M) (hpre : ∀ k, k < N0 → names[k]? = some k)
  (hmN : m ≤ N0) (h : NSR n m names sl ob c a w) {ss : List (Nat × Slot)} {hp : List AObj} (hs : ∀ t, look ss t = sl t) (ho : ∀ x, objAt hp x = ob x) (hl : hp.length = M) (hn : ∀ t, n ≤ t → sl t = .undef) :
  SR c ⟨ss, hp, n, m⟩ a w := by
 have hks : (List.range M).Nodup := List.nodup_range
 have hk : ∀ l ∈ List.range M, l ∈ names := fun l hl => (hm l).2 (List.mem_range.1 hl)
 have hi : ∀ l ∈ List.range M, ∀ i ∈ (ob l).ids, i ∈ List.range M := fun l hl i hi => List.mem_range.2 ((hm i).1 (hwf.ob l (hk l hl) i hi))
 have hsid : ∀ t, ∀ i ∈ (sl t).ids, i ∈ List.range M := fun t i hi => List.mem_range.2 ((hm i).1 (hwf.sl t i hi))
 have back := fun {x : Nat} (hx : x ∈ List.range M) => J5a (names := names) hks hk hx
 have hsel := Weak.sel (st := stOf names sl ob n m) (is := List.range n) (ks := (List.range M).map (posF names)) (J3k hks hk hi)
  (starts_of fun k hkm => by
   have hkm : k < m := hkm
   have h1 := hpre k (by omega)
   have hkM : k < M := (hm k).1 (List.mem_of_getElem? h1)
   rw [List.getElem?_map, List.getElem?_range hkM, Option.map_some, J5d hwf.once h1, Nat.zero_add])
  (by
   rw [idsIn, List.all_eq_true]
   intro t ht
   rw [J3v, if_pos (List.mem_range.1 ht), List.all_eq_true]
   intro i hi'
   rw [Slot.ids_ren] at hi'
   obtain ⟨j, hj, rfl⟩ := List.mem_map.1 hi'
   exact J3f (List.mem_map.2 ⟨j, hsid t j hj, rfl⟩))
 obtain ⟨G, hG⟩ := hsel c a w h
 have hheap : lent (stOf names sl ob n m).heap ((List.range M).map (posF names)) = hp := by
  rw [J3o hks hk hi]
  apply List.ext_getElem?
  intro k
  rw [List.getElem?_map]
  rcases Nat.lt_or_ge k M with hkM | hkM
  ·rw [List.getElem?_range hkM, Option.map_some]
   have hget : hp[k]? = some (objAt hp k) := by
    unfold objAt; rw [List.getD_eq_getElem?_getD, List.getElem?_eq_getElem (by omega)]; rfl
   rw [hget, ho, AObj.ren_congr (g := fun y => y) _ (fun i hi' => J5e (List.mem_range.1 (hi k (List.mem_range.2 hkM) i hi'))), AObj.ren_id]
  ·rw [List.getElem?_eq_none (by simpa using hkM), List.getElem?_eq_none (by omega)]; rfl
 refine ⟨G, ?_⟩
 have hh := hG.toHRG
 rw [hheap] at hh
 refine ⟨hh, fun t => ?_, hG.ent, hG.em, hG.sz, hG.nodef⟩
 have ht := hG.slots t
 have hlk : look (J60 ((List.range M).map (posF names)) (stOf names sl ob n m).slots (List.range n)) t = look ss t := by
  rw [look_selS, hs]
  by_cases htn : t < n
  ·rw [if_pos (List.mem_range.2 htn), J3v, if_pos htn, Slot.ren_ren]
   rw [Slot.ren_congr (g := fun y => y) _ (fun i hi' => ?_), Slot.ren_id]
   rw [back (hsid t i hi')]; exact J5e (List.mem_range.1 (hsid t i hi'))
  ·rw [if_neg (by simpa using htn), hn t (by omega)]
 have e : look (⟨J60 ((List.range M).map (posF names)) (stOf names sl ob n m).slots (List.range n), lent (stOf names sl ob n m).heap ((List.range M).map (posF names)), n, m⟩ : St).slots t = look ss t := hlk
 have ht' : TRel G w (okB c G (lent (stOf names sl ob n m).heap ((List.range M).map (posF names))) w) (look (J60 ((List.range M).map (posF names)) (stOf names sl ob n m).slots (List.range n)) t) (a.tmps.getD t undef) := ht
 rw [hheap, hlk] at ht'
 exact ht'
def evDraw (P : Program) (T : Tab) (E : List Nat) (ops : Array Oper) (PT : List (List Nat)) (its : List It) (st : St) : Option (List Prop × List It × St) :=
 match wfB st with
 | true => match evD P T E ops st.n ops.toList its st.slots st.heap with
  | some (ps, its', effs, ss, h) => match drawB ops PT st.heap.length effs, ss.all (fun x => Nat.blt x.1 st.n) with
   | true, true => some (ps, its', ⟨ss, h, st.n, st.m⟩)
   | _, _ => none
  | none => none
 | false => none
theorem look_hi {n : Nat} : ∀ {ss : List (Nat × Slot)}, ss.all (fun x => Nat.blt x.1 n) = true → ∀ t, n ≤ t → look ss t = .undef
 | [], _, _, _ => rfl
 | (k, s) :: r, h, t, hn => by
  simp only [List.all_cons, Bool.and_eq_true] at h
  have : k < n := by simpa using h.1
  rw [J3t, if_neg (by omega)]
  exact look_hi h.2 t hn
theorem evDraw_ok (hT : TabOK P T) {E : List Nat} (hE : J18 P T E = true) (hM : P.follows .mixedOrders = true) {id : Nat} {ops : Array Oper} {PT : List (List Nat)} {its its' : List It} {st st' : St} {ps : List Prop}
  (he : evDraw P T E ops PT its st = some (ps, its', st')) (hps : AllP ps) : J03 P (.region id ops true) st .normal st' := by
 unfold evDraw at he
 split at he
 ·rename_i hwf
  split at he
  ·rename_i ps1 its1 effs ss h hev
   split at he
   ·rename_i hb hss
    injection he with he; injection he with e1 e2; injection e2 with e2 e3
    subst e1; subst e3
    intro c a w hs
    obtain ⟨q1, q2, q3, q4, q5, q6, q7⟩ := evD_ok (m := st.m) hT hE ops.toList 0 its its1 st.slots ss st.heap h ps1 effs (fun k o hk => by rw [Nat.zero_add, ← Array.getElem?_toList]; exact hk) hev hps
    obtain ⟨hw0, hn0⟩ := to_names hwf hs
    have hmN : st.m ≤ st.heap.length := by
     obtain ⟨G, hG⟩ := hs
     rw [← hG.em, ← hG.len]
     rcases Nat.lt_or_ge G.length c.G0.length with hlt | hge
     ·have h1 : c.G0[G.length]? = some (c.G0[G.length]) := List.getElem?_eq_getElem hlt
      have h2 := hG.ent _ _ h1
      rw [List.getElem?_eq_none (Nat.le_refl _)] at h2; cases h2
     ·exact hge
    refine wp_region_any hM ?_
    have hov : ∀ {β : Type} (W : Eff → List (Nat × β)) (f : Nat → β), ov (inD (Array.replicate ops.size false)) (effs.map W) 0 f = f := by
     intro β W f
     refine J4x _ _ _ _ fun j hj => ?_
     simp only [inD, Array.getD_eq_getD_getElem?, Nat.zero_add]
     by_cases hlt : j < ops.size
     ·simp [Array.getElem?_replicate, hlt]
     ·simp [Array.getElem?_replicate, hlt]
    refine draw_any (PT := PT) (N0 := st.heap.length) (n := st.n) (m := st.m) (effs := effs) (sl0 := look st.slots) (ob0 := objAt st.heap) (c := c) hb q3
     (fun i e hie => by have := q2 i e hie (fun e a' w' => e = .normal ∧ SR c ⟨ss, h, st.n, st.m⟩ a' w'); rwa [Nat.zero_add] at this) ?_ ops.size _ (List.range st.heap.length) a _ (by simp) ?_ ?_
    ·intro names a' w' hI
     refine ⟨rfl, ?_⟩
     refine from_names (M := h.length) (N0 := st.heap.length) hI.wf (fun x => ?_) hI.pre hmN hI.st (fun t => q4 0 t) (fun x => q5 0 x) rfl (fun t ht => by rw [← q4 0 t]; exact look_hi hss t ht)
     rw [hI.nms x]
     constructor
     ·rintro (h1 | ⟨j, f, _, h2, h3⟩)
      ·omega
      ·exact ((q7 x).1 ⟨j, f, h2, h3⟩).2
     ·intro hx
      rcases Nat.lt_or_ge x st.heap.length with h1 | h1
      ·exact .inl h1
      ·obtain ⟨k, e, hk, hx'⟩ := (q7 x).2 ⟨h1, hx⟩
       exact .inr ⟨k, e, rfl, hk, hx'⟩
    ·simp [Array.toList_replicate, List.count_replicate]
    ·refine ⟨?_, fun l => ?_, fun k hk => List.getElem?_range hk, ?_, fun i o ho hD => ?_⟩
     ·rw [hov, hov]; exact hw0
     ·rw [List.mem_range]
      constructor
      ·exact .inl
      ·rintro (h1 | ⟨j, f, h1, _, _⟩)
       ·exact h1
       ·exfalso
        simp only [inD, Array.getD_eq_getD_getElem?] at h1
        by_cases hlt : j < ops.size
        ·simp [Array.getElem?_replicate, hlt] at h1
        ·simp [Array.getElem?_replicate, hlt] at h1
     ·rw [hov, hov]; exact hn0.drew
     ·exfalso
      simp only [inD, Array.getD_eq_getD_getElem?] at hD
      by_cases hlt : i < ops.size
      ·simp [Array.getElem?_replicate, hlt] at hD
      ·simp [Array.getElem?_replicate, hlt] at hD
   ·cases he
  ·cases he
 ·cases he
end Go.Ax
namespace Go.Ax
set_option linter.unusedVariables false
set_option linter.unusedSimpArgs false
variable {P : Program} {T : Tab}
def weakS : List It → St → Option (List It × St)
 | .val i t :: r, st => match J0g st.heap t (look st.slots i) with
  | some x => weakS r { st with slots := (i, .v t x) :: st.slots, heap := J30 st.heap (look st.slots i).ids }
  | none => none
 | .sel is ks :: r, st => match lentB st.heap ks && J6g ks 0 st.m && idsIn ks st.slots is with
  | true => weakS r { st with slots := J60 ks st.slots is, heap := lent st.heap ks }
  | false => none
 | .promote i e :: r, st => match look st.slots i with
  | .nil => weakS r { st with slots := (i, .own st.heap.length []) :: st.slots, heap := st.heap ++ [.row e [] true] }
  | _ => none
 | .J5j l p :: r, st => match J5j st.heap l p with
  | some h' => weakS r { st with heap := h' }
  | none => none
 | .J6w l p :: r, st => match J6w st.heap l p with
  | some h' => weakS r { st with heap := h' }
  | none => none
 | .freeze ids :: r, st => weakS r { st with heap := J30 st.heap ids }
 | its, st => some (its, st)
theorem J70 : ∀ {its its' : List It} {st st' : St}, weakS its st = some (its', st') → Weak st st'
 | [], _, st, _, h => by simp only [weakS] at h; injection h with h; injection h with _ h; subst h; exact Weak.refl _
 | .val i t :: r, _, st, _, h => by
  simp only [weakS] at h
  split at h
  ·rename_i x hx; exact Weak.trans (Weak.val hx) (J70 h)
  ·cases h
 | .sel is ks :: r, _, st, _, h => by
  simp only [weakS] at h
  split at h
  ·rename_i hx
   simp only [Bool.and_eq_true] at hx
   exact Weak.trans (Weak.sel hx.1.1 hx.1.2 hx.2) (J70 h)
  ·cases h
 | .promote i e :: r, _, st, _, h => by
  simp only [weakS] at h
  split at h
  ·rename_i hx; exact Weak.trans (Weak.promote hx) (J70 h)
  ·cases h
 | .freeze ids :: r, _, st, _, h => by
  simp only [weakS] at h
  exact Weak.trans (Weak.freeze ids) (J70 h)
 | .J5j l p :: r, _, st, _, h => by
  simp only [weakS] at h
  split at h
  ·rename_i h' hx; exact Weak.trans (Weak.J5j hx) (J70 h)
  ·cases h
 | .J6w l p :: r, _, st, _, h => by
  simp only [weakS] at h
  split at h
  ·rename_i h' hx; exact Weak.trans (Weak.J6w hx) (J70 h)
  ·cases h
 | .br _ :: _, _, st, _, h => by simp only [weakS] at h; injection h with h; injection h with _ h; subst h; exact Weak.refl _
 | .call _ _ _ _ _ _ :: _, _, st, _, h => by simp only [weakS] at h; injection h with h; injection h with _ h; subst h; exact Weak.refl _
 | .part _ _ :: _, _, st, _, h => by simp only [weakS] at h; injection h with h; injection h with _ h; subst h; exact Weak.refl _
 | .pre _ :: _, _, st, _, h => by simp only [weakS] at h; injection h with h; injection h with _ h; subst h; exact Weak.refl _
 | .asis :: _, _, st, _, h => by simp only [weakS] at h; injection h with h; injection h with _ h; subst h; exact Weak.refl _
 | .kept _ :: _, _, st, _, h => by simp only [weakS] at h; injection h with h; injection h with _ h; subst h; exact Weak.refl _
 | .dive :: _, _, st, _, h => by simp only [weakS] at h; injection h with h; injection h with _ h; subst h; exact Weak.refl _
abbrev SR4 := Option (List Prop × List It × Exit × St)
def preS (P : Program) (x : Code) (its : List It) (st : St) (k : List It → St → SR4) : SR4 :=
 match weakS its st with
 | some (.part o st' :: r, st1) => some ([J03 P x st1 o st'], r, o, st')
 | some (.dive :: r, st1) => k r st1
 | some (its1, st1) => k its1 st1
 | none => none
theorem J5i {x : Code} {its its' : List It} {st st' : St} {k : List It → St → SR4} {ps : List Prop} {o : Exit} (h : preS P x its st k = some (ps, its', o, st')) (hps : AllP ps)
  (hk : ∀ its st, k its st = some (ps, its', o, st') → J03 P x st o st') : J03 P x st o st' := by
 unfold preS at h
 split at h
 ·rename_i o1 st1 r st2 hw
  injection h with h; injection h with e1 e2; injection e2 with e2 e3; injection e3 with e3 e4
  subst e1; subst e3; subst e4
  exact J03.weak (J70 hw) hps.1
 ·rename_i r st1 hw; exact J03.weak (J70 hw) (hk _ _ h)
 ·rename_i its1 st1 _ _ hw; exact J03.weak (J70 hw) (hk _ _ h)
 ·cases h
def evS (P : Program) (T : Tab) (E : List Nat) : Code → List It → St → SR4
 | .skip, its, st => some ([], its, .normal, st)
 | .label l, its, st => some ([], its, .normal, st)
 | .exit id, its, st => some ([], its, .exit id, st)
 | .goto l, its, st => some ([], its, .goto l, st)
 | .ret, its, st => some ([], its, .ret, st)
 | .region id ops false, its, st => match evOps P T E ops ops.toList its st with
  | some (ps, its', st') => some (ps, its', .normal, st')
  | none => none
 | .region id ops true, its, st => preS P (.region id ops true) its st fun its st => match its with
  | .pre pt :: its => match evDraw P T E ops pt its st with
   | some (ps, its', st') => some (ps, its', .normal, st')
   | none => none
  | _ => none
 | .seq x y, its, st => match evS P T E x its st with
  | some (ps, its1, .normal, st1) => match evS P T E y its1 st1 with
   | some (qs, its2, o, st2) => some (ps ++ qs, its2, o, st2)
   | none => none
  | some (ps, its1, o, st1) => some (ps, its1, o, st1)
  | none => none
 | .cond c x y, its, st => preS P (.cond c x y) its st fun its st => match c with
  | .tmp t => match its with
   | .br b :: its => match look st.slots t with
    | .v .bool z => match b with
     | true => match evS P T E x its st with
      | some (ps, its', o, st') => some (((z : Bool) = true) :: ps, its', o, st')
      | none => none
     | false => match evS P T E y its st with
      | some (ps, its', o, st') => some (((z : Bool) = false) :: ps, its', o, st')
      | none => none
    | .anyb => match evS P T E x its st with
     | some (ps, its1, o1, st1) => match weakS its1 st1 with
      | some (.asis :: its2, st2) => match evS P T E y its2 st with
       | some (qs, its3, o3, st3) => match weakS its3 st3 with
        | some (.asis :: its4, st4) => some (((o3, st4) = (o1, st2)) :: (ps ++ qs), its4, o1, st2)
        | _ => none
       | none => none
      | _ => none
     | none => none
    | _ => none
   | _ => none
  | .const (.bool true) => evS P T E x its st
  | .const (.bool false) => evS P T E y its st
  | _ => none
 | .block id x, its, st => preS P (.block id x) its st fun its st => match evS P T E x its st with
  | some (ps, its', .normal, st') => some (ps, its', .normal, st')
  | some (ps, its', .exit k, st') => match Nat.beq k id with
   | true => some (ps, its', .normal, st')
   | false => some (ps, its', .exit k, st')
  | some (ps, its', o, st') => some (ps, its', o, st')
  | none => none
 | .loop x, its, st => preS P (.loop x) its st fun its st => none
 | _, _, _ => none
theorem evS_ok (hT : TabOK P T) {E : List Nat} (hE : J18 P T E = true) (hM : P.follows .mixedOrders = true) : ∀ (x : Code) (its its' : List It) (st st' : St) (ps : List Prop) (o : Exit),
  evS P T E x its st = some (ps, its', o, st') → AllP ps → J03 P x st o st' := by
 intro x
 induction x with
 | skip =>
  intro its its' st st' ps o h hps
  simp only [evS] at h
  injection h with h; injection h with e1 e2; injection e2 with e2 e3; injection e3 with e3 e4; subst e3; subst e4
  exact J03.skip _
 | label l =>
  intro its its' st st' ps o h hps
  simp only [evS] at h
  injection h with h; injection h with e1 e2; injection e2 with e2 e3; injection e3 with e3 e4; subst e3; subst e4
  exact J03.label _ _
 | exit id =>
  intro its its' st st' ps o h hps
  simp only [evS] at h
  injection h with h; injection h with e1 e2; injection e2 with e2 e3; injection e3 with e3 e4; subst e3; subst e4
  exact J03.exit _ _
 | goto l =>
  intro its its' st st' ps o h hps
  simp only [evS] at h
  injection h with h; injection h with e1 e2; injection e2 with e2 e3; injection e3 with e3 e4; subst e3; subst e4
  exact J03.goto _ _
 | ret =>
  intro its its' st st' ps o h hps
  simp only [evS] at h
  injection h with h; injection h with e1 e2; injection e2 with e2 e3; injection e3 with e3 e4; subst e3; subst e4
  exact J03.ret _
 | region id ops dr =>
  intro its its' st st' ps o h hps
  cases dr with
  | false =>
   simp only [evS] at h
   split at h
   ·rename_i ps1 its1 st1 hx
    injection h with h; injection h with e1 e2; injection e2 with e2 e3; injection e3 with e3 e4; subst e1; subst e3; subst e4
    exact J03.region (J1c hT hE _ _ _ _ _ _ hx hps)
   ·cases h
  | true =>
   refine J5i h hps fun its st h => ?_
   split at h
   ·split at h
    ·rename_i ps1 its1 st1 hx
     injection h with h; injection h with e1 e2; injection e2 with e2 e3; injection e3 with e3 e4; subst e1; subst e3; subst e4
     exact evDraw_ok hT hE hM hx hps
    ·cases h
   ·cases h
 | seq x y ihx ihy =>
  intro its its' st st' ps o h hps
  simp only [evS] at h
  split at h
  ·rename_i ps1 its1 st1 hx
   split at h
   ·rename_i qs its2 o2 st2 hy
    injection h with h; injection h with e1 e2; injection e2 with e2 e3; injection e3 with e3 e4; subst e1; subst e3; subst e4
    obtain ⟨p1, p2⟩ := AllP.append hps
    exact J03.seq (ihx _ _ _ _ _ _ hx p1) (ihy _ _ _ _ _ _ hy p2)
   ·cases h
  ·rename_i ps1 its1 o1 st1 hno hx
   injection h with h; injection h with e1 e2; injection e2 with e2 e3; injection e3 with e3 e4; subst e1; subst e3; subst e4
   exact J03.seq_out (fun e => by subst e; exact hno rfl) (ihx _ _ _ _ _ _ hx hps)
  ·cases h
 | cond c x y ihx ihy =>
  intro its its' st st' ps o h hps
  refine J5i h hps fun its st h => ?_
  split at h
  ·rename_i t
   split at h
   ·split at h
    ·rename_i z hz
     split at h
     ·split at h
      ·rename_i ps1 its1 o1 st1 hx
       injection h with h; injection h with e1 e2; injection e2 with e2 e3; injection e3 with e3 e4; subst e1; subst e3; subst e4
       obtain ⟨hzb, hps⟩ := hps
       subst hzb
       exact J03.cond hz (ihx _ _ _ _ _ _ hx hps)
      ·cases h
     ·split at h
      ·rename_i ps1 its1 o1 st1 hy
       injection h with h; injection h with e1 e2; injection e2 with e2 e3; injection e3 with e3 e4; subst e1; subst e3; subst e4
       obtain ⟨hzb, hps⟩ := hps
       subst hzb
       exact J03.cond hz (ihy _ _ _ _ _ _ hy hps)
      ·cases h
    ·rename_i hz
     split at h
     ·rename_i ps1 its1 o1 st1 hx
      split at h
      ·rename_i its2 st2 hw1
       split at h
       ·rename_i qs its3 o3 st3 hy
        split at h
        ·rename_i its4 st4 hw2
         injection h with h; injection h with e1 e2; injection e2 with e2 e3; injection e3 with e3 e4; subst e1; subst e3; subst e4
         obtain ⟨heq, hps⟩ := hps
         injection heq with q1 q2; subst q1; subst q2
         obtain ⟨p1, p2⟩ := AllP.append hps
         exact J03.any hz (J03.weak_post (ihx _ _ _ _ _ _ hx p1) (J70 hw1)) (J03.weak_post (ihy _ _ _ _ _ _ hy p2) (J70 hw2))
        ·cases h
       ·cases h
      ·cases h
     ·cases h
    ·cases h
   ·cases h
  ·exact J03.cond_const (b := true) (ihx _ _ _ _ _ _ h hps)
  ·exact J03.cond_const (b := false) (ihy _ _ _ _ _ _ h hps)
  ·cases h
 | block id x ih =>
  intro its its' st st' ps o h hps
  refine J5i h hps fun its st h => ?_
  split at h
  ·rename_i ps1 its1 st1 hx
   injection h with h; injection h with e1 e2; injection e2 with e2 e3; injection e3 with e3 e4; subst e1; subst e3; subst e4
   exact J03.block (ih _ _ _ _ _ _ hx hps)
  ·rename_i ps1 its1 k st1 hx
   split at h
   ·rename_i hk
    have hk : k = id := by simpa using hk
    injection h with h; injection h with e1 e2; injection e2 with e2 e3; injection e3 with e3 e4; subst e1; subst e3; subst e4
    subst hk
    exact J03.block_exit (ih _ _ _ _ _ _ hx hps)
   ·rename_i hk
    injection h with h; injection h with e1 e2; injection e2 with e2 e3; injection e3 with e3 e4; subst e1; subst e3; subst e4
    refine J03.block_out (by simp) (fun e => ?_) (ih _ _ _ _ _ _ hx hps)
    injection e with e; subst e; simp at hk
  ·rename_i ps1 its1 o1 st1 hn he hx
   injection h with h; injection h with e1 e2; injection e2 with e2 e3; injection e3 with e3 e4; subst e1; subst e3; subst e4
   exact J03.block_out (fun e => by subst e; exact hn rfl) (fun e => by subst e; exact he _ rfl) (ih _ _ _ _ _ _ hx hps)
  ·cases h
 | loop x ih =>
  intro its its' st st' ps o h hps
  exact J5i h hps fun its st h => by cases h
 | _ => intro its its' st st' ps o h; simp [evS] at h
theorem J03.scope {c : Code} {st st' : St} {o : Exit} (ho : ∀ l, o ≠ .goto l) (h : J03 P c st o st') : J03 P (.scope c) st o st' :=
 fun cx a w hs => wp_scope_straight (Code.wp_mono (by
  rintro e a w ⟨rfl, hs⟩
  cases e with
  | goto l => exact absurd rfl (ho l)
  | _ => exact ⟨rfl, hs⟩) (h cx a w hs))
theorem J03.scopeJump {c rest : Code} {l : Nat} {st st1 st' : St} {o : Exit} (hf : findLabel c l = some rest) (h1 : J03 P c st (.goto l) st1) (ho : ∀ l, o ≠ .goto l) (h2 : J03 P rest st1 o st') : J03 P (.scope c) st o st' :=
 fun cx a w hs => wp_scope_jumps l (fun a w => SR cx st1 a w) (fun _ _ => 0) hf (Code.wp_mono (by rintro e a w ⟨rfl, hs⟩; exact ⟨rfl, hs⟩) (h1 cx a w hs))
  (fun a w hJ => Code.wp_mono (by
   rintro e a w ⟨rfl, hs⟩
   cases e with
   | goto l => exact absurd rfl (ho l)
   | _ => exact ⟨rfl, hs⟩) (h2 cx a w hJ))
def isGoto : Exit → Bool
 | .goto _ => true
 | _ => false
theorem not_goto {o : Exit} (h : isGoto o = false) : ∀ l, o ≠ .goto l := by rintro l rfl; cases h
def evF0 (P : Program) (T : Tab) (E : List Nat) (x : Code) (its : List It) (st : St) : Option (List Prop × Exit × St) :=
 match evS P T E x its st with
 | some (ps, its', o, st1) => match weakS its' st1 with
  | some ([], st') => some (ps, o, st')
  | _ => none
 | none => none
def evScope (P : Program) (T : Tab) (E : List Nat) (r0 c : Code) (its : List It) (st : St) : Option (List Prop × Exit × St) :=
 match evS P T E r0 its st with
 | some (ps, its1, .normal, st1) => match evS P T E c its1 st1 with
  | some (qs, its2, o, st2) => match o with
   | .goto l => match findLabel c l with
    | some rest => match evF0 P T E rest its2 st2 with
     | some (rs, o', st3) => match isGoto o' with
      | false => some (ps ++ (qs ++ rs), o', st3)
      | true => none
     | none => none
    | none => none
   | o => match weakS its2 st2 with
    | some ([], st') => some (ps ++ qs, o, st')
    | _ => none
  | none => none
 | _ => none
def evF (P : Program) (T : Tab) (E : List Nat) (x : Code) (its : List It) (st : St) : Option (List Prop × Exit × St) :=
 match x with
 | .seq r0 (.scope c) => evScope P T E r0 c its st
 | x => evF0 P T E x its st
structure Env (P : Program) (T : Tab) (E : List Nat) : Prop where
 tab : TabOK P T
 eq : J18 P T E = true
 mix : P.follows .mixedOrders = true
theorem Env.code0 {E : List Nat} (v : Env P T E) {x : Code} {its : List It} {st st' : St} {ps : List Prop} {o : Exit} (hps : AllP ps) (h : evF0 P T E x its st = some (ps, o, st')) : J03 P x st o st' := by
 unfold evF0 at h
 split at h
 ·rename_i ps1 its' o1 st1 hx
  split at h
  ·rename_i st2 hw
   injection h with h; injection h with e1 e2; injection e2 with e2 e3; subst e1; subst e2; subst e3
   exact J03.weak_post (evS_ok v.tab v.eq v.mix _ _ _ _ _ _ _ hx hps) (J70 hw)
  ·cases h
 ·cases h
theorem Env.code {E : List Nat} (v : Env P T E) {x : Code} {its : List It} {st st' : St} {ps : List Prop} {o : Exit} (hps : AllP ps) (h : evF P T E x its st = some (ps, o, st')) : J03 P x st o st' := by
 unfold evF at h
 split at h
 ·rename_i r0 c
  unfold evScope at h
  split at h
  ·rename_i ps1 its1 st1 h1
   split at h
   ·rename_i qs its2 o2 st2 h2
    split at h
    ·rename_i l
     split at h
     ·rename_i rest hf
      split at h
      ·rename_i rs o3 st3 h3
       split at h
       ·rename_i hg
        injection h with h; injection h with e1 e2; injection e2 with e2 e3; subst e1; subst e2; subst e3
        obtain ⟨p1, p2⟩ := AllP.append hps
        obtain ⟨p2, p3⟩ := AllP.append p2
        exact J03.seq (evS_ok v.tab v.eq v.mix _ _ _ _ _ _ _ h1 p1) (J03.scopeJump hf (evS_ok v.tab v.eq v.mix _ _ _ _ _ _ _ h2 p2) (not_goto hg) (v.code0 p3 h3))
       ·cases h
      ·cases h
     ·cases h
    ·rename_i hno
     split at h
     ·rename_i st' hw
      injection h with h; injection h with e1 e2; injection e2 with e2 e3; subst e1; subst e2; subst e3
      obtain ⟨p1, p2⟩ := AllP.append hps
      refine J03.seq (evS_ok v.tab v.eq v.mix _ _ _ _ _ _ _ h1 p1) (J03.weak_post (J03.scope (fun l e => hno l e) (evS_ok v.tab v.eq v.mix _ _ _ _ _ _ _ h2 p2)) (J70 hw))
     ·cases h
   ·cases h
  ·cases h
 ·exact v.code0 hps h
end Go.Ax
namespace Go.Ax
set_option linter.unusedVariables false
set_option linter.unusedSimpArgs false
variable {P : Program} {T : Tab}
def resOne (T : Tab) (st : St) : ResultVar → Option Slot
 | .tmp t => some (look st.slots t)
 | .cell a t => match T.ty t with
  | some ty => match look st.slots a with
   | .ptr l p => if (objAt st.heap l).lay.at p = some ty ∧ (objAt st.heap l).isDead = false then some ((objAt st.heap l).slot.get p) else none
   | _ => none
  | none => none
def resAll (T : Tab) (st : St) : List ResultVar → Option (List Slot)
 | [] => some []
 | r :: rs => match resOne T st r, resAll T st rs with
  | some s, some ss => some (s :: ss)
  | _, _ => none
def resOf (T : Tab) (st : St) (rs : List ResultVar) : Option Slot :=
 match resAll T st rs with
 | some [s] => some s
 | some ss => match ss.all (fun s => !isTup s) with
  | true => some (tups ss)
  | false => none
 | none => none
theorem resOne_ok (hT : TabOK P T) {st : St} {c : Ctx} {G : List GE} {a : Act} {w : World} (hs : SRG c G st a w) {r : ResultVar} {s : Slot} (h : resOne T st r = some s) :
  ∃ v, (match r with | .tmp t => (pure (a.tmps.getD t undef) : Sem Value) | .cell b t => do loadVar t (← asAddr (a.tmps.getD b undef))).run P w = .ok v w ∧ TRel G w (okB c G st.heap w) s v := by
 cases r with
 | tmp t => simp only [resOne] at h; injection h with h; subst h; exact ⟨_, rfl, hs.slots t⟩
 | cell b t =>
  simp only [resOne] at h
  split at h
  ·rename_i ty hty
   split at h
   ·rename_i l p hx
    split at h
    ·rename_i hc
     injection h with h; subst h
     have hv := hs.slots b
     rw [hx] at hv
     obtain ⟨by_, hg⟩ := Tab.ty_get hty
     obtain ⟨g, bb, off, cs, U, hgg, hb, hpk, hheap, hp, hrel, hle, hlay, _⟩ := J5k hs.toHRG (J4i hc.2) hc.1 hc.2 hv
     have hpl := POff.le hp
     have h1 := Slot.get_ok hrel hp
     rw [J6k hpl] at h1
     have hrun := J5v (P := P) (hT _ _ _ hg) (SRelC.len _ h1) (J0y (o := off) hheap)
     refine ⟨_, ?_, TRel.of h1⟩
     simp [hpk, asAddr, hrun]
    ·cases h
   ·cases h
  ·cases h
theorem J5p (hT : TabOK P T) {st : St} {c : Ctx} {G : List GE} {a : Act} {w : World} (hs : SRG c G st a w) : ∀ {rs : List ResultVar} {ss : List Slot}, resAll T st rs = some ss →
  ∃ vs, (rs.mapM fun (r : ResultVar) => (match r with | .tmp t => (pure (a.tmps.getD t undef) : Sem Value) | .cell b t => do loadVar t (← asAddr (a.tmps.getD b undef)))).run P w = .ok vs w ∧ ARel G w (okB c G st.heap w) ss vs
 | [], ss, h => by
  simp only [resAll] at h; injection h with h; subst h
  exact ⟨[], by simp, rfl, fun i s v h => by simp at h⟩
 | r :: rs, ss, h => by
  simp only [resAll] at h
  split at h
  ·rename_i s ss' h1 h2
   injection h with h; subst h
   obtain ⟨v, hv1, hv2⟩ := resOne_ok hT hs h1
   obtain ⟨vs, hvs1, hvs2⟩ := J5p hT hs h2
   refine ⟨v :: vs, ?_, by simp [hvs2.1], fun i s' v' e1 e2 => ?_⟩
   ·rw [List.mapM_cons]
    simp only [Sem.run_bind, hv1, Result.andThen_ok, hvs1, Sem.run_pure]
   ·cases i with
    | zero => simp at e1 e2; subst e1; subst e2; exact hv2
    | succ i => exact hvs2.2 i s' v' (by simpa using e1) (by simpa using e2)
  ·cases h
theorem resOf_ok (hT : TabOK P T) {fn : Func} {st : St} {s : Slot} (h : resOf T st fn.results.toList = some s) : ResOK P fn st s := by
 intro c G a w hs
 have hrun : ∀ vs, (fn.results.toList.mapM fun (r : ResultVar) => (match r with | .tmp t => (pure (a.tmps.getD t undef) : Sem Value) | .cell b t => do loadVar t (← asAddr (a.tmps.getD b undef)))).run P w = .ok vs w →
   (results fn a.tmps).run P w = .ok (if h : vs.length = 1 then vs[0] else .tuple vs.toArray) w := by
  intro vs hvs
  unfold results
  simp only [Array.mapM_eq_mapM_toList, Sem.run_bind]
  rw [map_eq_pure_bind]
  simp only [Sem.run_bind, Sem.run_pure]
  refine (congrArg (fun z => (Result.andThen z (fun (a : List Value) w' => Result.ok a.toArray w')).andThen (fun (a : Array Value) w' => Result.ok (if h : a.size = 1 then a[0] else Value.tuple a) w')) hvs).trans ?_
  simp only [Result.andThen_ok, List.size_toArray, List.getElem_toArray]
 unfold resOf at h
 split at h
 ·rename_i s1 hr
  injection h with h; subst h
  obtain ⟨vs, h1, h2⟩ := J5p hT hs hr
  have hl : vs.length = 1 := by have := h2.1; simpa using this.symm
  have := hrun vs h1
  rw [dif_pos hl] at this
  refine ⟨_, this, h2.2 0 s1 _ rfl ?_⟩
  exact List.getElem?_eq_getElem _
 ·rename_i ss hns hr
  split at h
  ·rename_i hall
   injection h with h; subst h
   obtain ⟨vs, h1, h2⟩ := J5p hT hs hr
   have hl : ¬ vs.length = 1 := by
    intro hl
    have := h2.1
    rw [hl] at this
    match ss, this with
    | [x], _ => exact hns x rfl
   have := hrun vs h1
   rw [dif_neg hl] at this
   refine ⟨_, this, ?_⟩
   have hL := J6p hall h2
   cases ss with
   | nil =>
    have : vs = [] := List.eq_nil_of_length_eq_zero (by simpa using h2.1.symm)
    subst this; rfl
   | cons x r => exact ⟨vs, rfl, hL⟩
  ·cases h
 ·cases h
inductive Po where
 | sel (ks : List Nat)
 | val (t : Ty)
 | vals (t : Ty) (ts : List Ty)
 | promote (e : Ty)
 | J5j (l : Nat) (p : List Step)
 | J6w (l : Nat) (p : List Step)
 | freeze (ids : List Nat)
def runPo (m : Nat) : List Po → Slot → List AObj → Option (Slot × List AObj)
 | [], r, h => some (r, h)
 | .sel ks :: ps, r, h => match lentB h ks && J6g ks 0 m && r.ids.all (isPos ks) with
  | true => runPo m ps (r.ren (posF ks)) (lent h ks)
  | false => none
 | .val t :: ps, r, h => match J0g h t r with
  | some x => runPo m ps (.v t x) (J30 h r.ids)
  | none => none
 | .vals t ts :: ps, r, h => match J6x h (t :: ts) r with
  | some r' => runPo m ps r' (J30 h r.ids)
  | none => none
 | .promote e :: ps, r, h => match r with
  | .nil => runPo m ps (.own h.length []) (h ++ [AObj.row e [] true])
  | _ => none
 | .J5j l p :: ps, r, h => match J5j h l p with
  | some h' => runPo m ps r h'
  | none => none
 | .J6w l p :: ps, r, h => match J6w h l p with
  | some h' => runPo m ps r h'
  | none => none
 | .freeze ids :: ps, r, h => runPo m ps r (J30 h ids)
theorem J5s {m : Nat} : ∀ {ps : List Po} {r r' : Slot} {h h' : List AObj}, runPo m ps r h = some (r', h') → J08 m r h r' h'
 | [], r, r', h, h', he => by simp only [runPo] at he; injection he with he; injection he with e1 e2; subst e1; subst e2; exact J08.refl _ _ _
 | .sel ks :: ps, r, r', h, h', he => by
  simp only [runPo] at he
  split at he
  ·rename_i hb
   simp only [Bool.and_eq_true] at hb
   exact J08.trans (J08.sel hb.1.1 hb.1.2 hb.2) (J5s he)
  ·cases he
 | .val t :: ps, r, r', h, h', he => by
  simp only [runPo] at he
  split at he
  ·rename_i x hx; exact J08.trans (J08.val hx) (J5s he)
  ·cases he
 | .vals t ts :: ps, r, r', h, h', he => by
  simp only [runPo] at he
  split at he
  ·rename_i x hx; exact J08.trans (J08.J6x hx) (J5s he)
  ·cases he
 | .promote e :: ps, r, r', h, h', he => by
  simp only [runPo] at he
  split at he
  ·exact J08.trans (J08.promote e) (J5s he)
  ·cases he
 | .freeze ids :: ps, r, r', h, h', he => by
  simp only [runPo] at he
  exact J08.trans (J08.freeze ids) (J5s he)
 | .J5j l p :: ps, r, r', h, h', he => by
  simp only [runPo] at he
  split at he
  ·rename_i h1 hx; exact J08.trans (J08.J5j hx) (J5s he)
  ·cases he
 | .J6w l p :: ps, r, r', h, h', he => by
  simp only [runPo] at he
  split at he
  ·rename_i h1 hx; exact J08.trans (J08.J6w hx) (J5s he)
  ·cases he
def isEnd : Exit → Bool
 | .normal => true
 | .ret => true
 | _ => false
def evFun (P : Program) (T : Tab) (E : List Nat) (fn : Func) (its : List It) (pos : List Po) (as : List Slot) (objs : List AObj) : Option (List Prop × Slot × List AObj) :=
 match fn.body with
 | some code => match Nat.ble as.length fn.ntmps, evF P T E code its (entry fn as objs) with
  | true, some (ps, o, st1) => match isEnd o, resOf T st1 fn.results.toList with
   | true, some r => match runPo objs.length pos r st1.heap with
    | some (ret, objs') => some (ps, ret, objs')
    | none => none
   | _, _ => none
  | _, _ => none
 | none => none
theorem Env.fun {E : List Nat} (v : Env P T E) {f : FuncId} {fn : Func} (hf : P.funcs[f]? = some fn) (hc : J01 P f) {its : List It} {pos : List Po} {as : List Slot} {objs objs' : List AObj} {ret : Slot} {ps : List Prop}
  (hps : AllP ps) (h : evFun P T E fn its pos as objs = some (ps, ret, objs')) : CallC P f as objs ret objs' := by
 unfold evFun at h
 split at h
 ·rename_i code hb
  split at h
  ·rename_i ps1 o st1 hn hev
   split at h
   ·rename_i r ho hr
    split at h
    ·rename_i ret1 objs1 hpo
     injection h with h; injection h with e1 e2; injection e2 with e2 e3; subst e1; subst e2; subst e3
     refine .mk hc (J00.body hf hb (Nat.le_of_ble_eq_true hn) (v.code hps hev) ?_ (resOf_ok v.tab hr) (J5s hpo))
     cases o <;> first | exact .inl rfl | exact .inr rfl | cases ho
    ·cases h
   ·cases h
  ·cases h
 ·cases h
theorem J03.anyRet {r1 x z : Code} {t : Nat} {st st1 st2 : St} (h1 : J03 P r1 st .normal st1) (ht : look st1.slots t = .anyb) (hx : J03 P x st1 .ret st2) (hz : J03 P z st1 .ret st2) :
  J03 P (.seq (.seq r1 (.cond (.tmp t) x .skip)) z) st .ret st2 := by
 intro c a w hs
 refine wp_seq (wp_seq (Code.wp_mono ?_ (h1 c a w hs)))
 rintro e a w ⟨rfl, hs⟩
 obtain ⟨G, hs'⟩ := id hs
 have hv := hs'.slots t
 rw [ht] at hv
 obtain ⟨ty, cs, ⟨rfl, b, rfl⟩, e⟩ := hv
 have e : a.tmps.getD t undef = .bool b := e
 refine wp_cond (t := b) ?_ ?_
 ·simp only [Act.eval]; exact e
 ·cases b
  ·exact wp_skip (hz c a w hs)
  ·exact Code.wp_mono (by rintro e a w ⟨rfl, h⟩; exact ⟨rfl, h⟩) (hx c a w hs)
theorem Env.funAny {E : List Nat} (v : Env P T E) {f : FuncId} {fn : Func} {r0 r1 x z : Code} {t : Nat} (hf : P.funcs[f]? = some fn) (hc : J01 P f) {i0 i1 i2 i3 : List It} {pos : List Po} {as : List Slot} {objs objs' : List AObj}
  {ret r : Slot} {st1 st2 st3 : St} {qs : List Prop} (hb : fn.body = some (.seq r0 (.seq (.seq r1 (.cond (.tmp t) x .skip)) z))) (hn : Nat.ble as.length fn.ntmps = true)
  (h0 : evF P T E r0 i0 (entry fn as objs) = some ([], .normal, st1)) (h1 : evF P T E r1 i1 st1 = some ([], .normal, st2)) (ht : look st2.slots t = .anyb)
  (h2 : evF P T E x i2 st2 = some ([], .ret, st3)) (hq : AllP qs) (h3 : evF P T E z i3 st2 = some (qs, .ret, st3)) (hr : resOf T st3 fn.results.toList = some r)
  (hp : runPo objs.length pos r st3.heap = some (ret, objs')) : CallC P f as objs ret objs' :=
 .mk hc (J00.body hf hb (Nat.le_of_ble_eq_true hn) (J03.seq (v.code (ps := []) trivial h0) (J03.anyRet (v.code (ps := []) trivial h1) ht (v.code (ps := []) trivial h2) (v.code hq h3))) (.inr rfl) (resOf_ok v.tab hr) (J5s hp))
def loopN {σ ρ : Type} (step : σ → Option (σ ⊕ ρ)) : Nat → σ → Option ρ
 | 0, _ => none
 | n + 1, s => match step s with
  | none => none
  | some (.inl s') => loopN step n s'
  | some (.inr r) => some r
theorem J3w {σ ρ : Type} {step : σ → Option (σ ⊕ ρ)} {r : ρ} : ∀ {n : Nat} {s : σ}, loopN step n s = some r → loopN step (n + 1) s = some r
 | 0, s, h => by cases h
 | n + 1, s, h => by
  rw [loopN] at h ⊢
  split at h
  ·cases h
  ·rename_i s' hs; exact J3w h
  ·exact h
theorem loopN_le {σ ρ : Type} {step : σ → Option (σ ⊕ ρ)} {r : ρ} {n m : Nat} (h : n ≤ m) {s : σ} (hr : loopN step n s = some r) : loopN step m s = some r := by
 induction h with
 | refl => exact hr
 | step _ ih => exact J3w ih
open Classical in
noncomputable def loop {σ ρ : Type} (step : σ → Option (σ ⊕ ρ)) (s : σ) : Option ρ :=
 if h : ∃ n, (loopN step n s).isSome then loopN step h.choose s else none
theorem J3z {σ ρ : Type} {step : σ → Option (σ ⊕ ρ)} {s : σ} {r : ρ} : loop step s = some r ↔ ∃ n, loopN step n s = some r := by
 unfold loop
 constructor
 ·intro h
  split at h
  ·exact ⟨_, h⟩
  ·cases h
 ·rintro ⟨n, hn⟩
  have he : ∃ n, (loopN step n s).isSome := ⟨n, by rw [hn]; rfl⟩
  rw [dif_pos he]
  have hc := he.choose_spec
  cases hx : loopN step he.choose s with
  | none => rw [hx] at hc; cases hc
  | some r' =>
   have h1 := loopN_le (Nat.le_max_left n he.choose) hn
   have h2 := loopN_le (Nat.le_max_right n he.choose) hx
   rw [h1] at h2; injection h2 with h2; rw [h2]
theorem J3y {σ ρ : Type} {step : σ → Option (σ ⊕ ρ)} {s : σ} {r : ρ} (h : step s = some (.inr r)) : loop step s = some r :=
 J3z.2 ⟨1, by rw [loopN, h]⟩
theorem J3x {σ ρ : Type} {step : σ → Option (σ ⊕ ρ)} {s s' : σ} (h : step s = some (.inl s')) : loop step s = loop step s' := by
 cases hr : loop step s' with
 | some r =>
  obtain ⟨n, hn⟩ := J3z.1 hr
  exact J3z.2 ⟨n + 1, by rw [loopN, h]; exact hn⟩
 | none =>
  cases hq : loop step s with
  | none => rfl
  | some r =>
   obtain ⟨n, hn⟩ := J3z.1 hq
   cases n with
   | zero => cases hn
   | succ n =>
    rw [loopN, h] at hn
    have := J3z.2 ⟨n, hn⟩
    rw [hr] at this; cases this
theorem J06.of_step {x : Code} {σ ρ : Type} {step : σ → Option (σ ⊕ ρ)} {st : σ → St} {ex : ρ → Exit} {stO : ρ → St} (hnext : ∀ s s', step s = some (.inl s') → J03 P x (st s) .normal (st s'))
  (hout : ∀ s r, step s = some (.inr r) → ex r ≠ .normal ∧ J03 P x (st s) (ex r) (stO r)) : ∀ (s : σ) (r : ρ), loop step s = some r → J03 P (.loop x) (st s) (ex r) (stO r) := by
 have main : ∀ (n : Nat) (s : σ) (r : ρ), loopN step n s = some r → J06 P x (st s) (ex r) (stO r) := by
  intro n
  induction n with
  | zero => intro s r h; cases h
  | succ n ih =>
   intro s r h
   rw [loopN] at h
   split at h
   ·cases h
   ·rename_i s' hs; exact J06.next (hnext s s' hs) (ih s' r h)
   ·rename_i r' hs
    injection h with h; subst h
    exact J06.out (hout s r' hs).1 (hout s r' hs).2
 intro s r h
 obtain ⟨n, hn⟩ := J3z.1 h
 exact J03.loop (main n s r hn)
def CanF (P : Program) (f : FuncId) (fn : Func) : Prop := P.funcs[f]? = some fn ∧ J01 P f
theorem Env.fn {E : List Nat} (v : Env P T E) {f : FuncId} {fn : Func} (c : CanF P f fn) (its : List It) (pos : List Po) {as : List Slot} {objs objs' : List AObj} {ret : Slot} {ps : List Prop}
  (hps : AllP ps) (h : evFun P T E fn its pos as objs = some (ps, ret, objs') := by kernel_rfl) : CallC P f as objs ret objs' := v.fun c.1 c.2 hps h
theorem Env.cd {E : List Nat} (v : Env P T E) {x : Code} (its : List It) {st st' : St} {ps : List Prop} {o : Exit} (hps : AllP ps) (h : evF P T E x its st = some (ps, o, st') := by kernel_rfl) : J03 P x st o st' := v.code hps h
def J09 {σ ρ : Type} (P : Program) (x : Code) (s : σ) (r : σ ⊕ ρ) (st : σ → St) (ex : ρ → Exit) (stO : ρ → St) : Prop :=
 match r with
 | .inl s' => J03 P x (st s) .normal (st s')
 | .inr o => ex o ≠ .normal ∧ J03 P x (st s) (ex o) (stO o)
theorem J09.next {σ ρ : Type} {x : Code} {s s' : σ} {st : σ → St} {ex : ρ → Exit} {stO : ρ → St} (h : J03 P x (st s) .normal (st s')) : J09 P x s (.inl s') st ex stO := h
theorem J09.out {σ ρ : Type} {x : Code} {s : σ} {o : ρ} {st : σ → St} {ex : ρ → Exit} {stO : ρ → St} (h1 : ex o ≠ .normal) (h : J03 P x (st s) (ex o) (stO o)) : J09 P x s (.inr o) st ex stO := ⟨h1, h⟩
theorem J06.of_stepR {x : Code} {σ ρ : Type} {step : σ → Option (σ ⊕ ρ)} {st : σ → St} {ex : ρ → Exit} {stO : ρ → St} (h : ∀ (s : σ) (r : σ ⊕ ρ), step s = some r → J09 P x s r st ex stO) :
  ∀ (s : σ) (r : ρ), loop step s = some r → J03 P (.loop x) (st s) (ex r) (stO r) :=
 J06.of_step (fun s s' hs => h s (.inl s') hs) (fun s r hs => h s (.inr r) hs)
abbrev cI {f : FuncId} {as : List Slot} {objs objs' : List AObj} {ret : Slot} (_ : CallC P f as objs ret objs') (modes : List (Option Ty)) (back snap : List Nat) (fl : Bool) : It := .call modes back snap fl ret objs'
abbrev pI {x : Code} {o : Exit} {st st' : St} (_ : J03 P x st o st') : It := .part o st'
def need {α : Type} (c : Prop) [Decidable c] (k : Option α) : Option α := if c then k else none
theorem J4b {α : Type} {c : Prop} [Decidable c] {k : Option α} {r : α} (h : need c k = some r) : c ∧ k = some r := by
 unfold need at h
 split at h
 ·rename_i hc; exact ⟨hc, h⟩
 ·cases h
theorem J4c {α : Type} {c : Prop} [Decidable c] {k : Option α} (h : c) : need c k = k := by unfold need; rw [if_pos h]
def fork {α : Type} (b : Bool) (x y : Option α) : Option α := match b with | true => x | false => y
theorem J2w {α : Type} {b : Bool} {x y : Option α} {r : α} (h : fork b x y = some r) : (b = true ∧ x = some r) ∨ (b = false ∧ y = some r) := by
 cases b with
 | true => exact .inl ⟨rfl, h⟩
 | false => exact .inr ⟨rfl, h⟩
def andThen {α β : Type} (x : Option α) (k : α → Option β) : Option β := match x with | some a => k a | none => none
theorem andThen_ok {α β : Type} {x : Option α} {k : α → Option β} {r : β} (h : andThen x k = some r) {C : α → Prop} (f : ∀ {a : α}, x = some a → C a) : ∃ a, C a ∧ k a = some r := by
 cases x with
 | none => cases h
 | some a => exact ⟨a, f rfl, h⟩
theorem andThen_some {α β : Type} {x : Option α} {k : α → Option β} {r : β} (h : andThen x k = some r) : ∃ a, x = some a ∧ k a = some r := by
 cases x with
 | none => cases h
 | some a => exact ⟨a, rfl, h⟩
end Go.Ax
namespace Go.Ax
def J0z : Code → List Nat → Code
 | x, [] => x
 | .seq x y, i :: r => match i with | 0 => J0z x r | _ => J0z y r
 | .cond _ x y, i :: r => match i with | 0 => J0z x r | _ => J0z y r
 | .block _ x, _ :: r => J0z x r
 | .loop x, _ :: r => J0z x r
 | .scope x, _ :: r => J0z x r
 | _, _ => .skip
def J0q (f : Func) : Code := match f.body with | some x => x | none => .skip
end Go.Ax
namespace Go.Ax
set_option linter.unusedVariables false
set_option linter.unusedSimpArgs false
variable {P : Program} {T : Tab}
def outer (W : World) : Ctx := { A := fun _ => True, E := fun _ => False, L := fun _ => False, w0 := W, G0 := [] }
theorem outer_hrg (W : World) : HRG (outer W) [] [] W where
 EA _ h := h.elim
 len := rfl
 inj := by intro l l' g g' o o' b h; simp at h
 inE := by intro l o g b h; simp at h
 inL := by rintro b ⟨l, o, g, h, _⟩; simp at h
 frame _ _ _ := rfl
 big := Nat.le_refl _
 os := rfl
 tape := rfl
 output := rfl
 objs := by intro l o g h; simp at h
def okW (W : World) (b : Nat) : Prop := b < W.heap.size
theorem okB_outer (W : World) : okB (outer W) [] [] W = okW W := by
 funext b
 simp only [okB, okW, outer, eq_iff_iff]
 refine ⟨fun h => h.1, fun h => ⟨h, fun _ => trivial, ?_⟩⟩
 rintro ⟨l, o, g, h, _⟩; simp at h
theorem CallC.law {f : FuncId} {as : List Slot} (h : CallC P f as [] (.v .bool true) []) (hc : J01 P f) {W : World} {vs : List Value} (ha : ARel [] W (okW W) as vs) :
  Calls P f vs.toArray W fun e w' => e = .returned (.bool true) ∧ RowKit.Below W.heap.size W w' := by
 rcases h with ⟨_, h⟩ | ⟨fn, e, he, _, _⟩
 case ext =>
  obtain ⟨fn', h1, _, h2⟩ := hc
  have := he.at_.symm.trans h1
  injection this with this; subst this
  rw [he.no] at h2; cases h2
 refine Calls.mono (h (outer W) [] vs (outer_hrg W) rfl (by show ARel [] W (okB (outer W) [] [] W) as vs; rw [okB_outer]; exact ha)) ?_
 rintro e w' ⟨v, G', rfl, hh, hv, _⟩
 have hv := J0a hv
 subst hv
 exact ⟨rfl, hh.os, hh.tape, hh.output, hh.big, fun k hk => hh.frame k hk (fun h => h)⟩
end Go.Ax
namespace Go.Ax
set_option linter.unusedVariables false
set_option linter.unusedSimpArgs false
variable {P : Program} {T : Tab}
def J6q : Ty → Nat
 | .int .u8 => 1
 | .int .i8 => 1
 | .int .u16 => 2
 | .int .i16 => 2
 | .int .u32 => 4
 | .int .i32 => 4
 | .int _ => 8
 | .bool => 1
 | .str => 16
 | .slice _ => 24
 | .arr n e => n * J6q e
 | .fld a r => J6q a + J6q r
 | _ => 0
def J0s : Tab → Bool
 | [] => true
 | (_, ty, b) :: r => Nat.ble (J6q ty) b && J0s r
theorem J0t : ∀ {T : Tab} {t : Nat} {ty : Ty} {b : Nat}, J0s T = true → T.get t = some (ty, b) → J6q ty ≤ b
 | [], _, _, _, _, h => by simp [Tab.get] at h
 | (t', ty', b') :: r, t, ty, b, hb, h => by
  simp only [J0s, Bool.and_eq_true] at hb
  rw [Tab.get] at h
  by_cases e : t' = t
  ·subst e
   simp only [Nat.beq_refl, cond_true, Option.some.injEq, Prod.mk.injEq] at h
   obtain ⟨rfl, rfl⟩ := h
   exact Nat.le_of_ble_eq_true hb.1
  ·have : Nat.beq t' t = false := by rw [← Bool.not_eq_true, Nat.beq_eq]; exact e
   rw [this, cond_false] at h
   exact J0t hb.2 h
def WfI : (k : IntKind) → IK k → Prop
 | .i64, x => (-9223372036854775808 : Int) ≤ x ∧ (x : Int) ≤ 9223372036854775807
 | _, _ => True
def Wf : (t : Ty) → t.den → Prop
 | .int k, x => WfI k x
 | .str, x => List.length x ≤ 140737488351232
 | .arr n e, xs => List.length xs = n ∧ ∀ y ∈ (show List e.den from xs), Wf e y
 | .slice e, xs => List.length xs * J6q e ≤ 140737488351232 ∧ ∀ y ∈ (show List e.den from xs), Wf e y
 | .fld a r, x => Wf a x.1 ∧ Wf r x.2
 | _, _ => True
def J4r : Ty → Bool
 | .int _ => true
 | .bool => true
 | .str => true
 | .arr _ e => J4r e
 | .slice e => J4r e && Nat.ble 1 e.size
 | .unit => true
 | .fld a r => J4r a && J4r r
 | _ => false
theorem IK.toInt_ofInt {k : IntKind} {n : Int} (h : (Lit.int k n).wf = true) : IK.toInt k (IK.ofInt k n) = n ∧ WfI k (IK.ofInt k n) := by
 simp only [Lit.wf, Bool.and_eq_true, decide_eq_true_eq] at h
 cases k <;> simp only [IntKind.min, IntKind.max, IntKind.bits, IntKind.signed] at h <;> simp only [IK.toInt, IK.ofInt, WfI, and_true, true_and]
 all_goals (try simp at h ⊢)
 all_goals omega
theorem cells_get {w : World} {base : Nat} {a : Addr} {n : Nat} {cs : List Value} (h : w.cells? base a n = some cs) : cs.length = n ∧ ∀ j, j < n → w.cell? (a.add j) = cs[j]? := by
 unfold World.cells? at h
 split at h
 ·exact ⟨by simpa using mapM_some_length h, fun j hj => mapM_some_get h j j (by simp [hj])⟩
 ·cases h
theorem J3q {α : Type} (z : α) {Q : Nat → α → Prop} {n : Nat} (h : ∀ i, i < n → ∃ x, Q i x) : ∃ xs : List α, xs.length = n ∧ ∀ i x, xs[i]? = some x → Q i x := by
 induction n with
 | zero => exact ⟨[], rfl, fun i x e => by simp at e⟩
 | succ n ih =>
  obtain ⟨xs, hl, hq⟩ := ih fun i hi => h i (by omega)
  obtain ⟨y, hy⟩ := h n (by omega)
  refine ⟨xs ++ [y], by simp [hl], fun i x e => ?_⟩
  by_cases hi : i < xs.length
  ·rw [List.getElem?_append_left hi] at e; exact hq i x e
  ·rw [List.getElem?_append_right (by omega)] at e
   have : i - xs.length = 0 := by
    cases hk : i - xs.length with
    | zero => rfl
    | succ k => rw [hk] at e; simp at e
   rw [this] at e; simp at e; subst e
   have : i = n := by omega
   subst this; exact hy
theorem Cat_of {α : Type} {R : List Value → α → Prop} {sz : Nat} : ∀ {xs : List α} {cs : List Value}, cs.length = xs.length * sz → (∀ i x, xs[i]? = some x → R ((cs.drop (i * sz)).take sz) x) → Cat R cs xs
 | [], cs, hl, _ => by simp at hl; exact List.eq_nil_of_length_eq_zero (by simpa using hl)
 | x :: xs, cs, hl, h => by
  simp only [List.length_cons, Nat.add_mul, Nat.one_mul] at hl
  refine ⟨cs.take sz, cs.drop sz, (List.take_append_drop sz cs).symm, by simpa using h 0 x rfl, Cat_of (sz := sz) (by rw [List.length_drop]; omega) fun i y hy => ?_⟩
  have := h (i + 1) y (by simpa using hy)
  rw [Nat.add_mul, Nat.one_mul, Nat.add_comm, ← List.drop_drop] at this
  exact this
theorem J71 {H : Type} {e : TypeId} : ∀ {ds : List (DataW H)} {d : DataW H}, d ∈ ds → ∀ n ∈ d.weights P e, n ∈ DataW.weightsAll P e ds
 | x :: r, d, h, n, hn => by
  simp only [DataW.weightsAll, List.mem_append]
  rcases List.mem_cons.1 h with rfl | h
  ·exact .inl hn
  ·exact .inr (J71 h n hn)
theorem J0x (hT : TabOK P T) {t : Nat} {ty : Ty} {b : Nat} (h : T.get t = some (ty, b)) : P.cellsOf t = ty.size := by
 obtain ⟨i, h1, h2, _⟩ := (hT _ _ _ h).info
 simp [Program.cellsOf, h1, h2]
theorem bytesOf_eq (hT : TabOK P T) {t : Nat} {ty : Ty} {b : Nat} (h : T.get t = some (ty, b)) : P.bytesOf t = b := by
 obtain ⟨i, h1, _, h2, _⟩ := (hT _ _ _ h).info
 simp [Program.bytesOf, h1, h2]
section
variable {H : Type} {enc : TypeId × Value → H} {W : World} {base : Nat} {sp : Nat → Bool} {held : Bool}
def OpensT (P : Program) (T : Tab) (enc : TypeId × Value → H) (W : World) (base : Nat) (sp : Nat → Bool) (held : Bool) (ty : Ty) : Prop :=
 ∀ {t b fuel : Nat} {cs : List Value} {x : DataW H × List MemPlace}, T.get t = some (ty, b) → DataW.trod enc P W base sp held fuel t cs = some x → (∀ n ∈ x.1.weights P t, n ≤ 140737488351232) →
  ∃ y, RepC W (okW W) ty cs y ∧ Wf ty y
def OpensF (P : Program) (T : Tab) (enc : TypeId × Value → H) (W : World) (base : Nat) (sp : Nat → Bool) (held : Bool) (ty : Ty) : Prop :=
 ∀ {fs : List Field} {o fuel : Nat} {cs : List Value} {ys : List (DataW H × List MemPlace)}, J05 T fs ty o → o + ty.size ≤ cs.length → ys.length = fs.length →
  (∀ (i : Nat) (f : Field), fs[i]? = some f → DataW.trod enc P W base sp held fuel f.type ((cs.drop f.offset).take (P.cellsOf f.type)) = ys[i]?) →
  (∀ n ∈ DataW.weightsEach P (fs.map (·.type)) (ys.map (·.1)), n ≤ 140737488351232) →
  ∃ y, RepC W (okW W) ty ((cs.drop o).take ty.size) y ∧ Wf ty y
theorem J4d {fs : List Field} {ty : Ty} {o : Nat} (h : J05 T fs ty o) : ty = .unit ∨ ∃ a r, ty = .fld a r := by
 cases ty <;> cases fs <;> first | exact h.elim | exact .inl rfl | exact .inr ⟨_, _, rfl⟩
theorem J4s (hT : TabOK P T) {ty : Ty} (hs : ty = .unit ∨ ∃ a r, ty = .fld a r) (hf : OpensF P T enc W base sp held ty) : OpensT P T enc W base sp held ty := by
 intro t b fuel cs x ht h hw
 obtain ⟨d, hd, hdesc⟩ := (hT _ _ _ ht).desc
 have : ∃ fs, d = .struct fs ∧ J05 T fs.toList ty 0 := by
  rcases hs with rfl | ⟨a, r, rfl⟩ <;> exact hdesc
 obtain ⟨fs, rfl, hfs⟩ := this
 obtain ⟨ys, n, rfl, rfl, hl, hyl, hg⟩ := DataW.trod_struct hd h
 have hsz := J0x hT ht
 rw [hsz] at hl
 obtain ⟨y, h1, h2⟩ := hf (fs := fs.toList) (o := 0) (cs := cs) (ys := ys) hfs (by omega) (by simpa using hyl) (fun i f hi => hg i f (by simpa using hi)) (fun m hm => hw m (by
  simp only [DataW.weights, hd]; exact hm))
 refine ⟨y, ?_, h2⟩
 rwa [List.drop_zero, List.take_of_length_le (by omega)] at h1
theorem opens (hT : TabOK P T) (hz : J0s T = true) : ∀ (ty : Ty), J4r ty = true → OpensT P T enc W base sp held ty ∧ OpensF P T enc W base sp held ty
 | .int k, _ => by
  refine ⟨fun ht h hw => ?_, fun hf => (by rcases J4d hf with h | ⟨_, _, h⟩ <;> cases h)⟩
  obtain ⟨d, hd, hdesc⟩ := (hT _ _ _ ht).desc
  cases (show d = .int k from hdesc)
  obtain ⟨n, rfl, _, hwf⟩ := DataW.trod_int hd h
  obtain ⟨h1, h2⟩ := IK.toInt_ofInt hwf
  exact ⟨IK.ofInt k n, by simp only [RepC, h1], h2⟩
 | .bool, _ => by
  refine ⟨fun ht h hw => ?_, fun hf => (by rcases J4d hf with h | ⟨_, _, h⟩ <;> cases h)⟩
  obtain ⟨d, hd, hdesc⟩ := (hT _ _ _ ht).desc
  cases (show d = .bool from hdesc)
  obtain ⟨n, rfl, _⟩ := DataW.trod_bool hd h
  exact ⟨n, rfl, trivial⟩
 | .str, _ => by
  refine ⟨fun ht h hw => ?_, fun hf => (by rcases J4d hf with h | ⟨_, _, h⟩ <;> cases h)⟩
  obtain ⟨d, hd, hdesc⟩ := (hT _ _ _ ht).desc
  cases (show d = .string from hdesc)
  obtain ⟨s, rfl, rfl, _⟩ := DataW.trod_string hd h
  exact ⟨s.data.toList, rfl, hw _ (by simp [DataW.weights])⟩
 | .unit, _ => by
  have hF : OpensF P T enc W base sp held .unit := by
   intro fs o fuel cs ys hf hl hyl hg hw
   exact ⟨(), by simp [RepC, Ty.size], trivial⟩
  exact ⟨J4s hT (.inl rfl) hF, hF⟩
 | .fld a r, q => by
  simp only [J4r, Bool.and_eq_true] at q
  have ha : OpensT P T enc W base sp held a := (opens hT hz a q.1).1
  have hr : OpensF P T enc W base sp held r := (opens hT hz r q.2).2
  have hF : OpensF P T enc W base sp held (.fld a r) := by
   intro fs o fuel cs ys hf hl hyl hg hw
   cases fs with
   | nil => exact hf.elim
   | cons f fs =>
    obtain ⟨h1, rfl, h3⟩ := hf
    cases ys with
    | nil => simp at hyl
    | cons y0 ys =>
     obtain ⟨b, hb⟩ := Tab.ty_get h1
     have hsz := J0x hT hb
     simp only [Ty.size] at hl
     have g0 := hg 0 f rfl
     rw [hsz] at g0
     simp only [List.map_cons, DataW.weightsEach, List.mem_append] at hw
     obtain ⟨y, e1, e2⟩ := ha hb g0 (fun n hn => hw n (.inl hn))
     obtain ⟨z, e3, e4⟩ := hr (cs := cs) (ys := ys) h3 (by omega) (by simpa using hyl) (fun i g hi => hg (i + 1) g (by simpa using hi)) (fun n hn => hw n (.inr hn))
     refine ⟨(y, z), ⟨_, _, ?_, e1, e3⟩, e2, e4⟩
     rw [Ty.size, List.take_add, List.drop_drop]
  exact ⟨J4s hT (.inr ⟨_, _, rfl⟩) hF, hF⟩
 | .arr n e, q => by
  refine ⟨fun ht h hw => ?_, fun hf => (by rcases J4d hf with h | ⟨_, _, h⟩ <;> cases h)⟩
  obtain ⟨d, hd, hdesc⟩ := (hT _ _ _ ht).desc
  obtain ⟨te, rfl, hte⟩ := (show ∃ te, d = .array n te ∧ T.ty te = some e from hdesc)
  obtain ⟨b, hb⟩ := Tab.ty_get hte
  obtain ⟨xs, m, rfl, rfl, hl, hxl, hg⟩ := DataW.trod_array hd h
  rw [J0x hT ht] at hl
  simp only [J0x hT hb] at hg
  have he : OpensT P T enc W base sp held e := (opens hT hz e q).1
  simp only [DataW.weights, hd] at hw
  obtain ⟨ys, hyl, hy⟩ := J3q e.zero (Q := fun i y => RepC W (okW W) e ((_root_.List.drop (i * e.size) _).take e.size) y ∧ Wf e y) (n := n) (fun i hi => by
   have hx : xs[i]? = some xs[i] := List.getElem?_eq_getElem (by omega)
   have := hg i hi
   rw [hx] at this
   exact he hb this (fun m hm => hw m (J71 (List.mem_map.2 ⟨_, List.getElem_mem (by omega), rfl⟩) m hm)))
  refine ⟨ys, ⟨hyl, Cat_of (sz := e.size) (by rw [hl, hyl]; rfl) fun i y hi => (hy i y hi).1⟩, hyl, fun y hm => ?_⟩
  obtain ⟨i, hi⟩ := List.getElem?_of_mem hm
  exact (hy i y hi).2
 | .slice e, q => by
  refine ⟨fun {t b fuel cs x} ht h hw => ?_, fun hf => (by rcases J4d hf with h | ⟨_, _, h⟩ <;> cases h)⟩
  simp only [J4r, Bool.and_eq_true] at q
  have hpos := Nat.le_of_ble_eq_true q.2
  obtain ⟨d, hd, hdesc⟩ := (hT _ _ _ ht).desc
  obtain ⟨te, rfl, hte⟩ := (show ∃ te, d = .slice te ∧ T.ty te = some e from hdesc)
  obtain ⟨eb, hb⟩ := Tab.ty_get hte
  have hby := J0t hz hb
  have he : OpensT P T enc W base sp held e := (opens hT hz e q.1).1
  rcases DataW.trod_slice hd h with ⟨rfl, _⟩ | ⟨a, len, cap, elems, rest, n, rfl, rfl, rfl, _, hlc, _, hel, hg, _, _⟩
  ·exact ⟨[], ⟨none, 0, rfl, Nat.zero_le _, .inl rfl⟩, by simp, fun y hy => by simp at hy⟩
  ·simp only [DataW.weights, hd, List.mem_cons, List.mem_append, bytesOf_eq hT hb, List.length_map] at hw
   simp only [J0x hT hb] at hg
   obtain ⟨ys, hyl, hy⟩ := J3q e.zero (Q := fun i y => (∃ cs, W.cells? base (a.add (i * e.size)) e.size = some cs ∧ RepC W (okW W) e cs y) ∧ Wf e y) (n := len) (fun i hi => by
    have hx : elems[i]? = some elems[i] := List.getElem?_eq_getElem (by omega)
    have := hg i hi
    rw [hx, Option.bind_eq_some_iff] at this
    obtain ⟨cs, hc, ht⟩ := this
    obtain ⟨y, h1, h2⟩ := he hb ht (fun m hm => hw m (.inr (.inl (J71 (List.mem_map.2 ⟨_, List.getElem_mem (by omega), rfl⟩) m hm))))
    exact ⟨y, ⟨cs, hc, h1⟩, h2⟩)
   have hlen : ys.length * J6q e ≤ 140737488351232 := by
    have := hw _ (.inl rfl)
    have h2 : len * J6q e ≤ (elems.length + rest.length) * eb := Nat.mul_le_mul (by omega) hby
    rw [hyl]; omega
   refine ⟨ys, ⟨some a, cap, by rw [hyl], by omega, ?_⟩, hlen, fun y hm => ?_⟩
   ·by_cases h0 : ys = []
    ·exact .inl h0
    ·right
     have hl0 : 0 < len := by rw [← hyl]; exact List.length_pos_iff.2 h0
     have h00 : ys[0]? = some ys[0] := List.getElem?_eq_getElem (by omega)
     obtain ⟨⟨cs, hc, hr⟩, _⟩ := hy 0 _ h00
     obtain ⟨hcl, hcg⟩ := cells_get hc
     have hcell := hcg 0 (by omega)
     have hsome : cs[0]? = some cs[0] := List.getElem?_eq_getElem (by omega)
     have hspot : a.spot = none := by
      have := hcell.trans hsome
      have := World.cell?_spot this
      simpa [Addr.add] using this
     obtain ⟨bb, o, s⟩ := a
     simp only at hspot
     subst hspot
     refine ⟨bb, o, rfl, ?_, fun i y hi => ?_⟩
     ·have := hcell.trans hsome
      simp only [Addr.add, Nat.zero_mul, if_true] at this
      unfold World.cell? at this
      split at this
      ·rename_i c _ _ hh; exact (Array.getElem?_eq_some_iff.1 hh).1
      ·cases this
     ·obtain ⟨⟨cs, hc, hr⟩, _⟩ := hy i y hi
      obtain ⟨hcl, hcg⟩ := cells_get hc
      refine ⟨cs, hr, fun j hj => ?_⟩
      rw [← hcg j (by omega)]
      congr 1
      simp only [Addr.add]
      split <;> split <;> simp_all <;> omega
   ·obtain ⟨i, hi⟩ := List.getElem?_of_mem hm
    exact (hy i y hi).2
 | .flt, q => by cases q
 | .cplx, q => by cases q
 | .ptr, q => by cases q
 | .mp, q => by cases q
 | .fn, q => by cases q
theorem J4q (hT : TabOK P T) (hz : J0s T = true) {ty : Ty} (ho : J4r ty = true) {t b : Nat} (ht : T.get t = some (ty, b)) {v : Value} {d : DataW H} {ps : List MemPlace} (hv : DataW.Trod enc P W base sp held t v d ps)
  (hw : ∀ n ∈ d.weights P t, n ≤ 140737488351232) (hp : ∀ cs, v.cells.toList = cs → cs.length = ty.size → v = pack ty cs) : ∃ y, TRel [] W (okW W) (.v ty y) v ∧ Wf ty y := by
 obtain ⟨fuel, hf⟩ := hv
 obtain ⟨y, h1, h2⟩ := (opens hT hz ty ho).1 ht hf hw
 exact ⟨y, ⟨ty, _, ⟨rfl, h1⟩, hp _ rfl (RepC.len _ h1)⟩, h2⟩
end
theorem ARel.nil {W : World} {ok : Nat → Prop} : ARel [] W ok [] [] := ⟨rfl, fun i s v h => by simp at h⟩
theorem ARel.cons {W : World} {ok : Nat → Prop} {s : Slot} {v : Value} {ss : List Slot} {vs : List Value} (h : TRel [] W ok s v) (hs : ARel [] W ok ss vs) : ARel [] W ok (s :: ss) (v :: vs) := by
 refine ⟨by simp [hs.1], fun i s' v' e1 e2 => ?_⟩
 cases i with
 | zero => simp at e1 e2; subst e1; subst e2; exact h
 | succ i => exact hs.2 i s' v' (by simpa using e1) (by simpa using e2)
theorem okWideArr {P : Program} {w : World} {r : Reach} {base : Nat} {t e : TypeId} {n : Nat} {v : Value} (ht : P.underlying t = some (.array n e)) (h : Value.okWide P w r base t v) : ∃ cs, v = .agg cs := by
 simp only [Value.okWide, ht] at h
 obtain ⟨cs, h1, _⟩ := h
 exact ⟨cs, h1⟩
theorem J50 {ty : Ty} (h : ty.isAgg = false) {v : Value} (hc : v.cells = #[v]) : ∀ cs, v.cells.toList = cs → cs.length = ty.size → v = pack ty cs := by
 intro cs e _
 subst e
 rw [hc]
 simp [pack, h]
theorem packAgg {ty : Ty} (h : ty.isAgg = true) {a : Array Value} : ∀ cs, (Value.agg a).cells.toList = cs → cs.length = ty.size → (Value.agg a) = pack ty cs := by
 intro cs e _
 subst e
 simp [pack, h, Value.cells]
end Go.Ax
