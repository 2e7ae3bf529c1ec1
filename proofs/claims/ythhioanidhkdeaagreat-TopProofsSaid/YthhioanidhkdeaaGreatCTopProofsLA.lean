/-
  Of any store, any key, any range: there is a proof of what is so, and it is verified; none that prove makes of another store shows something else, but by a clash.
-/
import Derived.Test.YthhioanidhkdeaaGreatCTopProofsP
namespace Go.Ax.V
open Go.Ax
set_option linter.unusedVariables false
set_option linter.unusedSimpArgs false
def J6f {τ:Type} (f:Nat→τ→τ):Nat→Nat→τ→τ
 | _,0,t=>t
 | i,k+1,t=>J6f f (i+1) k (f i t)
theorem Jiv {τ : Type} {f : Nat → τ → τ} {I : Nat → τ → Prop} {n : Nat} (h : ∀ i t, i < n → I i t → I (i + 1) (f i t)) : ∀ {k i : Nat} {t : τ}, i + k = n → I i t → I n (J6f f i k t)
  | 0, i, t, e, h0 => by have : i = n := by omega
                         subst this; exact h0
  | k + 1, i, t, e, h0 => Jiv (i := i + 1) h (by omega) (h i t (by omega) h0)
theorem J5v {σ ρ τ : Type} {step : σ → Option (σ ⊕ ρ)} (st : Nat → τ → σ) (f : Nat → τ → τ) (g : τ → ρ) (n : Nat) (I : Nat → τ → Prop)
    (h1 : ∀ i t, i < n → I i t → step (st i t) = some (.inl (st (i + 1) (f i t))) ∧ I (i + 1) (f i t))
    (h2 : ∀ t, I n t → step (st n t) = some (.inr (g t))) : ∀ (k i : Nat) (t : τ), i + k = n → I i t → loop step (st i t) = some (g (J6f f i k t))
  | 0, i, t, e, h => by have : i = n := by omega
                        subst this; exact J63 (h2 t h)
  | k + 1, i, t, e, h => by
    rw [J67 (h1 i t (by omega) h).1]
    exact J5v st f g n I h1 h2 k (i + 1) (f i t) (by omega) (h1 i t (by omega) h).2
theorem Nat.find_of {p:Nat→Prop} (h:∃ n,p n):∃ n,p n∧∀ m,m < n→¬ p m:=by
 obtain ⟨n,hn⟩:=h
 induction n using Nat.strongRecOn with
 | _ n ih=>
  by_cases hx:∃ m,m < n∧p m
  ·obtain ⟨m,hm,hp⟩:=hx; exact ih m hm hp
  ·exact ⟨n,hn,fun m hm hp=>hx ⟨m,hm,hp⟩⟩
def scan {ρ:Type} (bad:Nat→Option ρ) (r0:ρ):Nat→Nat→ρ
 | _,0=>r0
 | i,k+1=>match bad i with
  | some r=>r
  | none=>scan bad r0 (i+1) k
theorem Jae {ρ:Type} {bad:Nat→Option ρ} {r0:ρ}:∀ (k i:Nat),(∀ j,i≤j→j < i+k→bad j=none)→scan bad r0 i k=r0
 | 0,i,_=>rfl
 | k+1,i,h=>by
  rw [scan,h i (Nat.le_refl _) (by omega)]
  exact Jae k (i+1) fun j h1 h2=>h j (by omega) (by omega)
theorem J9i {ρ:Type} {bad:Nat→Option ρ} {r0 r:ρ}:∀ (k i j:Nat),i≤j→j < i+k→(∀ j',i≤j'→j' < j→bad j'=none)→bad j=some r→scan bad r0 i k=r
 | 0,i,j,h1,h2,_,_=>by omega
 | k+1,i,j,h1,h2,h3,h4=>by
  rw [scan]
  by_cases e:i=j
  ·subst e; rw [h4]
  ·rw [h3 i (Nat.le_refl _) (by omega)]
   exact J9i k (i+1) j (by omega) (by omega) (fun j' g1 g2=>h3 j' (by omega) g2) h4
theorem J7l {σ ρ : Type} {step : σ → Option (σ ⊕ ρ)} (st : Nat → σ) (bad : Nat → Option ρ) (r0 : ρ) (n : Nat) (h1 : ∀ i, i < n → bad i = none → step (st i) = some (.inl (st (i + 1))))
    (h2 : ∀ i r, i < n → bad i = some r → step (st i) = some (.inr r)) (h3 : step (st n) = some (.inr r0)) : ∀ (k i : Nat), i + k = n → loop step (st i) = some (scan bad r0 i k)
  | 0, i, e => by have : i = n := by omega
                  subst this; exact J63 h3
  | k + 1, i, e => by
    rw [scan]
    split
    · rename_i r hr; exact J63 (h2 i r (by omega) hr)
    · rename_i hn
      rw [J67 (h1 i (by omega) hn)]
      exact J7l st bad r0 n h1 h2 h3 k (i + 1) (by omega)
theorem J5l {α β:Type} {a:α} {k:α→Option β}:andThen (some a) k=k a:=rfl
theorem J5p {α:Type} {p:Prop} [Decidable p] {x y:Option α} (h:p):fork (decide p) x y=x:=by rw [decide_eq_true h]; rfl
theorem J5o {α:Type} {p:Prop} [Decidable p] {x y:Option α} (h:¬ p):fork (decide p) x y=y:=by rw [decide_eq_false h]; rfl
theorem J82 {α:Type} {p:Prop} [Decidable p] {x y:Option α} (h:p):fork (!decide p) x y=y:=by rw [decide_eq_true h]; rfl
theorem J8v {α:Type} {p:Prop} [Decidable p] {x y:Option α} (h:¬ p):fork (!decide p) x y=x:=by rw [decide_eq_false h]; rfl
theorem J74 {α:Type} {x y:Option α}:fork true x y=x:=rfl
theorem J60 {α:Type} {x y:Option α}:fork false x y=y:=rfl
theorem Jfl {α:Type} {b:Bool} {x y:Option α}:fork b x y=if b then x else y:=by cases b <;> rfl
theorem Jcc {α:Type} (l:List α) (u:Int):cutL l 0 u=l.take u.toNat:=rfl
theorem J8m {α:Type} (l:List α) (u:Int):cutL l u (l.length:Int)=l.drop u.toNat:=by
 unfold cutL; rw [Int.toNat_natCast,List.take_of_length_le (Nat.le_refl _)]
theorem Jvu (t:Ty) (h:t.comp=true) (x:t.den):Ty.beq t x x=true:=(Ty.beq_iff t h x x).2 rfl
theorem Jd6 (x:List UInt8):Ty.beq (.arr 32 (.int .u8)) x x=true:=Jvu (.arr 32 (.int .u8)) rfl x
abbrev Val:=List UInt8×Int×List UInt8×Unit
def zVal:Val:=(([]:List UInt8),(0:Int),(List.replicate 32 (0:UInt8)),())
theorem Jkw:((([]:List UInt8),(0:Int),(List.replicate 32 (0:UInt8)),()):Val)=zVal:=rfl
theorem Jwm (l:List (List UInt8)) (x:List UInt8) (hl:l.length≤1073741824):J1d l x=some (l.contains x):=by
 have h:Ji_1 l x (l.length:Int) 0=some (scan (fun i=>if x=l.getD i [] then some (.inl (i:Int)) else none) (.inr ()) 0 l.length):=by
  unfold Ji_1
  refine J7l (step:=fun (s:Int)=>Ji_1_step l x (l.length:Int) s) (fun i=>(i:Int)) _ _ l.length (fun i hi h=>?_) (fun i r hi h=>?_) ?_ l.length 0 (by omega)
  ·unfold Ji_1_step
   simp (disch:=omega) only [J5p,J5q,J5m,Int.toNat_natCast]
   by_cases e:x=l.getD i []
   ·rw [if_pos e] at h; cases h
   ·rw [J5o e]; rfl
  ·unfold Ji_1_step
   simp (disch:=omega) only [J5p,J5q,J5m,Int.toNat_natCast]
   by_cases e:x=l.getD i []
   ·rw [if_pos e] at h; rw [J5p e]; injection h with h; subst h; rfl
   ·rw [if_neg e] at h; cases h
  ·unfold Ji_1_step
   rw [J5o (by omega)]
 unfold J1d Ji
 rw [h,J5l]
 by_cases hx:x ∈ l
 ·have hm:∃ j,j < l.length∧x=l.getD j []:=by
   obtain ⟨j,hj,e⟩:=List.getElem_of_mem hx
   exact ⟨j,hj,by rw [List.getD_eq_getElem?_getD,List.getElem?_eq_getElem hj]; exact e.symm⟩
  obtain ⟨j,hj⟩:=Nat.find_of (p:=fun j=>j < l.length∧x=l.getD j []) hm
  rw [J9i l.length 0 j (Nat.zero_le _) (by omega) (fun j' _ h=>?_) (if_pos hj.1.2)]
  ·simp [andThen,hx]
  ·rw [if_neg]
   intro e
   exact hj.2 j' h ⟨by omega,e⟩
 ·rw [Jae _ _ (fun j _ h=>?_)]
  ·simp [andThen,hx]
  ·rw [if_neg]
   intro e
   apply hx
   rw [e,List.getD_eq_getElem?_getD,List.getElem?_eq_getElem (by omega:j < l.length)]
   exact List.getElem_mem _
def pow (p:Val→Bool) (l:List Val):Int:=((l.filter p).map (·.2.1)).sum
def Jb0 (l:List Val):Prop:=l.length≤1000∧∀ v ∈ l,0≤v.2.1∧v.2.1≤2097152
theorem J9h (p:Val→Bool):∀ (l:List Val),(∀ v ∈ l,0≤v.2.1∧v.2.1≤2097152)→0≤pow p l∧pow p l≤2097152 * l.length
 | [],_=>by simp [pow]
 | v::l,h=>by
  have ih:=J9h p l fun w hw=>h w (List.mem_cons_of_mem _ hw)
  have hv:=h v (List.mem_cons_self)
  unfold pow at ih ⊢
  by_cases hp:p v
  ·rw [List.filter_cons_of_pos hp]; simp only [List.map_cons,List.sum_cons,List.length_cons]; omega
  ·rw [List.filter_cons_of_neg hp]; simp only [List.length_cons]; omega
theorem Jpm (p:Val→Bool) (l:List Val) {i:Nat} (h:i < l.length):pow p (l.take (i+1))=pow p (l.take i)+(if p (l.getD i zVal) then (l.getD i zVal).2.1 else 0):=by
 unfold pow
 rw [List.take_add_one,List.getElem?_eq_getElem h,List.getD_eq_getElem?_getD,List.getElem?_eq_getElem h]
 simp only [Option.toList_some,Option.getD_some,List.filter_append,List.map_append,List.sum_append]
 by_cases hp:p l[i]
 ·rw [List.filter_cons_of_pos hp]; simp [hp]
 ·rw [List.filter_cons_of_neg hp]; simp [hp]
theorem J6g {α:Type} {l:List α} {i:Nat} {z:α} (h:i < l.length):l.getD i z ∈ l:=by
 rw [List.getD_eq_getElem?_getD,List.getElem?_eq_getElem h]; exact List.getElem_mem _
theorem Jxy (l:List Val) (h:Jb0 l):J17 l=some (pow (fun _=>true) l):=by
 have main:J17_1 0 l (l.length:Int) 0=some (pow (fun _=>true) l):=by
  unfold J17_1
  have:=J5v (step:=fun (s:Int×Int)=>J17_1_step s.1 l (l.length:Int) s.2) (fun i (_:Unit)=>(pow (fun _=>true) (l.take i),(i:Int))) (fun _ _=>()) (fun _=>pow (fun _=>true) l) l.length (fun _ _=>True) (fun i w hi _=>⟨?_,trivial⟩) (fun w _=>?_) l.length 0 () (by omega) trivial
  ·exact this
  ·unfold J17_1_step
   simp only [Jkw]
   have b:=J9h (fun _=>true) (l.take i) fun v hv=>h.2 v (List.mem_of_mem_take hv)
   have hm:=h.2 _ (J6g (z:=zVal) hi)
   have hl:=h.1
   have t:=Jpm (fun _=>true) l hi
   rw [List.length_take] at b
   simp only [if_true] at t
   simp (disch:=omega) only [J5p,J5q,J5m,Int.toNat_natCast]
   rw [t]
   rfl
  ·unfold J17_1_step
   rw [J5o (by omega),List.take_of_length_le (Nat.le_refl _)]
 unfold J17
 rw [main,J5l]
theorem Jxv (l:List Val) (h:Jb0 l) (ns:List (List UInt8)) (hn:ns.length≤1073741824):J16 l ns=some (pow (fun v=>ns.contains v.1) l,pow (fun _=>true) l):=by
 have hl:=h.1
 have main:J16_1 l ns 0 l (l.length:Int) 0=some (l,pow (fun v=>ns.contains v.1) l):=by
  unfold J16_1
  have:=J5v (step:=fun (s:Int×Int)=>J16_1_step l ns s.1 l (l.length:Int) s.2) (fun i (_:Unit)=>(pow (fun v=>ns.contains v.1) (l.take i),(i:Int))) (fun _ _=>()) (fun _=>(l,pow (fun v=>ns.contains v.1) l)) l.length (fun _ _=>True) (fun i w hi _=>⟨?_,trivial⟩) (fun w _=>?_) l.length 0 () (by omega) trivial
  ·exact this
  ·unfold J16_1_step
   simp only [Jkw]
   have b:=J9h (fun v=>ns.contains v.1) (l.take i) fun v hv=>h.2 v (List.mem_of_mem_take hv)
   have hm:=h.2 _ (J6g (z:=zVal) hi)
   have t:=Jpm (fun v=>ns.contains v.1) l hi
   rw [List.length_take] at b
   simp (disch:=omega) only [J5p,J5q,J5m,Int.toNat_natCast,Jwm _ _ hn,J5l]
   by_cases hc:ns.contains (l.getD i zVal).1
   ·rw [if_pos hc] at t
    rw [hc,J74,t]
    rfl
   ·rw [if_neg hc] at t
    rw [Bool.not_eq_true] at hc
    rw [hc,J60,t,Int.add_zero]
    rfl
  ·unfold J16_1_step
   rw [J5o (by omega),List.take_of_length_le (Nat.le_refl _)]
 have b1:=J9h (fun v=>ns.contains v.1) l h.2
 have b2:=J9h (fun _=>true) l h.2
 unfold J16
 rw [main,J5l,J5m (by show Int.natAbs (pow _ l) < _; omega),Jxy l h,J5l,J5m (by omega)]
theorem Ju5 (t:Int×Int) (n d:Int) (h1:0≤t.1∧t.1≤4294967296) (h2:0≤t.2∧t.2≤4294967296) (hn:0≤n∧n≤1000) (hd:0≤d∧d≤1000):J4p t n d=some (decide (t.2 * n < t.1 * d)):=by
 unfold J4p
 have b1:0≤t.2 * n∧t.2 * n≤4294967296 * 1000:=⟨Int.mul_nonneg h2.1 hn.1,Int.mul_le_mul h2.2 hn.2 hn.1 (by omega)⟩
 have b2:0≤t.1 * d∧t.1 * d≤4294967296 * 1000:=⟨Int.mul_nonneg h1.1 hd.1,Int.mul_le_mul h1.2 hd.2 hd.1 (by omega)⟩
 rw [J5q (by omega) (by omega),J5q (by omega) (by omega)]
def mayS (v:Val):Bool:=!decide (v.1=[]) && (decide ((v.1.length:Int)≤16) && (decide (1≤v.2.1) && decide (v.2.1≤1048576)))
theorem may_eq (v:Val):J58 v=some (mayS v):=by
 unfold J58 mayS
 simp only [Jfl]
 split
 ·rename_i h; rw [h]; split
  ·rename_i h; rw [h]; split
   ·rename_i h; rw [h]; simp
   ·rename_i h; rw [Bool.not_eq_true] at h; rw [h]; simp
  ·rename_i h; rw [Bool.not_eq_true] at h; rw [h]; simp
 ·rename_i h; rw [Bool.not_eq_true] at h; rw [h]; simp
def okAt (l:List Val) (i:Nat):Bool:=mayS (l.getD i zVal) && (i == 0 || J62 (l.getD (i - 1) zVal).1 (l.getD i zVal).1)
def J9v (l:List Val):Bool:=(List.range l.length).all (okAt l) && (decide (1≤l.length) && decide (l.length≤5))
theorem right_eq (l:List Val) (hl:l.length≤1073741824):J0l l=some (J9v l):=by
 have main:J0l_1 l l (l.length:Int) 0=some (scan (fun i=>if okAt l i then none else some (.inl false)) (.inr l) 0 l.length):=by
  unfold J0l_1
  have step:∀ i,i < l.length→J0l_1_step l l (l.length:Int) (i:Int)=if okAt l i then some (.inl ((i+1:Nat):Int)) else some (.inr (.inl false)):=by
   intro i hi
   unfold J0l_1_step
   simp only [Jkw]
   simp (disch:=omega) only [J5p,J5q,J5m,Int.toNat_natCast,may_eq,J5l]
   unfold okAt
   by_cases hm:mayS (l.getD i zVal)
   ·rw [hm]
    rw [show (!true)=false from rfl,J60,Bool.true_and]
    by_cases h0:i=0
    ·subst h0; rw [J5o (by omega)]; rfl
    ·rw [J5p (by omega),J5m (by omega),show Int.toNat ((i:Int) - 1)=i - 1 from by omega]
     have:(i == 0)=false:=by simp [h0]
     rw [this,Bool.false_or]
     by_cases hs:J62 (l.getD (i - 1) zVal).1 (l.getD i zVal).1
     ·rw [hs]; rfl
     ·rw [Bool.not_eq_true] at hs; rw [hs]; rfl
   ·rw [Bool.not_eq_true] at hm; rw [hm]; rfl
  refine J7l (step:=fun (s:Int)=>J0l_1_step l l (l.length:Int) s) (fun i=>(i:Int)) _ _ l.length (fun i hi h=>?_) (fun i r hi h=>?_) ?_ l.length 0 (by omega)
  ·by_cases hk:okAt l i
   ·exact (step i hi).trans (if_pos hk)
   ·rw [if_neg hk] at h; cases h
  ·by_cases hk:okAt l i
   ·rw [if_pos hk] at h; cases h
   ·rw [if_neg hk] at h; injection h with h; subst h
    exact (step i hi).trans (if_neg hk)
  ·unfold J0l_1_step
   rw [J5o (by omega)]
 unfold J0l
 rw [main,J5l]
 unfold J9v
 by_cases hall:(List.range l.length).all (okAt l)
 ·rw [Jae _ _ (fun j _ h=>if_pos (List.all_eq_true.1 hall j (by simp; omega))),hall,Bool.true_and]
  simp only [Jfl]
  by_cases h1:1≤l.length
  ·rw [decide_eq_true h1,decide_eq_true (show (1:Int)≤(l.length:Int) by omega),if_pos rfl,Bool.true_and]
   congr 1
   exact decide_eq_decide.2 (by omega)
  ·rw [decide_eq_false h1,decide_eq_false (show ¬ (1:Int)≤(l.length:Int) by omega)]; rfl
 ·rw [Bool.not_eq_true] at hall
  have:∃ j,j < l.length∧okAt l j=false:=by
   rw [List.all_eq_false] at hall
   obtain ⟨j,hj,hk⟩:=hall
   exact ⟨j,by simpa using hj,by simpa using hk⟩
  obtain ⟨j,hj⟩:=Nat.find_of this
  have hsc:scan (fun i=>if okAt l i then none else some (.inl false)) (.inr l:Bool⊕List Val) 0 l.length=.inl false:=by
   refine J9i l.length 0 j (Nat.zero_le _) (by omega) (fun j' _ h=>if_pos ?_) (if_neg ?_)
   ·have:=hj.2 j' h
    cases hk:okAt l j' with
    | true=>rfl
    | false=>exact absurd ⟨by omega,hk⟩ this
   ·rw [hj.1.2]; simp
  rw [hall,hsc]
  rfl
theorem Jx2 (p:Val→Bool) (v:Val) (l:List Val):pow p (v::l)=(if p v then v.2.1 else 0)+pow p l:=by
 unfold pow
 by_cases h:p v
 ·rw [List.filter_cons_of_pos h,if_pos h]; simp
 ·rw [List.filter_cons_of_neg h,if_neg h]; simp
theorem Jzu (p:Val→Bool):pow p []=0:=rfl
theorem J9j:∀ a:List UInt8,J62 a a=false
 | []=>rfl
 | x::a=>by
  rw [J62,J9j a]
  simp
theorem J79:∀ a b c:List UInt8,J62 a b=true→J62 b c=true→J62 a c=true
 | _,[],_,h,_=>by cases ‹List UInt8› <;> simp [J62] at h
 | _,_::_,[],_,h=>by simp [J62] at h
 | [],_::_,_::_,_,_=>rfl
 | x::a,y::b,z::c,h1,h2=>by
  simp only [J62,Bool.or_eq_true,Bool.and_eq_true,decide_eq_true_eq,beq_iff_eq] at h1 h2 ⊢
  rcases h1 with h1 | ⟨rfl,h1⟩
  ·rcases h2 with h2 | ⟨rfl,h2⟩
   ·exact .inl (UInt8.lt_trans h1 h2)
   ·exact .inl h1
  ·rcases h2 with h2 | ⟨rfl,h2⟩
   ·exact .inl h2
   ·exact .inr ⟨rfl,J79 a b c h1 h2⟩
def incN (ns:List (List UInt8)):Bool:=(List.range (ns.length - 1)).all fun i=>J62 (ns.getD i []) (ns.getD (i+1) [])
theorem Jlp:∀ (ns:List (List UInt8)),incN ns=true→ns.Pairwise (fun a b=>J62 a b=true)
 | [],_=>List.Pairwise.nil
 | [x],_=>List.pairwise_singleton _ _
 | x::y::ns,h=>by
  have hall:∀ i,i < ns.length+1→J62 ((x::y::ns).getD i []) ((x::y::ns).getD (i+1) [])=true:=fun i hi=>List.all_eq_true.1 h i (by simp; omega)
  have ih:=Jlp (y::ns) (List.all_eq_true.2 fun i hi=>by
   have:=hall (i+1) (by simp at hi; omega)
   exact this)
  have h0:J62 x y=true:=hall 0 (by omega)
  refine List.pairwise_cons.2 ⟨fun z hz=>?_,ih⟩
  rcases List.mem_cons.1 hz with rfl | hz
  ·exact h0
  ·exact J79 _ _ _ h0 ((List.pairwise_cons.1 ih).1 z hz)
theorem Jzi:∀ (ns:List (List UInt8)),ns.Pairwise (fun a b=>J62 a b=true)→incN ns=true:=by
 intro ns h
 refine List.all_eq_true.2 fun i hi=>?_
 have hi:i < ns.length - 1:=by simpa using hi
 rw [List.getD_eq_getElem?_getD,List.getD_eq_getElem?_getD,List.getElem?_eq_getElem (by omega),List.getElem?_eq_getElem (by omega)]
 exact List.pairwise_iff_getElem.1 h i (i+1) (by omega) (by omega) (by omega)
def Jlg (l:List Val) (x:List UInt8):Val×Bool:=match l.find? (fun v=>decide (v.1=x)) with
 | some v=>(v,true)
 | none=>(zVal,false)
theorem Jmk (l:List Val) (x:List UInt8):∀ (k i:Nat),i+k=l.length→scan (fun i=>if (l.getD i zVal).1=x then some (.inl (true,l.getD i zVal)) else none) (.inr zVal:(Bool×Val)⊕Val) i k =
  match (l.drop i).find? (fun v=>decide (v.1=x)) with | some v=>.inl (true,v) | none=>.inr zVal
 | 0,i,h=>by rw [List.drop_of_length_le (by omega)]; rfl
 | k+1,i,h=>by
  have hd:l.drop i=l.getD i zVal::l.drop (i+1):=by
   rw [List.drop_eq_getElem_cons (by omega),List.getD_eq_getElem?_getD,List.getElem?_eq_getElem (by omega)]; rfl
  rw [scan,hd]
  by_cases e:(l.getD i zVal).1=x
  ·rw [if_pos e,List.find?_cons_of_pos (by simpa using e)]
  ·rw [if_neg e,List.find?_cons_of_neg (by simpa using e)]
   exact Jmk l x k (i+1) (by omega)
theorem Jlh (x:List UInt8) (l:List Val) (n i:Int) (z:Val):J1i_1_step x l n i z=(fork (decide (i < n)) (need (0≤i∧i < (l.length:Int)) (fork (decide ((l.getD (Int.toNat i) zVal).1=x)) (some (.inr (.inl (true,l.getD (Int.toNat i) zVal)))) (some (.inl (w64 (i+1)))))) (some (.inr (.inr z))):Option (Int⊕((Bool×Val)⊕Val))):=rfl
theorem Jzb (l:List Val) (hl:l.length≤1073741824) (x:List UInt8):J1i l x=some (Jlg l x):=by
 have h:J1i_1 x l (l.length:Int) 0 zVal=some (scan (fun i=>if (l.getD i zVal).1=x then some (.inl (true,l.getD i zVal)) else none) (.inr zVal) 0 l.length):=by
  unfold J1i_1
  refine J7l (step:=fun (s:Int)=>J1i_1_step x l (l.length:Int) s zVal) (fun i=>(i:Int)) _ _ l.length (fun i hi h=>?_) (fun i r hi h=>?_) ?_ l.length 0 (by omega)
  ·rw [Jlh,J5p (by omega),J5m (by omega),Int.toNat_natCast,J5q (by omega) (by omega)]
   by_cases e:(l.getD i zVal).1=x
   ·rw [if_pos e] at h; cases h
   ·rw [J5o e]; rfl
  ·rw [Jlh,J5p (by omega),J5m (by omega),Int.toNat_natCast]
   by_cases e:(l.getD i zVal).1=x
   ·rw [if_pos e] at h; injection h with h; subst h; rw [J5p e]
   ·rw [if_neg e] at h; cases h
  ·unfold J1i_1_step
   rw [J5o (by omega)]
 unfold J1i
 simp only [Jkw]
 rw [h,J5l,Jmk l x l.length 0 (by omega),List.drop_zero]
 unfold Jlg
 cases l.find? (fun v=>decide (v.1=x)) <;> rfl
def Dist (l:List Val):Prop:=(l.map (·.1)).Nodup
theorem Jzc {l:List Val} (hd:Dist l) {v:Val} (hv:v ∈ l):Jlg l v.1=(v,true):=by
 have:l.find? (fun w=>decide (w.1=v.1))=some v:=by
  induction l with
  | nil=>cases hv
  | cons w l ih=>
   unfold Dist at hd
   rw [List.map_cons,List.nodup_cons] at hd
   rcases List.mem_cons.1 hv with rfl | hv
   ·rw [List.find?_cons_of_pos (by simp)]
   ·rw [List.find?_cons_of_neg]
    ·exact ih hd.2 hv
    ·simp only [decide_eq_true_eq]
     intro e
     exact hd.1 (by rw [e]; exact List.mem_map_of_mem hv)
 unfold Jlg
 rw [this]
set_option maxRecDepth 100000
def rotr (x:UInt32) (n:Nat):UInt32:=UInt32.ofNat (x.toNat <<< (32 - n)) ||| UInt32.ofNat (x.toNat >>> n)
def shr (x:UInt32) (n:Nat):UInt32:=UInt32.ofNat (x.toNat >>> n)
def Jz1 (b:List UInt8) (i k:Nat):UInt32:=UInt32.ofNat (UInt32.toNat (UInt32.ofNat (UInt8.toNat (List.getD b i 0))) <<< k)
def word (b:List UInt8) (i:Nat):UInt32:=((Jz1 b (4 * i) 24 ||| Jz1 b (4 * i+1) 16) ||| Jz1 b (4 * i+2) 8) ||| UInt32.ofNat (UInt8.toNat (List.getD b (4 * i+3) 0))
def Jof (b:List UInt8) (i:Nat) (w:List UInt32):List UInt32:=w.set i (word b i)
def Jog (i:Nat) (w:List UInt32):List UInt32:=
 w.set i (((w.getD (i - 16) 0+((rotr (w.getD (i - 15) 0) 7 ^^^ rotr (w.getD (i - 15) 0) 18) ^^^ shr (w.getD (i - 15) 0) 3))+w.getD (i - 7) 0)+((rotr (w.getD (i - 2) 0) 17 ^^^ rotr (w.getD (i - 2) 0) 19) ^^^ shr (w.getD (i - 2) 0) 10))
def Jcz (b:List UInt8):List UInt32:=J6f Jog 16 48 (J6f (Jof b) 0 16 (List.replicate 64 0))
abbrev W8:=UInt32×UInt32×UInt32×UInt32×UInt32×UInt32×UInt32×UInt32
def J7h (k w:List UInt32) (i:Nat) (s:W8):W8:=
 match s with
 | (a,b,c,d,e,f,g,h)=>
  let one:=(((h+((rotr e 6 ^^^ rotr e 11) ^^^ rotr e 25))+((e &&& f) ^^^ ((~~~e) &&& g)))+k.getD i 0)+w.getD i 0
  (one+(((rotr a 2 ^^^ rotr a 13) ^^^ rotr a 22)+(((a &&& b) ^^^ (a &&& c)) ^^^ (b &&& c))),a,b,c,d+one,e,f,g)
def Jr4 (s:W8):List UInt32:=[s.1,s.2.1,s.2.2.1,s.2.2.2.1,s.2.2.2.2.1,s.2.2.2.2.2.1,s.2.2.2.2.2.2.1,s.2.2.2.2.2.2.2]
def tup8 (h:List UInt32):W8:=(h.getD 0 0,h.getD 1 0,h.getD 2 0,h.getD 3 0,h.getD 4 0,h.getD 5 0,h.getD 6 0,h.getD 7 0)
def addS (v:List UInt32) (i:Nat) (h:List UInt32):List UInt32:=h.set i (h.getD i 0+v.getD i 0)
def mixS (k:List UInt32) (b:List UInt8) (h:List UInt32):List UInt32:=
 J6f (addS (Jr4 (J6f (J7h k (Jcz b)) 0 64 (tup8 h)))) 0 8 h
def kS:List UInt32:=[1116352408,1899447441,3049323471,3921009573,961987163,1508970993,2453635748,2870763221,3624381080,310598401,607225278,1426881987,1925078388,2162078206,2614888103,3248222580,3835390401,4022224774,264347078,604807628,770255983,1249150122,1555081692,1996064986,2554220882,2821834349,2952996808,3210313671,3336571891,3584528711,113926993,338241895,666307205,773529912,1294757372,1396182291,1695183700,1986661051,2177026350,2456956037,2730485921,2820302411,3259730800,3345764771,3516065817,3600352804,4094571909,275423344,430227734,506948616,659060556,883997877,958139571,1322822218,1537002063,1747873779,1955562222,2024104815,2227730452,2361852424,2428436474,2756734187,3204031479,3329325298]
def h0S:List UInt32:=[1779033703,3144134277,1013904242,2773480762,1359893119,2600822924,528734635,1541459225]
def Ja2 (n:UInt64) (i:Nat):UInt8:=UInt8.ofNat (UInt64.toNat (UInt64.ofNat (UInt64.toNat n >>> (8 * i))))
def bitsOf (b:List UInt8):UInt64:=UInt64.ofNat b.length * 8
def padS (b:List UInt8):List UInt8:=
 b++128::(List.replicate ((b.length+8) / 64 * 64+55 - b.length) 0++[Ja2 (bitsOf b) 7,Ja2 (bitsOf b) 6,Ja2 (bitsOf b) 5,Ja2 (bitsOf b) 4,Ja2 (bitsOf b) 3,Ja2 (bitsOf b) 2,Ja2 (bitsOf b) 1,Ja2 (bitsOf b) 0])
def Jaj:Nat→List UInt8→List UInt32→List UInt32
 | 0,_,h=>h
 | n+1,l,h=>Jaj n (l.drop 64) (mixS kS (l.take 64) h)
def outB (x:UInt32) (j:Nat):UInt8:=UInt8.ofNat (UInt32.toNat (UInt32.ofNat (UInt32.toNat x >>> (24 - 8 * j))))
def outS (h:List UInt32):List UInt8:=h.flatMap fun x=>[outB x 0,outB x 1,outB x 2,outB x 3]
def sha (b:List UInt8):List UInt8:=outS (Jaj ((b.length+8) / 64+1) (padS b) h0S)
theorem right7 (x:UInt32):J0j x 7=some (rotr x 7):=rfl
theorem K5 (x:UInt32):J0j x 18=some (rotr x 18):=rfl
theorem K4 (x:UInt32):J0j x 17=some (rotr x 17):=rfl
theorem K6 (x:UInt32):J0j x 19=some (rotr x 19):=rfl
theorem right6 (x:UInt32):J0j x 6=some (rotr x 6):=rfl
theorem Jzz (x:UInt32):J0j x 11=some (rotr x 11):=rfl
theorem K8 (x:UInt32):J0j x 25=some (rotr x 25):=rfl
theorem right2 (x:UInt32):J0j x 2=some (rotr x 2):=rfl
theorem K3 (x:UInt32):J0j x 13=some (rotr x 13):=rfl
theorem K7 (x:UInt32):J0j x 22=some (rotr x 22):=rfl
theorem Jmn (b:List UInt8) (hb:b.length=64) (z w:List UInt32) {i:Nat} (hi:i < 16) :
  J07_1_step b (i:Int) z w=some (.inl (((i+1:Nat):Int),Jof b i w)):=by
 unfold J07_1_step
 have e0:Int.toNat (4 * (i:Int))=4 * i:=by omega
 have e1:Int.toNat (4 * (i:Int)+1)=4 * i+1:=by omega
 have e2:Int.toNat (4 * (i:Int)+2)=4 * i+2:=by omega
 have e3:Int.toNat (4 * (i:Int)+3)=4 * i+3:=by omega
 simp (disch:=omega) only [J5p,J5q,J5m,hb,e0,e1,e2,e3,Int.toNat_natCast]
 rfl
theorem Jxr (b:List UInt8) (hb:b.length=64) (z:List UInt32):J07_1 b 0 z z=some (z,J6f (Jof b) 0 16 z):=by
 unfold J07_1
 refine J5v (fun i w=>((i:Int),w)) (Jof b) (fun w=>(z,w)) 16 (fun _ _=>True) (fun i w hi _=>⟨Jmn b hb z w hi,trivial⟩) (fun w _=>?_) 16 0 z rfl trivial
 unfold J07_1_step
 rfl
theorem Jmo (z w:List UInt32) {i:Nat} (h1:16≤i) (hi:i < 64) :
  J07_2_step (i:Int) z w=some (.inl (((i+1:Nat):Int),Jog i w)):=by
 unfold J07_2_step
 have e0:Int.toNat ((i:Int) - 15)=i - 15:=by omega
 have e1:Int.toNat ((i:Int) - 2)=i - 2:=by omega
 have e2:Int.toNat ((i:Int) - 16)=i - 16:=by omega
 have e3:Int.toNat ((i:Int) - 7)=i - 7:=by omega
 simp (disch:=omega) only [J5p,J5q,J5m,e0,e1,e2,e3,Int.toNat_natCast,right7,K5,K4,K6,J5l]
 rfl
theorem Jxs (z w:List UInt32):J07_2 16 z w=some (z,J6f Jog 16 48 w):=by
 unfold J07_2
 refine J5v (fun i w=>((i:Int),w)) Jog (fun w=>(z,w)) 64 (fun i _=>16≤i) (fun i w hi h=>⟨Jmo z w h hi,by omega⟩) (fun w _=>?_) 48 16 w rfl (Nat.le_refl _)
 unfold J07_2_step
 rfl
theorem Jv1 (b:List UInt8) (hb:b.length=64):J07 b=some (Jcz b):=by
 unfold J07
 rw [Jxr b hb,J5l,Jxs,J5l,Jcz]
theorem Jtt (k w hz:List UInt32) (s:W8) {i:Nat} (hi:i < 64) :
  Jv_1_step s.1 s.2.1 s.2.2.1 s.2.2.2.1 s.2.2.2.2.1 s.2.2.2.2.2.1 s.2.2.2.2.2.2.1 s.2.2.2.2.2.2.2 (i:Int) hz k w =
   some (.inl ((J7h k w i s).1,(J7h k w i s).2.1,(J7h k w i s).2.2.1,(J7h k w i s).2.2.2.1,(J7h k w i s).2.2.2.2.1,(J7h k w i s).2.2.2.2.2.1,(J7h k w i s).2.2.2.2.2.2.1,(J7h k w i s).2.2.2.2.2.2.2,((i+1:Nat):Int))):=by
 obtain ⟨a,b,c,d,e,f,g,h⟩:=s
 unfold Jv_1_step
 simp (disch:=omega) only [J5p,J5q,J5m,Int.toNat_natCast,right6,Jzz,K8,right2,K3,K7,J5l]
 rfl
theorem mix_1 (k w hz:List UInt32) (s:W8):Jv_1 s.1 s.2.1 s.2.2.1 s.2.2.2.1 s.2.2.2.2.1 s.2.2.2.2.2.1 s.2.2.2.2.2.2.1 s.2.2.2.2.2.2.2 0 hz k w =
   some ((J6f (J7h k w) 0 64 s).1,(J6f (J7h k w) 0 64 s).2.1,(J6f (J7h k w) 0 64 s).2.2.1,(J6f (J7h k w) 0 64 s).2.2.2.1,(J6f (J7h k w) 0 64 s).2.2.2.2.1,(J6f (J7h k w) 0 64 s).2.2.2.2.2.1,(J6f (J7h k w) 0 64 s).2.2.2.2.2.2.1,(J6f (J7h k w) 0 64 s).2.2.2.2.2.2.2,hz,k):=by
 unfold Jv_1
 refine J5v (fun i (s:W8)=>(s.1,s.2.1,s.2.2.1,s.2.2.2.1,s.2.2.2.2.1,s.2.2.2.2.2.1,s.2.2.2.2.2.2.1,s.2.2.2.2.2.2.2,(i:Int))) (J7h k w)
  (fun (s:W8)=>(s.1,s.2.1,s.2.2.1,s.2.2.2.1,s.2.2.2.2.1,s.2.2.2.2.2.1,s.2.2.2.2.2.2.1,s.2.2.2.2.2.2.2,hz,k)) 64 (fun _ _=>True) (fun i s hi _=>⟨Jtt k w hz s hi,trivial⟩) (fun s _=>?_) 64 0 s rfl trivial
 unfold Jv_1_step
 rfl
theorem mix_2 (v h k:List UInt32):Jv_2 v 0 h k=some (J6f (addS v) 0 8 h,k):=by
 unfold Jv_2
 refine J5v (fun i w=>((i:Int),w)) (addS v) (fun w=>(w,k)) 8 (fun _ _=>True) (fun i w hi _=>⟨?_,trivial⟩) (fun w _=>?_) 8 0 h rfl trivial
 ·unfold Jv_2_step
  simp (disch:=omega) only [J5p,J5q,J5m,Int.toNat_natCast]
  rfl
 ·unfold Jv_2_step
  rfl
theorem mix_eq (b:List UInt8) (hb:b.length=64) (h k:List UInt32):Jv b h k=some (mixS k b h,k):=by
 unfold Jv
 rw [Jv1 b hb,J5l]
 have:=mix_1 k (Jcz b) h (tup8 h)
 simp only [tup8] at this
 rw [show (Int.toNat (0:Int))=0 from rfl,show (Int.toNat (1:Int))=1 from rfl,show (Int.toNat (2:Int))=2 from rfl,show (Int.toNat (3:Int))=3 from rfl,show (Int.toNat (4:Int))=4 from rfl,
  show (Int.toNat (5:Int))=5 from rfl,show (Int.toNat (6:Int))=6 from rfl,show (Int.toNat (7:Int))=7 from rfl,this,J5l,mix_2,J5l]
 rfl
set_option maxRecDepth 100000
theorem Jsb (n:Nat) (h:n≤1073741824):J4w (n:Int)=some (((n+8) / 64+1:Nat):Int):=by
 unfold J4w
 have e:Int.tdiv ((n:Int)+8) 64=(((n+8) / 64:Nat):Int):=by
  rw [Int.tdiv_eq_ediv_of_nonneg (by omega)]; omega
 simp (disch:=omega) only [J5q,e]
 rfl
theorem Joc {α:Type} (a l:List α) (k:Nat) (x:α):(a++l).set (a.length+k) x=a++l.set k x:=by
 rw [List.set_append_right _ _ (by omega)]
 congr 2; omega
theorem Jo4 (x0:UInt64) (n:Nat) (hn:8≤n) (hn2:n≤2147483648) (l:List UInt8) (hl:l.length=n):J1c_1 x0 0 l=some (J6f (fun i (w:List UInt8)=>w.set (n - 1 - i) (Ja2 x0 i)) 0 8 l):=by
 unfold J1c_1
 refine J5v (fun i w=>((i:Int),w)) (fun i (w:List UInt8)=>w.set (n - 1 - i) (Ja2 x0 i)) (fun w=>w) 8 (fun _ w=>w.length=n) (fun i w hi hw=>⟨?_,by simp [hw]⟩) (fun w _=>?_) 8 0 l rfl hl
 ·unfold J1c_1_step
  have e0:Int.toNat ((n:Int) - 1 - (i:Int))=n - 1 - i:=by omega
  have e1:Int.toNat (8 * (i:Int))=8 * i:=by omega
  simp (disch:=omega) only [J5p,J5q,J5m,hw,e0,e1]
  rfl
 ·unfold J1c_1_step
  rfl
theorem Ju9 (b:List UInt8) (hb:b.length≤1073741824):J1c b=some (padS b):=by
 unfold J1c
 rw [Jsb _ hb,J5l]
 have hN:w64 ((((b.length+8) / 64+1:Nat):Int) * 64)=(((b.length+8) / 64 * 64+64:Nat):Int):=by
  rw [J5q (by omega) (by omega)]; omega
 generalize hn:(b.length+8) / 64 * 64+64=n at hN
 rw [hN,J5m (by omega),Int.toNat_natCast,List.length_replicate,List.take_of_length_le (by omega),List.drop_replicate]
 have hz:n - b.length=((b.length+8) / 64 * 64+55 - b.length)+1+8:=by omega
 have hl:(b++List.replicate (n - b.length) (0:UInt8)).length=n:=by simp; omega
 rw [hl,J5m (by omega),Int.toNat_natCast]
 have hbits:UInt64.ofNat (Int.toNat ((b.length:Int) % 18446744073709551616)) * 8=bitsOf b:=by
  unfold bitsOf; congr 2; omega
 rw [hbits,Jo4 (bitsOf b) n (by omega) (by omega) _ (by rw [List.length_set,hl]),J5l]
 congr 1
 have h1:(b++List.replicate (n - b.length) (0:UInt8)).set b.length 128=(b++128::List.replicate ((b.length+8) / 64 * 64+55 - b.length) 0)++[0,0,0,0,0,0,0,0]:=by
  rw [hz]
  generalize (b.length+8) / 64 * 64+55 - b.length=z
  have h:=Joc b (List.replicate ((z+8)+1) (0:UInt8)) 0 128
  rw [Nat.add_zero b.length] at h
  rw [show z+1+8=(z+8)+1 from by omega,h,List.replicate_succ,List.set_cons_zero,← List.replicate_append_replicate,List.append_assoc]
  rfl
 rw [h1]
 have hA:(b++128::List.replicate ((b.length+8) / 64 * 64+55 - b.length) (0:UInt8)).length=n - 8:=by simp; omega
 generalize hA2:(b++128::List.replicate ((b.length+8) / 64 * 64+55 - b.length) (0:UInt8))=A at hA
 have ix:∀ i,i < 8→n - 1 - i=A.length+(7 - i):=by intro i hi; omega
 simp only [J6f]
 rw [ix 0 (by omega),ix (0+1) (by omega),ix (0+1+1) (by omega),ix (0+1+1+1) (by omega),ix (0+1+1+1+1) (by omega),ix (0+1+1+1+1+1) (by omega),ix (0+1+1+1+1+1+1) (by omega),ix (0+1+1+1+1+1+1+1) (by omega)]
 simp only [Joc]
 unfold padS
 rw [show ∀ x:List UInt8,b++128::(List.replicate ((b.length+8) / 64 * 64+55 - b.length) 0++x)=A++x from fun x=>by rw [← hA2]; simp]
 rfl
theorem Jo3 (b:List UInt8):(padS b).length=64 * ((b.length+8) / 64+1):=by
 unfold padS
 simp
 omega
theorem Jiw {α:Type} {f:Nat→List α→List α} (h:∀ i w,(f i w).length=w.length):∀ (k i:Nat) (w:List α),(J6f f i k w).length=w.length
 | 0,_,_=>rfl
 | k+1,i,w=>by rw [J6f,Jiw h k,h]
theorem Jpc (k:List UInt32) (b:List UInt8) (h:List UInt32):(mixS k b h).length=h.length:=Jiw (fun i w=>by simp [addS]) _ _ _
theorem Jak:∀ (n:Nat) (l:List UInt8) (h:List UInt32),(Jaj n l h).length=h.length
 | 0,_,_=>rfl
 | n+1,l,h=>by rw [Jaj,Jak n,Jpc]
theorem sum_1 (out:List UInt8):∀ (n:Nat) (l:List UInt8),l.length=64 * n→l.length≤2147483648→∀ h,J08_1 l out h kS=some (out,Jaj n l h)
 | 0,l,hl,_,h=>by
  unfold J08_1
  refine J63 ?_
  unfold J08_1_step
  show fork (decide ((0:Int) < (l.length:Int))) _ _=_
  rw [J5o (by omega)]; rfl
 | n+1,l,hl,hl2,h=>by
  have hm:=mix_eq (l.take 64) (by rw [List.length_take]; omega) h kS
  have hs:J08_1_step l out h kS=some (.inl (l.drop 64,mixS kS (l.take 64) h,kS)):=by
   unfold J08_1_step
   rw [J5p (by omega),J5m (by omega),show cutL l (0:Int) (64:Int)=l.take 64 from rfl,hm,J5l,J5m (by omega)]
   have:cutL l (64:Int) (l.length:Int)=l.drop 64:=by
    unfold cutL; rw [Int.toNat_natCast,List.take_of_length_le (Nat.le_refl _)]; rfl
   rw [this]
  have ih:=sum_1 out n (l.drop 64) (by rw [List.length_drop]; omega) (by rw [List.length_drop]; omega) (mixS kS (l.take 64) h)
  unfold J08_1 at ih ⊢
  rw [J67 (s':=(l.drop 64,mixS kS (l.take 64) h,kS)) hs,ih]
  rfl
def Jm5 (x:UInt32) (i:Nat) (acc:List UInt8):List UInt8:=J6f (fun j (acc:List UInt8)=>acc.set (4 * i+j) (outB x j)) 0 4 acc
theorem sum_2 (x:UInt32) (h:List UInt32) (z acc:List UInt8) {i:Nat} (hi:i < 8):J08_2 (i:Int) x h (i:Int) 0 z acc=some (h,(i:Int),z,Jm5 x i acc):=by
 unfold J08_2
 refine J5v (fun j acc=>((j:Int),acc)) (fun j (acc:List UInt8)=>acc.set (4 * i+j) (outB x j)) (fun acc=>(h,(i:Int),z,acc)) 4 (fun _ _=>True) (fun j acc hj _=>⟨?_,trivial⟩) (fun acc _=>?_) 4 0 acc rfl trivial
 ·unfold J08_2_step
  have e0:Int.toNat (4 * (i:Int)+(j:Int))=4 * i+j:=by omega
  have e1:Int.toNat (24 - 8 * (j:Int))=24 - 8 * j:=by omega
  simp (disch:=omega) only [J5p,J5q,J5m,e0,e1]
  rfl
 ·unfold J08_2_step
  rfl
theorem sum_3 (h:List UInt32) (z acc:List UInt8):J08_3 h 0 z acc=some (z,J6f (fun i acc=>Jm5 (h.getD i 0) i acc) 0 8 acc):=by
 unfold J08_3
 refine J5v (fun i acc=>(h,(i:Int),z,acc)) (fun i acc=>Jm5 (h.getD i 0) i acc) (fun acc=>(z,acc)) 8 (fun _ _=>True) (fun i acc hi _=>⟨?_,trivial⟩) (fun acc _=>?_) 8 0 acc rfl trivial
 ·show J08_3_step h (i:Int) z acc=_
  unfold J08_3_step
  rw [J5p (by omega),J5m (by omega),Int.toNat_natCast,sum_2 _ _ _ _ hi,J5l]
  rw [J5q (by show (-9223372036854775808:Int)≤(i:Int)+1; omega) (by show (i:Int)+1≤9223372036854775807; omega)]
  rfl
 ·unfold J08_3_step
  rfl
theorem Jzq (a b c d e f g i:UInt32):J6f (fun j acc=>Jm5 (List.getD [a,b,c,d,e,f,g,i] j 0) j acc) 0 8 (List.replicate 32 (0:UInt8))=outS [a,b,c,d,e,f,g,i]:=by kernel_rfl
theorem out_eq (h:List UInt32) (hh:h.length=8):J6f (fun i acc=>Jm5 (h.getD i 0) i acc) 0 8 (List.replicate 32 (0:UInt8))=outS h:=by
 match h,hh with
 | [a,b,c,d,e,f,g,i],_=>exact Jzq a b c d e f g i
theorem Jwg:J5b=some h0S:=by kernel_rfl
theorem Jvp:J5a=some kS:=by kernel_rfl
theorem sum_eq (b:List UInt8) (hb:b.length≤1073741824):J08 b=some (sha b):=by
 unfold J08
 rw [Jwg,J5l,Jvp,J5l,Ju9 b hb,J5l,sum_1 _ _ _ (Jo3 b) (by rw [Jo3]; omega),J5l]
 simp only [sum_3,J5l]
 rw [out_eq _ (by rw [Jak]; rfl)]
 rfl
theorem J6w (b:List UInt8):(sha b).length=32:=by
 unfold sha outS
 have:(Jaj ((b.length+8) / 64+1) (padS b) h0S).length=8:=by rw [Jak]; rfl
 generalize Jaj ((b.length+8) / 64+1) (padS b) h0S=h at this
 match h,this with
 | [a,b,c,d,e,f,g,i],_=>rfl
theorem getD_take {α:Type} (l:List (List α)) {i:Nat} (h:i < l.length):(l.take i).flatten++l.getD i []=(l.take (i+1)).flatten:=by
 rw [List.take_add_one,List.flatten_append,List.getD_eq_getElem?_getD,List.getElem?_eq_getElem h]
 simp
theorem J9y {α:Type} (l:List (List α)) (i:Nat):((l.take i).flatten).length≤l.flatten.length:=by
 conv=>rhs; rw [← List.take_append_drop i l]
 rw [List.flatten_append,List.length_append]; omega
theorem J72 (t:UInt8) (l:List (List UInt8)) (h:l.flatten.length≤1073741823) (hl:l.length≤1073741823):Js t l=some (sha (t::l.flatten)):=by
 unfold Js
 have:∀ z,Js_1 l (l.length:Int) 0 z [t]=some (z,t::l.flatten):=by
  intro z
  unfold Js_1
  have:=J5v (step:=fun (s:Int×List UInt8)=>Js_1_step l (l.length:Int) s.1 z s.2) (fun i (_:Unit)=>((i:Int),t::(l.take i).flatten)) (fun _ _=>()) (fun _=>(z,t::l.flatten)) l.length (fun _ _=>True) (fun i w hi _=>⟨?_,trivial⟩) (fun w _=>?_) l.length 0 () (by omega) trivial
  ·exact this
  ·unfold Js_1_step
   have e:=getD_take l hi
   have le:=J9y l (i+1)
   rw [← e,List.length_append] at le
   simp (disch:=omega) only [J5p,J5q,J5m,Int.toNat_natCast]
   rw [J5m (by rw [List.length_cons]; omega),List.cons_append,e]
   rfl
  ·unfold Js_1_step
   rw [J5o (by omega),List.take_of_length_le (Nat.le_refl _)]
 rw [this,J5l]
 simp only []
 rw [sum_eq _ (by rw [List.length_cons]; omega),J5l]
theorem Jdo (a:Nat):(BitVec.ofInt 64 (a:Int)).toNat=a % 18446744073709551616:=by
 rw [BitVec.toNat_ofInt]; omega
theorem Jop (a b:Nat) (ha:a < 9223372036854775808) (hb:b < 9223372036854775808):band (a:Int) (b:Int)=((a &&& b:Nat):Int):=by
 unfold band
 have hle:a &&& b≤a:=Nat.and_le_left
 rw [BitVec.toNat_and,Jdo,Jdo,Nat.mod_eq_of_lt (by omega),Nat.mod_eq_of_lt (by omega)]
 exact J5q (by omega) (by omega)
theorem Jsc (a b:Nat) (h:(a ||| b) < 9223372036854775808):bor (a:Int) (b:Int)=((a ||| b:Nat):Int):=by
 unfold bor
 have h1:a≤a ||| b:=Nat.left_le_or
 have h2:b≤a ||| b:=Nat.right_le_or
 rw [BitVec.toNat_or,Jdo,Jdo,Nat.mod_eq_of_lt (by omega),Nat.mod_eq_of_lt (by omega)]
 exact J5q (by omega) (by omega)
theorem Js1 (a:Nat) (ha:a < 9223372036854775808):band (a:Int) 127=((a % 128:Nat):Int):=by
 rw [show (127:Int)=((127:Nat):Int) from rfl,Jop a 127 ha (by omega),show (127:Nat)=2 ^ 7 - 1 from rfl,Nat.and_two_pow_sub_one_eq_mod]
theorem Ju2 (a c k:Nat) (h:a < 2 ^ k):a ||| (c * 2 ^ k)=a+c * 2 ^ k:=by
 rw [Nat.or_comm,← Nat.shiftLeft_eq,← Nat.shiftLeft_add_eq_or_of_lt h,Nat.add_comm]
theorem Jy7 (a:Nat) (h:a < 128):bor (a:Int) 128=((a+128:Nat):Int):=by
 have e:=Ju2 a 1 7 h
 rw [show (128:Int)=((128:Nat):Int) from rfl,Jsc a 128 (by simp only [Nat.one_mul] at e; rw [show (128:Nat)=2 ^ 7 from rfl,e]; omega)]
 simp only [Nat.one_mul] at e
 rw [show (128:Nat)=2 ^ 7 from rfl,e]
theorem Jp5 (a k:Nat) (hk:k≤64):ishr (a:Int) k=((a / 2 ^ k:Nat):Int):=by
 unfold ishr
 rw [Nat.min_eq_left hk,Int.fdiv_eq_ediv_of_nonneg _ (by exact_mod_cast Nat.zero_le _)]
 exact_mod_cast rfl
theorem Jwp (a k:Nat) (hk:k≤64) (h:a * 2 ^ k < 9223372036854775808):ishl (a:Int) k=((a * 2 ^ k:Nat):Int):=by
 unfold ishl
 rw [Nat.min_eq_left hk]
 have e:(a:Int) * 2 ^ k=((a * 2 ^ k:Nat):Int):=by exact_mod_cast rfl
 rw [e]
 exact J5q (by omega) (by omega)
theorem u8_and127 (b:UInt8):(b &&& 127).toNat=b.toNat % 128:=by
 rw [UInt8.toNat_and,show (127:UInt8).toNat=2 ^ 7 - 1 from rfl,Nat.and_two_pow_sub_one_eq_mod]
theorem J8a (a:Nat):UInt8.ofNat (Int.toNat ((a:Int) % 256))=UInt8.ofNat a:=by
 rw [show Int.toNat ((a:Int) % 256)=a % 256 from by omega]
 apply UInt8.toNat_inj.1
 simp
abbrev zH:List UInt8:=List.replicate 32 (0:UInt8)
def secS (seed:List UInt8) (i v:Nat):List UInt8:=sha (115::(seed++[UInt8.ofNat i,UInt8.ofNat v]))
def pubS (s:List UInt8):List UInt8:=sha (112::s)
def keyS (ps:List (List UInt8)):List UInt8:=sha (107::ps.flatten)
def digS (m:List UInt8):List UInt8:=sha (109::m)
def bitN (d:List UInt8) (i:Nat):Nat:=((d.getD (i / 8) 0).toNat >>> (7 - i % 8)) % 2
theorem Jj3 (d:List UInt8) (i:Nat):bitN d i≤1:=by unfold bitN; omega
abbrev One:=List (List UInt8)×List (List UInt8)×Unit
theorem Jq0 (seed:List UInt8) (hs:seed.length=32) (i v:Nat) (hi:i < 256) (hv:v < 256):J36 seed (i:Int) (v:Int)=some (secS seed i v):=by
 unfold J36
 have hf:[seed,[UInt8.ofNat (Int.toNat ((i:Int) % 256)),UInt8.ofNat (Int.toNat ((v:Int) % 256))]].flatten=seed++[UInt8.ofNat i,UInt8.ofNat v]:=by
  rw [J8a,J8a]; simp
 rw [J72 _ _ (by rw [hf]; simp; omega) (by simp),hf]
 rfl
theorem Jpq (s:List UInt8) (hs:s.length=32):J35 s=some (pubS s):=by
 unfold J35
 have hf:[s].flatten=s:=by simp
 rw [J72 _ _ (by rw [hf]; omega) (by simp),hf]
 rfl
theorem Jc6 (seed:List UInt8) (i v:Nat):(secS seed i v).length=32:=J6w _
theorem Jkd (s:List UInt8):(pubS s).length=32:=J6w _
theorem Jp6 (s:List (List UInt8)):(keyS s).length=32:=J6w _
theorem Jp4 (m:List (List UInt8)) (hm:∀ x ∈ m,x.length=32):m.flatten.length=32 * m.length:=by
 induction m with
 | nil=>rfl
 | cons a m ih=>rw [List.flatten_cons,List.length_append,ih (fun x hx=>hm x (List.mem_cons_of_mem _ hx)),hm a List.mem_cons_self,List.length_cons]; omega
theorem Jli (l:List (List UInt8)) {i:Nat} (h:i < l.length):(l.take i).flatten++l.getD i zH=(l.take (i+1)).flatten:=by
 rw [List.take_add_one,List.flatten_append,List.getD_eq_getElem?_getD,List.getElem?_eq_getElem h]
 simp
theorem Jfm (l:List (List UInt8)) (h:∀ x ∈ l,x.length=32) (i:Nat):(l.getD i zH).length=32:=by
 rw [List.getD_eq_getElem?_getD]
 cases e:l[i]? with
 | none=>rfl
 | some x=>exact h x (List.mem_of_getElem? e)
theorem Jyg (l:List (List UInt8)) (hl:l.length≤1000) (h:∀ x ∈ l,x.length=32):J1u l=some (keyS l):=by
 have hlen:∀ i,((l.take i).flatten).length≤32 * l.length:=fun i=>by
  rw [Jp4 _ fun x hx=>h x (List.mem_of_mem_take hx),List.length_take]; omega
 have main:∀ z,J1u_1 l (l.length:Int) 0 z []=some (z,l.flatten):=by
  intro z
  unfold J1u_1
  have:=J5v (step:=fun (s:Int×List UInt8)=>J1u_1_step l (l.length:Int) s.1 z s.2) (fun i (_:Unit)=>((i:Int),(l.take i).flatten)) (fun _ _=>()) (fun _=>(z,l.flatten)) l.length (fun _ _=>True) (fun i w hi _=>⟨?_,trivial⟩) (fun w _=>?_) l.length 0 () (by omega) trivial
  ·exact this
  ·show J1u_1_step l (l.length:Int) (i:Int) z (l.take i).flatten=_
   unfold J1u_1_step
   have b:=hlen i
   have hm:(l.getD i (List.replicate 32 0)).length=32:=Jfm l h i
   rw [J5p (by omega),J5m (by omega),Int.toNat_natCast,J5m (by omega),J5q (by omega) (by omega),Jli l hi]
   rfl
  ·show J1u_1_step l (l.length:Int) (l.length:Int) z (l.take l.length).flatten=_
   unfold J1u_1_step
   rw [J5o (by omega),List.take_of_length_le (Nat.le_refl _)]
 unfold J1u
 have hf:[l.flatten].flatten=l.flatten:=by simp
 have:=Jp4 l h
 rw [main,J5l]
 simp only
 rw [J72 _ _ (by rw [hf]; omega) (by simp),hf]
 rfl
theorem Jy6 (d:List UInt8) (i:Nat) (hi:i < 256):J52 d (i:Int)=some ((bitN d i:Nat):Int):=by
 unfold J52
 have e1:Int.tdiv (i:Int) 8=((i / 8:Nat):Int):=by rw [Int.tdiv_eq_ediv_of_nonneg (by omega)]; omega
 have e2:Int.tmod (i:Int) 8=((i % 8:Nat):Int):=by rw [Int.tmod_eq_emod_of_nonneg (by omega)]; omega
 rw [e1,e2,J5q (by omega) (by omega),J5q (by omega) (by omega),J5m (by omega),J5m (by omega),Int.toNat_natCast,show Int.toNat (7 - ((i % 8:Nat):Int))=7 - i % 8 from by omega]
 generalize hx:d.getD (i / 8) 0=x
 have hlt:=x.toNat_lt
 have hs:x.toNat >>> (7 - i % 8)≤x.toNat:=by rw [Nat.shiftRight_eq_div_pow]; exact Nat.div_le_self _ _
 rw [UInt8.toNat_ofNat',Nat.mod_eq_of_lt (by omega)]
 have hb:=Jop (x.toNat >>> (7 - i % 8)) 1 (by omega) (by omega)
 rw [show ((1:Nat):Int)=1 from rfl] at hb
 rw [hb,show (1:Nat)=2 ^ 1 - 1 from rfl,Nat.and_two_pow_sub_one_eq_mod]
 unfold bitN
 rw [hx]
def Jra (seed:List UInt8) (i:Nat):List (List UInt8):=[pubS (secS seed i 0),pubS (secS seed i 1)]
def J7i (seed:List UInt8) (n:Nat):List (List UInt8):=(List.range n).flatMap (Jra seed)
theorem Jdr (seed:List UInt8) (n:Nat):(∀ x ∈ J7i seed n,x.length=32)∧(J7i seed n).length=2 * n:=by
 unfold J7i
 refine ⟨fun x hx=>?_,?_⟩
 ·obtain ⟨i,_,hi⟩:=List.mem_flatMap.1 hx
  simp only [Jra,List.mem_cons,List.not_mem_nil,or_false] at hi
  rcases hi with rfl | rfl <;> exact Jkd _
 ·induction n with
  | zero=>rfl
  | succ n ih=>rw [List.range_succ,List.flatMap_append,List.length_append,ih]; simp [Jra]; omega
theorem Jgi {α β:Type} {f g:α→List β}:∀ {l:List α},(∀ a ∈ l,f a=g a)→l.flatMap f=l.flatMap g
 | [],_=>rfl
 | a::l,h=>by rw [List.flatMap_cons,List.flatMap_cons,h a List.mem_cons_self,Jgi fun b hb=>h b (List.mem_cons_of_mem _ hb)]
theorem Jde {α:Type} (f:Nat→List α) (n:Nat):(List.range (n+1)).flatMap f=(List.range n).flatMap f++f n:=by
 rw [List.range_succ,List.flatMap_append]; simp
def KeyS (seed:List UInt8):List UInt8:=keyS (J7i seed 32)
theorem Key_eq (seed:List UInt8) (hs:seed.length=32):J26 seed=some (KeyS seed):=by
 have main:∀ z,J26_1 0 seed z []=some (z,J7i seed 32):=by
  intro z
  unfold J26_1
  have:=J5v (step:=fun (s:Int×List (List UInt8))=>J26_1_step s.1 seed z s.2) (fun i (_:Unit)=>((i:Int),J7i seed i)) (fun _ _=>()) (fun _=>(z,J7i seed 32)) 32 (fun _ _=>True) (fun i w hi _=>⟨?_,trivial⟩) (fun w _=>?_) 32 0 () (by omega) trivial
  ·exact this
  ·show J26_1_step (i:Int) seed z (J7i seed i)=_
   unfold J26_1_step
   have hl:=(Jdr seed i).2
   have s0:=Jq0 seed hs i 0 (by omega) (by omega)
   have s1:=Jq0 seed hs i 1 (by omega) (by omega)
   rw [show ((0:Nat):Int)=0 from rfl] at s0
   rw [show ((1:Nat):Int)=1 from rfl] at s1
   rw [J5p (by omega),s0,J5l,Jpq _ (Jc6 _ _ _),J5l,s1,J5l,Jpq _ (Jc6 _ _ _),J5l,J5m (by simp; omega),J5q (by omega) (by omega)]
   unfold J7i
   rw [Jde]
   rfl
  ·show J26_1_step 32 seed z (J7i seed 32)=_
   unfold J26_1_step
   rw [J5o (by omega)]
 unfold J26
 obtain ⟨h1,h2⟩:=Jdr seed 32
 rw [main,J5l]
 simp only
 rw [Jyg _ (by omega) h1]
 rfl
def Jdp (seed d:List UInt8) (n:Nat):List (List UInt8):=(List.range n).map fun i=>secS seed i (bitN d i)
def Je2 (seed d:List UInt8) (n:Nat):List (List UInt8):=(List.range n).map fun i=>pubS (secS seed i (1 - bitN d i))
def Jko (seed m:List UInt8):One:=(Jdp seed (digS m) 32,Je2 seed (digS m) 32,())
theorem mapRange {α:Type} (f:Nat→α) (n:Nat):(List.range (n+1)).map f=(List.range n).map f++[f n]:=by
 rw [List.range_succ,List.map_append]; rfl
theorem Jy9 (m:List UInt8) (hm:m.length≤100000):Js 109 [m]=some (digS m):=by
 have hf:[m].flatten=m:=by simp
 rw [J72 _ _ (by rw [hf]; omega) (by simp),hf]
 rfl
theorem Kl (seed m:List UInt8) (hs:seed.length=32) (hm:m.length≤100000):J1n seed m=some (Jko seed m):=by
 have main:∀ d,J1n_1 0 seed () () [] [] d=some ((),(),Jdp seed d 32,Je2 seed d 32):=by
  intro d
  unfold J1n_1
  have:=J5v (step:=fun (s:Int×List (List UInt8)×List (List UInt8))=>J1n_1_step s.1 seed () () s.2.1 s.2.2 d) (fun i (_:Unit)=>((i:Int),Jdp seed d i,Je2 seed d i)) (fun _ _=>()) (fun _=>((),(),Jdp seed d 32,Je2 seed d 32)) 32 (fun _ _=>True) (fun i w hi _=>⟨?_,trivial⟩) (fun w _=>?_) 32 0 () (by omega) trivial
  ·exact this
  ·show J1n_1_step (i:Int) seed () () (Jdp seed d i) (Je2 seed d i) d=_
   unfold J1n_1_step
   have hb:=Jj3 d i
   have lo:(Jdp seed d i).length=i:=by simp [Jdp]
   have ls:(Je2 seed d i).length=i:=by simp [Je2]
   rw [J5p (by omega),Jy6 d i (by omega),J5l,Jq0 seed hs i _ (by omega) (by omega),J5l,J5m (by simp; omega),J5q (by omega) (by omega),show (1:Int) - ((bitN d i:Nat):Int)=((1 - bitN d i:Nat):Int) from by omega,
    Jq0 seed hs i _ (by omega) (by omega),J5l,Jpq _ (Jc6 _ _ _),J5l,J5m (by simp; omega),J5q (by omega) (by omega)]
   unfold Jdp Je2
   rw [mapRange,mapRange]
   rfl
  ·show J1n_1_step 32 seed () () (Jdp seed d 32) (Je2 seed d 32) d=_
   unfold J1n_1_step
   rw [J5o (by omega)]
 unfold J1n
 rw [Jy9 m hm,J5l,main,J5l]
 rfl
def Jfg (d:List UInt8) (o s:List (List UInt8)) (i:Nat):List (List UInt8):=if bitN d i=0 then [pubS (o.getD i zH),s.getD i zH] else [s.getD i zH,pubS (o.getD i zH)]
def Jci (d:List UInt8) (o s:List (List UInt8)):List (List UInt8):=(List.range 32).flatMap (Jfg d o s)
def Len32 (l:List (List UInt8)):Prop:=∀ x ∈ l,x.length=32
def whoS (m:List UInt8) (x:One):List UInt8×Bool:=if x.1.length=32∧x.2.1.length=32 then (keyS (Jci (digS m) x.1 x.2.1),true) else (zH,false)
theorem Jvh (d:List UInt8) (o s:List (List UInt8)) (i:Nat):(Jfg d o s i).length=2:=by unfold Jfg; split <;> rfl
theorem Jez (d:List UInt8) (o s:List (List UInt8)):∀ n,((List.range n).flatMap (Jfg d o s)).length=2 * n
 | 0=>rfl
 | n+1=>by rw [Jde,List.length_append,Jez d o s n,Jvh]; omega
theorem Jrt (d:List UInt8) (o s:List (List UInt8)) (hs:Len32 s) (n:Nat):Len32 ((List.range n).flatMap (Jfg d o s)):=by
 intro x hx
 obtain ⟨i,_,hi⟩:=List.mem_flatMap.1 hx
 unfold Jfg at hi
 split at hi <;> simp only [List.mem_cons,List.not_mem_nil,or_false] at hi <;> rcases hi with rfl | rfl <;> first | exact Jkd _ | exact Jfm s hs i
theorem Jq1 {α:Type} (a l:List α) (k:Nat) (x:α) (n:Nat) (h:n=a.length+k):(a++l).set n x=a++l.set k x:=by
 subst h; exact Joc a l k x
theorem who_1 (d:List UInt8) (z:List UInt8) (x:One) (ho:x.1.length=32) (hs:x.2.1.length=32) (lo:Len32 x.1):J27_1 0 x z d (List.replicate 64 zH)=some (z,Jci d x.1 x.2.1):=by
 unfold J27_1
 have:=J5v (step:=fun (s:Int×List (List UInt8))=>J27_1_step s.1 x z d s.2) (fun i (_:Unit)=>((i:Int),(List.range i).flatMap (Jfg d x.1 x.2.1)++List.replicate (64 - 2 * i) zH)) (fun _ _=>()) (fun _=>(z,Jci d x.1 x.2.1)) 32 (fun _ _=>True) (fun i w hi _=>⟨?_,trivial⟩) (fun w _=>?_) 32 0 () (by omega) trivial
 ·exact this
 ·show J27_1_step (i:Int) x z d ((List.range i).flatMap (Jfg d x.1 x.2.1)++List.replicate (64 - 2 * i) zH)=_
  unfold J27_1_step
  have hb:=Jj3 d i
  have hl:=Jez d x.1 x.2.1 i
  have hlen:((List.range i).flatMap (Jfg d x.1 x.2.1)++List.replicate (64 - 2 * i) zH).length=64:=by rw [List.length_append,hl,List.length_replicate]; omega
  rw [J5p (by omega),Jy6 d i (by omega),J5l,J5m (by omega),Int.toNat_natCast,Jpq _ (Jfm _ lo i),J5l,J5m (by omega)]
  have e1:w64 (w64 (2 * (i:Int))+((bitN d i:Nat):Int))=((2 * i+bitN d i:Nat):Int):=by rw [J5q (n:=2 * (i:Int)) (by omega) (by omega),J5q (by omega) (by omega)]; omega
  have e2:w64 (w64 (w64 (2 * (i:Int))+1) - ((bitN d i:Nat):Int))=((2 * i+1 - bitN d i:Nat):Int):=by rw [J5q (n:=2 * (i:Int)) (by omega) (by omega),J5q (n:=2 * (i:Int)+1) (by omega) (by omega),J5q (by omega) (by omega)]; omega
  rw [e1,e2,hlen,J5m (by omega),List.length_set,hlen,J5m (by omega),Int.toNat_natCast,Int.toNat_natCast,J5q (by omega) (by omega),Jde]
  have hr:List.replicate (64 - 2 * i) zH=zH::zH::List.replicate (64 - 2 * (i+1)) zH:=by
   rw [show 64 - 2 * i=(64 - 2 * (i+1))+1+1 from by omega,List.replicate_succ,List.replicate_succ]
  rw [hr]
  have hw:Jfg d x.1 x.2.1 i=if bitN d i=0 then [pubS (x.1.getD i zH),x.2.1.getD i zH] else [x.2.1.getD i zH,pubS (x.1.getD i zH)]:=rfl
  rw [hw]
  rcases (show bitN d i=0∨bitN d i=1 by omega) with h0 | h0
  ·rw [h0,if_pos rfl,Jq1 _ _ 0 _ _ (by rw [hl]),Jq1 _ _ 1 _ _ (by rw [hl]; rfl),List.append_assoc]
   rfl
  ·rw [h0,if_neg (by omega),Jq1 _ _ 1 _ _ (by rw [hl]),Jq1 _ _ 0 _ _ (by rw [hl]; omega),List.append_assoc]
   rfl
 ·show J27_1_step 32 x z d _=_
  unfold J27_1_step
  rw [J5o (by omega)]
  simp [Jci]
theorem who_eq (m:List UInt8) (hm:m.length≤100000) (x:One) (lo:Len32 x.1) (ls:Len32 x.2.1):J27 m x=some (whoS m x):=by
 unfold J27 whoS
 by_cases ho:x.1.length=32
 ·rw [J82 (by omega)]
  by_cases hs:x.2.1.length=32
  ·rw [J82 (by omega),Jy9 m hm,J5l,J5m (by omega),if_pos ⟨ho,hs⟩]
   have w:=who_1 (digS m) zH x ho hs lo
   rw [show Int.toNat (64:Int)=64 from rfl,w,J5l]
   simp only
   have hk:J1u (Jci (digS m) x.1 x.2.1)=some (keyS (Jci (digS m) x.1 x.2.1)):=Jyg _ (by unfold Jci; rw [Jez]; omega) (Jrt _ _ _ ls 32)
   rw [hk]
   rfl
  ·rw [J8v (by omega),if_neg (fun h=>hs h.2)]
 ·rw [J8v (by omega),if_neg (fun h=>ho h.1)]
theorem Jq3 (seed m:List UInt8):(Jko seed m).1.length=32∧(Jko seed m).2.1.length=32∧Len32 (Jko seed m).1∧Len32 (Jko seed m).2.1:=by
 refine ⟨by simp [Jko,Jdp],by simp [Jko,Je2],fun x hx=>?_,fun x hx=>?_⟩
 ·obtain ⟨i,_,rfl⟩:=List.mem_map.1 hx; exact Jc6 _ _ _
 ·obtain ⟨i,_,rfl⟩:=List.mem_map.1 hx; exact Jkd _
theorem Jdh (f:Nat→List UInt8) (n i:Nat) (h:i < n):((List.range n).map f).getD i zH=f i:=by
 rw [List.getD_eq_getElem?_getD,List.getElem?_map,List.getElem?_range h]; rfl
def Jm7 (seed d e:List UInt8) (i:Nat):List (List UInt8):=if bitN d i=bitN e i then Jra seed i else [pubS (secS seed i 1),pubS (secS seed i 0)]
theorem Joj (seed d e:List UInt8):Jci e (Jdp seed d 32) (Je2 seed d 32)=(List.range 32).flatMap (Jm7 seed d e):=by
 unfold Jci
 have:∀ i ∈ List.range 32,Jfg e (Jdp seed d 32) (Je2 seed d 32) i=Jm7 seed d e i:=by
  intro i hi
  have hi:i < 32:=List.mem_range.1 hi
  unfold Jfg Jm7 Jdp Je2 Jra
  rw [Jdh _ 32 i hi,Jdh _ 32 i hi]
  have h1:=Jj3 d i
  have h2:=Jj3 e i
  rcases (show bitN d i=0∨bitN d i=1 by omega) with a | a <;> rcases (show bitN e i=0∨bitN e i=1 by omega) with b | b <;> simp [a,b]
 rw [Jgi this]
theorem Jy0 (seed m:List UInt8):whoS m (Jko seed m)=(KeyS seed,true):=by
 obtain ⟨h1,h2,_,_⟩:=Jq3 seed m
 unfold whoS
 rw [if_pos ⟨h1,h2⟩]
 show (keyS (Jci (digS m) (Jdp seed (digS m) 32) (Je2 seed (digS m) 32)),true)=_
 rw [Joj]
 have:∀ i ∈ List.range 32,Jm7 seed (digS m) (digS m) i=Jra seed i:=fun i _=>if_pos rfl
 rw [Jgi this]
 rfl
def Jhv:Nat→Nat→Nat→Nat
 | 0,k,n=>k
 | f+1,k,n=>if 2 * k < n then Jhv f (2 * k) n else k
def J5s (n:Nat):Nat:=Jhv 40 1 n
theorem Jk9 (k f:Nat):2 * (2 * k) * 2 ^ f=2 * k * (2 ^ f * 2):=by
 rw [Nat.mul_comm (2 ^ f) 2,← Nat.mul_assoc (2 * k) 2 (2 ^ f)]; congr 1; omega
theorem Jtm:∀ (f k n:Nat),1≤k→k < n→n≤2 * k * 2 ^ f→k≤Jhv f k n∧Jhv f k n < n∧n≤2 * Jhv f k n
 | 0,k,n,h1,h2,h3=>by
  simp only [Nat.pow_zero,Nat.mul_one] at h3
  exact ⟨Nat.le_refl _,h2,h3⟩
 | f+1,k,n,h1,h2,h3=>by
  rw [Jhv]
  split
  ·rename_i h
   have:=Jtm f (2 * k) n (by omega) h (by rw [Nat.pow_succ] at h3; rw [Jk9]; exact h3)
   exact ⟨by omega,this.2⟩
  ·exact ⟨Nat.le_refl _,h2,by omega⟩
theorem J85 (n:Nat) (h:2≤n) (h2:n≤1099511627776):1≤J5s n∧J5s n < n∧n≤2 * J5s n:=Jtm 40 1 n (by omega) (by omega) (by omega)
theorem Jlt:∀ (f k n:Nat),n≤2 * k * 2 ^ f→1≤k→n≤1073741824→k≤1073741824→J0w_1 (n:Int) (k:Int)=some ((Jhv f k n:Nat):Int)
 | 0,k,n,h,h1,h2,hk=>by
  unfold J0w_1
  refine J63 ?_
  unfold J0w_1_step
  simp only [Nat.pow_zero,Nat.mul_one] at h
  rw [J5q (by omega) (by omega),J5o (by omega)]
  rfl
 | f+1,k,n,h,h1,h2,hk=>by
  rw [Jhv]
  split
  ·rename_i hlt
   rw [← Jlt f (2 * k) n (by rw [Nat.pow_succ] at h; rw [Jk9]; exact h) (by omega) h2 (by omega)]
   have hs:J0w_1_step (n:Int) (k:Int)=some (.inl ((2 * k:Nat):Int)):=by
    unfold J0w_1_step
    rw [J5q (by omega) (by omega),J5q (by omega) (by omega),J5p (by omega),show (k:Int) * 2=((2 * k:Nat):Int) from by omega]
   unfold J0w_1
   rw [J67 hs]
  ·rename_i hlt
   unfold J0w_1
   refine J63 ?_
   unfold J0w_1_step
   rw [J5q (by omega) (by omega),J5o (by omega)]
theorem left_eq (n:Nat) (h:n≤1073741824):J0w (n:Int)=some ((J5s n:Nat):Int):=by
 unfold J0w
 rw [show (1:Int)=((1:Nat):Int) from rfl,Jlt 40 1 n (by omega) (by omega) h (by omega),J5l]
 rfl
def Jxk (l:List (List UInt8)):List UInt8:=
 if h:2≤l.length∧l.length≤1099511627776 then sha (1::(Jxk (l.take (J5s l.length))++Jxk (l.drop (J5s l.length))))
 else if l.length=0 then sha [2] else sha (0::l.getD 0 [])
termination_by l.length
decreasing_by
 ·have:=J85 l.length h.1 h.2; simp; omega
 ·have:=J85 l.length h.1 h.2; simp; omega
theorem Jpw:∃ f:List (List UInt8)→List UInt8,∀ l,f l=if h:2≤l.length∧l.length≤1099511627776 then sha (1::(f (l.take (J5s l.length))++f (l.drop (J5s l.length)))) else if l.length=0 then sha [2] else sha (0::l.getD 0 []):=
 ⟨Jxk,fun l=>by rw [Jxk]⟩
noncomputable def J76:List (List UInt8)→List UInt8:=Classical.choose Jpw
theorem Jdz (l:List (List UInt8)):J76 l=if h:2≤l.length∧l.length≤1099511627776 then sha (1::(J76 (l.take (J5s l.length))++J76 (l.drop (J5s l.length)))) else if l.length=0 then sha [2] else sha (0::l.getD 0 []):=Classical.choose_spec Jpw l
theorem J6l (l:List (List UInt8)):(J76 l).length=32:=by
 rw [Jdz]; split
 ·exact J6w _
 ·split <;> exact J6w _
def Ja6 (a b:List UInt8):List UInt8:=sha (1::(a++b))
def Jnt (x:List UInt8):List UInt8:=sha (0::x)
theorem Je0 (l:List (List UInt8)) (h:2≤l.length) (h2:l.length≤1099511627776):J76 l=Ja6 (J76 (l.take (J5s l.length))) (J76 (l.drop (J5s l.length))):=by
 rw [Jdz,dif_pos ⟨h,h2⟩]; rfl
theorem Jbu (x:List UInt8):J76 [x]=Jnt x:=by
 rw [Jdz,dif_neg (by simp),if_neg (by simp)]; rfl
theorem Jet:J76 []=sha [2]:=by
 rw [Jdz,dif_neg (by simp),if_pos (by simp)]
theorem Jjw (a b:List UInt8) (ha:a.length=32) (hb:b.length=32):J3q a b=some (Ja6 a b):=by
 unfold J3q
 have hf:[a,b].flatten=a++b:=by simp
 rw [J72 _ _ (by rw [hf,List.length_append]; omega) (by simp),hf]
 rfl
def Small (l:List (List UInt8)):Prop:=∀ x ∈ l,x.length≤1000000
theorem J96 {l:List (List UInt8)} (h:Small l) (n:Nat):Small (l.take n):=fun x hx=>h x (List.mem_of_mem_take hx)
theorem J95 {l:List (List UInt8)} (h:Small l) (n:Nat):Small (l.drop n):=fun x hx=>h x (List.mem_of_mem_drop hx)
theorem Jhe:∀ (k:Nat) (l:List (List UInt8)),l.length < k→l.length≤1000→Small l→J1h_f k l=some (J76 l)
 | 0,l,h,_,_=>by omega
 | k+1,l,h,h2,hl=>by
  rw [J1h_f]
  match l,h,h2,hl with
  | [],h,h2,hl=>
   rw [J5p (by simp),J72 _ _ (by simp) (by simp),Jet]; rfl
  | [x],h,h2,hl=>
   have hx:=hl x (by simp)
   have hf:[List.getD [x] (Int.toNat (0:Int)) []].flatten=x:=by simp
   rw [J5o (by simp),J5p (by simp),J5m (by simp),J72 _ _ (by rw [hf]; omega) (by simp),hf,Jbu]; rfl
  | x::y::r,h,h2,hl=>
   have hn:2≤(x::y::r).length:=by simp
   generalize x::y::r=l at h h2 hl hn
   obtain ⟨b1,b2,b3⟩:=J85 l.length hn (by omega)
   rw [J5o (by omega),J5o (by omega),left_eq _ (by omega),J5l,J5m (by omega),Jcc,J8m,Int.toNat_natCast,Jhe k (l.take (J5s l.length)) (by rw [List.length_take]; omega) (by rw [List.length_take]; omega) (J96 hl _),J5l,J5m (by omega),
    Jhe k (l.drop (J5s l.length)) (by rw [List.length_drop]; omega) (by rw [List.length_drop]; omega) (J95 hl _),J5l,Jjw _ _ (J6l _) (J6l _),J5l,Je0 l hn (by omega)]
theorem Jki (l:List (List UInt8)) (h:l.length < 64) (hl:Small l):J1h l=some (J76 l):=Jhe 64 l h (by omega) hl
noncomputable def Ja9:Nat→List (List UInt8)→Nat→List (List UInt8)
 | 0,_,_=>[]
 | f+1,l,i=>if l.length≤1 then [] else if i < J5s l.length then Ja9 f (l.take (J5s l.length)) i++[J76 (l.drop (J5s l.length))]
   else Ja9 f (l.drop (J5s l.length)) (i - J5s l.length)++[J76 (l.take (J5s l.length))]
def J65:Nat→Nat→Nat→List Bool
 | 0,_,_=>[]
 | f+1,i,n=>if n≤1 then [] else if i < J5s n then true::J65 f i (J5s n) else false::J65 f (i - J5s n) (n - J5s n)
theorem J94:∀ (f:Nat) (l:List (List UInt8)) (i:Nat),l.length≤1000→(Ja9 f l i).length=(J65 f i l.length).length
 | 0,_,_,_=>rfl
 | f+1,l,i,h=>by
  rw [Ja9,J65]
  by_cases h1:l.length≤1
  ·rw [if_pos h1,if_pos h1]; rfl
  ·obtain ⟨b1,b2,b3⟩:=J85 l.length (by omega) (by omega)
   rw [if_neg h1,if_neg h1]
   by_cases hi:i < J5s l.length
   ·rw [if_pos hi,if_pos hi,List.length_append,J94 f _ _ (by rw [List.length_take]; omega),List.length_take,Nat.min_eq_left (by omega)]; simp
   ·rw [if_neg hi,if_neg hi,List.length_append,J94 f _ _ (by rw [List.length_drop]; omega),List.length_drop]; simp
theorem Jds:∀ (f:Nat) (l:List (List UInt8)) (i:Nat),(Ja9 f l i).length≤f
 | 0,_,_=>by simp [Ja9]
 | f+1,l,i=>by
  rw [Ja9]; split
  ·simp
  ·split
   ·have:=Jds f (l.take (J5s l.length)) i; simp; omega
   ·have:=Jds f (l.drop (J5s l.length)) (i - J5s l.length); simp; omega
theorem Jft:∀ (f:Nat) (l:List (List UInt8)) (i:Nat),∀ x ∈ Ja9 f l i,x.length=32
 | 0,_,_,x,hx=>by simp [Ja9] at hx
 | f+1,l,i,x,hx=>by
  rw [Ja9] at hx; split at hx
  ·simp at hx
  ·split at hx
   ·rcases List.mem_append.1 hx with h | h
    ·exact Jft f _ _ x h
    ·simp at h; rw [h]; exact J6l _
   ·rcases List.mem_append.1 hx with h | h
    ·exact Jft f _ _ x h
    ·simp at h; rw [h]; exact J6l _
abbrev zT:List UInt8:=List.replicate 32 (0:UInt8)
def Jdx (a:List (List UInt8)) (i:Nat):List (List UInt8):=(List.range a.length).map fun j=>if j < i∨a.length - 1 - i < j then a.getD (a.length - 1 - j) zT else a.getD j zT
theorem J86 (a:List (List UInt8)) (i:Nat):(Jdx a i).length=a.length:=by simp [Jdx]
theorem Jab (a:List (List UInt8)) (i j:Nat) (h:j < a.length):(Jdx a i).getD j zT=if j < i∨a.length - 1 - i < j then a.getD (a.length - 1 - j) zT else a.getD j zT:=by
 unfold Jdx
 rw [List.getD_eq_getElem?_getD,List.getElem?_map,List.getElem?_range h]; rfl
theorem Jjj {a b:List (List UInt8)} (hl:a.length=b.length) (h:∀ j,j < a.length→a.getD j zT=b.getD j zT):a=b:=by
 apply List.ext_getElem hl
 intro j h1 h2
 have:=h j h1
 rw [List.getD_eq_getElem?_getD,List.getD_eq_getElem?_getD,List.getElem?_eq_getElem h1,List.getElem?_eq_getElem h2] at this
 exact this
theorem Jfo (a:List (List UInt8)) (i j:Nat) (x:List UInt8) (h:i < a.length):(a.set i x).getD j zT=if i=j then x else a.getD j zT:=by
 rw [List.getD_eq_getElem?_getD,List.getElem?_set,List.getD_eq_getElem?_getD]
 split
 ·rename_i e; subst e; simp [h]
 ·rfl
theorem Jrf (a:List (List UInt8)) (i:Nat) (h:i < a.length - 1 - i):((Jdx a i).set i ((Jdx a i).getD (a.length - 1 - i) zT)).set (a.length - 1 - i) ((Jdx a i).getD i zT)=Jdx a (i+1):=by
 apply Jjj (by simp [J86])
 intro j hj
 rw [List.length_set,List.length_set,J86] at hj
 rw [Jfo _ _ _ _ (by rw [List.length_set,J86]; omega),Jfo _ _ _ _ (by rw [J86]; omega),Jab a i _ (by omega),Jab a i _ (by omega),Jab a i j hj,Jab a (i+1) j hj]
 rw [if_neg (show ¬ (i < i∨a.length - 1 - i < i) by omega),if_neg (show ¬ (a.length - 1 - i < i∨a.length - 1 - i < a.length - 1 - i) by omega)]
 by_cases e1:a.length - 1 - i=j
 ·rw [if_pos e1,if_pos (by omega)]; congr 1; omega
 ·rw [if_neg e1]
  by_cases e2:i=j
  ·rw [if_pos e2,if_pos (by omega)]; congr 1; omega
  ·rw [if_neg e2]
   by_cases e3:j < i∨a.length - 1 - i < j
   ·rw [if_pos e3,if_pos (by omega)]
   ·rw [if_neg e3,if_neg (by omega)]
theorem rev_eq (a:List (List UInt8)) (ha:a.length≤1000000):Jd a=some a.reverse:=by
 have main:Jd_1 0 ((a.length:Int) - 1) a=some (Jdx a (a.length / 2)):=by
  have h0:Jdx a 0=a:=by
   apply Jjj (J86 a 0)
   intro j hj
   rw [J86] at hj
   rw [Jab a 0 j hj,if_neg (by omega)]
  unfold Jd_1
  have:=J5v (step:=fun (s:Int×Int×List (List UInt8))=>Jd_1_step s.1 s.2.1 s.2.2) (fun i (_:Unit)=>((i:Int),(a.length:Int) - 1 - (i:Int),Jdx a i)) (fun _ _=>()) (fun _=>Jdx a (a.length / 2)) (a.length / 2) (fun _ _=>True) (fun i w hi _=>⟨?_,trivial⟩) (fun w _=>?_) (a.length / 2) 0 () (by omega) trivial
  ·rw [h0] at this
   simpa using this
  ·show Jd_1_step (i:Int) ((a.length:Int) - 1 - (i:Int)) (Jdx a i)=_
   unfold Jd_1_step
   have hl:=J86 a i
   have e1:Int.toNat ((a.length:Int) - 1 - (i:Int))=a.length - 1 - i:=by omega
   rw [J5p (by omega),J5m (by omega),J5m (by omega),List.length_set,J5m (by omega),e1,Int.toNat_natCast,J5q (by omega) (by omega),J5q (by omega) (by omega),Jrf a i (by omega),show (a.length:Int) - 1 - (i:Int) - 1=(a.length:Int) - 1 - ((i+1:Nat):Int) from by omega]
   rfl
  ·show Jd_1_step ((a.length / 2:Nat):Int) ((a.length:Int) - 1 - ((a.length / 2:Nat):Int)) (Jdx a (a.length / 2))=_
   unfold Jd_1_step
   rw [J5o (by omega)]
 unfold Jd
 rw [J5q (by omega) (by omega),main,J5l]
 congr 1
 apply Jjj (by rw [J86,List.length_reverse])
 intro j hj
 rw [J86] at hj
 rw [Jab a _ j hj]
 have hr:a.reverse.getD j zT=a.getD (a.length - 1 - j) zT:=by
  rw [List.getD_eq_getElem?_getD,List.getElem?_reverse hj,List.getD_eq_getElem?_getD]
 rw [hr]
 split
 ·rfl
 ·congr 1; omega
theorem Jh6:∀ (f:Nat) (l:List (List UInt8)) (i:Nat) (acc:List (List UInt8)),l.length≤f+1→l.length < 64→i < l.length∨l.length=0→acc.length≤1000 - f→f≤100→Small l→J0o_1 l (i:Int) acc=some (acc++(Ja9 f l i).reverse)
 | 0,l,i,acc,h,h2,hi,ha,hf,hs=>by
  unfold J0o_1
  refine J63 ?_
  unfold J0o_1_step
  rw [J5o (by show ¬ (1:Int) < (l.length:Int); omega)]
  simp [Ja9]
 | f+1,l,i,acc,h,h2,hi,ha,hf,hs=>by
  by_cases h1:l.length≤1
  ·rw [Ja9,if_pos h1]
   unfold J0o_1
   refine J63 ?_
   unfold J0o_1_step
   rw [J5o (by show ¬ (1:Int) < (l.length:Int); omega)]
   simp
  ·obtain ⟨b1,b2,b3⟩:=J85 l.length (by omega) (by omega)
   rw [Ja9,if_neg h1]
   by_cases hl:i < J5s l.length
   ·rw [if_pos hl,List.reverse_append,List.reverse_singleton,← List.append_assoc]
    have hst:J0o_1_step l (i:Int) acc=some (.inl (l.take (J5s l.length),(i:Int),acc++[J76 (l.drop (J5s l.length))])):=by
     unfold J0o_1_step
     rw [J5p (by omega),left_eq _ (by omega),J5l,J5p (by omega),J5m (by omega),J8m,Jcc,Int.toNat_natCast,Jki _ (by rw [List.length_drop]; omega) (J95 hs _),J5l,J5m (by simp; omega),J5m (by omega)]
    rw [← Jh6 f (l.take (J5s l.length)) i (acc++[J76 (l.drop (J5s l.length))]) (by rw [List.length_take]; omega) (by rw [List.length_take]; omega) (by rw [List.length_take]; omega) (by simp; omega) (by omega) (J96 hs _)]
    unfold J0o_1
    rw [J67 hst]
   ·rw [if_neg hl,List.reverse_append,List.reverse_singleton,← List.append_assoc]
    have hst:J0o_1_step l (i:Int) acc=some (.inl (l.drop (J5s l.length),((i - J5s l.length:Nat):Int),acc++[J76 (l.take (J5s l.length))])):=by
     unfold J0o_1_step
     rw [J5p (by omega),left_eq _ (by omega),J5l,J5o (by omega),J5m (by omega),J8m,Jcc,Int.toNat_natCast,Jki _ (by rw [List.length_take]; omega) (J96 hs _),J5l,J5m (by simp; omega),J5m (by omega),J5q (by omega) (by omega),
      show (i:Int) - ((J5s l.length:Nat):Int)=((i - J5s l.length:Nat):Int) from by omega]
    rw [← Jh6 f (l.drop (J5s l.length)) (i - J5s l.length) (acc++[J76 (l.take (J5s l.length))]) (by rw [List.length_drop]; omega) (by rw [List.length_drop]; omega) (by rw [List.length_drop]; omega) (by simp; omega) (by omega) (J95 hs _)]
    unfold J0o_1
    rw [J67 hst]
noncomputable def Jba (l:List (List UInt8)) (i:Int):List (List UInt8):=if 0≤i∧i < (l.length:Int) then Ja9 l.length l i.toNat else []
theorem Juc (l:List (List UInt8)) (i:Int) (h:l.length < 64) (hs:Small l):J0o l i=some (Jba l i):=by
 unfold J0o Jba
 by_cases h0:i < 0
 ·rw [J5p h0,if_neg (by omega)]
 ·rw [J5o h0]
  by_cases h1:(l.length:Int)≤i
  ·rw [J5p h1,if_neg (by omega)]
  ·rw [J5o h1,if_pos (by omega)]
   obtain ⟨k,rfl⟩:=Int.eq_ofNat_of_zero_le (show 0≤i by omega)
   have hl:=Jds l.length l k
   rw [Jh6 l.length l k [] (by omega) h (by omega) (by simp) (by omega) hs,J5l]
   simp only [List.nil_append]
   rw [rev_eq _ (by rw [List.length_reverse]; omega),List.reverse_reverse]
   rfl
theorem Jew:∀ (f i n:Nat) (acc:List Bool),n≤f+1→n≤1073741824→i < n∨n=0→acc.length≤10000000 - f→f≤5000000→J0i_1 (i:Int) (n:Int) acc=some (acc++J65 f i n)
 | 0,i,n,acc,h,h2,hi,ha,hf=>by
  unfold J0i_1
  refine J63 ?_
  unfold J0i_1_step
  rw [J5o (by show ¬ (1:Int) < (n:Int); omega)]
  simp [J65]
 | f+1,i,n,acc,h,h2,hi,ha,hf=>by
  by_cases h1:n≤1
  ·rw [J65,if_pos h1]
   unfold J0i_1
   refine J63 ?_
   unfold J0i_1_step
   rw [J5o (by show ¬ (1:Int) < (n:Int); omega)]
   simp
  ·obtain ⟨b1,b2,b3⟩:=J85 n (by omega) (by omega)
   rw [J65,if_neg h1]
   by_cases hl:i < J5s n
   ·rw [if_pos hl,show acc++true::J65 f i (J5s n)=(acc++[true])++J65 f i (J5s n) from by simp]
    have hst:J0i_1_step (i:Int) (n:Int) acc=some (.inl ((i:Int),((J5s n:Nat):Int),acc++[true])):=by
     unfold J0i_1_step
     rw [J5p (by omega),left_eq _ (by omega),J5l,J5m (by simp; omega),decide_eq_true (show (i:Int) < ((J5s n:Nat):Int) by omega),J74]
    rw [← Jew f i (J5s n) (acc++[true]) (by omega) (by omega) (by omega) (by simp; omega) (by omega)]
    unfold J0i_1
    rw [J67 hst]
   ·rw [if_neg hl,show acc++false::J65 f (i - J5s n) (n - J5s n)=(acc++[false])++J65 f (i - J5s n) (n - J5s n) from by simp]
    have hst:J0i_1_step (i:Int) (n:Int) acc=some (.inl (((i - J5s n:Nat):Int),((n - J5s n:Nat):Int),acc++[false])):=by
     unfold J0i_1_step
     rw [J5p (by omega),left_eq _ (by omega),J5l,J5m (by simp; omega),decide_eq_false (show ¬ (i:Int) < ((J5s n:Nat):Int) by omega),J60,J5q (by omega) (by omega),J5q (by omega) (by omega),
      show (i:Int) - ((J5s n:Nat):Int)=((i - J5s n:Nat):Int) from by omega,show (n:Int) - ((J5s n:Nat):Int)=((n - J5s n:Nat):Int) from by omega]
    rw [← Jew f (i - J5s n) (n - J5s n) (acc++[false]) (by omega) (by omega) (by omega) (by simp; omega) (by omega)]
    unfold J0i_1
    rw [J67 hst]
theorem Jq2 (i n:Nat) (h:i < n) (hn:n≤1000000):J0i (i:Int) (n:Int)=some (J65 n i n):=by
 unfold J0i
 rw [Jew n i n [] (by omega) (by omega) (by omega) (by simp) (by omega),J5l]
 rfl
def isS (i n:Int):Bool:=decide (0≤i) && (decide (i < n) && decide (n≤1048576))
theorem is_eq (i n:Int):J54 i n=some (isS i n):=by
 unfold J54 isS
 simp only [Jfl]
 cases decide (0≤i) <;> cases decide (i < n) <;> simp
theorem Jcq (i n:Int):isS i n=true↔0≤i∧i < n∧n≤1048576:=by
 unfold isS; simp
theorem Jw5 (i n:Int) (hn:n≤1000000∨1048576 < n):J4x i n=some (if isS i n then ((J65 n.toNat i.toNat n.toNat).length:Int) else -1):=by
 unfold J4x
 rw [is_eq,J5l]
 cases h:isS i n with
 | false=>rfl
 | true=>
  obtain ⟨h1,h2,h3⟩:=(Jcq i n).1 h
  obtain ⟨a,rfl⟩:=Int.eq_ofNat_of_zero_le h1
  obtain ⟨b,rfl⟩:=Int.eq_ofNat_of_zero_le (show 0≤n by omega)
  rw [show (!true)=false from rfl,J60,Jq2 a b (by omega) (by omega),J5l]
  rfl
def Ja4:List Bool→List (List UInt8)→List UInt8→List UInt8
 | b::bs,p::ps,h=>Ja4 bs ps (if b then Ja6 h p else Ja6 p h)
 | _,_,h=>h
theorem J7u:∀ (bs:List Bool) (ps:List (List UInt8)) (h:List UInt8) (b:Bool) (p:List UInt8),bs.length=ps.length→Ja4 (bs++[b]) (ps++[p]) h=if b then Ja6 (Ja4 bs ps h) p else Ja6 p (Ja4 bs ps h)
 | [],[],h,b,p,_=>rfl
 | x::bs,y::ps,h,b,p,e=>by
  show Ja4 (bs++[b]) (ps++[p]) _=_
  rw [J7u bs ps _ b p (by simpa using e)]
  rfl
 | [],_::_,_,_,_,e=>by simp at e
 | _::_,[],_,_,_,e=>by simp at e
theorem Jfi:∀ (bs:List Bool) (ps:List (List UInt8)) (h:List UInt8),h.length=32→(Ja4 bs ps h).length=32
 | [],_,h,e=>by simpa [Ja4] using e
 | _::_,[],h,e=>by simpa [Ja4] using e
 | b::bs,p::ps,h,e=>by
  rw [Ja4]
  exact Jfi bs ps _ (by split <;> exact J6w _)
theorem Jqn (bs:List Bool) (ps:List (List UInt8)) (h:List UInt8) (i:Nat) (h1:i < bs.length) (h2:i < ps.length) :
  Ja4 (bs.take (i+1)) (ps.take (i+1)) h=if bs.getD i false then Ja6 (Ja4 (bs.take i) (ps.take i) h) (ps.getD i zT) else Ja6 (ps.getD i zT) (Ja4 (bs.take i) (ps.take i) h):=by
 rw [List.take_add_one,List.take_add_one,List.getElem?_eq_getElem h1,List.getElem?_eq_getElem h2,Option.toList_some,Option.toList_some,J7u _ _ _ _ _ (by simp; omega)]
 rw [List.getD_eq_getElem?_getD,List.getElem?_eq_getElem h1,List.getD_eq_getElem?_getD,List.getElem?_eq_getElem h2]
 rfl
theorem Kt (z h:List UInt8) (l:List Bool) (p:List (List UInt8)) (hl:l.length=p.length) (hp:∀ x ∈ p,x.length=32) (hh:h.length=32) (hb:p.length≤100000):J1x_1 p (p.length:Int) 0 z h l=some (z,Ja4 l.reverse p h):=by
 unfold J1x_1
 have:=J5v (step:=fun (s:Int×List UInt8)=>J1x_1_step p (p.length:Int) s.1 z s.2 l) (fun i (_:Unit)=>((i:Int),Ja4 (l.reverse.take i) (p.take i) h)) (fun _ _=>()) (fun _=>(z,Ja4 l.reverse p h)) p.length (fun _ _=>True) (fun i w hi _=>⟨?_,trivial⟩) (fun w _=>?_) p.length 0 () (by omega) trivial
 ·exact this
 ·show J1x_1_step p (p.length:Int) (i:Int) z (Ja4 (l.reverse.take i) (p.take i) h) l=_
  unfold J1x_1_step
  have hg:(p.getD i (List.replicate 32 0)).length=32:=by
   rw [List.getD_eq_getElem?_getD,List.getElem?_eq_getElem hi]; exact hp _ (List.getElem_mem _)
  have hc:=Jfi (l.reverse.take i) (p.take i) h hh
  have hr:l.getD (l.length - 1 - i) false=l.reverse.getD i false:=by
   rw [List.getD_eq_getElem?_getD,List.getD_eq_getElem?_getD,List.getElem?_reverse (by omega)]
  rw [J5p (by omega),J5m (by omega),J5q (n:=(l.length:Int) - 1) (by omega) (by omega),J5q (by omega) (by omega),J5m (by omega),show Int.toNat ((l.length:Int) - 1 - (i:Int))=l.length - 1 - i from by omega,hr,Int.toNat_natCast,Jjw _ _ hc hg,Jjw _ _ hg hc,J5l,J5l,J5q (by omega) (by omega),
   Jqn _ _ _ _ (by rw [List.length_reverse]; omega) hi]
  cases l.reverse.getD i false <;> rfl
 ·show J1x_1_step p (p.length:Int) (p.length:Int) z _ l=_
  unfold J1x_1_step
  rw [J5o (by omega),List.take_of_length_le (Nat.le_refl _),List.take_of_length_le (by rw [List.length_reverse]; omega)]
def upS (leaf:List UInt8) (i n:Int) (p:List (List UInt8)):List UInt8×Bool:=
 if isS i n∧p.length=(J65 n.toNat i.toNat n.toNat).length then (Ja4 (J65 n.toNat i.toNat n.toNat).reverse p (Jnt leaf),true) else (zT,false)
theorem up_eq (leaf:List UInt8) (hf:leaf.length≤1000000) (i n:Int) (hn:n≤1000000) (p:List (List UInt8)) (hp:∀ x ∈ p,x.length=32) (hb:p.length≤100000):J1x leaf i n p=some (upS leaf i n p):=by
 unfold J1x upS
 rw [is_eq,J5l]
 cases h:isS i n with
 | false=>rw [if_neg (by simp)]; rfl
 | true=>
  obtain ⟨h1,h2,h3⟩:=(Jcq i n).1 h
  rw [show (!true)=false from rfl,J60,Jw5 i n (.inl hn),h,if_pos rfl,J5l]
  by_cases e:p.length=(J65 n.toNat i.toNat n.toNat).length
  ·rw [J82 (by omega),if_pos ⟨rfl,e⟩,Jki [leaf] (by simp) (by intro x hx; simp at hx; rw [hx]; exact hf),J5l]
   have hsd:=Jq2 i.toNat n.toNat (by omega) (by omega)
   rw [show ((i.toNat:Nat):Int)=i from by omega,show ((n.toNat:Nat):Int)=n from by omega] at hsd
   rw [hsd,J5l,Kt _ _ _ _ e.symm hp (J6l _) hb,J5l,Jbu]
  ·rw [J8v (by omega),if_neg (fun h=>e h.2)]
theorem Jk7:∀ (f:Nat) (l:List (List UInt8)) (i:Nat),i < l.length→l.length≤f+1→l.length≤1000→Ja4 (J65 f i l.length).reverse (Ja9 f l i) (Jnt (l.getD i []))=J76 l
 | 0,l,i,hi,h,h2=>by
  match l,hi,h with
  | [x],hi,h=>
   have:i=0:=by simp at hi; exact hi
   subst this
   rw [Jbu]; rfl
 | f+1,l,i,hi,h,h2=>by
  rw [J65,Ja9]
  by_cases h1:l.length≤1
  ·rw [if_pos h1,if_pos h1]
   match l,hi,h1 with
   | [x],hi,h1=>
    have:i=0:=by simp at hi; exact hi
    subst this
    rw [Jbu]; rfl
  ·obtain ⟨b1,b2,b3⟩:=J85 l.length (by omega) (by omega)
   rw [if_neg h1,if_neg h1,Je0 l (by omega) (by omega)]
   by_cases hl:i < J5s l.length
   ·rw [if_pos hl,if_pos hl,List.reverse_cons,J7u _ _ _ _ _ (by rw [List.length_reverse,J94 f _ _ (by rw [List.length_take]; omega),List.length_take,Nat.min_eq_left (by omega)]),if_pos rfl]
    have ih:=Jk7 f (l.take (J5s l.length)) i (by rw [List.length_take]; omega) (by rw [List.length_take]; omega) (by rw [List.length_take]; omega)
    rw [List.length_take,Nat.min_eq_left (by omega)] at ih
    have hg:(l.take (J5s l.length)).getD i []=l.getD i []:=by
     rw [List.getD_eq_getElem?_getD,List.getD_eq_getElem?_getD,List.getElem?_take_of_lt hl]
    rw [hg] at ih
    rw [ih]
   ·rw [if_neg hl,if_neg hl,List.reverse_cons,J7u _ _ _ _ _ (by rw [List.length_reverse,J94 f _ _ (by rw [List.length_drop]; omega),List.length_drop]),if_neg (by simp)]
    have ih:=Jk7 f (l.drop (J5s l.length)) (i - J5s l.length) (by rw [List.length_drop]; omega) (by rw [List.length_drop]; omega) (by rw [List.length_drop]; omega)
    rw [List.length_drop] at ih
    have hg:(l.drop (J5s l.length)).getD (i - J5s l.length) []=l.getD i []:=by
     rw [List.getD_eq_getElem?_getD,List.getD_eq_getElem?_getD,List.getElem?_drop]; congr 2; omega
    rw [hg] at ih
    rw [ih]
def Jhg (seed:List UInt8) (h:Nat):List UInt8:=sha (114::(seed++[UInt8.ofNat h]))
def Jem (seed:List UInt8) (n:Nat):List (List UInt8):=(List.range n).map fun i=>KeyS (Jhg seed (i+1))
def J8c (seed:List UInt8):List (List UInt8):=Jem seed 16
noncomputable def Jif (seed:List UInt8):List UInt8:=J76 (J8c seed)
abbrev Sig:=Int×One×List (List UInt8)×Unit
noncomputable def byS (keys:List (List UInt8)) (seed:List UInt8) (h:Int) (m:List UInt8):Sig:=(h,Jko (Jhg seed h.toNat) m,Jba keys (h - 1),())
def noSig:Sig:=(0,([],[],()),[],())
def isH (h:Int):Bool:=decide (1≤h) && decide (h≤16)
def verS (id:List UInt8) (j:Int) (m:List UInt8) (s:Sig):Bool:=
 isH j && (decide (s.1=j) && ((whoS m s.2.1).2 && ((upS (whoS m s.2.1).1 (j - 1) 16 s.2.2.1).2 && Ty.beq (.arr 32 (.int .u8)) (upS (whoS m s.2.1).1 (j - 1) 16 s.2.2.1).1 id)))
theorem Jhh (seed:List UInt8) (h:Nat):(Jhg seed h).length=32:=J6w _
theorem Jvm (seed:List UInt8):(KeyS seed).length=32:=Jp6 _
theorem Jrv (seed:List UInt8) (hs:seed.length=32) (h:Nat):J4m seed (h:Int)=some (Jhg seed h):=by
 unfold J4m
 have hf:[seed,[UInt8.ofNat (Int.toNat ((h:Int) % 256))]].flatten=seed++[UInt8.ofNat h]:=by
  rw [J8a]; simp
 rw [J72 _ _ (by rw [hf]; simp; omega) (by simp),hf]
 rfl
theorem Jgm (seed:List UInt8) (n:Nat):(Jem seed n).length=n:=by simp [Jem]
theorem Jwq (seed:List UInt8) (n:Nat):Len32 (Jem seed n):=by
 intro x hx
 obtain ⟨i,_,rfl⟩:=List.mem_map.1 hx
 exact Jvm _
theorem J84 (seed:List UInt8):(J8c seed).length=16:=Jgm _ _
theorem Jgn (seed:List UInt8):Small (J8c seed):=fun x hx=>by rw [Jwq seed 16 x hx]; omega
theorem Jwr (seed:List UInt8) (i:Nat) (h:i < 16):(J8c seed).getD i []=KeyS (Jhg seed (i+1)):=by
 unfold J8c Jem
 rw [List.getD_eq_getElem?_getD,List.getElem?_map,List.getElem?_range h]; rfl
theorem Jyv (seed:List UInt8) (hs:seed.length=32):J1a seed=some (J8c seed):=by
 have main:J1a_1 1 seed []=some (J8c seed):=by
  unfold J1a_1
  have:=J5v (step:=fun (s:Int×List (List UInt8))=>J1a_1_step s.1 seed s.2) (fun i (_:Unit)=>(((i+1:Nat):Int),Jem seed i)) (fun _ _=>()) (fun _=>J8c seed) 16 (fun _ _=>True) (fun i w hi _=>⟨?_,trivial⟩) (fun w _=>?_) 16 0 () (by omega) trivial
  ·exact this
  ·show J1a_1_step ((i+1:Nat):Int) seed (Jem seed i)=_
   unfold J1a_1_step
   have hl:=Jgm seed i
   rw [J5p (by omega),Jrv seed hs,J5l,Key_eq _ (Jhh _ _),J5l,J5m (by simp; omega),J5q (by omega) (by omega)]
   unfold Jem
   rw [mapRange]
   rfl
  ·show J1a_1_step 17 seed (Jem seed 16)=_
   unfold J1a_1_step
   rw [J5o (by omega)]
   rfl
 unfold J1a
 rw [main]
 rfl
theorem Jye (h:Int):J53 h=some (isH h):=by
 unfold J53 isH
 by_cases c:1≤h
 ·rw [J5p c,decide_eq_true c]; rfl
 ·rw [J5o c,decide_eq_false c]; rfl
theorem isH_t {h:Int} (h1:1≤h) (h2:h≤16):isH h=true:=by unfold isH; rw [decide_eq_true h1,decide_eq_true h2]; rfl
theorem Jzj {h:Int}:isH h=true↔1≤h∧h≤16:=by unfold isH; rw [Bool.and_eq_true,decide_eq_true_eq,decide_eq_true_eq]
theorem By_eq (keys:List (List UInt8)) (hk:keys.length < 64) (hks:Small keys) (seed m:List UInt8) (hs:seed.length=32) (h:Int) (h1:1≤h) (h2:h≤16) (hm:m.length≤100000):J5e keys seed h m=some (byS keys seed h m):=by
 obtain ⟨k,rfl⟩:=Int.eq_ofNat_of_zero_le (show 0≤h by omega)
 unfold J5e byS
 rw [Jye,isH_t h1 h2,J5l,show (!true)=false from rfl,J60,Jrv seed hs,J5l,Kl _ m (Jhh _ _) hm,J5l,J5q (by omega) (by omega),Juc keys _ hk hks,J5l,Int.toNat_natCast]
noncomputable def sigS (seed:List UInt8) (h:Int) (m:List UInt8):Sig:=byS (J8c seed) seed h m
theorem Jxz (m:List UInt8) (x:One):(whoS m x).1.length=32:=by
 unfold whoS
 split
 ·exact Jp6 _
 ·rfl
def Jqh (s:Sig):Prop:=Len32 s.2.1.1∧Len32 s.2.1.2.1∧Len32 s.2.2.1∧s.2.2.1.length≤100000
theorem Ver_eq (id:List UInt8) (j:Int) (m:List UInt8) (hm:m.length≤100000) (s:Sig) (hs:Jqh s):J4f id j m s=some (verS id j m s):=by
 obtain ⟨s1,s2,s3,s4⟩:=hs
 unfold J4f verS
 rw [Jye,J5l]
 cases hj:isH j with
 | false=>rfl
 | true=>
  obtain ⟨j1,j2⟩:=Jzj.1 hj
  rw [show (!true)=false from rfl,J60,Bool.true_and]
  by_cases c:s.1=j
  ·rw [J82 c,decide_eq_true c,Bool.true_and,who_eq m hm s.2.1 s1 s2,J5l]
   cases (whoS m s.2.1).2 with
   | false=>rfl
   | true=>
    rw [show (!true)=false from rfl,J60,Bool.true_and,J5q (by omega) (by omega),up_eq _ (by rw [Jxz]; omega) _ _ (by omega) _ s3 s4,J5l]
    cases (upS (whoS m s.2.1).1 (j - 1) 16 s.2.2.1).2 <;> rfl
  ·rw [J8v c,decide_eq_false c]; rfl
theorem Jux:∀ i,i < 16→(J65 16 i 16).length=4:=by decide
theorem Jyl (seed:List UInt8) (h:Int) (h1:1≤h) (h2:h≤16):Jba (J8c seed) (h - 1)=Ja9 16 (J8c seed) (h - 1).toNat∧(Jba (J8c seed) (h - 1)).length=4∧Len32 (Jba (J8c seed) (h - 1)):=by
 have e:Jba (J8c seed) (h - 1)=Ja9 16 (J8c seed) (h - 1).toNat:=by
  unfold Jba
  rw [J84,if_pos (by omega)]
 rw [e]
 refine ⟨rfl,?_,Jft _ _ _⟩
 rw [J94 _ _ _ (by rw [J84]; omega),J84,Jux _ (by omega)]
theorem sig_ok (seed:List UInt8) (h:Int) (h1:1≤h) (h2:h≤16) (m:List UInt8):Jqh (sigS seed h m):=by
 obtain ⟨_,_,a,b⟩:=Jq3 (Jhg seed h.toNat) m
 obtain ⟨_,p1,p2⟩:=Jyl seed h h1 h2
 exact ⟨a,b,p2,by show (Jba (J8c seed) (h - 1)).length≤100000; omega⟩
theorem Jwx:Jqh noSig:=⟨(fun x hx=>nomatch hx),(fun x hx=>nomatch hx),(fun x hx=>nomatch hx),by show (0:Nat)≤100000; omega⟩
theorem Kw (id seed:List UInt8) (h:Int) (h1:1≤h) (h2:h≤16) (m:List UInt8):verS id h m (sigS seed h m)=Ty.beq (.arr 32 (.int .u8)) (Jif seed) id:=by
 obtain ⟨p0,p1,p2⟩:=Jyl seed h h1 h2
 have hw:whoS m (sigS seed h m).2.1=(KeyS (Jhg seed h.toNat),true):=Jy0 _ _
 have hk:KeyS (Jhg seed h.toNat)=(J8c seed).getD (h - 1).toNat []:=by
  rw [Jwr seed _ (by omega),show (h - 1).toNat+1=h.toNat from by omega]
 have hup:upS (KeyS (Jhg seed h.toNat)) (h - 1) 16 (sigS seed h m).2.2.1=(Jif seed,true):=by
  show upS (KeyS (Jhg seed h.toNat)) (h - 1) 16 (Jba (J8c seed) (h - 1))=_
  unfold upS
  have e16:(16:Int).toNat=16:=rfl
  rw [e16,if_pos ⟨(Jcq _ _).2 (by omega),by rw [p1,Jux _ (by omega)]⟩,p0,hk]
  have:=Jk7 16 (J8c seed) (h - 1).toNat (by rw [J84]; omega) (by rw [J84]; omega) (by rw [J84]; omega)
  rw [J84] at this
  rw [this]
  rfl
 unfold verS
 rw [hw,isH_t h1 h2]
 simp only
 rw [hup,decide_eq_true (show (sigS seed h m).1=h from rfl)]
 rfl
set_option maxRecDepth 100000
theorem J7n (x:UInt32) (n:Nat):UInt32.ofNat (x.toNat >>> n) ||| UInt32.ofNat (x.toNat <<< (32 - n))=rotr x n:=UInt32.or_comm _ _
theorem turn7 (x:UInt32):Jm x 7=some (rotr x 7):=congrArg some (J7n x 7)
theorem turn18 (x:UInt32):Jm x 18=some (rotr x 18):=congrArg some (J7n x 18)
theorem turn17 (x:UInt32):Jm x 17=some (rotr x 17):=congrArg some (J7n x 17)
theorem turn19 (x:UInt32):Jm x 19=some (rotr x 19):=congrArg some (J7n x 19)
theorem turn6 (x:UInt32):Jm x 6=some (rotr x 6):=congrArg some (J7n x 6)
theorem turn11 (x:UInt32):Jm x 11=some (rotr x 11):=congrArg some (J7n x 11)
theorem turn25 (x:UInt32):Jm x 25=some (rotr x 25):=congrArg some (J7n x 25)
theorem turn2 (x:UInt32):Jm x 2=some (rotr x 2):=congrArg some (J7n x 2)
theorem turn13 (x:UInt32):Jm x 13=some (rotr x 13):=congrArg some (J7n x 13)
theorem turn22 (x:UInt32):Jm x 22=some (rotr x 22):=congrArg some (J7n x 22)
theorem Jxc (b:List UInt8) (hb:b.length=64) (k h v z:List UInt32):J3_1 b k 0 h v z=some (k,h,v,J6f (Jof b) 0 16 z):=by
 unfold J3_1
 refine J5v (fun i w=>((i:Int),w)) (Jof b) (fun w=>(k,h,v,w)) 16 (fun _ _=>True) (fun i w hi _=>⟨?_,trivial⟩) (fun w _=>?_) 16 0 z rfl trivial
 ·unfold J3_1_step
  have e0:Int.toNat (4 * (i:Int))=4 * i:=by omega
  have e1:Int.toNat (4 * (i:Int)+1)=4 * i+1:=by omega
  have e2:Int.toNat (4 * (i:Int)+2)=4 * i+2:=by omega
  have e3:Int.toNat (4 * (i:Int)+3)=4 * i+3:=by omega
  simp (disch:=omega) only [J5p,J5q,J5m,hb,e0,e1,e2,e3,Int.toNat_natCast]
  rfl
 ·unfold J3_1_step
  rfl
theorem Jxd (k h v z:List UInt32):J3_2 k 16 h v z=some (k,h,v,J6f Jog 16 48 z):=by
 unfold J3_2
 refine J5v (fun i w=>((i:Int),w)) Jog (fun w=>(k,h,v,w)) 64 (fun i _=>16≤i) (fun i w hi hh=>⟨?_,by omega⟩) (fun w _=>?_) 48 16 z rfl (Nat.le_refl _)
 ·unfold J3_2_step
  have e0:Int.toNat ((i:Int) - 15)=i - 15:=by omega
  have e1:Int.toNat ((i:Int) - 2)=i - 2:=by omega
  have e2:Int.toNat ((i:Int) - 16)=i - 16:=by omega
  have e3:Int.toNat ((i:Int) - 7)=i - 7:=by omega
  simp (disch:=omega) only [J5p,J5q,J5m,e0,e1,e2,e3,Int.toNat_natCast,turn7,turn18,turn17,turn19,J5l]
  rfl
 ·unfold J3_2_step
  rfl
theorem Jxe (k h v w:List UInt32) (hk:k.length=64) (s:W8):J3_3 k 0 h v w (Jr4 s)=some (h,v,Jr4 (J6f (J7h k w) 0 64 s)):=by
 unfold J3_3
 refine J5v (fun i (s:W8)=>((i:Int),Jr4 s)) (J7h k w) (fun s=>(h,v,Jr4 s)) 64 (fun _ _=>True) (fun i s hi _=>⟨?_,trivial⟩) (fun s _=>?_) 64 0 s rfl trivial
 ·obtain ⟨a,b,c,d,e,f,g,x⟩:=s
  unfold J3_3_step
  simp (disch:=omega) only [J5p,J5q,J5m,hk,Int.toNat_natCast,turn6,turn11,turn25,turn2,turn13,turn22,J5l]
  rw [show J7h k w i (a,b,c,d,e,f,g,x)=((((((x+((rotr e 6 ^^^ rotr e 11) ^^^ rotr e 25))+((e &&& f) ^^^ ((~~~e) &&& g)))+k.getD i 0)+w.getD i 0)+((rotr a 2 ^^^ rotr a 13) ^^^ rotr a 22))+(((a &&& b) ^^^ (a &&& c)) ^^^ (b &&& c)),a,b,c,
   d+((((x+((rotr e 6 ^^^ rotr e 11) ^^^ rotr e 25))+((e &&& f) ^^^ ((~~~e) &&& g)))+k.getD i 0)+w.getD i 0),e,f,g) from by simp only [J7h,UInt32.add_assoc]]
  rfl
 ·unfold J3_3_step
  rfl
theorem Jxf (h z v:List UInt32):J3_4 0 h z v=some (J6f (addS v) 0 8 h,z):=by
 unfold J3_4
 refine J5v (fun i w=>((i:Int),w)) (addS v) (fun w=>(w,z)) 8 (fun _ _=>True) (fun i w hi _=>⟨?_,trivial⟩) (fun w _=>?_) 8 0 h rfl trivial
 ·unfold J3_4_step
  simp (disch:=omega) only [J5p,J5q,J5m,Int.toNat_natCast]
  rfl
 ·unfold J3_4_step
  rfl
theorem Jr5 (h:List UInt32) (hh:h.length=8):Jr4 (tup8 h)=h:=by
 match h,hh with
 | [a,b,c,d,e,f,g,i],_=>rfl
theorem Juj (h:List UInt32) (hh:h.length=8) (b:List UInt8) (hb:b.length=64) (k:List UInt32) (hk:k.length=64):J3 h b k=some (mixS k b h):=by
 unfold J3
 simp only [Jxc b hb,Jxd,J5l]
 have h3:=Jxe k h (List.replicate 8 0) (Jcz b) hk (tup8 h)
 rw [Jr5 h hh] at h3
 rw [show J6f Jog 16 48 (J6f (Jof b) 0 16 (List.replicate 64 0))=Jcz b from by rw [Jcz],h3,J5l]
 simp only [Jxf,J5l]
 rw [mixS]
theorem Jyr (n:Nat):Int.tmod (n:Int) 64=((n % 64:Nat):Int):=by
 rw [Int.tmod_eq_emod_of_nonneg (by omega)]; omega
theorem rsum_1 (b:List UInt8) (hb:b.length≤1073741824) (out:List UInt8) (k h:List UInt32) :
  J4_1 b out k h (b++[128])=some (b,out,k,h,(b++[128])++List.replicate ((b.length+8) / 64 * 64+55 - b.length) 0):=by
 unfold J4_1
 generalize hz:(b.length+8) / 64 * 64+55 - b.length=z
 have:=J5v (step:=fun s=>J4_1_step b out k h s) (fun i (_:Unit)=>(b++[128])++List.replicate i (0:UInt8)) (fun _ _=>()) (fun _=>(b,out,k,h,(b++[128])++List.replicate z 0)) z (fun _ _=>True) (fun i w hi _=>⟨?_,trivial⟩) (fun w _=>?_) z 0 () (by omega) trivial
 ·simpa using this
 ·unfold J4_1_step
  rw [Jyr,J8v (by simp; omega),J5m (by simp; omega),List.append_assoc,List.append_assoc,List.append_assoc,← List.replicate_succ']
 ·unfold J4_1_step
  rw [Jyr,J82 (by simp; omega)]
theorem Jrq {j:Nat} (h:j < 8):(UInt64.ofNat (Int.toNat ((8 * ((7:Int) - (j:Int))) % 18446744073709551616))).toNat=8 * (7 - j):=by
 have:Int.toNat ((8 * ((7:Int) - (j:Int))) % 18446744073709551616)=8 * (7 - j):=by omega
 rw [this,UInt64.toNat_ofNat']; omega
theorem rsum_2 (b:List UInt8) (hb:b.length≤1073741824) (out m:List UInt8) (hm:m.length≤1073741924) (k h:List UInt32) :
  J4_2 b 7 out k h m=some (out,k,h,J6f (fun j (l:List UInt8)=>l++[Ja2 (bitsOf b) (7 - j)]) 0 8 m):=by
 unfold J4_2
 refine J5v (step:=fun (s:Int×List UInt8)=>J4_2_step b s.1 out k h s.2) (fun j l=>((7:Int) - (j:Int),l)) (fun j (l:List UInt8)=>l++[Ja2 (bitsOf b) (7 - j)]) (fun l=>(out,k,h,l)) 8 (fun j l=>l.length=m.length+j) (fun j l hj hl=>⟨?_,by simp [hl]; omega⟩) (fun l _=>?_) 8 0 m rfl rfl
 ·unfold J4_2_step
  have hbits:UInt64.ofNat (Int.toNat ((8 * (b.length:Int)) % 18446744073709551616))=bitsOf b:=by
   rw [show Int.toNat ((8 * (b.length:Int)) % 18446744073709551616)=b.length * 8 from by omega,UInt64.ofNat_mul]; rfl
  simp (disch:=omega) only [J5p,J5q,hbits]
  rw [J5m (by omega),J5m (by simp; omega),Jrq hj,Int.toNat_natCast]
  rw [show (7:Int) - (j:Int) - 1=7 - ((j+1:Nat):Int) from by omega]
  rfl
 ·unfold J4_2_step
  rfl
theorem Kc (l out:List UInt8) (n:Nat) (hl:l.length=64 * n) (hn:64 * n≤2147483648) (h:List UInt32) (hh:h.length=8) :
  J4_3 l 0 out kS h=some (out,J6f (fun j h=>mixS kS ((l.drop (64 * j)).take 64) h) 0 n h):=by
 unfold J4_3
 refine J5v (step:=fun (s:Int×List UInt32)=>J4_3_step l s.1 out kS s.2) (fun j h=>(((64 * j:Nat):Int),h)) (fun j h=>mixS kS ((l.drop (64 * j)).take 64) h) (fun h=>(out,h)) n (fun j h=>h.length=8) (fun j h hj hh=>⟨?_,by rw [Jpc,hh]⟩) (fun l _=>?_) n 0 h (by omega) hh
 ·unfold J4_3_step
  have hc:cutL l ((64 * j:Nat):Int) (((64 * j:Nat):Int)+64)=(l.drop (64 * j)).take 64:=by
   unfold cutL
   rw [Int.toNat_natCast,show Int.toNat (((64 * j:Nat):Int)+64)=64 * j+64 from by omega,List.drop_take]
   congr 1; omega
  simp (disch:=omega) only [J5p,J5q,J5m,hc]
  rw [Juj h hh _ (by rw [List.length_take,List.length_drop]; omega) _ rfl,J5l]
  rfl
 ·unfold J4_3_step
  rw [J5o (by omega)]
theorem Jg3 (l:List UInt8):∀ (n j:Nat) (h:List UInt32),J6f (fun j h=>mixS kS ((l.drop (64 * j)).take 64) h) j n h=Jaj n (l.drop (64 * j)) h
 | 0,_,_=>rfl
 | n+1,j,h=>by
  rw [J6f,Jg3 l n (j+1),Jaj,List.drop_drop]
  rfl
def Jh4 (x:UInt32) (i:Nat) (acc:List UInt8):List UInt8:=(((acc.set (4 * i) (outB x 0)).set (4 * i+1) (outB x 1)).set (4 * i+2) (outB x 2)).set (4 * i+3) (outB x 3)
theorem rsum_4 (h:List UInt32) (z acc:List UInt8):J4_4 h 0 z acc=some (z,J6f (fun i acc=>Jh4 (h.getD i 0) i acc) 0 8 acc):=by
 unfold J4_4
 refine J5v (step:=fun (s:Int×List UInt8)=>J4_4_step h s.1 z s.2) (fun i acc=>((i:Int),acc)) (fun i acc=>Jh4 (h.getD i 0) i acc) (fun acc=>(z,acc)) 8 (fun _ _=>True) (fun i acc hi _=>⟨?_,trivial⟩) (fun acc _=>?_) 8 0 acc rfl trivial
 ·unfold J4_4_step
  have e0:Int.toNat (4 * (i:Int))=4 * i:=by omega
  have e1:Int.toNat (4 * (i:Int)+1)=4 * i+1:=by omega
  have e2:Int.toNat (4 * (i:Int)+2)=4 * i+2:=by omega
  have e3:Int.toNat (4 * (i:Int)+3)=4 * i+3:=by omega
  have hx:∀ x:UInt32,outB x 3=UInt8.ofNat x.toNat:=by intro x; simp [outB]
  simp (disch:=omega) only [J5p,J5q,J5m,e0,e1,e2,e3,Int.toNat_natCast]
  rw [Jh4,hx]
  rfl
 ·unfold J4_4_step
  rfl
theorem Jxl (a b c d e f g i:UInt32):J6f (fun j acc=>Jh4 (List.getD [a,b,c,d,e,f,g,i] j 0) j acc) 0 8 (List.replicate 32 (0:UInt8))=outS [a,b,c,d,e,f,g,i]:=by kernel_rfl
theorem Ka (h:List UInt32) (hh:h.length=8):J6f (fun i acc=>Jh4 (h.getD i 0) i acc) 0 8 (List.replicate 32 (0:UInt8))=outS h:=by
 match h,hh with
 | [a,b,c,d,e,f,g,i],_=>exact Jxl a b c d e f g i
theorem Jw3:J3b=some kS:=by kernel_rfl
theorem Kb (b:List UInt8):J6f (fun j (l:List UInt8)=>l++[Ja2 (bitsOf b) (7 - j)]) 0 8 ((b++[128])++List.replicate ((b.length+8) / 64 * 64+55 - b.length) 0)=padS b:=by
 unfold padS
 simp only [J6f,List.append_assoc]
 rfl
theorem Jur (b:List UInt8) (hb:b.length≤1073741824):J4 b=some (sha b):=by
 unfold J4
 have h0:(List.set (List.set (List.set (List.set (List.set (List.set (List.set (List.set (List.replicate 8 (0:UInt32)) 0 (1779033703:UInt32)) 1 (3144134277:UInt32)) 2 (1013904242:UInt32)) 3 (2773480762:UInt32)) 4 (1359893119:UInt32)) 5 (2600822924:UInt32)) 6 (528734635:UInt32)) 7 (1541459225:UInt32))=h0S:=by kernel_rfl
 rw [Jw3,J5l,J5m (by simp; omega),J5m (by simp; omega),h0,List.nil_append,rsum_1 b hb,J5l]
 simp only [rsum_2 b hb _ _ (show ((b++[128])++List.replicate ((b.length+8) / 64 * 64+55 - b.length) (0:UInt8)).length≤1073741924 by simp; omega),J5l,Kb]
 rw [Kc _ _ ((b.length+8) / 64+1) (Jo3 b) (by omega) _ rfl,J5l,Jg3]
 simp only [rsum_4,J5l]
 rw [Ka _ (by rw [Jak]; rfl)]
 rfl
theorem J7f (t:UInt8) (l:List (List UInt8)) (h:l.flatten.length≤1073741823) (hl:l.length≤1073741823):Ja t l=some (sha (t::l.flatten)):=by
 unfold Ja
 have:∀ z,Ja_1 l (l.length:Int) 0 z [t]=some (z,t::l.flatten):=by
  intro z
  unfold Ja_1
  have:=J5v (step:=fun (s:Int×List UInt8)=>Ja_1_step l (l.length:Int) s.1 z s.2) (fun i (_:Unit)=>((i:Int),t::(l.take i).flatten)) (fun _ _=>()) (fun _=>(z,t::l.flatten)) l.length (fun _ _=>True) (fun i w hi _=>⟨?_,trivial⟩) (fun w _=>?_) l.length 0 () (by omega) trivial
  ·exact this
  ·unfold Ja_1_step
   have e:=getD_take l hi
   have le:=J9y l (i+1)
   rw [← e,List.length_append] at le
   simp (disch:=omega) only [J5p,J5q,J5m,Int.toNat_natCast]
   rw [J5m (by rw [List.length_cons]; omega),List.cons_append,e]
   rfl
  ·unfold Ja_1_step
   rw [J5o (by omega),List.take_of_length_le (Nat.le_refl _)]
 rw [this,J5l]
 simp only []
 rw [Jur _ (by rw [List.length_cons]; omega),J5l]
theorem Juq (seed:List UInt8) (hs:seed.length=32) (i v:Nat) (hi:i < 256) (hv:v < 256):J2a seed (i:Int) (v:Int)=some (secS seed i v):=by
 unfold J2a
 have hf:[seed,[UInt8.ofNat (Int.toNat ((i:Int) % 256)),UInt8.ofNat (Int.toNat ((v:Int) % 256))]].flatten=seed++[UInt8.ofNat i,UInt8.ofNat v]:=by
  rw [J8a,J8a]; simp
 rw [J7f _ _ (by rw [hf]; simp; omega) (by simp),hf]
 rfl
theorem Jup (s:List UInt8) (hs:s.length=32):J29 s=some (pubS s):=by
 unfold J29
 have hf:[s].flatten=s:=by simp
 rw [J7f _ _ (by rw [hf]; omega) (by simp),hf]
 rfl
theorem K9 (l:List (List UInt8)) (hl:l.length≤1000) (h:∀ x ∈ l,x.length=32):J0a l=some (keyS l):=by
 have hlen:∀ i,((l.take i).flatten).length≤32 * l.length:=fun i=>by
  rw [Jp4 _ fun x hx=>h x (List.mem_of_mem_take hx),List.length_take]; omega
 have main:∀ z,J0a_1 l (l.length:Int) 0 z []=some (z,l.flatten):=by
  intro z
  unfold J0a_1
  have:=J5v (step:=fun (s:Int×List UInt8)=>J0a_1_step l (l.length:Int) s.1 z s.2) (fun i (_:Unit)=>((i:Int),(l.take i).flatten)) (fun _ _=>()) (fun _=>(z,l.flatten)) l.length (fun _ _=>True) (fun i w hi _=>⟨?_,trivial⟩) (fun w _=>?_) l.length 0 () (by omega) trivial
  ·exact this
  ·show J0a_1_step l (l.length:Int) (i:Int) z (l.take i).flatten=_
   unfold J0a_1_step
   have b:=hlen i
   have hm:(l.getD i (List.replicate 32 0)).length=32:=Jfm l h i
   rw [J5p (by omega),J5m (by omega),Int.toNat_natCast,J5m (by omega),J5q (by omega) (by omega),Jli l hi]
   rfl
  ·show J0a_1_step l (l.length:Int) (l.length:Int) z (l.take l.length).flatten=_
   unfold J0a_1_step
   rw [J5o (by omega),List.take_of_length_le (Nat.le_refl _)]
 unfold J0a
 have hf:[l.flatten].flatten=l.flatten:=by simp
 have:=Jp4 l h
 rw [main,J5l]
 simp only
 rw [J7f _ _ (by rw [hf]; omega) (by simp),hf]
 rfl
theorem Jzx (seed:List UInt8) (hs:seed.length=32):J09 seed=some (KeyS seed):=by
 have main:∀ z,J09_1 0 seed z []=some (z,J7i seed 32):=by
  intro z
  unfold J09_1
  have:=J5v (step:=fun (s:Int×List (List UInt8))=>J09_1_step s.1 seed z s.2) (fun i (_:Unit)=>((i:Int),J7i seed i)) (fun _ _=>()) (fun _=>(z,J7i seed 32)) 32 (fun _ _=>True) (fun i w hi _=>⟨?_,trivial⟩) (fun w _=>?_) 32 0 () (by omega) trivial
  ·exact this
  ·show J09_1_step (i:Int) seed z (J7i seed i)=_
   unfold J09_1_step
   have hl:=(Jdr seed i).2
   have s0:=Juq seed hs i 0 (by omega) (by omega)
   have s1:=Juq seed hs i 1 (by omega) (by omega)
   rw [show ((0:Nat):Int)=0 from rfl] at s0
   rw [show ((1:Nat):Int)=1 from rfl] at s1
   rw [J5p (by omega),s0,J5l,Jup _ (Jc6 _ _ _),J5l,s1,J5l,Jup _ (Jc6 _ _ _),J5l,J5m (by simp; omega),J5q (by omega) (by omega)]
   unfold J7i
   rw [Jde]
   rfl
  ·show J09_1_step 32 seed z (J7i seed 32)=_
   unfold J09_1_step
   rw [J5o (by omega)]
 unfold J09
 obtain ⟨h1,h2⟩:=Jdr seed 32
 rw [main,J5l]
 simp only
 rw [K9 _ (by omega) h1]
 rfl
theorem Jln:∀ (f k n:Nat),n≤2 * k * 2 ^ f→1≤k→n≤1073741824→k≤1073741824→Jq_1 (n:Int) (k:Int)=some ((Jhv f k n:Nat):Int)
 | 0,k,n,h,h1,h2,hk=>by
  unfold Jq_1
  refine J63 ?_
  unfold Jq_1_step
  simp only [Nat.pow_zero,Nat.mul_one] at h
  rw [J5q (by omega) (by omega),J5o (by omega)]
  rfl
 | f+1,k,n,h,h1,h2,hk=>by
  rw [Jhv]
  split
  ·rename_i hlt
   rw [← Jln f (2 * k) n (by rw [Nat.pow_succ] at h; rw [Jk9]; exact h) (by omega) h2 (by omega)]
   have hs:Jq_1_step (n:Int) (k:Int)=some (.inl ((2 * k:Nat):Int)):=by
    unfold Jq_1_step
    rw [J5q (by omega) (by omega),J5p (by omega),show 2 * (k:Int)=((2 * k:Nat):Int) from by omega]
   unfold Jq_1
   rw [J67 hs]
  ·rename_i hlt
   unfold Jq_1
   refine J63 ?_
   unfold Jq_1_step
   rw [J5q (by omega) (by omega),J5o (by omega)]
theorem Jjt (n:Nat) (h:n≤1073741824):Jq (n:Int)=some ((J5s n:Nat):Int):=by
 unfold Jq
 rw [show (1:Int)=((1:Nat):Int) from rfl,Jln 40 1 n (by omega) (by omega) h (by omega),J5l]
 rfl
theorem Jhd (a b:List UInt8) (ha:a.length=32) (hb:b.length=32):Ja 1 [a,b]=some (Ja6 a b):=by
 have hf:[a,b].flatten=a++b:=by simp
 rw [J7f _ _ (by rw [hf,List.length_append]; omega) (by simp),hf]
 rfl
theorem Jxj (x:List UInt8) (hx:x.length≤1000000):Ja 0 [x]=some (Jnt x):=by
 have hf:[x].flatten=x:=by simp
 rw [J7f _ _ (by rw [hf]; omega) (by simp),hf]
 rfl
theorem Jeu:∀ (k:Nat) (l:List (List UInt8)),l.length < k→l.length≤1000→Small l→J03_f k l=some (J76 l)
 | 0,l,h,_,_=>by omega
 | k+1,l,h,h2,hl=>by
  rw [J03_f]
  match l,h,h2,hl with
  | [],h,h2,hl=>
   rw [J5p (by simp),J7f _ _ (by simp) (by simp),Jet]; rfl
  | [x],h,h2,hl=>
   have hx:=hl x (by simp)
   have hf:[List.getD [x] (Int.toNat (0:Int)) []].flatten=x:=by simp
   rw [J5o (by simp),J5p (by simp),J5m (by simp),J7f _ _ (by rw [hf]; omega) (by simp),hf,Jbu]; rfl
  | x::y::r,h,h2,hl=>
   have hn:2≤(x::y::r).length:=by simp
   generalize x::y::r=l at h h2 hl hn
   obtain ⟨b1,b2,b3⟩:=J85 l.length hn (by omega)
   rw [J5o (by omega),J5o (by omega),Jjt _ (by omega),J5l,J5m (by omega),Jcc,J8m,Int.toNat_natCast,Jeu k (l.take (J5s l.length)) (by rw [List.length_take]; omega) (by rw [List.length_take]; omega) (J96 hl _),J5l,J5m (by omega),
    Jeu k (l.drop (J5s l.length)) (by rw [List.length_drop]; omega) (by rw [List.length_drop]; omega) (J95 hl _),J5l,Jhd _ _ (J6l _) (J6l _),J5l,Je0 l hn (by omega)]
theorem Jfv (l:List (List UInt8)) (h:l.length < 64) (hl:Small l):J03 l=some (J76 l):=Jeu 64 l h (by omega) hl
theorem J8i:∀ (f g i n:Nat),n≤f+1→n≤g+1→n≤1000→J65 f i n=J65 g i n
 | 0,g,i,n,h,_,_=>by
  cases g with
  | zero=>rfl
  | succ g=>rw [J65,J65,if_pos h]
 | f+1,0,i,n,_,h,_=>by rw [J65,J65,if_pos h]
 | f+1,g+1,i,n,h,h2,h3=>by
  rw [J65,J65]
  by_cases h1:n≤1
  ·rw [if_pos h1,if_pos h1]
  ·obtain ⟨b1,b2,b3⟩:=J85 n (by omega) (by omega)
   rw [if_neg h1,if_neg h1,J8i f g i (J5s n) (by omega) (by omega) (by omega),J8i f g (i - J5s n) (n - J5s n) (by omega) (by omega) (by omega)]
theorem Jfw:∀ (k:Nat) (leaf:List UInt8) (i n:Nat) (p:List (List UInt8)),n < k→i < n→n < 64→leaf.length≤1000000→(∀ x ∈ p,x.length=32)→p.length≤100000→
  ∃ x,J01_f k leaf (i:Int) (n:Int) p=some (x,decide (p.length=(J65 n i n).length))∧x.length=32∧(p.length=(J65 n i n).length→x=Ja4 (J65 n i n).reverse p (Jnt leaf))
 | 0,leaf,i,n,p,h,_,_,_,_,_=>by omega
 | k+1,leaf,i,n,p,h,hi,h2,hf,hp,hb=>by
  rw [J01_f,J5o (by omega),J5o (by omega),J5o (by omega)]
  by_cases h1:n=1
  ·subst h1
   rw [J5p (by omega),Jxj leaf hf,J5l]
   have e:J65 1 i 1=[]:=by rw [J65,if_pos (by omega)]
   rw [e]
   refine ⟨Jnt leaf,?_,J6w _,fun h=>?_⟩
   ·rw [show decide ((p.length:Int)=0)=decide (p.length=([]:List Bool).length) from decide_eq_decide.2 (by simp)]
   ·have:p=[]:=List.eq_nil_of_length_eq_zero (by simpa using h)
    subst this; rfl
  ·obtain ⟨b1,b2,b3⟩:=J85 n (by omega) (by omega)
   obtain ⟨q,rfl⟩:∃ q,n=q+1:=⟨n - 1,by omega⟩
   have hsd:J65 (q+1) i (q+1)=if i < J5s (q+1) then true::J65 q i (J5s (q+1)) else false::J65 q (i - J5s (q+1)) (q+1 - J5s (q+1)):=by
    rw [J65,if_neg (by omega)]
   rw [J5o (by omega)]
   by_cases h0:p.length=0
   ·rw [J5p (by omega)]
    refine ⟨zT,?_,by simp,fun h=>?_⟩
    ·rw [decide_eq_false (by rw [hsd]; split <;> simp [h0])]
    ·exfalso
     rw [hsd] at h
     split at h <;> simp [h0] at h
   ·have hpl:p=p.take (p.length - 1)++[p.getD (p.length - 1) zT]:=by
     rw [List.getD_eq_getElem?_getD,List.getElem?_eq_getElem (by omega)]
     conv=>lhs; rw [← List.take_append_drop (p.length - 1) p,List.drop_eq_getElem_cons (by omega),List.drop_of_length_le (by omega)]
     rfl
    have hg:(p.getD (p.length - 1) (List.replicate 32 0)).length=32:=by
     rw [List.getD_eq_getElem?_getD,List.getElem?_eq_getElem (by omega)]; exact hp _ (List.getElem_mem _)
    have hpt:∀ x ∈ p.take (p.length - 1),x.length=32:=fun x hx=>hp x (List.mem_of_mem_take hx)
    have htl:(p.take (p.length - 1)).length=p.length - 1:=by rw [List.length_take]; omega
    have e1:w64 ((p.length:Int) - 1)=((p.length - 1:Nat):Int):=by rw [J5q (by omega) (by omega)]; omega
    rw [J5o (by omega),Jjt (q+1) (by omega),J5l,e1,J5m (by omega),Jcc,Int.toNat_natCast]
    by_cases h4:i < J5s (q+1)
    ·obtain ⟨x,x1,x2,x3⟩:=Jfw k leaf i (J5s (q+1)) (p.take (p.length - 1)) (by omega) h4 (by omega) hf hpt (by omega)
     rw [J8i _ q _ _ (by omega) (by omega) (by omega)] at x1 x3
     rw [J5p (by omega),J5m (by omega),x1,J5l]
     simp only
     rw [Jhd _ _ x2 hg,J5l,hsd,if_pos h4]
     refine ⟨Ja6 x (p.getD (p.length - 1) (List.replicate 32 0)),?_,J6w _,fun h=>?_⟩
     ·rw [show decide ((p.take (p.length - 1)).length=(J65 q i (J5s (q+1))).length)=decide (p.length=(true::J65 q i (J5s (q+1))).length) from decide_eq_decide.2 (by rw [htl,List.length_cons]; omega)]
     ·rw [List.length_cons] at h
      rw [x3 (by omega),List.reverse_cons]
      conv=>rhs; rw [hpl]
      rw [J7u _ _ _ _ _ (by rw [List.length_reverse]; omega),if_pos rfl]
    ·obtain ⟨x,x1,x2,x3⟩:=Jfw k leaf (i - J5s (q+1)) (q+1 - J5s (q+1)) (p.take (p.length - 1)) (by omega) (by omega) (by omega) hf hpt (by omega)
     rw [J8i _ q _ _ (by omega) (by omega) (by omega)] at x1 x3
     rw [J5o (by omega),J5m (by omega),J5q (by omega) (by omega),J5q (by omega) (by omega),show (i:Int) - ((J5s (q+1):Nat):Int)=((i - J5s (q+1):Nat):Int) from by omega,show ((q+1:Nat):Int) - ((J5s (q+1):Nat):Int)=((q+1 - J5s (q+1):Nat):Int) from by omega,x1,J5l]
     simp only
     rw [Jhd _ _ hg x2,J5l,hsd,if_neg h4]
     refine ⟨Ja6 (p.getD (p.length - 1) (List.replicate 32 0)) x,?_,J6w _,fun h=>?_⟩
     ·rw [show decide ((p.take (p.length - 1)).length=(J65 q (i - J5s (q+1)) (q+1 - J5s (q+1))).length)=decide (p.length=(false::J65 q (i - J5s (q+1)) (q+1 - J5s (q+1))).length) from decide_eq_decide.2 (by rw [htl,List.length_cons]; omega)]
     ·rw [List.length_cons] at h
      rw [x3 (by omega),List.reverse_cons]
      conv=>rhs; rw [hpl]
      rw [J7u _ _ _ _ _ (by rw [List.length_reverse]; omega),if_neg (by simp)]
theorem rup_eq (leaf:List UInt8) (hf:leaf.length≤1000000) (i n:Int) (hn:n < 64) (p:List (List UInt8)) (hp:∀ x ∈ p,x.length=32) (hb:p.length≤100000):∃ x,J01 leaf i n p=some (x,(upS leaf i n p).2)∧((upS leaf i n p).2=true→x=(upS leaf i n p).1)∧x.length=32:=by
 unfold J01
 by_cases h0:i < 0
 ·rw [J01_f,J5p h0]
  have:upS leaf i n p=(zT,false):=if_neg (fun h=>by have:=(Jcq i n).1 h.1; omega)
  rw [this]
  exact ⟨_,rfl,fun h=>(by cases h),rfl⟩
 ·by_cases h1:n≤i
  ·rw [J01_f,J5o h0,J5p h1]
   have:upS leaf i n p=(zT,false):=if_neg (fun h=>by have:=(Jcq i n).1 h.1; omega)
   rw [this]
   exact ⟨_,rfl,fun h=>(by cases h),rfl⟩
  ·obtain ⟨a,rfl⟩:=Int.eq_ofNat_of_zero_le (show 0≤i by omega)
   obtain ⟨b,rfl⟩:=Int.eq_ofNat_of_zero_le (show 0≤n by omega)
   obtain ⟨x,x1,x2,x3⟩:=Jfw 64 leaf a b p (by omega) (by omega) (by omega) hf hp hb
   have hi:isS (a:Int) (b:Int)=true:=(Jcq _ _).2 (by omega)
   unfold upS
   simp only [Int.toNat_natCast,hi,true_and]
   by_cases e:p.length=(J65 b a b).length
   ·rw [if_pos e]
    rw [decide_eq_true e] at x1
    exact ⟨x,x1,fun _=>x3 e,x2⟩
   ·rw [if_neg e]
    rw [decide_eq_false e] at x1
    exact ⟨x,x1,fun h=>(by cases h),x2⟩
theorem Jx9 (seed:List UInt8) (hs:seed.length=32) (h:Nat):J3c seed (h:Int)=some (Jhg seed h):=by
 unfold J3c
 have hf:[seed,[UInt8.ofNat (Int.toNat ((h:Int) % 256))]].flatten=seed++[UInt8.ofNat h]:=by
  rw [J8a]; simp
 rw [J7f _ _ (by rw [hf]; simp; omega) (by simp),hf]
 rfl
theorem Jx8 (seed:List UInt8) (hs:seed.length=32):Jy seed=some (J8c seed):=by
 have main:Jy_1 1 seed []=some (J8c seed):=by
  unfold Jy_1
  have:=J5v (step:=fun (s:Int×List (List UInt8))=>Jy_1_step s.1 seed s.2) (fun i (_:Unit)=>(((i+1:Nat):Int),Jem seed i)) (fun _ _=>()) (fun _=>J8c seed) 16 (fun _ _=>True) (fun i w hi _=>⟨?_,trivial⟩) (fun w _=>?_) 16 0 () (by omega) trivial
  ·exact this
  ·show Jy_1_step ((i+1:Nat):Int) seed (Jem seed i)=_
   unfold Jy_1_step
   have hl:=Jgm seed i
   rw [J5p (by omega),Jx9 seed hs,J5l,Jzx _ (Jhh _ _),J5l,J5m (by simp; omega),J5q (by omega) (by omega)]
   unfold Jem
   rw [mapRange]
   rfl
  ·show Jy_1_step 17 seed (Jem seed 16)=_
   unfold Jy_1_step
   rw [J5o (by omega)]
   rfl
 unfold Jy
 rw [main]
 rfl
def putF:Nat→Nat→List UInt8
 | 0,n=>[UInt8.ofNat n]
 | f+1,n=>if n < 128 then [UInt8.ofNat n] else UInt8.ofNat (n % 128+128)::putF f (n / 128)
def oneS (n:Int):List UInt8:=if 0≤n∧n≤1099511627775 then putF 6 n.toNat else []
theorem Jke:∀ (f n:Nat),(putF f n).length≤f+1
 | 0,_=>by simp [putF]
 | f+1,n=>by
  rw [putF]; split
  ·simp
  ·have:=Jke f (n / 128); simp; omega
theorem J6x (n:Int):(oneS n).length≤7:=by
 unfold oneS; split
 ·exact Jke 6 _
 ·simp
theorem Jph:∀ (f n:Nat) (acc:List UInt8),n < 128 ^ (f+1)→n < 9223372036854775808→acc.length≤1000 - f→f≤10→∃ (m:Nat) (l:List UInt8),J12_1 (n:Int) acc=some ((m:Int),acc++l)∧l++[UInt8.ofNat m]=putF f n∧(acc++l).length≤1000
 | 0,n,acc,h,h2,ha,_=>by
  refine ⟨n,[],?_,rfl,by simp; omega⟩
  rw [List.append_nil]
  unfold J12_1
  refine J63 ?_
  show J12_1_step (n:Int) acc=_
  unfold J12_1_step
  rw [J5o (by omega)]
 | f+1,n,acc,h,h2,ha,hf=>by
  by_cases hn:n < 128
  ·refine ⟨n,[],?_,by rw [putF,if_pos hn]; rfl,by simp; omega⟩
   rw [List.append_nil]
   unfold J12_1
   refine J63 ?_
   show J12_1_step (n:Int) acc=_
   unfold J12_1_step
   rw [J5o (by omega)]
  ·have hs:J12_1_step (n:Int) acc=some (.inl (((n / 128:Nat):Int),acc++[UInt8.ofNat (n % 128+128)])):=by
    unfold J12_1_step
    rw [J5p (by omega),J5m (by simp; omega),Js1 n (by omega),Jy7 _ (by omega),J8a,show Int.toNat 7=7 from rfl,Jp5 n 7 (by omega)]
   have hd:n / 128 < 128 ^ (f+1):=by
    rw [Nat.div_lt_iff_lt_mul (by omega)]
    have:128 ^ (f+1+1)=128 ^ (f+1) * 128:=Nat.pow_succ ..
    omega
   obtain ⟨m,l,h4,h5,h6⟩:=Jph f (n / 128) (acc++[UInt8.ofNat (n % 128+128)]) hd (by omega) (by simp; omega) (by omega)
   refine ⟨m,UInt8.ofNat (n % 128+128)::l,?_,?_,?_⟩
   ·unfold J12_1 at h4 ⊢
    rw [J67 (s':=(((n / 128:Nat):Int),acc++[UInt8.ofNat (n % 128+128)])) hs,h4]
    simp
   ·rw [putF,if_neg hn,← h5]; rfl
   ·simpa using h6
theorem Ju1 (n:Int):J12 n=some (oneS n):=by
 unfold J12 oneS
 by_cases h0:n < 0
 ·rw [J5p h0,if_neg (by omega)]
 ·rw [J5o h0]
  by_cases h1:1099511627775 < n
  ·rw [J5p h1,if_neg (by omega)]
  ·rw [J5o h1,if_pos (by omega)]
   obtain ⟨k,rfl⟩:=Int.eq_ofNat_of_zero_le (show 0≤n by omega)
   obtain ⟨m,l,h2,h3,h4⟩:=Jph 6 k [] (by omega) (by omega) (by simp) (by omega)
   rw [h2,J5l]
   simp only [List.nil_append] at h4 ⊢
   rw [J5m (by simp; omega),J8a,h3]
   rfl
def putS (l:List Int):List UInt8:=l.flatMap oneS
theorem Jo6:∀ (l:List Int),(putS l).length≤7 * l.length
 | []=>by simp [putS]
 | n::l=>by
  have:=Jo6 l
  have h:=J6x n
  unfold putS at this ⊢
  rw [List.flatMap_cons,List.length_append,List.length_cons]; omega
theorem Jbh {α β:Type} (f:α→List β) (l:List α) (z:α) {i:Nat} (h:i < l.length):(l.take (i+1)).flatMap f=(l.take i).flatMap f++f (l.getD i z):=by
 rw [List.take_add_one,List.flatMap_append,List.getD_eq_getElem?_getD]
 congr 1
 rw [List.getElem?_eq_getElem h]
 simp only [Option.toList_some,Option.getD_some,List.flatMap_cons,List.flatMap_nil,List.append_nil]
theorem put_eq (l:List Int) (hl:l.length≤100000000):J0n l=some (putS l):=by
 have main:J0n_1 l (l.length:Int) 0 []=some (putS l):=by
  unfold J0n_1
  have:=J5v (step:=fun (s:Int×List UInt8)=>J0n_1_step l (l.length:Int) s.1 s.2) (fun i (_:Unit)=>((i:Int),putS (l.take i))) (fun _ _=>()) (fun _=>putS l) l.length (fun _ _=>True) (fun i w hi _=>⟨?_,trivial⟩) (fun w _=>?_) l.length 0 () (by omega) trivial
  ·exact this
  ·show J0n_1_step l (l.length:Int) (i:Int) (putS (l.take i))=_
   unfold J0n_1_step
   have b:=Jo6 (l.take i)
   have b2:=J6x (l.getD i 0)
   rw [List.length_take] at b
   rw [J5p (by omega),J5m (by omega),Ju1,J5l,Int.toNat_natCast,J5m (by omega),J5q (by omega) (by omega)]
   unfold putS
   rw [Jbh oneS l 0 hi]
   rfl
  ·show J0n_1_step l (l.length:Int) (l.length:Int) (putS (l.take l.length))=_
   unfold J0n_1_step
   rw [J5o (by omega),List.take_of_length_le (Nat.le_refl _)]
 unfold J0n
 rw [main,J5l]
theorem Jt9 (l:List (List UInt8)) (hl:l.length≤1000000) (h:∀ x ∈ l,x.length=32):J0z l=some l.flatten:=by
 have hlen:∀ i,((l.take i).flatten).length≤32 * l.length:=by
  intro i
  have:∀ (m:List (List UInt8)),(∀ x ∈ m,x.length=32)→m.flatten.length=32 * m.length:=by
   intro m
   induction m with
   | nil=>intro _; rfl
   | cons a m ih=>intro hm; rw [List.flatten_cons,List.length_append,ih (fun x hx=>hm x (List.mem_cons_of_mem _ hx)),hm a List.mem_cons_self,List.length_cons]; omega
  rw [this _ fun x hx=>h x (List.mem_of_mem_take hx),List.length_take]; omega
 have main:J0z_1 l (l.length:Int) 0 []=some l.flatten:=by
  unfold J0z_1
  have:=J5v (step:=fun (s:Int×List UInt8)=>J0z_1_step l (l.length:Int) s.1 s.2) (fun i (_:Unit)=>((i:Int),(l.take i).flatten)) (fun _ _=>()) (fun _=>l.flatten) l.length (fun _ _=>True) (fun i w hi _=>⟨?_,trivial⟩) (fun w _=>?_) l.length 0 () (by omega) trivial
  ·exact this
  ·show J0z_1_step l (l.length:Int) (i:Int) (l.take i).flatten=_
   unfold J0z_1_step
   have b:=hlen i
   have hm:(l.getD i (List.replicate 32 0)).length=32:=h _ (by rw [List.getD_eq_getElem?_getD,List.getElem?_eq_getElem hi]; exact List.getElem_mem _)
   have e:=Jbh (fun x:List UInt8=>x) l (List.replicate 32 0) hi
   simp only [List.flatMap_id'] at e
   rw [J5p (by omega),J5m (by omega),Int.toNat_natCast,J5m (by omega),J5q (by omega) (by omega),e]
   rfl
  ·show J0z_1_step l (l.length:Int) (l.length:Int) (l.take l.length).flatten=_
   unfold J0z_1_step
   rw [J5o (by omega),List.take_of_length_le (Nat.le_refl _)]
 unfold J0z
 rw [main,J5l]
abbrev Rdr:=List UInt8×Bool×Unit
def Jxu (n:Nat) (r:Rdr):List UInt8×Rdr:=if r.2.1 then ([],(r.1,true,())) else if r.1.length < n then ([],(r.1,true,())) else (r.1.take n,(r.1.drop n,false,()))
theorem Joh (n:Nat) (hn:n≤1000) (r:Rdr):J2r (n:Int) r=some (Jxu n r):=by
 obtain ⟨l,b,u⟩:=r
 unfold J2r Jxu
 cases b with
 | true=>rfl
 | false=>
  simp only [J60,Bool.false_eq_true,if_false]
  by_cases h:l.length < n
  ·rw [J5p (by omega),if_pos h]
  ·rw [J5o (by omega),if_neg h,J5m (by omega),J5m (by omega)]
   have e1:cutL l 0 (n:Int)=l.take n:=by rw [Jcc,Int.toNat_natCast]
   have e2:cutL l (n:Int) (l.length:Int)=l.drop n:=by rw [J8m,Int.toNat_natCast]
   rw [e1,e2]
def numF:Nat→Nat→Nat→List UInt8→Int×Rdr
 | 0,_,_,l=>(0,l,true,())
 | k+1,i,acc,[]=>(0,[],true,())
 | k+1,i,acc,b::l=>if b.toNat < 128 then (if 1099511627775 < acc+b.toNat * 128 ^ i∨(b=0∧0 < i) then (0,l,true,()) else (((acc+b.toNat * 128 ^ i:Nat):Int),l,false,()))
   else numF k (i+1) (acc+(b.toNat % 128) * 128 ^ i) l
def numS (r:Rdr):Int×Rdr:=if r.2.1 then (0,(r.1,true,())) else numF 6 0 0 r.1
theorem Jpf:∀ (k i acc:Nat) (l:List UInt8),i+k=6→acc < 128 ^ i→
  (match J8_1 (acc:Int) ((7 * i:Nat):Int) (l,false,()) with | some (.inl o)=>some (o.1,o.2) | some (.inr o)=>some ((0:Int),(o.1,true,())) | none=>none)=some (numF k i acc l)
 | 0,i,acc,l,hi,ha=>by
  have:i=6:=by omega
  subst this
  have:J8_1 (acc:Int) ((7 * 6:Nat):Int) (l,false,())=some (.inr (l,false,())):=by
   unfold J8_1
   refine J63 ?_
   show J8_1_step (acc:Int) ((7 * 6:Nat):Int) (l,false,())=_
   unfold J8_1_step
   rw [J5o (by omega)]
  rw [this]; rfl
 | k+1,i,acc,[],hi,ha=>by
  have:J8_1 (acc:Int) ((7 * i:Nat):Int) ([],false,())=some (.inl (0,([],true,()))):=by
   unfold J8_1
   refine J63 ?_
   show J8_1_step (acc:Int) ((7 * i:Nat):Int) ([],false,())=_
   unfold J8_1_step
   rw [J5p (by omega),show (1:Int)=((1:Nat):Int) from rfl,Joh 1 (by omega),J5l]
   rfl
  rw [this]; rfl
 | k+1,i,acc,b::l,hi,ha=>by
  have hp:128 ^ i=2 ^ (7 * i):=by rw [Nat.pow_mul]
  have hb:=b.toNat_lt
  have hpi:128 ^ i≤128 ^ 5:=Nat.pow_le_pow_right (by omega) (by omega)
  have hpow:128 ^ (i+1)=128 ^ i * 128:=Nat.pow_succ ..
  have hm:(b.toNat % 128) * 128 ^ i≤127 * 128 ^ i:=Nat.mul_le_mul_right _ (by omega)
  have e:bor (acc:Int) (ishl ((UInt8.toNat (b &&& 127):Nat):Int) (7 * i))=((acc+(b.toNat % 128) * 128 ^ i:Nat):Int):=by
   rw [u8_and127,Jwp _ _ (by omega) (by rw [← hp]; omega),hp]
   have ho:=Ju2 acc (b.toNat % 128) (7 * i) (by rw [← hp]; exact ha)
   rw [Jsc _ _ (by rw [ho,← hp]; omega),ho]
  have ht:Jxu 1 (b::l,false,())=([b],(l,false,())):=by
   unfold Jxu
   rw [if_neg (by simp),if_neg (by simp)]; rfl
  have step:∀ r,J8_1_step (acc:Int) ((7 * i:Nat):Int) (b::l,false,())=some r↔(if b.toNat < 128 then (if 1099511627775 < acc+b.toNat * 128 ^ i then some (.inr (.inr (l,false,()))) else if b=0 then (if 0 < i then some (.inr (.inr (l,false,()))) else some (.inr (.inl (((acc+b.toNat * 128 ^ i:Nat):Int),l,false,())))) else some (.inr (.inl (((acc+b.toNat * 128 ^ i:Nat):Int),l,false,())))) else some (.inl (((acc+(b.toNat % 128) * 128 ^ i:Nat):Int),((7 * (i+1):Nat):Int),(l,false,()))))=some r:=by
   intro r
   unfold J8_1_step
   rw [J5p (by omega),show (1:Int)=((1:Nat):Int) from rfl,Joh 1 (by omega),J5l,ht]
   simp only [List.length_cons,List.length_nil,Int.toNat_zero,List.getD_cons_zero,Int.toNat_natCast,e]
   rw [J5o (by omega),J5m (by omega),J5m (by omega),J5q (by omega) (by omega)]
   by_cases h1:b.toNat < 128
   ·have hlt:b < 128:=UInt8.lt_iff_toNat_lt.2 h1
    rw [J5p hlt,if_pos h1,Nat.mod_eq_of_lt h1]
    by_cases h2:1099511627775 < acc+b.toNat * 128 ^ i
    ·rw [J5p (by omega),if_pos h2]
    ·rw [J5o (by omega),if_neg h2]
     by_cases h3:b=0
     ·rw [J5p h3,if_pos h3]
      by_cases h4:0 < i
      ·rw [J5p (by omega),if_pos h4]
      ·rw [J5o (by omega),if_neg h4]
     ·rw [J5o h3,if_neg h3]
   ·have hlt:¬ b < 128:=fun h=>h1 (UInt8.lt_iff_toNat_lt.1 h)
    rw [J5o hlt,if_neg h1,show ((7 * i:Nat):Int)+7=((7 * (i+1):Nat):Int) from by omega]
  rw [numF]
  by_cases h1:b.toNat < 128
  ·rw [if_pos h1]
   have go:∀ r,(if 1099511627775 < acc+b.toNat * 128 ^ i then some (.inr (.inr (l,false,()))) else if b=0 then (if 0 < i then some (.inr (.inr (l,false,()))) else some (.inr (.inl (((acc+b.toNat * 128 ^ i:Nat):Int),l,false,())))) else some (.inr (.inl (((acc+b.toNat * 128 ^ i:Nat):Int),l,false,()))))=some (.inr r:(Int×Int×Rdr)⊕((Int×Rdr)⊕Rdr))→
     J8_1 (acc:Int) ((7 * i:Nat):Int) (b::l,false,())=some r:=by
    intro r hr
    unfold J8_1
    refine J63 ?_
    refine (step _).2 ?_
    rw [if_pos h1]; exact hr
   by_cases h2:1099511627775 < acc+b.toNat * 128 ^ i
   ·rw [go (.inr (l,false,())) (if_pos h2),if_pos (Or.inl h2)]
   ·by_cases h3:b=0∧0 < i
    ·rw [go (.inr (l,false,())) (by rw [if_neg h2,if_pos h3.1,if_pos h3.2]),if_pos (Or.inr h3)]
    ·rw [go (.inl (((acc+b.toNat * 128 ^ i:Nat):Int),l,false,())) (by
      rw [if_neg h2]
      by_cases h4:b=0
      ·rw [if_pos h4,if_neg (fun h=>h3 ⟨h4,h⟩)]
      ·rw [if_neg h4]),if_neg (fun h=>h.elim h2 h3)]
  ·rw [if_neg h1,← Jpf k (i+1) (acc+(b.toNat % 128) * 128 ^ i) l (by omega) (by omega)]
   have hs:J8_1_step (acc:Int) ((7 * i:Nat):Int) (b::l,false,())=some (.inl (((acc+(b.toNat % 128) * 128 ^ i:Nat):Int),((7 * (i+1):Nat):Int),(l,false,()))):=(step _).2 (by rw [if_neg h1])
   unfold J8_1
   rw [J67 hs]
theorem number_eq (r:Rdr):J8 r=some (numS r):=by
 obtain ⟨l,b,u⟩:=r
 unfold J8 numS
 cases b with
 | true=>
  have:J8_1 0 0 (l,true,())=some (.inl (0,(l,true,()))):=by
   unfold J8_1
   refine J63 ?_
   show J8_1_step 0 0 (l,true,())=_
   unfold J8_1_step
   rw [J5p (by omega),show (1:Int)=((1:Nat):Int) from rfl,Joh 1 (by omega),J5l]
   rfl
  rw [show ((l,true,u):Rdr)=(l,true,()) from rfl,this]; rfl
 | false=>
  have:=Jpf 6 0 0 l rfl (by decide)
  rw [if_neg (by simp),← this]
  show andThen (J8_1 0 0 (l,false,())) _=match J8_1 0 0 (l,false,()) with | some (.inl o)=>_ | some (.inr o)=>_ | none=>_
  cases J8_1 0 0 (l,false,()) with
  | none=>rfl
  | some o=>cases o <;> rfl
theorem Jis {n:Nat} (h:n < 128):∀ f,putF f n=[UInt8.ofNat n]
 | 0=>rfl
 | f+1=>by rw [putF,if_pos h]
theorem Jpe:∀ (f k i acc n:Nat) (rest:List UInt8),i+k=6→(0 < i→1≤n)→acc+n * 128 ^ i≤1099511627775→acc < 128 ^ i→k≤f+1→(n < 128→1≤k)→numF k i acc (putF f n++rest)=(((acc+n * 128 ^ i:Nat):Int),rest,false,())
 | f,k,i,acc,n,rest,hi,hn,hb,ha,hk,h1=>by
  by_cases hs:n < 128
  ·rw [Jis hs f]
   obtain ⟨k,rfl⟩:∃ k',k=k'+1:=⟨k - 1,by have:=h1 hs; omega⟩
   show numF (k+1) i acc (UInt8.ofNat n::rest)=_
   have hb':(UInt8.ofNat n).toNat=n:=by rw [UInt8.toNat_ofNat']; omega
   rw [numF,hb',if_pos hs,if_neg]
   rintro (h | ⟨h,h0⟩)
   ·omega
   ·have:=hn h0
    rw [← UInt8.toNat_inj,hb'] at h
    have:n=0:=h
    omega
  ·have hpow:128 ^ (i+1)=128 ^ i * 128:=Nat.pow_succ ..
   have hi6:i < 5:=by
    rcases Nat.lt_or_ge i 5 with h | h
    ·exact h
    ·have:128 ^ 5≤128 ^ i:=Nat.pow_le_pow_right (by omega) h
     have:128 * 128 ^ i≤n * 128 ^ i:=Nat.mul_le_mul_right _ (by omega)
     omega
   obtain ⟨k,rfl⟩:∃ k',k=k'+1:=⟨k - 1,by omega⟩
   obtain ⟨f,rfl⟩:∃ f',f=f'+1:=⟨f - 1,by omega⟩
   rw [putF,if_neg hs,List.cons_append]
   have hb':(UInt8.ofNat (n % 128+128)).toNat=n % 128+128:=by rw [UInt8.toNat_ofNat']; omega
   rw [numF,hb',if_neg (by omega),show (n % 128+128) % 128=n % 128 from by omega]
   have he:acc+n % 128 * 128 ^ i+n / 128 * 128 ^ (i+1)=acc+n * 128 ^ i:=by
    have hn2:n * 128 ^ i=(n % 128+128 * (n / 128)) * 128 ^ i:=by congr 1; omega
    rw [hpow,hn2,Nat.add_mul,Nat.add_assoc]; congr 2; rw [Nat.mul_comm (128 ^ i) 128,← Nat.mul_assoc,Nat.mul_comm (n / 128) 128]
   have hm:(n % 128) * 128 ^ i≤127 * 128 ^ i:=Nat.mul_le_mul_right _ (by omega)
   rw [Jpe f k (i+1) _ (n / 128) rest (by omega) (fun _=>by omega) (by rw [he]; exact hb) (by omega) (by omega) (fun _=>by omega),he]
theorem Jtz (n:Int) (h0:0≤n) (h1:n≤1099511627775) (rest:List UInt8):numS (oneS n++rest,false,())=(n,rest,false,()):=by
 unfold numS oneS
 rw [if_neg (by simp),if_pos ⟨h0,h1⟩]
 have:=Jpe 6 6 0 0 n.toNat rest rfl (fun h=>by omega) (by omega) (by decide) (by omega) (fun _=>by omega)
 rw [this]
 congr 1
 omega
abbrev Hdr:=Int×Int×List UInt8×List UInt8×List UInt8×List UInt8×Unit
def J87 (h:Hdr):Bool:=decide (1≤h.1) && (decide (h.1≤16) && (decide (0≤h.2.1) && decide (h.2.1≤1073741824)))
theorem Jbt (h:Hdr):J2l h=some (J87 h):=by
 unfold J2l J87
 simp only [Jfl]
 cases decide (1≤h.1) <;> cases decide (h.1≤16) <;> cases decide (0≤h.2.1) <;> simp
theorem Jcw (h:Hdr):J87 h=true↔(1≤h.1∧h.1≤16)∧0≤h.2.1∧h.2.1≤1073741824:=by
 unfold J87
 simp only [Bool.and_eq_true,decide_eq_true_eq]
 exact ⟨fun ⟨a,b,c,d⟩=>⟨⟨a,b⟩,c,d⟩,fun ⟨⟨a,b⟩,c,d⟩=>⟨a,b,c,d⟩⟩
def J8p (h:Hdr):Prop:=h.2.2.1.length=32∧h.2.2.2.1.length=32∧h.2.2.2.2.1.length=32∧h.2.2.2.2.2.1.length=32
def Jn3 (h:Hdr):List UInt8:=oneS h.1++(oneS h.2.1++(h.2.2.1++(h.2.2.2.1++(h.2.2.2.2.1++h.2.2.2.2.2.1))))
def Jbd (h:Hdr):List UInt8:=if J87 h then Jn3 h else []
theorem Jvy (h:Hdr) (hh:J8p h):J4v h=some (Jbd h):=by
 obtain ⟨a,b,c,d⟩:=hh
 unfold J4v Jbd
 rw [Jbt,J5l]
 cases J87 h with
 | false=>rfl
 | true=>
  rw [show (!true)=false from rfl,J60,put_eq _ (by simp),J5l,Jt9 _ (by simp) (by
   intro x hx
   simp only [List.mem_cons,List.not_mem_nil,or_false] at hx
   rcases hx with rfl | rfl | rfl | rfl <;> assumption),J5l]
  have l1:=Jo6 [h.1,h.2.1]
  simp only [List.length_cons,List.length_nil] at l1
  rw [J5m (by simp; omega),if_pos rfl]
  congr 1
  simp [putS,Jn3,List.flatMap_cons]
theorem Jvx (h:Hdr) (hh:J8p h):(Jn3 h).length≤142:=by
 obtain ⟨a,b,c,d⟩:=hh
 have:=J6x h.1
 have:=J6x h.2.1
 unfold Jn3
 simp only [List.length_append]; omega
def zHdr:Hdr:=(0,0,List.replicate 32 0,List.replicate 32 0,List.replicate 32 0,List.replicate 32 0,())
theorem doneS (r:Rdr):J2q r=some (!r.2.1 && decide (r.1=[])):=by
 unfold J2q
 obtain ⟨l,b,u⟩:=r
 cases b with
 | true=>rfl
 | false=>
  show some (decide ((l.length:Int)=0))=some (true && decide (l=[]))
  rw [Bool.true_and]
  congr 1
  exact decide_eq_decide.2 ⟨fun h=>List.eq_nil_of_length_eq_zero (by omega),fun h=>by subst h; rfl⟩
theorem Jmi:∀ (f k n:Nat),n < 128 ^ (f+1)→f < k→f≤100→n≤1099511627775→J06_f k (n:Int)=some (putF f n)
 | f,0,n,h,hk,hf,hn=>by omega
 | f,k+1,n,h,hk,hf,hn=>by
  rw [J06_f,J5o (by omega),J5o (by omega)]
  by_cases h1:n < 128
  ·rw [J5p (by omega),Jis h1 f,J8a]
  ·rw [J5o (by omega)]
   cases f with
   | zero=>simp at h; omega
   | succ f=>
    have hd:n / 128 < 128 ^ (f+1):=by
     rw [Nat.div_lt_iff_lt_mul (by omega)]
     have:128 ^ (f+1+1)=128 ^ (f+1) * 128:=Nat.pow_succ ..
     omega
    rw [show Int.toNat 7=7 from rfl,Jp5 n 7 (by omega),show n / 2 ^ 7=n / 128 from rfl,Jmi f k (n / 128) hd (by omega) (by omega) (by omega),J5l,Js1 n (by omega),Jy7 _ (by omega),J8a]
    have:=Jke f (n / 128)
    rw [J5m (by simp; omega),putF,if_neg h1]; rfl
theorem Jkk (n:Int):J06 n=some (oneS n):=by
 unfold J06 oneS
 by_cases h0:n < 0
 ·rw [J06_f,J5p h0,if_neg (by omega)]
 ·by_cases h1:1099511627775 < n
  ·rw [J06_f,J5o h0,J5p h1,if_neg (by omega)]
  ·rw [if_pos (by omega)]
   obtain ⟨k,rfl⟩:=Int.eq_ofNat_of_zero_le (show 0≤n by omega)
   exact Jmi 6 64 k (by omega) (by omega) (by omega) (by omega)
theorem Jgl (h:Hdr) (hh:J8p h):J4k h=some (sha (72::Jbd h)):=by
 have hl:(Jbd h).length≤142:=by
  unfold Jbd; split
  ·exact Jvx h hh
  ·simp
 unfold J4k
 have hf:[Jbd h].flatten=Jbd h:=by simp
 rw [Jvy h hh,J5l,J72 _ _ (by rw [hf]; omega) (by simp),hf]
 rfl
abbrev J6n:=List UInt8×Sig×Unit
def zSg:J6n:=(([]:List UInt8),((0:Int),(([]:List (List UInt8)),([]:List (List UInt8)),()),([]:List (List UInt8)),()),())
def nmsS (s:List J6n):List (List UInt8):=s.map (·.1)
theorem Jpd (s:List J6n) (i:Nat):(s.getD i zSg).1=(nmsS s).getD i []:=by
 unfold nmsS
 rw [List.getD_eq_getElem?_getD,List.getD_eq_getElem?_getD,List.getElem?_map]
 cases s[i]? <;> rfl
def incS (s:List J6n):Bool:=incN (nmsS s)
def Jes (s:List J6n):Bool:=incS s && decide (s.length≤5)
theorem Jcv (s:List J6n) (i:Int):J1b_1_step s i=(fork (decide (i < (s.length:Int))) (need (0≤(w64 (i - 1))∧(w64 (i - 1)) < (s.length:Int)) (need (0≤i∧i < (s.length:Int)) (fork (!J62 (s.getD (Int.toNat (w64 (i - 1))) zSg).1 (s.getD (Int.toNat i) zSg).1) (some (.inr (.inl false))) (some (.inl (w64 (i+1))))))) (some (.inr (.inr s))):Option (Int⊕(Bool⊕List J6n))):=rfl
theorem Jpz (s:List J6n) {ρ:Type} (r r0:ρ):∀ (k i:Nat),i+k=s.length - 1→(∀ j,j < i→J62 (s.getD j zSg).1 (s.getD (j+1) zSg).1=true)→
  scan (fun i=>if J62 (s.getD i zSg).1 (s.getD (i+1) zSg).1=true then none else some r) r0 i k=if incS s=true then r0 else r
 | 0,i,h,hj=>by
  have:incS s=true:=List.all_eq_true.2 fun j hj'=>by
   have hj':j < (nmsS s).length - 1:=by simpa using hj'
   have hl:(nmsS s).length=s.length:=by simp [nmsS]
   rw [← Jpd,← Jpd]
   exact hj j (by omega)
  rw [if_pos this]; rfl
 | k+1,i,h,hj=>by
  rw [scan]
  by_cases e:J62 (s.getD i zSg).1 (s.getD (i+1) zSg).1=true
  ·rw [if_pos e]
   exact Jpz s r r0 k (i+1) (by omega) fun j hj'=>by
    rcases (show j < i∨j=i by omega) with h1 | rfl
    ·exact hj j h1
    ·exact e
  ·rw [if_neg e]
   have hl:(nmsS s).length=s.length:=by simp [nmsS]
   have:¬ incS s=true:=fun hall=>e (by
    have:=List.all_eq_true.1 hall i (by simp; omega)
    rwa [← Jpd,← Jpd] at this)
   rw [if_neg this]
theorem Jmm (s:List J6n) (hs:s.length≤1073741824):J1b s=some (Jes s):=by
 have h:J1b_1 s 1=some (scan (fun i=>if J62 (s.getD i zSg).1 (s.getD (i+1) zSg).1=true then none else some (.inl false)) (.inr s) 0 (s.length - 1)):=by
  unfold J1b_1
  refine J7l (step:=fun (x:Int)=>J1b_1_step s x) (fun i=>((i+1:Nat):Int)) _ _ (s.length - 1) (fun i hi h=>?_) (fun i r hi h=>?_) ?_ (s.length - 1) 0 (by omega)
  ·rw [Jcv,J5p (by omega),J5q (n:=((i+1:Nat):Int) - 1) (by omega) (by omega),J5m (by omega),J5m (by omega),show Int.toNat (((i+1:Nat):Int) - 1)=i from by omega,Int.toNat_natCast]
   by_cases e:J62 (s.getD i zSg).1 (s.getD (i+1) zSg).1=true
   ·rw [e,J5q (by omega) (by omega)]; rfl
   ·rw [if_neg e] at h; cases h
  ·rw [Jcv,J5p (by omega),J5q (n:=((i+1:Nat):Int) - 1) (by omega) (by omega),J5m (by omega),J5m (by omega),show Int.toNat (((i+1:Nat):Int) - 1)=i from by omega,Int.toNat_natCast]
   by_cases e:J62 (s.getD i zSg).1 (s.getD (i+1) zSg).1=true
   ·rw [if_pos e] at h; cases h
   ·rw [if_neg e] at h; injection h with h; subst h
    rw [Bool.not_eq_true] at e
    rw [e]; rfl
  ·rw [Jcv,J5o (by omega)]
 unfold J1b Jes
 rw [h,J5l,Jpz s _ _ (s.length - 1) 0 (by omega) (fun j hj=>by omega)]
 cases incS s with
 | true=>
  show some (decide ((s.length:Int)≤5))=some (true && decide (s.length≤5))
  rw [Bool.true_and]
  congr 1
  exact decide_eq_decide.2 (by omega)
 | false=>rfl
def Jv9 (h:Hdr):List UInt8:=sha (72::Jbd h)
theorem Jmt (h:Hdr):(Jv9 h).length=32:=J6w _
theorem Jva (h:Hdr) (hh:J8p h):J4o h=some (Jv9 h):=by
 unfold J4o
 rw [Jgl h hh]
 rfl
noncomputable def sgS (h:Hdr) (n seed:List UInt8):J6n:=(n,sigS seed h.1 (Jv9 h),())
def SgOk (s:List J6n):Prop:=∀ x ∈ s,Jqh x.2.1
theorem sg_at {s:List J6n} (h:SgOk s) (i:Nat):Jqh (s.getD i zSg).2.1:=by
 rw [List.getD_eq_getElem?_getD]
 cases e:s[i]? with
 | none=>exact Jwx
 | some x=>exact h x (List.mem_of_getElem? e)
def Jqz (set:List Val) (h:Int) (d:List UInt8) (x:J6n):Bool:=(Jlg set x.1).2 && verS (Jlg set x.1).1.2.2.1 h d x.2.1
def Jb2 (set:List Val) (h:Int) (d:List UInt8) (s:List J6n):List (List UInt8):=(s.filter (Jqz set h d)).map (·.1)
def Jf7 (set:List Val) (h:Hdr) (s:List J6n):List (List UInt8):=if Jes s then Jb2 set h.1 (Jv9 h) s else []
theorem Jik (set:List Val) (h:Int) (d:List UInt8) (s:List J6n):(Jb2 set h d s).length≤s.length:=by
 unfold Jb2
 rw [List.length_map]
 exact List.length_filter_le _ _
theorem Jnz (set:List Val) (h:Int) (d:List UInt8) (s:List J6n) {i:Nat} (hi:i < s.length):Jb2 set h d (s.take (i+1))=Jb2 set h d (s.take i)++(if Jqz set h d (s.getD i zSg) then [(s.getD i zSg).1] else []):=by
 unfold Jb2
 rw [List.take_add_one,List.getElem?_eq_getElem hi,List.getD_eq_getElem?_getD,List.getElem?_eq_getElem hi]
 simp only [Option.toList_some,Option.getD_some,List.filter_append,List.map_append]
 by_cases hg:Jqz set h d s[i]
 ·rw [List.filter_cons_of_pos hg,if_pos hg]; rfl
 ·rw [List.filter_cons_of_neg hg,if_neg hg]; rfl
theorem Jgz (set:List Val) (s:List J6n) (n i:Int) (h:Hdr) (o:List (List UInt8)) (d:List UInt8):J13_1_step set s n i h o d=(fork (decide (i < n)) (need (0≤i∧i < (s.length:Int)) (andThen (J1i set (s.getD (Int.toNat i) zSg).1) (fun u9=>fork u9.2 (andThen (J4f u9.1.2.2.1 h.1 d (s.getD (Int.toNat i) zSg).2.1) (fun u12=>fork u12 (need (o.length+([(s.getD (Int.toNat i) zSg).1]:List (List UInt8)).length≤2147483648) (some (.inl ((w64 (i+1)),o++([(s.getD (Int.toNat i) zSg).1]:List (List UInt8)))))) (some (.inl ((w64 (i+1)),o))))) (some (.inl ((w64 (i+1)),o)))))) (some (.inr o)):Option ((Int×List (List UInt8))⊕(List (List UInt8)))):=rfl
theorem Jww (set:List Val) (hset:set.length≤1073741824) (h:Hdr) (hh:J8p h) (s:List J6n) (hl:s.length≤1073741824) (hs:SgOk s):J13 set h s=some (Jf7 set h s):=by
 unfold J13 Jf7
 rw [Jmm s hl,J5l]
 cases hr:Jes s with
 | false=>rfl
 | true=>
  have main:∀ d:List UInt8,d.length≤100000→J13_1 set s (s.length:Int) 0 h [] d=some (Jb2 set h.1 d s):=by
   intro d hd
   unfold J13_1
   have:=J5v (step:=fun (x:Int×List (List UInt8))=>J13_1_step set s (s.length:Int) x.1 h x.2 d) (fun i (_:Unit)=>((i:Int),Jb2 set h.1 d (s.take i))) (fun _ _=>()) (fun _=>Jb2 set h.1 d s) s.length (fun _ _=>True) (fun i w hi _=>⟨?_,trivial⟩) (fun w _=>?_) s.length 0 () (by omega) trivial
   ·exact this
   ·show J13_1_step set s (s.length:Int) (i:Int) h (Jb2 set h.1 d (s.take i)) d=_
    have b:=Jik set h.1 d (s.take i)
    rw [List.length_take] at b
    have t:=Jnz set h.1 d s hi
    rw [Jgz,J5p (by omega),J5m (by omega),Int.toNat_natCast,Jzb set hset,J5l,t,J5q (by omega) (by omega)]
    unfold Jqz
    cases hf:(Jlg set (s.getD i zSg).1).2 with
    | false=>rw [J60,Bool.false_and,if_neg (by simp),List.append_nil]; rfl
    | true=>
     rw [J74,Bool.true_and,Ver_eq _ _ d hd _ (sg_at hs i),J5l]
     cases hv:verS (Jlg set (s.getD i zSg).1).1.2.2.1 h.1 d (s.getD i zSg).2.1 with
     | false=>rw [J60,if_neg (by simp),List.append_nil]; rfl
     | true=>rw [J74,J5m (by simp; omega),if_pos rfl]; rfl
   ·show J13_1_step set s (s.length:Int) (s.length:Int) h (Jb2 set h.1 d (s.take s.length)) d=_
    rw [Jgz,J5o (by omega),List.take_of_length_le (Nat.le_refl _)]
  rw [show (!true)=false from rfl,J60,Jva h hh,J5l,main _ (by rw [Jmt]; omega),if_pos rfl]
  rfl
theorem Jr7 (set:List Val) (h:Hdr) (s:List J6n):(Jf7 set h s).length≤s.length:=by
 unfold Jf7
 split
 ·exact Jik _ _ _ _
 ·simp
def Jfe (set:List Val) (h:Hdr) (s:List J6n):Int:=pow (fun v=>(Jf7 set h s).contains v.1) set
def allS (set:List Val):Int:=pow (fun _=>true) set
theorem Jyk (set:List Val) (hset:Jb0 set) (h:Hdr) (s:List J6n):0≤Jfe set h s∧Jfe set h s≤4294967296:=by
 have:=J9h (fun v=>(Jf7 set h s).contains v.1) set hset.2
 have:=hset.1
 unfold Jfe
 omega
theorem all_b (set:List Val) (hset:Jb0 set):0≤allS set∧allS set≤4294967296:=by
 have:=J9h (fun _=>true) set hset.2
 have:=hset.1
 unfold allS
 omega
theorem Jfb (set:List Val) (hset:Jb0 set) (h:Hdr) (hh:J8p h) (s:List J6n) (hl:s.length≤1000000) (hs:SgOk s):J4a set h s=some (Jfe set h s,allS set):=by
 have:=Jr7 set h s
 unfold J4a
 rw [Jww set (by have:=hset.1; omega) h hh s (by omega) hs,J5l,Jxv set hset _ (by omega)]
 rfl
theorem Jsq (set:List Val) (hset:Jb0 set) (h:Hdr) (hh:J8p h) (s:List J6n) (hl:s.length≤1000000) (hs:SgOk s):J47 set h s=some (decide (allS set * 2 < Jfe set h s * 3)):=by
 unfold J47
 rw [Jfb set hset h hh s hl hs,J5l,Ju5 _ 2 3 (Jyk set hset h s) (all_b set hset) (by omega) (by omega)]
 rfl
theorem Km (set:List Val) (hset:Jb0 set) (h:Hdr) (hh:J8p h) (s:List J6n) (hl:s.length≤1000000) (hs:SgOk s):J4n set h s=some (decide (allS set * 1 < Jfe set h s * 3)):=by
 unfold J4n
 rw [Jfb set hset h hh s hl hs,J5l,Ju5 _ 1 3 (Jyk set hset h s) (all_b set hset) (by omega) (by omega)]
 rfl
theorem Jho (a lo hi:Int) (h:lo≤hi) (h1:-1099511627776≤lo) (h2:hi≤1099511627776):∃ r,J0s a lo hi=some r∧lo≤r∧r≤hi:=by
 unfold J0s
 have hn:w64 (w64 (hi - lo)+1)=hi - lo+1:=by simp (disch:=omega) only [J5q]
 rw [hn,J5m (by omega)]
 have hb:Int.tmod a (hi - lo+1) < hi - lo+1∧-(hi - lo+1) < Int.tmod a (hi - lo+1):=by
  constructor
  ·exact Int.tmod_lt_of_pos a (by omega)
  ·have:=Int.tmod_lt_of_pos (-a) (b:=hi - lo+1) (by omega)
   rw [Int.neg_tmod] at this; omega
 generalize Int.tmod a (hi - lo+1)=t at hb
 by_cases ht:t < 0
 ·rw [J5p ht]
  simp (disch:=omega) only [J5q]
  exact ⟨_,rfl,by omega,by omega⟩
 ·rw [J5o ht]
  simp (disch:=omega) only [J5q]
  exact ⟨_,rfl,by omega,by omega⟩
def nm (i:Nat):List UInt8:=([[118,97],[118,98],[118,99],[118,100]]:List (List UInt8)).getD i []
def ky (i:Nat):List UInt8:=List.set (List.replicate 32 (0:UInt8)) 0 (UInt8.ofNat (Int.toNat (((i:Int)+1) % 256)))
def wv (a:Int):Int:=(J0s a 1 9).getD 1
theorem wv_eq (a:Int):J0s a 1 9=some (wv a)∧1≤wv a∧wv a≤9:=by
 obtain ⟨r,h,h1,h2⟩:=Jho a 1 9 (by omega) (by omega) (by omega)
 unfold wv; rw [h]; exact ⟨rfl,h1,h2⟩
def pw (ps:List Int) (i:Nat):Int:=if i < ps.length then wv (ps.getD i 0) else 1
theorem pw_b (ps:List Int) (i:Nat):1≤pw ps i∧pw ps i≤9:=by
 unfold pw; split
 ·exact (wv_eq _).2
 ·omega
def setN (ps:List Int):Nat:=max 1 (min 4 ps.length)
def Jnx (p:Nat→Int) (i:Nat):Val:=(nm i,p i,ky i,())
def setS (ps:List Int):List Val:=(List.range (setN ps)).map (Jnx (pw ps))
def Jev (ps:List Int) (i:Nat) (l:List Val):List Val:=if i=0∨i < ps.length then l++[Jnx (pw ps) i] else l
theorem Kj (ps:List Int):J6f (Jev ps) 0 4 []=setS ps:=by
 unfold setS setN
 simp only [J6f,Jev]
 by_cases h3:3 < ps.length
 ·rw [show max 1 (min 4 ps.length)=4 from by omega]; simp [h3,show 1 < ps.length from by omega,show 2 < ps.length from by omega,List.range_succ]
 ·by_cases h2:2 < ps.length
  ·rw [show max 1 (min 4 ps.length)=3 from by omega]; simp [h3,h2,show 1 < ps.length from by omega,List.range_succ]
  ·by_cases h1:1 < ps.length
   ·rw [show max 1 (min 4 ps.length)=2 from by omega]; simp [h3,h2,h1,List.range_succ]
   ·rw [show max 1 (min 4 ps.length)=1 from by omega]; simp [h3,h2,h1,List.range_succ]
theorem set_eq (ps:List Int) (hp:ps.length≤140737488351232):J05 ps=some (setS ps):=by
 unfold J05 J43
 rw [J5l]
 have main:J05_1 ps 4 0 [] [[118,97],[118,98],[118,99],[118,100]]=some (J6f (Jev ps) 0 4 []):=by
  unfold J05_1
  refine J5v (step:=fun (s:Int×List Val)=>J05_1_step ps 4 s.1 s.2 [[118,97],[118,98],[118,99],[118,100]]) (fun i l=>((i:Int),l)) (Jev ps) (fun l=>l) 4 (fun i l=>l.length≤i) (fun i l hi hl=>⟨?_,?_⟩) (fun l hl=>?_) 4 0 [] (by omega) (by simp)
  ·show J05_1_step ps 4 (i:Int) l [[118,97],[118,98],[118,99],[118,100]]=_
   unfold J05_1_step
   have hlen:List.length [([118,97]:List UInt8),[118,98],[118,99],[118,100]]=4:=rfl
   have hw:=(wv_eq (ps.getD i 0)).1
   have ho:∀ x:Val,List.length [x]=1:=fun _=>rfl
   simp (disch:=omega) only [hlen,J5p,J5m,Int.toNat_natCast,J5q,hw,J5l,ho]
   unfold Jev Jnx pw
   by_cases h0:i=0
   ·rw [J5p (by omega),if_pos (Or.inl h0)]
    by_cases hc:i < ps.length
    ·rw [J5p (by omega),J5m (by omega),if_pos hc]; rfl
    ·rw [J5o (by omega),if_neg hc]; rfl
   ·rw [J5o (by omega)]
    by_cases hc:i < ps.length
    ·rw [J5p (by omega),J5m (by omega),if_pos (Or.inr hc),if_pos hc]; rfl
    ·rw [J5o (by omega),if_neg (by omega)]; rfl
  ·unfold Jev
   split
   ·simp; omega
   ·omega
  ·show J05_1_step ps 4 4 l _=_
   unfold J05_1_step
   rfl
 show andThen (J05_1 ps 4 0 [] [[118,97],[118,98],[118,99],[118,100]]) _=_
 rw [main,J5l,Kj]
def J8h (i:Nat):List UInt8:=List.set (List.set (List.replicate 32 (0:UInt8)) 0 (77:UInt8)) 1 (UInt8.ofNat i)
theorem Jhf (i:Nat):(J8h i).length=32:=by simp [J8h]
theorem Jno (i:Nat):J3m (i:Int)=some (J8h i):=by
 unfold J3m
 rw [J8a]
 rfl
noncomputable def Jgw (p:Nat→Int) (i:Nat):Val:=(nm i,p i,Jif (J8h i),())
noncomputable def J68 (p:Nat→Int) (n:Nat):List Val:=(List.range n).map (Jgw p)
noncomputable def ringS (ps:List Int):List Val:=J68 (pw ps) (setN ps)
noncomputable def midS (p:Nat→Int) (n i:Nat):List Val:=(List.range n).map fun j=>if j < i then Jgw p j else Jnx p j
theorem mid_step (p:Nat→Int) (n i:Nat) (h:i < n):List.set (midS p n i) i (((midS p n i).getD i zVal).1,((midS p n i).getD i zVal).2.1,Jif (J8h i),())=midS p n (i+1):=by
 have hg:(midS p n i).getD i zVal=Jnx p i:=by
  unfold midS
  rw [List.getD_eq_getElem?_getD,List.getElem?_map,List.getElem?_range h]
  simp
 rw [hg]
 unfold midS
 apply List.ext_getElem
 ·simp
 ·intro j h1 h2
  rw [List.getElem_set]
  simp only [List.getElem_map,List.getElem_range]
  by_cases e:i=j
  ·subst e; rw [if_pos rfl,if_pos (by omega)]; rfl
  ·rw [if_neg e]
   by_cases c:j < i
   ·rw [if_pos c,if_pos (by omega)]
   ·rw [if_neg c,if_neg (by omega)]
theorem setN_b (ps:List Int):1≤setN ps∧setN ps≤4:=by unfold setN; omega
theorem Jyj:∀ i,i < 4→∀ j,j < 4→nm i=nm j→i=j:=by decide
theorem Jyi:∀ i,i < 4→∀ j,j < 4→i < j→J62 (nm i) (nm j)=true:=by decide
theorem Jrg (p:Nat→Int) (n:Nat) (h:n≤4):Dist (J68 p n):=by
 unfold Dist J68
 rw [List.map_map]
 rw [List.nodup_iff_pairwise_ne,List.pairwise_map]
 refine List.Pairwise.imp_of_mem (fun {a b} ha hb hab e=>hab (Jyj a (by have:=List.mem_range.1 ha; omega) b (by have:=List.mem_range.1 hb; omega) e)) (List.nodup_iff_pairwise_ne.1 List.nodup_range)
theorem Jo8 (p:Nat→Int) (n:Nat) (h:n≤4) (hp:∀ i,0≤p i∧p i≤2097152):Jb0 (J68 p n):=by
 refine ⟨by simp [J68]; omega,fun v hv=>?_⟩
 obtain ⟨i,_,rfl⟩:=List.mem_map.1 hv
 exact hp i
theorem Jwi (set:List Val) (hd:Dist set) (h:Hdr) (h1:1≤h.1) (h2:h.1≤16) (v:Val) (hv:v ∈ set) (seed:List UInt8) (hk:v.2.2.1=Jif seed):Jqz set h.1 (Jv9 h) (sgS h v.1 seed)=true:=by
 unfold Jqz sgS
 simp only
 rw [Jzc hd hv,hk,Kw _ _ _ h1 h2,Jd6]
 rfl
theorem sgS_ok (h:Hdr) (h1:1≤h.1) (h2:h.1≤16) (n seed:List UInt8):Jqh (sgS h n seed).2.1:=sig_ok seed h.1 h1 h2 _
noncomputable def sgJ (h:Hdr) (js:List Nat):List J6n:=js.map fun j=>sgS h (nm j) (J8h j)
def pwJ (p:Nat→Int) (js:List Nat):Int:=(js.map p).sum
theorem pwJ_b (p:Nat→Int) (hp:∀ i,0≤p i∧p i≤2097152):∀ js,0≤pwJ p js∧pwJ p js≤2097152 * js.length
 | []=>⟨Int.le_refl _,Int.le_refl _⟩
 | j::js=>by
  have:=pwJ_b p hp js
  have:=hp j
  unfold pwJ at *
  rw [List.map_cons,List.sum_cons,List.length_cons]
  omega
theorem Jx7 (p:Nat→Int) (js ks:List Nat):pwJ p (js++ks)=pwJ p js+pwJ p ks:=by
 unfold pwJ; rw [List.map_append,List.sum_append]
theorem Jty (h:Hdr) (js:List Nat):nmsS (sgJ h js)=js.map nm:=by
 unfold nmsS sgJ
 rw [List.map_map]
 rfl
theorem Jtb {js:List Nat} (h1:js.Pairwise (· < ·)) (h2:∀ j ∈ js,j < 4):incN (js.map nm)=true:=by
 refine Jzi _ ?_
 rw [List.pairwise_map]
 exact List.Pairwise.imp_of_mem (fun {a b} ha hb hab=>Jyi a (h2 a ha) b (h2 b hb) hab) h1
theorem sgJ_ok (h:Hdr) (h1:1≤h.1) (h2:h.1≤16) (js:List Nat):SgOk (sgJ h js):=by
 intro x hx
 obtain ⟨j,_,rfl⟩:=List.mem_map.1 hx
 exact sgS_ok h h1 h2 _ _
theorem Jum (h:Hdr) {js:List Nat} (h1:js.Pairwise (· < ·)) (h2:∀ j ∈ js,j < 4) (h3:js.length≤4):Jes (sgJ h js)=true:=by
 unfold Jes incS
 rw [Jty,Jtb h1 h2,Bool.true_and,decide_eq_true_eq]
 simp [sgJ]; omega
theorem Jrc (q:Val→Bool) (a b:List Val):pow q (a++b)=pow q a+pow q b:=by
 unfold pow
 rw [List.filter_append,List.map_append,List.sum_append]
theorem Jka (p:Nat→Int) (q:Val→Bool) (f:Nat→Bool):∀ n,(∀ i,i < n→q (Jgw p i)=f i)→pow q (J68 p n)=pwJ p ((List.range n).filter f)
 | 0,_=>rfl
 | n+1,h=>by
  have e:J68 p (n+1)=J68 p n++[Jgw p n]:=by unfold J68; rw [List.range_succ,List.map_append]; rfl
  rw [e,Jrc,Jka p q f n fun i hi=>h i (by omega),List.range_succ,List.filter_append,Jx7,Jx2,Jzu,h n (by omega)]
  congr 1
  by_cases c:f n
  ·rw [if_pos c,List.filter_cons_of_pos c,List.filter_nil]; simp [pwJ,Jgw]
  ·rw [if_neg c,List.filter_cons_of_neg c,List.filter_nil]; rfl
theorem Jn6 {js:List Nat} {i:Nat} (h:∀ j ∈ js,j < 4) (hi:i < 4):(js.map nm).contains (nm i)=js.contains i:=by
 rw [Bool.eq_iff_iff]
 simp only [List.contains_iff_mem]
 constructor
 ·intro hm
  obtain ⟨j,hj,e⟩:=List.mem_map.1 hm
  rw [← Jyj j (h j hj) i hi e]
  exact hj
 ·exact fun hm=>List.mem_map_of_mem hm
theorem Juv (h:Hdr) (js:List Nat):(sgJ h js).length=js.length:=by simp [sgJ]
def txtS (x:List UInt8):List UInt8:=oneS x.length++x
theorem Jey (x:List UInt8):(txtS x).length≤x.length+7:=by
 have:=J6x (x.length:Int)
 unfold txtS; rw [List.length_append]; omega
theorem Jqb (l:List (List UInt8)) (hl:l.length≤1000) (h:∀ x ∈ l,x.length≤100000):J10 l=some (l.flatMap txtS):=by
 have hlen:∀ i,((l.take i).flatMap txtS).length≤100007 * i:=by
  intro i
  have:∀ (m:List (List UInt8)),(∀ x ∈ m,x.length≤100000)→(m.flatMap txtS).length≤100007 * m.length:=by
   intro m
   induction m with
   | nil=>intro _; simp
   | cons a m ih=>intro hm; have h1:=ih (fun x hx=>hm x (List.mem_cons_of_mem _ hx)); have h2:=hm a List.mem_cons_self; have h3:=Jey a; rw [List.flatMap_cons,List.length_append,List.length_cons]; omega
  have:=this (l.take i) fun x hx=>h x (List.mem_of_mem_take hx)
  rw [List.length_take] at this; omega
 have main:J10_1 l (l.length:Int) 0 []=some (l.flatMap txtS):=by
  unfold J10_1
  have:=J5v (step:=fun (s:Int×List UInt8)=>J10_1_step l (l.length:Int) s.1 s.2) (fun i (_:Unit)=>((i:Int),(l.take i).flatMap txtS)) (fun _ _=>()) (fun _=>l.flatMap txtS) l.length (fun _ _=>True) (fun i w hi _=>⟨?_,trivial⟩) (fun w _=>?_) l.length 0 () (by omega) trivial
  ·exact this
  ·show J10_1_step l (l.length:Int) (i:Int) ((l.take i).flatMap txtS)=_
   unfold J10_1_step
   have b:=hlen i
   have hm:(l.getD i []).length≤100000:=h _ (J6g hi)
   have b2:=J6x ((l.getD i []).length:Int)
   rw [J5p (by omega),J5m (by omega),Int.toNat_natCast,Ju1,J5l,J5m (by omega),J5m (by rw [List.length_append]; omega),J5q (by omega) (by omega),List.append_assoc,Jbh txtS l [] hi]
   rfl
  ·show J10_1_step l (l.length:Int) (l.length:Int) ((l.take l.length).flatMap txtS)=_
   unfold J10_1_step
   rw [J5o (by omega),List.take_of_length_le (Nat.le_refl _)]
 unfold J10
 rw [main,J5l]
theorem Jzf (n:Nat) (h:n≤1000000000):J1w (n:Int)=some []:=by
 unfold J1w
 rw [J5o (by omega),Int.sub_zero,J5q (by omega) (by omega)]
 by_cases c:(0:Int) < (n:Int)
 ·rw [J5p c,J5m ⟨rfl,rfl⟩,J5m (by rw [List.length_replicate]; omega),J5m (by omega),J5m (by rw [List.length_replicate]; omega)]
  rfl
 ·rw [J5o c]
theorem Jsf (l:List (List UInt8)) (h:l.flatten.length≤1000000000) (hl:l.length≤1000000):J5 l=some l.flatten:=by
 have ht:∀ i,((l.take i).flatten).length≤1000000000:=fun i=>Nat.le_trans (J9y l i) h
 have m1:J5_1 l 0 l (l.length:Int) 0=some (l,(l.flatten.length:Int)):=by
  unfold J5_1
  have:=J5v (step:=fun (s:Int×Int)=>J5_1_step l s.1 l (l.length:Int) s.2) (fun i (_:Unit)=>((((l.take i).flatten).length:Int),(i:Int))) (fun _ _=>()) (fun _=>(l,(l.flatten.length:Int))) l.length (fun _ _=>True) (fun i w hi _=>⟨?_,trivial⟩) (fun w _=>?_) l.length 0 () (by omega) trivial
  ·exact this
  ·show J5_1_step l (((l.take i).flatten).length:Int) l (l.length:Int) (i:Int)=_
   unfold J5_1_step
   have e:=congrArg List.length (getD_take l hi)
   rw [List.length_append] at e
   have b:=ht (i+1)
   rw [J5p (by omega),J5m (by omega),Int.toNat_natCast,J5q (n:=(((l.take i).flatten).length:Int)+((l.getD i []).length:Int)) (by omega) (by omega),J5o (by omega),J5q (by omega) (by omega)]
   congr 3
   omega
  ·show J5_1_step l (((l.take l.length).flatten).length:Int) l (l.length:Int) (l.length:Int)=_
   unfold J5_1_step
   rw [J5o (by omega),List.take_of_length_le (Nat.le_refl _)]
 have m2:J5_2 l (l.length:Int) 0 []=some l.flatten:=by
  unfold J5_2
  have:=J5v (step:=fun (s:Int×List UInt8)=>J5_2_step l (l.length:Int) s.1 s.2) (fun i (_:Unit)=>((i:Int),(l.take i).flatten)) (fun _ _=>()) (fun _=>l.flatten) l.length (fun _ _=>True) (fun i w hi _=>⟨?_,trivial⟩) (fun w _=>?_) l.length 0 () (by omega) trivial
  ·exact this
  ·show J5_2_step l (l.length:Int) (i:Int) ((l.take i).flatten)=_
   unfold J5_2_step
   have e:=congrArg List.length (getD_take l hi)
   rw [List.length_append] at e
   have b:=ht (i+1)
   rw [J5p (by omega),J5m (by omega),Int.toNat_natCast,J5m (by omega),J5q (by omega) (by omega),getD_take l hi]
   rfl
  ·show J5_2_step l (l.length:Int) (l.length:Int) ((l.take l.length).flatten)=_
   unfold J5_2_step
   rw [J5o (by omega),List.take_of_length_le (Nat.le_refl _)]
 unfold J5
 rw [m1,J5l]
 simp only
 rw [Jzf _ h,J5l,m2,J5l]
def valB (v:Val):List UInt8:=txtS v.1++oneS v.2.1++v.2.2.1
def setB (l:List Val):List UInt8:=oneS l.length++l.flatMap valB
def setH (l:List Val):List UInt8:=sha (86::setB l)
def Jrw (l:List Val):Prop:=l.length≤1000∧∀ v ∈ l,v.1.length≤100000∧v.2.2.1.length=32
theorem J9w (l:List Val):(setH l).length=32:=J6w _
theorem Jq8 {v:Val} (h:v.1.length≤100000∧v.2.2.1.length=32):(valB v).length≤100100:=by
 have h1:=Jey v.1
 have h2:=J6x v.2.1
 unfold valB
 rw [List.length_append,List.length_append]; omega
theorem Jq9:∀ (m:List Val),(∀ v ∈ m,v.1.length≤100000∧v.2.2.1.length=32)→(m.flatMap valB).length≤100100 * m.length
 | [],_=>by simp
 | a::m,hm=>by
  have h1:=Jq9 m fun x hx=>hm x (List.mem_cons_of_mem _ hx)
  have h2:=Jq8 (hm a List.mem_cons_self)
  rw [List.flatMap_cons,List.length_append,List.length_cons]; omega
theorem Jhi {l:List Val} (h:Jrw l) (i:Nat):(oneS l.length++(l.take i).flatMap valB).length≤100100 * 1000+7:=by
 have h1:=J6x (l.length:Int)
 have h2:=Jq9 (l.take i) fun v hv=>h.2 v (List.mem_of_mem_take hv)
 have h3:=h.1
 rw [List.length_take] at h2
 rw [List.length_append]
 have:min i l.length≤1000:=by omega
 have:100100 * min i l.length≤100100 * 1000:=Nat.mul_le_mul_left _ this
 omega
theorem Jeb (x0:List Val) (x1:Int) (x2:Int) (x3:List UInt8) (x4:List UInt8):J0c_1_step x0 x1 x2 x3 x4=(fork (decide (x2 < x1)) (need (0≤x2∧x2 < (List.length x0:Int)) (andThen (J10 ([(List.getD x0 (Int.toNat x2) zVal).1]:List (List UInt8))) (fun u6=>andThen (J0n ([(List.getD x0 (Int.toNat x2) zVal).2.1]:List (Int))) (fun u8=>andThen (J0z ([(List.getD x0 (Int.toNat x2) zVal).2.2.1]:List (List UInt8))) (fun u10=>andThen (J5 ([x4,u6,u8,u10]:List (List UInt8))) (fun u12=>some (.inl ((w64 (x2+(1:Int))),u12)))))))) (some (.inr (x3,x4))):Option ((Int×List UInt8)⊕(List UInt8×List UInt8))):=rfl
theorem J8k (l:List Val) (h:Jrw l):J0c l=some (setH l):=by
 have hl:=h.1
 have main:J0c_1 l (l.length:Int) 0 (List.replicate 32 0) (oneS l.length)=some (List.replicate 32 0,setB l):=by
  unfold J0c_1
  have:=J5v (step:=fun (s:Int×List UInt8)=>J0c_1_step l (l.length:Int) s.1 (List.replicate 32 0) s.2) (fun i (_:Unit)=>((i:Int),oneS l.length++(l.take i).flatMap valB)) (fun _ _=>()) (fun _=>(List.replicate 32 0,setB l)) l.length (fun _ _=>True) (fun i w hi _=>⟨?_,trivial⟩) (fun w _=>?_) l.length 0 () (by omega) trivial
  ·rw [show ((0:Int),oneS (l.length:Int))=(((0:Nat):Int),oneS (l.length:Int)++(l.take 0).flatMap valB) from by simp]
   exact this
  ·show J0c_1_step l (l.length:Int) (i:Int) (List.replicate 32 0) (oneS l.length++(l.take i).flatMap valB)=_
   have hv:=h.2 _ (J6g (z:=zVal) hi)
   have b:=Jhi h i
   have b2:=Jq8 hv
   rw [Jeb,J5p (by omega),J5m (by omega),Int.toNat_natCast,Jqb _ (by simp) (by simp; exact hv.1),J5l,put_eq _ (by simp),J5l,Jt9 _ (by simp) (by simp; exact hv.2),J5l]
   have e:[oneS (l.length:Int)++(l.take i).flatMap valB,[(l.getD i zVal).1].flatMap txtS,putS [(l.getD i zVal).2.1],[(l.getD i zVal).2.2.1].flatten].flatten=oneS (l.length:Int)++(l.take (i+1)).flatMap valB:=by
    rw [Jbh valB l zVal hi]
    simp [valB,putS,List.append_assoc]
   have b3:=Jhi h (i+1)
   rw [Jsf _ (by rw [e]; omega) (by simp),J5l,e,J5q (by omega) (by omega)]
   rfl
  ·show J0c_1_step l (l.length:Int) (l.length:Int) (List.replicate 32 0) (oneS l.length++(l.take l.length).flatMap valB)=_
   unfold J0c_1_step
   rw [J5o (by omega),List.take_of_length_le (Nat.le_refl _)]
   rfl
 have b:=Jhi h l.length
 rw [List.take_of_length_le (Nat.le_refl _)] at b
 have b:(setB l).length≤100100 * 1000+7:=b
 have hp:putS [(l.length:Int)]=oneS l.length:=by simp [putS]
 have hf:[setB l].flatten=setB l:=by simp
 unfold J0c
 rw [put_eq _ (by simp),J5l,hp,main,J5l]
 simp only
 rw [J72 _ _ (by rw [hf]; omega) (by simp),hf]
 rfl
theorem Jpy (x:List UInt8) (hx:x.length≤100000):J2s x=some (txtS x):=by
 have:=J6x (x.length:Int)
 unfold J2s
 rw [Jkk,J5l,J5m (by omega)]
 rfl
abbrev Block:=Hdr×List J6n×List Val×List Val×Unit
def zBlk:Block:=(zHdr,([]:List J6n),([]:List Val),([]:List Val),())
def J75 (n:Nat):List (List UInt8):=(List.range n).map J8h
def J8f (n:Nat):List (List (List UInt8)):=(List.range n).map fun i=>J8c (J8h i)
def J8z (n:Nat):List (List UInt8):=(List.range n).map nm
theorem Jfn {α:Type} (f:Nat→α) (z:α) {n i:Nat} (h:i < n):((List.range n).map f).getD i z=f i:=by
 rw [List.getD_eq_getElem?_getD,List.getElem?_map,List.getElem?_range h]; rfl
theorem Jk1 {α:Type} (f:Nat→α) (i:Nat):(List.range (i+1)).map f=(List.range i).map f++[f i]:=by
 rw [List.range_succ,List.map_append]; rfl
theorem Jcx {α:Type} (f:Nat→α) (n:Nat):((List.range n).map f).length=n:=by simp
def setV (p:Nat→Int) (n:Nat):List Val:=(List.range n).map (Jnx p)
theorem setS_v (ps:List Int):setS ps=setV (pw ps) (setN ps):=rfl
theorem chain1 (n:Nat) (hn:n≤4) (set:List Val):Jf_1 (n:Int) 0 set []=some (set,J75 n):=by
 unfold Jf_1
 have:=J5v (step:=fun (t:Int×List (List UInt8))=>Jf_1_step (n:Int) t.1 set t.2) (fun i (_:Unit)=>((i:Int),J75 i)) (fun _ _=>()) (fun _=>(set,J75 n)) n (fun _ _=>True) (fun i w hi _=>⟨?_,trivial⟩) (fun w _=>?_) n 0 () (by omega) trivial
 ·exact this
 ·show Jf_1_step (n:Int) (i:Int) set (J75 i)=_
  unfold Jf_1_step
  have hl:(J75 i).length=i:=Jcx _ _
  rw [J5p (by omega),Jno,J5l,J5m (by rw [hl]; simp only [List.length_cons,List.length_nil]; omega),J5q (by omega) (by omega)]
  unfold J75
  rw [Jk1]
  rfl
 ·show Jf_1_step (n:Int) (n:Int) set (J75 n)=_
  unfold Jf_1_step
  rw [J5o (by omega)]
theorem Jtw (n i:Int) (set:List Val) (seeds:List (List UInt8)) (u:Unit) (r:List (List (List UInt8))) (ns:List (List UInt8)):Jh_1_step n i set seeds u r ns =
  (fork (decide (i < n)) (need (0≤i∧i < (List.length set:Int)) (need (List.length ns+List.length ([(set.getD (Int.toNat i) zVal).1]:List (List UInt8))≤2147483648) (need (0≤i∧i < (List.length seeds:Int)) (andThen (Jy (List.getD seeds (Int.toNat i) (List.replicate 32 (0:UInt8)))) (fun u6=>need (List.length r+List.length ([u6]:List (List (List UInt8)))≤2147483648) (some (.inl ((w64 (i+(1:Int))),(r++([u6]:List (List (List UInt8)))),(ns++([(set.getD (Int.toNat i) zVal).1]:List (List UInt8))))))))))) (some (.inr (set,seeds,u,r,ns))):Option ((Int×List (List (List UInt8))×List (List UInt8))⊕((List Val)×List (List UInt8)×Unit×List (List (List UInt8))×List (List UInt8)))):=rfl
theorem Jo0 (p:Nat→Int) (n:Nat) (hn:n≤4):Jh (setV p n) (J75 n)=some (setV p n,J75 n,(),J8f n,J8z n):=by
 have hl:(setV p n).length=n:=Jcx _ _
 have hs:(J75 n).length=n:=Jcx _ _
 have main:Jh_1 (n:Int) 0 (setV p n) (J75 n) () [] []=some (setV p n,J75 n,(),J8f n,J8z n):=by
  unfold Jh_1
  have:=J5v (step:=fun (t:Int×List (List (List UInt8))×List (List UInt8))=>Jh_1_step (n:Int) t.1 (setV p n) (J75 n) () t.2.1 t.2.2) (fun i (_:Unit)=>((i:Int),J8f i,J8z i)) (fun _ _=>()) (fun _=>(setV p n,J75 n,(),J8f n,J8z n)) n (fun _ _=>True) (fun i w hi _=>⟨?_,trivial⟩) (fun w _=>?_) n 0 () (by omega) trivial
  ·exact this
  ·show Jh_1_step (n:Int) (i:Int) (setV p n) (J75 n) () (J8f i) (J8z i)=_
   have h1:(J8f i).length=i:=Jcx _ _
   have h2:(J8z i).length=i:=Jcx _ _
   have g1:(setV p n).getD i zVal=Jnx p i:=Jfn _ _ hi
   have g2:(J75 n).getD i (List.replicate 32 (0:UInt8))=J8h i:=Jfn _ _ hi
   rw [Jtw,J5p (by omega),J5m (by omega),Int.toNat_natCast,g1,g2,J5m (by rw [h2]; simp only [List.length_cons,List.length_nil]; omega),J5m (by omega),Jx8 _ (Jhf i),J5l,J5m (by rw [h1]; simp only [List.length_cons,List.length_nil]; omega),J5q (by omega) (by omega)]
   unfold J8f J8z
   rw [Jk1,Jk1]
   rfl
  ·show Jh_1_step (n:Int) (n:Int) (setV p n) (J75 n) () (J8f n) (J8z n)=_
   rw [Jtw,J5o (by omega)]
 unfold Jh
 rw [hl,main]
 rfl
theorem Jos (n i:Int) (set:List Val) (u:Unit) (seeds:List (List UInt8)) (r:List (List (List UInt8))) (ns:List (List UInt8)):Jf_2_step n i set u seeds r ns =
  (fork (decide (i < n)) (need (0≤i∧i < (List.length r:Int)) (andThen (J03 (List.getD r (Int.toNat i) ([]:List (List UInt8)))) (fun u15=>need (0≤i∧i < (List.length set:Int)) (some (.inl ((w64 (i+(1:Int))),(List.set set (Int.toNat i) ((set.getD (Int.toNat i) zVal).1,(set.getD (Int.toNat i) zVal).2.1,u15,())))))))) (some (.inr (u,seeds,r,ns,set))):Option ((Int×List Val)⊕(Unit×List (List UInt8)×List (List (List UInt8))×List (List UInt8)×List Val))):=rfl
theorem chain2 (p:Nat→Int) (n:Nat) (hn:n≤4):Jf_2 (n:Int) 0 (setV p n) () (J75 n) (J8f n) (J8z n)=some ((),J75 n,J8f n,J8z n,J68 p n):=by
 have hr:(J8f n).length=n:=Jcx _ _
 unfold Jf_2
 have:=J5v (step:=fun (t:Int×List Val)=>Jf_2_step (n:Int) t.1 t.2 () (J75 n) (J8f n) (J8z n)) (fun i (_:Unit)=>((i:Int),midS p n i)) (fun _ _=>()) (fun _=>((),J75 n,J8f n,J8z n,J68 p n)) n (fun _ _=>True) (fun i w hi _=>⟨?_,trivial⟩) (fun w _=>?_) n 0 () (by omega) trivial
 ·rw [show setV p n=midS p n 0 from by unfold setV midS; congr 1]
  exact this
 ·show Jf_2_step (n:Int) (i:Int) (midS p n i) () (J75 n) (J8f n) (J8z n)=_
  have hm:(midS p n i).length=n:=by simp [midS]
  have g1:(J8f n).getD i []=J8c (J8h i):=Jfn _ _ hi
  rw [Jos,J5p (by omega),J5m (by omega),Int.toNat_natCast,g1,Jfv _ (by rw [J84]; omega) (Jgn _),J5l,J5m (by omega),J5q (by omega) (by omega)]
  show some (Sum.inl (_,List.set (midS p n i) i (((midS p n i).getD i zVal).1,((midS p n i).getD i zVal).2.1,Jif (J8h i),())))=_
  rw [mid_step _ _ _ hi]
  rfl
 ·show Jf_2_step (n:Int) (n:Int) (midS p n n) () (J75 n) (J8f n) (J8z n)=_
  rw [Jos,J5o (by omega)]
  unfold midS J68
  congr 6
  apply List.map_congr_left
  intro j hj
  rw [if_pos (List.mem_range.1 hj)]
theorem Jw1 (ps:List Int) (hp:ps.length≤140737488351232):Jf ps=some ((),J75 (setN ps),J8f (setN ps),J8z (setN ps),ringS ps):=by
 have hn:=setN_b ps
 have hl:(setV (pw ps) (setN ps)).length=setN ps:=Jcx _ _
 unfold Jf
 rw [set_eq ps hp,J5l,setS_v,hl,chain1 _ hn.2,J5l]
 simp only
 rw [Jo0 _ _ hn.2,J5l]
 simp only
 rw [hl,chain2 _ _ hn.2]
 rfl
noncomputable def root0:List UInt8:=sha (83::(oneS 0++J76 []))
def lastB (B:List Block):Block:=B.getD (B.length - 1) zBlk
noncomputable def hdS (S:List Val) (B:List Block) (t:Int):Hdr:=
 if B.length=0 then (1,t,root0,setH S,setH S,List.replicate 32 0,())
 else ((B.length:Int)+1,t,root0,setH (lastB B).2.2.2.1,setH S,sha (72::Jn3 (lastB B).1),())
def nowS (S:List Val) (B:List Block):List Val:=if B.length=0 then S else (lastB B).2.2.2.1
noncomputable def blkS (n:Nat) (S:List Val) (B:List Block) (t:Int):Block:=(hdS S B t,sgJ (hdS S B t) (List.range n),nowS S B,S,())
theorem Jr3 (B:List Block) (b:Block):lastB (B++[b])=b:=by
 unfold lastB
 rw [List.length_append,List.getD_eq_getElem?_getD,List.getElem?_append_right (by simp)]
 simp
theorem Jxi (p:Nat→Int) (n:Nat) (h:n≤4):Jrw (J68 p n):=by
 refine ⟨by simp [J68]; omega,fun v hv=>?_⟩
 obtain ⟨i,hi,rfl⟩:=List.mem_map.1 hv
 have hi:=List.mem_range.1 hi
 have:∀ i,i < 4→(nm i).length≤100000:=by decide
 exact ⟨this i (by omega),J6l _⟩
abbrev eqH (x y:List UInt8):Bool:=Ty.beq (.arr 32 (.int .u8)) x y
abbrev Cli:=List Hdr×List Val×Int×Bool×Unit
def Jqe (l:List Val):Prop:=∀ v ∈ l,v.2.2.1.length=32
def Jyt (b:Block):Prop:=J8p b.1∧SgOk b.2.1∧b.2.1.length≤1000000∧Jqe b.2.2.1∧Jqe b.2.2.2.1∧b.2.2.1.length≤1000000∧b.2.2.2.1.length≤1000000
theorem Jha {l:List Val} (h:J9v l=true):Jb0 l∧l.length≤5∧1≤l.length∧∀ v ∈ l,v.1.length≤16:=by
 unfold J9v at h
 simp only [Bool.and_eq_true,decide_eq_true_eq] at h
 obtain ⟨h1,h2,h3⟩:=h
 have key:∀ v ∈ l,mayS v=true:=by
  intro v hv
  obtain ⟨i,hi,rfl⟩:=List.getElem_of_mem hv
  have:=List.all_eq_true.1 h1 i (List.mem_range.2 hi)
  unfold okAt at this
  rw [Bool.and_eq_true] at this
  rw [List.getD_eq_getElem?_getD,List.getElem?_eq_getElem hi] at this
  exact this.1
 have key2:∀ v ∈ l,v.1.length≤16∧1≤v.2.1∧v.2.1≤1048576:=by
  intro v hv
  have:=key v hv
  unfold mayS at this
  simp only [Bool.and_eq_true,decide_eq_true_eq] at this
  omega
 exact ⟨⟨by omega,fun v hv=>by have:=key2 v hv; omega⟩,h3,h2,fun v hv=>(key2 v hv).1⟩
theorem Jkg {l:List Val} (h:J9v l=true) (hk:Jqe l):Jrw l:=by
 obtain ⟨_,h2,_,h4⟩:=Jha h
 exact ⟨by omega,fun v hv=>⟨by have:=h4 v hv; omega,hk v hv⟩⟩
def Jhn (b:Block):Bool:=J87 b.1 && (J9v b.2.2.1 && (J9v b.2.2.2.1 && (decide (b.2.1.length≤5) && (eqH (setH b.2.2.1) b.1.2.2.2.1 && eqH (setH b.2.2.2.1) b.1.2.2.2.2.1))))
theorem Jy1 (b:Block) (hb:Jyt b):J4q b=some (Jhn b):=by
 obtain ⟨b1,b2,b3,b4,b5,b6,b7⟩:=hb
 unfold J4q Jhn
 rw [Jbt,J5l]
 cases c1:J87 b.1 with
 | false=>rfl
 | true=>
  rw [J74,right_eq _ (by omega),J5l]
  cases c2:J9v b.2.2.1 with
  | false=>rfl
  | true=>
   rw [J74,right_eq _ (by omega),J5l]
   cases c3:J9v b.2.2.2.1 with
   | false=>rfl
   | true=>
    rw [J74]
    by_cases c4:b.2.1.length≤5
    ·rw [J5p (by omega),J8k _ (Jkg c2 b4),J5l,decide_eq_true c4]
     cases c5:Ty.beq (.arr 32 (.int .u8)) (setH b.2.2.1) b.1.2.2.2.1 with
     | false=>rw [show eqH (setH b.2.2.1) b.1.2.2.2.1=false from c5]; rfl
     | true=>rw [show eqH (setH b.2.2.1) b.1.2.2.2.1=true from c5,J74,J8k _ (Jkg c3 b5),J5l]; rfl
    ·rw [J5o (by omega),decide_eq_false c4]; rfl
def lastH (c:Cli):Hdr:=c.1.getD (c.1.length - 1) zHdr
theorem Jns (c:Cli):J19 c=need (0≤(w64 ((List.length c.1:Int) - (1:Int)))∧(w64 ((List.length c.1:Int) - (1:Int))) < (List.length c.1:Int)) (some (List.getD c.1 (Int.toNat (w64 ((List.length c.1:Int) - (1:Int)))) zHdr)):=rfl
theorem Jls (c:Cli) (h1:1≤c.1.length) (h2:c.1.length≤1000000):J19 c=some (lastH c):=by
 rw [Jns,J5q (by omega) (by omega),J5m (by omega)]
 unfold lastH
 congr 2
 omega
def Jyu (c:Cli):Prop:=1≤c.1.length∧c.1.length≤1000000∧Jb0 c.2.1∧(0≤(lastH c).1∧(lastH c).1≤1099511627776)∧(0≤(lastH c).2.1∧(lastH c).2.1≤1099511627776)
theorem Ji9 (now:Int) (c:Cli) (hc:Jyu c) (hn:-1099511627776≤now∧now≤1099511627776):J0p now c=some (decide (c.2.2.1 < now - (lastH c).2.1)):=by
 obtain ⟨h1,h2,_,_,h5⟩:=hc
 unfold J0p
 rw [Jls c h1 h2,J5l,J5q (by omega) (by omega)]
theorem Jda (l:List Val) (h:l.length≤2147483648):J7 l=some l:=by unfold J7; rw [J5m h]
theorem Jg5 (l:List Hdr) (h:l.length≤2147483648):Jw l=some l:=by unfold Jw; rw [J5m h]
def enS (set:List Val) (h:Hdr) (s:List J6n):Bool:=decide (allS set * 2 < Jfe set h s * 3)
def soS (set:List Val) (h:Hdr) (s:List J6n):Bool:=decide (allS set * 1 < Jfe set h s * 3)
def cut6 (l:List Hdr):List Hdr:=if 6 < l.length then l.drop 1 else l
def updS (b:Block) (now:Int) (c:Cli):Int×Cli:=
 if c.2.2.2.1=true then (5,c) else if Jhn b=false then (1,c) else if b.1.1≤(lastH c).1 then (8,c) else if b.1.2.1≤(lastH c).2.1 then (1,c)
 else if c.2.2.1 < now - (lastH c).2.1 then (6,c) else if now < b.1.2.1 then (6,c)
 else if b.1.1=(lastH c).1+1∧eqH b.1.2.2.2.1 (lastH c).2.2.2.2.1=false then (9,c) else if enS b.2.2.1 b.1 b.2.1=false then (9,c)
 else if b.1.1≠(lastH c).1+1∧soS c.2.1 b.1 b.2.1=false then (9,c)
 else (0,(cut6 (c.1++[b.1]),b.2.2.2.1,c.2.2.1,c.2.2.2.1,()))
theorem Kq (b:Block) (c:Cli) (hc:c.1.length≤1000000) (hb:b.2.2.2.1.length≤1000000):(andThen (Jw c.1) (fun u22=>need (List.length u22+List.length ([b.1]:List Hdr)≤2147483648) (fork (decide ((6:Int) < (List.length (u22++([b.1]:List Hdr)):Int))) (need (0≤(1:Int)∧(1:Int)≤(List.length (u22++([b.1]:List Hdr)):Int)∧(List.length (u22++([b.1]:List Hdr)):Int)≤(List.length (u22++([b.1]:List Hdr)):Int)) (andThen (J7 b.2.2.2.1) (fun u27=>some ((0:Int),((cutL (u22++([b.1]:List Hdr)) (1:Int) (List.length (u22++([b.1]:List Hdr)):Int)),u27,c.2.2.1,c.2.2.2.1,()))))) (andThen (J7 b.2.2.2.1) (fun u29=>some ((0:Int),((u22++([b.1]:List Hdr)),u29,c.2.2.1,c.2.2.2.1,())))))):Option (Int×Cli)) =
  some (0,(cut6 (c.1++[b.1]),b.2.2.2.1,c.2.2.1,c.2.2.2.1,())):=by
 have hl:(c.1++[b.1]).length=c.1.length+1:=by simp
 have h1:([b.1]:List Hdr).length=1:=rfl
 rw [Jg5 _ (by omega),J5l,J5m (by omega)]
 unfold cut6
 by_cases h:(6:Int) < ((c.1++[b.1]).length:Int)
 ·rw [J5p h,J5m (by omega),Jda _ (by omega),J5l,if_pos (by omega),J8m]
  rfl
 ·rw [J5o h,Jda _ (by omega),J5l,if_neg (by omega)]
theorem upd_eq (b:Block) (now:Int) (c:Cli) (hb:Jyt b) (hc:Jyu c) (hn:-1099511627776≤now∧now≤1099511627776):J1o b now c=some (updS b now c):=by
 have hex:=Ji9 now c hc hn
 obtain ⟨c1,c2,c3,c4,c5⟩:=hc
 have hw:=Jy1 b hb
 obtain ⟨b1,b2,b3,b4,b5,b6,b7⟩:=hb
 have wl:w64 ((lastH c).1+1)=(lastH c).1+1:=J5q (by omega) (by omega)
 have htail:=Kq b c (by omega) (by omega)
 unfold J1o updS
 rw [Jls c c1 c2,J5l]
 by_cases q1:c.2.2.2.1=true
 ·rw [q1,J74,if_pos rfl]
 rw [if_neg q1]
 have q1:c.2.2.2.1=false:=by simpa using q1
 rw [q1] at htail ⊢
 rw [J60,hw,J5l]
 cases q2:Jhn b with
 | false=>rw [if_pos rfl]; rfl
 | true=>
  rw [if_neg (by simp),Bool.not_true,J60]
  have hset:Jb0 b.2.2.1:=by
   unfold Jhn at q2
   simp only [Bool.and_eq_true] at q2
   exact (Jha q2.2.1).1
  by_cases q3:b.1.1≤(lastH c).1
  ·rw [J5p q3,if_pos q3]
  rw [J5o q3,if_neg q3]
  by_cases q4:b.1.2.1≤(lastH c).2.1
  ·rw [J5p q4,if_pos q4]
  rw [J5o q4,if_neg q4,hex,J5l]
  by_cases q5:c.2.2.1 < now - (lastH c).2.1
  ·rw [J5p q5,if_pos q5]
  rw [J5o q5,if_neg q5]
  by_cases q6:now < b.1.2.1
  ·rw [J5p q6,if_pos q6]
  rw [J5o q6,if_neg q6,wl]
  have en:=Jsq b.2.2.1 hset b.1 b1 b.2.1 b3 b2
  have so:=Km c.2.1 c3 b.1 b1 b.2.1 b3 b2
  rw [show decide (allS b.2.2.1 * 2 < Jfe b.2.2.1 b.1 b.2.1 * 3)=enS b.2.2.1 b.1 b.2.1 from rfl] at en
  rw [show decide (allS c.2.1 * 1 < Jfe c.2.1 b.1 b.2.1 * 3)=soS c.2.1 b.1 b.2.1 from rfl] at so
  by_cases q7:b.1.1=(lastH c).1+1
  ·rw [J5p q7]
   cases q8:Ty.beq (.arr 32 (.int .u8)) b.1.2.2.2.1 (lastH c).2.2.2.2.1 with
   | false=>rw [if_pos ⟨q7,q8⟩]; rfl
   | true=>
    rw [if_neg (by rw [show eqH b.1.2.2.2.1 (lastH c).2.2.2.2.1=true from q8]; simp),Bool.not_true,J60,en,J5l]
    cases q9:enS b.2.2.1 b.1 b.2.1 with
    | false=>rw [if_pos rfl]; rfl
    | true=>
     rw [if_neg (by simp),Bool.not_true,J60,J82 q7,if_neg (fun h=>h.1 q7)]
     exact htail
  ·rw [J5o q7,if_neg (fun h=>q7 h.1),en,J5l]
   cases q9:enS b.2.2.1 b.1 b.2.1 with
   | false=>rw [if_pos rfl]; rfl
   | true=>
    rw [if_neg (by simp),Bool.not_true,J60,J8v q7,so,J5l]
    cases q10:soS c.2.1 b.1 b.2.1 with
    | false=>rw [if_pos ⟨q7,rfl⟩]; rfl
    | true=>
     rw [if_neg (by simp),Bool.not_true,J60]
     exact htail
def newS (h:Hdr) (next:List Val) (p:Int):Int⊕(Int×Cli):=
 if J87 h=true∧J9v next=true∧eqH h.2.2.2.2.1 (setH next)=true∧(0≤p∧p≤1073741824) then .inr (0,([h],next,p,false,())) else .inl 1
theorem new_eq (h:Hdr) (next:List Val) (p:Int) (hk:Jqe next) (hl:next.length≤1000000):J4l h next p=some (newS h next p):=by
 unfold J4l newS
 rw [Jbt,J5l]
 cases q1:J87 h with
 | false=>rw [if_neg (by simp)]; rfl
 | true=>
  rw [Bool.not_true,J60,right_eq _ (by omega),J5l]
  cases q2:J9v next with
  | false=>rw [if_neg (by simp)]; rfl
  | true=>
   rw [Bool.not_true,J60,J8k _ (Jkg q2 hk),J5l]
   cases q3:Ty.beq (.arr 32 (.int .u8)) h.2.2.2.2.1 (setH next) with
   | false=>rw [if_neg (by rw [show eqH h.2.2.2.2.1 (setH next)=false from q3]; simp)]; rfl
   | true=>
    rw [Bool.not_true,J60]
    unfold J4t
    by_cases q4:0≤p
    ·rw [J5p q4,J5l]
     by_cases q5:p≤1073741824
     ·rw [decide_eq_true q5,Bool.not_true,J60,Jda _ (by omega),if_pos ⟨rfl,rfl,q3,q4,q5⟩]
      rfl
     ·rw [decide_eq_false q5,if_neg (by omega)]; rfl
    ·rw [J5o q4,J5l,if_neg (by omega)]; rfl
theorem Jr8 (p:Nat→Int) {n:Nat} (hn:n≤4) (h:Hdr) (h1:1≤h.1) (h2:h.1≤16) {js:List Nat} (q1:js.Pairwise (· < ·)) (q2:∀ j ∈ js,j < n) (q3:js.length≤4):Jf7 (J68 p n) h (sgJ h js)=js.map nm:=by
 unfold Jf7 Jb2
 rw [if_pos (Jum h q1 (fun j hj=>by have:=q2 j hj; omega) q3),List.filter_eq_self.2,← Jty h js]
 ·rfl
 ·intro x hx
  obtain ⟨j,hj,rfl⟩:=List.mem_map.1 hx
  exact Jwi _ (Jrg p n hn) h h1 h2 (Jgw p j) (List.mem_map_of_mem (List.mem_range.2 (q2 j hj))) (J8h j) rfl
theorem Jwf (g:Nat→Bool) (n:Nat):((List.range n).filter g).Pairwise (· < ·):=List.Pairwise.filter _ List.pairwise_lt_range
theorem Jt1 {g:Nat→Bool} {n j:Nat} (h:j ∈ (List.range n).filter g):j < n:=List.mem_range.1 (List.mem_filter.1 h).1
theorem Jjq (g:Nat→Bool) (n:Nat):((List.range n).filter g).length≤n:=by
 have:=List.length_filter_le g (List.range n)
 rwa [List.length_range] at this
theorem Jm8 (p:Nat→Int) {n:Nat} (hn:n≤4) (h:Hdr) (h1:1≤h.1) (h2:h.1≤16) (g:Nat→Bool):Jfe (J68 p n) h (sgJ h ((List.range n).filter g))=pwJ p ((List.range n).filter g):=by
 have hl:=Jjq g n
 unfold Jfe
 rw [Jr8 p hn h h1 h2 (Jwf g n) (fun j hj=>Jt1 hj) (by omega)]
 refine Jka p _ g n fun i hi=>?_
 show (((List.range n).filter g).map nm).contains (nm i)=g i
 rw [Jn6 (fun j hj=>by have:=Jt1 hj; omega) (by omega),Bool.eq_iff_iff]
 simp only [List.contains_iff_mem,List.mem_filter,List.mem_range]
 exact ⟨fun x=>x.2,fun x=>⟨hi,x⟩⟩
theorem Jjp (n:Nat):(List.range n).filter (fun _=>true)=List.range n:=List.filter_eq_self.2 fun _ _=>rfl
theorem Jl1 (p:Nat→Int) (n:Nat):allS (J68 p n)=pwJ p (List.range n):=by
 unfold allS
 rw [Jka p (fun _=>true) (fun _=>true) n (fun _ _=>rfl),Jjp]
def PwOk (p:Nat→Int):Prop:=∀ i,1≤p i∧p i≤1000000
theorem pw_ok (ps:List Int):PwOk (pw ps):=fun i=>by have:=pw_b ps i; omega
theorem PwOk.s {p:Nat→Int} (h:PwOk p):∀ i,0≤p i∧p i≤2097152:=fun i=>by have:=h i; omega
theorem Jzw {p:Nat→Int} (h:PwOk p):∀ js:List Nat,js≠[]→1≤pwJ p js
 | [],e=>absurd rfl e
 | j::js,_=>by
  have:=h j
  have:=pwJ_b p h.s js
  unfold pwJ at *
  rw [List.map_cons,List.sum_cons]; omega
theorem Jxb {n:Nat} (h:1≤n):List.range n≠[]:=fun e=>by have:=congrArg List.length e; simp at this; omega
theorem Jaw {p:Nat→Int} (hp:PwOk p) {n:Nat} (h1:1≤n) (hn:n≤4):J9v (J68 p n)=true:=by
 have hl:(J68 p n).length=n:=by simp [J68]
 have hg:∀ i,i < n→(J68 p n).getD i zVal=Jgw p i:=fun i hi=>Jfn _ _ hi
 have h2:∀ i,i < 4→nm i≠[]∧(nm i).length≤16:=by decide
 unfold J9v
 rw [hl]
 simp only [Bool.and_eq_true,decide_eq_true_eq]
 refine ⟨List.all_eq_true.2 fun i hi=>?_,by omega,by omega⟩
 have hi:=List.mem_range.1 hi
 obtain ⟨a,b⟩:=h2 i (by omega)
 have:=hp i
 unfold okAt mayS
 rw [hg i hi]
 simp only [Bool.and_eq_true,Bool.or_eq_true,Bool.not_eq_true',decide_eq_true_eq,decide_eq_false_iff_not,beq_iff_eq]
 refine ⟨⟨a,?_,this.1,?_⟩,?_⟩
 ·show ((nm i).length:Int)≤16; omega
 ·show p i≤1048576; omega
 ·by_cases c:i=0
  ·exact .inl c
  ·right
   rw [hg (i - 1) (by omega)]
   exact Jyi (i - 1) (by omega) i (by omega) (by omega)
theorem Jhc (p:Nat→Int) (n:Nat):Jqe (J68 p n):=by
 intro v hv
 obtain ⟨i,hi,rfl⟩:=List.mem_map.1 hv
 exact J6l _
theorem Jme {p:Nat→Int} (hp:PwOk p) {n:Nat} (hn:n≤4):Jb0 (J68 p n):=Jo8 p n hn hp.s
noncomputable def blF (n:Nat) (S:List Val) (f:Nat→Int):Nat→List Block
 | 0=>[]
 | k+1=>blF n S f k++[blkS n S (blF n S f k) (f k)]
noncomputable def hF (n:Nat) (S:List Val) (f:Nat→Int) (j:Nat):Hdr:=hdS S (blF n S f j) (f j)
def Rise (f:Nat→Int):Prop:=(∀ i,i < 16→0≤f i∧f i≤1000000000)∧∀ i,i+1 < 16→f i < f (i+1)
theorem Rise.lt {f:Nat→Int} (h:Rise f) {i:Nat}:∀ {j:Nat},i < j→j < 16→f i < f j
 | j+1,hij,hj=>by
  have:=h.2 j hj
  rcases Nat.lt_or_ge i j with c | c
  ·have:=h.lt c (by omega); omega
  ·have:i=j:=by omega
   subst this; omega
def Knows (S:List Val) (P:Int) (h:Hdr) (c:Cli):Prop:=1≤c.1.length∧c.1.length≤1000∧lastH c=h∧c.2.1=S∧c.2.2.1=P∧c.2.2.2.1=false
theorem Jig (l:List Hdr) (h:Hdr) (x:List Val×Int×Bool×Unit):lastH (l++[h],x)=h:=by
 unfold lastH
 simp only
 rw [List.length_append,List.getD_eq_getElem?_getD,List.getElem?_append_right (by simp)]
 simp
noncomputable def hdR (r:List UInt8) (S:List Val) (B:List Block) (t:Int):Hdr:=
 if B.length=0 then (1,t,r,setH S,setH S,List.replicate 32 0,())
 else ((B.length:Int)+1,t,r,setH (lastB B).2.2.2.1,setH S,sha (72::Jn3 (lastB B).1),())
theorem Jr0 {r:List UInt8} (hr32:r.length=32) (S:List Val) (B:List Block) (t:Int):J8p (hdR r S B t):=by
 unfold hdR
 split
 ·exact ⟨hr32,J9w _,J9w _,by simp⟩
 ·exact ⟨hr32,J9w _,J9w _,J6w _⟩
theorem hdR_1 (r:List UInt8) (S:List Val) (B:List Block) (t:Int):(hdR r S B t).1=(B.length:Int)+1:=by
 unfold hdR; split
 ·show (1:Int)=_; omega
 ·rfl
theorem hdR_t (r:List UInt8) (S:List Val) (B:List Block) (t:Int):(hdR r S B t).2.1=t:=by unfold hdR; split <;> rfl
theorem Jwj (r:List UInt8) (S:List Val) (B:List Block) (t:Int):(hdR r S B t).2.2.2.2.1=setH S:=by unfold hdR; split <;> rfl
theorem Jwk (r:List UInt8) (S:List Val) (B:List Block) (t:Int):(hdR r S B t).2.2.2.1=setH (nowS S B):=by unfold hdR nowS; split <;> rfl
theorem Jta {r:List UInt8} {S:List Val} {B:List Block} {t:Int} (hb:B.length < 16) (h1:0≤t) (h2:t≤1073741824):J87 (hdR r S B t)=true:=by
 rw [Jcw,hdR_1,hdR_t]; omega
noncomputable def blkR (n:Nat) (r:List UInt8) (S:List Val) (B:List Block) (t:Int):Block:=(hdR r S B t,sgJ (hdR r S B t) (List.range n),nowS S B,S,())
noncomputable def blG (n:Nat) (r:Nat→List UInt8) (S:Nat→List Val) (f:Nat→Int):Nat→List Block
 | 0=>[]
 | k+1=>blG n r S f k++[blkR n (r k) (S k) (blG n r S f k) (f k)]
noncomputable def hG (n:Nat) (r:Nat→List UInt8) (S:Nat→List Val) (f:Nat→Int) (j:Nat):Hdr:=hdR (r j) (S j) (blG n r S f j) (f j)
def preS (S:Nat→List Val) (j:Nat):List Val:=if j=0 then S 0 else S (j - 1)
noncomputable def genB (n:Nat) (r:Nat→List UInt8) (S:Nat→List Val) (f:Nat→Int) (j:Nat):Block:=(hG n r S f j,sgJ (hG n r S f j) (List.range n),preS S j,S j,())
theorem J99 (n:Nat) (r:Nat→List UInt8) (S:Nat→List Val) (f:Nat→Int):∀ k,(blG n r S f k).length=k
 | 0=>rfl
 | k+1=>by rw [blG,List.length_append,J99 n r S f k]; rfl
theorem nowG (n:Nat) (r:Nat→List UInt8) (S:Nat→List Val) (f:Nat→Int):∀ k,nowS (S k) (blG n r S f k)=preS S k
 | 0=>rfl
 | k+1=>by
  unfold nowS preS
  rw [J99,if_neg (by omega),if_neg (by omega),blG,Jr3]
  rfl
theorem Joq (n:Nat) (r:Nat→List UInt8) (S:Nat→List Val) (f:Nat→Int):∀ {k j:Nat},j < k→(blG n r S f k).getD j zBlk=genB n r S f j
 | k+1,j,h=>by
  rw [blG]
  rcases Nat.lt_or_ge j k with c | c
  ·rw [List.getD_eq_getElem?_getD,List.getElem?_append_left (by rw [J99]; exact c),← List.getD_eq_getElem?_getD]
   exact Joq n r S f c
  ·have:j=k:=by omega
   subst this
   rw [List.getD_eq_getElem?_getD,List.getElem?_append_right (by rw [J99]; omega),J99]
   simp only [Nat.sub_self,List.getElem?_cons_zero,Option.getD_some]
   unfold blkR
   rw [nowG]
   rfl
theorem hG_1 (n:Nat) (r:Nat→List UInt8) (S:Nat→List Val) (f:Nat→Int) (j:Nat):(hG n r S f j).1=(j:Int)+1:=by unfold hG; rw [hdR_1,J99]
theorem hG_t (n:Nat) (r:Nat→List UInt8) (S:Nat→List Val) (f:Nat→Int) (j:Nat):(hG n r S f j).2.1=f j:=hdR_t _ _ _ _
theorem Jzg (n:Nat) (r:Nat→List UInt8) (S:Nat→List Val) (f:Nat→Int) (j:Nat):(hG n r S f j).2.2.1=r j:=by unfold hG hdR; split <;> rfl
theorem Jnm (n:Nat) (r:Nat→List UInt8) (S:Nat→List Val) (f:Nat→Int) (j:Nat):(hG n r S f j).2.2.2.2.1=setH (S j):=Jwj _ _ _ _
theorem Jt8 (n:Nat) (r:Nat→List UInt8) (S:Nat→List Val) (f:Nat→Int) (j:Nat):(hG n r S f j).2.2.2.1=setH (preS S j):=by unfold hG; rw [Jwk,nowG]
theorem Jlm (n:Nat) {r:Nat→List UInt8} (S:Nat→List Val) (f:Nat→Int) {j:Nat} (hr:(r j).length=32):J8p (hG n r S f j):=Jr0 hr _ _ _
theorem Jjs {n:Nat} {r:Nat→List UInt8} {S:Nat→List Val} {f:Nat→Int} {j:Nat} (hj:j < 16) (h1:0≤f j) (h2:f j≤1073741824):J87 (hG n r S f j)=true:=Jta (by rw [J99]; exact hj) h1 h2
theorem Jwt (n:Nat) (r:Nat→List UInt8) (S:Nat→List Val) (f:Nat→Int) (k:Nat):lastB (blG n r S f (k+1))=genB n r S f k:=by
 unfold lastB
 rw [J99]
 exact Joq n r S f (by omega)
theorem preR (P:Nat→Nat→Int) (n j:Nat):preS (fun k=>J68 (P k) n) j=J68 (if j=0 then P 0 else P (j - 1)) n:=by
 unfold preS; split <;> rfl
def Jqg (m:Nat) (f:Nat→Int):Prop:=(∀ i,i < m→0≤f i∧f i≤1000000000)∧∀ i,i+1 < m→f i < f (i+1)
theorem Jqg.lt {m:Nat} {f:Nat→Int} (h:Jqg m f) {i:Nat}:∀ {j:Nat},i < j→j < m→f i < f j
 | j+1,hij,hj=>by
  have:=h.2 j hj
  rcases Nat.lt_or_ge i j with c | c
  ·have:=h.lt c (by omega); omega
  ·have:i=j:=by omega
   subst this; omega
noncomputable def sgB (n:Nat) (r:Nat→List UInt8) (P:Nat→Nat→Int) (f:Nat→Int) (j:Nat) (g:Nat→Bool):Block:=(hG n r (fun k=>J68 (P k) n) f j,sgJ (hG n r (fun k=>J68 (P k) n) f j) ((List.range n).filter g),preS (fun k=>J68 (P k) n) j,J68 (P j) n,())
def pB (P:Nat→Nat→Int) (j:Nat):Nat→Int:=if j=0 then P 0 else P (j - 1)
theorem pB_ok {P:Nat→Nat→Int} (hP:∀ j,PwOk (P j)) (j:Nat):PwOk (pB P j):=by
 unfold pB; split <;> exact hP _
theorem sgB_ok {n:Nat} (hn:n≤4) {r:Nat→List UInt8} (P:Nat→Nat→Int) (f:Nat→Int) {j:Nat} (hj:j < 16) (hr:(r j).length=32) (g:Nat→Bool):Jyt (sgB n r P f j g):=by
 have hl:∀ p,(J68 p n).length=n:=fun p=>by simp [J68]
 have h1:=hG_1 n r (fun k=>J68 (P k) n) f j
 refine ⟨Jlm n _ f hr,sgJ_ok _ (by omega) (by omega) _,?_,?_,Jhc _ n,?_,?_⟩
 ·show (sgJ _ _).length≤1000000
  have:=Jjq g n
  rw [Juv]; omega
 ·show Jqe (preS (fun k=>J68 (P k) n) j)
  rw [preR]; exact Jhc _ n
 ·show (preS (fun k=>J68 (P k) n) j).length≤1000000
  rw [preR,hl]; omega
 ·show (J68 (P j) n).length≤1000000
  rw [hl]; omega
theorem Jvf {n:Nat} (h1:1≤n) (hn:n≤4) {r:Nat→List UInt8} {P:Nat→Nat→Int} (hP:∀ j,PwOk (P j)) {f:Nat→Int} {j:Nat} (hj:j < 16) (q1:0≤f j) (q2:f j≤1073741824) (g:Nat→Bool):Jhn (sgB n r P f j g)=true:=by
 have hfl:=Jjq g n
 unfold Jhn sgB
 dsimp only
 rw [Jjs hj q1 q2,preR,Jaw (show PwOk (if j=0 then P 0 else P (j - 1)) from pB_ok hP j) h1 hn,Jaw (hP j) h1 hn,Jt8,preR,Jnm]
 show (true && (true && (true && (decide ((sgJ _ _).length≤5) && (eqH (setH _) (setH _) && eqH (setH _) (setH _))))))=true
 rw [decide_eq_true (by rw [Juv]; omega),show ∀ s,eqH (setH s) (setH s)=true from fun s=>Jd6 _,show ∀ s,eqH (setH s) (setH s)=true from fun s=>Jd6 _]
 rfl
theorem Kv {n:Nat} (h1:1≤n) (hn:n≤4) {r:Nat→List UInt8} {P:Nat→Nat→Int} (hP:∀ j,PwOk (P j)) {m:Nat} (hm:m≤16) {f:Nat→Int} (hf:Jqg m f) {i j:Nat} (hij:i < j) (hj:j < m) {T:Int} {c:Cli}
  (hc:Knows (J68 (P i) n) T (hG n r (fun k=>J68 (P k) n) f i) c) (now:Int) (g:Nat→Bool) (q2:¬ T < now - f i) (q3:¬ now < f j) :
  updS (sgB n r P f j g) now c=if ¬ pwJ (pB P j) (List.range n) * 2 < pwJ (pB P j) ((List.range n).filter g) * 3 then (9,c) else if j≠i+1∧¬ pwJ (P i) (List.range n) * 1 < pwJ (P i) ((List.range n).filter g) * 3 then (9,c) else (0,(cut6 (c.1++[hG n r (fun k=>J68 (P k) n) f j]),J68 (P j) n,T,false,())):=by
 obtain ⟨c1,c2,c3,c4,c5,c6⟩:=hc
 have fj:=hf.1 j hj
 have fi:=hf.1 i (by omega)
 have hlt:=hf.lt hij hj
 have e1:=hG_1 n r (fun k=>J68 (P k) n) f j
 have e2:=hG_1 n r (fun k=>J68 (P k) n) f i
 have ea:∀ p,enS (J68 p n) (hG n r (fun k=>J68 (P k) n) f j) (sgJ (hG n r (fun k=>J68 (P k) n) f j) ((List.range n).filter g))=decide (pwJ p (List.range n) * 2 < pwJ p ((List.range n).filter g) * 3):=fun p=>by
  unfold enS
  rw [Jm8 p hn _ (by omega) (by omega),Jl1]
 have es:∀ p,soS (J68 p n) (hG n r (fun k=>J68 (P k) n) f j) (sgJ (hG n r (fun k=>J68 (P k) n) f j) ((List.range n).filter g))=decide (pwJ p (List.range n) * 1 < pwJ p ((List.range n).filter g) * 3):=fun p=>by
  unfold soS
  rw [Jm8 p hn _ (by omega) (by omega),Jl1]
 unfold updS
 rw [if_neg (by rw [c6]; simp),Jvf h1 hn hP (by omega) fj.1 (by omega) g,if_neg (by simp),c3,e2,hG_t,Jnm]
 show (if (hG n r (fun k=>J68 (P k) n) f j).1≤_ then _ else if (hG n r (fun k=>J68 (P k) n) f j).2.1≤_ then _ else _)=_
 rw [e1,hG_t,if_neg (by omega),if_neg (by omega),c5,if_neg q2]
 show (if now < (hG n r (fun k=>J68 (P k) n) f j).2.1 then _ else if (hG n r (fun k=>J68 (P k) n) f j).1=_∧eqH (hG n r (fun k=>J68 (P k) n) f j).2.2.2.1 _=false then _ else if enS (preS (fun k=>J68 (P k) n) j) (hG n r (fun k=>J68 (P k) n) f j) (sgJ (hG n r (fun k=>J68 (P k) n) f j) ((List.range n).filter g))=false then _ else if (hG n r (fun k=>J68 (P k) n) f j).1≠_∧soS c.2.1 (hG n r (fun k=>J68 (P k) n) f j) (sgJ (hG n r (fun k=>J68 (P k) n) f j) ((List.range n).filter g))=false then _ else (0,(cut6 (c.1++[hG n r (fun k=>J68 (P k) n) f j]),J68 (P j) n,T,c.2.2.2.1,())))=_
 rw [hG_t,if_neg q3,Jt8,e1,preR,ea,c4,es,c6]
 have hv:¬ ((j:Int)+1=(i:Int)+1+1∧eqH (setH (J68 (if j=0 then P 0 else P (j - 1)) n)) (setH (J68 (P i) n))=false):=by
  rintro ⟨a,b⟩
  rw [if_neg (by omega),show j - 1=i from by omega,show eqH (setH (J68 (P i) n)) (setH (J68 (P i) n))=true from Jd6 _] at b
  cases b
 rw [if_neg hv]
 show (if decide (pwJ (pB P j) (List.range n) * 2 < pwJ (pB P j) ((List.range n).filter g) * 3)=false then _ else _)=_
 by_cases k1:pwJ (pB P j) (List.range n) * 2 < pwJ (pB P j) ((List.range n).filter g) * 3
 ·have n1:¬ ¬ pwJ (pB P j) (List.range n) * 2 < pwJ (pB P j) ((List.range n).filter g) * 3:=fun q=>q k1
  rw [decide_eq_true k1,if_neg (show ¬ (true=false) by simp),if_neg n1]
  by_cases k2:j≠i+1∧¬ pwJ (P i) (List.range n) * 1 < pwJ (P i) ((List.range n).filter g) * 3
  ·have m2:(j:Int)+1≠(i:Int)+1+1∧decide (pwJ (P i) (List.range n) * 1 < pwJ (P i) ((List.range n).filter g) * 3)=false:=⟨by omega,decide_eq_false k2.2⟩
   rw [if_pos k2,if_pos m2]
  ·have m2:¬ ((j:Int)+1≠(i:Int)+1+1∧decide (pwJ (P i) (List.range n) * 1 < pwJ (P i) ((List.range n).filter g) * 3)=false):=by
    rintro ⟨a,b⟩
    exact k2 ⟨by omega,of_decide_eq_false b⟩
   rw [if_neg k2,if_neg m2]
 ·rw [decide_eq_false k1,if_pos (show (false=false) from rfl),if_pos k1]
theorem Jy8 {n:Nat} (hn:n≤4) {r:Nat→List UInt8} {P:Nat→Nat→Int} (hP:∀ j,PwOk (P j)) {m:Nat} (hm:m≤16) {f:Nat→Int} (hf:Jqg m f) {i:Nat} (hi:i < m) {T:Int} {c:Cli} (hc:Knows (J68 (P i) n) T (hG n r (fun k=>J68 (P k) n) f i) c):Jyu c:=by
 obtain ⟨c1,c2,c3,c4,_,_⟩:=hc
 have:=hf.1 i hi
 refine ⟨c1,by omega,by rw [c4]; exact Jme (hP i) hn,?_,?_⟩
 ·rw [c3,hG_1]; omega
 ·rw [c3,hG_t]; omega
theorem Jzn {n:Nat} (h1:1≤n) (hn:n≤4) {r:Nat→List UInt8} {P:Nat→Nat→Int} (hP:∀ j,PwOk (P j)) {m:Nat} (hm:m≤16) {f:Nat→Int} (hf:Jqg m f) {T:Int} (hT:0≤T∧T≤1073741824) {j:Nat} (hj:j < m) :
  J4l (hG n r (fun k=>J68 (P k) n) f j) (J68 (P j) n) T=some (.inr (0,([hG n r (fun k=>J68 (P k) n) f j],J68 (P j) n,T,false,()))):=by
 have hl:(J68 (P j) n).length=n:=by simp [J68]
 have fj:=hf.1 j hj
 rw [new_eq _ _ _ (Jhc _ n) (by omega)]
 unfold newS
 rw [if_pos ⟨Jjs (by omega) fj.1 (by omega),Jaw (hP j) h1 hn,by rw [Jnm]; exact Jd6 _,hT.1,hT.2⟩]
theorem Jzd (n:Nat) (r:Nat→List UInt8) (P:Nat→Nat→Int) (f:Nat→Int) (j:Nat):genB n r (fun k=>J68 (P k) n) f j=sgB n r P f j (fun _=>true):=by
 unfold genB sgB
 rw [Jjp]
abbrev Pr:=List UInt8×List UInt8×Unit
def zPr:Pr:=([],[],())
abbrev PT:Ty:=.fld .str (.fld .str .unit)
theorem pbeq (a b:Pr):Ty.beq PT a b=decide (a=b):=by
 rw [Bool.eq_iff_iff,Ty.beq_iff PT rfl a b,decide_eq_true_eq]
theorem Je4:∀ a b:List UInt8,J62 a b=false→a=b∨J62 b a=true
 | [],[],_=>.inl rfl
 | _::_,[],_=>.inr rfl
 | [],_::_,h=>by simp [J62] at h
 | x::a,y::b,h=>by
  simp only [J62,Bool.or_eq_false_iff,Bool.and_eq_false_iff,decide_eq_false_iff_not,beq_eq_false_iff_ne,ne_eq] at h
  obtain ⟨h1,h2⟩:=h
  by_cases e:x=y
  ·subst e
   rcases Je4 a b (h2.resolve_left (fun q=>q rfl)) with rfl | h
   ·exact .inl rfl
   ·exact .inr (by simp [J62,h])
  ·right
   have:y < x:=by
    rcases UInt8.lt_or_lt_of_ne e with q | q
    ·exact absurd q h1
    ·exact q
   simp [J62,this]
theorem Jn5:∀ a b:List UInt8,(cmpS a b < 0)↔J62 a b=true
 | [],[]=>by simp [cmpS,Lib.compareBytes,J62]
 | [],_::_=>by simp [cmpS,Lib.compareBytes,J62]
 | _::_,[]=>by simp [cmpS,Lib.compareBytes,J62]
 | x::a,y::b=>by
  have ih:=Jn5 a b
  unfold cmpS at ih
  unfold cmpS
  rw [Lib.compareBytes,J62]
  by_cases h:x < y
  ·simp [h]
  ·rw [if_neg h]
   by_cases h2:y < x
   ·have hne:x≠y:=fun e=>by subst e; exact h h2
    rw [if_pos h2]; simp [h,hne]
   ·have he:x=y:=UInt8.le_antisymm (UInt8.not_lt.1 h2) (UInt8.not_lt.1 h)
    rw [if_neg h2,ih]; simp [he]
theorem Jj6:∀ a b:List UInt8,(cmpS a b=0)↔a=b
 | [],[]=>by simp [cmpS,Lib.compareBytes]
 | [],_::_=>by simp [cmpS,Lib.compareBytes]
 | _::_,[]=>by simp [cmpS,Lib.compareBytes]
 | x::a,y::b=>by
  have ih:=Jj6 a b
  unfold cmpS at ih
  unfold cmpS
  rw [Lib.compareBytes]
  by_cases h:x < y
  ·have hne:x≠y:=fun e=>by subst e; exact UInt8.lt_irrefl _ h
   rw [if_pos h]; simp [hne]
  ·rw [if_neg h]
   by_cases h2:y < x
   ·have hne:x≠y:=fun e=>by subst e; exact h h2
    rw [if_pos h2]; simp [hne]
   ·have he:x=y:=UInt8.le_antisymm (UInt8.not_lt.1 h2) (UInt8.not_lt.1 h)
    rw [if_neg h2,ih]; simp [he]
def J5t:List Pr→List UInt8→Nat
 | [],_=>0
 | p::r,k=>bif J62 p.1 k then J5t r k+1 else 0
theorem below_le:∀ (l:List Pr) (k:List UInt8),J5t l k≤l.length
 | [],_=>Nat.le_refl _
 | p::r,k=>by
  have:=below_le r k
  unfold J5t
  cases J62 p.1 k
  ·exact Nat.zero_le _
  ·rw [cond_true,List.length_cons]; omega
theorem Jbz:∀ (l:List Pr) (k:List UInt8) (i:Nat),i < J5t l k→J62 (l.getD i zPr).1 k=true
 | [],_,i,h=>by unfold J5t at h; omega
 | p::r,k,i,h=>by
  unfold J5t at h
  cases e:J62 p.1 k with
  | false=>rw [e,cond_false] at h; omega
  | true=>
   rw [e,cond_true] at h
   match i with
   | 0=>exact e
   | j+1=>exact Jbz r k j (by omega)
theorem Jfh:∀ (l:List Pr) (k:List UInt8),J5t l k < l.length→J62 (l.getD (J5t l k) zPr).1 k=false
 | [],_,h=>by simp at h
 | p::r,k,h=>by
  unfold J5t at h ⊢
  cases e:J62 p.1 k with
  | false=>exact e
  | true=>
   rw [e,cond_true,List.length_cons] at h
   exact Jfh r k (by omega)
theorem Jqj (l:List Pr) (k:List UInt8) (n:Nat) (hn:n≤l.length) (h1:∀ i,i < n→J62 (l.getD i zPr).1 k=true) (h2:n < l.length→J62 (l.getD n zPr).1 k=false):J5t l k=n:=by
 rcases Nat.lt_trichotomy (J5t l k) n with h | h | h
 ·have a:=h1 _ h
  rw [Jfh l k (by omega)] at a; cases a
 ·exact h
 ·have a:=Jbz l k n h
  have b:=below_le l k
  rw [h2 (by omega)] at a; cases a
def J7c (l:List Pr):Prop:=l.Pairwise (fun a b=>J62 a.1 b.1=true)
theorem Jdk {l:List Pr} (h:J7c l) {i j:Nat} (hij:i < j) (hj:j < l.length):J62 (l.getD i zPr).1 (l.getD j zPr).1=true:=by
 rw [List.getD_eq_getElem?_getD,List.getD_eq_getElem?_getD,List.getElem?_eq_getElem hj,List.getElem?_eq_getElem (by omega)]
 exact List.pairwise_iff_getElem.1 h i j (by omega) hj hij
theorem J70 {l:List Pr} (h:J7c l) (k:List UInt8) {i:Nat} (hi:i < l.length):J62 (l.getD i zPr).1 k=true↔i < J5t l k:=by
 refine ⟨fun hs=>?_,Jbz l k i⟩
 apply Classical.byContradiction
 intro hn
 have b:=Jfh l k (by omega)
 rcases Nat.lt_or_ge (J5t l k) i with c | c
 ·rw [J79 _ _ _ (Jdk h c hi) hs] at b; cases b
 ·have:J5t l k=i:=by omega
  rw [this,hs] at b; cases b
theorem Jqi (l:List Pr) (a b:List UInt8) (h:J62 a b=false):J5t l b≤J5t l a:=by
 apply Nat.le_of_not_lt
 intro hc
 have hl:=below_le l b
 have h1:=Jbz l b _ hc
 have h2:=Jfh l a (by omega)
 rcases Je4 a b h with rfl | q
 ·rw [h1] at h2; cases h2
 ·rw [J79 _ _ _ h1 q] at h2; cases h2
def isAt (l:List Pr) (k:List UInt8):Bool:=decide (J5t l k < l.length∧(l.getD (J5t l k) zPr).1=k)
theorem Jwn {l:List Pr} (h:J7c l) (k:List UInt8):isAt l k=true↔∃ p ∈ l,p.1=k:=by
 unfold isAt
 rw [decide_eq_true_eq]
 constructor
 ·rintro ⟨h1,h2⟩
  exact ⟨_,J6g h1,h2⟩
 ·rintro ⟨p,hp,e⟩
  obtain ⟨i,hi,rfl⟩:=List.getElem_of_mem hp
  have hg:l.getD i zPr=l[i]:=by rw [List.getD_eq_getElem?_getD,List.getElem?_eq_getElem hi]; rfl
  have:J5t l k=i:=by
   refine Jqj l k i (by omega) (fun j hj=>?_) fun _=>?_
   ·rw [← e,← hg]; exact Jdk h hj hi
   ·rw [hg,e]; exact J9j k
  rw [this,hg]; exact ⟨hi,e⟩
theorem mid_eq (i j:Nat) (h:i+j≤1073741824):w64 ((UInt64.toNat (UInt64.ofNat (UInt64.toNat (UInt64.ofNat (Int.toNat ((w64 ((i:Int)+(j:Int))) % 18446744073709551616))) >>> (Int.toNat (1:Int)))):Nat):Int)=(((i+j) / 2:Nat):Int):=by
 rw [J5q (n:=(i:Int)+(j:Int)) (by omega) (by omega)]
 have e1:Int.toNat (((i:Int)+(j:Int)) % 18446744073709551616)=i+j:=by omega
 have e2:UInt64.toNat (UInt64.ofNat (i+j))=i+j:=by rw [UInt64.toNat_ofNat']; omega
 have e3:(i+j) >>> (Int.toNat (1:Int))=(i+j) / 2:=rfl
 have e4:UInt64.toNat (UInt64.ofNat ((i+j) / 2))=(i+j) / 2:=by rw [UInt64.toNat_ofNat']; omega
 rw [e1,e2,e3,e4,J5q (by omega) (by omega)]
theorem Jma (p:Pr) (k:List UInt8):J49 p k=some (cmpS p.1 k):=rfl
theorem Jsd (x0:List Pr) (x1:List UInt8) (x2:Int) (x3:Int) (x4:Int):J6_1_step x0 x1 x2 x3 x4 =
  (fork (decide (x3 < x4)) (need (0≤(w64 ((UInt64.toNat (UInt64.ofNat (UInt64.toNat (UInt64.ofNat (Int.toNat ((w64 (x3+x4)) % 18446744073709551616))) >>> (Int.toNat (1:Int)))):Nat):Int))∧(w64 ((UInt64.toNat (UInt64.ofNat (UInt64.toNat (UInt64.ofNat (Int.toNat ((w64 (x3+x4)) % 18446744073709551616))) >>> (Int.toNat (1:Int)))):Nat):Int)) < (List.length x0:Int)) (andThen (J49 (List.getD x0 (Int.toNat (w64 ((UInt64.toNat (UInt64.ofNat (UInt64.toNat (UInt64.ofNat (Int.toNat ((w64 (x3+x4)) % 18446744073709551616))) >>> (Int.toNat (1:Int)))):Nat):Int))) zPr) x1) (fun u4=>fork (decide (u4 < (0:Int))) (some (.inl ((w64 ((w64 ((UInt64.toNat (UInt64.ofNat (UInt64.toNat (UInt64.ofNat (Int.toNat ((w64 (x3+x4)) % 18446744073709551616))) >>> (Int.toNat (1:Int)))):Nat):Int))+(1:Int))),x4))) (some (.inl (x3,(w64 ((UInt64.toNat (UInt64.ofNat (UInt64.toNat (UInt64.ofNat (Int.toNat ((w64 (x3+x4)) % 18446744073709551616))) >>> (Int.toNat (1:Int)))):Nat):Int)))))))) (some (.inr (x0,x1,x2,x3))):Option ((Int×Int)⊕((List Pr)×List UInt8×Int×Int))):=rfl
theorem Jn4 (l:List Pr) (hr:J7c l) (hl:l.length≤1000) (k:List UInt8):∀ (m i j:Nat),j - i≤m→i≤J5t l k→J5t l k≤j→j≤l.length→
  J6_1 l k (l.length:Int) (i:Int) (j:Int)=some (l,k,(l.length:Int),(J5t l k:Int))
 | m,i,j,hm,h1,h2,h3=>by
  unfold J6_1
  by_cases c:i < j
  ·have hs:J6_1_step l k (l.length:Int) (i:Int) (j:Int)=some (.inl (if (i+j) / 2 < J5t l k then ((((i+j) / 2+1:Nat):Int),(j:Int)) else ((i:Int),(((i+j) / 2:Nat):Int)))):=by
    rw [Jsd,J5p (by omega),mid_eq i j (by omega),J5m (by omega),Int.toNat_natCast,Jma,J5l,J5q (by omega) (by omega)]
    by_cases q:(i+j) / 2 < J5t l k
    ·rw [if_pos q,J5p ((Jn5 _ _).2 (Jbz l k _ q))]; rfl
    ·rw [if_neg q,J5o (fun e=>q ((J70 hr k (by omega)).1 ((Jn5 _ _).1 e)))]
   rw [J67 hs]
   match m with
   | 0=>omega
   | m+1=>
    by_cases q:(i+j) / 2 < J5t l k
    ·rw [if_pos q]
     exact Jn4 l hr hl k m ((i+j) / 2+1) j (by omega) (by omega) h2 h3
    ·rw [if_neg q]
     exact Jn4 l hr hl k m i ((i+j) / 2) (by omega) h1 (by omega) (by omega)
  ·have:i=J5t l k:=by omega
   subst this
   exact J63 (by rw [Jsd,J5o (by omega)])
theorem Jdt (l:List Pr) (hr:J7c l) (hl:l.length≤1000) (k:List UInt8):J4e l k=some ((J5t l k:Int),isAt l k):=by
 have hb:=below_le l k
 have h:J6 l k=some ((J5t l k:Int),isAt l k):=by
  unfold J6
  rw [show ((0:Int))=((0:Nat):Int) from rfl,Jn4 l hr hl k l.length 0 l.length (by omega) (by omega) hb (Nat.le_refl _),J5l]
  simp only
  unfold isAt
  by_cases c:J5t l k < l.length
  ·rw [J5p (by omega),J5m (by omega),Jma,J5l,Int.toNat_natCast]
   congr 2
   exact decide_eq_decide.2 ⟨fun e=>⟨c,(Jj6 _ _).1 e⟩,fun e=>(Jj6 _ _).2 e.2⟩
  ·rw [J5o (by omega),decide_eq_false (fun e=>c e.1)]
 unfold J4e
 rw [h,J5l]
theorem Jdj (l:List Pr) (hr:J7c l) (hl:l.length≤1000) (k:List UInt8):J42 l k=some (J5t l k:Int):=by
 unfold J42
 rw [Jdt l hr hl,J5l]
theorem Jnp (l:List Pr) (hr:J7c l) (hl:l.length≤1000) (k:List UInt8):J4y l k=some (if isAt l k then ((l.getD (J5t l k) zPr).2.1,true) else ([],false)):=by
 unfold J4y
 rw [Jdt l hr hl,J5l]
 cases c:isAt l k with
 | false=>rfl
 | true=>
  have:=c
  unfold isAt at this
  rw [decide_eq_true_eq] at this
  rw [Bool.not_true,J60,J5m (by omega),Int.toNat_natCast]; rfl
theorem Jx1 (n:Nat) (h:n≤1000000000):J1v (n:Int)=some []:=by
 unfold J1v
 rw [J5o (by omega),Int.sub_zero,J5q (by omega) (by omega)]
 by_cases c:(0:Int) < (n:Int)
 ·rw [J5p c,J5m ⟨rfl,rfl⟩,J5m (by rw [List.length_replicate]; omega),J5m (by omega),J5m (by rw [List.length_replicate]; omega)]
  rfl
 ·rw [J5o c]
theorem Jrb (l:List (List Pr)) (h:l.flatten.length≤1000000000) (hl:l.length≤1000000):J2 l=some l.flatten:=by
 have ht:∀ i,((l.take i).flatten).length≤1000000000:=fun i=>Nat.le_trans (J9y l i) h
 have m1:J2_1 l 0 l (l.length:Int) 0=some (l,(l.flatten.length:Int)):=by
  unfold J2_1
  have:=J5v (step:=fun (s:Int×Int)=>J2_1_step l s.1 l (l.length:Int) s.2) (fun i (_:Unit)=>((((l.take i).flatten).length:Int),(i:Int))) (fun _ _=>()) (fun _=>(l,(l.flatten.length:Int))) l.length (fun _ _=>True) (fun i w hi _=>⟨?_,trivial⟩) (fun w _=>?_) l.length 0 () (by omega) trivial
  ·exact this
  ·show J2_1_step l (((l.take i).flatten).length:Int) l (l.length:Int) (i:Int)=_
   unfold J2_1_step
   have e:=congrArg List.length (getD_take l hi)
   rw [List.length_append] at e
   have b:=ht (i+1)
   rw [J5p (by omega),J5m (by omega),Int.toNat_natCast,J5q (n:=(((l.take i).flatten).length:Int)+((l.getD i []).length:Int)) (by omega) (by omega),J5o (by omega),J5q (by omega) (by omega)]
   congr 3
   omega
  ·show J2_1_step l (((l.take l.length).flatten).length:Int) l (l.length:Int) (l.length:Int)=_
   unfold J2_1_step
   rw [J5o (by omega),List.take_of_length_le (Nat.le_refl _)]
 have m2:J2_2 l (l.length:Int) 0 []=some l.flatten:=by
  unfold J2_2
  have:=J5v (step:=fun (s:Int×List Pr)=>J2_2_step l (l.length:Int) s.1 s.2) (fun i (_:Unit)=>((i:Int),(l.take i).flatten)) (fun _ _=>()) (fun _=>l.flatten) l.length (fun _ _=>True) (fun i w hi _=>⟨?_,trivial⟩) (fun w _=>?_) l.length 0 () (by omega) trivial
  ·exact this
  ·show J2_2_step l (l.length:Int) (i:Int) ((l.take i).flatten)=_
   unfold J2_2_step
   have e:=congrArg List.length (getD_take l hi)
   rw [List.length_append] at e
   have b:=ht (i+1)
   rw [J5p (by omega),J5m (by omega),Int.toNat_natCast,J5m (by omega),J5q (by omega) (by omega),getD_take l hi]
   rfl
  ·show J2_2_step l (l.length:Int) (l.length:Int) ((l.take l.length).flatten)=_
   unfold J2_2_step
   rw [J5o (by omega),List.take_of_length_le (Nat.le_refl _)]
 unfold J2
 rw [m1,J5l]
 simp only
 rw [Jx1 _ h,J5l,m2,J5l]
abbrev Stt:=List Pr×Int×List (List Pr)×Unit
def mayP (p:Pr):Bool:=!decide (p.1=[]) && (decide ((p.1.length:Int)≤16) && decide ((p.2.1.length:Int)≤24))
theorem Jts (p:Pr):J56 p=some (mayP p):=by
 unfold J56 mayP
 cases decide (p.1=[]) <;> cases decide ((p.1.length:Int)≤16) <;> rfl
def putP (l:List Pr) (p:Pr):List Pr:=if isAt l p.1 then l.take (J5t l p.1)++p::l.drop (J5t l p.1+1) else l.take (J5t l p.1)++p::l.drop (J5t l p.1)
def setP (l:List Pr) (p:Pr):List Pr×Bool:=if mayP p && (isAt l p.1 || decide (l.length < 30)) then (putP l p,true) else (l,false)
theorem Jjx {l:List Pr} {k:List UInt8} (h:isAt l k=true):J5t l k < l.length∧(l.getD (J5t l k) zPr).1=k:=by
 unfold isAt at h; rw [decide_eq_true_eq] at h; exact h
theorem Jtk (l:List Pr) (hr:J7c l) (hl:l.length≤1000) (p:Pr):J4z l p=some (setP l p):=by
 have hb:=below_le l p.1
 have c3:∀ a b c:List Pr,J2 [a,b,c]=some (a++(b++(c++[])))∨1000000000 < (a++(b++(c++[]))).length:=fun a b c=>by
  by_cases q:([a,b,c]:List (List Pr)).flatten.length≤1000000000
  ·exact .inl (Jrb _ q (by simp))
  ·right
   have:([a,b,c]:List (List Pr)).flatten=a++(b++(c++[])):=rfl
   rw [← this]; omega
 have c4:∀ a c:List Pr,a.length≤1000→c.length≤1000→J2 [a,[p],c]=some (a++p::c):=fun a c h1 h2=>by
  rcases c3 a [p] c with e | e
  ·rw [e,List.append_nil]; rfl
  ·simp only [List.length_append,List.length_cons,List.length_nil] at e; omega
 unfold J4z setP putP
 rw [Jdt l hr hl,J5l,Jts,J5l,J5q (by omega) (by omega)]
 cases hm:mayP p with
 | false=>rfl
 | true=>
  rw [Bool.not_true,J60,Bool.true_and]
  cases ha:isAt l p.1 with
  | true=>
   have:=(Jjx ha).1
   have e1:cutL l 0 (J5t l p.1:Int)=l.take (J5t l p.1):=by rw [Jcc,Int.toNat_natCast]
   have e2:cutL l ((J5t l p.1:Int)+1) (l.length:Int)=l.drop (J5t l p.1+1):=by rw [J8m]; rfl
   rw [Bool.not_true,J60,J74,J5m (by omega),J5m (by omega),e1,e2,c4 _ _ (by rw [List.length_take]; omega) (by rw [List.length_drop]; omega),J5l,Bool.true_or,if_pos rfl,if_pos rfl]
  | false=>
   have e1:cutL l 0 (J5t l p.1:Int)=l.take (J5t l p.1):=by rw [Jcc,Int.toNat_natCast]
   have e2:cutL l (J5t l p.1:Int) (l.length:Int)=l.drop (J5t l p.1):=by rw [J8m,Int.toNat_natCast]
   rw [Bool.not_false,J74,Bool.false_or]
   by_cases c:l.length < 30
   ·rw [J5o (by omega),J60,J5m (by omega),J5m (by omega),e1,e2,c4 _ _ (by rw [List.length_take]; omega) (by rw [List.length_drop]; omega),J5l,decide_eq_true c,if_pos rfl,if_neg (by simp)]
   ·rw [J5p (by omega),decide_eq_false c,if_neg (by simp)]
theorem Jr2 {l:List Pr} (h:J7c l) (n:Nat):J7c (l.take n):=h.sublist (List.take_sublist n l)
theorem Jr1 {l:List Pr} (h:J7c l) (n:Nat):J7c (l.drop n):=h.sublist (List.drop_sublist n l)
theorem Jnw {l:List Pr} {k:List UInt8} {p:Pr} (h:p ∈ l.take (J5t l k)):J62 p.1 k=true:=by
 obtain ⟨i,hi,rfl⟩:=List.getElem_of_mem h
 rw [List.length_take] at hi
 rw [List.getElem_take]
 have:=Jbz l k i (by omega)
 rw [List.getD_eq_getElem?_getD,List.getElem?_eq_getElem (by omega)] at this
 exact this
theorem Jf6 {l:List Pr} {n:Nat} {p:Pr} (h:p ∈ l.drop n):∃ i,n≤i∧i < l.length∧l.getD i zPr=p:=by
 obtain ⟨i,hi,rfl⟩:=List.getElem_of_mem h
 rw [List.length_drop] at hi
 refine ⟨n+i,by omega,by omega,?_⟩
 rw [List.getElem_drop,List.getD_eq_getElem?_getD,List.getElem?_eq_getElem (by omega)]; rfl
theorem Jsp {l:List Pr} (hr:J7c l) {k:List UInt8} {n:Nat} (h:isAt l k=false∧n=J5t l k∨isAt l k=true∧n=J5t l k+1) {p:Pr} (hp:p ∈ l.drop n):J62 k p.1=true:=by
 obtain ⟨i,h1,h2,rfl⟩:=Jf6 hp
 rcases h with ⟨ha,rfl⟩ | ⟨ha,rfl⟩
 ·have b:J62 (l.getD i zPr).1 k=false:=by
   cases q:J62 (l.getD i zPr).1 k with
   | false=>rfl
   | true=>have:=(J70 hr k h2).1 q; omega
  rcases Je4 _ _ b with e | e
  ·exact absurd ((Jwn hr k).2 ⟨_,J6g h2,e⟩) (by rw [ha]; simp)
  ·exact e
 ·have e:=(Jjx ha).2
  have:=Jdk hr (i:=J5t l k) (j:=i) (by omega) h2
  rw [e] at this; exact this
theorem Juh {l:List Pr} (hr:J7c l) (p:Pr):J7c (putP l p):=by
 have key:∀ n,(isAt l p.1=false∧n=J5t l p.1∨isAt l p.1=true∧n=J5t l p.1+1)→J7c (l.take (J5t l p.1)++p::l.drop n):=fun n hn=>by
  refine List.pairwise_append.2 ⟨Jr2 hr _,List.pairwise_cons.2 ⟨fun q hq=>Jsp hr hn hq,Jr1 hr _⟩,fun a ha b hb=>?_⟩
  have h1:=Jnw ha
  rcases List.mem_cons.1 hb with rfl | hb
  ·exact h1
  ·exact J79 _ _ _ h1 (Jsp hr hn hb)
 unfold putP
 cases ha:isAt l p.1 with
 | true=>rw [if_pos rfl]; exact key _ (.inr ⟨ha,rfl⟩)
 | false=>rw [if_neg (by simp)]; exact key _ (.inl ⟨ha,rfl⟩)
theorem Jx5 (l:List Pr) (p:Pr):(putP l p).length=if isAt l p.1 then l.length else l.length+1:=by
 have hb:=below_le l p.1
 unfold putP
 cases ha:isAt l p.1 with
 | true=>
  have:=(Jjx ha).1
  rw [if_pos rfl,if_pos rfl,List.length_append,List.length_cons,List.length_take,List.length_drop]; omega
 | false=>rw [if_neg (by simp),if_neg (by simp),List.length_append,List.length_cons,List.length_take,List.length_drop]; omega
theorem Juu {l:List Pr} (hr:J7c l) (p:Pr):J7c (setP l p).1:=by
 unfold setP
 split
 ·exact Juh hr p
 ·exact hr
theorem Jxo {l:List Pr} (hl:l.length≤30) (p:Pr):(setP l p).1.length≤30:=by
 unfold setP
 split
 ·rename_i h
  rw [Bool.and_eq_true,Bool.or_eq_true,decide_eq_true_eq] at h
  show (putP l p).length≤30
  rw [Jx5]
  split
  ·exact hl
  ·rename_i h2
   have:=h.2.resolve_left h2
   omega
 ·exact hl
theorem Jx6 {l:List Pr} {p q:Pr} (h:q ∈ putP l p):q=p∨q ∈ l:=by
 unfold putP at h
 split at h
 ·rcases List.mem_append.1 h with h | h
  ·exact .inr (List.mem_of_mem_take h)
  ·rcases List.mem_cons.1 h with h | h
   ·exact .inl h
   ·exact .inr (List.mem_of_mem_drop h)
 ·rcases List.mem_append.1 h with h | h
  ·exact .inr (List.mem_of_mem_take h)
  ·rcases List.mem_cons.1 h with h | h
   ·exact .inl h
   ·exact .inr (List.mem_of_mem_drop h)
def RowB (l:List Pr):Prop:=J7c l∧l.length≤30∧∀ p ∈ l,p.1.length≤16∧p.2.1.length≤24
theorem Jpx:RowB []:=⟨List.Pairwise.nil,by simp,by simp⟩
theorem Jxp {l:List Pr} (h:RowB l) (p:Pr):RowB (setP l p).1:=by
 refine ⟨Juu h.1 p,Jxo h.2.1 p,fun q hq=>?_⟩
 unfold setP at hq
 split at hq
 ·rename_i c
  rw [Bool.and_eq_true] at c
  have hm:=c.1
  unfold mayP at hm
  simp only [Bool.and_eq_true,decide_eq_true_eq] at hm
  rcases Jx6 hq with rfl | hq
  ·omega
  ·exact h.2.2 q hq
 ·exact h.2.2 q hq
def StOk (s:Stt):Prop:=RowB s.1∧0≤s.2.1∧s.2.1≤16∧(s.2.2.1.length:Int)=min s.2.1 6∧∀ l ∈ s.2.2.1,RowB l
theorem Jv5:StOk ([],0,[],()):=⟨Jpx,by decide,by decide,by decide,by simp⟩
theorem Jxt (s:Stt) (h:StOk s) (p:Pr):J22 p s=some ((setP s.1 p).2,((setP s.1 p).1,s.2.1,s.2.2.1,())):=by
 have:=h.1.2.1
 unfold J22
 rw [Jtk _ h.1.1 (by omega),J5l]
theorem st_set {s:Stt} (h:StOk s) (p:Pr):StOk ((setP s.1 p).1,s.2.1,s.2.2.1,()):=⟨Jxp h.1 p,h.2⟩
def Jnn (k:List (List Pr)) (l:List Pr):List (List Pr):=if 6 < k.length+1 then (k++[l]).drop 1 else k++[l]
def J9a (s:Stt):Int×Stt:=if s.2.1=16 then (0,s) else (s.2.1+1,(s.1,s.2.1+1,Jnn s.2.2.1 s.1,()))
theorem Jfy (s:Stt) (h:s.1.length≤2147483648):J0x s=some s.1:=by
 unfold J0x Jl
 rw [J5m h,J5l]
theorem Jhk (s:Stt) (h:StOk s):J0y s=some (J9a s):=by
 obtain ⟨⟨h1,h2,_⟩,h3,h4,h5,h6⟩:=h
 unfold J0y J9a Jnn
 by_cases c:s.2.1=16
 ·rw [J5p c,if_pos c]
 ·have e:J28 s.2.2.1=some s.2.2.1:=by unfold J28; rw [J5m (by omega)]
  rw [J5o c,if_neg c,e,J5l,J5q (by omega) (by omega),Jfy _ (by show s.1.length≤_; omega),J5l,J5m (by simp only [List.length_cons,List.length_nil]; omega)]
  have hl:(s.2.2.1++[s.1]).length=s.2.2.1.length+1:=by rw [List.length_append]; rfl
  show fork (decide ((6:Int) < ((s.2.2.1++[s.1]).length:Int))) (need (0≤(1:Int)∧(1:Int)≤((s.2.2.1++[s.1]).length:Int)∧((s.2.2.1++[s.1]).length:Int)≤((s.2.2.1++[s.1]).length:Int)) (some (s.2.1+1,(s.1,s.2.1+1,cutL (s.2.2.1++[s.1]) 1 ((s.2.2.1++[s.1]).length:Int),())))) (some (s.2.1+1,(s.1,s.2.1+1,s.2.2.1++[s.1],())))=_
  rw [hl]
  by_cases q:6 < s.2.2.1.length+1
  ·rw [J5p (by omega),J5m (by omega),if_pos q,← hl,J8m]; rfl
  ·rw [J5o (by omega),if_neg q]
theorem Jte (k:List (List Pr)) (l:List Pr) (h:k.length≤6):(Jnn k l).length=min (k.length+1) 6:=by
 unfold Jnn
 split
 ·rw [List.length_drop,List.length_append,List.length_cons,List.length_nil]; omega
 ·rw [List.length_append,List.length_cons,List.length_nil]; omega
theorem Jtf {k:List (List Pr)} {l x:List Pr} (h:x ∈ Jnn k l):x ∈ k∨x=l:=by
 unfold Jnn at h
 have:x ∈ k++[l]:=by
  split at h
  ·exact List.mem_of_mem_drop h
  ·exact h
 rcases List.mem_append.1 this with h | h
 ·exact .inl h
 ·exact .inr (List.mem_singleton.1 h)
theorem Je8 {s:Stt} (h:StOk s):StOk (J9a s).2:=by
 obtain ⟨h1,h3,h4,h5,h6⟩:=h
 unfold J9a
 by_cases c:s.2.1=16
 ·rw [if_pos c]; exact ⟨h1,h3,h4,h5,h6⟩
 ·rw [if_neg c]
  refine ⟨h1,by show 0≤s.2.1+1; omega,by show s.2.1+1≤16; omega,?_,fun l hl=>?_⟩
  ·show ((Jnn s.2.2.1 s.1).length:Int)=min (s.2.1+1) 6
   rw [Jte _ _ (by omega)]; omega
  ·rcases Jtf hl with hl | rfl
   ·exact h6 l hl
   ·exact h1
def lowS (s:Stt):Int:=s.2.1 - (s.2.2.1.length:Int)+1
def atS (s:Stt) (n:Int):List Pr×Bool:=if n < lowS s∨s.2.1 < n then ([],false) else (s.2.2.1.getD (n - lowS s).toNat [],true)
theorem low_eq (s:Stt) (h:StOk s):J1g s=some (lowS s):=by
 obtain ⟨h1,h3,h4,h5,h6⟩:=h
 unfold J1g lowS
 rw [J5q (n:=s.2.1 - _) (by omega) (by omega),J5q (by omega) (by omega)]
theorem Jt3 {k:List (List Pr)} (h:∀ l ∈ k,RowB l) (i:Nat):RowB (k.getD i []):=by
 by_cases c:i < k.length
 ·exact h _ (J6g c)
 ·rw [List.getD_eq_getElem?_getD,List.getElem?_eq_none (by omega)]
  exact Jpx
theorem Ko (s:Stt) (h:StOk s) (n:Int):J32 n s=some (atS s n):=by
 have hlow:=low_eq s h
 obtain ⟨h1,h3,h4,h5,h6⟩:=h
 have hl:lowS s=s.2.1 - (s.2.2.1.length:Int)+1:=rfl
 unfold J32 atS
 rw [hlow,J5l]
 by_cases c1:n < lowS s
 ·rw [J5p c1,if_pos (.inl c1)]
 ·rw [J5o c1]
  by_cases c2:s.2.1 < n
  ·rw [J5p c2,if_pos (.inr c2)]
  ·have:=(Jt3 h6 (n - lowS s).toNat).2.1
   rw [J5o c2,if_neg (by omega),J5l,J5q (by omega) (by omega),J5m (by omega)]
   unfold Jl
   rw [J5m (by omega),J5l]
abbrev Prf:=Int×Int×List Pr×List (List (List UInt8))×Unit
def J7z (p:Pr):List UInt8:=txtS p.1++txtS p.2.1
def J5w (l:List Pr):List (List UInt8):=l.map J7z
def KvOk (l:List Pr):Prop:=l.length≤60∧∀ p ∈ l,p.1.length≤100000∧p.2.1.length≤100000
theorem J6b (l:List Pr):(J5w l).length=l.length:=by simp [J5w]
theorem Jdl {p:Pr} (h:p.1.length≤100000∧p.2.1.length≤100000):(J7z p).length≤200100:=by
 have a:=Jey p.1
 have b:=Jey p.2.1
 unfold J7z; rw [List.length_append]; omega
theorem Jap {l:List Pr} (h:KvOk l):Small (J5w l):=by
 intro x hx
 obtain ⟨p,hp,rfl⟩:=List.mem_map.1 hx
 have:=Jdl (h.2 p hp)
 omega
theorem Jnu (p:Pr) (h:p.1.length≤100000∧p.2.1.length≤100000):J48 p=some (J7z p):=by
 have:=Jqb [p.1,p.2.1] (by simp) (fun x hx=>by
  rcases List.mem_cons.1 hx with rfl | hx
  ·exact h.1
  ·rcases List.mem_cons.1 hx with rfl | hx
   ·exact h.2
   ·cases hx)
 have e:([p.1,p.2.1]:List (List UInt8)).flatMap txtS=J7z p:=by simp [J7z]
 rw [e] at this
 unfold J48
 rw [this,J5l]
theorem Jbk (l:List Pr) {i:Nat} (hi:i < l.length):J5w (l.take i)++[J7z (l.getD i zPr)]=J5w (l.take (i+1)):=by
 unfold J5w
 rw [List.take_add_one,List.map_append,List.getElem?_eq_getElem hi,List.getD_eq_getElem?_getD,List.getElem?_eq_getElem hi]; rfl
theorem Jiy (x0:List Pr) (x1:Int) (x2:Int) (x3:List Pr) (x4:Int) (x5:Int) (x6:Int) (x7:Int) (x8:Unit) (x9:Int) (x10:Int) (x11:Unit) (x12:List (List UInt8)):J02_1_step x0 x1 x2 x3 x4 x5 x6 x7 x8 x9 x10 x11 x12 =
  (fork (decide (x5 < x4)) (need (0≤x5∧x5 < (List.length x3:Int)) (andThen (J48 (List.getD x3 (Int.toNat x5) zPr)) (fun u5=>need (List.length x12+List.length ([u5]:List (List UInt8))≤2147483648) (some (.inl ((w64 (x5+(1:Int))),(x12++([u5]:List (List UInt8))))))))) (some (.inr (x0,x1,x2,x6,x7,x8,x9,x10,x11,x12))):Option ((Int×List (List UInt8))⊕((List Pr)×Int×Int×Int×Int×Unit×Int×Int×Unit×List (List UInt8)))):=rfl
theorem Jiz (x0:List Pr) (x1:Int) (x2:Int) (x3:Int) (x4:Int) (x5:Unit) (x6:Int) (x7:Int) (x8:Unit) (x9:List Pr) (x10:List (List (List UInt8))) (x11:List (List UInt8)):J02_2_step x0 x1 x2 x3 x4 x5 x6 x7 x8 x9 x10 x11 =
  (fork (decide (x2 < x1)) (need (0≤x2∧x2 < (List.length x0:Int)) (need (List.length x9+List.length ([(List.getD x0 (Int.toNat x2) zPr)]:List Pr)≤2147483648) (andThen (J0o x11 x2) (fun u14=>need (List.length x10+List.length ([u14]:List (List (List UInt8)))≤2147483648) (some (.inl ((w64 (x2+(1:Int))),(x9++([(List.getD x0 (Int.toNat x2) zPr)]:List Pr)),(x10++([u14]:List (List (List UInt8))))))))))) (some (.inr (x3,x4,x5,x6,x7,x8,x9,x10))):Option ((Int×(List Pr)×List (List (List UInt8)))⊕(Int×Int×Unit×Int×Int×Unit×(List Pr)×List (List (List UInt8))))):=rfl
noncomputable def J8e (l:List Pr) (f n:Nat):List (List (List UInt8)):=(List.range n).map fun j=>Jba (J5w l) ((f+j:Nat):Int)
noncomputable def J8x (l:List Pr) (f t:Nat):Prf:=if t≤f then ((l.length:Int),0,[],[],()) else ((l.length:Int),(f:Int),(l.drop f).take (t - f),J8e l f (t - f),())
theorem Jo5 (l:List Pr) (f n:Nat):J8e l f (n+1)=J8e l f n++[Jba (J5w l) ((f+n:Nat):Int)]:=by
 unfold J8e
 rw [List.range_succ,List.map_append]; rfl
theorem Jht (l:List Pr) {f n:Nat} (h:f+n < l.length):(l.drop f).take (n+1)=(l.drop f).take n++[l.getD (f+n) zPr]:=by
 rw [List.take_add_one,List.getElem?_drop,List.getElem?_eq_getElem h,List.getD_eq_getElem?_getD,List.getElem?_eq_getElem h]; rfl
theorem Jx4 (l:List Pr) (h:KvOk l) (a b:Int):J02 l a b=some (J8x l (max a 0).toNat (min b (l.length:Int)).toNat):=by
 have hl:=h.1
 unfold J02
 by_cases c:min b (l.length:Int)≤max a 0
 ·rw [J5p c]
  unfold J8x
  rw [if_pos (by omega)]
 ·rw [J5o c]
  have ef:max a 0=(((max a 0).toNat:Nat):Int):=by omega
  have et:min b (l.length:Int)=(((min b (l.length:Int)).toNat:Nat):Int):=by omega
  generalize hF:(max a 0).toNat=F at *
  generalize hT:(min b (l.length:Int)).toNat=T at *
  rw [ef,et]
  rw [ef,et] at c
  have hFT:F < T:=by omega
  have hTl:T≤l.length:=by omega
  clear hF hT ef et c
  have m1:J02_1 l (F:Int) (T:Int) l (l.length:Int) 0 0 0 () (l.length:Int) 0 () []=some (l,(F:Int),(T:Int),0,0,(),(l.length:Int),0,(),J5w l):=by
   unfold J02_1
   have:=J5v (step:=fun (s:Int×List (List UInt8))=>J02_1_step l (F:Int) (T:Int) l (l.length:Int) s.1 0 0 () (l.length:Int) 0 () s.2) (fun i (_:Unit)=>((i:Int),J5w (l.take i))) (fun _ _=>()) (fun _=>(l,(F:Int),(T:Int),0,0,(),(l.length:Int),0,(),J5w l)) l.length (fun _ _=>True) (fun i w hi _=>⟨?_,trivial⟩) (fun w _=>?_) l.length 0 () (by omega) trivial
   ·exact this
   ·show J02_1_step l (F:Int) (T:Int) l (l.length:Int) (i:Int) 0 0 () (l.length:Int) 0 () (J5w (l.take i))=_
    rw [Jiy,J5p (by omega),J5m (by omega),Int.toNat_natCast,Jnu _ (h.2 _ (J6g hi)),J5l,J5m (by rw [J6b,List.length_take]; simp only [List.length_cons,List.length_nil]; omega),Jbk l hi,J5q (by omega) (by omega)]
    rfl
   ·show J02_1_step l (F:Int) (T:Int) l (l.length:Int) (l.length:Int) 0 0 () (l.length:Int) 0 () (J5w (l.take l.length))=_
    rw [Jiy,J5o (by omega),List.take_of_length_le (Nat.le_refl _)]
  have m2:J02_2 l (T:Int) (F:Int) 0 0 () (l.length:Int) (F:Int) () [] [] (J5w l)=some (0,0,(),(l.length:Int),(F:Int),(),(l.drop F).take (T - F),J8e l F (T - F)):=by
   unfold J02_2
   have:=J5v (step:=fun (s:Int×(List Pr)×List (List (List UInt8)))=>J02_2_step l (T:Int) s.1 0 0 () (l.length:Int) (F:Int) () s.2.1 s.2.2 (J5w l)) (fun i (_:Unit)=>(((F+i:Nat):Int),(l.drop F).take i,J8e l F i)) (fun _ _=>()) (fun _=>(0,0,(),(l.length:Int),(F:Int),(),(l.drop F).take (T - F),J8e l F (T - F))) (T - F) (fun _ _=>True) (fun i w hi _=>⟨?_,trivial⟩) (fun w _=>?_) (T - F) 0 () (by omega) trivial
   ·exact this
   ·show J02_2_step l (T:Int) ((F+i:Nat):Int) 0 0 () (l.length:Int) (F:Int) () ((l.drop F).take i) (J8e l F i) (J5w l)=_
    have e1:((l.drop F).take i).length≤60:=by rw [List.length_take,List.length_drop]; omega
    have e2:(J8e l F i).length=i:=by simp [J8e]
    rw [Jiz,J5p (by omega),J5m (by omega),Int.toNat_natCast,J5m (by simp only [List.length_cons,List.length_nil]; omega),Juc (J5w l) _ (by rw [J6b]; omega) (Jap h),J5l,J5m (by simp only [List.length_cons,List.length_nil]; omega),J5q (by omega) (by omega),← Jht l (by omega),← Jo5]
    congr 3
   ·show J02_2_step l (T:Int) ((F+(T - F):Nat):Int) 0 0 () (l.length:Int) (F:Int) () ((l.drop F).take (T - F)) (J8e l F (T - F)) (J5w l)=_
    rw [Jiz,J5o (by omega)]
  rw [m1,J5l]
  simp only
  rw [m2,J5l]
  unfold J8x
  rw [if_neg (by omega)]
theorem Jkf (l:List Pr) (h:KvOk l) (hr:J7c l) (a b:List UInt8):J3h l a b=some (J8x l (J5t l a - 1) (min (J5t l (maxS a b)+1) l.length)):=by
 have hl:=h.1
 have h1:=below_le l a
 have h2:=below_le l (maxS a b)
 unfold J3h
 rw [Jdj l hr (by omega),J5l,Jdj l hr (by omega),J5l,J5q (by omega) (by omega),J5q (by omega) (by omega),Jx4 l h,J5l]
 congr 2 <;> omega
theorem Jpl (l:List Pr) (h:l.length≤60) (f n:Nat):(J8e l f n).length=n∧∀ x ∈ J8e l f n,x.length≤60:=by
 refine ⟨by simp [J8e],fun x hx=>?_⟩
 obtain ⟨j,_,rfl⟩:=List.mem_map.1 hx
 unfold Jba
 split
 ·have:=Jds (J5w l).length (J5w l) ((f+j:Nat):Int).toNat
  rw [J6b] at this ⊢; omega
 ·exact Nat.zero_le _
theorem Jfa (x0:List Pr) (x1:Int) (x2:Int) (x3:List (List UInt8)):Ju_1_step x0 x1 x2 x3 =
  (fork (decide (x2 < x1)) (need (0≤x2∧x2 < (List.length x0:Int)) (andThen (J14 (List.getD x0 (Int.toNat x2) zPr)) (fun u4=>need (List.length x3+List.length ([u4]:List (List UInt8))≤2147483648) (some (.inl ((w64 (x2+(1:Int))),(x3++([u4]:List (List UInt8))))))))) (some (.inr x3)):Option ((Int×List (List UInt8))⊕(List (List UInt8)))):=rfl
theorem Jpr (p:Pr) (h:p.1.length≤100000∧p.2.1.length≤100000):J14 p=some (J7z p):=by
 have a:=Jey p.1
 have b:=Jey p.2.1
 unfold J14
 rw [Jpy _ h.1,J5l,Jpy _ h.2,J5l,J5m (by omega)]; rfl
theorem Jrh (l:List Pr) (h:KvOk l):Ju l=some (J5w l):=by
 have hl:=h.1
 have m1:Ju_1 l (l.length:Int) 0 []=some (J5w l):=by
  unfold Ju_1
  have:=J5v (step:=fun (s:Int×List (List UInt8))=>Ju_1_step l (l.length:Int) s.1 s.2) (fun i (_:Unit)=>((i:Int),J5w (l.take i))) (fun _ _=>()) (fun _=>J5w l) l.length (fun _ _=>True) (fun i w hi _=>⟨?_,trivial⟩) (fun w _=>?_) l.length 0 () (by omega) trivial
  ·exact this
  ·show Ju_1_step l (l.length:Int) (i:Int) (J5w (l.take i))=_
   rw [Jfa,J5p (by omega),J5m (by omega),Int.toNat_natCast,Jpr _ (h.2 _ (J6g hi)),J5l,J5m (by rw [J6b,List.length_take]; simp only [List.length_cons,List.length_nil]; omega),Jbk l hi,J5q (by omega) (by omega)]
   rfl
  ·show Ju_1_step l (l.length:Int) (l.length:Int) (J5w (l.take l.length))=_
   rw [Jfa,J5o (by omega),List.take_of_length_le (Nat.le_refl _)]
 unfold Ju
 rw [m1,J5l]
theorem Juz (x0:List Pr) (x1:List Pr) (x2:Int):Jg_1_step x0 x1 x2 =
  (fork (decide (x2 < (List.length x0:Int))) (need (0≤x2∧x2 < (List.length x0:Int)) (need (0≤x2∧x2 < (List.length x1:Int)) (fork (!(Ty.beq (.fld .str (.fld .str .unit)) (List.getD x0 (Int.toNat x2) zPr) (List.getD x1 (Int.toNat x2) zPr))) (some (.inr (.inl false))) (some (.inl (w64 (x2+(1:Int)))))))) (some (.inr (.inr ()))):Option ((Int)⊕((Bool)⊕(Unit)))):=rfl
theorem Jkn (a:List (Pr)) (ha:a.length≤1073741824):Jg a a=some true:=by
 have h:Jg_1 a a 0=some (.inr ()):=by
  unfold Jg_1
  have:=J5v (step:=fun (s:Int)=>Jg_1_step a a s) (fun i (_:Unit)=>(i:Int)) (fun _ _=>()) (fun _=>.inr ()) a.length (fun _ _=>True) (fun i w hi _=>⟨?_,trivial⟩) (fun w _=>?_) a.length 0 () (by omega) trivial
  ·exact this
  ·show Jg_1_step a a (i:Int)=_
   rw [Juz,J5p (by omega),J5m (by omega),J5m (by omega),pbeq,J82 rfl,J5q (by omega) (by omega)]
   rfl
  ·show Jg_1_step a a (a.length:Int)=_
   rw [Juz,J5o (by omega)]
 unfold Jg
 rw [J82 (by omega),h,J5l]
def J6u:List (List UInt8):=[[97],[97,98],[97,98,99],[98],[98,97],[115,47,97],[115,47,98],[115,47,99],[116],[117],[122],[122,122]]
theorem Jth:J2f=some J6u:=rfl
theorem Jnq (n:Int):∃ i,i < 12∧J1y n=some (J6u.getD i []):=by
 obtain ⟨r,er,r1,r2⟩:=Jho n 0 11 (by omega) (by omega) (by omega)
 refine ⟨r.toNat,by omega,?_⟩
 have hk:J6u.length=12:=rfl
 unfold J1y
 rw [Jth,J5l,J5l,hk,show w64 (((12:Nat):Int) - 1)=11 from rfl,er,J5l,J5m (by omega)]
theorem Jws (n:Int):∃ x,J39 n=some x∧x.length≤8:=by
 obtain ⟨r,er,r1,r2⟩:=Jho n 0 4 (by omega) (by omega) (by omega)
 unfold J39
 rw [er,J5l,J5m (by show 0≤r∧r < ((5:Nat):Int); omega)]
 refine ⟨_,rfl,?_⟩
 have:∀ i,i < 5→(([([]:List UInt8),([49]:List UInt8),([120]:List UInt8),([118,97,108,117,101]:List UInt8),([49,50,51,52,53,54,55,56]:List UInt8)]:List (List UInt8)).getD i []).length≤8:=by decide
 exact this r.toNat (by omega)
abbrev Mp:=List (List UInt8×List UInt8)
def MpOk (m:Mp):Prop:=∀ p ∈ m,p.2.length≤8
theorem Jtr {m:Mp} (h:MpOk m) (x y:List UInt8) (hy:y.length≤8):MpOk (Jcg x y m):=by
 induction m with
 | nil=>intro p hp; rcases List.mem_cons.1 hp with rfl | hp; exact hy; cases hp
 | cons q m ih=>
  intro p hp
  rw [Jcg] at hp
  cases c:decide (x=q.1) with
  | true=>
   rw [c,cond_true] at hp
   rcases List.mem_cons.1 hp with rfl | hp
   ·exact hy
   ·exact h p (List.mem_cons_of_mem _ hp)
  | false=>
   rw [c,cond_false] at hp
   rcases List.mem_cons.1 hp with rfl | hp
   ·exact h p List.mem_cons_self
   ·exact ih (fun r hr=>h r (List.mem_cons_of_mem _ hr)) p hp
theorem Jtp {m:Mp} (h:MpOk m) {x y:List UInt8} (hg:J9e x m=some y):y.length≤8:=by
 induction m with
 | nil=>cases hg
 | cons q m ih=>
  rw [J9e] at hg
  cases c:decide (x=q.1) with
  | true=>rw [c,cond_true] at hg; injection hg with hg; subst hg; exact h q List.mem_cons_self
  | false=>rw [c,cond_false] at hg; exact ih (fun r hr=>h r (List.mem_cons_of_mem _ hr)) hg
theorem Jpo (x0:List Int) (x1:Int) (x2:List (List UInt8×List UInt8)):Je_1_step x0 x1 x2 =
  (fork (decide (x1 < (List.length x0:Int))) (fork (decide (x1 < (12:Int))) (need (0≤x1∧x1 < (List.length x0:Int)) (andThen (J1y (List.getD x0 (Int.toNat x1) (0:Int))) (fun u5=>andThen (J39 (w64 (Int.tdiv (List.getD x0 (Int.toNat x1) (0:Int)) (12:Int)))) (fun u7=>some (.inl ((w64 (x1+(1:Int))),(Jcg u5 u7 x2))))))) (some (.inr x2))) (some (.inr x2)):Option ((Int×List (List UInt8×List UInt8))⊕(List (List UInt8×List UInt8)))):=rfl
theorem Jpp (x0:Int) (x1:Int) (x2:List (List UInt8×List UInt8)) (x3:List Pr) (x4:List (List UInt8)):Je_2_step x0 x1 x2 x3 x4 =
  (fork (decide (x1 < x0)) (need (0≤x1∧x1 < (List.length x4:Int)) (fork (Option.isSome (J9e (List.getD x4 (Int.toNat x1) ([]:List UInt8)) x2)) (need (List.length x3+List.length ([((List.getD x4 (Int.toNat x1) ([]:List UInt8)),(Option.getD (J9e (List.getD x4 (Int.toNat x1) ([]:List UInt8)) x2) ([]:List UInt8)),())]:List Pr)≤2147483648) (some (.inl ((w64 (x1+(1:Int))),(x3++([((List.getD x4 (Int.toNat x1) ([]:List UInt8)),(Option.getD (J9e (List.getD x4 (Int.toNat x1) ([]:List UInt8)) x2) ([]:List UInt8)),())]:List Pr)))))) (some (.inl ((w64 (x1+(1:Int))),x3))))) (some (.inr x3)):Option ((Int×List Pr)⊕(List Pr))):=rfl
theorem Jub (ns:List Int) (hn:ns.length≤140737488355328):∀ (k i:Nat) (m:Mp),i+k=min ns.length 12→MpOk m→∃ m',Je_1 ns (i:Int) m=some m'∧MpOk m'
 | 0,i,m,h,hm=>by
  refine ⟨m,?_,hm⟩
  unfold Je_1
  refine J63 ?_
  show Je_1_step ns (i:Int) m=_
  rw [Jpo]
  by_cases c:i < ns.length
  ·rw [J5p (by omega),J5o (by omega)]
  ·rw [J5o (by omega)]
 | k+1,i,m,h,hm=>by
  obtain ⟨j,hj,ej⟩:=Jnq (ns.getD i 0)
  obtain ⟨x,ex,hx⟩:=Jws (w64 (Int.tdiv (ns.getD i 0) 12))
  obtain ⟨m',e',h'⟩:=Jub ns hn k (i+1) (Jcg (J6u.getD j []) x m) (by omega) (Jtr hm _ _ hx)
  refine ⟨m',?_,h'⟩
  unfold Je_1 at e' ⊢
  have hs:Je_1_step ns (i:Int) m=some (.inl (((i+1:Nat):Int),Jcg (J6u.getD j []) x m)):=by
   rw [Jpo,J5p (by omega),J5p (by omega),J5m (by omega),Int.toNat_natCast,ej,J5l,ex,J5l,J5q (by omega) (by omega)]; rfl
  exact (J67 (step:=fun (s:Int×Mp)=>Je_1_step ns s.1 s.2) (s:=((i:Int),m)) hs).trans e'
def J8s (m:Mp) (k:List UInt8):List Pr:=match J9e k m with
 | some v=>[(k,v,())]
 | none=>[]
def Jua (m:Mp):List Pr:=J6u.flatMap (J8s m)
theorem Jbg {α β:Type} (f:α→List β) (hf:∀ x,(f x).length≤1):∀ l:List α,(l.flatMap f).length≤l.length
 | []=>Nat.le_refl _
 | x::l=>by
  have:=Jbg f hf l
  have:=hf x
  rw [List.flatMap_cons,List.length_append,List.length_cons]; omega
theorem Jin (m:Mp) (k:List UInt8):(J8s m k).length≤1:=by
 unfold J8s
 split <;> simp
theorem Jzs (m:Mp):Je_2 12 0 m [] J6u=some (Jua m):=by
 unfold Je_2
 have:=J5v (step:=fun (s:Int×List Pr)=>Je_2_step 12 s.1 m s.2 J6u) (fun i (_:Unit)=>((i:Int),(J6u.take i).flatMap (J8s m))) (fun _ _=>()) (fun _=>Jua m) 12 (fun _ _=>True) (fun i w hi _=>⟨?_,trivial⟩) (fun w _=>?_) 12 0 () (by omega) trivial
 ·exact this
 ·show Je_2_step 12 (i:Int) m ((J6u.take i).flatMap (J8s m)) J6u=_
  have hk:J6u.length=12:=rfl
  have b:=Jbg (J8s m) (Jin m) (J6u.take i)
  rw [List.length_take] at b
  have t:=Jbh (J8s m) J6u [] (i:=i) (by omega)
  rw [Jpp,J5p (by omega),J5m (by omega),Int.toNat_natCast,J5q (by omega) (by omega)]
  cases c:J9e (J6u.getD i []) m with
  | none=>
   have e:J8s m (J6u.getD i [])=[]:=by unfold J8s; rw [c]
   rw [e,List.append_nil] at t
   rw [Option.isSome_none,J60,← t]; rfl
  | some v=>
   have e:J8s m (J6u.getD i [])=[(J6u.getD i [],v,())]:=by unfold J8s; rw [c]
   rw [e] at t
   rw [Option.isSome_some,J74,J5m (by simp only [List.length_cons,List.length_nil]; omega),Option.getD_some,← t]; rfl
 ·show Je_2_step 12 ((12:Nat):Int) m ((J6u.take 12).flatMap (J8s m)) J6u=_
  rw [Jpp,J5o (by omega)]; rfl
def Jru (l:List Pr):Prop:=J7c l∧l.length≤12∧(∀ p ∈ l,p.1 ∈ J6u)∧∀ p ∈ l,p.2.1.length≤8
theorem Jti:J6u.Pairwise (fun a b=>J62 a b=true):=by decide
theorem Jyh:∀ k ∈ J6u,1≤k.length∧k.length≤3:=by decide
theorem Jc3 {m:Mp} {k:List UInt8} {p:Pr} (h:p ∈ J8s m k):p.1=k∧J9e k m=some p.2.1:=by
 unfold J8s at h
 split at h
 ·rename_i v e
  rw [List.mem_singleton] at h; subst h; exact ⟨rfl,e⟩
 ·cases h
theorem Jh5 (m:Mp):∀ ks:List (List UInt8),ks.Pairwise (fun a b=>J62 a b=true)→J7c (ks.flatMap (J8s m))
 | [],_=>List.Pairwise.nil
 | k::ks,h=>by
  obtain ⟨h1,h2⟩:=List.pairwise_cons.1 h
  rw [List.flatMap_cons]
  refine List.pairwise_append.2 ⟨?_,Jh5 m ks h2,fun a ha b hb=>?_⟩
  ·unfold J8s
   split
   ·exact List.pairwise_singleton _ _
   ·exact List.Pairwise.nil
  ·obtain ⟨k',hk',hb'⟩:=List.mem_flatMap.1 hb
   rw [(Jc3 ha).1,(Jc3 hb').1]
   exact h1 k' hk'
theorem Jpi (ns:List Int) (hn:ns.length≤140737488355328):∃ l,Je ns=some l∧Jru l:=by
 obtain ⟨m,e,hm⟩:=Jub ns hn (min ns.length 12) 0 [] (by omega) (fun p hp=>by cases hp)
 refine ⟨Jua m,?_,Jh5 m J6u Jti,Jbg (J8s m) (Jin m) J6u,fun p hp=>?_,fun p hp=>?_⟩
 ·have hk:J6u.length=12:=rfl
  unfold Je
  rw [show (0:Int)=((0:Nat):Int) from rfl,e,J5l,Jth,J5l,hk]
  exact congrArg (fun x=>andThen x _) (Jzs m)
 ·obtain ⟨k',hk',hb'⟩:=List.mem_flatMap.1 hp
  rw [(Jc3 hb').1]; exact hk'
 ·obtain ⟨k',hk',hb'⟩:=List.mem_flatMap.1 hp
  exact Jtp hm (Jc3 hb').2
theorem Jmf {l:List Pr} (h:Jru l):KvOk l:=⟨by have:=h.2.1; omega,fun p hp=>⟨by have:=Jyh _ (h.2.2.1 p hp); omega,by have:=h.2.2.2 p hp; omega⟩⟩
theorem Jzl {σ ρ:Type} {step:σ→Option (σ⊕ρ)} (I:Nat→σ→Prop) (Q:ρ→Prop)
  (h:∀ k s,I k s→(∃ r,step s=some (.inr r)∧Q r)∨(∃ j s',k=j+1∧step s=some (.inl s')∧I j s')):∀ k s,I k s→∃ r,loop step s=some r∧Q r:=by
 intro k
 induction k with
 | zero=>
  intro s hi
  rcases h 0 s hi with ⟨r,e,q⟩ | ⟨j,s',hk,e,hi'⟩
  ·exact ⟨r,J63 e,q⟩
  ·omega
 | succ k ih=>
  intro s hi
  rcases h (k+1) s hi with ⟨r,e,q⟩ | ⟨j,s',hk,e,hi'⟩
  ·exact ⟨r,J63 e,q⟩
  ·have:j=k:=by omega
   subst this
   obtain ⟨r,e2,q⟩:=ih s' hi'
   exact ⟨r,(J67 e).trans e2,q⟩
theorem Jgp:∀ {a b:List Pr},J7c a→J7c b→(∀ q,q ∈ a↔q ∈ b)→a=b
 | [],[],_,_,_=>rfl
 | [],y::b,_,_,h=>by cases (h y).2 List.mem_cons_self
 | x::a,[],_,_,h=>by cases (h x).1 List.mem_cons_self
 | x::a,y::b,ha,hb,h=>by
  obtain ⟨a1,a2⟩:=List.pairwise_cons.1 ha
  obtain ⟨b1,b2⟩:=List.pairwise_cons.1 hb
  have e:x=y:=by
   rcases List.mem_cons.1 ((h x).1 List.mem_cons_self) with e | e
   ·exact e
   ·rcases List.mem_cons.1 ((h y).2 List.mem_cons_self) with e2 | e2
    ·exact e2.symm
    ·have:=J79 _ _ _ (b1 x e) (a1 y e2)
     rw [J9j] at this; cases this
  subst e
  congr 1
  refine Jgp a2 b2 fun q=>⟨fun hq=>?_,fun hq=>?_⟩
  ·rcases List.mem_cons.1 ((h q).1 (List.mem_cons_of_mem _ hq)) with e | e
   ·have:=a1 q hq
    rw [e,J9j] at this; cases this
   ·exact e
  ·rcases List.mem_cons.1 ((h q).2 (List.mem_cons_of_mem _ hq)) with e | e
   ·have:=b1 q hq
    rw [e,J9j] at this; cases this
   ·exact e
def Jg4 (n:Nat) (r:List UInt8):List UInt8:=sha (83::(oneS (n:Int)++r))
noncomputable def J6y (l:List Pr):List UInt8:=Jg4 l.length (J76 (J5w l))
theorem Jv2 (x0:List Pr) (x1:List Pr) (x2:Int) (x3:Int) (x4:List UInt8) (x5:List (List UInt8)):J0k_1_step x0 x1 x2 x3 x4 x5 =
  (fork (decide (x3 < x2)) (need (0≤x3∧x3 < (List.length x1:Int)) (andThen (J48 (List.getD x1 (Int.toNat x3) zPr)) (fun u4=>need (List.length x5+List.length ([u4]:List (List UInt8))≤2147483648) (some (.inl ((w64 (x3+(1:Int))),(x5++([u4]:List (List UInt8))))))))) (some (.inr (x0,x4,x5))):Option ((Int×List (List UInt8))⊕((List Pr)×List UInt8×List (List UInt8)))):=rfl
theorem Je9 (l:List Pr) (h:KvOk l):J0k l=some (J6y l):=by
 have hl:=h.1
 have m1:J0k_1 l l (l.length:Int) 0 (List.replicate 32 0) []=some (l,List.replicate 32 0,J5w l):=by
  unfold J0k_1
  have:=J5v (step:=fun (s:Int×List (List UInt8))=>J0k_1_step l l (l.length:Int) s.1 (List.replicate 32 0) s.2) (fun i (_:Unit)=>((i:Int),J5w (l.take i))) (fun _ _=>()) (fun _=>(l,List.replicate 32 0,J5w l)) l.length (fun _ _=>True) (fun i w hi _=>⟨?_,trivial⟩) (fun w _=>?_) l.length 0 () (by omega) trivial
  ·exact this
  ·show J0k_1_step l l (l.length:Int) (i:Int) (List.replicate 32 0) (J5w (l.take i))=_
   rw [Jv2,J5p (by omega),J5m (by omega),Int.toNat_natCast,Jnu _ (h.2 _ (J6g hi)),J5l,J5m (by rw [J6b,List.length_take]; simp only [List.length_cons,List.length_nil]; omega),Jbk l hi,J5q (by omega) (by omega)]
   rfl
  ·show J0k_1_step l l (l.length:Int) (l.length:Int) (List.replicate 32 0) (J5w (l.take l.length))=_
   rw [Jv2,J5o (by omega),List.take_of_length_le (Nat.le_refl _)]
 have hp:putS [(l.length:Int)]=oneS l.length:=by simp [putS]
 have h1:=J6x (l.length:Int)
 have h2:=J6l (J5w l)
 have hf:[oneS (l.length:Int),J76 (J5w l)].flatten=oneS (l.length:Int)++J76 (J5w l):=by simp
 unfold J0k
 rw [m1,J5l]
 dsimp only
 rw [Jki _ (by rw [J6b]; omega) (Jap h),J5l,put_eq _ (by simp),J5l,hp,J72 _ _ (by rw [hf,List.length_append]; omega) (by simp),hf]
 rfl
def pq1:Nat→Int:=pw [1]
noncomputable def V1:List Val:=J68 pq1 1
theorem Jiq:PwOk pq1:=pw_ok [1]
theorem Jyw:Jrw V1:=Jxi pq1 1 (by omega)
theorem Jkz:V1.length=1:=by simp [V1,J68]
noncomputable abbrev D1:List (List UInt8):=[J8h 0]
noncomputable abbrev K1:List (List (List UInt8)):=[J8c (J8h 0)]
theorem Jml (h:Hdr) (hh:J8p h) (h1:1≤h.1) (h2:h.1≤16) (n:List UInt8):J4r (J8c (J8h 0)) h n (J8h 0)=some (sgS h n (J8h 0)):=by
 unfold J4r
 rw [Jva h hh,J5l,By_eq _ (by rw [J84]; omega) (Jgn _) _ _ (Jhf 0) _ h1 h2 (by rw [Jmt]; omega),J5l]
 rfl
theorem Jej:J7 V1=some V1:=Jda _ (by rw [Jkz]; omega)
theorem Jzh:J25 V1 D1=some ((),D1,K1,V1,([],0,[],())):=by
 have e1:J9v V1=true:=Jaw Jiq (by omega) (by omega)
 have e2:J25_1 D1 1 0 () D1 [] V1 ([],0,[],())=some ((),D1,K1,V1,([],0,[],())):=by
  unfold J25_1
  rw [J67 (s':=(1,K1)) (by
   show J25_1_step D1 1 0 () D1 [] V1 ([],0,[],())=_
   unfold J25_1_step
   rw [show D1.getD (Int.toNat 0) (List.replicate 32 0)=J8h 0 from rfl,Jyv _ (Jhf 0)]
   rfl)]
  exact J63 rfl
 unfold J25
 rw [right_eq _ (by rw [Jkz]; omega),J5l,e1,Jkz]
 rw [show (!true)=false from rfl,J60,show (!decide ((D1.length:Int)=((1:Nat):Int)))=false from rfl,J60]
 rw [show J30 D1=some D1 from rfl,J5l,Jej,J5l]
 show andThen (J25_1 D1 1 0 () D1 [] V1 ([],0,[],())) _=_
 rw [e2]
 rfl
theorem Jl6 (l:List Block) (h:l.length≤1000):J0q l=some l:=by unfold J0q; rw [J5m (by omega)]
theorem hc1 (h:Hdr) (hh:J8p h) (h1:1≤h.1) (h2:h.1≤16) (st:Stt) (g:Hdr) (a b:List Val) :
  Jo_1 1 0 () D1 K1 V1 st h g () [] a b=some ((),D1,K1,V1,st,g,(),sgJ h (List.range 1),a,b):=by
 unfold Jo_1
 rw [J67 (s':=(1,sgJ h (List.range 1))) (by
  show Jo_1_step 1 0 () D1 K1 V1 st h g () [] a b=_
  unfold Jo_1_step
  rw [show K1.getD (Int.toNat 0) []=J8c (J8h 0) from rfl,show D1.getD (Int.toNat 0) (List.replicate 32 0)=J8h 0 from rfl,Jml h hh h1 h2]
  rfl)]
 exact J63 rfl
theorem hc2 (h:Hdr) (hh:J8p h) (h1:1≤h.1) (h2:h.1≤16) (st:Stt) (B:List Block) (g:Hdr) (a b:List Val) :
  Jb_1 V1 1 0 () D1 K1 V1 st B h g () [] a b=some ((),D1,K1,V1,st,B,g,(),sgJ h (List.range 1),a,b):=by
 unfold Jb_1
 rw [J67 (s':=(1,sgJ h (List.range 1))) (by
  show Jb_1_step V1 1 0 () D1 K1 V1 st B h g () [] a b=_
  unfold Jb_1_step
  rw [show K1.getD (Int.toNat 0) []=J8c (J8h 0) from rfl,show D1.getD (Int.toNat 0) (List.replicate 32 0)=J8h 0 from rfl,Jml h hh h1 h2]
  rfl)]
 exact J63 rfl
theorem Jz4 (r:Nat→List UInt8) (f:Nat→Int) (hr:r 0=J6y []) (hf:0≤f 0∧f 0≤1073741824) :
  Jo (f 0) () D1 K1 V1 ([],0,[],())=some (1,(),D1,K1,V1,([],1,[[]],()),blG 1 r (fun _=>V1) f 1):=by
 have e0:J87 ((1:Int),f 0,J6y [],List.replicate 32 (0:UInt8),setH V1,List.replicate 32 (0:UInt8),())=true:=by
  rw [Jcw]; show ((1:Int)≤1∧(1:Int)≤16)∧0≤f 0∧f 0≤1073741824; omega
 have hh:J8p ((1:Int),f 0,J6y [],setH V1,setH V1,List.replicate 32 (0:UInt8),()):=⟨J6w _,J9w _,J9w _,by simp⟩
 unfold Jo
 rw [Jfy _ (by simp),J5l,Je9 [] ⟨by simp,by simp⟩,J5l,J8k _ Jyw,J5l,Jbt,J5l,e0]
 rw [show (!true)=false from rfl,J60,J5l,Jej,J5l,J5l,Jkz]
 show andThen (Jo_1 1 0 () D1 K1 V1 ([],0,[],()) _ _ () [] V1 V1) _=_
 rw [hc1 _ hh (Int.le_refl 1) (show (1:Int)≤16 by omega),J5l,Jl6 [] (by simp),J5l,J5m (by simp),Jhk _ Jv5,J5l]
 rw [blG,blG,blkR,hdR,hr]
 rfl
theorem Jz5 (r:Nat→List UInt8) (f:Nat→Int) (k:Nat) (hk:1≤k∧k < 16) (st:Stt) (hs:StOk st) (hkv:KvOk st.1) (hr:∀ j,j≤k→(r j).length=32) (hrk:r k=J6y st.1) (hf:∀ j,j≤k→0≤f j∧f j≤1073741824) (hlt:f (k - 1) < f k) :
  Jb (f k) () D1 K1 V1 st (blG 1 r (fun _=>V1) f k)=some ((J9a st).1,(),D1,K1,V1,(J9a st).2,blG 1 r (fun _=>V1) f k,blG 1 r (fun _=>V1) f (k+1)):=by
 obtain ⟨k,rfl⟩:∃ j,k=j+1:=⟨k - 1,by omega⟩
 have hlen:(blG 1 r (fun _=>V1) f (k+1)).length=k+1:=J99 _ _ _ _ _
 have hlast:=Jwt 1 r (fun _=>V1) f k
 have e0:J87 (((k+2:Nat):Int),f (k+1),J6y st.1,List.replicate 32 (0:UInt8),setH V1,List.replicate 32 (0:UInt8),())=true:=by
  rw [Jcw]; show ((1:Int)≤((k+2:Nat):Int)∧((k+2:Nat):Int)≤16)∧0≤f (k+1)∧f (k+1)≤1073741824; have:=hf (k+1) (Nat.le_refl _); omega
 have e1:w64 (((k+1:Nat):Int)+1)=((k+2:Nat):Int):=by rw [J5q (by omega) (by omega)]; omega
 have e2:w64 (((k+1:Nat):Int) - 1)=((k:Nat):Int):=by rw [J5q (by omega) (by omega)]; omega
 have e3:(blG 1 r (fun _=>V1) f (k+1)).getD k zBlk=genB 1 r (fun _=>V1) f k:=Joq _ _ _ _ (Nat.lt_succ_self k)
 have hg:J8p (hG 1 r (fun _=>V1) f k):=Jlm 1 _ f (hr k (by omega))
 have hh:J8p (((k+2:Nat):Int),f (k+1),J6y st.1,setH V1,setH V1,sha (72::Jbd (hG 1 r (fun _=>V1) f k)),()):=⟨J6w _,J9w _,J9w _,J6w _⟩
 have e5:Jbd (hG 1 r (fun _=>V1) f k)=Jn3 (hG 1 r (fun _=>V1) f k):=by
  unfold Jbd
  rw [Jjs (by omega) (hf k (by omega)).1 (hf k (by omega)).2,if_pos rfl]
 unfold Jb
 rw [Jfy _ (by have:=hkv.1; omega),J5l,Je9 _ hkv,J5l,J8k _ Jyw,J5l,Jbt,J5l,hlen,e1,e0]
 rw [show (!true)=false from rfl,J60,J5p (by omega),e2,J5m ⟨by omega,by omega⟩,show (Int.toNat ((k:Nat):Int))=k from rfl]
 rw [show ((((0:Int),(0:Int),(List.replicate 32 (0:UInt8)),(List.replicate 32 (0:UInt8)),(List.replicate 32 (0:UInt8)),(List.replicate 32 (0:UInt8)),()),([]:List J6n),([]:List Val),([]:List Val),()):Block)=zBlk from rfl,e3]
 rw [show (genB 1 r (fun _=>V1) f k).1=hG 1 r (fun _=>V1) f k from rfl,show (genB 1 r (fun _=>V1) f k).2.2.2.1=V1 from rfl,hG_t,J5o (by have:f (k+1 - 1) < f (k+1):=hlt; simp only [Nat.add_sub_cancel] at this; omega)]
 rw [Jgl _ hg,J5l,J8k _ Jyw,J5l,Jej,J5l,J5l,Jkz]
 show andThen (Jb_1 V1 1 0 () D1 K1 V1 st (blG 1 r (fun _=>V1) f (k+1)) _ _ () [] V1 V1) _=_
 rw [hc2 _ hh (show (1:Int)≤((k+2:Nat):Int) by omega) (show ((k+2:Nat):Int)≤16 by omega),J5l,Jl6 _ (by rw [hlen]; omega),J5l,J5m (by rw [hlen]; simp; omega),Jhk _ hs,J5l,e5]
 rw [show blG 1 r (fun _=>V1) f (k+1+1)=blG 1 r (fun _=>V1) f (k+1)++[blkR 1 (r (k+1)) V1 (blG 1 r (fun _=>V1) f (k+1)) (f (k+1))] from rfl]
 unfold blkR hdR nowS
 rw [hlen,if_neg (by omega),if_neg (by omega),hlast,hrk]
 rw [show (((k+1:Nat):Int)+1)=((k+2:Nat):Int) from by omega]
 rfl
def f1 (j:Nat):Int:=(j:Int)+1
def R1:Pr:=([115,47,97],[9,0],())
noncomputable def r1 (j:Nat):List UInt8:=if j=0 then J6y [] else J6y [R1]
theorem Jjk:Jqg 16 f1:=⟨fun i hi=>by unfold f1; omega,fun i hi=>by unfold f1; omega⟩
theorem Jyn (j:Nat):(r1 j).length=32:=by unfold r1; split <;> exact J6w _
noncomputable abbrev B1 (k:Nat):List Block:=blG 1 r1 (fun _=>V1) f1 k
noncomputable abbrev H1 (k:Nat):Hdr:=hG 1 r1 (fun _=>V1) f1 k
noncomputable abbrev G1 (k:Nat):Block:=genB 1 r1 (fun _=>V1) f1 k
def Q1:Int×List UInt8×List UInt8×Int×Int×Unit:=(2,[115,47],[115,48],1,3,())
theorem Jor (k:Nat) (j:Nat) (hj:j < k) (hk:k≤16) (st:Stt):J0r ((j:Int)+1) () D1 K1 V1 st (B1 k)=some (G1 j,true):=by
 have hlen:(B1 k).length=k:=J99 _ _ _ _ _
 have e3:(B1 k).getD j zBlk=G1 j:=Joq _ _ _ _ hj
 have e2:w64 ((j:Int)+1 - 1)=(j:Int):=by rw [J5q (by omega) (by omega)]; omega
 unfold J0r
 rw [hlen,J5o (by omega),J5o (by omega),e2,J5m ⟨by omega,by omega⟩,show Int.toNat (j:Int)=j from rfl]
 rw [show ((((0:Int),(0:Int),(List.replicate 32 (0:UInt8)),(List.replicate 32 (0:UInt8)),(List.replicate 32 (0:UInt8)),(List.replicate 32 (0:UInt8)),()),([]:List J6n),([]:List Val),([]:List Val),()):Block)=zBlk from rfl,e3]
 have e4:preS (fun _=>V1) j=V1:=by unfold preS; split <;> rfl
 rw [show (G1 j).2.1=[sgS (H1 j) (nm 0) (J8h 0)] from rfl,show (G1 j).2.2.1=V1 from e4,show (G1 j).2.2.2.1=V1 from rfl]
 rw [show J2c [sgS (H1 j) (nm 0) (J8h 0)]=some [sgS (H1 j) (nm 0) (J8h 0)] from rfl,J5l,Jej,J5l,J5l]
 show some ((H1 j,[sgS (H1 j) (nm 0) (J8h 0)],V1,V1,()),true)=some ((H1 j,[sgS (H1 j) (nm 0) (J8h 0)],preS (fun _=>V1) j,V1,()),true)
 rw [e4]
theorem Jwu:J4l (H1 0) V1 50=some (.inr (0,([H1 0],V1,50,false,()))):=
 Jzn (n:=1) (r:=r1) (P:=fun _=>pq1) (m:=16) (by omega) (by omega) (fun _=>Jiq) (by omega) Jjk (T:=50) (by omega) (j:=0) (by omega)
theorem Jy2:J4u V1 D1 50 1 3=some (0,1,1,(),(),D1,K1,V1,([],1,[[]],()),B1 1,(),([H1 0],V1,50,false,()),(1,0,0,()),[(1,(Q1,1,0,()))],(),[],([],()),(0,0,[],false,()),0,0,0,false,(),[]):=by
 have e:J4d (H1 0) V1 50 1 3=some (0,(),([H1 0],V1,50,false,()),(1,0,0,()),[(1,(Q1,1,0,()))],(),[],([],()),(0,0,[],false,()),0,0,0,false,(),[]):=by
  unfold J4d
  rw [Jwu]
  rfl
 unfold J4u
 rw [Jzh,J5l]
 rw [show Jo 1 () D1 K1 V1 ([],0,[],())=_ from Jz4 r1 f1 rfl (by unfold f1; omega),J5l]
 rw [show J0r 1 () D1 K1 V1 ([],1,[[]],()) (B1 1)=_ from Jor 1 0 (by omega) (by omega) _,J5l]
 rw [show J4d (G1 0).1 (G1 0).2.2.2.1 50 1 3=_ from e]
 rfl
theorem Jir (a b:List Pr) (hl:a.length=b.length) {ρ:Type} (r r0:ρ) (hr:r≠r0):scan (fun i=>if a.getD i zPr=b.getD i zPr then none else some r) r0 0 a.length=if a=b then r0 else r:=by
 by_cases e:a=b
 ·subst e
  rw [if_pos rfl]
  exact Jae _ _ (fun j _ _=>if_pos rfl)
 ·rw [if_neg e]
  have:∃ j,j < a.length∧a.getD j zPr≠b.getD j zPr:=by
   apply Classical.byContradiction
   intro hn
   apply e
   apply List.ext_getElem hl
   intro i h1 h2
   apply Classical.byContradiction
   intro hne
   exact hn ⟨i,h1,by rw [List.getD_eq_getElem?_getD,List.getD_eq_getElem?_getD,List.getElem?_eq_getElem h1,List.getElem?_eq_getElem h2]; exact hne⟩
  obtain ⟨j,hj⟩:=Nat.find_of this
  refine J9i a.length 0 j (Nat.zero_le _) (by omega) (fun j' _ h=>if_pos ?_) (if_neg hj.1.2)
  exact Classical.byContradiction fun hne=>hj.2 j' h ⟨by omega,hne⟩
theorem Jk8 (x0:List Pr) (x1:List Pr) (x2:Int) (x3:Int):Jj_1_step x0 x1 x2 x3 =
  (fork (decide (x3 < x2)) (need (0≤x3∧x3 < (List.length x0:Int)) (need (0≤x3∧x3 < (List.length x1:Int)) (fork (!(Ty.beq (.fld .str (.fld .str .unit)) (List.getD x0 (Int.toNat x3) zPr) (List.getD x1 (Int.toNat x3) zPr))) (some (.inr (.inl false))) (some (.inl (w64 (x3+(1:Int)))))))) (some (.inr (.inr ()))):Option ((Int)⊕((Bool)⊕(Unit)))):=rfl
theorem Jm9 (a b:List Pr) (ha:a.length≤1073741824):Jj a b=some (decide (a=b)):=by
 by_cases hl:a.length=b.length
 ·have h:Jj_1 a b (a.length:Int) 0=some (scan (fun i=>if a.getD i zPr=b.getD i zPr then none else some (.inl false)) (.inr ()) 0 a.length):=by
   unfold Jj_1
   refine J7l (step:=fun (s:Int)=>Jj_1_step a b (a.length:Int) s) (fun i=>(i:Int)) _ _ a.length (fun i hi h=>?_) (fun i r hi h=>?_) ?_ a.length 0 (by omega)
   ·rw [Jk8,J5p (by omega),J5m (by omega),J5m (by omega),Int.toNat_natCast,pbeq,J5q (by omega) (by omega)]
    by_cases e:a.getD i zPr=b.getD i zPr
    ·rw [J82 e]; rfl
    ·rw [if_neg e] at h; cases h
   ·rw [Jk8,J5p (by omega),J5m (by omega),J5m (by omega),Int.toNat_natCast,pbeq]
    by_cases e:a.getD i zPr=b.getD i zPr
    ·rw [if_pos e] at h; cases h
    ·rw [if_neg e] at h; injection h with h; subst h; rw [J8v e]
   ·rw [Jk8,J5o (by omega)]
  unfold Jj
  rw [J82 (by omega),h,J5l,Jir a b hl _ _ (by simp)]
  by_cases e:a=b
  ·rw [if_pos e,decide_eq_true e]
  ·rw [if_neg e,decide_eq_false e]
 ·unfold Jj
  rw [J8v (by omega),decide_eq_false (fun e=>hl (by rw [e]))]
theorem Jkc (x0:List Pr) (x1:List Pr) (x2:Int):Jg_1_step x0 x1 x2 =
  (fork (decide (x2 < (List.length x0:Int))) (need (0≤x2∧x2 < (List.length x0:Int)) (need (0≤x2∧x2 < (List.length x1:Int)) (fork (!(Ty.beq (.fld .str (.fld .str .unit)) (List.getD x0 (Int.toNat x2) zPr) (List.getD x1 (Int.toNat x2) zPr))) (some (.inr (.inl false))) (some (.inl (w64 (x2+(1:Int)))))))) (some (.inr (.inr ()))):Option ((Int)⊕((Bool)⊕(Unit)))):=rfl
theorem Jx3 (a b:List Pr) (ha:a.length≤1073741824):Jg a b=some (decide (a=b)):=by
 by_cases hl:a.length=b.length
 ·have h:Jg_1 a b 0=some (scan (fun i=>if a.getD i zPr=b.getD i zPr then none else some (.inl false)) (.inr ()) 0 a.length):=by
   unfold Jg_1
   refine J7l (step:=fun (s:Int)=>Jg_1_step a b s) (fun i=>(i:Int)) _ _ a.length (fun i hi h=>?_) (fun i r hi h=>?_) ?_ a.length 0 (by omega)
   ·rw [Jkc,J5p (by omega),J5m (by omega),J5m (by omega),Int.toNat_natCast,pbeq,J5q (by omega) (by omega)]
    by_cases e:a.getD i zPr=b.getD i zPr
    ·rw [J82 e]; rfl
    ·rw [if_neg e] at h; cases h
   ·rw [Jkc,J5p (by omega),J5m (by omega),J5m (by omega),Int.toNat_natCast,pbeq]
    by_cases e:a.getD i zPr=b.getD i zPr
    ·rw [if_pos e] at h; cases h
    ·rw [if_neg e] at h; injection h with h; subst h; rw [J8v e]
   ·rw [Jkc,J5o (by omega)]
  unfold Jg
  rw [J82 (by omega),h,J5l,Jir a b hl _ _ (by simp)]
  by_cases e:a=b
  ·rw [if_pos e,decide_eq_true e]
  ·rw [if_neg e,decide_eq_false e]
 ·unfold Jg
  rw [J8v (by omega),decide_eq_false (fun e=>hl (by rw [e]))]
abbrev hq (a b:List UInt8):Bool:=Ty.beq (.arr 32 (.int .u8)) a b
theorem Jbi (a b:List UInt8):hq a b=true↔a=b:=Ty.beq_iff (.arr 32 (.int .u8)) rfl a b
def okP (l:List Pr) (i:Nat):Bool:=mayP (l.getD i zPr) && (i == 0 || J62 (l.getD (i - 1) zPr).1 (l.getD i zPr).1)
def J8u (l:List Pr):Bool:=(List.range l.length).all (okP l) && decide (l.length≤30)
theorem Jtj (x0:List Pr) (x1:List Pr) (x2:Int) (x3:Int):J15_1_step x0 x1 x2 x3 =
  (fork (decide (x3 < x2)) (need (0≤x3∧x3 < (List.length x1:Int)) (andThen (J56 (List.getD x1 (Int.toNat x3) zPr)) (fun u4=>fork (!u4) (some (.inr (.inl false))) (fork (decide ((0:Int) < x3)) (need (0≤(w64 (x3 - (1:Int)))∧(w64 (x3 - (1:Int))) < (List.length x0:Int)) (fork (!J62 (List.getD x0 (Int.toNat (w64 (x3 - (1:Int)))) zPr).1 (List.getD x1 (Int.toNat x3) zPr).1) (some (.inr (.inl false))) (some (.inl (w64 (x3+(1:Int))))))) (some (.inl (w64 (x3+(1:Int))))))))) (some (.inr (.inr x0))):Option ((Int)⊕((Bool)⊕(List Pr)))):=rfl
theorem Jgo (l:List Pr) (hl:l.length≤1073741824):J15 l=some (J8u l):=by
 have main:J15_1 l l (l.length:Int) 0=some (scan (fun i=>if okP l i then none else some (.inl false)) (.inr l) 0 l.length):=by
  unfold J15_1
  have step:∀ i,i < l.length→J15_1_step l l (l.length:Int) (i:Int)=if okP l i then some (.inl ((i+1:Nat):Int)) else some (.inr (.inl false)):=by
   intro i hi
   rw [Jtj]
   simp (disch:=omega) only [J5p,J5q,J5m,Int.toNat_natCast,Jts,J5l]
   unfold okP
   by_cases hm:mayP (l.getD i zPr)
   ·rw [hm]
    rw [show (!true)=false from rfl,J60,Bool.true_and]
    by_cases h0:i=0
    ·subst h0; rw [J5o (by omega)]; rfl
    ·rw [J5p (by omega),J5m (by omega),show Int.toNat ((i:Int) - 1)=i - 1 from by omega]
     have:(i == 0)=false:=by simp [h0]
     rw [this,Bool.false_or]
     by_cases hs:J62 (l.getD (i - 1) zPr).1 (l.getD i zPr).1
     ·rw [hs]; rfl
     ·rw [Bool.not_eq_true] at hs; rw [hs]; rfl
   ·rw [Bool.not_eq_true] at hm; rw [hm]; rfl
  refine J7l (step:=fun (s:Int)=>J15_1_step l l (l.length:Int) s) (fun i=>(i:Int)) _ _ l.length (fun i hi h=>?_) (fun i r hi h=>?_) ?_ l.length 0 (by omega)
  ·by_cases hk:okP l i
   ·exact (step i hi).trans (if_pos hk)
   ·rw [if_neg hk] at h; cases h
  ·by_cases hk:okP l i
   ·rw [if_pos hk] at h; cases h
   ·rw [if_neg hk] at h; injection h with h; subst h
    exact (step i hi).trans (if_neg hk)
  ·rw [Jtj,J5o (by omega)]
 unfold J15
 rw [main,J5l]
 unfold J8u
 by_cases hall:(List.range l.length).all (okP l)
 ·rw [Jae _ _ (fun j _ h=>if_pos (List.all_eq_true.1 hall j (by simp; omega))),hall,Bool.true_and]
  dsimp only
  congr 1
  exact decide_eq_decide.2 (by omega)
 ·rw [Bool.not_eq_true] at hall
  have:∃ j,j < l.length∧okP l j=false:=by
   rw [List.all_eq_false] at hall
   obtain ⟨j,hj,hk⟩:=hall
   exact ⟨j,by simpa using hj,by simpa using hk⟩
  obtain ⟨j,hj⟩:=Nat.find_of this
  have hsc:scan (fun i=>if okP l i then none else some (.inl false)) (.inr l:Bool⊕List Pr) 0 l.length=.inl false:=by
   refine J9i l.length 0 j (Nat.zero_le _) (by omega) (fun j' _ h=>if_pos ?_) (if_neg ?_)
   ·have:=hj.2 j' h
    cases hk:okP l j' with
    | true=>rfl
    | false=>exact absurd ⟨by omega,hk⟩ this
   ·rw [hj.1.2]; simp
  rw [hall,hsc]
  rfl
theorem Jac (l:List Pr):J8u l=true↔J7c l∧(∀ p ∈ l,mayP p=true)∧l.length≤30:=by
 have e:∀ j,(l.map (·.1)).getD j []=(l.getD j zPr).1:=fun j=>by
  rw [List.getD_eq_getElem?_getD,List.getD_eq_getElem?_getD,List.getElem?_map]
  cases l[j]? <;> rfl
 unfold J8u
 rw [Bool.and_eq_true,decide_eq_true_eq]
 constructor
 ·rintro ⟨h1,h2⟩
  have key0:∀ i,i < l.length→okP l i=true:=fun i hi=>List.all_eq_true.1 h1 i (List.mem_range.2 hi)
  have hinc:incN (l.map fun p:Pr=>p.1)=true:=by
   refine List.all_eq_true.2 fun i hi=>?_
   have hi:=List.mem_range.1 hi
   rw [List.length_map] at hi
   have:=key0 (i+1) (by omega)
   unfold okP at this
   simp only [Bool.and_eq_true,Bool.or_eq_true,beq_iff_eq] at this
   have t:=this.2.resolve_left (by omega)
   rw [Nat.add_sub_cancel] at t
   rw [e,e]; exact t
  refine ⟨List.pairwise_map.1 (Jlp _ hinc),fun p hp=>?_,h2⟩
  ·obtain ⟨i,hi,rfl⟩:=List.getElem_of_mem hp
   have:=key0 i hi
   unfold okP at this
   rw [Bool.and_eq_true,List.getD_eq_getElem?_getD,List.getElem?_eq_getElem hi] at this
   exact this.1
 ·rintro ⟨h1,h2,h3⟩
  refine ⟨List.all_eq_true.2 fun i hi=>?_,h3⟩
  have hi:=List.mem_range.1 hi
  unfold okP
  rw [Bool.and_eq_true,Bool.or_eq_true,beq_iff_eq]
  refine ⟨h2 _ (J6g hi),?_⟩
  by_cases c:i=0
  ·exact .inl c
  ·exact .inr (Jdk h1 (by omega) hi)
theorem mayP_b {p:Pr} (h:mayP p=true):1≤p.1.length∧p.1.length≤16∧p.2.1.length≤24:=by
 unfold mayP at h
 simp only [Bool.and_eq_true,Bool.not_eq_true',decide_eq_true_eq,decide_eq_false_iff_not,← List.length_eq_zero_iff] at h
 omega
theorem Jdy {l:List Pr} (h:J8u l=true):KvOk l∧J7c l:=by
 obtain ⟨h1,h2,h3⟩:=(Jac l).1 h
 exact ⟨⟨by omega,fun p hp=>by have:=mayP_b (h2 p hp); omega⟩,h1⟩
noncomputable def J7e (p:Prf) (i:Nat):List UInt8×Bool:=upS (J7z (p.2.2.1.getD i zPr)) (p.2.1+(i:Int)) p.1 (p.2.2.2.1.getD i [])
noncomputable def J9l (root:List UInt8) (p:Prf) (i:Nat):Bool:=(J7e p i).2 && hq (Jg4 p.1.toNat (J7e p i).1) root
noncomputable def J71 (root:List UInt8) (p:Prf):Bool:=
 decide (0≤p.1∧p.1≤30∧p.2.2.2.1.length=p.2.2.1.length) && (J8u p.2.2.1 && (decide (0≤p.2.1∧p.2.1≤p.1 - (p.2.2.1.length:Int)) && (if p.1=0 then hq root (J6y []) else (decide (0 < p.2.2.1.length) && (List.range p.2.2.1.length).all (J9l root p)))))
def Jd3 (p:Prf):Prop:=(∀ x ∈ p.2.2.2.1,x.length≤1000∧∀ h ∈ x,h.length=32)∧p.2.2.1.length≤1000000∧p.2.2.2.1.length≤1000000
theorem upS_32 (leaf:List UInt8) (i n:Int) (p:List (List UInt8)):(upS leaf i n p).1.length=32:=by
 unfold upS
 split
 ·exact Jfi _ _ _ (J6w _)
 ·simp
theorem Jsl (n:Nat) (r:List UInt8) (hr:r.length=32):J46 (n:Int) r=some (Jg4 n r):=by
 have hp:putS [(n:Int)]=oneS n:=by simp [putS]
 have h1:=J6x (n:Int)
 have hf:[oneS (n:Int),r].flatten=oneS (n:Int)++r:=by simp
 unfold J46
 rw [put_eq _ (by simp),J5l,hp,J72 _ _ (by rw [hf,List.length_append]; omega) (by simp),hf]
 rfl
theorem Jsi (x0:List Pr) (x1:Int) (x2:Int) (x3:List UInt8) (x4:Prf):J0u_1_step x0 x1 x2 x3 x4 =
  (fork (decide (x2 < x1)) (need (0≤x2∧x2 < (List.length x0:Int)) (andThen (J48 (List.getD x0 (Int.toNat x2) zPr)) (fun u16=>need (0≤x2∧x2 < (List.length x4.2.2.2.1:Int)) (andThen (J1x u16 (w64 (x4.2.1+x2)) x4.1 (List.getD x4.2.2.2.1 (Int.toNat x2) ([]:List (List UInt8)))) (fun u19=>fork (!u19.2) (some (.inr (.inl ()))) (andThen (J46 x4.1 u19.1) (fun u22=>fork (!(Ty.beq (.arr 32 (.int .u8)) u22 x3)) (some (.inr (.inl ()))) (some (.inl (w64 (x2+(1:Int)))))))))))) (some (.inr (.inr ()))):Option ((Int)⊕((Unit)⊕(Unit)))):=rfl
theorem Jxn {ρ:Type} (f:Nat→Bool) (r r0:ρ) (n:Nat):scan (fun i=>if f i then none else some r) r0 0 n=if (List.range n).all f then r0 else r:=by
 by_cases h:(List.range n).all f=true
 ·rw [if_pos h]
  exact Jae _ _ fun j _ hj=>if_pos (List.all_eq_true.1 h j (List.mem_range.2 (by omega)))
 ·rw [if_neg h]
  rw [Bool.not_eq_true,List.all_eq_false] at h
  obtain ⟨j,hj,hf⟩:=h
  obtain ⟨k,hk⟩:=Nat.find_of (p:=fun j=>j < n∧¬ f j=true) ⟨j,List.mem_range.1 hj,hf⟩
  refine J9i n 0 k (Nat.zero_le _) (by omega) (fun j' _ h=>if_pos ?_) (if_neg hk.1.2)
  exact Classical.byContradiction fun q=>hk.2 j' h ⟨by omega,q⟩
theorem Jk6 {p:Prf} (h:Jd3 p) (i:Nat):(∀ x ∈ p.2.2.2.1.getD i [],x.length=32)∧(p.2.2.2.1.getD i []).length≤100000:=by
 by_cases c:i < p.2.2.2.1.length
 ·have:=h.1 _ (J6g (z:=[]) c)
  exact ⟨this.2,by omega⟩
 ·rw [List.getD_eq_getElem?_getD,List.getElem?_eq_none (by omega)]; simp
theorem Jd9 (root:List UInt8) (p:Prf) (h:Jd3 p):J0u root p=some (J71 root p):=by
 have hn:=h.2.1
 unfold J0u J71
 by_cases c1:p.1 < 0
 ·rw [J5p c1,decide_eq_false (fun q=>absurd q.1 (by omega))]; rfl
 rw [J5o c1]
 by_cases c2:30 < p.1
 ·rw [J5p c2,decide_eq_false (fun q=>absurd q.2.1 (by omega))]; rfl
 rw [J5o c2]
 by_cases c3:p.2.2.2.1.length=p.2.2.1.length
 case neg=>rw [J8v (by omega),decide_eq_false (fun q=>c3 q.2.2)]; rfl
 rw [J82 (by omega),Jgo _ (by omega),J5l,decide_eq_true (p:=0≤p.1∧p.1≤30∧p.2.2.2.1.length=p.2.2.1.length) ⟨by omega,by omega,c3⟩,Bool.true_and]
 cases c4:J8u p.2.2.1 with
 | false=>rfl
 | true=>
  obtain ⟨hk,hr⟩:=Jdy c4
  have hl:=hk.1
  rw [Bool.not_true,J60,Bool.true_and]
  by_cases c5:p.2.1 < 0
  ·rw [J5p c5,decide_eq_false (fun q=>absurd q.1 (by omega))]; rfl
  rw [J5o c5,J5q (by omega) (by omega)]
  by_cases c6:p.1 - (p.2.2.1.length:Int) < p.2.1
  ·rw [J5p c6,decide_eq_false (fun q=>absurd q.2 (by omega))]; rfl
  rw [J5o c6,decide_eq_true (p:=0≤p.2.1∧p.2.1≤p.1 - (p.2.2.1.length:Int)) ⟨by omega,by omega⟩,Bool.true_and]
  by_cases c7:p.1=0
  ·rw [J5p c7,if_pos c7,Je9 [] ⟨by simp,by simp⟩,J5l]
  rw [J5o c7,if_neg c7]
  by_cases c8:p.2.2.1.length=0
  ·rw [J5p (by omega),decide_eq_false (by omega)]; rfl
  rw [J5o (by omega),decide_eq_true (p:=0 < p.2.2.1.length) (by omega),Bool.true_and]
  have m:J0u_1 p.2.2.1 (p.2.2.1.length:Int) 0 root p=some (scan (fun i=>if J9l root p i then none else some (.inl ())) (.inr ()) 0 p.2.2.1.length):=by
   unfold J0u_1
   have step:∀ i,i < p.2.2.1.length→J0u_1_step p.2.2.1 (p.2.2.1.length:Int) (i:Int) root p=if J9l root p i then some (.inl ((i+1:Nat):Int)) else some (.inr (.inl ())):=by
    intro i hi
    obtain ⟨po1,po2⟩:=Jk6 h i
    have hlf:=hk.2 _ (J6g (z:=zPr) hi)
    have hlb:=Jdl hlf
    have hnum:p.1=((p.1.toNat:Nat):Int):=by omega
    have hw:J46 p.1 (upS (J7z (p.2.2.1.getD i zPr)) (p.2.1+(i:Int)) p.1 (p.2.2.2.1.getD i [])).1=some (Jg4 p.1.toNat (upS (J7z (p.2.2.1.getD i zPr)) (p.2.1+(i:Int)) p.1 (p.2.2.2.1.getD i [])).1):=by
     have:=Jsl p.1.toNat _ (upS_32 (J7z (p.2.2.1.getD i zPr)) (p.2.1+(i:Int)) p.1 (p.2.2.2.1.getD i []))
     rw [← hnum] at this; exact this
    rw [Jsi,J5p (by omega),J5m (by omega),Int.toNat_natCast,Jnu _ hlf,J5l,J5m (by omega),J5q (n:=p.2.1+(i:Int)) (by omega) (by omega),up_eq _ (by omega) _ _ (by omega) _ po1 po2,J5l,hw,J5l,J5q (by omega) (by omega)]
    unfold J9l J7e
    cases (upS (J7z (p.2.2.1.getD i zPr)) (p.2.1+(i:Int)) p.1 (p.2.2.2.1.getD i [])).2 with
    | false=>rfl
    | true=>
     rw [Bool.not_true,J60,Bool.true_and]
     unfold hq
     cases Ty.beq (.arr 32 (.int .u8)) (Jg4 p.1.toNat (upS (J7z (p.2.2.1.getD i zPr)) (p.2.1+(i:Int)) p.1 (p.2.2.2.1.getD i [])).1) root <;> rfl
   refine J7l (step:=fun (s:Int)=>J0u_1_step p.2.2.1 (p.2.2.1.length:Int) s root p) (fun i=>(i:Int)) _ _ p.2.2.1.length (fun i hi h=>?_) (fun i r hi h=>?_) ?_ p.2.2.1.length 0 (by omega)
   ·by_cases hk:J9l root p i
    ·exact (step i hi).trans (if_pos hk)
    ·rw [if_neg hk] at h; cases h
   ·by_cases hk:J9l root p i
    ·rw [if_pos hk] at h; cases h
    ·rw [if_neg hk] at h; injection h with h; subst h
     exact (step i hi).trans (if_neg hk)
   ·rw [Jsi,J5o (by omega)]
  rw [m,J5l,Jxn]
  cases (List.range p.2.2.1.length).all (J9l root p) <;> rfl
theorem Je5 {root:List UInt8} {p:Prf} (h:J71 root p=true):KvOk p.2.2.1∧J7c p.2.2.1:=by
 unfold J71 at h
 rw [Bool.and_eq_true,Bool.and_eq_true] at h
 exact Jdy h.2.1
theorem J9m {root:List UInt8} {p:Prf} (h:J71 root p=true):0≤p.1∧p.1≤30∧0≤p.2.1∧p.2.1≤p.1 - (p.2.2.1.length:Int)∧(p.2.2.1.length=0↔p.1=0):=by
 unfold J71 at h
 simp only [Bool.and_eq_true,decide_eq_true_eq] at h
 obtain ⟨⟨h1,h2,_⟩,_,⟨h3,h4⟩,h5⟩:=h
 refine ⟨h1,h2,h3,h4,fun e=>?_,fun e=>by omega⟩
 apply Classical.byContradiction
 intro c
 rw [if_neg c,Bool.and_eq_true,decide_eq_true_eq] at h5
 omega
def inR (a b:List UInt8) (p:Pr):Bool:=!J62 p.1 a && J62 p.1 b
def J7x (l:List Pr) (a b:List UInt8):List Pr:=l.filter (inR a b)
theorem Jwv {l:List Pr} {a b:Nat} {q:Pr}:q ∈ cutL l (a:Int) (b:Int)↔∃ i,a≤i∧i < b∧i < l.length∧l.getD i zPr=q:=by
 unfold cutL
 rw [Int.toNat_natCast,Int.toNat_natCast]
 constructor
 ·intro h
  obtain ⟨i,h1,h2,h3⟩:=Jf6 h
  rw [List.length_take] at h2
  rw [List.getD_eq_getElem?_getD,List.getElem?_take,if_pos (by omega),← List.getD_eq_getElem?_getD] at h3
  exact ⟨i,h1,by omega,by omega,h3⟩
 ·rintro ⟨i,h1,h2,h3,rfl⟩
  have e:(l.take b).drop a=(l.drop a).take (b - a):=by rw [List.drop_take]
  have hm:((l.take b).drop a).getD (i - a) zPr=l.getD i zPr:=by
   rw [List.getD_eq_getElem?_getD,List.getD_eq_getElem?_getD,List.getElem?_drop,List.getElem?_take,if_pos (by omega)]
   congr 2; omega
  rw [← hm]
  exact J6g (by rw [List.length_drop,List.length_take]; omega)
theorem Jen (l:List Pr) (hr:J7c l) (hl:l.length≤1000) (a b:List UInt8):J31 l a b=some (J7x l a b):=by
 have h1:=below_le l a
 have h2:=below_le l b
 have e:cutL l ((J5t l a:Nat):Int) ((max (J5t l a) (J5t l b):Nat):Int)=J7x l a b:=by
  refine Jgp ?_ (hr.sublist List.filter_sublist) fun q=>?_
  ·unfold cutL
   exact (hr.sublist (List.take_sublist _ _)).sublist (List.drop_sublist _ _)
  ·rw [Jwv]
   unfold J7x inR
   rw [List.mem_filter,Bool.and_eq_true,Bool.not_eq_true']
   constructor
   ·rintro ⟨i,g1,g2,g3,rfl⟩
    refine ⟨J6g g3,?_,(J70 hr b g3).2 (by omega)⟩
    cases c:J62 (l.getD i zPr).1 a with
    | false=>rfl
    | true=>have:=(J70 hr a g3).1 c; omega
   ·rintro ⟨g1,g2,g3⟩
    obtain ⟨i,hi,rfl⟩:=List.getElem_of_mem g1
    have hg:l.getD i zPr=l[i]:=by rw [List.getD_eq_getElem?_getD,List.getElem?_eq_getElem hi]; rfl
    rw [← hg] at g2 g3
    have:=(J70 hr b hi).1 g3
    refine ⟨i,?_,by omega,hi,hg⟩
    apply Classical.byContradiction
    intro c
    rw [(J70 hr a hi).2 (by omega)] at g2; cases g2
 unfold J31
 rw [Jdj l hr hl,J5l,Jdj l hr hl,J5l,show max (J5t l a:Int) (J5t l b:Int)=((max (J5t l a) (J5t l b):Nat):Int) from by omega,J5m (by omega),e]
 unfold Jl
 have hle:(J7x l a b).length≤l.length:=List.length_filter_le _ _
 rw [J5m (by omega),J5l]
def Jeg (p:Prf) (a:List UInt8):Bool:=decide (p.2.1=0) || J62 (p.2.2.1.getD 0 zPr).1 a
def Jqp (p:Prf) (m:List UInt8):Bool:=decide (p.2.1+(p.2.2.1.length:Int)=p.1) || !J62 (p.2.2.1.getD (p.2.2.1.length - 1) zPr).1 m
noncomputable def J7m (root a b:List UInt8) (p:Prf):List Pr×Bool:=
 if J71 root p then (if p.2.2.1.length=0 then ([],true) else if Jeg p a && Jqp p (maxS a b) then (J7x p.2.2.1 a b,true) else ([],false)) else ([],false)
theorem J90 (root a b:List UInt8) (p:Prf) (h:Jd3 p):J2x root a b p=some (J7m root a b p):=by
 unfold J2x J7m
 rw [Jd9 root p h,J5l]
 cases hs:J71 root p with
 | false=>rfl
 | true=>
  obtain ⟨hk,hr⟩:=Je5 hs
  have hl:=hk.1
  obtain ⟨n1,n2,n3,n4,n5⟩:=J9m hs
  rw [Bool.not_true,J60,if_pos rfl,Jen _ hr (by omega),J5l]
  by_cases c:p.2.2.1.length=0
  ·rw [J5p (by omega),if_pos c]
  rw [J5o (by omega),if_neg c,J5q (n:=p.2.1+_) (by omega) (by omega),J5q (by omega) (by omega),J5m (by omega),J5m (by omega),show Int.toNat ((p.2.2.1.length:Int) - 1)=p.2.2.1.length - 1 from by omega,show Int.toNat (0:Int)=0 from rfl]
  unfold Jeg Jqp
  by_cases c1:p.2.1=0
  ·rw [J5p c1,decide_eq_true c1,Bool.true_or,Bool.true_and]
   by_cases c2:p.2.1+(p.2.2.1.length:Int)=p.1
   ·rw [J5p c2,decide_eq_true c2]; rfl
   ·rw [J5o c2,decide_eq_false c2,Bool.false_or]
    show fork (!(!J62 (p.2.2.1.getD (p.2.2.1.length - 1) zPr).1 (maxS a b))) _ _=_
    cases J62 (p.2.2.1.getD (p.2.2.1.length - 1) zPr).1 (maxS a b) <;> rfl
  ·rw [J5o c1,decide_eq_false c1,Bool.false_or]
   by_cases c2:p.2.1+(p.2.2.1.length:Int)=p.1
   ·rw [J5p c2,decide_eq_true c2,Bool.true_or,Bool.and_true]
    show fork (!J62 (p.2.2.1.getD 0 zPr).1 a) _ _=_
    cases J62 (p.2.2.1.getD 0 zPr).1 a <;> rfl
   ·rw [J5o c2,decide_eq_false c2,Bool.false_or,J5m (by omega)]
    show fork (!J62 (p.2.2.1.getD 0 zPr).1 a) _ (fork (!(!J62 (p.2.2.1.getD (p.2.2.1.length - 1) zPr).1 (maxS a b))) _ _)=_
    cases J62 (p.2.2.1.getD 0 zPr).1 a <;> cases J62 (p.2.2.1.getD (p.2.2.1.length - 1) zPr).1 (maxS a b) <;> rfl
theorem Jbs {root a b:List UInt8} {p:Prf} (h:(J7m root a b p).2=true):J71 root p=true:=by
 unfold J7m at h
 cases hs:J71 root p with
 | true=>rfl
 | false=>rw [hs,if_neg (by simp)] at h; cases h
noncomputable def absS (root k:List UInt8) (p:Prf):Bool:=(J7m root k k p).2 && !isAt p.2.2.1 k
theorem Jhs (root k:List UInt8) (p:Prf) (h:Jd3 p):J4j root k p=some (absS root k p):=by
 unfold J4j absS
 rw [J90 root k k p h,J5l]
 cases hs:(J7m root k k p).2 with
 | false=>rfl
 | true=>
  obtain ⟨hk,hr⟩:=Je5 (Jbs hs)
  have hl:=hk.1
  rw [Bool.not_true,J60,Jnp _ hr (by omega),J5l,Bool.true_and]
  cases isAt p.2.2.1 k <;> rfl
noncomputable def Jp1 (root:List UInt8) (x:Pr) (p:Prf):Bool:=J71 root p && decide (p.2.2.1=[x])
theorem Jj5 (root:List UInt8) (x:Pr) (p:Prf) (h:Jd3 p):J4c root x p=some (Jp1 root x p):=by
 have:=h.2.1
 unfold J4c Jp1
 rw [Jd9 root p h,J5l]
 cases J71 root p with
 | false=>rfl
 | true=>rw [J74,Jm9 _ _ (by omega),J5l,Bool.true_and]
theorem Jfx (l:List Pr) (h:KvOk l) (F T:Nat) (hT:T≤1000):Jd3 (J8x l F T):=by
 have hl:=h.1
 unfold J8x
 by_cases c:T≤F
 ·rw [if_pos c]; exact ⟨by simp,by simp,by simp⟩
 ·rw [if_neg c]
  obtain ⟨a,b⟩:=Jpl l hl F (T - F)
  refine ⟨fun x hx=>⟨by have:=b x hx; omega,?_⟩,by show ((l.drop F).take (T - F)).length≤_; rw [List.length_take,List.length_drop]; omega,by show (J8e l F (T - F)).length≤_; omega⟩
  obtain ⟨j,_,rfl⟩:=List.mem_map.1 hx
  unfold Jba
  split
  ·exact Jft _ _ _
  ·simp
theorem Ku (l:List Pr) (hl:l.length≤60) (i:Nat) (hi:i < l.length):upS (J7z (l.getD i zPr)) (i:Int) (l.length:Int) (Jba (J5w l) (i:Int))=(J76 (J5w l),true):=by
 have hg:(J5w l).getD i []=J7z (l.getD i zPr):=by
  unfold J5w
  rw [List.getD_eq_getElem?_getD,List.getD_eq_getElem?_getD,List.getElem?_map,List.getElem?_eq_getElem hi]; rfl
 have hp:=Jk7 l.length (J5w l) i (by rw [J6b]; omega) (by rw [J6b]; omega) (by rw [J6b]; omega)
 have hs:=J94 l.length (J5w l) i (by rw [J6b]; omega)
 rw [J6b,hg] at hp
 rw [J6b] at hs
 have e:Jba (J5w l) (i:Int)=Ja9 l.length (J5w l) i:=by
  unfold Jba
  rw [J6b,if_pos (by omega),Int.toNat_natCast]
 unfold upS
 rw [e,if_pos ⟨(Jcq _ _).2 (by omega),by rw [Int.toNat_natCast,Int.toNat_natCast]; exact hs⟩,Int.toNat_natCast,Int.toNat_natCast,hp]
theorem Jmh {l:List Pr} (h:Jru l):J8u l=true:=by
 rw [Jac]
 refine ⟨h.1,fun p hp=>?_,by have:=h.2.1; omega⟩
 have:=Jyh _ (h.2.2.1 p hp)
 have h3:=h.2.2.2 p hp
 unfold mayP
 have hne:p.1≠[]:=fun e=>by rw [e] at this; simp at this
 simp only [Bool.and_eq_true,Bool.not_eq_true',decide_eq_true_eq,decide_eq_false_iff_not]
 exact ⟨hne,by omega,by omega⟩
theorem Jhb {l m:List Pr} (h:J8u l=true) (hs:m.Sublist l):J8u m=true:=by
 obtain ⟨h1,h2,h3⟩:=(Jac l).1 h
 exact (Jac m).2 ⟨h1.sublist hs,fun p hp=>h2 p (hs.subset hp),Nat.le_trans hs.length_le h3⟩
theorem J9k (l:List Pr) {F T:Nat} (h:F < T):J8x l F T=((l.length:Int),(F:Int),(l.drop F).take (T - F),J8e l F (T - F),()):=by unfold J8x; rw [if_neg (by omega)]
theorem Jro (root:List UInt8) (l:List Pr) (h:J8u l=true) (F T:Nat) (hT:T≤l.length):J71 root (J8x l F T)=if l.length=0 then hq root (J6y []) else decide (F < T) && hq (J6y l) root:=by
 obtain ⟨hk,hr⟩:=Jdy h
 have h30:=((Jac l).1 h).2.2
 by_cases c:F < T
 ·have e1:((l.drop F).take (T - F)).length=T - F:=by rw [List.length_take,List.length_drop]; omega
  obtain ⟨e2,e3⟩:=Jpl l hk.1 F (T - F)
  have hat:∀ i,i < T - F→J9l root (J8x l F T) i=hq (J6y l) root:=fun i hi=>by
   have g1:((l.drop F).take (T - F)).getD i zPr=l.getD (F+i) zPr:=by
    rw [List.getD_eq_getElem?_getD,List.getD_eq_getElem?_getD,List.getElem?_take,if_pos hi,List.getElem?_drop]
   have g2:(J8e l F (T - F)).getD i []=Jba (J5w l) ((F+i:Nat):Int):=by
    unfold J8e
    rw [List.getD_eq_getElem?_getD,List.getElem?_map,List.getElem?_range hi]; rfl
   have hu:=Ku l hk.1 (F+i) (by omega)
   unfold J9l J7e
   rw [J9k l c]
   dsimp only
   rw [g1,g2,show (F:Int)+(i:Int)=((F+i:Nat):Int) from by omega,hu,Int.toNat_natCast]
   rfl
  rw [if_neg (by omega),decide_eq_true c,Bool.true_and]
  have hall:(List.range (T - F)).all (J9l root (J8x l F T))=hq (J6y l) root:=by
   cases hv:hq (J6y l) root with
   | true=>exact List.all_eq_true.2 fun i hi=>by rw [hat i (List.mem_range.1 hi),hv]
   | false=>exact List.all_eq_false.2 ⟨0,List.mem_range.2 (by omega),by rw [hat 0 (by omega),hv]; simp⟩
  unfold J71
  rw [J9k l c] at hall ⊢
  dsimp only at hall ⊢
  rw [e1,e2,hall,Jhb h ((List.take_sublist _ _).trans (List.drop_sublist _ _)),decide_eq_true (p:=0≤(l.length:Int)∧(l.length:Int)≤30∧T - F=T - F) ⟨by omega,by omega,rfl⟩,decide_eq_true (p:=0≤(F:Int)∧(F:Int)≤(l.length:Int) - ((T - F:Nat):Int)) ⟨by omega,by omega⟩,if_neg (by omega),decide_eq_true (p:=0 < T - F) (by omega)]
  rfl
 ·have es:J8x l F T=((l.length:Int),0,[],[],()):=by unfold J8x; rw [if_pos (by omega)]
  have hn:J8u ([]:List Pr)=true:=rfl
  rw [decide_eq_false c,Bool.false_and]
  unfold J71
  rw [es]
  dsimp only
  rw [hn,decide_eq_true (p:=0≤(l.length:Int)∧(l.length:Int)≤30∧([]:List (List (List UInt8))).length=([]:List Pr).length) ⟨by omega,by omega,rfl⟩,decide_eq_true (p:=0≤(0:Int)∧(0:Int)≤(l.length:Int) - (([]:List Pr).length:Int)) ⟨by omega,by simp⟩,Bool.true_and,Bool.true_and,Bool.true_and]
  by_cases c0:l.length=0
  ·rw [if_pos c0,if_pos (by omega)]
  ·rw [if_neg c0,if_neg (by omega)]; rfl
theorem Jrj (l:List Pr) (h:J8u l=true) (F T:Nat) (hT:T≤l.length):J71 (J6y l) (J8x l F T)=(decide (l.length=0) || decide (F < T)):=by
 rw [Jro _ l h F T hT]
 by_cases c:l.length=0
 ·have:l=[]:=List.length_eq_zero_iff.1 c
  subst this
  rw [if_pos c,decide_eq_true c]
  exact (Jbi _ _).2 rfl
 ·rw [if_neg c,decide_eq_false c,Bool.false_or,(Jbi (J6y l) (J6y l)).2 rfl,Bool.and_true]
theorem Jaa (l:List Pr) (hr:J7c l) (a b:List UInt8) (F T:Nat) (hFT:F < T) (hT:T≤l.length) (h1:F=0∨F < J5t l a) (h2:T=l.length∨J5t l (maxS a b) < T):J7x ((l.drop F).take (T - F)) a b=J7x l a b:=by
 have hm:J62 b a=true∨J5t l b≤J5t l (maxS a b):=by
  unfold maxS
  cases c:J62 a b with
  | true=>exact .inr (Nat.le_refl _)
  | false=>
   rcases Je4 a b c with e | e
   ·exact .inr (by rw [e]; exact Nat.le_refl _)
   ·exact .inl e
 refine Jgp (((hr.sublist (List.drop_sublist _ _)).sublist (List.take_sublist _ _)).sublist List.filter_sublist) (hr.sublist List.filter_sublist) fun q=>?_
 unfold J7x
 rw [List.mem_filter,List.mem_filter]
 refine ⟨fun h=>⟨List.mem_of_mem_drop (List.mem_of_mem_take h.1),h.2⟩,fun h=>⟨?_,h.2⟩⟩
 obtain ⟨g1,g2⟩:=h
 unfold inR at g2
 rw [Bool.and_eq_true,Bool.not_eq_true'] at g2
 obtain ⟨i,hi,rfl⟩:=List.getElem_of_mem g1
 have hg:l.getD i zPr=l[i]:=by rw [List.getD_eq_getElem?_getD,List.getElem?_eq_getElem hi]; rfl
 rw [← hg] at g2 ⊢
 have q1:=(J70 hr b hi).1 g2.2
 have q2:J5t l a≤i:=by
  apply Classical.byContradiction
  intro c
  rw [(J70 hr a hi).2 (by omega)] at g2; cases g2.1
 have q3:i < T:=by
  rcases hm with e | e
  ·have:=J79 _ _ _ g2.2 e
   rw [g2.1] at this; cases this
  ·omega
 have hm2:((l.drop F).take (T - F)).getD (i - F) zPr=l.getD i zPr:=by
  rw [List.getD_eq_getElem?_getD,List.getD_eq_getElem?_getD,List.getElem?_take,if_pos (by omega),List.getElem?_drop]
  congr 2; omega
 rw [← hm2]
 exact J6g (by rw [List.length_take,List.length_drop]; omega)
theorem Jow (l:List Pr) {F T:Nat} (hFT:F < T) (hT:T≤l.length):((l.drop F).take (T - F)).length=T - F∧((l.drop F).take (T - F)).getD 0 zPr=l.getD F zPr∧((l.drop F).take (T - F)).getD (T - F - 1) zPr=l.getD (T - 1) zPr:=by
 refine ⟨by rw [List.length_take,List.length_drop]; omega,?_,?_⟩
 ·rw [List.getD_eq_getElem?_getD,List.getD_eq_getElem?_getD,List.getElem?_take,if_pos (by omega),List.getElem?_drop]; rfl
 ·rw [List.getD_eq_getElem?_getD,List.getD_eq_getElem?_getD,List.getElem?_take,if_pos (by omega),List.getElem?_drop]
  congr 2; omega
theorem Jo7 (l:List Pr) (h:J8u l=true) (a b:List UInt8) (F T:Nat) (hT:T≤l.length) :
  J7m (J6y l) a b (J8x l F T)=if l.length=0∨(F < T∧(F=0∨F < J5t l a)∧(T=l.length∨J5t l (maxS a b) < T)) then (J7x l a b,true) else ([],false):=by
 obtain ⟨hk,hr⟩:=Jdy h
 unfold J7m
 rw [Jrj l h F T hT]
 by_cases c0:l.length=0
 ·have e0:l=[]:=List.length_eq_zero_iff.1 c0
  have es:J8x l F T=((l.length:Int),0,[],[],()):=by unfold J8x; rw [if_pos (by omega)]
  rw [decide_eq_true c0,Bool.true_or,if_pos rfl,es,if_pos (by rfl),if_pos (.inl c0),e0]; rfl
 rw [decide_eq_false c0,Bool.false_or]
 by_cases c:F < T
 ·obtain ⟨e1,e2,e3⟩:=Jow l c hT
  rw [decide_eq_true c,if_pos rfl]
  have hb:Jeg (J8x l F T) a=decide (F=0∨F < J5t l a):=by
   unfold Jeg
   rw [J9k l c]
   dsimp only
   rw [e2,Bool.eq_iff_iff,Bool.or_eq_true,decide_eq_true_eq,decide_eq_true_eq,J70 hr a (by omega)]
   omega
  have he:Jqp (J8x l F T) (maxS a b)=decide (T=l.length∨J5t l (maxS a b) < T):=by
   unfold Jqp
   rw [J9k l c]
   dsimp only
   rw [e1,e3,Bool.eq_iff_iff,Bool.or_eq_true,decide_eq_true_eq,decide_eq_true_eq,Bool.not_eq_true',← Bool.not_eq_true,J70 hr _ (by omega)]
   omega
  rw [hb,he,J9k l c]
  dsimp only
  rw [e1,if_neg (by omega)]
  by_cases q:(F=0∨F < J5t l a)∧(T=l.length∨J5t l (maxS a b) < T)
  ·have hP:l.length=0∨(F < T∧(F=0∨F < J5t l a)∧(T=l.length∨J5t l (maxS a b) < T)):=.inr ⟨c,q⟩
   rw [decide_eq_true q.1,decide_eq_true q.2,Bool.true_and,if_pos rfl,if_pos hP,Jaa l hr a b F T c hT q.1 q.2]
  ·have hP:¬ (l.length=0∨(F < T∧(F=0∨F < J5t l a)∧(T=l.length∨J5t l (maxS a b) < T))):=fun e=>e.elim c0 (fun e=>q e.2)
   have hQ:¬ (decide (F=0∨F < J5t l a) && decide (T=l.length∨J5t l (maxS a b) < T))=true:=by
    rw [Bool.and_eq_true,decide_eq_true_eq,decide_eq_true_eq]; exact q
   rw [if_neg hP,if_neg hQ]
 ·have hP:¬ (l.length=0∨(F < T∧(F=0∨F < J5t l a)∧(T=l.length∨J5t l (maxS a b) < T))):=fun e=>e.elim c0 (fun e=>c e.1)
  rw [decide_eq_false c,if_neg (by simp),if_neg hP]
theorem Jxg:J3p []=some (0,0,false):=by
 unfold J3p
 rw [show J55 []=some ([],false,()) from rfl,J5l,number_eq,J5l,number_eq,J5l,doneS,J5l]
 rfl
theorem Jzy:J3p [9,0]=some (9,0,true):=by
 unfold J3p
 rw [show J55 [9,0]=some ([9,0],false,()) from rfl,J5l,number_eq,J5l,number_eq,J5l,doneS,J5l]
 rfl
theorem Jhx:J0e [R1]=some (9,true):=by
 unfold J0e J0e_1
 rw [J67 (s':=(9,1)) (by
  show J0e_1_step 0 [R1] ((1:Nat):Int) 0=_
  unfold J0e_1_step
  rw [show ([R1].getD (Int.toNat 0) (([]:List UInt8),([]:List UInt8),()))=R1 from rfl,show J50 R1.1=some true from rfl,show R1.2.1=[9,0] from rfl,Jzy]
  rfl),J63 (r:=9) rfl]
 rfl
theorem Jpv:J7c []:=by simp [J7c]
theorem Jkh:J7c [R1]:=by simp [J7c]
theorem Jw4:J3n [] [97] 9=some ([R1],0):=by
 unfold J3n J44
 rw [show J3u [97]=some [115,47,97] from rfl,J5l,show J2v 9=some true from rfl,J5l,Jnp [] Jpv (by simp),J5l]
 rw [show (if isAt ([]:List Pr) [115,47,97] then ((([]:List Pr).getD (J5t ([]:List Pr) [115,47,97]) zPr).2.1,true) else ([],false))=(([]:List UInt8),false) from rfl,Jxg,J5l]
 rw [show J3g 0 0 9=some (9,0) from rfl]
 have e:J3v 9 0=some [9,0]:=by
  unfold J3v
  rw [put_eq _ (by simp)]
  rfl
 have e2:J4z [] ([115,47,97],[9,0],())=some ([R1],true):=(Jtk [] Jpv (by simp) _).trans rfl
 show andThen (andThen (some (9,0)) (fun u15=>fork (!decide (u15.2=(0:Int))) none (andThen (J3v u15.1 0) (fun u18=>andThen (J4z [] ([115,47,97],u18,())) (fun u20=>fork (!u20.2) none (andThen (J0e u20.1) (fun u23=>fork (!u23.2) none (some (u20.1,(0:Int)))))))))) _=_
 rw [J5l]
 show andThen (andThen (J3v 9 0) _) _=_
 rw [e,J5l,e2,J5l]
 show andThen (andThen (J0e [R1]) _) _=_
 rw [Jhx]
 rfl
theorem hostDo:J2b (3,[97],[],9,0,()) () D1 K1 V1 ([],1,[[]],()) (B1 1)=some (0,([R1],1,[[]],())):=by
 unfold J2b
 have e:J22 ([115,47,97],[9,0],()) ([],1,[[]],())=some (true,([R1],1,[[]],())):=by
  rw [Jxt _ (by
   have:=Je8 Jv5
   exact this)]
  rfl
 rw [Jfy _ (by simp),J5l]
 show andThen (J3n [] [97] 9) _=_
 rw [Jw4,J5l,J5p (show ((([R1],(0:Int)):List Pr×Int).2=0) from rfl)]
 show andThen (J3u [97]) _=_
 rw [show J3u [97]=some [115,47,97] from rfl,J5l,Jnp [R1] Jkh (by simp),J5l,J5l]
 show andThen (J22 ([115,47,97],[9,0],()) ([],1,[[]],())) _=_
 rw [e]
 rfl
theorem Jf5 (l:List Pr) (hrt:J8u l=true) (a b:List UInt8):J7m (J6y l) a b (J8x l (J5t l a - 1) (min (J5t l (maxS a b)+1) l.length))=(J7x l a b,true):=by
 have h1:=below_le l a
 have h2:=below_le l (maxS a b)
 have h3:J62 (maxS a b) a=false:=by
  unfold maxS
  cases c:J62 a b with
  | true=>
   show J62 b a=false
   cases q:J62 b a with
   | false=>rfl
   | true=>have:=J79 _ _ _ c q; rw [J9j] at this; cases this
  | false=>exact J9j a
 have h4:=Jqi l (maxS a b) a h3
 rw [Jo7 l hrt _ _ _ _ (by omega),if_pos]
 by_cases c:l.length=0
 ·exact .inl c
 ·exact .inr ⟨by omega,by omega,by omega⟩
abbrev Rsp:=Int×Int×List Pr×Prf×Unit
abbrev Qry:=Int×List UInt8×List UInt8×Int×Int×Unit
def admR (r:Rsp):Bool:=decide (1≤r.2.1) && (decide (r.2.1≤16) && J8u r.2.2.1)
theorem Jg0 (r:Rsp) (h:r.2.2.1.length≤1073741824):J3o r=some (admR r):=by
 unfold J3o admR
 rw [Jgo _ h]
 cases decide (1≤r.2.1) <;> cases decide (r.2.1≤16) <;> rfl
noncomputable def admS (q:Qry) (root:List UInt8) (r:Rsp):Int:=
 if admR r then
  if q.1=2 then (if (J7m root q.2.1 q.2.2.1 r.2.2.2.1).2 && decide ((J7m root q.2.1 q.2.2.1 r.2.2.2.1).1=r.2.2.1) then 0 else 2)
  else if r.2.2.1.length=0 then (if absS root q.2.1 r.2.2.2.1 then 0 else 2)
  else if r.2.2.1.length=1 then (if decide ((r.2.2.1.getD 0 zPr).1=q.2.1) && Jp1 root (r.2.2.1.getD 0 zPr) r.2.2.2.1 then 0 else 2)
  else 2
 else 1
theorem Jit {root a b:List UInt8} {p:Prf} (h:Jd3 p):(J7m root a b p).1.length≤1000000:=by
 have:=h.2.1
 unfold J7m
 split
 ·split
  ·simp
  ·split
   ·exact Nat.le_trans (List.length_filter_le _ _) this
   ·simp
 ·simp
theorem Jn0 (q:Qry) (root:List UInt8) (r:Rsp) (h:Jd3 r.2.2.2.1) (hl:r.2.2.1.length≤1073741824):J4b q root r=some (admS q root r):=by
 unfold J4b admS
 rw [Jg0 r hl,J5l]
 cases admR r with
 | false=>rfl
 | true=>
  rw [Bool.not_true,J60,if_pos rfl]
  by_cases c:q.1=2
  ·have hrl:=Jit (root:=root) (a:=q.2.1) (b:=q.2.2.1) h
   rw [J5p c,if_pos c,J90 _ _ _ _ h,J5l]
   cases (J7m root q.2.1 q.2.2.1 r.2.2.2.1).2 with
   | false=>rfl
   | true=>
    rw [Bool.not_true,J60,Jm9 _ _ (by omega),J5l,Bool.true_and]
    cases decide ((J7m root q.2.1 q.2.2.1 r.2.2.2.1).1=r.2.2.1) <;> rfl
  ·rw [J5o c,if_neg c]
   by_cases c0:r.2.2.1.length=0
   ·rw [J5p (by omega),if_pos c0,Jhs _ _ _ h,J5l]
    cases absS root q.2.1 r.2.2.2.1 <;> rfl
   ·rw [J5o (by omega),if_neg c0]
    by_cases c1:r.2.2.1.length=1
    ·rw [J5p (by omega),if_pos c1,J5m (by omega)]
     show fork (decide ((r.2.2.1.getD 0 zPr).1=q.2.1)) (andThen (J4c root (r.2.2.1.getD 0 zPr) r.2.2.2.1) _) _=_
     rw [Jj5 _ _ _ h,J5l]
     cases decide ((r.2.2.1.getD 0 zPr).1=q.2.1) with
     | false=>rfl
     | true=>
      rw [J74,Bool.true_and]
      cases Jp1 root (r.2.2.1.getD 0 zPr) r.2.2.2.1 <;> rfl
    ·rw [J5o (by omega),if_neg c1]
def endQ (q:Qry):List UInt8:=if q.1=1 then q.2.1 else q.2.2.1
noncomputable def ansS (id:Int) (q:Qry) (h:Int) (l:List Pr):Rsp:=
 if q.1=1∧isAt l q.2.1=true then (id,h,[l.getD (J5t l q.2.1) zPr],J8x l (J5t l q.2.1) (J5t l q.2.1+1),())
 else (id,h,J7x l q.2.1 (endQ q),J8x l (J5t l q.2.1 - 1) (min (J5t l (maxS q.2.1 (endQ q))+1) l.length),())
theorem ans_ok (id:Int) (q:Qry) (h:Int) (l:List Pr) (hrow:Jru l):Jd3 (ansS id q h l).2.2.2.1∧(ansS id q h l).2.2.1.length≤12∧J8u (ansS id q h l).2.2.1=true∧(ansS id q h l).1=id∧(ansS id q h l).2.1=h:=by
 have hk:=Jmf hrow
 have hl:=hrow.2.1
 have hrt:=Jmh hrow
 have hb:=below_le l q.2.1
 unfold ansS
 split
 ·rename_i c
  have:=(Jjx c.2).1
  have hs:[l.getD (J5t l q.2.1) zPr].Sublist l:=List.singleton_sublist.2 (J6g this)
  exact ⟨Jfx l hk _ _ (by omega),by simp,Jhb hrt hs,rfl,rfl⟩
 ·exact ⟨Jfx l hk _ _ (by omega),Nat.le_trans (List.length_filter_le _ _) hl,Jhb hrt List.filter_sublist,rfl,rfl⟩
set_option maxRecDepth 100000 in
theorem Kn (e:Qry×Int×Int×Unit):J2h [(1,e)]=some [1]:=by
 unfold J2h
 rw [show J3f [(1,e)]=some [1] from rfl,J5l]
 have h1:J5f (UInt64.ofNat (Int.toNat (([(1:Int)].length:Int) % 18446744073709551616)))=some 1:=by rfl
 have h2:Jp [1] 0 ([(1:Int)].length:Int) 1=some ():=by
  unfold Jp Jp_1
  rw [J63 (r:=()) (by
   show Jp_1_step [1] 0 ([(1:Int)].length:Int) 1 true true=_
   unfold Jp_1_step
   rw [J5p (by decide)]
   unfold Jn Jn_1
   rw [J63 (r:=()) rfl]
   rfl)]
  rfl
 unfold J3j
 rw [h1,J5l,h2]
 rfl
theorem tick (n:Int) (hn:n=0∨n=1) (d:Int) (hd:d=n+1):J9 (1,n,0,()) [(1,(Q1,d,0,()))]=some ((1,d,0,()),[(1,(Q1,d+1,d+3,()))],[1]):=by
 subst hd
 have e1:J9_1 1 0 (1,n+1,0,()) [(1,(Q1,n+1,0,()))] [1]=some ((1,n+1,0,()),[(1,(Q1,n+1,0,()))],[1]):=by
  unfold J9_1
  rw [J67 (s':=1) rfl,J63 rfl]
 have e2:J9_2 1 0 (1,n+1,0,()) [(1,(Q1,n+1,0,()))] [] [1]=some ((1,n+1,0,()),[(1,(Q1,n+1+1,n+1+3,()))],[1]):=by
  unfold J9_2
  rw [J67 (s':=(1,[(1,(Q1,n+1+1,n+1+3,()))],[1])) (by rcases hn with rfl | rfl <;> rfl),J63 rfl]
 unfold J9
 rw [show J21 [(1,(Q1,n+1,0,()))]=some () from rfl,J5l,Kn,J5l]
 have e3:w64 (n+1)=n+1:=J5q (by omega) (by omega)
 show andThen (J9_1 1 0 (1,w64 (n+1),0,()) [(1,(Q1,n+1,0,()))] [1]) _=_
 rw [e3,e1,J5l]
 show andThen (J9_2 1 0 (1,n+1,0,()) [(1,(Q1,n+1,0,()))] [] [1]) _=_
 rw [e2]
 rfl
theorem Jue:J1z ([],())=some ((0,0,[],()),false,([],())):=rfl
abbrev Cal:=Int×Int×List Pr×Unit
def C1 (h:Int):Cal:=(1,h,[R1],())
theorem Jzt (c:Cal):J1z ([c],())=some (c,true,([],())):=rfl
theorem blk0 (c:Cli):Jc () c (1,0,0,()) [(1,(Q1,1,0,()))] () [] ([],()) (0,0,[],false,()) 0 0 0 false () [] =
  some ((),c,(1,1,0,()),[(1,(Q1,2,4,()))],(),[],([],()),(0,0,[],false,()),0,0,0,false,(),[],[1]):=by
 unfold Jc
 rw [Jue,J5l]
 have e:Jc_1 false () c (1,0,0,()) [(1,(Q1,1,0,()))] () [] ([],()) (0,0,[],false,()) 0 0 0 false () [] (0,0,[],()) =
   some ((),c,(1,0,0,()),[(1,(Q1,1,0,()))],(),[],([],()),(0,0,[],false,()),0,0,0,false,(),[]):=by
  unfold Jc_1
  exact J63 rfl
 rw [e,J5l]
 show andThen (J9 (1,0,0,()) [(1,(Q1,1,0,()))]) _=_
 rw [tick 0 (.inl rfl) 1 rfl]
 rfl
theorem take1 (h:Int) (h1:1≤h):J2d (C1 h) (0,0,[],false,())=some (0,h,9,(false,()),[R1]):=by
 unfold J2d
 have e1:J15 [R1]=some true:=(Jgo _ (by simp)).trans rfl
 have e2:J0m [R1]=some false:=by
  unfold J0m Jk Jk_1
  rw [J67 (s':=1) rfl,J63 (r:=.inr ()) rfl]
  rfl
 show andThen (J15 [R1]) _=_
 rw [e1,J5l]
 show andThen (J0m [R1]) _=_
 rw [e2,J5l]
 show fork (decide (h < max 0 1)) _ _=_
 rw [J5o (by omega)]
 show andThen (J0e [R1]) _=_
 rw [Jhx]
 rfl
theorem blk1 (c:Cli) (e:List (Int×(Cal×Int×Unit))) (h:Int) (h1:1≤h):Jc () c (1,1,0,()) [(1,(Q1,2,0,()))] () e ([C1 h],()) (0,0,[],false,()) 0 0 0 false () [] =
  some ((),c,(1,2,0,()),[(1,(Q1,3,5,()))],(),e,([],()),(h,9,[R1],false,()),9,0,0,false,(),[],[1]):=by
 unfold Jc
 rw [Jzt,J5l]
 have e1:J1t (C1 h) () c (1,1,0,()) [(1,(Q1,2,0,()))] () e ([],()) (0,0,[],false,()) 0 0 0 false () []=some (h,9,(false,()),9,false,[R1]):=by
  unfold J1t
  rw [take1 h h1]
  rfl
 have e2:Jc_1 true () c (1,1,0,()) [(1,(Q1,2,0,()))] () e ([],()) (0,0,[],false,()) 0 0 0 false () [] (C1 h) =
   some ((),c,(1,1,0,()),[(1,(Q1,2,0,()))],(),e,([],()),(h,9,[R1],false,()),9,0,0,false,(),[]):=by
  unfold Jc_1
  rw [J67 (s':=(false,([],()),(h,9,[R1],false,()),9,false,(0,0,[],()))) (by
   show Jc_1_step true () c (1,1,0,()) [(1,(Q1,2,0,()))] () e ([],()) (0,0,[],false,()) 0 0 0 false () [] (C1 h)=_
   unfold Jc_1_step
   rw [e1,Jue]
   rfl)]
  exact J63 rfl
 rw [e2,J5l]
 show andThen (J9 (1,1,0,()) [(1,(Q1,2,0,()))]) _=_
 rw [tick 1 (.inr rfl) 2 rfl]
 rfl
theorem Jkl (x0:Int) (x1:List Hdr) (x2:Int) (x3:Int) (x4:(List Hdr)×(List Val)×Int×Bool×Unit) (x5:List UInt8):Jt_1_step x0 x1 x2 x3 x4 x5 =
  (fork (decide (x3 < x2)) (need (0≤x3∧x3 < (List.length x1:Int)) (fork (decide ((List.getD x1 (Int.toNat x3) zHdr).1=x0)) (some (.inr (.inl (true,x4,(List.getD x1 (Int.toNat x3) zHdr).2.2.1)))) (some (.inl (w64 (x3+(1:Int))))))) (some (.inr (.inr (x4,x5)))):Option ((Int)⊕((Bool×((List Hdr)×(List Val)×Int×Bool×Unit)×List UInt8)⊕(((List Hdr)×(List Val)×Int×Bool×Unit)×List UInt8)))):=rfl
theorem Jrk (x:Int) (l:List Hdr) (h:Hdr) (y:List Val×Int×Bool×Unit) (hl:l.length≤1000) (hh:h.1=x) (hne:∀ z ∈ l,z.1≠x):Jt x (l++[h],y)=some (h.2.2.1,true,(l++[h],y)):=by
 have hlen:(l++[h]).length=l.length+1:=by rw [List.length_append]; rfl
 have m:Jt_1 x (l++[h]) ((l++[h]).length:Int) 0 (l++[h],y) (List.replicate 32 0)=some (scan (fun i=>if ((l++[h]).getD i zHdr).1=x then some (.inl (true,(l++[h],y),((l++[h]).getD i zHdr).2.2.1)) else none) (.inr ((l++[h],y),List.replicate 32 0)) 0 (l++[h]).length):=by
  unfold Jt_1
  refine J7l (step:=fun (s:Int)=>Jt_1_step x (l++[h]) ((l++[h]).length:Int) s (l++[h],y) (List.replicate 32 0)) (fun i=>(i:Int)) _ _ (l++[h]).length (fun i hi q=>?_) (fun i r hi q=>?_) ?_ (l++[h]).length 0 (by omega)
  ·rw [Jkl,J5p (by omega),J5m (by omega),Int.toNat_natCast,J5q (by omega) (by omega)]
   by_cases e:((l++[h]).getD i zHdr).1=x
   ·rw [if_pos e] at q; cases q
   ·rw [J5o e]; rfl
  ·rw [Jkl,J5p (by omega),J5m (by omega),Int.toNat_natCast]
   by_cases e:((l++[h]).getD i zHdr).1=x
   ·rw [if_pos e] at q; injection q with q; subst q; rw [J5p e]
   ·rw [if_neg e] at q; cases q
  ·rw [Jkl,J5o (by omega)]
 have g:(l++[h]).getD l.length zHdr=h:=by
  rw [List.getD_eq_getElem?_getD,List.getElem?_append_right (by omega)]; simp
 unfold Jt
 dsimp only
 rw [m,J5l,J9i (bad:=fun i=>if ((l++[h]).getD i zHdr).1=x then some (Sum.inl (true,(l++[h],y),((l++[h]).getD i zHdr).2.2.1)) else none) (l++[h]).length 0 l.length (Nat.zero_le _) (by omega) (fun j _ hj=>if_neg (by
  rw [List.getD_eq_getElem?_getD,List.getElem?_append_left hj,List.getElem?_eq_getElem hj]
  exact hne _ (List.getElem_mem _))) (if_pos (by rw [g]; exact hh)),g]
theorem G1_sg (j:Nat):G1 j=sgB 1 r1 (fun _=>pq1) f1 j (fun _=>true):=Jzd 1 r1 (fun _=>pq1) f1 j
theorem upd1 (i:Nat) (hi:i < 14) (now:Int) (hn:now=(i:Int)+2) (l:List Hdr) (hl:1≤l.length∧l.length≤5) (hk:lastH (l,V1,50,false,())=H1 i) :
  J1o (G1 (i+1)) now (l,V1,50,false,())=some (0,(l++[H1 (i+1)],V1,50,false,())):=by
 have hc:Knows (J68 pq1 1) 50 (hG 1 r1 (fun k=>J68 ((fun _=>pq1) k) 1) f1 i) (l,V1,50,false,()):=⟨hl.1,by show l.length≤1000; omega,hk,rfl,rfl,rfl⟩
 rw [G1_sg,upd_eq _ _ _ (sgB_ok (by omega) (fun _=>pq1) f1 (by omega) (Jyn _) _) (Jy8 (P:=fun _=>pq1) (m:=16) (by omega) (fun _=>Jiq) (by omega) Jjk (by omega) hc) (by omega)]
 rw [Kv (P:=fun _=>pq1) (m:=16) (by omega) (by omega) (fun _=>Jiq) (by omega) Jjk (by omega) (by omega) hc now (fun _=>true) (by unfold f1; omega) (by unfold f1; omega)]
 have h1:=Jzw (p:=pB (fun _=>pq1) (i+1)) (pB_ok (fun _=>Jiq) _) _ (Jxb (n:=1) (by omega))
 rw [Jjp,if_neg (by omega),if_neg (by omega)]
 unfold cut6
 rw [if_neg (by rw [List.length_append]; simp; omega)]
 rfl
theorem Jun:Jru [R1]:=⟨Jkh,by decide,by decide,by decide⟩
theorem Jxa:J7x [R1] [115,47] [115,48]=[R1]:=rfl
theorem ans1 (h:Int):ansS 1 Q1 h [R1]=(1,h,[R1],J8x [R1] (J5t [R1] [115,47] - 1) (min (J5t [R1] (maxS [115,47] [115,48])+1) [R1].length),()):=by
 unfold ansS
 rw [if_neg (by decide)]
 rfl
theorem Jyx (h:Int):J51 1 Q1 h [R1]=some (ansS 1 Q1 h [R1]):=by
 unfold J51
 rw [J5p (show Q1.1=2 from rfl),Jen _ Jkh (by simp),J5l,Jkf _ (Jmf Jun) Jkh,J5l,ans1]
 rfl
theorem adm1 (h:Int) (h1:1≤h∧h≤16):J3o (ansS 1 Q1 h [R1])=some true∧J4b Q1 (J6y [R1]) (ansS 1 Q1 h [R1])=some 0:=by
 obtain ⟨a,b,c,d,e⟩:=ans_ok 1 Q1 h [R1] Jun
 have hr:admR (ansS 1 Q1 h [R1])=true:=by
  unfold admR
  rw [e,c,decide_eq_true h1.1,decide_eq_true h1.2]; rfl
 refine ⟨by rw [Jg0 _ (by omega),hr],?_⟩
 rw [Jn0 _ _ _ a (by omega)]
 unfold admS
 rw [if_pos hr,if_pos (show Q1.1=2 from rfl),ans1]
 rw [show J7m (J6y [R1]) Q1.2.1 Q1.2.2.1 (J8x [R1] (J5t [R1] [115,47] - 1) (min (J5t [R1] (maxS [115,47] [115,48])+1) [R1].length))=(J7x [R1] [115,47] [115,48],true) from Jf5 [R1] (by decide) _ _,Jxa]
 rw [if_pos (by simp)]
theorem Jqo:J0h []=some []:=by
 unfold J0h J0h_1
 rw [show J2e []=some [] from rfl,J5l,J63 (r:=[]) rfl]
 rfl
theorem Ji0 (h:Int):J0h [C1 h]=some [C1 h]:=by
 unfold J0h J0h_1
 rw [show J2e [C1 h]=some [C1 h] from rfl,J5l,J67 (s':=(1,[C1 h])) rfl,J63 (r:=[C1 h]) rfl]
 rfl
theorem push1 (h:Int):J2o [C1 h] ([],())=some (1,(),[C1 h]):=by
 unfold J2o
 rw [show J1r ([],())=some 8 from rfl,J5l,show (([],()):List Cal×Unit).1=[] from rfl,Jqo,J5l]
 show need _ (andThen (J0h [C1 h]) _)=_
 rw [J5m (by show (0:Int)≤0∧(0:Int)≤min ((1:Nat):Int) 8∧min ((1:Nat):Int) 8≤((1:Nat):Int); omega),Ji0]
 rfl
theorem Jxh (h b d u p:Int) (hh:2≤h∧h≤16) (hu:u=4∨u=5) (l:List Hdr) (x:Hdr) (hl:l.length≤100) (hx:x.1=h) (hr:x.2.2.1=J6y [R1]) (hne:∀ z ∈ l,z.1≠h) (now:Int) (hexp:J0p now (l++[x],V1,50,false,())=some false)
  (e e':List (Int×(Cal×Int×Unit))) (hlast:J2n 1 () e=some p) (hp:p < h) (hput:J2y (C1 h) b () e=some (0,e')) (m:Tced6) (x10 x11 x12:Int) (x13:Bool) (x15:List (List UInt8×Int)) :
  J1m (ansS 1 Q1 h [R1]) now () (l++[x],V1,50,false,()) (1,b,0,()) [(1,(Q1,d,u,()))] () e ([],()) m x10 x11 x12 x13 () x15=some (0,(l++[x],V1,50,false,()),[(1,(Q1,d,0,()))],e',(),[C1 h]):=by
 obtain ⟨a1,a2⟩:=adm1 h (by omega)
 have e1:(ansS 1 Q1 h [R1]).1=1:=by rw [ans1]
 have e2:(ansS 1 Q1 h [R1]).2.1=h:=by rw [ans1]
 have e3:(ansS 1 Q1 h [R1]).2.2.1=[R1]:=by rw [ans1]
 unfold J1m
 rw [a1,J5l,show (!true)=false from rfl,J60,e1,e2,e3]
 rw [show J0v 1 (1,b,0,()) [(1,(Q1,d,u,()))]=some true from by rcases hu with rfl | rfl <;> rfl,J5l,show (!true)=false from rfl,J60]
 rw [show J2t (l++[x],V1,50,false,())=some false from rfl,J5l,J60,hexp,J5l,J60,hlast,J5l,J5o (by omega)]
 rw [Jrk h l x (V1,50,false,()) (by omega) hx hne,J5l,show (!(x.2.2.1,true,(l++[x],V1,(50:Int),false,())).2.1)=false from rfl,J60]
 rw [show J1r ([],())=some 8 from rfl,J5l,J5o (by decide)]
 rw [show J1f 1 (1,b,0,()) [(1,(Q1,d,u,()))]=some (Q1,true) from rfl,J5l,show (x.2.2.1,true,(l++[x],V1,(50:Int),false,())).1=x.2.2.1 from rfl,hr,a2,J5l]
 rw [show (!decide ((0:Int)=0))=false from rfl,J60,show J2m (1,b,0,()) [(1,(Q1,d,u,()))]=some b from rfl,J5l]
 rw [show ((1,h,[R1],()):Cal)=C1 h from rfl,hput,J5l,show (!decide (((0:Int),e').1=0))=false from rfl,J60,push1,J5l]
 rw [show J2u 1 (1,b,0,()) [(1,(Q1,d,u,()))]=some (true,[(1,(Q1,d,0,()))]) from by rcases hu with rfl | rfl <;> rfl]
 rfl
abbrev zTx:Int×List UInt8×List UInt8×Int×Int×Unit:=(0,[],[],0,0,())
abbrev Res:=Int×Int×List Int×List Int×Cal×Unit
def zR (a b:Int) (l:List Int):Res:=(a,b,[],l,(0,0,[],()),())
theorem do3 (t:Int) (now q:Int) (D:List (List UInt8)) (K:List (List (List UInt8))) (V:List Val) (s:Stt) (B:List Block) (c:Cli) (r:Int×Int×Int×Unit) (e:List (Int×(Qry×Int×Int×Unit))) (ca:List (Int×(Cal×Int×Unit))) (cq:List Cal×Unit) (m:Tced6) (x y z:Int) (hb:Bool) (us:List (List UInt8×Int)) (ac:List Cal) (h1:now≤t) (h2:t≤1073741824):J00 (3,t,0,[],zTx,zTx,[],()) now q () () D K V s B () c r e () ca cq m x y z hb () us ac=some (zR 0 0 [],t,q,(),(),D,K,V,s,(),c,r,e,(),ca,cq,m,x,y,z,hb,(),us,B,ac):=by
 unfold J00
 rw [J5o (show ¬ (3:Int)=1 by decide),J5o (show ¬ (3:Int)=2 by decide),J5p (show (3:Int)=3 from rfl)]
 unfold J34
 rw [J5o (show ¬ t < now by omega),J5o (show ¬ 1073741824 < t by omega)]
 rfl
theorem do2 (k:Nat) (hk:1≤k∧k < 16) (now q:Int) (s:Stt) (c:Cli) (r:Int×Int×Int×Unit) (e:List (Int×(Qry×Int×Int×Unit))) (ca:List (Int×(Cal×Int×Unit))) (cq:List Cal×Unit) (m:Tced6) (x y z:Int) (hb:Bool) (us:List (List UInt8×Int)) (ac:List Cal) (hs:StOk s) (hkv:KvOk s.1) (hc:(J9a s).1≠0) (hr:r1 k=J6y s.1):J00 (2,f1 k,0,[],zTx,zTx,[],()) now q () () D1 K1 V1 s (B1 k) () c r e () ca cq m x y z hb () us ac=some (zR 0 (J9a s).1 [],now,q,(),(),D1,K1,V1,(J9a s).2,(),c,r,e,(),ca,cq,m,x,y,z,hb,(),us,B1 (k+1),ac):=by
 unfold J00
 rw [J5o (show ¬ (2:Int)=1 by decide),J5p (show (2:Int)=2 from rfl)]
 show andThen (Jb (f1 k) () D1 K1 V1 s (blG 1 r1 (fun _=>V1) f1 k)) _=_
 rw [Jz5 r1 f1 k hk s hs hkv (fun j _=>Jyn j) hr (fun j hj=>by unfold f1; omega) (by unfold f1; omega),J5l,J5o hc]
 rfl
theorem do5 (now q:Int) (D:List (List UInt8)) (K:List (List (List UInt8))) (V:List Val) (s:Stt) (B:List Block) (c:Cli) (r:Int×Int×Int×Unit) (e:List (Int×(Qry×Int×Int×Unit))) (ca:List (Int×(Cal×Int×Unit))) (cq:List Cal×Unit) (m:Tced6) (x y z:Int) (hb:Bool) (us:List (List UInt8×Int)) (ac:List Cal) (c':Cli) (r':Int×Int×Int×Unit) (e':List (Int×(Qry×Int×Int×Unit))) (ca':List (Int×(Cal×Int×Unit))) (cq':List Cal×Unit) (m':Tced6) (x' y' z':Int) (hb':Bool) (us':List (List UInt8×Int)) (l:List Int)
  (h:Jc () c r e () ca cq m x y z hb () us=some ((),c',r',e',(),ca',cq',m',x',y',z',hb',(),us',l)):J00 (5,0,0,[],zTx,zTx,[],()) now q () () D K V s B () c r e () ca cq m x y z hb () us ac=some (zR 0 0 l,now,q,(),(),D,K,V,s,(),c',r',e',(),ca',cq',m',x',y',z',hb',(),us',B,ac):=by
 unfold J00
 rw [J5o (show ¬ (5:Int)=1 by decide),J5o (show ¬ (5:Int)=2 by decide),J5o (show ¬ (5:Int)=3 by decide),J5o (show ¬ (5:Int)=4 by decide),J5p (show (5:Int)=5 from rfl),h]
 rfl
theorem cloneP (h:Int):Jl (ansS 1 Q1 h [R1]).2.2.1=some [R1]:=by rw [ans1]; rfl
theorem Jyo (k:Nat) (hk:k≤1) (st:Stt) (hs:StOk st) (hat:atS st ((k:Int)+2)=([R1],true)) (l:List Hdr) (hl:1≤l.length∧l.length≤4) (hla:lastH (l,V1,50,false,())=H1 k) (hne:∀ z ∈ l,z.1≠(k:Int)+2)
  (d u p:Int) (hu:u=4∨u=5) (e e':List (Int×(Cal×Int×Unit))) (b:Int) (hlast:J2n 1 () e=some p) (hp:p < (k:Int)+2) (hput:J2y (C1 ((k:Int)+2)) b () e=some (0,e'))
  (m:Tced6) (x y z:Int) (hb:Bool) (us:List (List UInt8×Int)) (ac:List Cal) (hac:ac.length≤10) :
  Jr ((k:Int)+2) 1 () () D1 K1 V1 st (B1 (k+2)) () (l,V1,50,false,()) (1,b,0,()) [(1,(Q1,d,u,()))] () e ([],()) m x y z hb () us ac =
   some (zR 0 1 [],(k:Int)+2,1,(),(),D1,K1,V1,st,B1 (k+2),(),(l++[H1 (k+1)],V1,50,false,()),(1,b,0,()),[(1,(Q1,d,0,()))],(),e',([C1 ((k:Int)+2)],()),m,x,y,z,hb,(),us,ac++[C1 ((k:Int)+2)]):=by
 have hlen:((B1 (k+2)).length:Int)=(k:Int)+2:=by rw [J99]; omega
 have hr:r1 (k+1)=J6y [R1]:=by unfold r1; rw [if_neg (by omega)]
 have hx:(H1 (k+1)).1=(k:Int)+2:=by rw [hG_1]; omega
 have hx2:(H1 (k+1)).2.2.1=J6y [R1]:=by rw [Jzg,hr]
 have hexp:J0p ((k:Int)+2) (l++[H1 (k+1)],V1,50,false,())=some false:=by
  have hc:Knows (J68 pq1 1) 50 (hG 1 r1 (fun k=>J68 ((fun _=>pq1) k) 1) f1 (k+1)) (l++[H1 (k+1)],V1,50,false,()):=⟨by rw [List.length_append]; simp,by rw [List.length_append]; simp; omega,Jig _ _ _,rfl,rfl,rfl⟩
  rw [Ji9 _ _ (Jy8 (P:=fun _=>pq1) (m:=16) (by omega) (fun _=>Jiq) (by omega) Jjk (by omega) hc) (by omega),Jig,hG_t]
  rw [decide_eq_false (show ¬ (50:Int) < (k:Int)+2 - f1 (k+1) by unfold f1; omega)]
 have hresp:=Jxh ((k:Int)+2) b d u p (by omega) hu l (H1 (k+1)) (by omega) hx hx2 hne ((k:Int)+2) hexp e e' hlast hp hput m x y z hb us
 have hans:J1j 1 ((k:Int)+2) ((k:Int)+2) 1 () () D1 K1 V1 st (B1 (k+2)) () (l++[H1 (k+1)],V1,50,false,()) (1,b,0,()) [(1,(Q1,d,u,()))] () e ([],()) m x y z hb () us ac =
   some (0,(l++[H1 (k+1)],V1,50,false,()),[(1,(Q1,d,0,()))],e',(),[C1 ((k:Int)+2)],ac++[C1 ((k:Int)+2)]):=by
  unfold J1j
  rw [show J0g () (l++[H1 (k+1)],V1,50,false,()) (1,b,0,()) [(1,(Q1,d,u,()))] () e ([],()) m x y z hb () us=some () from rfl,J5l]
  rw [show J1f 1 (1,b,0,()) [(1,(Q1,d,u,()))]=some (Q1,true) from rfl,J5l]
  unfold J3t
  rw [Ko _ hs,J5l,hat,J5l,show (!(Q1,true).2)=false from rfl,J60,J60]
  rw [Jyx,J5l]
  unfold J2w
  rw [hresp,J5l,J5p rfl,cloneP,J5l]
  rw [show (ansS 1 Q1 ((k:Int)+2) [R1]).1=1 from by rw [ans1],show (ansS 1 Q1 ((k:Int)+2) [R1]).2.1=(k:Int)+2 from by rw [ans1],J5m (by simp; omega)]
  rfl
 unfold Jr
 rw [show J1k () D1 K1 V1 st (B1 (k+2))=some ((k:Int)+2) from by unfold J1k; rw [hlen],J5l]
 unfold J1e J1l
 rw [Jg5 l (by omega),J5l,Jej,J5l,J5l,J5l]
 have hlat:J11 (50,false,()) l V1=some (H1 k):=by
  unfold J11
  rw [J5q (by omega) (by omega),J5m (by omega),show ((l.length:Int) - 1).toNat=l.length - 1 from by omega]
  exact congrArg some hla
 rw [show J11 _ _ _=_ from hlat,J5l,hG_1,J5p (by omega)]
 have hrel:J2i ((k:Int)+2) ((k:Int)+2) 1 () () D1 K1 V1 st (B1 (k+2)) () (l,V1,50,false,()) (1,b,0,()) [(1,(Q1,d,u,()))] () e ([],()) m x y z hb () us ac=some (0,(l++[H1 (k+1)],V1,50,false,())):=by
  unfold J2i
  rw [show J0r ((k:Int)+2) () D1 K1 V1 st (B1 (k+2))=some (G1 (k+1),true) from by
   rw [show ((k:Int)+2)=(((k+1:Nat):Int)+1) from by omega]; exact Jor (k+2) (k+1) (by omega) (by omega) st,J5l]
  rw [show (!(G1 (k+1),true).2)=false from rfl,J60]
  unfold J18
  rw [upd1 k (by omega) _ rfl l (by omega) hla]
  rfl
 rw [hrel,J5l]
 unfold Jr_1
 rw [J67 (s':=(2,(l++[H1 (k+1)],V1,50,false,()),[(1,(Q1,d,0,()))],e',([C1 ((k:Int)+2)],()),ac++[C1 ((k:Int)+2)],1)) (by
  show Jr_1_step _ _ _ _ _ _ _ _ _ _ _ _ _ _ _ _ _ _ _ _ _ _ _ _ _ _ _ _ _ _ _ _ _ _ _ _ _ _=_
  unfold Jr_1_step
  rw [J5p (show (1:Int)≤1 by omega)]
  dsimp only
  rw [show J0g () (l++[H1 (k+1)],V1,50,false,()) (1,b,0,()) [(1,(Q1,d,u,()))] () e ([],()) m x y z hb () us=some () from rfl,J5l]
  rw [show J0v 1 (1,b,0,()) [(1,(Q1,d,u,()))]=some true from by rcases hu with rfl | rfl <;> rfl,J5l,show (!true)=false from rfl,J60,hans]
  rfl),J63 rfl]
 rfl
def st0:Stt:=([R1],1,[[]],())
def stA:Stt:=([R1],2,[[],[R1]],())
def stB:Stt:=([R1],3,[[],[R1],[R1]],())
theorem Jyp:StOk st0:=by
 have h:=st_set (Je8 Jv5) ([115,47,97],[9,0],())
 exact h
theorem c0:J9a st0=(2,stA):=rfl
theorem cA:J9a stA=(3,stB):=rfl
theorem Jv4:StOk stA:=Je8 Jyp
theorem stB_ok:StOk stB:=Je8 Jv4
theorem kv_R1:KvOk [R1]:=Jmf Jun
abbrev zM:Tced6:=(0,0,[],false,())
theorem Hne (k j:Nat) (h:k≠j):(H1 k).1≠(j:Int)+1:=by rw [hG_1]; omega
theorem round0:Jz_1_step 1 0 2 0 1 1 () () D1 K1 V1 st0 () ([H1 0],V1,50,false,()) (1,0,0,()) [(1,(Q1,1,0,()))] () [] ([],()) zM 0 0 0 false () [] (B1 1) [] =
  some (.inl (1,1,2,1,(),(),D1,K1,V1,stA,(),([H1 0,H1 1],V1,50,false,()),(1,1,0,()),[(1,(Q1,2,0,()))],(),[(1,(C1 2,1,()))],([C1 2],()),zM,0,0,0,false,(),[],B1 2,[C1 2])):=by
 have h3:=do3 2 1 1 D1 K1 V1 st0 (B1 1) ([H1 0],V1,50,false,()) (1,0,0,()) [(1,(Q1,1,0,()))] [] ([],()) zM 0 0 0 false [] [] (by omega) (by omega)
 have h2:J00 (2,2,0,[],zTx,zTx,[],()) 2 1 () () D1 K1 V1 st0 (B1 1) () ([H1 0],V1,50,false,()) (1,0,0,()) [(1,(Q1,1,0,()))] () [] ([],()) zM 0 0 0 false () [] []=_:=
  do2 1 (by omega) 2 1 st0 ([H1 0],V1,50,false,()) (1,0,0,()) [(1,(Q1,1,0,()))] [] ([],()) zM 0 0 0 false [] [] Jyp kv_R1 (by rw [c0]; decide) rfl
 have h5:=do5 2 1 D1 K1 V1 stA (B1 2) ([H1 0],V1,50,false,()) (1,0,0,()) [(1,(Q1,1,0,()))] [] ([],()) zM 0 0 0 false [] [] _ _ _ _ _ _ _ _ _ _ _ _ (blk0 ([H1 0],V1,50,false,()))
 have h13:=Jyo 0 (by omega) stA Jv4 rfl [H1 0] (by simp) rfl (by intro z hz; rw [List.mem_singleton.1 hz]; exact Hne 0 1 (by omega)) 2 4 0 (.inl rfl) [] [(1,(C1 2,1,()))] 1 rfl (by omega) rfl zM 0 0 0 false [] [] (by simp)
 unfold Jz_1_step
 simp only [J23,J5l]
 rw [J5p (show (0:Int) < 2 by omega),show w64 ((1:Int)+max 1 1)=2 from rfl,h3,J5l]
 dsimp only
 rw [h2,J5l,c0]
 dsimp only
 rw [h5,J5l]
 dsimp only
 unfold J00
 rw [J5o (show ¬ (13:Int)=1 by decide),J5o (show ¬ (13:Int)=2 by decide),J5o (show ¬ (13:Int)=3 by decide),J5o (show ¬ (13:Int)=4 by decide),J5o (show ¬ (13:Int)=5 by decide),J5o (show ¬ (13:Int)=6 by decide),J5o (show ¬ (13:Int)=7 by decide),J5o (show ¬ (13:Int)=8 by decide),J5o (show ¬ (13:Int)=9 by decide),J5o (show ¬ (13:Int)=10 by decide),J5o (show ¬ (13:Int)=11 by decide),J5o (show ¬ (13:Int)=12 by decide),J5p (show (13:Int)=13 from rfl)]
 rw [show Jr 2 1 () () D1 K1 V1 stA (B1 2) () ([H1 0],V1,50,false,()) (1,1,0,()) [(1,(Q1,2,4,()))] () [] ([],()) zM 0 0 0 false () [] []=_ from h13]
 rfl
theorem round1:Jz_1_step 1 1 2 1 2 1 () () D1 K1 V1 stA () ([H1 0,H1 1],V1,50,false,()) (1,1,0,()) [(1,(Q1,2,0,()))] () [(1,(C1 2,1,()))] ([C1 2],()) zM 0 0 0 false () [] (B1 2) [C1 2] =
  some (.inl (2,2,3,1,(),(),D1,K1,V1,stB,(),([H1 0,H1 1,H1 2],V1,50,false,()),(1,2,0,()),[(1,(Q1,3,0,()))],(),[(1,(C1 3,2,()))],([C1 3],()),(2,9,[R1],false,()),9,0,0,false,(),[],B1 3,[C1 2,C1 3])):=by
 have h3:=do3 3 2 1 D1 K1 V1 stA (B1 2) ([H1 0,H1 1],V1,50,false,()) (1,1,0,()) [(1,(Q1,2,0,()))] [(1,(C1 2,1,()))] ([C1 2],()) zM 0 0 0 false [] [C1 2] (by omega) (by omega)
 have h2:J00 (2,3,0,[],zTx,zTx,[],()) 3 1 () () D1 K1 V1 stA (B1 2) () ([H1 0,H1 1],V1,50,false,()) (1,1,0,()) [(1,(Q1,2,0,()))] () [(1,(C1 2,1,()))] ([C1 2],()) zM 0 0 0 false () [] [C1 2]=_:=
  do2 2 (by omega) 3 1 stA ([H1 0,H1 1],V1,50,false,()) (1,1,0,()) [(1,(Q1,2,0,()))] [(1,(C1 2,1,()))] ([C1 2],()) zM 0 0 0 false [] [C1 2] Jv4 kv_R1 (by rw [cA]; decide) rfl
 have h5:=do5 3 1 D1 K1 V1 stB (B1 3) ([H1 0,H1 1],V1,50,false,()) (1,1,0,()) [(1,(Q1,2,0,()))] [(1,(C1 2,1,()))] ([C1 2],()) zM 0 0 0 false [] [C1 2] _ _ _ _ _ _ _ _ _ _ _ _ (blk1 ([H1 0,H1 1],V1,50,false,()) [(1,(C1 2,1,()))] 2 (by omega))
 have h13:=Jyo 1 (by omega) stB stB_ok rfl [H1 0,H1 1] (by simp) rfl (by
  intro z hz
  rcases List.mem_cons.1 hz with rfl | hz
  ·exact Hne 0 2 (by omega)
  ·rw [List.mem_singleton.1 hz]; exact Hne 1 2 (by omega)) 3 5 2 (.inr rfl) [(1,(C1 2,1,()))] [(1,(C1 3,2,()))] 2 rfl (by omega) rfl (2,9,[R1],false,()) 9 0 0 false [] [C1 2] (by simp)
 unfold Jz_1_step
 simp only [J23,J5l]
 rw [J5p (show (1:Int) < 2 by omega),show w64 ((2:Int)+max 1 1)=3 from rfl,h3,J5l]
 dsimp only
 rw [h2,J5l,cA]
 dsimp only
 rw [h5,J5l]
 dsimp only
 unfold J00
 rw [J5o (show ¬ (13:Int)=1 by decide),J5o (show ¬ (13:Int)=2 by decide),J5o (show ¬ (13:Int)=3 by decide),J5o (show ¬ (13:Int)=4 by decide),J5o (show ¬ (13:Int)=5 by decide),J5o (show ¬ (13:Int)=6 by decide),J5o (show ¬ (13:Int)=7 by decide),J5o (show ¬ (13:Int)=8 by decide),J5o (show ¬ (13:Int)=9 by decide),J5o (show ¬ (13:Int)=10 by decide),J5o (show ¬ (13:Int)=11 by decide),J5o (show ¬ (13:Int)=12 by decide),J5p (show (13:Int)=13 from rfl)]
 rw [show Jr 3 1 () () D1 K1 V1 stB (B1 3) () ([H1 0,H1 1],V1,50,false,()) (1,2,0,()) [(1,(Q1,3,5,()))] () [(1,(C1 2,1,()))] ([],()) (2,9,[R1],false,()) 9 0 0 false () [] [C1 2]=_ from h13]
 rfl
theorem served:Jz 2 1 1 1 () () D1 K1 V1 st0 (B1 1) () ([H1 0],V1,50,false,()) (1,0,0,()) [(1,(Q1,1,0,()))] () [] ([],()) zM 0 0 0 false () [] [] =
  some (2,3,1,(),(),D1,K1,V1,stB,(),([H1 0,H1 1,H1 2],V1,50,false,()),(1,2,0,()),[(1,(Q1,3,0,()))],(),[(1,(C1 3,2,()))],([C1 3],()),(2,9,[R1],false,()),9,0,0,false,(),[],B1 3,[C1 2,C1 3]):=by
 unfold Jz Jz_1
 rw [show max (2:Int) 0=2 from rfl,J67 (s':=_) round0,J67 (s':=_) round1,J63 rfl]
 rfl
theorem Jee:J24=some true:=by
 have e1:Jf [1]=some ((),D1,J8f 1,J8z 1,V1):=Jw1 [1] (by simp)
 have e2:J2j (1,0,0,[],(3,[97],[],9,0,()),zTx,[],()) 1 1 () () D1 K1 V1 ([],1,[[]],()) (B1 1) () ([H1 0],V1,50,false,()) (1,0,0,()) [(1,(Q1,1,0,()))] () [] ([],()) zM 0 0 0 false () [] =
   some (zR 0 0 [],1,1,(),(),D1,K1,V1,st0,(),([H1 0],V1,50,false,()),(1,0,0,()),[(1,(Q1,1,0,()))],(),[],([],()),zM,0,0,0,false,(),[],B1 1,[]):=by
  unfold J2j
  rw [J5p (show (1:Int)=1 from rfl),hostDo]
  rfl
 have e3:J1q 3 1 () () D1 K1 V1 stB (B1 3) () ([H1 0,H1 1,H1 2],V1,50,false,()) (1,2,0,()) [(1,(Q1,3,0,()))] () [(1,(C1 3,2,()))] ([C1 3],()) (2,9,[R1],false,()) 9 0 0 false () [] [C1 2,C1 3] =
   some ((),(50,false,()),[H1 0,H1 1,H1 2],V1,(),([C1 3],()),2,9,(false,()),[R1]):=by
  unfold J1q J2k J1l
  rw [Jg5 _ (by simp),J5l,Jej,J5l,J5l]
  unfold J3e
  rw [show J1p (1,2,0,()) [(1,(Q1,3,0,()))]=some () from rfl,J5l,show J3d () [(1,(C1 3,2,()))]=some () from rfl,J5l,show (([C1 3],()):List Cal×Unit).1=[C1 3] from rfl,Ji0]
  rfl
 unfold J24
 rw [e1,J5l]
 show andThen (J4u V1 D1 50 1 3) _=_
 rw [Jy2,J5l]
 show fork (!decide ((0:Int)=0)) none (andThen (J2j (1,0,0,[],(3,[97],[],9,0,()),zTx,[],()) 1 1 () () D1 K1 V1 ([],1,[[]],()) (B1 1) () ([H1 0],V1,50,false,()) (1,0,0,()) [(1,(Q1,1,0,()))] () [] ([],()) zM 0 0 0 false () []) _)=_
 rw [show (!decide ((0:Int)=0))=false from rfl,J60,e2,J5l]
 show andThen (Jz 2 1 1 1 () () D1 K1 V1 st0 (B1 1) () ([H1 0],V1,50,false,()) (1,0,0,()) [(1,(Q1,1,0,()))] () [] ([],()) zM 0 0 0 false () [] []) _=_
 rw [served,J5l]
 show andThen (J1q 3 1 () () D1 K1 V1 stB (B1 3) () ([H1 0,H1 1,H1 2],V1,50,false,()) (1,2,0,()) [(1,(Q1,3,0,()))] () [(1,(C1 3,2,()))] ([C1 3],()) (2,9,[R1],false,()) 9 0 0 false () [] [C1 2,C1 3]) _=_
 rw [e3,J5l]
 rfl
def l1:List Pr:=[([97],[49],())]
def q1:Qry:=(1,[97],[],0,1,())
end Go.Ax.V
