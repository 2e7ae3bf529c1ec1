/-
  What the host keeps no more can't be answered; the last is always there.
-/
import Derived.Test.YthhioanidhkdeaaGreatCTopKeptP
namespace Go.Ax.V
open Go.Ax
set_option linter.unusedVariables false
set_option linter.unusedSimpArgs false
def J74 {τ:Type} (f:Nat→τ→τ):Nat→Nat→τ→τ
 | _,0,t=>t
 | i,k+1,t=>J74 f (i+1) k (f i t)
theorem J6l {σ ρ τ : Type} {step : σ → Option (σ ⊕ ρ)} (st : Nat → τ → σ) (f : Nat → τ → τ) (g : τ → ρ) (n : Nat) (I : Nat → τ → Prop)
    (h1 : ∀ i t, i < n → I i t → step (st i t) = some (.inl (st (i + 1) (f i t))) ∧ I (i + 1) (f i t))
    (h2 : ∀ t, I n t → step (st n t) = some (.inr (g t))) : ∀ (k i : Nat) (t : τ), i + k = n → I i t → loop step (st i t) = some (g (J74 f i k t))
  | 0, i, t, e, h => by have : i = n := by omega
                        subst this; exact J6z (h2 t h)
  | k + 1, i, t, e, h => by
    rw [J77 (h1 i t (by omega) h).1]
    exact J6l st f g n I h1 h2 k (i + 1) (f i t) (by omega) (h1 i t (by omega) h).2
theorem Nat.find_of {p:Nat→Prop} (h:∃ n,p n):∃ n,p n∧∀ m,m < n→¬ p m:=by
 obtain ⟨n,hn⟩:=h
 induction n using Nat.strongRecOn with
 | _ n ih=>
  by_cases hx:∃ m,m < n∧p m
  ·obtain ⟨m,hm,hp⟩:=hx; exact ih m hm hp
  ·exact ⟨n,hn,fun m hm hp=>hx ⟨m,hm,hp⟩⟩
def scan {ρ:Type} (bad:Nat→Option ρ) (r0:ρ):Nat→Nat→ρ
 | _,0=>r0
 | i,k+1=>match bad i with
  | some r=>r
  | none=>scan bad r0 (i+1) k
theorem Jbc {ρ:Type} {bad:Nat→Option ρ} {r0:ρ}:∀ (k i:Nat),(∀ j,i≤j→j < i+k→bad j=none)→scan bad r0 i k=r0
 | 0,i,_=>rfl
 | k+1,i,h=>by
  rw [scan,h i (Nat.le_refl _) (by omega)]
  exact Jbc k (i+1) fun j h1 h2=>h j (by omega) (by omega)
theorem Jaa {ρ:Type} {bad:Nat→Option ρ} {r0 r:ρ}:∀ (k i j:Nat),i≤j→j < i+k→(∀ j',i≤j'→j' < j→bad j'=none)→bad j=some r→scan bad r0 i k=r
 | 0,i,j,h1,h2,_,_=>by omega
 | k+1,i,j,h1,h2,h3,h4=>by
  rw [scan]
  by_cases e:i=j
  ·subst e; rw [h4]
  ·rw [h3 i (Nat.le_refl _) (by omega)]
   exact Jaa k (i+1) j (by omega) (by omega) (fun j' g1 g2=>h3 j' (by omega) g2) h4
theorem J8y {σ ρ : Type} {step : σ → Option (σ ⊕ ρ)} (st : Nat → σ) (bad : Nat → Option ρ) (r0 : ρ) (n : Nat) (h1 : ∀ i, i < n → bad i = none → step (st i) = some (.inl (st (i + 1))))
    (h2 : ∀ i r, i < n → bad i = some r → step (st i) = some (.inr r)) (h3 : step (st n) = some (.inr r0)) : ∀ (k i : Nat), i + k = n → loop step (st i) = some (scan bad r0 i k)
  | 0, i, e => by have : i = n := by omega
                  subst this; exact J6z h3
  | k + 1, i, e => by
    rw [scan]
    split
    · rename_i r hr; exact J6z (h2 i r (by omega) hr)
    · rename_i hn
      rw [J77 (h1 i (by omega) hn)]
      exact J8y st bad r0 n h1 h2 h3 k (i + 1) (by omega)
theorem J6a {α β:Type} {a:α} {k:α→Option β}:andThen (some a) k=k a:=rfl
theorem J6e {α:Type} {p:Prop} [Decidable p] {x y:Option α} (h:p):fork (decide p) x y=x:=by rw [decide_eq_true h]; rfl
theorem J6c {α:Type} {p:Prop} [Decidable p] {x y:Option α} (h:¬ p):fork (decide p) x y=y:=by rw [decide_eq_false h]; rfl
theorem J9k {α:Type} {p:Prop} [Decidable p] {x y:Option α} (h:p):fork (!decide p) x y=y:=by rw [decide_eq_true h]; rfl
theorem Jbm {α:Type} {p:Prop} [Decidable p] {x y:Option α} (h:¬ p):fork (!decide p) x y=x:=by rw [decide_eq_false h]; rfl
theorem J7l {α:Type} {x y:Option α}:fork true x y=x:=rfl
theorem J6k {α:Type} {x y:Option α}:fork false x y=y:=rfl
theorem Jgt {α:Type} {b:Bool} {x y:Option α}:fork b x y=if b then x else y:=by cases b <;> rfl
theorem Jeg {α:Type} (l:List α) (u:Int):cutL l 0 u=l.take u.toNat:=rfl
theorem J8v {α:Type} (l:List α) (u:Int):cutL l u (l.length:Int)=l.drop u.toNat:=by
 unfold cutL; rw [Int.toNat_natCast,List.take_of_length_le (Nat.le_refl _)]
theorem Jyo (t:Ty) (h:t.comp=true) (x:t.den):Ty.beq t x x=true:=(Ty.beq_iff t h x x).2 rfl
theorem Jeb (x:List UInt8):Ty.beq (.arr 32 (.int .u8)) x x=true:=Jyo (.arr 32 (.int .u8)) rfl x
abbrev Val:=List UInt8×Int×List UInt8×Unit
def zVal:Val:=(([]:List UInt8),(0:Int),(List.replicate 32 (0:UInt8)),())
theorem Jmk:((([]:List UInt8),(0:Int),(List.replicate 32 (0:UInt8)),()):Val)=zVal:=rfl
theorem Jzj (l:List (List UInt8)) (x:List UInt8) (hl:l.length≤1073741824):J1o l x=some (l.contains x):=by
 have h:Jm_1 l x (l.length:Int) 0=some (scan (fun i=>if x=l.getD i [] then some (.inl (i:Int)) else none) (.inr ()) 0 l.length):=by
  unfold Jm_1
  refine J8y (step:=fun (s:Int)=>Jm_1_step l x (l.length:Int) s) (fun i=>(i:Int)) _ _ l.length (fun i hi h=>?_) (fun i r hi h=>?_) ?_ l.length 0 (by omega)
  ·unfold Jm_1_step
   simp (disch:=omega) only [J6e,J6f,J6b,Int.toNat_natCast]
   by_cases e:x=l.getD i []
   ·rw [if_pos e] at h; cases h
   ·rw [J6c e]; rfl
  ·unfold Jm_1_step
   simp (disch:=omega) only [J6e,J6f,J6b,Int.toNat_natCast]
   by_cases e:x=l.getD i []
   ·rw [if_pos e] at h; rw [J6e e]; injection h with h; subst h; rfl
   ·rw [if_neg e] at h; cases h
  ·unfold Jm_1_step
   rw [J6c (by omega)]
 unfold J1o Jm
 rw [h,J6a]
 by_cases hx:x ∈ l
 ·have hm:∃ j,j < l.length∧x=l.getD j []:=by
   obtain ⟨j,hj,e⟩:=List.getElem_of_mem hx
   exact ⟨j,hj,by rw [List.getD_eq_getElem?_getD,List.getElem?_eq_getElem hj]; exact e.symm⟩
  obtain ⟨j,hj⟩:=Nat.find_of (p:=fun j=>j < l.length∧x=l.getD j []) hm
  rw [Jaa l.length 0 j (Nat.zero_le _) (by omega) (fun j' _ h=>?_) (if_pos hj.1.2)]
  ·simp [andThen,hx]
  ·rw [if_neg]
   intro e
   exact hj.2 j' h ⟨by omega,e⟩
 ·rw [Jbc _ _ (fun j _ h=>?_)]
  ·simp [andThen,hx]
  ·rw [if_neg]
   intro e
   apply hx
   rw [e,List.getD_eq_getElem?_getD,List.getElem?_eq_getElem (by omega:j < l.length)]
   exact List.getElem_mem _
def pow (p:Val→Bool) (l:List Val):Int:=((l.filter p).map (·.2.1)).sum
def Jc2 (l:List Val):Prop:=l.length≤1000∧∀ v ∈ l,0≤v.2.1∧v.2.1≤2097152
theorem Ja7 (p:Val→Bool):∀ (l:List Val),(∀ v ∈ l,0≤v.2.1∧v.2.1≤2097152)→0≤pow p l∧pow p l≤2097152 * l.length
 | [],_=>by simp [pow]
 | v::l,h=>by
  have ih:=Ja7 p l fun w hw=>h w (List.mem_cons_of_mem _ hw)
  have hv:=h v (List.mem_cons_self)
  unfold pow at ih ⊢
  by_cases hp:p v
  ·rw [List.filter_cons_of_pos hp]; simp only [List.map_cons,List.sum_cons,List.length_cons]; omega
  ·rw [List.filter_cons_of_neg hp]; simp only [List.length_cons]; omega
theorem Jro (p:Val→Bool) (l:List Val) {i:Nat} (h:i < l.length):pow p (l.take (i+1))=pow p (l.take i)+(if p (l.getD i zVal) then (l.getD i zVal).2.1 else 0):=by
 unfold pow
 rw [List.take_add_one,List.getElem?_eq_getElem h,List.getD_eq_getElem?_getD,List.getElem?_eq_getElem h]
 simp only [Option.toList_some,Option.getD_some,List.filter_append,List.map_append,List.sum_append]
 by_cases hp:p l[i]
 ·rw [List.filter_cons_of_pos hp]; simp [hp]
 ·rw [List.filter_cons_of_neg hp]; simp [hp]
theorem J7c {α:Type} {l:List α} {i:Nat} {z:α} (h:i < l.length):l.getD i z ∈ l:=by
 rw [List.getD_eq_getElem?_getD,List.getElem?_eq_getElem h]; exact List.getElem_mem _
theorem K03 (l:List Val) (h:Jc2 l):J1f l=some (pow (fun _=>true) l):=by
 have main:J1f_1 0 l (l.length:Int) 0=some (pow (fun _=>true) l):=by
  unfold J1f_1
  have:=J6l (step:=fun (s:Int×Int)=>J1f_1_step s.1 l (l.length:Int) s.2) (fun i (_:Unit)=>(pow (fun _=>true) (l.take i),(i:Int))) (fun _ _=>()) (fun _=>pow (fun _=>true) l) l.length (fun _ _=>True) (fun i w hi _=>⟨?_,trivial⟩) (fun w _=>?_) l.length 0 () (by omega) trivial
  ·exact this
  ·unfold J1f_1_step
   simp only [Jmk]
   have b:=Ja7 (fun _=>true) (l.take i) fun v hv=>h.2 v (List.mem_of_mem_take hv)
   have hm:=h.2 _ (J7c (z:=zVal) hi)
   have hl:=h.1
   have t:=Jro (fun _=>true) l hi
   rw [List.length_take] at b
   simp only [if_true] at t
   simp (disch:=omega) only [J6e,J6f,J6b,Int.toNat_natCast]
   rw [t]
   rfl
  ·unfold J1f_1_step
   rw [J6c (by omega),List.take_of_length_le (Nat.le_refl _)]
 unfold J1f
 rw [main,J6a]
theorem K00 (l:List Val) (h:Jc2 l) (ns:List (List UInt8)) (hn:ns.length≤1073741824):J1e l ns=some (pow (fun v=>ns.contains v.1) l,pow (fun _=>true) l):=by
 have hl:=h.1
 have main:J1e_1 l ns 0 l (l.length:Int) 0=some (l,pow (fun v=>ns.contains v.1) l):=by
  unfold J1e_1
  have:=J6l (step:=fun (s:Int×Int)=>J1e_1_step l ns s.1 l (l.length:Int) s.2) (fun i (_:Unit)=>(pow (fun v=>ns.contains v.1) (l.take i),(i:Int))) (fun _ _=>()) (fun _=>(l,pow (fun v=>ns.contains v.1) l)) l.length (fun _ _=>True) (fun i w hi _=>⟨?_,trivial⟩) (fun w _=>?_) l.length 0 () (by omega) trivial
  ·exact this
  ·unfold J1e_1_step
   simp only [Jmk]
   have b:=Ja7 (fun v=>ns.contains v.1) (l.take i) fun v hv=>h.2 v (List.mem_of_mem_take hv)
   have hm:=h.2 _ (J7c (z:=zVal) hi)
   have t:=Jro (fun v=>ns.contains v.1) l hi
   rw [List.length_take] at b
   simp (disch:=omega) only [J6e,J6f,J6b,Int.toNat_natCast,Jzj _ _ hn,J6a]
   by_cases hc:ns.contains (l.getD i zVal).1
   ·rw [if_pos hc] at t
    rw [hc,J7l,t]
    rfl
   ·rw [if_neg hc] at t
    rw [Bool.not_eq_true] at hc
    rw [hc,J6k,t,Int.add_zero]
    rfl
  ·unfold J1e_1_step
   rw [J6c (by omega),List.take_of_length_le (Nat.le_refl _)]
 have b1:=Ja7 (fun v=>ns.contains v.1) l h.2
 have b2:=Ja7 (fun _=>true) l h.2
 unfold J1e
 rw [main,J6a,J6b (by show Int.natAbs (pow _ l) < _; omega),K03 l h,J6a,J6b (by omega)]
theorem Jwt (t:Int×Int) (n d:Int) (h1:0≤t.1∧t.1≤4294967296) (h2:0≤t.2∧t.2≤4294967296) (hn:0≤n∧n≤1000) (hd:0≤d∧d≤1000):J5b t n d=some (decide (t.2 * n < t.1 * d)):=by
 unfold J5b
 have b1:0≤t.2 * n∧t.2 * n≤4294967296 * 1000:=⟨Int.mul_nonneg h2.1 hn.1,Int.mul_le_mul h2.2 hn.2 hn.1 (by omega)⟩
 have b2:0≤t.1 * d∧t.1 * d≤4294967296 * 1000:=⟨Int.mul_nonneg h1.1 hd.1,Int.mul_le_mul h1.2 hd.2 hd.1 (by omega)⟩
 rw [J6f (by omega) (by omega),J6f (by omega) (by omega)]
def mayS (v:Val):Bool:=!decide (v.1=[]) && (decide ((v.1.length:Int)≤16) && (decide (1≤v.2.1) && decide (v.2.1≤1048576)))
theorem may_eq (v:Val):J5u v=some (mayS v):=by
 unfold J5u mayS
 simp only [Jgt]
 split
 ·rename_i h; rw [h]; split
  ·rename_i h; rw [h]; split
   ·rename_i h; rw [h]; simp
   ·rename_i h; rw [Bool.not_eq_true] at h; rw [h]; simp
  ·rename_i h; rw [Bool.not_eq_true] at h; rw [h]; simp
 ·rename_i h; rw [Bool.not_eq_true] at h; rw [h]; simp
def okAt (l:List Val) (i:Nat):Bool:=mayS (l.getD i zVal) && (i == 0 || J6t (l.getD (i - 1) zVal).1 (l.getD i zVal).1)
def Jan (l:List Val):Bool:=(List.range l.length).all (okAt l) && (decide (1≤l.length) && decide (l.length≤5))
theorem right_eq (l:List Val) (hl:l.length≤1073741824):J0n l=some (Jan l):=by
 have main:J0n_1 l l (l.length:Int) 0=some (scan (fun i=>if okAt l i then none else some (.inl false)) (.inr l) 0 l.length):=by
  unfold J0n_1
  have step:∀ i,i < l.length→J0n_1_step l l (l.length:Int) (i:Int)=if okAt l i then some (.inl ((i+1:Nat):Int)) else some (.inr (.inl false)):=by
   intro i hi
   unfold J0n_1_step
   simp only [Jmk]
   simp (disch:=omega) only [J6e,J6f,J6b,Int.toNat_natCast,may_eq,J6a]
   unfold okAt
   by_cases hm:mayS (l.getD i zVal)
   ·rw [hm]
    rw [show (!true)=false from rfl,J6k,Bool.true_and]
    by_cases h0:i=0
    ·subst h0; rw [J6c (by omega)]; rfl
    ·rw [J6e (by omega),J6b (by omega),show Int.toNat ((i:Int) - 1)=i - 1 from by omega]
     have:(i == 0)=false:=by simp [h0]
     rw [this,Bool.false_or]
     by_cases hs:J6t (l.getD (i - 1) zVal).1 (l.getD i zVal).1
     ·rw [hs]; rfl
     ·rw [Bool.not_eq_true] at hs; rw [hs]; rfl
   ·rw [Bool.not_eq_true] at hm; rw [hm]; rfl
  refine J8y (step:=fun (s:Int)=>J0n_1_step l l (l.length:Int) s) (fun i=>(i:Int)) _ _ l.length (fun i hi h=>?_) (fun i r hi h=>?_) ?_ l.length 0 (by omega)
  ·by_cases hk:okAt l i
   ·exact (step i hi).trans (if_pos hk)
   ·rw [if_neg hk] at h; cases h
  ·by_cases hk:okAt l i
   ·rw [if_pos hk] at h; cases h
   ·rw [if_neg hk] at h; injection h with h; subst h
    exact (step i hi).trans (if_neg hk)
  ·unfold J0n_1_step
   rw [J6c (by omega)]
 unfold J0n
 rw [main,J6a]
 unfold Jan
 by_cases hall:(List.range l.length).all (okAt l)
 ·rw [Jbc _ _ (fun j _ h=>if_pos (List.all_eq_true.1 hall j (by simp; omega))),hall,Bool.true_and]
  simp only [Jgt]
  by_cases h1:1≤l.length
  ·rw [decide_eq_true h1,decide_eq_true (show (1:Int)≤(l.length:Int) by omega),if_pos rfl,Bool.true_and]
   congr 1
   exact decide_eq_decide.2 (by omega)
  ·rw [decide_eq_false h1,decide_eq_false (show ¬ (1:Int)≤(l.length:Int) by omega)]; rfl
 ·rw [Bool.not_eq_true] at hall
  have:∃ j,j < l.length∧okAt l j=false:=by
   rw [List.all_eq_false] at hall
   obtain ⟨j,hj,hk⟩:=hall
   exact ⟨j,by simpa using hj,by simpa using hk⟩
  obtain ⟨j,hj⟩:=Nat.find_of this
  have hsc:scan (fun i=>if okAt l i then none else some (.inl false)) (.inr l:Bool⊕List Val) 0 l.length=.inl false:=by
   refine Jaa l.length 0 j (Nat.zero_le _) (by omega) (fun j' _ h=>if_pos ?_) (if_neg ?_)
   ·have:=hj.2 j' h
    cases hk:okAt l j' with
    | true=>rfl
    | false=>exact absurd ⟨by omega,hk⟩ this
   ·rw [hj.1.2]; simp
  rw [hall,hsc]
  rfl
theorem Jzy (p:Val→Bool) (v:Val) (l:List Val):pow p (v::l)=(if p v then v.2.1 else 0)+pow p l:=by
 unfold pow
 by_cases h:p v
 ·rw [List.filter_cons_of_pos h,if_pos h]; simp
 ·rw [List.filter_cons_of_neg h,if_neg h]; simp
theorem K2h (p:Val→Bool):pow p []=0:=rfl
theorem Jab:∀ a:List UInt8,J6t a a=false
 | []=>rfl
 | x::a=>by
  rw [J6t,Jab a]
  simp
theorem J7y:∀ a b c:List UInt8,J6t a b=true→J6t b c=true→J6t a c=true
 | _,[],_,h,_=>by cases ‹List UInt8› <;> simp [J6t] at h
 | _,_::_,[],_,h=>by simp [J6t] at h
 | [],_::_,_::_,_,_=>rfl
 | x::a,y::b,z::c,h1,h2=>by
  simp only [J6t,Bool.or_eq_true,Bool.and_eq_true,decide_eq_true_eq,beq_iff_eq] at h1 h2 ⊢
  rcases h1 with h1 | ⟨rfl,h1⟩
  ·rcases h2 with h2 | ⟨rfl,h2⟩
   ·exact .inl (UInt8.lt_trans h1 h2)
   ·exact .inl h1
  ·rcases h2 with h2 | ⟨rfl,h2⟩
   ·exact .inl h2
   ·exact .inr ⟨rfl,J7y a b c h1 h2⟩
def incN (ns:List (List UInt8)):Bool:=(List.range (ns.length - 1)).all fun i=>J6t (ns.getD i []) (ns.getD (i+1) [])
theorem Jni:∀ (ns:List (List UInt8)),incN ns=true→ns.Pairwise (fun a b=>J6t a b=true)
 | [],_=>List.Pairwise.nil
 | [x],_=>List.pairwise_singleton _ _
 | x::y::ns,h=>by
  have hall:∀ i,i < ns.length+1→J6t ((x::y::ns).getD i []) ((x::y::ns).getD (i+1) [])=true:=fun i hi=>List.all_eq_true.1 h i (by simp; omega)
  have ih:=Jni (y::ns) (List.all_eq_true.2 fun i hi=>by
   have:=hall (i+1) (by simp at hi; omega)
   exact this)
  have h0:J6t x y=true:=hall 0 (by omega)
  refine List.pairwise_cons.2 ⟨fun z hz=>?_,ih⟩
  rcases List.mem_cons.1 hz with rfl | hz
  ·exact h0
  ·exact J7y _ _ _ h0 ((List.pairwise_cons.1 ih).1 z hz)
theorem K23:∀ (ns:List (List UInt8)),ns.Pairwise (fun a b=>J6t a b=true)→incN ns=true:=by
 intro ns h
 refine List.all_eq_true.2 fun i hi=>?_
 have hi:i < ns.length - 1:=by simpa using hi
 rw [List.getD_eq_getElem?_getD,List.getD_eq_getElem?_getD,List.getElem?_eq_getElem (by omega),List.getElem?_eq_getElem (by omega)]
 exact List.pairwise_iff_getElem.1 h i (i+1) (by omega) (by omega) (by omega)
def Jn9 (l:List Val) (x:List UInt8):Val×Bool:=match l.find? (fun v=>decide (v.1=x)) with
 | some v=>(v,true)
 | none=>(zVal,false)
theorem Joj (l:List Val) (x:List UInt8):∀ (k i:Nat),i+k=l.length→scan (fun i=>if (l.getD i zVal).1=x then some (.inl (true,l.getD i zVal)) else none) (.inr zVal:(Bool×Val)⊕Val) i k =
  match (l.drop i).find? (fun v=>decide (v.1=x)) with | some v=>.inl (true,v) | none=>.inr zVal
 | 0,i,h=>by rw [List.drop_of_length_le (by omega)]; rfl
 | k+1,i,h=>by
  have hd:l.drop i=l.getD i zVal::l.drop (i+1):=by
   rw [List.drop_eq_getElem_cons (by omega),List.getD_eq_getElem?_getD,List.getElem?_eq_getElem (by omega)]; rfl
  rw [scan,hd]
  by_cases e:(l.getD i zVal).1=x
  ·rw [if_pos e,List.find?_cons_of_pos (by simpa using e)]
  ·rw [if_neg e,List.find?_cons_of_neg (by simpa using e)]
   exact Joj l x k (i+1) (by omega)
theorem Jna (x:List UInt8) (l:List Val) (n i:Int) (z:Val):J1s_1_step x l n i z=(fork (decide (i < n)) (need (0≤i∧i < (l.length:Int)) (fork (decide ((l.getD (Int.toNat i) zVal).1=x)) (some (.inr (.inl (true,l.getD (Int.toNat i) zVal)))) (some (.inl (w64 (i+1)))))) (some (.inr (.inr z))):Option (Int⊕((Bool×Val)⊕Val))):=rfl
theorem K1u (l:List Val) (hl:l.length≤1073741824) (x:List UInt8):J1s l x=some (Jn9 l x):=by
 have h:J1s_1 x l (l.length:Int) 0 zVal=some (scan (fun i=>if (l.getD i zVal).1=x then some (.inl (true,l.getD i zVal)) else none) (.inr zVal) 0 l.length):=by
  unfold J1s_1
  refine J8y (step:=fun (s:Int)=>J1s_1_step x l (l.length:Int) s zVal) (fun i=>(i:Int)) _ _ l.length (fun i hi h=>?_) (fun i r hi h=>?_) ?_ l.length 0 (by omega)
  ·rw [Jna,J6e (by omega),J6b (by omega),Int.toNat_natCast,J6f (by omega) (by omega)]
   by_cases e:(l.getD i zVal).1=x
   ·rw [if_pos e] at h; cases h
   ·rw [J6c e]; rfl
  ·rw [Jna,J6e (by omega),J6b (by omega),Int.toNat_natCast]
   by_cases e:(l.getD i zVal).1=x
   ·rw [if_pos e] at h; injection h with h; subst h; rw [J6e e]
   ·rw [if_neg e] at h; cases h
  ·unfold J1s_1_step
   rw [J6c (by omega)]
 unfold J1s
 simp only [Jmk]
 rw [h,J6a,Joj l x l.length 0 (by omega),List.drop_zero]
 unfold Jn9
 cases l.find? (fun v=>decide (v.1=x)) <;> rfl
def Dist (l:List Val):Prop:=(l.map (·.1)).Nodup
theorem K1v {l:List Val} (hd:Dist l) {v:Val} (hv:v ∈ l):Jn9 l v.1=(v,true):=by
 have:l.find? (fun w=>decide (w.1=v.1))=some v:=by
  induction l with
  | nil=>cases hv
  | cons w l ih=>
   unfold Dist at hd
   rw [List.map_cons,List.nodup_cons] at hd
   rcases List.mem_cons.1 hv with rfl | hv
   ·rw [List.find?_cons_of_pos (by simp)]
   ·rw [List.find?_cons_of_neg]
    ·exact ih hd.2 hv
    ·simp only [decide_eq_true_eq]
     intro e
     exact hd.1 (by rw [e]; exact List.mem_map_of_mem hv)
 unfold Jn9
 rw [this]
abbrev Pr:=List UInt8×List UInt8×Unit
def zPr:Pr:=([],[],())
abbrev PT:Ty:=.fld .str (.fld .str .unit)
theorem pbeq (a b:Pr):Ty.beq PT a b=decide (a=b):=by
 rw [Bool.eq_iff_iff,Ty.beq_iff PT rfl a b,decide_eq_true_eq]
theorem Jf8:∀ a b:List UInt8,J6t a b=false→a=b∨J6t b a=true
 | [],[],_=>.inl rfl
 | _::_,[],_=>.inr rfl
 | [],_::_,h=>by simp [J6t] at h
 | x::a,y::b,h=>by
  simp only [J6t,Bool.or_eq_false_iff,Bool.and_eq_false_iff,decide_eq_false_iff_not,beq_eq_false_iff_ne,ne_eq] at h
  obtain ⟨h1,h2⟩:=h
  by_cases e:x=y
  ·subst e
   rcases Jf8 a b (h2.resolve_left (fun q=>q rfl)) with rfl | h
   ·exact .inl rfl
   ·exact .inr (by simp [J6t,h])
  ·right
   have:y < x:=by
    rcases UInt8.lt_or_lt_of_ne e with q | q
    ·exact absurd q h1
    ·exact q
   simp [J6t,this]
theorem Jp4:∀ a b:List UInt8,(cmpS a b < 0)↔J6t a b=true
 | [],[]=>by simp [cmpS,Lib.compareBytes,J6t]
 | [],_::_=>by simp [cmpS,Lib.compareBytes,J6t]
 | _::_,[]=>by simp [cmpS,Lib.compareBytes,J6t]
 | x::a,y::b=>by
  have ih:=Jp4 a b
  unfold cmpS at ih
  unfold cmpS
  rw [Lib.compareBytes,J6t]
  by_cases h:x < y
  ·simp [h]
  ·rw [if_neg h]
   by_cases h2:y < x
   ·have hne:x≠y:=fun e=>by subst e; exact h h2
    rw [if_pos h2]; simp [h,hne]
   ·have he:x=y:=UInt8.le_antisymm (UInt8.not_lt.1 h2) (UInt8.not_lt.1 h)
    rw [if_neg h2,ih]; simp [he]
theorem Jkv:∀ a b:List UInt8,(cmpS a b=0)↔a=b
 | [],[]=>by simp [cmpS,Lib.compareBytes]
 | [],_::_=>by simp [cmpS,Lib.compareBytes]
 | _::_,[]=>by simp [cmpS,Lib.compareBytes]
 | x::a,y::b=>by
  have ih:=Jkv a b
  unfold cmpS at ih
  unfold cmpS
  rw [Lib.compareBytes]
  by_cases h:x < y
  ·have hne:x≠y:=fun e=>by subst e; exact UInt8.lt_irrefl _ h
   rw [if_pos h]; simp [hne]
  ·rw [if_neg h]
   by_cases h2:y < x
   ·have hne:x≠y:=fun e=>by subst e; exact h h2
    rw [if_pos h2]; simp [hne]
   ·have he:x=y:=UInt8.le_antisymm (UInt8.not_lt.1 h2) (UInt8.not_lt.1 h)
    rw [if_neg h2,ih]; simp [he]
def J6h:List Pr→List UInt8→Nat
 | [],_=>0
 | p::r,k=>bif J6t p.1 k then J6h r k+1 else 0
theorem below_le:∀ (l:List Pr) (k:List UInt8),J6h l k≤l.length
 | [],_=>Nat.le_refl _
 | p::r,k=>by
  have:=below_le r k
  unfold J6h
  cases J6t p.1 k
  ·exact Nat.zero_le _
  ·rw [cond_true,List.length_cons]; omega
theorem Jcz:∀ (l:List Pr) (k:List UInt8) (i:Nat),i < J6h l k→J6t (l.getD i zPr).1 k=true
 | [],_,i,h=>by unfold J6h at h; omega
 | p::r,k,i,h=>by
  unfold J6h at h
  cases e:J6t p.1 k with
  | false=>rw [e,cond_false] at h; omega
  | true=>
   rw [e,cond_true] at h
   match i with
   | 0=>exact e
   | j+1=>exact Jcz r k j (by omega)
theorem Jgq:∀ (l:List Pr) (k:List UInt8),J6h l k < l.length→J6t (l.getD (J6h l k) zPr).1 k=false
 | [],_,h=>by simp at h
 | p::r,k,h=>by
  unfold J6h at h ⊢
  cases e:J6t p.1 k with
  | false=>exact e
  | true=>
   rw [e,cond_true,List.length_cons] at h
   exact Jgq r k (by omega)
theorem Jsq (l:List Pr) (k:List UInt8) (n:Nat) (hn:n≤l.length) (h1:∀ i,i < n→J6t (l.getD i zPr).1 k=true) (h2:n < l.length→J6t (l.getD n zPr).1 k=false):J6h l k=n:=by
 rcases Nat.lt_trichotomy (J6h l k) n with h | h | h
 ·have a:=h1 _ h
  rw [Jgq l k (by omega)] at a; cases a
 ·exact h
 ·have a:=Jcz l k n h
  have b:=below_le l k
  rw [h2 (by omega)] at a; cases a
def J81 (l:List Pr):Prop:=l.Pairwise (fun a b=>J6t a.1 b.1=true)
theorem Jep {l:List Pr} (h:J81 l) {i j:Nat} (hij:i < j) (hj:j < l.length):J6t (l.getD i zPr).1 (l.getD j zPr).1=true:=by
 rw [List.getD_eq_getElem?_getD,List.getD_eq_getElem?_getD,List.getElem?_eq_getElem hj,List.getElem?_eq_getElem (by omega)]
 exact List.pairwise_iff_getElem.1 h i j (by omega) hj hij
theorem J8d {l:List Pr} (h:J81 l) (k:List UInt8) {i:Nat} (hi:i < l.length):J6t (l.getD i zPr).1 k=true↔i < J6h l k:=by
 refine ⟨fun hs=>?_,Jcz l k i⟩
 apply Classical.byContradiction
 intro hn
 have b:=Jgq l k (by omega)
 rcases Nat.lt_or_ge (J6h l k) i with c | c
 ·rw [J7y _ _ _ (Jep h c hi) hs] at b; cases b
 ·have:J6h l k=i:=by omega
  rw [this,hs] at b; cases b
theorem Jsp (l:List Pr) (a b:List UInt8) (h:J6t a b=false):J6h l b≤J6h l a:=by
 apply Nat.le_of_not_lt
 intro hc
 have hl:=below_le l b
 have h1:=Jcz l b _ hc
 have h2:=Jgq l a (by omega)
 rcases Jf8 a b h with rfl | q
 ·rw [h1] at h2; cases h2
 ·rw [J7y _ _ _ h1 q] at h2; cases h2
def isAt (l:List Pr) (k:List UInt8):Bool:=decide (J6h l k < l.length∧(l.getD (J6h l k) zPr).1=k)
theorem Jr7 {l:List Pr} (h:J81 l) (k:List UInt8):isAt l k=true↔∃ p ∈ l,p.1=k:=by
 unfold isAt
 rw [decide_eq_true_eq]
 constructor
 ·rintro ⟨h1,h2⟩
  exact ⟨_,J7c h1,h2⟩
 ·rintro ⟨p,hp,e⟩
  obtain ⟨i,hi,rfl⟩:=List.getElem_of_mem hp
  have hg:l.getD i zPr=l[i]:=by rw [List.getD_eq_getElem?_getD,List.getElem?_eq_getElem hi]; rfl
  have:J6h l k=i:=by
   refine Jsq l k i (by omega) (fun j hj=>?_) fun _=>?_
   ·rw [← e,← hg]; exact Jep h hj hi
   ·rw [hg,e]; exact Jab k
  rw [this,hg]; exact ⟨hi,e⟩
theorem mid_eq (i j:Nat) (h:i+j≤1073741824):w64 ((UInt64.toNat (UInt64.ofNat (UInt64.toNat (UInt64.ofNat (Int.toNat ((w64 ((i:Int)+(j:Int))) % 18446744073709551616))) >>> (Int.toNat (1:Int)))):Nat):Int)=(((i+j) / 2:Nat):Int):=by
 rw [J6f (n:=(i:Int)+(j:Int)) (by omega) (by omega)]
 have e1:Int.toNat (((i:Int)+(j:Int)) % 18446744073709551616)=i+j:=by omega
 have e2:UInt64.toNat (UInt64.ofNat (i+j))=i+j:=by rw [UInt64.toNat_ofNat']; omega
 have e3:(i+j) >>> (Int.toNat (1:Int))=(i+j) / 2:=rfl
 have e4:UInt64.toNat (UInt64.ofNat ((i+j) / 2))=(i+j) / 2:=by rw [UInt64.toNat_ofNat']; omega
 rw [e1,e2,e3,e4,J6f (by omega) (by omega)]
theorem Jo6 (p:Pr) (k:List UInt8):J4t p k=some (cmpS p.1 k):=rfl
theorem Jus (x0:List Pr) (x1:List UInt8) (x2:Int) (x3:Int) (x4:Int):J8_1_step x0 x1 x2 x3 x4 =
  (fork (decide (x3 < x4)) (need (0≤(w64 ((UInt64.toNat (UInt64.ofNat (UInt64.toNat (UInt64.ofNat (Int.toNat ((w64 (x3+x4)) % 18446744073709551616))) >>> (Int.toNat (1:Int)))):Nat):Int))∧(w64 ((UInt64.toNat (UInt64.ofNat (UInt64.toNat (UInt64.ofNat (Int.toNat ((w64 (x3+x4)) % 18446744073709551616))) >>> (Int.toNat (1:Int)))):Nat):Int)) < (List.length x0:Int)) (andThen (J4t (List.getD x0 (Int.toNat (w64 ((UInt64.toNat (UInt64.ofNat (UInt64.toNat (UInt64.ofNat (Int.toNat ((w64 (x3+x4)) % 18446744073709551616))) >>> (Int.toNat (1:Int)))):Nat):Int))) zPr) x1) (fun u4=>fork (decide (u4 < (0:Int))) (some (.inl ((w64 ((w64 ((UInt64.toNat (UInt64.ofNat (UInt64.toNat (UInt64.ofNat (Int.toNat ((w64 (x3+x4)) % 18446744073709551616))) >>> (Int.toNat (1:Int)))):Nat):Int))+(1:Int))),x4))) (some (.inl (x3,(w64 ((UInt64.toNat (UInt64.ofNat (UInt64.toNat (UInt64.ofNat (Int.toNat ((w64 (x3+x4)) % 18446744073709551616))) >>> (Int.toNat (1:Int)))):Nat):Int)))))))) (some (.inr (x0,x1,x2,x3))):Option ((Int×Int)⊕((List Pr)×List UInt8×Int×Int))):=rfl
theorem Jp2 (l:List Pr) (hr:J81 l) (hl:l.length≤1000) (k:List UInt8):∀ (m i j:Nat),j - i≤m→i≤J6h l k→J6h l k≤j→j≤l.length→
  J8_1 l k (l.length:Int) (i:Int) (j:Int)=some (l,k,(l.length:Int),(J6h l k:Int))
 | m,i,j,hm,h1,h2,h3=>by
  unfold J8_1
  by_cases c:i < j
  ·have hs:J8_1_step l k (l.length:Int) (i:Int) (j:Int)=some (.inl (if (i+j) / 2 < J6h l k then ((((i+j) / 2+1:Nat):Int),(j:Int)) else ((i:Int),(((i+j) / 2:Nat):Int)))):=by
    rw [Jus,J6e (by omega),mid_eq i j (by omega),J6b (by omega),Int.toNat_natCast,Jo6,J6a,J6f (by omega) (by omega)]
    by_cases q:(i+j) / 2 < J6h l k
    ·rw [if_pos q,J6e ((Jp4 _ _).2 (Jcz l k _ q))]; rfl
    ·rw [if_neg q,J6c (fun e=>q ((J8d hr k (by omega)).1 ((Jp4 _ _).1 e)))]
   rw [J77 hs]
   match m with
   | 0=>omega
   | m+1=>
    by_cases q:(i+j) / 2 < J6h l k
    ·rw [if_pos q]
     exact Jp2 l hr hl k m ((i+j) / 2+1) j (by omega) (by omega) h2 h3
    ·rw [if_neg q]
     exact Jp2 l hr hl k m i ((i+j) / 2) (by omega) h1 (by omega) (by omega)
  ·have:i=J6h l k:=by omega
   subst this
   exact J6z (by rw [Jus,J6c (by omega)])
theorem Jf0 (l:List Pr) (hr:J81 l) (hl:l.length≤1000) (k:List UInt8):J4f l k=some ((J6h l k:Int),isAt l k):=by
 have hb:=below_le l k
 have h:J8 l k=some ((J6h l k:Int),isAt l k):=by
  unfold J8
  rw [show ((0:Int))=((0:Nat):Int) from rfl,Jp2 l hr hl k l.length 0 l.length (by omega) (by omega) hb (Nat.le_refl _),J6a]
  simp only
  unfold isAt
  by_cases c:J6h l k < l.length
  ·rw [J6e (by omega),J6b (by omega),Jo6,J6a,Int.toNat_natCast]
   congr 2
   exact decide_eq_decide.2 ⟨fun e=>⟨c,(Jkv _ _).1 e⟩,fun e=>(Jkv _ _).2 e.2⟩
  ·rw [J6c (by omega),decide_eq_false (fun e=>c e.1)]
 unfold J4f
 rw [h,J6a]
theorem Jci (l:List Pr) (hr:J81 l) (hl:l.length≤1000) (k:List UInt8):J3z l k=some (J6h l k:Int):=by
 unfold J3z
 rw [Jf0 l hr hl,J6a]
theorem Jfo (l:List Pr) (hr:J81 l) (hl:l.length≤1000) (k:List UInt8):J38 l k=some (if isAt l k then ((l.getD (J6h l k) zPr).2.1,true) else ([],false)):=by
 unfold J38
 rw [Jf0 l hr hl,J6a]
 cases c:isAt l k with
 | false=>rfl
 | true=>
  have:=c
  unfold isAt at this
  rw [decide_eq_true_eq] at this
  rw [Bool.not_true,J6k,J6b (by omega),Int.toNat_natCast]; rfl
theorem Jev (a:Nat):(BitVec.ofInt 64 (a:Int)).toNat=a % 18446744073709551616:=by
 rw [BitVec.toNat_ofInt]; omega
theorem Jkn (a b:Nat) (ha:a < 9223372036854775808) (hb:b < 9223372036854775808):band (a:Int) (b:Int)=((a &&& b:Nat):Int):=by
 unfold band
 have hle:a &&& b≤a:=Nat.and_le_left
 rw [BitVec.toNat_and,Jev,Jev,Nat.mod_eq_of_lt (by omega),Nat.mod_eq_of_lt (by omega)]
 exact J6f (by omega) (by omega)
theorem Jur (a b:Nat) (h:(a ||| b) < 9223372036854775808):bor (a:Int) (b:Int)=((a ||| b:Nat):Int):=by
 unfold bor
 have h1:a≤a ||| b:=Nat.left_le_or
 have h2:b≤a ||| b:=Nat.right_le_or
 rw [BitVec.toNat_or,Jev,Jev,Nat.mod_eq_of_lt (by omega),Nat.mod_eq_of_lt (by omega)]
 exact J6f (by omega) (by omega)
theorem Juf (a:Nat) (ha:a < 9223372036854775808):band (a:Int) 127=((a % 128:Nat):Int):=by
 rw [show (127:Int)=((127:Nat):Int) from rfl,Jkn a 127 ha (by omega),show (127:Nat)=2 ^ 7 - 1 from rfl,Nat.and_two_pow_sub_one_eq_mod]
theorem Jwq (a c k:Nat) (h:a < 2 ^ k):a ||| (c * 2 ^ k)=a+c * 2 ^ k:=by
 rw [Nat.or_comm,← Nat.shiftLeft_eq,← Nat.shiftLeft_add_eq_or_of_lt h,Nat.add_comm]
theorem K0d (a:Nat) (h:a < 128):bor (a:Int) 128=((a+128:Nat):Int):=by
 have e:=Jwq a 1 7 h
 rw [show (128:Int)=((128:Nat):Int) from rfl,Jur a 128 (by simp only [Nat.one_mul] at e; rw [show (128:Nat)=2 ^ 7 from rfl,e]; omega)]
 simp only [Nat.one_mul] at e
 rw [show (128:Nat)=2 ^ 7 from rfl,e]
theorem Jr8 (a k:Nat) (hk:k≤64):ishr (a:Int) k=((a / 2 ^ k:Nat):Int):=by
 unfold ishr
 rw [Nat.min_eq_left hk,Int.fdiv_eq_ediv_of_nonneg _ (by exact_mod_cast Nat.zero_le _)]
 exact_mod_cast rfl
theorem Jzl (a k:Nat) (hk:k≤64) (h:a * 2 ^ k < 9223372036854775808):ishl (a:Int) k=((a * 2 ^ k:Nat):Int):=by
 unfold ishl
 rw [Nat.min_eq_left hk]
 have e:(a:Int) * 2 ^ k=((a * 2 ^ k:Nat):Int):=by exact_mod_cast rfl
 rw [e]
 exact J6f (by omega) (by omega)
theorem u8_and127 (b:UInt8):(b &&& 127).toNat=b.toNat % 128:=by
 rw [UInt8.toNat_and,show (127:UInt8).toNat=2 ^ 7 - 1 from rfl,Nat.and_two_pow_sub_one_eq_mod]
theorem J92 (a:Nat):UInt8.ofNat (Int.toNat ((a:Int) % 256))=UInt8.ofNat a:=by
 rw [show Int.toNat ((a:Int) % 256)=a % 256 from by omega]
 apply UInt8.toNat_inj.1
 simp
def putF:Nat→Nat→List UInt8
 | 0,n=>[UInt8.ofNat n]
 | f+1,n=>if n < 128 then [UInt8.ofNat n] else UInt8.ofNat (n % 128+128)::putF f (n / 128)
def oneS (n:Int):List UInt8:=if 0≤n∧n≤1099511627775 then putF 6 n.toNat else []
theorem Jm0:∀ (f n:Nat),(putF f n).length≤f+1
 | 0,_=>by simp [putF]
 | f+1,n=>by
  rw [putF]; split
  ·simp
  ·have:=Jm0 f (n / 128); simp; omega
theorem J7q (n:Int):(oneS n).length≤7:=by
 unfold oneS; split
 ·exact Jm0 6 _
 ·simp
theorem Jrk:∀ (f n:Nat) (acc:List UInt8),n < 128 ^ (f+1)→n < 9223372036854775808→acc.length≤1000 - f→f≤10→∃ (m:Nat) (l:List UInt8),J1a_1 (n:Int) acc=some ((m:Int),acc++l)∧l++[UInt8.ofNat m]=putF f n∧(acc++l).length≤1000
 | 0,n,acc,h,h2,ha,_=>by
  refine ⟨n,[],?_,rfl,by simp; omega⟩
  rw [List.append_nil]
  unfold J1a_1
  refine J6z ?_
  show J1a_1_step (n:Int) acc=_
  unfold J1a_1_step
  rw [J6c (by omega)]
 | f+1,n,acc,h,h2,ha,hf=>by
  by_cases hn:n < 128
  ·refine ⟨n,[],?_,by rw [putF,if_pos hn]; rfl,by simp; omega⟩
   rw [List.append_nil]
   unfold J1a_1
   refine J6z ?_
   show J1a_1_step (n:Int) acc=_
   unfold J1a_1_step
   rw [J6c (by omega)]
  ·have hs:J1a_1_step (n:Int) acc=some (.inl (((n / 128:Nat):Int),acc++[UInt8.ofNat (n % 128+128)])):=by
    unfold J1a_1_step
    rw [J6e (by omega),J6b (by simp; omega),Juf n (by omega),K0d _ (by omega),J92,show Int.toNat 7=7 from rfl,Jr8 n 7 (by omega)]
   have hd:n / 128 < 128 ^ (f+1):=by
    rw [Nat.div_lt_iff_lt_mul (by omega)]
    have:128 ^ (f+1+1)=128 ^ (f+1) * 128:=Nat.pow_succ ..
    omega
   obtain ⟨m,l,h4,h5,h6⟩:=Jrk f (n / 128) (acc++[UInt8.ofNat (n % 128+128)]) hd (by omega) (by simp; omega) (by omega)
   refine ⟨m,UInt8.ofNat (n % 128+128)::l,?_,?_,?_⟩
   ·unfold J1a_1 at h4 ⊢
    rw [J77 (s':=(((n / 128:Nat):Int),acc++[UInt8.ofNat (n % 128+128)])) hs,h4]
    simp
   ·rw [putF,if_neg hn,← h5]; rfl
   ·simpa using h6
theorem Jwp (n:Int):J1a n=some (oneS n):=by
 unfold J1a oneS
 by_cases h0:n < 0
 ·rw [J6e h0,if_neg (by omega)]
 ·rw [J6c h0]
  by_cases h1:1099511627775 < n
  ·rw [J6e h1,if_neg (by omega)]
  ·rw [J6c h1,if_pos (by omega)]
   obtain ⟨k,rfl⟩:=Int.eq_ofNat_of_zero_le (show 0≤n by omega)
   obtain ⟨m,l,h2,h3,h4⟩:=Jrk 6 k [] (by omega) (by omega) (by simp) (by omega)
   rw [h2,J6a]
   simp only [List.nil_append] at h4 ⊢
   rw [J6b (by simp; omega),J92,h3]
   rfl
def putS (l:List Int):List UInt8:=l.flatMap oneS
theorem Jm1:∀ (l:List Int),(putS l).length≤7 * l.length
 | []=>by simp [putS]
 | n::l=>by
  have:=Jm1 l
  have h:=J7q n
  unfold putS at this ⊢
  rw [List.flatMap_cons,List.length_append,List.length_cons]; omega
theorem Jb0 {α β:Type} (f:α→List β) (l:List α) (z:α) {i:Nat} (h:i < l.length):(l.take (i+1)).flatMap f=(l.take i).flatMap f++f (l.getD i z):=by
 rw [List.take_add_one,List.flatMap_append,List.getD_eq_getElem?_getD]
 congr 1
 rw [List.getElem?_eq_getElem h]
 simp only [Option.toList_some,Option.getD_some,List.flatMap_cons,List.flatMap_nil,List.append_nil]
theorem put_eq (l:List Int) (hl:l.length≤100000000):J0p l=some (putS l):=by
 have main:J0p_1 l (l.length:Int) 0 []=some (putS l):=by
  unfold J0p_1
  have:=J6l (step:=fun (s:Int×List UInt8)=>J0p_1_step l (l.length:Int) s.1 s.2) (fun i (_:Unit)=>((i:Int),putS (l.take i))) (fun _ _=>()) (fun _=>putS l) l.length (fun _ _=>True) (fun i w hi _=>⟨?_,trivial⟩) (fun w _=>?_) l.length 0 () (by omega) trivial
  ·exact this
  ·show J0p_1_step l (l.length:Int) (i:Int) (putS (l.take i))=_
   unfold J0p_1_step
   have b:=Jm1 (l.take i)
   have b2:=J7q (l.getD i 0)
   rw [List.length_take] at b
   rw [J6e (by omega),J6b (by omega),Jwp,J6a,Int.toNat_natCast,J6b (by omega),J6f (by omega) (by omega)]
   unfold putS
   rw [Jb0 oneS l 0 hi]
   rfl
  ·show J0p_1_step l (l.length:Int) (l.length:Int) (putS (l.take l.length))=_
   unfold J0p_1_step
   rw [J6c (by omega),List.take_of_length_le (Nat.le_refl _)]
 unfold J0p
 rw [main,J6a]
theorem Jvx (l:List (List UInt8)) (hl:l.length≤1000000) (h:∀ x ∈ l,x.length=32):J15 l=some l.flatten:=by
 have hlen:∀ i,((l.take i).flatten).length≤32 * l.length:=by
  intro i
  have:∀ (m:List (List UInt8)),(∀ x ∈ m,x.length=32)→m.flatten.length=32 * m.length:=by
   intro m
   induction m with
   | nil=>intro _; rfl
   | cons a m ih=>intro hm; rw [List.flatten_cons,List.length_append,ih (fun x hx=>hm x (List.mem_cons_of_mem _ hx)),hm a List.mem_cons_self,List.length_cons]; omega
  rw [this _ fun x hx=>h x (List.mem_of_mem_take hx),List.length_take]; omega
 have main:J15_1 l (l.length:Int) 0 []=some l.flatten:=by
  unfold J15_1
  have:=J6l (step:=fun (s:Int×List UInt8)=>J15_1_step l (l.length:Int) s.1 s.2) (fun i (_:Unit)=>((i:Int),(l.take i).flatten)) (fun _ _=>()) (fun _=>l.flatten) l.length (fun _ _=>True) (fun i w hi _=>⟨?_,trivial⟩) (fun w _=>?_) l.length 0 () (by omega) trivial
  ·exact this
  ·show J15_1_step l (l.length:Int) (i:Int) (l.take i).flatten=_
   unfold J15_1_step
   have b:=hlen i
   have hm:(l.getD i (List.replicate 32 0)).length=32:=h _ (by rw [List.getD_eq_getElem?_getD,List.getElem?_eq_getElem hi]; exact List.getElem_mem _)
   have e:=Jb0 (fun x:List UInt8=>x) l (List.replicate 32 0) hi
   simp only [List.flatMap_id'] at e
   rw [J6e (by omega),J6b (by omega),Int.toNat_natCast,J6b (by omega),J6f (by omega) (by omega),e]
   rfl
  ·show J15_1_step l (l.length:Int) (l.length:Int) (l.take l.length).flatten=_
   unfold J15_1_step
   rw [J6c (by omega),List.take_of_length_le (Nat.le_refl _)]
 unfold J15
 rw [main,J6a]
abbrev Rdr:=List UInt8×Bool×Unit
def Kz (n:Nat) (r:Rdr):List UInt8×Rdr:=if r.2.1 then ([],(r.1,true,())) else if r.1.length < n then ([],(r.1,true,())) else (r.1.take n,(r.1.drop n,false,()))
theorem Jqf (n:Nat) (hn:n≤1000) (r:Rdr):J3d (n:Int) r=some (Kz n r):=by
 obtain ⟨l,b,u⟩:=r
 unfold J3d Kz
 cases b with
 | true=>rfl
 | false=>
  simp only [J6k,Bool.false_eq_true,if_false]
  by_cases h:l.length < n
  ·rw [J6e (by omega),if_pos h]
  ·rw [J6c (by omega),if_neg h,J6b (by omega),J6b (by omega)]
   have e1:cutL l 0 (n:Int)=l.take n:=by rw [Jeg,Int.toNat_natCast]
   have e2:cutL l (n:Int) (l.length:Int)=l.drop n:=by rw [J8v,Int.toNat_natCast]
   rw [e1,e2]
def numF:Nat→Nat→Nat→List UInt8→Int×Rdr
 | 0,_,_,l=>(0,l,true,())
 | k+1,i,acc,[]=>(0,[],true,())
 | k+1,i,acc,b::l=>if b.toNat < 128 then (if 1099511627775 < acc+b.toNat * 128 ^ i∨(b=0∧0 < i) then (0,l,true,()) else (((acc+b.toNat * 128 ^ i:Nat):Int),l,false,()))
   else numF k (i+1) (acc+(b.toNat % 128) * 128 ^ i) l
def numS (r:Rdr):Int×Rdr:=if r.2.1 then (0,(r.1,true,())) else numF 6 0 0 r.1
theorem Jri:∀ (k i acc:Nat) (l:List UInt8),i+k=6→acc < 128 ^ i→
  (match Ja_1 (acc:Int) ((7 * i:Nat):Int) (l,false,()) with | some (.inl o)=>some (o.1,o.2) | some (.inr o)=>some ((0:Int),(o.1,true,())) | none=>none)=some (numF k i acc l)
 | 0,i,acc,l,hi,ha=>by
  have:i=6:=by omega
  subst this
  have:Ja_1 (acc:Int) ((7 * 6:Nat):Int) (l,false,())=some (.inr (l,false,())):=by
   unfold Ja_1
   refine J6z ?_
   show Ja_1_step (acc:Int) ((7 * 6:Nat):Int) (l,false,())=_
   unfold Ja_1_step
   rw [J6c (by omega)]
  rw [this]; rfl
 | k+1,i,acc,[],hi,ha=>by
  have:Ja_1 (acc:Int) ((7 * i:Nat):Int) ([],false,())=some (.inl (0,([],true,()))):=by
   unfold Ja_1
   refine J6z ?_
   show Ja_1_step (acc:Int) ((7 * i:Nat):Int) ([],false,())=_
   unfold Ja_1_step
   rw [J6e (by omega),show (1:Int)=((1:Nat):Int) from rfl,Jqf 1 (by omega),J6a]
   rfl
  rw [this]; rfl
 | k+1,i,acc,b::l,hi,ha=>by
  have hp:128 ^ i=2 ^ (7 * i):=by rw [Nat.pow_mul]
  have hb:=b.toNat_lt
  have hpi:128 ^ i≤128 ^ 5:=Nat.pow_le_pow_right (by omega) (by omega)
  have hpow:128 ^ (i+1)=128 ^ i * 128:=Nat.pow_succ ..
  have hm:(b.toNat % 128) * 128 ^ i≤127 * 128 ^ i:=Nat.mul_le_mul_right _ (by omega)
  have e:bor (acc:Int) (ishl ((UInt8.toNat (b &&& 127):Nat):Int) (7 * i))=((acc+(b.toNat % 128) * 128 ^ i:Nat):Int):=by
   rw [u8_and127,Jzl _ _ (by omega) (by rw [← hp]; omega),hp]
   have ho:=Jwq acc (b.toNat % 128) (7 * i) (by rw [← hp]; exact ha)
   rw [Jur _ _ (by rw [ho,← hp]; omega),ho]
  have ht:Kz 1 (b::l,false,())=([b],(l,false,())):=by
   unfold Kz
   rw [if_neg (by simp),if_neg (by simp)]; rfl
  have step:∀ r,Ja_1_step (acc:Int) ((7 * i:Nat):Int) (b::l,false,())=some r↔(if b.toNat < 128 then (if 1099511627775 < acc+b.toNat * 128 ^ i then some (.inr (.inr (l,false,()))) else if b=0 then (if 0 < i then some (.inr (.inr (l,false,()))) else some (.inr (.inl (((acc+b.toNat * 128 ^ i:Nat):Int),l,false,())))) else some (.inr (.inl (((acc+b.toNat * 128 ^ i:Nat):Int),l,false,())))) else some (.inl (((acc+(b.toNat % 128) * 128 ^ i:Nat):Int),((7 * (i+1):Nat):Int),(l,false,()))))=some r:=by
   intro r
   unfold Ja_1_step
   rw [J6e (by omega),show (1:Int)=((1:Nat):Int) from rfl,Jqf 1 (by omega),J6a,ht]
   simp only [List.length_cons,List.length_nil,Int.toNat_zero,List.getD_cons_zero,Int.toNat_natCast,e]
   rw [J6c (by omega),J6b (by omega),J6b (by omega),J6f (by omega) (by omega)]
   by_cases h1:b.toNat < 128
   ·have hlt:b < 128:=UInt8.lt_iff_toNat_lt.2 h1
    rw [J6e hlt,if_pos h1,Nat.mod_eq_of_lt h1]
    by_cases h2:1099511627775 < acc+b.toNat * 128 ^ i
    ·rw [J6e (by omega),if_pos h2]
    ·rw [J6c (by omega),if_neg h2]
     by_cases h3:b=0
     ·rw [J6e h3,if_pos h3]
      by_cases h4:0 < i
      ·rw [J6e (by omega),if_pos h4]
      ·rw [J6c (by omega),if_neg h4]
     ·rw [J6c h3,if_neg h3]
   ·have hlt:¬ b < 128:=fun h=>h1 (UInt8.lt_iff_toNat_lt.1 h)
    rw [J6c hlt,if_neg h1,show ((7 * i:Nat):Int)+7=((7 * (i+1):Nat):Int) from by omega]
  rw [numF]
  by_cases h1:b.toNat < 128
  ·rw [if_pos h1]
   have go:∀ r,(if 1099511627775 < acc+b.toNat * 128 ^ i then some (.inr (.inr (l,false,()))) else if b=0 then (if 0 < i then some (.inr (.inr (l,false,()))) else some (.inr (.inl (((acc+b.toNat * 128 ^ i:Nat):Int),l,false,())))) else some (.inr (.inl (((acc+b.toNat * 128 ^ i:Nat):Int),l,false,()))))=some (.inr r:(Int×Int×Rdr)⊕((Int×Rdr)⊕Rdr))→
     Ja_1 (acc:Int) ((7 * i:Nat):Int) (b::l,false,())=some r:=by
    intro r hr
    unfold Ja_1
    refine J6z ?_
    refine (step _).2 ?_
    rw [if_pos h1]; exact hr
   by_cases h2:1099511627775 < acc+b.toNat * 128 ^ i
   ·rw [go (.inr (l,false,())) (if_pos h2),if_pos (Or.inl h2)]
   ·by_cases h3:b=0∧0 < i
    ·rw [go (.inr (l,false,())) (by rw [if_neg h2,if_pos h3.1,if_pos h3.2]),if_pos (Or.inr h3)]
    ·rw [go (.inl (((acc+b.toNat * 128 ^ i:Nat):Int),l,false,())) (by
      rw [if_neg h2]
      by_cases h4:b=0
      ·rw [if_pos h4,if_neg (fun h=>h3 ⟨h4,h⟩)]
      ·rw [if_neg h4]),if_neg (fun h=>h.elim h2 h3)]
  ·rw [if_neg h1,← Jri k (i+1) (acc+(b.toNat % 128) * 128 ^ i) l (by omega) (by omega)]
   have hs:Ja_1_step (acc:Int) ((7 * i:Nat):Int) (b::l,false,())=some (.inl (((acc+(b.toNat % 128) * 128 ^ i:Nat):Int),((7 * (i+1):Nat):Int),(l,false,()))):=(step _).2 (by rw [if_neg h1])
   unfold Ja_1
   rw [J77 hs]
theorem number_eq (r:Rdr):Ja r=some (numS r):=by
 obtain ⟨l,b,u⟩:=r
 unfold Ja numS
 cases b with
 | true=>
  have:Ja_1 0 0 (l,true,())=some (.inl (0,(l,true,()))):=by
   unfold Ja_1
   refine J6z ?_
   show Ja_1_step 0 0 (l,true,())=_
   unfold Ja_1_step
   rw [J6e (by omega),show (1:Int)=((1:Nat):Int) from rfl,Jqf 1 (by omega),J6a]
   rfl
  rw [show ((l,true,u):Rdr)=(l,true,()) from rfl,this]; rfl
 | false=>
  have:=Jri 6 0 0 l rfl (by decide)
  rw [if_neg (by simp),← this]
  show andThen (Ja_1 0 0 (l,false,())) _=match Ja_1 0 0 (l,false,()) with | some (.inl o)=>_ | some (.inr o)=>_ | none=>_
  cases Ja_1 0 0 (l,false,()) with
  | none=>rfl
  | some o=>cases o <;> rfl
theorem Jkb {n:Nat} (h:n < 128):∀ f,putF f n=[UInt8.ofNat n]
 | 0=>rfl
 | f+1=>by rw [putF,if_pos h]
theorem Jrh:∀ (f k i acc n:Nat) (rest:List UInt8),i+k=6→(0 < i→1≤n)→acc+n * 128 ^ i≤1099511627775→acc < 128 ^ i→k≤f+1→(n < 128→1≤k)→numF k i acc (putF f n++rest)=(((acc+n * 128 ^ i:Nat):Int),rest,false,())
 | f,k,i,acc,n,rest,hi,hn,hb,ha,hk,h1=>by
  by_cases hs:n < 128
  ·rw [Jkb hs f]
   obtain ⟨k,rfl⟩:∃ k',k=k'+1:=⟨k - 1,by have:=h1 hs; omega⟩
   show numF (k+1) i acc (UInt8.ofNat n::rest)=_
   have hb':(UInt8.ofNat n).toNat=n:=by rw [UInt8.toNat_ofNat']; omega
   rw [numF,hb',if_pos hs,if_neg]
   rintro (h | ⟨h,h0⟩)
   ·omega
   ·have:=hn h0
    rw [← UInt8.toNat_inj,hb'] at h
    have:n=0:=h
    omega
  ·have hpow:128 ^ (i+1)=128 ^ i * 128:=Nat.pow_succ ..
   have hi6:i < 5:=by
    rcases Nat.lt_or_ge i 5 with h | h
    ·exact h
    ·have:128 ^ 5≤128 ^ i:=Nat.pow_le_pow_right (by omega) h
     have:128 * 128 ^ i≤n * 128 ^ i:=Nat.mul_le_mul_right _ (by omega)
     omega
   obtain ⟨k,rfl⟩:∃ k',k=k'+1:=⟨k - 1,by omega⟩
   obtain ⟨f,rfl⟩:∃ f',f=f'+1:=⟨f - 1,by omega⟩
   rw [putF,if_neg hs,List.cons_append]
   have hb':(UInt8.ofNat (n % 128+128)).toNat=n % 128+128:=by rw [UInt8.toNat_ofNat']; omega
   rw [numF,hb',if_neg (by omega),show (n % 128+128) % 128=n % 128 from by omega]
   have he:acc+n % 128 * 128 ^ i+n / 128 * 128 ^ (i+1)=acc+n * 128 ^ i:=by
    have hn2:n * 128 ^ i=(n % 128+128 * (n / 128)) * 128 ^ i:=by congr 1; omega
    rw [hpow,hn2,Nat.add_mul,Nat.add_assoc]; congr 2; rw [Nat.mul_comm (128 ^ i) 128,← Nat.mul_assoc,Nat.mul_comm (n / 128) 128]
   have hm:(n % 128) * 128 ^ i≤127 * 128 ^ i:=Nat.mul_le_mul_right _ (by omega)
   rw [Jrh f k (i+1) _ (n / 128) rest (by omega) (fun _=>by omega) (by rw [he]; exact hb) (by omega) (by omega) (fun _=>by omega),he]
theorem Jwn (n:Int) (h0:0≤n) (h1:n≤1099511627775) (rest:List UInt8):numS (oneS n++rest,false,())=(n,rest,false,()):=by
 unfold numS oneS
 rw [if_neg (by simp),if_pos ⟨h0,h1⟩]
 have:=Jrh 6 6 0 0 n.toNat rest rfl (fun h=>by omega) (by omega) (by decide) (by omega) (fun _=>by omega)
 rw [this]
 congr 1
 omega
abbrev Hdr:=Int×Int×List UInt8×List UInt8×List UInt8×List UInt8×Unit
def J8a (h:Hdr):Bool:=decide (1≤h.1) && (decide (h.1≤16) && (decide (0≤h.2.1) && decide (h.2.1≤1073741824)))
theorem Jcq (h:Hdr):J37 h=some (J8a h):=by
 unfold J37 J8a
 simp only [Jgt]
 cases decide (1≤h.1) <;> cases decide (h.1≤16) <;> cases decide (0≤h.2.1) <;> simp
theorem Jbx (h:Hdr):J8a h=true↔(1≤h.1∧h.1≤16)∧0≤h.2.1∧h.2.1≤1073741824:=by
 unfold J8a
 simp only [Bool.and_eq_true,decide_eq_true_eq]
 exact ⟨fun ⟨a,b,c,d⟩=>⟨⟨a,b⟩,c,d⟩,fun ⟨⟨a,b⟩,c,d⟩=>⟨a,b,c,d⟩⟩
def J8n (h:Hdr):Prop:=h.2.2.1.length=32∧h.2.2.2.1.length=32∧h.2.2.2.2.1.length=32∧h.2.2.2.2.2.1.length=32
def Jfg (h:Hdr):List UInt8:=oneS h.1++(oneS h.2.1++(h.2.2.1++(h.2.2.2.1++(h.2.2.2.2.1++h.2.2.2.2.2.1))))
def Jc3 (h:Hdr):List UInt8:=if J8a h then Jfg h else []
theorem Jyq (h:Hdr) (hh:J8n h):J5l h=some (Jc3 h):=by
 obtain ⟨a,b,c,d⟩:=hh
 unfold J5l Jc3
 rw [Jcq,J6a]
 cases J8a h with
 | false=>rfl
 | true=>
  rw [show (!true)=false from rfl,J6k,put_eq _ (by simp),J6a,Jvx _ (by simp) (by
   intro x hx
   simp only [List.mem_cons,List.not_mem_nil,or_false] at hx
   rcases hx with rfl | rfl | rfl | rfl <;> assumption),J6a]
  have l1:=Jm1 [h.1,h.2.1]
  simp only [List.length_cons,List.length_nil] at l1
  rw [J6b (by simp; omega),if_pos rfl]
  congr 1
  simp [putS,Jfg,List.flatMap_cons]
theorem Jqo (h:Hdr) (hh:J8n h):(Jfg h).length≤142:=by
 obtain ⟨a,b,c,d⟩:=hh
 have:=J7q h.1
 have:=J7q h.2.1
 unfold Jfg
 simp only [List.length_append]; omega
def zHdr:Hdr:=(0,0,List.replicate 32 0,List.replicate 32 0,List.replicate 32 0,List.replicate 32 0,())
theorem doneS (r:Rdr):J3c r=some (!r.2.1 && decide (r.1=[])):=by
 unfold J3c
 obtain ⟨l,b,u⟩:=r
 cases b with
 | true=>rfl
 | false=>
  show some (decide ((l.length:Int)=0))=some (true && decide (l=[]))
  rw [Bool.true_and]
  congr 1
  exact decide_eq_decide.2 ⟨fun h=>List.eq_nil_of_length_eq_zero (by omega),fun h=>by subst h; rfl⟩
set_option maxRecDepth 100000
def rotr (x:UInt32) (n:Nat):UInt32:=UInt32.ofNat (x.toNat <<< (32 - n)) ||| UInt32.ofNat (x.toNat >>> n)
def shr (x:UInt32) (n:Nat):UInt32:=UInt32.ofNat (x.toNat >>> n)
def K1i (b:List UInt8) (i k:Nat):UInt32:=UInt32.ofNat (UInt32.toNat (UInt32.ofNat (UInt8.toNat (List.getD b i 0))) <<< k)
def word (b:List UInt8) (i:Nat):UInt32:=((K1i b (4 * i) 24 ||| K1i b (4 * i+1) 16) ||| K1i b (4 * i+2) 8) ||| UInt32.ofNat (UInt8.toNat (List.getD b (4 * i+3) 0))
def Jqd (b:List UInt8) (i:Nat) (w:List UInt32):List UInt32:=w.set i (word b i)
def Jqe (i:Nat) (w:List UInt32):List UInt32:=
 w.set i (((w.getD (i - 16) 0+((rotr (w.getD (i - 15) 0) 7 ^^^ rotr (w.getD (i - 15) 0) 18) ^^^ shr (w.getD (i - 15) 0) 3))+w.getD (i - 7) 0)+((rotr (w.getD (i - 2) 0) 17 ^^^ rotr (w.getD (i - 2) 0) 19) ^^^ shr (w.getD (i - 2) 0) 10))
def Je5 (b:List UInt8):List UInt32:=J74 Jqe 16 48 (J74 (Jqd b) 0 16 (List.replicate 64 0))
abbrev W8:=UInt32×UInt32×UInt32×UInt32×UInt32×UInt32×UInt32×UInt32
def J87 (k w:List UInt32) (i:Nat) (s:W8):W8:=
 match s with
 | (a,b,c,d,e,f,g,h)=>
  let one:=(((h+((rotr e 6 ^^^ rotr e 11) ^^^ rotr e 25))+((e &&& f) ^^^ ((~~~e) &&& g)))+k.getD i 0)+w.getD i 0
  (one+(((rotr a 2 ^^^ rotr a 13) ^^^ rotr a 22)+(((a &&& b) ^^^ (a &&& c)) ^^^ (b &&& c))),a,b,c,d+one,e,f,g)
def Jta (s:W8):List UInt32:=[s.1,s.2.1,s.2.2.1,s.2.2.2.1,s.2.2.2.2.1,s.2.2.2.2.2.1,s.2.2.2.2.2.2.1,s.2.2.2.2.2.2.2]
def tup8 (h:List UInt32):W8:=(h.getD 0 0,h.getD 1 0,h.getD 2 0,h.getD 3 0,h.getD 4 0,h.getD 5 0,h.getD 6 0,h.getD 7 0)
def addS (v:List UInt32) (i:Nat) (h:List UInt32):List UInt32:=h.set i (h.getD i 0+v.getD i 0)
def mixS (k:List UInt32) (b:List UInt8) (h:List UInt32):List UInt32:=
 J74 (addS (Jta (J74 (J87 k (Je5 b)) 0 64 (tup8 h)))) 0 8 h
def kS:List UInt32:=[1116352408,1899447441,3049323471,3921009573,961987163,1508970993,2453635748,2870763221,3624381080,310598401,607225278,1426881987,1925078388,2162078206,2614888103,3248222580,3835390401,4022224774,264347078,604807628,770255983,1249150122,1555081692,1996064986,2554220882,2821834349,2952996808,3210313671,3336571891,3584528711,113926993,338241895,666307205,773529912,1294757372,1396182291,1695183700,1986661051,2177026350,2456956037,2730485921,2820302411,3259730800,3345764771,3516065817,3600352804,4094571909,275423344,430227734,506948616,659060556,883997877,958139571,1322822218,1537002063,1747873779,1955562222,2024104815,2227730452,2361852424,2428436474,2756734187,3204031479,3329325298]
def h0S:List UInt32:=[1779033703,3144134277,1013904242,2773480762,1359893119,2600822924,528734635,1541459225]
def Jax (n:UInt64) (i:Nat):UInt8:=UInt8.ofNat (UInt64.toNat (UInt64.ofNat (UInt64.toNat n >>> (8 * i))))
def bitsOf (b:List UInt8):UInt64:=UInt64.ofNat b.length * 8
def padS (b:List UInt8):List UInt8:=
 b++128::(List.replicate ((b.length+8) / 64 * 64+55 - b.length) 0++[Jax (bitsOf b) 7,Jax (bitsOf b) 6,Jax (bitsOf b) 5,Jax (bitsOf b) 4,Jax (bitsOf b) 3,Jax (bitsOf b) 2,Jax (bitsOf b) 1,Jax (bitsOf b) 0])
def Jbi:Nat→List UInt8→List UInt32→List UInt32
 | 0,_,h=>h
 | n+1,l,h=>Jbi n (l.drop 64) (mixS kS (l.take 64) h)
def outB (x:UInt32) (j:Nat):UInt8:=UInt8.ofNat (UInt32.toNat (UInt32.ofNat (UInt32.toNat x >>> (24 - 8 * j))))
def outS (h:List UInt32):List UInt8:=h.flatMap fun x=>[outB x 0,outB x 1,outB x 2,outB x 3]
def sha (b:List UInt8):List UInt8:=outS (Jbi ((b.length+8) / 64+1) (padS b) h0S)
theorem right7 (x:UInt32):J0m x 7=some (rotr x 7):=rfl
theorem K2u (x:UInt32):J0m x 18=some (rotr x 18):=rfl
theorem K2t (x:UInt32):J0m x 17=some (rotr x 17):=rfl
theorem K2v (x:UInt32):J0m x 19=some (rotr x 19):=rfl
theorem right6 (x:UInt32):J0m x 6=some (rotr x 6):=rfl
theorem K2r (x:UInt32):J0m x 11=some (rotr x 11):=rfl
theorem K2x (x:UInt32):J0m x 25=some (rotr x 25):=rfl
theorem right2 (x:UInt32):J0m x 2=some (rotr x 2):=rfl
theorem K2s (x:UInt32):J0m x 13=some (rotr x 13):=rfl
theorem K2w (x:UInt32):J0m x 22=some (rotr x 22):=rfl
theorem Jom (b:List UInt8) (hb:b.length=64) (z w:List UInt32) {i:Nat} (hi:i < 16) :
  J09_1_step b (i:Int) z w=some (.inl (((i+1:Nat):Int),Jqd b i w)):=by
 unfold J09_1_step
 have e0:Int.toNat (4 * (i:Int))=4 * i:=by omega
 have e1:Int.toNat (4 * (i:Int)+1)=4 * i+1:=by omega
 have e2:Int.toNat (4 * (i:Int)+2)=4 * i+2:=by omega
 have e3:Int.toNat (4 * (i:Int)+3)=4 * i+3:=by omega
 simp (disch:=omega) only [J6e,J6f,J6b,hb,e0,e1,e2,e3,Int.toNat_natCast]
 rfl
theorem Kv (b:List UInt8) (hb:b.length=64) (z:List UInt32):J09_1 b 0 z z=some (z,J74 (Jqd b) 0 16 z):=by
 unfold J09_1
 refine J6l (fun i w=>((i:Int),w)) (Jqd b) (fun w=>(z,w)) 16 (fun _ _=>True) (fun i w hi _=>⟨Jom b hb z w hi,trivial⟩) (fun w _=>?_) 16 0 z rfl trivial
 unfold J09_1_step
 rfl
theorem Jon (z w:List UInt32) {i:Nat} (h1:16≤i) (hi:i < 64) :
  J09_2_step (i:Int) z w=some (.inl (((i+1:Nat):Int),Jqe i w)):=by
 unfold J09_2_step
 have e0:Int.toNat ((i:Int) - 15)=i - 15:=by omega
 have e1:Int.toNat ((i:Int) - 2)=i - 2:=by omega
 have e2:Int.toNat ((i:Int) - 16)=i - 16:=by omega
 have e3:Int.toNat ((i:Int) - 7)=i - 7:=by omega
 simp (disch:=omega) only [J6e,J6f,J6b,e0,e1,e2,e3,Int.toNat_natCast,right7,K2u,K2t,K2v,J6a]
 rfl
theorem Kw (z w:List UInt32):J09_2 16 z w=some (z,J74 Jqe 16 48 w):=by
 unfold J09_2
 refine J6l (fun i w=>((i:Int),w)) Jqe (fun w=>(z,w)) 64 (fun i _=>16≤i) (fun i w hi h=>⟨Jon z w h hi,by omega⟩) (fun w _=>?_) 48 16 w rfl (Nat.le_refl _)
 unfold J09_2_step
 rfl
theorem Jxt (b:List UInt8) (hb:b.length=64):J09 b=some (Je5 b):=by
 unfold J09
 rw [Kv b hb,J6a,Kw,J6a,Je5]
theorem Jwh (k w hz:List UInt32) (s:W8) {i:Nat} (hi:i < 64) :
  Jz_1_step s.1 s.2.1 s.2.2.1 s.2.2.2.1 s.2.2.2.2.1 s.2.2.2.2.2.1 s.2.2.2.2.2.2.1 s.2.2.2.2.2.2.2 (i:Int) hz k w =
   some (.inl ((J87 k w i s).1,(J87 k w i s).2.1,(J87 k w i s).2.2.1,(J87 k w i s).2.2.2.1,(J87 k w i s).2.2.2.2.1,(J87 k w i s).2.2.2.2.2.1,(J87 k w i s).2.2.2.2.2.2.1,(J87 k w i s).2.2.2.2.2.2.2,((i+1:Nat):Int))):=by
 obtain ⟨a,b,c,d,e,f,g,h⟩:=s
 unfold Jz_1_step
 simp (disch:=omega) only [J6e,J6f,J6b,Int.toNat_natCast,right6,K2r,K2x,right2,K2s,K2w,J6a]
 rfl
theorem mix_1 (k w hz:List UInt32) (s:W8):Jz_1 s.1 s.2.1 s.2.2.1 s.2.2.2.1 s.2.2.2.2.1 s.2.2.2.2.2.1 s.2.2.2.2.2.2.1 s.2.2.2.2.2.2.2 0 hz k w =
   some ((J74 (J87 k w) 0 64 s).1,(J74 (J87 k w) 0 64 s).2.1,(J74 (J87 k w) 0 64 s).2.2.1,(J74 (J87 k w) 0 64 s).2.2.2.1,(J74 (J87 k w) 0 64 s).2.2.2.2.1,(J74 (J87 k w) 0 64 s).2.2.2.2.2.1,(J74 (J87 k w) 0 64 s).2.2.2.2.2.2.1,(J74 (J87 k w) 0 64 s).2.2.2.2.2.2.2,hz,k):=by
 unfold Jz_1
 refine J6l (fun i (s:W8)=>(s.1,s.2.1,s.2.2.1,s.2.2.2.1,s.2.2.2.2.1,s.2.2.2.2.2.1,s.2.2.2.2.2.2.1,s.2.2.2.2.2.2.2,(i:Int))) (J87 k w)
  (fun (s:W8)=>(s.1,s.2.1,s.2.2.1,s.2.2.2.1,s.2.2.2.2.1,s.2.2.2.2.2.1,s.2.2.2.2.2.2.1,s.2.2.2.2.2.2.2,hz,k)) 64 (fun _ _=>True) (fun i s hi _=>⟨Jwh k w hz s hi,trivial⟩) (fun s _=>?_) 64 0 s rfl trivial
 unfold Jz_1_step
 rfl
theorem mix_2 (v h k:List UInt32):Jz_2 v 0 h k=some (J74 (addS v) 0 8 h,k):=by
 unfold Jz_2
 refine J6l (fun i w=>((i:Int),w)) (addS v) (fun w=>(w,k)) 8 (fun _ _=>True) (fun i w hi _=>⟨?_,trivial⟩) (fun w _=>?_) 8 0 h rfl trivial
 ·unfold Jz_2_step
  simp (disch:=omega) only [J6e,J6f,J6b,Int.toNat_natCast]
  rfl
 ·unfold Jz_2_step
  rfl
theorem mix_eq (b:List UInt8) (hb:b.length=64) (h k:List UInt32):Jz b h k=some (mixS k b h,k):=by
 unfold Jz
 rw [Jxt b hb,J6a]
 have:=mix_1 k (Je5 b) h (tup8 h)
 simp only [tup8] at this
 rw [show (Int.toNat (0:Int))=0 from rfl,show (Int.toNat (1:Int))=1 from rfl,show (Int.toNat (2:Int))=2 from rfl,show (Int.toNat (3:Int))=3 from rfl,show (Int.toNat (4:Int))=4 from rfl,
  show (Int.toNat (5:Int))=5 from rfl,show (Int.toNat (6:Int))=6 from rfl,show (Int.toNat (7:Int))=7 from rfl,this,J6a,mix_2,J6a]
 rfl
set_option maxRecDepth 100000
theorem Juq (n:Nat) (h:n≤1073741824):J5m (n:Int)=some (((n+8) / 64+1:Nat):Int):=by
 unfold J5m
 have e:Int.tdiv ((n:Int)+8) 64=(((n+8) / 64:Nat):Int):=by
  rw [Int.tdiv_eq_ediv_of_nonneg (by omega)]; omega
 simp (disch:=omega) only [J6f,e]
 rfl
theorem Jqa {α:Type} (a l:List α) (k:Nat) (x:α):(a++l).set (a.length+k) x=a++l.set k x:=by
 rw [List.set_append_right _ _ (by omega)]
 congr 2; omega
theorem Jq1 (x0:UInt64) (n:Nat) (hn:8≤n) (hn2:n≤2147483648) (l:List UInt8) (hl:l.length=n):J1n_1 x0 0 l=some (J74 (fun i (w:List UInt8)=>w.set (n - 1 - i) (Jax x0 i)) 0 8 l):=by
 unfold J1n_1
 refine J6l (fun i w=>((i:Int),w)) (fun i (w:List UInt8)=>w.set (n - 1 - i) (Jax x0 i)) (fun w=>w) 8 (fun _ w=>w.length=n) (fun i w hi hw=>⟨?_,by simp [hw]⟩) (fun w _=>?_) 8 0 l rfl hl
 ·unfold J1n_1_step
  have e0:Int.toNat ((n:Int) - 1 - (i:Int))=n - 1 - i:=by omega
  have e1:Int.toNat (8 * (i:Int))=8 * i:=by omega
  simp (disch:=omega) only [J6e,J6f,J6b,hw,e0,e1]
  rfl
 ·unfold J1n_1_step
  rfl
theorem Jwx (b:List UInt8) (hb:b.length≤1073741824):J1n b=some (padS b):=by
 unfold J1n
 rw [Juq _ hb,J6a]
 have hN:w64 ((((b.length+8) / 64+1:Nat):Int) * 64)=(((b.length+8) / 64 * 64+64:Nat):Int):=by
  rw [J6f (by omega) (by omega)]; omega
 generalize hn:(b.length+8) / 64 * 64+64=n at hN
 rw [hN,J6b (by omega),Int.toNat_natCast,List.length_replicate,List.take_of_length_le (by omega),List.drop_replicate]
 have hz:n - b.length=((b.length+8) / 64 * 64+55 - b.length)+1+8:=by omega
 have hl:(b++List.replicate (n - b.length) (0:UInt8)).length=n:=by simp; omega
 rw [hl,J6b (by omega),Int.toNat_natCast]
 have hbits:UInt64.ofNat (Int.toNat ((b.length:Int) % 18446744073709551616)) * 8=bitsOf b:=by
  unfold bitsOf; congr 2; omega
 rw [hbits,Jq1 (bitsOf b) n (by omega) (by omega) _ (by rw [List.length_set,hl]),J6a]
 congr 1
 have h1:(b++List.replicate (n - b.length) (0:UInt8)).set b.length 128=(b++128::List.replicate ((b.length+8) / 64 * 64+55 - b.length) 0)++[0,0,0,0,0,0,0,0]:=by
  rw [hz]
  generalize (b.length+8) / 64 * 64+55 - b.length=z
  have h:=Jqa b (List.replicate ((z+8)+1) (0:UInt8)) 0 128
  rw [Nat.add_zero b.length] at h
  rw [show z+1+8=(z+8)+1 from by omega,h,List.replicate_succ,List.set_cons_zero,← List.replicate_append_replicate,List.append_assoc]
  rfl
 rw [h1]
 have hA:(b++128::List.replicate ((b.length+8) / 64 * 64+55 - b.length) (0:UInt8)).length=n - 8:=by simp; omega
 generalize hA2:(b++128::List.replicate ((b.length+8) / 64 * 64+55 - b.length) (0:UInt8))=A at hA
 have ix:∀ i,i < 8→n - 1 - i=A.length+(7 - i):=by intro i hi; omega
 simp only [J74]
 rw [ix 0 (by omega),ix (0+1) (by omega),ix (0+1+1) (by omega),ix (0+1+1+1) (by omega),ix (0+1+1+1+1) (by omega),ix (0+1+1+1+1+1) (by omega),ix (0+1+1+1+1+1+1) (by omega),ix (0+1+1+1+1+1+1+1) (by omega)]
 simp only [Jqa]
 unfold padS
 rw [show ∀ x:List UInt8,b++128::(List.replicate ((b.length+8) / 64 * 64+55 - b.length) 0++x)=A++x from fun x=>by rw [← hA2]; simp]
 rfl
theorem Jq0 (b:List UInt8):(padS b).length=64 * ((b.length+8) / 64+1):=by
 unfold padS
 simp
 omega
theorem Jkf {α:Type} {f:Nat→List α→List α} (h:∀ i w,(f i w).length=w.length):∀ (k i:Nat) (w:List α),(J74 f i k w).length=w.length
 | 0,_,_=>rfl
 | k+1,i,w=>by rw [J74,Jkf h k,h]
theorem Jrf (k:List UInt32) (b:List UInt8) (h:List UInt32):(mixS k b h).length=h.length:=Jkf (fun i w=>by simp [addS]) _ _ _
theorem Jbj:∀ (n:Nat) (l:List UInt8) (h:List UInt32),(Jbi n l h).length=h.length
 | 0,_,_=>rfl
 | n+1,l,h=>by rw [Jbi,Jbj n,Jrf]
theorem sum_1 (out:List UInt8):∀ (n:Nat) (l:List UInt8),l.length=64 * n→l.length≤2147483648→∀ h,J0b_1 l out h kS=some (out,Jbi n l h)
 | 0,l,hl,_,h=>by
  unfold J0b_1
  refine J6z ?_
  unfold J0b_1_step
  show fork (decide ((0:Int) < (l.length:Int))) _ _=_
  rw [J6c (by omega)]; rfl
 | n+1,l,hl,hl2,h=>by
  have hm:=mix_eq (l.take 64) (by rw [List.length_take]; omega) h kS
  have hs:J0b_1_step l out h kS=some (.inl (l.drop 64,mixS kS (l.take 64) h,kS)):=by
   unfold J0b_1_step
   rw [J6e (by omega),J6b (by omega),show cutL l (0:Int) (64:Int)=l.take 64 from rfl,hm,J6a,J6b (by omega)]
   have:cutL l (64:Int) (l.length:Int)=l.drop 64:=by
    unfold cutL; rw [Int.toNat_natCast,List.take_of_length_le (Nat.le_refl _)]; rfl
   rw [this]
  have ih:=sum_1 out n (l.drop 64) (by rw [List.length_drop]; omega) (by rw [List.length_drop]; omega) (mixS kS (l.take 64) h)
  unfold J0b_1 at ih ⊢
  rw [J77 (s':=(l.drop 64,mixS kS (l.take 64) h,kS)) hs,ih]
  rfl
def Jo1 (x:UInt32) (i:Nat) (acc:List UInt8):List UInt8:=J74 (fun j (acc:List UInt8)=>acc.set (4 * i+j) (outB x j)) 0 4 acc
theorem sum_2 (x:UInt32) (h:List UInt32) (z acc:List UInt8) {i:Nat} (hi:i < 8):J0b_2 (i:Int) x h (i:Int) 0 z acc=some (h,(i:Int),z,Jo1 x i acc):=by
 unfold J0b_2
 refine J6l (fun j acc=>((j:Int),acc)) (fun j (acc:List UInt8)=>acc.set (4 * i+j) (outB x j)) (fun acc=>(h,(i:Int),z,acc)) 4 (fun _ _=>True) (fun j acc hj _=>⟨?_,trivial⟩) (fun acc _=>?_) 4 0 acc rfl trivial
 ·unfold J0b_2_step
  have e0:Int.toNat (4 * (i:Int)+(j:Int))=4 * i+j:=by omega
  have e1:Int.toNat (24 - 8 * (j:Int))=24 - 8 * j:=by omega
  simp (disch:=omega) only [J6e,J6f,J6b,e0,e1]
  rfl
 ·unfold J0b_2_step
  rfl
theorem sum_3 (h:List UInt32) (z acc:List UInt8):J0b_3 h 0 z acc=some (z,J74 (fun i acc=>Jo1 (h.getD i 0) i acc) 0 8 acc):=by
 unfold J0b_3
 refine J6l (fun i acc=>(h,(i:Int),z,acc)) (fun i acc=>Jo1 (h.getD i 0) i acc) (fun acc=>(z,acc)) 8 (fun _ _=>True) (fun i acc hi _=>⟨?_,trivial⟩) (fun acc _=>?_) 8 0 acc rfl trivial
 ·show J0b_3_step h (i:Int) z acc=_
  unfold J0b_3_step
  rw [J6e (by omega),J6b (by omega),Int.toNat_natCast,sum_2 _ _ _ _ hi,J6a]
  rw [J6f (by show (-9223372036854775808:Int)≤(i:Int)+1; omega) (by show (i:Int)+1≤9223372036854775807; omega)]
  rfl
 ·unfold J0b_3_step
  rfl
theorem K2e (a b c d e f g i:UInt32):J74 (fun j acc=>Jo1 (List.getD [a,b,c,d,e,f,g,i] j 0) j acc) 0 8 (List.replicate 32 (0:UInt8))=outS [a,b,c,d,e,f,g,i]:=by kernel_rfl
theorem out_eq (h:List UInt32) (hh:h.length=8):J74 (fun i acc=>Jo1 (h.getD i 0) i acc) 0 8 (List.replicate 32 (0:UInt8))=outS h:=by
 match h,hh with
 | [a,b,c,d,e,f,g,i],_=>exact K2e a b c d e f g i
theorem Jzb:J5y=some h0S:=by kernel_rfl
theorem Jyj:J5x=some kS:=by kernel_rfl
theorem sum_eq (b:List UInt8) (hb:b.length≤1073741824):J0b b=some (sha b):=by
 unfold J0b
 rw [Jzb,J6a,Jyj,J6a,Jwx b hb,J6a,sum_1 _ _ _ (Jq0 b) (by rw [Jq0]; omega),J6a]
 simp only [sum_3,J6a]
 rw [out_eq _ (by rw [Jbj]; rfl)]
 rfl
theorem J7x (b:List UInt8):(sha b).length=32:=by
 unfold sha outS
 have:(Jbi ((b.length+8) / 64+1) (padS b) h0S).length=8:=by rw [Jbj]; rfl
 generalize Jbi ((b.length+8) / 64+1) (padS b) h0S=h at this
 match h,this with
 | [a,b,c,d,e,f,g,i],_=>rfl
theorem getD_take {α:Type} (l:List (List α)) {i:Nat} (h:i < l.length):(l.take i).flatten++l.getD i []=(l.take (i+1)).flatten:=by
 rw [List.take_add_one,List.flatten_append,List.getD_eq_getElem?_getD,List.getElem?_eq_getElem h]
 simp
theorem Jaq {α:Type} (l:List (List α)) (i:Nat):((l.take i).flatten).length≤l.flatten.length:=by
 conv=>rhs; rw [← List.take_append_drop i l]
 rw [List.flatten_append,List.length_append]; omega
theorem J7s (t:UInt8) (l:List (List UInt8)) (h:l.flatten.length≤1073741823) (hl:l.length≤1073741823):Jv t l=some (sha (t::l.flatten)):=by
 unfold Jv
 have:∀ z,Jv_1 l (l.length:Int) 0 z [t]=some (z,t::l.flatten):=by
  intro z
  unfold Jv_1
  have:=J6l (step:=fun (s:Int×List UInt8)=>Jv_1_step l (l.length:Int) s.1 z s.2) (fun i (_:Unit)=>((i:Int),t::(l.take i).flatten)) (fun _ _=>()) (fun _=>(z,t::l.flatten)) l.length (fun _ _=>True) (fun i w hi _=>⟨?_,trivial⟩) (fun w _=>?_) l.length 0 () (by omega) trivial
  ·exact this
  ·unfold Jv_1_step
   have e:=getD_take l hi
   have le:=Jaq l (i+1)
   rw [← e,List.length_append] at le
   simp (disch:=omega) only [J6e,J6f,J6b,Int.toNat_natCast]
   rw [J6b (by rw [List.length_cons]; omega),List.cons_append,e]
   rfl
  ·unfold Jv_1_step
   rw [J6c (by omega),List.take_of_length_le (Nat.le_refl _)]
 rw [this,J6a]
 simp only []
 rw [sum_eq _ (by rw [List.length_cons]; omega),J6a]
set_option maxRecDepth 100000
theorem J8g (x:UInt32) (n:Nat):UInt32.ofNat (x.toNat >>> n) ||| UInt32.ofNat (x.toNat <<< (32 - n))=rotr x n:=UInt32.or_comm _ _
theorem turn7 (x:UInt32):Js x 7=some (rotr x 7):=congrArg some (J8g x 7)
theorem turn18 (x:UInt32):Js x 18=some (rotr x 18):=congrArg some (J8g x 18)
theorem turn17 (x:UInt32):Js x 17=some (rotr x 17):=congrArg some (J8g x 17)
theorem turn19 (x:UInt32):Js x 19=some (rotr x 19):=congrArg some (J8g x 19)
theorem turn6 (x:UInt32):Js x 6=some (rotr x 6):=congrArg some (J8g x 6)
theorem turn11 (x:UInt32):Js x 11=some (rotr x 11):=congrArg some (J8g x 11)
theorem turn25 (x:UInt32):Js x 25=some (rotr x 25):=congrArg some (J8g x 25)
theorem turn2 (x:UInt32):Js x 2=some (rotr x 2):=congrArg some (J8g x 2)
theorem turn13 (x:UInt32):Js x 13=some (rotr x 13):=congrArg some (J8g x 13)
theorem turn22 (x:UInt32):Js x 22=some (rotr x 22):=congrArg some (J8g x 22)
theorem K7 (b:List UInt8) (hb:b.length=64) (k h v z:List UInt32):J4_1 b k 0 h v z=some (k,h,v,J74 (Jqd b) 0 16 z):=by
 unfold J4_1
 refine J6l (fun i w=>((i:Int),w)) (Jqd b) (fun w=>(k,h,v,w)) 16 (fun _ _=>True) (fun i w hi _=>⟨?_,trivial⟩) (fun w _=>?_) 16 0 z rfl trivial
 ·unfold J4_1_step
  have e0:Int.toNat (4 * (i:Int))=4 * i:=by omega
  have e1:Int.toNat (4 * (i:Int)+1)=4 * i+1:=by omega
  have e2:Int.toNat (4 * (i:Int)+2)=4 * i+2:=by omega
  have e3:Int.toNat (4 * (i:Int)+3)=4 * i+3:=by omega
  simp (disch:=omega) only [J6e,J6f,J6b,hb,e0,e1,e2,e3,Int.toNat_natCast]
  rfl
 ·unfold J4_1_step
  rfl
theorem K8 (k h v z:List UInt32):J4_2 k 16 h v z=some (k,h,v,J74 Jqe 16 48 z):=by
 unfold J4_2
 refine J6l (fun i w=>((i:Int),w)) Jqe (fun w=>(k,h,v,w)) 64 (fun i _=>16≤i) (fun i w hi hh=>⟨?_,by omega⟩) (fun w _=>?_) 48 16 z rfl (Nat.le_refl _)
 ·unfold J4_2_step
  have e0:Int.toNat ((i:Int) - 15)=i - 15:=by omega
  have e1:Int.toNat ((i:Int) - 2)=i - 2:=by omega
  have e2:Int.toNat ((i:Int) - 16)=i - 16:=by omega
  have e3:Int.toNat ((i:Int) - 7)=i - 7:=by omega
  simp (disch:=omega) only [J6e,J6f,J6b,e0,e1,e2,e3,Int.toNat_natCast,turn7,turn18,turn17,turn19,J6a]
  rfl
 ·unfold J4_2_step
  rfl
theorem K9 (k h v w:List UInt32) (hk:k.length=64) (s:W8):J4_3 k 0 h v w (Jta s)=some (h,v,Jta (J74 (J87 k w) 0 64 s)):=by
 unfold J4_3
 refine J6l (fun i (s:W8)=>((i:Int),Jta s)) (J87 k w) (fun s=>(h,v,Jta s)) 64 (fun _ _=>True) (fun i s hi _=>⟨?_,trivial⟩) (fun s _=>?_) 64 0 s rfl trivial
 ·obtain ⟨a,b,c,d,e,f,g,x⟩:=s
  unfold J4_3_step
  simp (disch:=omega) only [J6e,J6f,J6b,hk,Int.toNat_natCast,turn6,turn11,turn25,turn2,turn13,turn22,J6a]
  rw [show J87 k w i (a,b,c,d,e,f,g,x)=((((((x+((rotr e 6 ^^^ rotr e 11) ^^^ rotr e 25))+((e &&& f) ^^^ ((~~~e) &&& g)))+k.getD i 0)+w.getD i 0)+((rotr a 2 ^^^ rotr a 13) ^^^ rotr a 22))+(((a &&& b) ^^^ (a &&& c)) ^^^ (b &&& c)),a,b,c,
   d+((((x+((rotr e 6 ^^^ rotr e 11) ^^^ rotr e 25))+((e &&& f) ^^^ ((~~~e) &&& g)))+k.getD i 0)+w.getD i 0),e,f,g) from by simp only [J87,UInt32.add_assoc]]
  rfl
 ·unfold J4_3_step
  rfl
theorem Ka (h z v:List UInt32):J4_4 0 h z v=some (J74 (addS v) 0 8 h,z):=by
 unfold J4_4
 refine J6l (fun i w=>((i:Int),w)) (addS v) (fun w=>(w,z)) 8 (fun _ _=>True) (fun i w hi _=>⟨?_,trivial⟩) (fun w _=>?_) 8 0 h rfl trivial
 ·unfold J4_4_step
  simp (disch:=omega) only [J6e,J6f,J6b,Int.toNat_natCast]
  rfl
 ·unfold J4_4_step
  rfl
theorem Jtb (h:List UInt32) (hh:h.length=8):Jta (tup8 h)=h:=by
 match h,hh with
 | [a,b,c,d,e,f,g,i],_=>rfl
theorem Jx4 (h:List UInt32) (hh:h.length=8) (b:List UInt8) (hb:b.length=64) (k:List UInt32) (hk:k.length=64):J4 h b k=some (mixS k b h):=by
 unfold J4
 simp only [K7 b hb,K8,J6a]
 have h3:=K9 k h (List.replicate 8 0) (Je5 b) hk (tup8 h)
 rw [Jtb h hh] at h3
 rw [show J74 Jqe 16 48 (J74 (Jqd b) 0 16 (List.replicate 64 0))=Je5 b from by rw [Je5],h3,J6a]
 simp only [Ka,J6a]
 rw [mixS]
theorem K16 (n:Nat):Int.tmod (n:Int) 64=((n % 64:Nat):Int):=by
 rw [Int.tmod_eq_emod_of_nonneg (by omega)]; omega
theorem rsum_1 (b:List UInt8) (hb:b.length≤1073741824) (out:List UInt8) (k h:List UInt32) :
  J7_1 b out k h (b++[128])=some (b,out,k,h,(b++[128])++List.replicate ((b.length+8) / 64 * 64+55 - b.length) 0):=by
 unfold J7_1
 generalize hz:(b.length+8) / 64 * 64+55 - b.length=z
 have:=J6l (step:=fun s=>J7_1_step b out k h s) (fun i (_:Unit)=>(b++[128])++List.replicate i (0:UInt8)) (fun _ _=>()) (fun _=>(b,out,k,h,(b++[128])++List.replicate z 0)) z (fun _ _=>True) (fun i w hi _=>⟨?_,trivial⟩) (fun w _=>?_) z 0 () (by omega) trivial
 ·simpa using this
 ·unfold J7_1_step
  rw [K16,Jbm (by simp; omega),J6b (by simp; omega),List.append_assoc,List.append_assoc,List.append_assoc,← List.replicate_succ']
 ·unfold J7_1_step
  rw [K16,J9k (by simp; omega)]
theorem Ju0 {j:Nat} (h:j < 8):(UInt64.ofNat (Int.toNat ((8 * ((7:Int) - (j:Int))) % 18446744073709551616))).toNat=8 * (7 - j):=by
 have:Int.toNat ((8 * ((7:Int) - (j:Int))) % 18446744073709551616)=8 * (7 - j):=by omega
 rw [this,UInt64.toNat_ofNat']; omega
theorem rsum_2 (b:List UInt8) (hb:b.length≤1073741824) (out m:List UInt8) (hm:m.length≤1073741924) (k h:List UInt32) :
  J7_2 b 7 out k h m=some (out,k,h,J74 (fun j (l:List UInt8)=>l++[Jax (bitsOf b) (7 - j)]) 0 8 m):=by
 unfold J7_2
 refine J6l (step:=fun (s:Int×List UInt8)=>J7_2_step b s.1 out k h s.2) (fun j l=>((7:Int) - (j:Int),l)) (fun j (l:List UInt8)=>l++[Jax (bitsOf b) (7 - j)]) (fun l=>(out,k,h,l)) 8 (fun j l=>l.length=m.length+j) (fun j l hj hl=>⟨?_,by simp [hl]; omega⟩) (fun l _=>?_) 8 0 m rfl rfl
 ·unfold J7_2_step
  have hbits:UInt64.ofNat (Int.toNat ((8 * (b.length:Int)) % 18446744073709551616))=bitsOf b:=by
   rw [show Int.toNat ((8 * (b.length:Int)) % 18446744073709551616)=b.length * 8 from by omega,UInt64.ofNat_mul]; rfl
  simp (disch:=omega) only [J6e,J6f,hbits]
  rw [J6b (by omega),J6b (by simp; omega),Ju0 hj,Int.toNat_natCast]
  rw [show (7:Int) - (j:Int) - 1=7 - ((j+1:Nat):Int) from by omega]
  rfl
 ·unfold J7_2_step
  rfl
theorem K36 (l out:List UInt8) (n:Nat) (hl:l.length=64 * n) (hn:64 * n≤2147483648) (h:List UInt32) (hh:h.length=8) :
  J7_3 l 0 out kS h=some (out,J74 (fun j h=>mixS kS ((l.drop (64 * j)).take 64) h) 0 n h):=by
 unfold J7_3
 refine J6l (step:=fun (s:Int×List UInt32)=>J7_3_step l s.1 out kS s.2) (fun j h=>(((64 * j:Nat):Int),h)) (fun j h=>mixS kS ((l.drop (64 * j)).take 64) h) (fun h=>(out,h)) n (fun j h=>h.length=8) (fun j h hj hh=>⟨?_,by rw [Jrf,hh]⟩) (fun l _=>?_) n 0 h (by omega) hh
 ·unfold J7_3_step
  have hc:cutL l ((64 * j:Nat):Int) (((64 * j:Nat):Int)+64)=(l.drop (64 * j)).take 64:=by
   unfold cutL
   rw [Int.toNat_natCast,show Int.toNat (((64 * j:Nat):Int)+64)=64 * j+64 from by omega,List.drop_take]
   congr 1; omega
  simp (disch:=omega) only [J6e,J6f,J6b,hc]
  rw [Jx4 h hh _ (by rw [List.length_take,List.length_drop]; omega) _ rfl,J6a]
  rfl
 ·unfold J7_3_step
  rw [J6c (by omega)]
theorem Jhf (l:List UInt8):∀ (n j:Nat) (h:List UInt32),J74 (fun j h=>mixS kS ((l.drop (64 * j)).take 64) h) j n h=Jbi n (l.drop (64 * j)) h
 | 0,_,_=>rfl
 | n+1,j,h=>by
  rw [J74,Jhf l n (j+1),Jbi,List.drop_drop]
  rfl
def Jil (x:UInt32) (i:Nat) (acc:List UInt8):List UInt8:=(((acc.set (4 * i) (outB x 0)).set (4 * i+1) (outB x 1)).set (4 * i+2) (outB x 2)).set (4 * i+3) (outB x 3)
theorem rsum_4 (h:List UInt32) (z acc:List UInt8):J7_4 h 0 z acc=some (z,J74 (fun i acc=>Jil (h.getD i 0) i acc) 0 8 acc):=by
 unfold J7_4
 refine J6l (step:=fun (s:Int×List UInt8)=>J7_4_step h s.1 z s.2) (fun i acc=>((i:Int),acc)) (fun i acc=>Jil (h.getD i 0) i acc) (fun acc=>(z,acc)) 8 (fun _ _=>True) (fun i acc hi _=>⟨?_,trivial⟩) (fun acc _=>?_) 8 0 acc rfl trivial
 ·unfold J7_4_step
  have e0:Int.toNat (4 * (i:Int))=4 * i:=by omega
  have e1:Int.toNat (4 * (i:Int)+1)=4 * i+1:=by omega
  have e2:Int.toNat (4 * (i:Int)+2)=4 * i+2:=by omega
  have e3:Int.toNat (4 * (i:Int)+3)=4 * i+3:=by omega
  have hx:∀ x:UInt32,outB x 3=UInt8.ofNat x.toNat:=by intro x; simp [outB]
  simp (disch:=omega) only [J6e,J6f,J6b,e0,e1,e2,e3,Int.toNat_natCast]
  rw [Jil,hx]
  rfl
 ·unfold J7_4_step
  rfl
theorem Ki (a b c d e f g i:UInt32):J74 (fun j acc=>Jil (List.getD [a,b,c,d,e,f,g,i] j 0) j acc) 0 8 (List.replicate 32 (0:UInt8))=outS [a,b,c,d,e,f,g,i]:=by kernel_rfl
theorem K30 (h:List UInt32) (hh:h.length=8):J74 (fun i acc=>Jil (h.getD i 0) i acc) 0 8 (List.replicate 32 (0:UInt8))=outS h:=by
 match h,hh with
 | [a,b,c,d,e,f,g,i],_=>exact Ki a b c d e f g i
theorem Jyt:J3s=some kS:=by kernel_rfl
theorem K35 (b:List UInt8):J74 (fun j (l:List UInt8)=>l++[Jax (bitsOf b) (7 - j)]) 0 8 ((b++[128])++List.replicate ((b.length+8) / 64 * 64+55 - b.length) 0)=padS b:=by
 unfold padS
 simp only [J74,List.append_assoc]
 rfl
theorem K37 (b:List UInt8) (hb:b.length≤1073741824):J7 b=some (sha b):=by
 unfold J7
 have h0:(List.set (List.set (List.set (List.set (List.set (List.set (List.set (List.set (List.replicate 8 (0:UInt32)) 0 (1779033703:UInt32)) 1 (3144134277:UInt32)) 2 (1013904242:UInt32)) 3 (2773480762:UInt32)) 4 (1359893119:UInt32)) 5 (2600822924:UInt32)) 6 (528734635:UInt32)) 7 (1541459225:UInt32))=h0S:=by kernel_rfl
 rw [Jyt,J6a,J6b (by simp; omega),J6b (by simp; omega),h0,List.nil_append,rsum_1 b hb,J6a]
 simp only [rsum_2 b hb _ _ (show ((b++[128])++List.replicate ((b.length+8) / 64 * 64+55 - b.length) (0:UInt8)).length≤1073741924 by simp; omega),J6a,K35]
 rw [K36 _ _ ((b.length+8) / 64+1) (Jq0 b) (by omega) _ rfl,J6a,Jhf]
 simp only [rsum_4,J6a]
 rw [K30 _ (by rw [Jbj]; rfl)]
 rfl
theorem J7p (t:UInt8) (l:List (List UInt8)) (h:l.flatten.length≤1073741823) (hl:l.length≤1073741823):Je t l=some (sha (t::l.flatten)):=by
 unfold Je
 have:∀ z,Je_1 l (l.length:Int) 0 z [t]=some (z,t::l.flatten):=by
  intro z
  unfold Je_1
  have:=J6l (step:=fun (s:Int×List UInt8)=>Je_1_step l (l.length:Int) s.1 z s.2) (fun i (_:Unit)=>((i:Int),t::(l.take i).flatten)) (fun _ _=>()) (fun _=>(z,t::l.flatten)) l.length (fun _ _=>True) (fun i w hi _=>⟨?_,trivial⟩) (fun w _=>?_) l.length 0 () (by omega) trivial
  ·exact this
  ·unfold Je_1_step
   have e:=getD_take l hi
   have le:=Jaq l (i+1)
   rw [← e,List.length_append] at le
   simp (disch:=omega) only [J6e,J6f,J6b,Int.toNat_natCast]
   rw [J6b (by rw [List.length_cons]; omega),List.cons_append,e]
   rfl
  ·unfold Je_1_step
   rw [J6c (by omega),List.take_of_length_le (Nat.le_refl _)]
 rw [this,J6a]
 simp only []
 rw [K37 _ (by rw [List.length_cons]; omega),J6a]
theorem Joh:∀ (f k n:Nat),n < 128 ^ (f+1)→f < k→f≤100→n≤1099511627775→Jw_f k (n:Int)=some (putF f n)
 | f,0,n,h,hk,hf,hn=>by omega
 | f,k+1,n,h,hk,hf,hn=>by
  rw [Jw_f,J6c (by omega),J6c (by omega)]
  by_cases h1:n < 128
  ·rw [J6e (by omega),Jkb h1 f,J92]
  ·rw [J6c (by omega)]
   cases f with
   | zero=>simp at h; omega
   | succ f=>
    have hd:n / 128 < 128 ^ (f+1):=by
     rw [Nat.div_lt_iff_lt_mul (by omega)]
     have:128 ^ (f+1+1)=128 ^ (f+1) * 128:=Nat.pow_succ ..
     omega
    rw [show Int.toNat 7=7 from rfl,Jr8 n 7 (by omega),show n / 2 ^ 7=n / 128 from rfl,Joh f k (n / 128) hd (by omega) (by omega) (by omega),J6a,Juf n (by omega),K0d _ (by omega),J92]
    have:=Jm0 f (n / 128)
    rw [J6b (by simp; omega),putF,if_neg h1]; rfl
theorem Jfy (n:Int):Jw n=some (oneS n):=by
 unfold Jw oneS
 by_cases h0:n < 0
 ·rw [Jw_f,J6e h0,if_neg (by omega)]
 ·by_cases h1:1099511627775 < n
  ·rw [Jw_f,J6c h0,J6e h1,if_neg (by omega)]
  ·rw [if_pos (by omega)]
   obtain ⟨k,rfl⟩:=Int.eq_ofNat_of_zero_le (show 0≤n by omega)
   exact Joh 6 64 k (by omega) (by omega) (by omega) (by omega)
theorem Jq3 (l:List (List UInt8)) (hl:l.length≤1000) (hh:∀ x ∈ l,x.length=32) (acc:List UInt8) (ha:acc.length≤1000):Jn_1 (l.length:Int) 0 acc l=some (acc++l.flatten):=by
 have hlen:∀ i,((l.take i).flatten).length≤32 * l.length:=by
  intro i
  have:∀ (m:List (List UInt8)),(∀ x ∈ m,x.length=32)→m.flatten.length=32 * m.length:=by
   intro m
   induction m with
   | nil=>intro _; rfl
   | cons a m ih=>intro hm; rw [List.flatten_cons,List.length_append,ih (fun x hx=>hm x (List.mem_cons_of_mem _ hx)),hm a List.mem_cons_self,List.length_cons]; omega
  rw [this _ fun x hx=>hh x (List.mem_of_mem_take hx),List.length_take]; omega
 unfold Jn_1
 have:=J6l (step:=fun (s:Int×List UInt8)=>Jn_1_step (l.length:Int) s.1 s.2 l) (fun i (_:Unit)=>((i:Int),acc++(l.take i).flatten)) (fun _ _=>()) (fun _=>acc++l.flatten) l.length (fun _ _=>True) (fun i w hi _=>⟨?_,trivial⟩) (fun w _=>?_) l.length 0 () (by omega) trivial
 ·simpa using this
 ·show Jn_1_step (l.length:Int) (i:Int) (acc++(l.take i).flatten) l=_
  unfold Jn_1_step
  have b:=hlen i
  have hm:(l.getD i (List.replicate 32 0)).length=32:=hh _ (by rw [List.getD_eq_getElem?_getD,List.getElem?_eq_getElem hi]; exact List.getElem_mem _)
  have e:=Jb0 (fun x:List UInt8=>x) l (List.replicate 32 0) hi
  simp only [List.flatMap_id'] at e
  rw [J6e (by omega),J6b (by omega),Int.toNat_natCast,J6b (by rw [List.length_append]; omega),J6f (by omega) (by omega),List.append_assoc,e]
  rfl
 ·show Jn_1_step (l.length:Int) (l.length:Int) (acc++(l.take l.length).flatten) l=_
  unfold Jn_1_step
  rw [J6c (by omega),List.take_of_length_le (Nat.le_refl _)]
theorem Jx5 (h:Hdr) (hh:J8n h):Jn h=some (Jfg h):=by
 obtain ⟨a,b,c,d⟩:=hh
 have l1:=J7q h.1
 have l2:=J7q h.2.1
 unfold Jn
 rw [Jfy,J6a,Jfy,J6a,J6b (by omega),Jq3 _ (by simp) (by
   intro x hx
   simp only [List.mem_cons,List.not_mem_nil,or_false] at hx
   rcases hx with rfl | rfl | rfl | rfl <;> assumption) _ (by rw [List.length_append]; omega),J6a]
 congr 1
 simp [Jfg]
theorem Jhx (h:Hdr) (hh:J8n h):J56 h=some (sha (72::Jc3 h)):=by
 have hl:(Jc3 h).length≤142:=by
  unfold Jc3; split
  ·exact Jqo h hh
  ·simp
 unfold J56
 have hf:[Jc3 h].flatten=Jc3 h:=by simp
 rw [Jyq h hh,J6a,J7s _ _ (by rw [hf]; omega) (by simp),hf]
 rfl
theorem Joc (h:Hdr) (hh:J8n h):J0z h=some (sha (72::Jfg h)):=by
 have hl:=Jqo h hh
 unfold J0z
 have hf:[Jfg h].flatten=Jfg h:=by simp
 rw [Jx5 h hh,J6a,J7p _ _ (by rw [hf]; omega) (by simp),hf]
 rfl
def txtS (x:List UInt8):List UInt8:=oneS x.length++x
theorem Jj7 (x:List UInt8):(txtS x).length≤x.length+7:=by
 have:=J7q (x.length:Int)
 unfold txtS; rw [List.length_append]; omega
theorem Jsf (l:List (List UInt8)) (hl:l.length≤1000) (h:∀ x ∈ l,x.length≤100000):J16 l=some (l.flatMap txtS):=by
 have hlen:∀ i,((l.take i).flatMap txtS).length≤100007 * i:=by
  intro i
  have:∀ (m:List (List UInt8)),(∀ x ∈ m,x.length≤100000)→(m.flatMap txtS).length≤100007 * m.length:=by
   intro m
   induction m with
   | nil=>intro _; simp
   | cons a m ih=>intro hm; have h1:=ih (fun x hx=>hm x (List.mem_cons_of_mem _ hx)); have h2:=hm a List.mem_cons_self; have h3:=Jj7 a; rw [List.flatMap_cons,List.length_append,List.length_cons]; omega
  have:=this (l.take i) fun x hx=>h x (List.mem_of_mem_take hx)
  rw [List.length_take] at this; omega
 have main:J16_1 l (l.length:Int) 0 []=some (l.flatMap txtS):=by
  unfold J16_1
  have:=J6l (step:=fun (s:Int×List UInt8)=>J16_1_step l (l.length:Int) s.1 s.2) (fun i (_:Unit)=>((i:Int),(l.take i).flatMap txtS)) (fun _ _=>()) (fun _=>l.flatMap txtS) l.length (fun _ _=>True) (fun i w hi _=>⟨?_,trivial⟩) (fun w _=>?_) l.length 0 () (by omega) trivial
  ·exact this
  ·show J16_1_step l (l.length:Int) (i:Int) ((l.take i).flatMap txtS)=_
   unfold J16_1_step
   have b:=hlen i
   have hm:(l.getD i []).length≤100000:=h _ (J7c hi)
   have b2:=J7q ((l.getD i []).length:Int)
   rw [J6e (by omega),J6b (by omega),Int.toNat_natCast,Jwp,J6a,J6b (by omega),J6b (by rw [List.length_append]; omega),J6f (by omega) (by omega),List.append_assoc,Jb0 txtS l [] hi]
   rfl
  ·show J16_1_step l (l.length:Int) (l.length:Int) ((l.take l.length).flatMap txtS)=_
   unfold J16_1_step
   rw [J6c (by omega),List.take_of_length_le (Nat.le_refl _)]
 unfold J16
 rw [main,J6a]
theorem K1z (n:Nat) (h:n≤1000000000):J2c (n:Int)=some []:=by
 unfold J2c
 rw [J6c (by omega),Int.sub_zero,J6f (by omega) (by omega)]
 by_cases c:(0:Int) < (n:Int)
 ·rw [J6e c,J6b ⟨rfl,rfl⟩,J6b (by rw [List.length_replicate]; omega),J6b (by omega),J6b (by rw [List.length_replicate]; omega)]
  rfl
 ·rw [J6c c]
theorem Juz (l:List (List UInt8)) (h:l.flatten.length≤1000000000) (hl:l.length≤1000000):J6 l=some l.flatten:=by
 have ht:∀ i,((l.take i).flatten).length≤1000000000:=fun i=>Nat.le_trans (Jaq l i) h
 have m1:J6_1 l 0 l (l.length:Int) 0=some (l,(l.flatten.length:Int)):=by
  unfold J6_1
  have:=J6l (step:=fun (s:Int×Int)=>J6_1_step l s.1 l (l.length:Int) s.2) (fun i (_:Unit)=>((((l.take i).flatten).length:Int),(i:Int))) (fun _ _=>()) (fun _=>(l,(l.flatten.length:Int))) l.length (fun _ _=>True) (fun i w hi _=>⟨?_,trivial⟩) (fun w _=>?_) l.length 0 () (by omega) trivial
  ·exact this
  ·show J6_1_step l (((l.take i).flatten).length:Int) l (l.length:Int) (i:Int)=_
   unfold J6_1_step
   have e:=congrArg List.length (getD_take l hi)
   rw [List.length_append] at e
   have b:=ht (i+1)
   rw [J6e (by omega),J6b (by omega),Int.toNat_natCast,J6f (n:=(((l.take i).flatten).length:Int)+((l.getD i []).length:Int)) (by omega) (by omega),J6c (by omega),J6f (by omega) (by omega)]
   congr 3
   omega
  ·show J6_1_step l (((l.take l.length).flatten).length:Int) l (l.length:Int) (l.length:Int)=_
   unfold J6_1_step
   rw [J6c (by omega),List.take_of_length_le (Nat.le_refl _)]
 have m2:J6_2 l (l.length:Int) 0 []=some l.flatten:=by
  unfold J6_2
  have:=J6l (step:=fun (s:Int×List UInt8)=>J6_2_step l (l.length:Int) s.1 s.2) (fun i (_:Unit)=>((i:Int),(l.take i).flatten)) (fun _ _=>()) (fun _=>l.flatten) l.length (fun _ _=>True) (fun i w hi _=>⟨?_,trivial⟩) (fun w _=>?_) l.length 0 () (by omega) trivial
  ·exact this
  ·show J6_2_step l (l.length:Int) (i:Int) ((l.take i).flatten)=_
   unfold J6_2_step
   have e:=congrArg List.length (getD_take l hi)
   rw [List.length_append] at e
   have b:=ht (i+1)
   rw [J6e (by omega),J6b (by omega),Int.toNat_natCast,J6b (by omega),J6f (by omega) (by omega),getD_take l hi]
   rfl
  ·show J6_2_step l (l.length:Int) (l.length:Int) ((l.take l.length).flatten)=_
   unfold J6_2_step
   rw [J6c (by omega),List.take_of_length_le (Nat.le_refl _)]
 unfold J6
 rw [m1,J6a]
 simp only
 rw [K1z _ h,J6a,m2,J6a]
def valB (v:Val):List UInt8:=txtS v.1++oneS v.2.1++v.2.2.1
def setB (l:List Val):List UInt8:=oneS l.length++l.flatMap valB
def setH (l:List Val):List UInt8:=sha (86::setB l)
def Joy (l:List Val):Prop:=l.length≤1000∧∀ v ∈ l,v.1.length≤100000∧v.2.2.1.length=32
theorem J8j (l:List Val):(setH l).length=32:=J7x _
theorem Jsc {v:Val} (h:v.1.length≤100000∧v.2.2.1.length=32):(valB v).length≤100100:=by
 have h1:=Jj7 v.1
 have h2:=J7q v.2.1
 unfold valB
 rw [List.length_append,List.length_append]; omega
theorem Jsd:∀ (m:List Val),(∀ v ∈ m,v.1.length≤100000∧v.2.2.1.length=32)→(m.flatMap valB).length≤100100 * m.length
 | [],_=>by simp
 | a::m,hm=>by
  have h1:=Jsd m fun x hx=>hm x (List.mem_cons_of_mem _ hx)
  have h2:=Jsc (hm a List.mem_cons_self)
  rw [List.flatMap_cons,List.length_append,List.length_cons]; omega
theorem Jcs {l:List Val} (h:Joy l) (i:Nat):(oneS l.length++(l.take i).flatMap valB).length≤100100 * 1000+7:=by
 have h1:=J7q (l.length:Int)
 have h2:=Jsd (l.take i) fun v hv=>h.2 v (List.mem_of_mem_take hv)
 have h3:=h.1
 rw [List.length_take] at h2
 rw [List.length_append]
 have:min i l.length≤1000:=by omega
 have:100100 * min i l.length≤100100 * 1000:=Nat.mul_le_mul_left _ this
 omega
theorem Jfc (x0:List Val) (x1:Int) (x2:Int) (x3:List UInt8) (x4:List UInt8):J0f_1_step x0 x1 x2 x3 x4=(fork (decide (x2 < x1)) (need (0≤x2∧x2 < (List.length x0:Int)) (andThen (J16 ([(List.getD x0 (Int.toNat x2) zVal).1]:List (List UInt8))) (fun u6=>andThen (J0p ([(List.getD x0 (Int.toNat x2) zVal).2.1]:List (Int))) (fun u8=>andThen (J15 ([(List.getD x0 (Int.toNat x2) zVal).2.2.1]:List (List UInt8))) (fun u10=>andThen (J6 ([x4,u6,u8,u10]:List (List UInt8))) (fun u12=>some (.inl ((w64 (x2+(1:Int))),u12)))))))) (some (.inr (x3,x4))):Option ((Int×List UInt8)⊕(List UInt8×List UInt8))):=rfl
theorem J9b (l:List Val) (h:Joy l):J0f l=some (setH l):=by
 have hl:=h.1
 have main:J0f_1 l (l.length:Int) 0 (List.replicate 32 0) (oneS l.length)=some (List.replicate 32 0,setB l):=by
  unfold J0f_1
  have:=J6l (step:=fun (s:Int×List UInt8)=>J0f_1_step l (l.length:Int) s.1 (List.replicate 32 0) s.2) (fun i (_:Unit)=>((i:Int),oneS l.length++(l.take i).flatMap valB)) (fun _ _=>()) (fun _=>(List.replicate 32 0,setB l)) l.length (fun _ _=>True) (fun i w hi _=>⟨?_,trivial⟩) (fun w _=>?_) l.length 0 () (by omega) trivial
  ·rw [show ((0:Int),oneS (l.length:Int))=(((0:Nat):Int),oneS (l.length:Int)++(l.take 0).flatMap valB) from by simp]
   exact this
  ·show J0f_1_step l (l.length:Int) (i:Int) (List.replicate 32 0) (oneS l.length++(l.take i).flatMap valB)=_
   have hv:=h.2 _ (J7c (z:=zVal) hi)
   have b:=Jcs h i
   have b2:=Jsc hv
   rw [Jfc,J6e (by omega),J6b (by omega),Int.toNat_natCast,Jsf _ (by simp) (by simp; exact hv.1),J6a,put_eq _ (by simp),J6a,Jvx _ (by simp) (by simp; exact hv.2),J6a]
   have e:[oneS (l.length:Int)++(l.take i).flatMap valB,[(l.getD i zVal).1].flatMap txtS,putS [(l.getD i zVal).2.1],[(l.getD i zVal).2.2.1].flatten].flatten=oneS (l.length:Int)++(l.take (i+1)).flatMap valB:=by
    rw [Jb0 valB l zVal hi]
    simp [valB,putS,List.append_assoc]
   have b3:=Jcs h (i+1)
   rw [Juz _ (by rw [e]; omega) (by simp),J6a,e,J6f (by omega) (by omega)]
   rfl
  ·show J0f_1_step l (l.length:Int) (l.length:Int) (List.replicate 32 0) (oneS l.length++(l.take l.length).flatMap valB)=_
   unfold J0f_1_step
   rw [J6c (by omega),List.take_of_length_le (Nat.le_refl _)]
   rfl
 have b:=Jcs h l.length
 rw [List.take_of_length_le (Nat.le_refl _)] at b
 have b:(setB l).length≤100100 * 1000+7:=b
 have hp:putS [(l.length:Int)]=oneS l.length:=by simp [putS]
 have hf:[setB l].flatten=setB l:=by simp
 unfold J0f
 rw [put_eq _ (by simp),J6a,hp,main,J6a]
 simp only
 rw [J7s _ _ (by rw [hf]; omega) (by simp),hf]
 rfl
theorem Kl (x:List UInt8) (hx:x.length≤100000):J23 x=some (txtS x):=by
 have:=J7q (x.length:Int)
 unfold J23
 rw [Jfy,J6a,J6b (by omega)]
 rfl
theorem J9j (x0:List Val) (x1:Int) (x2:Int) (x3:List UInt8) (x4:List UInt8):Jk_1_step x0 x1 x2 x3 x4=(fork (decide (x2 < x1)) (need (0≤x2∧x2 < (List.length x0:Int)) (andThen (J23 ((List.getD x0 (Int.toNat x2) zVal).1)) (fun u6=>need (List.length x4+List.length u6≤2147483648) (andThen (Jw ((List.getD x0 (Int.toNat x2) zVal).2.1)) (fun u9=>need (List.length (x4++u6)+List.length u9≤2147483648) (need (List.length ((x4++u6)++u9)+List.length (List.getD x0 (Int.toNat x2) zVal).2.2.1≤2147483648) (some (.inl ((w64 (x2+(1:Int))),(((x4++u6)++u9)++(List.getD x0 (Int.toNat x2) zVal).2.2.1)))))))))) (some (.inr (x3,x4))):Option ((Int×List UInt8)⊕(List UInt8×List UInt8))):=rfl
theorem Jq9 (l:List Val) (h:Joy l):Jk l=some (setH l):=by
 have hl:=h.1
 have main:Jk_1 l (l.length:Int) 0 (List.replicate 32 0) (oneS l.length)=some (List.replicate 32 0,setB l):=by
  unfold Jk_1
  have:=J6l (step:=fun (s:Int×List UInt8)=>Jk_1_step l (l.length:Int) s.1 (List.replicate 32 0) s.2) (fun i (_:Unit)=>((i:Int),oneS l.length++(l.take i).flatMap valB)) (fun _ _=>()) (fun _=>(List.replicate 32 0,setB l)) l.length (fun _ _=>True) (fun i w hi _=>⟨?_,trivial⟩) (fun w _=>?_) l.length 0 () (by omega) trivial
  ·rw [show ((0:Int),oneS (l.length:Int))=(((0:Nat):Int),oneS (l.length:Int)++(l.take 0).flatMap valB) from by simp]
   exact this
  ·show Jk_1_step l (l.length:Int) (i:Int) (List.replicate 32 0) (oneS l.length++(l.take i).flatMap valB)=_
   have hv:=h.2 _ (J7c (z:=zVal) hi)
   have b:=Jcs h i
   have b1:=Jj7 (l.getD i zVal).1
   have b2:=J7q (l.getD i zVal).2.1
   rw [J9j,J6e (by omega),J6b (by omega),Int.toNat_natCast,Kl _ hv.1,J6a,J6b (by omega),Jfy,J6a,J6b (by rw [@List.length_append _ (oneS _++_) _]; omega),J6b (by rw [@List.length_append _ ((oneS _++_)++_) _,@List.length_append _ (oneS _++_) _]; omega),J6f (by omega) (by omega),Jb0 valB l zVal hi]
   simp [valB,List.append_assoc]
  ·show Jk_1_step l (l.length:Int) (l.length:Int) (List.replicate 32 0) (oneS l.length++(l.take l.length).flatMap valB)=_
   unfold Jk_1_step
   rw [J6c (by omega),List.take_of_length_le (Nat.le_refl _)]
   rfl
 have b:=Jcs h l.length
 rw [List.take_of_length_le (Nat.le_refl _)] at b
 have b:(setB l).length≤100100 * 1000+7:=b
 have hf:[setB l].flatten=setB l:=by simp
 unfold Jk
 rw [Jfy,J6a,main,J6a]
 simp only
 rw [J7p _ _ (by rw [hf]; omega) (by simp),hf]
 rfl
def Jjg:Nat→Nat→Nat→Nat
 | 0,k,n=>k
 | f+1,k,n=>if 2 * k < n then Jjg f (2 * k) n else k
def J6u (n:Nat):Nat:=Jjg 40 1 n
theorem Jlw (k f:Nat):2 * (2 * k) * 2 ^ f=2 * k * (2 ^ f * 2):=by
 rw [Nat.mul_comm (2 ^ f) 2,← Nat.mul_assoc (2 * k) 2 (2 ^ f)]; congr 1; omega
theorem Jwc:∀ (f k n:Nat),1≤k→k < n→n≤2 * k * 2 ^ f→k≤Jjg f k n∧Jjg f k n < n∧n≤2 * Jjg f k n
 | 0,k,n,h1,h2,h3=>by
  simp only [Nat.pow_zero,Nat.mul_one] at h3
  exact ⟨Nat.le_refl _,h2,h3⟩
 | f+1,k,n,h1,h2,h3=>by
  rw [Jjg]
  split
  ·rename_i h
   have:=Jwc f (2 * k) n (by omega) h (by rw [Nat.pow_succ] at h3; rw [Jlw]; exact h3)
   exact ⟨by omega,this.2⟩
  ·exact ⟨Nat.le_refl _,h2,by omega⟩
theorem Jav (n:Nat) (h:2≤n) (h2:n≤1099511627776):1≤J6u n∧J6u n < n∧n≤2 * J6u n:=Jwc 40 1 n (by omega) (by omega) (by omega)
theorem Jnp:∀ (f k n:Nat),n≤2 * k * 2 ^ f→1≤k→n≤1073741824→k≤1073741824→J0x_1 (n:Int) (k:Int)=some ((Jjg f k n:Nat):Int)
 | 0,k,n,h,h1,h2,hk=>by
  unfold J0x_1
  refine J6z ?_
  unfold J0x_1_step
  simp only [Nat.pow_zero,Nat.mul_one] at h
  rw [J6f (by omega) (by omega),J6c (by omega)]
  rfl
 | f+1,k,n,h,h1,h2,hk=>by
  rw [Jjg]
  split
  ·rename_i hlt
   rw [← Jnp f (2 * k) n (by rw [Nat.pow_succ] at h; rw [Jlw]; exact h) (by omega) h2 (by omega)]
   have hs:J0x_1_step (n:Int) (k:Int)=some (.inl ((2 * k:Nat):Int)):=by
    unfold J0x_1_step
    rw [J6f (by omega) (by omega),J6f (by omega) (by omega),J6e (by omega),show (k:Int) * 2=((2 * k:Nat):Int) from by omega]
   unfold J0x_1
   rw [J77 hs]
  ·rename_i hlt
   unfold J0x_1
   refine J6z ?_
   unfold J0x_1_step
   rw [J6f (by omega) (by omega),J6c (by omega)]
theorem left_eq (n:Nat) (h:n≤1073741824):J0x (n:Int)=some ((J6u n:Nat):Int):=by
 unfold J0x
 rw [show (1:Int)=((1:Nat):Int) from rfl,Jnp 40 1 n (by omega) (by omega) h (by omega),J6a]
 rfl
def Kh (l:List (List UInt8)):List UInt8:=
 if h:2≤l.length∧l.length≤1099511627776 then sha (1::(Kh (l.take (J6u l.length))++Kh (l.drop (J6u l.length))))
 else if l.length=0 then sha [2] else sha (0::l.getD 0 [])
termination_by l.length
decreasing_by
 ·have:=Jav l.length h.1 h.2; simp; omega
 ·have:=Jav l.length h.1 h.2; simp; omega
theorem Jry:∃ f:List (List UInt8)→List UInt8,∀ l,f l=if h:2≤l.length∧l.length≤1099511627776 then sha (1::(f (l.take (J6u l.length))++f (l.drop (J6u l.length)))) else if l.length=0 then sha [2] else sha (0::l.getD 0 []):=
 ⟨Kh,fun l=>by rw [Kh]⟩
noncomputable def J8m:List (List UInt8)→List UInt8:=Classical.choose Jry
theorem Jh4 (l:List (List UInt8)):J8m l=if h:2≤l.length∧l.length≤1099511627776 then sha (1::(J8m (l.take (J6u l.length))++J8m (l.drop (J6u l.length)))) else if l.length=0 then sha [2] else sha (0::l.getD 0 []):=Classical.choose_spec Jry l
theorem J7w (l:List (List UInt8)):(J8m l).length=32:=by
 rw [Jh4]; split
 ·exact J7x _
 ·split <;> exact J7x _
def Jen (a b:List UInt8):List UInt8:=sha (1::(a++b))
def K26 (x:List UInt8):List UInt8:=sha (0::x)
theorem Jiy (l:List (List UInt8)) (h:2≤l.length) (h2:l.length≤1099511627776):J8m l=Jen (J8m (l.take (J6u l.length))) (J8m (l.drop (J6u l.length))):=by
 rw [Jh4,dif_pos ⟨h,h2⟩]; rfl
theorem Jcr (x:List UInt8):J8m [x]=K26 x:=by
 rw [Jh4,dif_neg (by simp),if_neg (by simp)]; rfl
theorem Jkd:J8m []=sha [2]:=by
 rw [Jh4,dif_neg (by simp),if_pos (by simp)]
theorem Jlm (a b:List UInt8) (ha:a.length=32) (hb:b.length=32):J47 a b=some (Jen a b):=by
 unfold J47
 have hf:[a,b].flatten=a++b:=by simp
 rw [J7s _ _ (by rw [hf,List.length_append]; omega) (by simp),hf]
 rfl
def Small (l:List (List UInt8)):Prop:=∀ x ∈ l,x.length≤1000000
theorem Ja0 {l:List (List UInt8)} (h:Small l) (n:Nat):Small (l.take n):=fun x hx=>h x (List.mem_of_mem_take hx)
theorem J9z {l:List (List UInt8)} (h:Small l) (n:Nat):Small (l.drop n):=fun x hx=>h x (List.mem_of_mem_drop hx)
theorem Jiz:∀ (k:Nat) (l:List (List UInt8)),l.length < k→l.length≤1000→Small l→J1r_f k l=some (J8m l)
 | 0,l,h,_,_=>by omega
 | k+1,l,h,h2,hl=>by
  rw [J1r_f]
  match l,h,h2,hl with
  | [],h,h2,hl=>
   rw [J6e (by simp),J7s _ _ (by simp) (by simp),Jkd]; rfl
  | [x],h,h2,hl=>
   have hx:=hl x (by simp)
   have hf:[List.getD [x] (Int.toNat (0:Int)) []].flatten=x:=by simp
   rw [J6c (by simp),J6e (by simp),J6b (by simp),J7s _ _ (by rw [hf]; omega) (by simp),hf,Jcr]; rfl
  | x::y::r,h,h2,hl=>
   have hn:2≤(x::y::r).length:=by simp
   generalize x::y::r=l at h h2 hl hn
   obtain ⟨b1,b2,b3⟩:=Jav l.length hn (by omega)
   rw [J6c (by omega),J6c (by omega),left_eq _ (by omega),J6a,J6b (by omega),Jeg,J8v,Int.toNat_natCast,Jiz k (l.take (J6u l.length)) (by rw [List.length_take]; omega) (by rw [List.length_take]; omega) (Ja0 hl _),J6a,J6b (by omega),
    Jiz k (l.drop (J6u l.length)) (by rw [List.length_drop]; omega) (by rw [List.length_drop]; omega) (J9z hl _),J6a,Jlm _ _ (J7w _) (J7w _),J6a,Jiy l hn (by omega)]
theorem Jm5 (l:List (List UInt8)) (h:l.length < 64) (hl:Small l):J1r l=some (J8m l):=Jiz 64 l h (by omega) hl
noncomputable def J83:Nat→List (List UInt8)→Nat→List (List UInt8)
 | 0,_,_=>[]
 | f+1,l,i=>if l.length≤1 then [] else if i < J6u l.length then J83 f (l.take (J6u l.length)) i++[J8m (l.drop (J6u l.length))]
   else J83 f (l.drop (J6u l.length)) (i - J6u l.length)++[J8m (l.take (J6u l.length))]
def J8t:Nat→Nat→Nat→List Bool
 | 0,_,_=>[]
 | f+1,i,n=>if n≤1 then [] else if i < J6u n then true::J8t f i (J6u n) else false::J8t f (i - J6u n) (n - J6u n)
theorem Jd5:∀ (f g:Nat) (l:List (List UInt8)) (i:Nat),l.length≤f+1→l.length≤g+1→l.length≤1000→J83 f l i=J83 g l i
 | 0,g,l,i,h,_,_=>by
  cases g with
  | zero=>rfl
  | succ g=>rw [J83,J83,if_pos h]
 | f+1,0,l,i,_,h,_=>by rw [J83,J83,if_pos h]
 | f+1,g+1,l,i,h,h2,h3=>by
  rw [J83,J83]
  by_cases h1:l.length≤1
  ·rw [if_pos h1,if_pos h1]
  ·obtain ⟨b1,b2,b3⟩:=Jav l.length (by omega) (by omega)
   rw [if_neg h1,if_neg h1,Jd5 f g (l.take (J6u l.length)) i (by rw [List.length_take]; omega) (by rw [List.length_take]; omega) (by rw [List.length_take]; omega),Jd5 f g (l.drop (J6u l.length)) _ (by rw [List.length_drop]; omega) (by rw [List.length_drop]; omega) (by rw [List.length_drop]; omega)]
theorem J9y:∀ (f:Nat) (l:List (List UInt8)) (i:Nat),l.length≤1000→(J83 f l i).length=(J8t f i l.length).length
 | 0,_,_,_=>rfl
 | f+1,l,i,h=>by
  rw [J83,J8t]
  by_cases h1:l.length≤1
  ·rw [if_pos h1,if_pos h1]; rfl
  ·obtain ⟨b1,b2,b3⟩:=Jav l.length (by omega) (by omega)
   rw [if_neg h1,if_neg h1]
   by_cases hi:i < J6u l.length
   ·rw [if_pos hi,if_pos hi,List.length_append,J9y f _ _ (by rw [List.length_take]; omega),List.length_take,Nat.min_eq_left (by omega)]; simp
   ·rw [if_neg hi,if_neg hi,List.length_append,J9y f _ _ (by rw [List.length_drop]; omega),List.length_drop]; simp
theorem Jb7:∀ (f:Nat) (l:List (List UInt8)) (i:Nat),(J83 f l i).length≤f
 | 0,_,_=>by simp [J83]
 | f+1,l,i=>by
  rw [J83]; split
  ·simp
  ·split
   ·have:=Jb7 f (l.take (J6u l.length)) i; simp; omega
   ·have:=Jb7 f (l.drop (J6u l.length)) (i - J6u l.length); simp; omega
theorem Jh1:∀ (f:Nat) (l:List (List UInt8)) (i:Nat),∀ x ∈ J83 f l i,x.length=32
 | 0,_,_,x,hx=>by simp [J83] at hx
 | f+1,l,i,x,hx=>by
  rw [J83] at hx; split at hx
  ·simp at hx
  ·split at hx
   ·rcases List.mem_append.1 hx with h | h
    ·exact Jh1 f _ _ x h
    ·simp at h; rw [h]; exact J7w _
   ·rcases List.mem_append.1 hx with h | h
    ·exact Jh1 f _ _ x h
    ·simp at h; rw [h]; exact J7w _
abbrev zT:List UInt8:=List.replicate 32 (0:UInt8)
def Jf2 (a:List (List UInt8)) (i:Nat):List (List UInt8):=(List.range a.length).map fun j=>if j < i∨a.length - 1 - i < j then a.getD (a.length - 1 - j) zT else a.getD j zT
theorem J8z (a:List (List UInt8)) (i:Nat):(Jf2 a i).length=a.length:=by simp [Jf2]
theorem Jb9 (a:List (List UInt8)) (i j:Nat) (h:j < a.length):(Jf2 a i).getD j zT=if j < i∨a.length - 1 - i < j then a.getD (a.length - 1 - j) zT else a.getD j zT:=by
 unfold Jf2
 rw [List.getD_eq_getElem?_getD,List.getElem?_map,List.getElem?_range h]; rfl
theorem Jl9 {a b:List (List UInt8)} (hl:a.length=b.length) (h:∀ j,j < a.length→a.getD j zT=b.getD j zT):a=b:=by
 apply List.ext_getElem hl
 intro j h1 h2
 have:=h j h1
 rw [List.getD_eq_getElem?_getD,List.getD_eq_getElem?_getD,List.getElem?_eq_getElem h1,List.getElem?_eq_getElem h2] at this
 exact this
theorem Jgv (a:List (List UInt8)) (i j:Nat) (x:List UInt8) (h:i < a.length):(a.set i x).getD j zT=if i=j then x else a.getD j zT:=by
 rw [List.getD_eq_getElem?_getD,List.getElem?_set,List.getD_eq_getElem?_getD]
 split
 ·rename_i e; subst e; simp [h]
 ·rfl
theorem Jtr (a:List (List UInt8)) (i:Nat) (h:i < a.length - 1 - i):((Jf2 a i).set i ((Jf2 a i).getD (a.length - 1 - i) zT)).set (a.length - 1 - i) ((Jf2 a i).getD i zT)=Jf2 a (i+1):=by
 apply Jl9 (by simp [J8z])
 intro j hj
 rw [List.length_set,List.length_set,J8z] at hj
 rw [Jgv _ _ _ _ (by rw [List.length_set,J8z]; omega),Jgv _ _ _ _ (by rw [J8z]; omega),Jb9 a i _ (by omega),Jb9 a i _ (by omega),Jb9 a i j hj,Jb9 a (i+1) j hj]
 rw [if_neg (show ¬ (i < i∨a.length - 1 - i < i) by omega),if_neg (show ¬ (a.length - 1 - i < i∨a.length - 1 - i < a.length - 1 - i) by omega)]
 by_cases e1:a.length - 1 - i=j
 ·rw [if_pos e1,if_pos (by omega)]; congr 1; omega
 ·rw [if_neg e1]
  by_cases e2:i=j
  ·rw [if_pos e2,if_pos (by omega)]; congr 1; omega
  ·rw [if_neg e2]
   by_cases e3:j < i∨a.length - 1 - i < j
   ·rw [if_pos e3,if_pos (by omega)]
   ·rw [if_neg e3,if_neg (by omega)]
theorem rev_eq (a:List (List UInt8)) (ha:a.length≤1000000):Ji a=some a.reverse:=by
 have main:Ji_1 0 ((a.length:Int) - 1) a=some (Jf2 a (a.length / 2)):=by
  have h0:Jf2 a 0=a:=by
   apply Jl9 (J8z a 0)
   intro j hj
   rw [J8z] at hj
   rw [Jb9 a 0 j hj,if_neg (by omega)]
  unfold Ji_1
  have:=J6l (step:=fun (s:Int×Int×List (List UInt8))=>Ji_1_step s.1 s.2.1 s.2.2) (fun i (_:Unit)=>((i:Int),(a.length:Int) - 1 - (i:Int),Jf2 a i)) (fun _ _=>()) (fun _=>Jf2 a (a.length / 2)) (a.length / 2) (fun _ _=>True) (fun i w hi _=>⟨?_,trivial⟩) (fun w _=>?_) (a.length / 2) 0 () (by omega) trivial
  ·rw [h0] at this
   simpa using this
  ·show Ji_1_step (i:Int) ((a.length:Int) - 1 - (i:Int)) (Jf2 a i)=_
   unfold Ji_1_step
   have hl:=J8z a i
   have e1:Int.toNat ((a.length:Int) - 1 - (i:Int))=a.length - 1 - i:=by omega
   rw [J6e (by omega),J6b (by omega),J6b (by omega),List.length_set,J6b (by omega),e1,Int.toNat_natCast,J6f (by omega) (by omega),J6f (by omega) (by omega),Jtr a i (by omega),show (a.length:Int) - 1 - (i:Int) - 1=(a.length:Int) - 1 - ((i+1:Nat):Int) from by omega]
   rfl
  ·show Ji_1_step ((a.length / 2:Nat):Int) ((a.length:Int) - 1 - ((a.length / 2:Nat):Int)) (Jf2 a (a.length / 2))=_
   unfold Ji_1_step
   rw [J6c (by omega)]
 unfold Ji
 rw [J6f (by omega) (by omega),main,J6a]
 congr 1
 apply Jl9 (by rw [J8z,List.length_reverse])
 intro j hj
 rw [J8z] at hj
 rw [Jb9 a _ j hj]
 have hr:a.reverse.getD j zT=a.getD (a.length - 1 - j) zT:=by
  rw [List.getD_eq_getElem?_getD,List.getElem?_reverse hj,List.getD_eq_getElem?_getD]
 rw [hr]
 split
 ·rfl
 ·congr 1; omega
theorem Jin:∀ (f:Nat) (l:List (List UInt8)) (i:Nat) (acc:List (List UInt8)),l.length≤f+1→l.length < 64→i < l.length∨l.length=0→acc.length≤1000 - f→f≤100→Small l→J0q_1 l (i:Int) acc=some (acc++(J83 f l i).reverse)
 | 0,l,i,acc,h,h2,hi,ha,hf,hs=>by
  unfold J0q_1
  refine J6z ?_
  unfold J0q_1_step
  rw [J6c (by show ¬ (1:Int) < (l.length:Int); omega)]
  simp [J83]
 | f+1,l,i,acc,h,h2,hi,ha,hf,hs=>by
  by_cases h1:l.length≤1
  ·rw [J83,if_pos h1]
   unfold J0q_1
   refine J6z ?_
   unfold J0q_1_step
   rw [J6c (by show ¬ (1:Int) < (l.length:Int); omega)]
   simp
  ·obtain ⟨b1,b2,b3⟩:=Jav l.length (by omega) (by omega)
   rw [J83,if_neg h1]
   by_cases hl:i < J6u l.length
   ·rw [if_pos hl,List.reverse_append,List.reverse_singleton,← List.append_assoc]
    have hst:J0q_1_step l (i:Int) acc=some (.inl (l.take (J6u l.length),(i:Int),acc++[J8m (l.drop (J6u l.length))])):=by
     unfold J0q_1_step
     rw [J6e (by omega),left_eq _ (by omega),J6a,J6e (by omega),J6b (by omega),J8v,Jeg,Int.toNat_natCast,Jm5 _ (by rw [List.length_drop]; omega) (J9z hs _),J6a,J6b (by simp; omega),J6b (by omega)]
    rw [← Jin f (l.take (J6u l.length)) i (acc++[J8m (l.drop (J6u l.length))]) (by rw [List.length_take]; omega) (by rw [List.length_take]; omega) (by rw [List.length_take]; omega) (by simp; omega) (by omega) (Ja0 hs _)]
    unfold J0q_1
    rw [J77 hst]
   ·rw [if_neg hl,List.reverse_append,List.reverse_singleton,← List.append_assoc]
    have hst:J0q_1_step l (i:Int) acc=some (.inl (l.drop (J6u l.length),((i - J6u l.length:Nat):Int),acc++[J8m (l.take (J6u l.length))])):=by
     unfold J0q_1_step
     rw [J6e (by omega),left_eq _ (by omega),J6a,J6c (by omega),J6b (by omega),J8v,Jeg,Int.toNat_natCast,Jm5 _ (by rw [List.length_take]; omega) (Ja0 hs _),J6a,J6b (by simp; omega),J6b (by omega),J6f (by omega) (by omega),
      show (i:Int) - ((J6u l.length:Nat):Int)=((i - J6u l.length:Nat):Int) from by omega]
    rw [← Jin f (l.drop (J6u l.length)) (i - J6u l.length) (acc++[J8m (l.take (J6u l.length))]) (by rw [List.length_drop]; omega) (by rw [List.length_drop]; omega) (by rw [List.length_drop]; omega) (by simp; omega) (by omega) (J9z hs _)]
    unfold J0q_1
    rw [J77 hst]
noncomputable def Jb8 (l:List (List UInt8)) (i:Int):List (List UInt8):=if 0≤i∧i < (l.length:Int) then J83 l.length l i.toNat else []
theorem Jwz (l:List (List UInt8)) (i:Int) (h:l.length < 64) (hs:Small l):J0q l i=some (Jb8 l i):=by
 unfold J0q Jb8
 by_cases h0:i < 0
 ·rw [J6e h0,if_neg (by omega)]
 ·rw [J6c h0]
  by_cases h1:(l.length:Int)≤i
  ·rw [J6e h1,if_neg (by omega)]
  ·rw [J6c h1,if_pos (by omega)]
   obtain ⟨k,rfl⟩:=Int.eq_ofNat_of_zero_le (show 0≤i by omega)
   have hl:=Jb7 l.length l k
   rw [Jin l.length l k [] (by omega) h (by omega) (by simp) (by omega) hs,J6a]
   simp only [List.nil_append]
   rw [rev_eq _ (by rw [List.length_reverse]; omega),List.reverse_reverse]
   rfl
theorem Jg3:∀ (f i n:Nat) (acc:List Bool),n≤f+1→n≤1073741824→i < n∨n=0→acc.length≤10000000 - f→f≤5000000→J0l_1 (i:Int) (n:Int) acc=some (acc++J8t f i n)
 | 0,i,n,acc,h,h2,hi,ha,hf=>by
  unfold J0l_1
  refine J6z ?_
  unfold J0l_1_step
  rw [J6c (by show ¬ (1:Int) < (n:Int); omega)]
  simp [J8t]
 | f+1,i,n,acc,h,h2,hi,ha,hf=>by
  by_cases h1:n≤1
  ·rw [J8t,if_pos h1]
   unfold J0l_1
   refine J6z ?_
   unfold J0l_1_step
   rw [J6c (by show ¬ (1:Int) < (n:Int); omega)]
   simp
  ·obtain ⟨b1,b2,b3⟩:=Jav n (by omega) (by omega)
   rw [J8t,if_neg h1]
   by_cases hl:i < J6u n
   ·rw [if_pos hl,show acc++true::J8t f i (J6u n)=(acc++[true])++J8t f i (J6u n) from by simp]
    have hst:J0l_1_step (i:Int) (n:Int) acc=some (.inl ((i:Int),((J6u n:Nat):Int),acc++[true])):=by
     unfold J0l_1_step
     rw [J6e (by omega),left_eq _ (by omega),J6a,J6b (by simp; omega),decide_eq_true (show (i:Int) < ((J6u n:Nat):Int) by omega),J7l]
    rw [← Jg3 f i (J6u n) (acc++[true]) (by omega) (by omega) (by omega) (by simp; omega) (by omega)]
    unfold J0l_1
    rw [J77 hst]
   ·rw [if_neg hl,show acc++false::J8t f (i - J6u n) (n - J6u n)=(acc++[false])++J8t f (i - J6u n) (n - J6u n) from by simp]
    have hst:J0l_1_step (i:Int) (n:Int) acc=some (.inl (((i - J6u n:Nat):Int),((n - J6u n:Nat):Int),acc++[false])):=by
     unfold J0l_1_step
     rw [J6e (by omega),left_eq _ (by omega),J6a,J6b (by simp; omega),decide_eq_false (show ¬ (i:Int) < ((J6u n:Nat):Int) by omega),J6k,J6f (by omega) (by omega),J6f (by omega) (by omega),
      show (i:Int) - ((J6u n:Nat):Int)=((i - J6u n:Nat):Int) from by omega,show (n:Int) - ((J6u n:Nat):Int)=((n - J6u n:Nat):Int) from by omega]
    rw [← Jg3 f (i - J6u n) (n - J6u n) (acc++[false]) (by omega) (by omega) (by omega) (by simp; omega) (by omega)]
    unfold J0l_1
    rw [J77 hst]
theorem Js5 (i n:Nat) (h:i < n) (hn:n≤1000000):J0l (i:Int) (n:Int)=some (J8t n i n):=by
 unfold J0l
 rw [Jg3 n i n [] (by omega) (by omega) (by omega) (by simp) (by omega),J6a]
 rfl
def isS (i n:Int):Bool:=decide (0≤i) && (decide (i < n) && decide (n≤1048576))
theorem is_eq (i n:Int):J5q i n=some (isS i n):=by
 unfold J5q isS
 simp only [Jgt]
 cases decide (0≤i) <;> cases decide (i < n) <;> simp
theorem Jln (i n:Int):isS i n=true↔0≤i∧i < n∧n≤1048576:=by
 unfold isS; simp
theorem Jyv (i n:Int) (hn:n≤1000000∨1048576 < n):J5n i n=some (if isS i n then ((J8t n.toNat i.toNat n.toNat).length:Int) else -1):=by
 unfold J5n
 rw [is_eq,J6a]
 cases h:isS i n with
 | false=>rfl
 | true=>
  obtain ⟨h1,h2,h3⟩:=(Jln i n).1 h
  obtain ⟨a,rfl⟩:=Int.eq_ofNat_of_zero_le h1
  obtain ⟨b,rfl⟩:=Int.eq_ofNat_of_zero_le (show 0≤n by omega)
  rw [show (!true)=false from rfl,J6k,Js5 a b (by omega) (by omega),J6a]
  rfl
def Jcb:List Bool→List (List UInt8)→List UInt8→List UInt8
 | b::bs,p::ps,h=>Jcb bs ps (if b then Jen h p else Jen p h)
 | _,_,h=>h
theorem Jd0:∀ (bs:List Bool) (ps:List (List UInt8)) (h:List UInt8) (b:Bool) (p:List UInt8),bs.length=ps.length→Jcb (bs++[b]) (ps++[p]) h=if b then Jen (Jcb bs ps h) p else Jen p (Jcb bs ps h)
 | [],[],h,b,p,_=>rfl
 | x::bs,y::ps,h,b,p,e=>by
  show Jcb (bs++[b]) (ps++[p]) _=_
  rw [Jd0 bs ps _ b p (by simpa using e)]
  rfl
 | [],_::_,_,_,_,e=>by simp at e
 | _::_,[],_,_,_,e=>by simp at e
theorem Jku:∀ (bs:List Bool) (ps:List (List UInt8)) (h:List UInt8),h.length=32→(Jcb bs ps h).length=32
 | [],_,h,e=>by simpa [Jcb] using e
 | _::_,[],h,e=>by simpa [Jcb] using e
 | b::bs,p::ps,h,e=>by
  rw [Jcb]
  exact Jku bs ps _ (by split <;> exact J7x _)
theorem Jsu (bs:List Bool) (ps:List (List UInt8)) (h:List UInt8) (i:Nat) (h1:i < bs.length) (h2:i < ps.length) :
  Jcb (bs.take (i+1)) (ps.take (i+1)) h=if bs.getD i false then Jen (Jcb (bs.take i) (ps.take i) h) (ps.getD i zT) else Jen (ps.getD i zT) (Jcb (bs.take i) (ps.take i) h):=by
 rw [List.take_add_one,List.take_add_one,List.getElem?_eq_getElem h1,List.getElem?_eq_getElem h2,Option.toList_some,Option.toList_some,Jd0 _ _ _ _ _ (by simp; omega)]
 rw [List.getD_eq_getElem?_getD,List.getElem?_eq_getElem h1,List.getD_eq_getElem?_getD,List.getElem?_eq_getElem h2]
 rfl
theorem K3l (z h:List UInt8) (l:List Bool) (p:List (List UInt8)) (hl:l.length=p.length) (hp:∀ x ∈ p,x.length=32) (hh:h.length=32) (hb:p.length≤100000):J2e_1 p (p.length:Int) 0 z h l=some (z,Jcb l.reverse p h):=by
 unfold J2e_1
 have:=J6l (step:=fun (s:Int×List UInt8)=>J2e_1_step p (p.length:Int) s.1 z s.2 l) (fun i (_:Unit)=>((i:Int),Jcb (l.reverse.take i) (p.take i) h)) (fun _ _=>()) (fun _=>(z,Jcb l.reverse p h)) p.length (fun _ _=>True) (fun i w hi _=>⟨?_,trivial⟩) (fun w _=>?_) p.length 0 () (by omega) trivial
 ·exact this
 ·show J2e_1_step p (p.length:Int) (i:Int) z (Jcb (l.reverse.take i) (p.take i) h) l=_
  unfold J2e_1_step
  have hg:(p.getD i (List.replicate 32 0)).length=32:=by
   rw [List.getD_eq_getElem?_getD,List.getElem?_eq_getElem hi]; exact hp _ (List.getElem_mem _)
  have hc:=Jku (l.reverse.take i) (p.take i) h hh
  have hr:l.getD (l.length - 1 - i) false=l.reverse.getD i false:=by
   rw [List.getD_eq_getElem?_getD,List.getD_eq_getElem?_getD,List.getElem?_reverse (by omega)]
  rw [J6e (by omega),J6b (by omega),J6f (n:=(l.length:Int) - 1) (by omega) (by omega),J6f (by omega) (by omega),J6b (by omega),show Int.toNat ((l.length:Int) - 1 - (i:Int))=l.length - 1 - i from by omega,hr,Int.toNat_natCast,Jlm _ _ hc hg,Jlm _ _ hg hc,J6a,J6a,J6f (by omega) (by omega),
   Jsu _ _ _ _ (by rw [List.length_reverse]; omega) hi]
  cases l.reverse.getD i false <;> rfl
 ·show J2e_1_step p (p.length:Int) (p.length:Int) z _ l=_
  unfold J2e_1_step
  rw [J6c (by omega),List.take_of_length_le (Nat.le_refl _),List.take_of_length_le (by rw [List.length_reverse]; omega)]
def upS (leaf:List UInt8) (i n:Int) (p:List (List UInt8)):List UInt8×Bool:=
 if isS i n∧p.length=(J8t n.toNat i.toNat n.toNat).length then (Jcb (J8t n.toNat i.toNat n.toNat).reverse p (K26 leaf),true) else (zT,false)
theorem up_eq (leaf:List UInt8) (hf:leaf.length≤1000000) (i n:Int) (hn:n≤1000000) (p:List (List UInt8)) (hp:∀ x ∈ p,x.length=32) (hb:p.length≤100000):J2e leaf i n p=some (upS leaf i n p):=by
 unfold J2e upS
 rw [is_eq,J6a]
 cases h:isS i n with
 | false=>rw [if_neg (by simp)]; rfl
 | true=>
  obtain ⟨h1,h2,h3⟩:=(Jln i n).1 h
  rw [show (!true)=false from rfl,J6k,Jyv i n (.inl hn),h,if_pos rfl,J6a]
  by_cases e:p.length=(J8t n.toNat i.toNat n.toNat).length
  ·rw [J9k (by omega),if_pos ⟨rfl,e⟩,Jm5 [leaf] (by simp) (by intro x hx; simp at hx; rw [hx]; exact hf),J6a]
   have hsd:=Js5 i.toNat n.toNat (by omega) (by omega)
   rw [show ((i.toNat:Nat):Int)=i from by omega,show ((n.toNat:Nat):Int)=n from by omega] at hsd
   rw [hsd,J6a,K3l _ _ _ _ e.symm hp (J7w _) hb,J6a,Jcr]
  ·rw [Jbm (by omega),if_neg (fun h=>e h.2)]
theorem Jlu:∀ (f:Nat) (l:List (List UInt8)) (i:Nat),i < l.length→l.length≤f+1→l.length≤1000→Jcb (J8t f i l.length).reverse (J83 f l i) (K26 (l.getD i []))=J8m l
 | 0,l,i,hi,h,h2=>by
  match l,hi,h with
  | [x],hi,h=>
   have:i=0:=by simp at hi; exact hi
   subst this
   rw [Jcr]; rfl
 | f+1,l,i,hi,h,h2=>by
  rw [J8t,J83]
  by_cases h1:l.length≤1
  ·rw [if_pos h1,if_pos h1]
   match l,hi,h1 with
   | [x],hi,h1=>
    have:i=0:=by simp at hi; exact hi
    subst this
    rw [Jcr]; rfl
  ·obtain ⟨b1,b2,b3⟩:=Jav l.length (by omega) (by omega)
   rw [if_neg h1,if_neg h1,Jiy l (by omega) (by omega)]
   by_cases hl:i < J6u l.length
   ·rw [if_pos hl,if_pos hl,List.reverse_cons,Jd0 _ _ _ _ _ (by rw [List.length_reverse,J9y f _ _ (by rw [List.length_take]; omega),List.length_take,Nat.min_eq_left (by omega)]),if_pos rfl]
    have ih:=Jlu f (l.take (J6u l.length)) i (by rw [List.length_take]; omega) (by rw [List.length_take]; omega) (by rw [List.length_take]; omega)
    rw [List.length_take,Nat.min_eq_left (by omega)] at ih
    have hg:(l.take (J6u l.length)).getD i []=l.getD i []:=by
     rw [List.getD_eq_getElem?_getD,List.getD_eq_getElem?_getD,List.getElem?_take_of_lt hl]
    rw [hg] at ih
    rw [ih]
   ·rw [if_neg hl,if_neg hl,List.reverse_cons,Jd0 _ _ _ _ _ (by rw [List.length_reverse,J9y f _ _ (by rw [List.length_drop]; omega),List.length_drop]),if_neg (by simp)]
    have ih:=Jlu f (l.drop (J6u l.length)) (i - J6u l.length) (by rw [List.length_drop]; omega) (by rw [List.length_drop]; omega) (by rw [List.length_drop]; omega)
    rw [List.length_drop] at ih
    have hg:(l.drop (J6u l.length)).getD (i - J6u l.length) []=l.getD i []:=by
     rw [List.getD_eq_getElem?_getD,List.getD_eq_getElem?_getD,List.getElem?_drop]; congr 2; omega
    rw [hg] at ih
    rw [ih]
theorem Jng:∀ (f k n:Nat),n≤2 * k * 2 ^ f→1≤k→n≤1073741824→k≤1073741824→Jy_1 (n:Int) (k:Int)=some ((Jjg f k n:Nat):Int)
 | 0,k,n,h,h1,h2,hk=>by
  unfold Jy_1
  refine J6z ?_
  unfold Jy_1_step
  simp only [Nat.pow_zero,Nat.mul_one] at h
  rw [J6f (by omega) (by omega),J6c (by omega)]
  rfl
 | f+1,k,n,h,h1,h2,hk=>by
  rw [Jjg]
  split
  ·rename_i hlt
   rw [← Jng f (2 * k) n (by rw [Nat.pow_succ] at h; rw [Jlw]; exact h) (by omega) h2 (by omega)]
   have hs:Jy_1_step (n:Int) (k:Int)=some (.inl ((2 * k:Nat):Int)):=by
    unfold Jy_1_step
    rw [J6f (by omega) (by omega),J6e (by omega),show 2 * (k:Int)=((2 * k:Nat):Int) from by omega]
   unfold Jy_1
   rw [J77 hs]
  ·rename_i hlt
   unfold Jy_1
   refine J6z ?_
   unfold Jy_1_step
   rw [J6f (by omega) (by omega),J6c (by omega)]
theorem Jvw (n:Nat) (h:n≤1073741824):Jy (n:Int)=some ((J6u n:Nat):Int):=by
 unfold Jy
 rw [show (1:Int)=((1:Nat):Int) from rfl,Jng 40 1 n (by omega) (by omega) h (by omega),J6a]
 rfl
theorem Jxa (a b:List UInt8) (ha:a.length=32) (hb:b.length=32):Je 1 [a,b]=some (Jen a b):=by
 have hf:[a,b].flatten=a++b:=by simp
 rw [J7p _ _ (by rw [hf,List.length_append]; omega) (by simp),hf]
 rfl
theorem Jfz:∀ (k:Nat) (l:List (List UInt8)),l.length < k→l.length≤1000→Small l→J06_f k l=some (J8m l)
 | 0,l,h,_,_=>by omega
 | k+1,l,h,h2,hl=>by
  rw [J06_f]
  match l,h,h2,hl with
  | [],h,h2,hl=>
   rw [J6e (by simp),J7p _ _ (by simp) (by simp),Jkd]; rfl
  | [x],h,h2,hl=>
   have hx:=hl x (by simp)
   have hf:[List.getD [x] (Int.toNat (0:Int)) []].flatten=x:=by simp
   rw [J6c (by simp),J6e (by simp),J6b (by simp),J7p _ _ (by rw [hf]; omega) (by simp),hf,Jcr]; rfl
  | x::y::r,h,h2,hl=>
   have hn:2≤(x::y::r).length:=by simp
   generalize x::y::r=l at h h2 hl hn
   obtain ⟨b1,b2,b3⟩:=Jav l.length hn (by omega)
   rw [J6c (by omega),J6c (by omega),Jvw _ (by omega),J6a,J6b (by omega),Jeg,J8v,Int.toNat_natCast,Jfz k (l.take (J6u l.length)) (by rw [List.length_take]; omega) (by rw [List.length_take]; omega) (Ja0 hl _),J6a,J6b (by omega),
    Jfz k (l.drop (J6u l.length)) (by rw [List.length_drop]; omega) (by rw [List.length_drop]; omega) (J9z hl _),J6a,Jxa _ _ (J7w _) (J7w _),J6a,Jiy l hn (by omega)]
theorem Jh5 (l:List (List UInt8)) (h:l.length < 64) (hl:Small l):J06 l=some (J8m l):=Jfz 64 l h (by omega) hl
theorem Jfx:∀ (k:Nat) (l:List (List UInt8)) (i:Int),l.length < k→l.length < 64→Small l→J0t_f k l i=some (if 0≤i∧i < (l.length:Int) then J83 l.length l i.toNat else [])
 | 0,l,i,h,_,_=>by omega
 | k+1,l,i,h,h2,hl=>by
  rw [J0t_f]
  by_cases h0:i < 0
  ·rw [J6e h0,if_neg (by omega)]
  ·rw [J6c h0]
   by_cases h1:(l.length:Int)≤i
   ·rw [J6e h1,if_neg (by omega)]
   ·rw [J6c h1,if_pos (by omega)]
    by_cases h3:l.length=1
    ·rw [J6e (by omega),h3,J83,if_pos (by omega)]
    ·rw [J6c (by omega),Jvw _ (by omega),J6a]
     obtain ⟨b1,b2,b3⟩:=Jav l.length (by omega) (by omega)
     obtain ⟨q,hq⟩:∃ q,l.length=q+1:=⟨l.length - 1,by omega⟩
     have hp:J83 l.length l i.toNat=if i.toNat < J6u l.length then J83 q (l.take (J6u l.length)) i.toNat++[J8m (l.drop (J6u l.length))] else J83 q (l.drop (J6u l.length)) (i.toNat - J6u l.length)++[J8m (l.take (J6u l.length))]:=by
      conv=>lhs; rw [hq]
      rw [J83,if_neg (by omega)]
     rw [hp]
     by_cases h4:i.toNat < J6u l.length
     ·have lt:(l.take (J6u l.length)).length=J6u l.length:=by rw [List.length_take]; omega
      have hpl:=Jb7 q (l.take (J6u l.length)) i.toNat
      rw [if_pos h4,J6e (by omega),J6b (by omega),Jeg,J8v,Int.toNat_natCast,Jfx k (l.take (J6u l.length)) i (by omega) (by omega) (Ja0 hl _),J6a,if_pos (by omega),J6b (by omega),Jh5 _ (by rw [List.length_drop]; omega) (J9z hl _),J6a,
       Jd5 _ q _ _ (by omega) (by omega) (by omega),J6b (by simp; omega)]
     ·have ld:(l.drop (J6u l.length)).length=l.length - J6u l.length:=by rw [List.length_drop]
      have hpl:=Jb7 q (l.drop (J6u l.length)) (i.toNat - J6u l.length)
      rw [if_neg h4,J6c (by omega),J6b (by omega),Jeg,J8v,Int.toNat_natCast,J6f (by omega) (by omega),Jfx k (l.drop (J6u l.length)) (i - ((J6u l.length:Nat):Int)) (by omega) (by omega) (J9z hl _),J6a,if_pos (by omega),J6b (by omega),Jh5 _ (by rw [List.length_take]; omega) (Ja0 hl _),J6a,
       show Int.toNat (i - ((J6u l.length:Nat):Int))=i.toNat - J6u l.length from by omega,Jd5 _ q _ _ (by omega) (by omega) (by omega),J6b (by simp; omega)]
theorem Kj (l:List (List UInt8)) (i:Int) (h:l.length < 64) (hl:Small l):J0t l i=some (Jb8 l i):=Jfx 64 l i h h hl
abbrev Prf:=Int×Int×List Pr×List (List (List UInt8))×Unit
def Jdy (p:Pr):List UInt8:=txtS p.1++txtS p.2.1
def J6w (l:List Pr):List (List UInt8):=l.map Jdy
def KvOk (l:List Pr):Prop:=l.length≤60∧∀ p ∈ l,p.1.length≤100000∧p.2.1.length≤100000
theorem J7d (l:List Pr):(J6w l).length=l.length:=by simp [J6w]
theorem Jno {p:Pr} (h:p.1.length≤100000∧p.2.1.length≤100000):(Jdy p).length≤200100:=by
 have a:=Jj7 p.1
 have b:=Jj7 p.2.1
 unfold Jdy; rw [List.length_append]; omega
theorem Jer {l:List Pr} (h:KvOk l):Small (J6w l):=by
 intro x hx
 obtain ⟨p,hp,rfl⟩:=List.mem_map.1 hx
 have:=Jno (h.2 p hp)
 omega
theorem Jpr (p:Pr) (h:p.1.length≤100000∧p.2.1.length≤100000):J4p p=some (Jdy p):=by
 have:=Jsf [p.1,p.2.1] (by simp) (fun x hx=>by
  rcases List.mem_cons.1 hx with rfl | hx
  ·exact h.1
  ·rcases List.mem_cons.1 hx with rfl | hx
   ·exact h.2
   ·cases hx)
 have e:([p.1,p.2.1]:List (List UInt8)).flatMap txtS=Jdy p:=by simp [Jdy]
 rw [e] at this
 unfold J4p
 rw [this,J6a]
theorem Jge (l:List Pr) {i:Nat} (hi:i < l.length):J6w (l.take i)++[Jdy (l.getD i zPr)]=J6w (l.take (i+1)):=by
 unfold J6w
 rw [List.take_add_one,List.map_append,List.getElem?_eq_getElem hi,List.getD_eq_getElem?_getD,List.getElem?_eq_getElem hi]; rfl
theorem Jkh (x0:List Pr) (x1:Int) (x2:Int) (x3:List Pr) (x4:Int) (x5:Int) (x6:Int) (x7:Int) (x8:Unit) (x9:Int) (x10:Int) (x11:Unit) (x12:List (List UInt8)):J04_1_step x0 x1 x2 x3 x4 x5 x6 x7 x8 x9 x10 x11 x12 =
  (fork (decide (x5 < x4)) (need (0≤x5∧x5 < (List.length x3:Int)) (andThen (J4p (List.getD x3 (Int.toNat x5) zPr)) (fun u5=>need (List.length x12+List.length ([u5]:List (List UInt8))≤2147483648) (some (.inl ((w64 (x5+(1:Int))),(x12++([u5]:List (List UInt8))))))))) (some (.inr (x0,x1,x2,x6,x7,x8,x9,x10,x11,x12))):Option ((Int×List (List UInt8))⊕((List Pr)×Int×Int×Int×Int×Unit×Int×Int×Unit×List (List UInt8)))):=rfl
theorem Jki (x0:List Pr) (x1:Int) (x2:Int) (x3:Int) (x4:Int) (x5:Unit) (x6:Int) (x7:Int) (x8:Unit) (x9:List Pr) (x10:List (List (List UInt8))) (x11:List (List UInt8)):J04_2_step x0 x1 x2 x3 x4 x5 x6 x7 x8 x9 x10 x11 =
  (fork (decide (x2 < x1)) (need (0≤x2∧x2 < (List.length x0:Int)) (need (List.length x9+List.length ([(List.getD x0 (Int.toNat x2) zPr)]:List Pr)≤2147483648) (andThen (J0q x11 x2) (fun u14=>need (List.length x10+List.length ([u14]:List (List (List UInt8)))≤2147483648) (some (.inl ((w64 (x2+(1:Int))),(x9++([(List.getD x0 (Int.toNat x2) zPr)]:List Pr)),(x10++([u14]:List (List (List UInt8))))))))))) (some (.inr (x3,x4,x5,x6,x7,x8,x9,x10))):Option ((Int×(List Pr)×List (List (List UInt8)))⊕(Int×Int×Unit×Int×Int×Unit×(List Pr)×List (List (List UInt8))))):=rfl
noncomputable def J95 (l:List Pr) (f n:Nat):List (List (List UInt8)):=(List.range n).map fun j=>Jb8 (J6w l) ((f+j:Nat):Int)
noncomputable def J86 (l:List Pr) (f t:Nat):Prf:=if t≤f then ((l.length:Int),0,[],[],()) else ((l.length:Int),(f:Int),(l.drop f).take (t - f),J95 l f (t - f),())
theorem Jio (l:List Pr) (f n:Nat):J95 l f (n+1)=J95 l f n++[Jb8 (J6w l) ((f+n:Nat):Int)]:=by
 unfold J95
 rw [List.range_succ,List.map_append]; rfl
theorem Jdg (l:List Pr) {f n:Nat} (h:f+n < l.length):(l.drop f).take (n+1)=(l.drop f).take n++[l.getD (f+n) zPr]:=by
 rw [List.take_add_one,List.getElem?_drop,List.getElem?_eq_getElem h,List.getD_eq_getElem?_getD,List.getElem?_eq_getElem h]; rfl
theorem Jrq (l:List Pr) (h:KvOk l) (a b:Int):J04 l a b=some (J86 l (max a 0).toNat (min b (l.length:Int)).toNat):=by
 have hl:=h.1
 unfold J04
 by_cases c:min b (l.length:Int)≤max a 0
 ·rw [J6e c]
  unfold J86
  rw [if_pos (by omega)]
 ·rw [J6c c]
  have ef:max a 0=(((max a 0).toNat:Nat):Int):=by omega
  have et:min b (l.length:Int)=(((min b (l.length:Int)).toNat:Nat):Int):=by omega
  generalize hF:(max a 0).toNat=F at *
  generalize hT:(min b (l.length:Int)).toNat=T at *
  rw [ef,et]
  rw [ef,et] at c
  have hFT:F < T:=by omega
  have hTl:T≤l.length:=by omega
  clear hF hT ef et c
  have m1:J04_1 l (F:Int) (T:Int) l (l.length:Int) 0 0 0 () (l.length:Int) 0 () []=some (l,(F:Int),(T:Int),0,0,(),(l.length:Int),0,(),J6w l):=by
   unfold J04_1
   have:=J6l (step:=fun (s:Int×List (List UInt8))=>J04_1_step l (F:Int) (T:Int) l (l.length:Int) s.1 0 0 () (l.length:Int) 0 () s.2) (fun i (_:Unit)=>((i:Int),J6w (l.take i))) (fun _ _=>()) (fun _=>(l,(F:Int),(T:Int),0,0,(),(l.length:Int),0,(),J6w l)) l.length (fun _ _=>True) (fun i w hi _=>⟨?_,trivial⟩) (fun w _=>?_) l.length 0 () (by omega) trivial
   ·exact this
   ·show J04_1_step l (F:Int) (T:Int) l (l.length:Int) (i:Int) 0 0 () (l.length:Int) 0 () (J6w (l.take i))=_
    rw [Jkh,J6e (by omega),J6b (by omega),Int.toNat_natCast,Jpr _ (h.2 _ (J7c hi)),J6a,J6b (by rw [J7d,List.length_take]; simp only [List.length_cons,List.length_nil]; omega),Jge l hi,J6f (by omega) (by omega)]
    rfl
   ·show J04_1_step l (F:Int) (T:Int) l (l.length:Int) (l.length:Int) 0 0 () (l.length:Int) 0 () (J6w (l.take l.length))=_
    rw [Jkh,J6c (by omega),List.take_of_length_le (Nat.le_refl _)]
  have m2:J04_2 l (T:Int) (F:Int) 0 0 () (l.length:Int) (F:Int) () [] [] (J6w l)=some (0,0,(),(l.length:Int),(F:Int),(),(l.drop F).take (T - F),J95 l F (T - F)):=by
   unfold J04_2
   have:=J6l (step:=fun (s:Int×(List Pr)×List (List (List UInt8)))=>J04_2_step l (T:Int) s.1 0 0 () (l.length:Int) (F:Int) () s.2.1 s.2.2 (J6w l)) (fun i (_:Unit)=>(((F+i:Nat):Int),(l.drop F).take i,J95 l F i)) (fun _ _=>()) (fun _=>(0,0,(),(l.length:Int),(F:Int),(),(l.drop F).take (T - F),J95 l F (T - F))) (T - F) (fun _ _=>True) (fun i w hi _=>⟨?_,trivial⟩) (fun w _=>?_) (T - F) 0 () (by omega) trivial
   ·exact this
   ·show J04_2_step l (T:Int) ((F+i:Nat):Int) 0 0 () (l.length:Int) (F:Int) () ((l.drop F).take i) (J95 l F i) (J6w l)=_
    have e1:((l.drop F).take i).length≤60:=by rw [List.length_take,List.length_drop]; omega
    have e2:(J95 l F i).length=i:=by simp [J95]
    rw [Jki,J6e (by omega),J6b (by omega),Int.toNat_natCast,J6b (by simp only [List.length_cons,List.length_nil]; omega),Jwz (J6w l) _ (by rw [J7d]; omega) (Jer h),J6a,J6b (by simp only [List.length_cons,List.length_nil]; omega),J6f (by omega) (by omega),← Jdg l (by omega),← Jio]
    congr 3
   ·show J04_2_step l (T:Int) ((F+(T - F):Nat):Int) 0 0 () (l.length:Int) (F:Int) () ((l.drop F).take (T - F)) (J95 l F (T - F)) (J6w l)=_
    rw [Jki,J6c (by omega)]
  rw [m1,J6a]
  simp only
  rw [m2,J6a]
  unfold J86
  rw [if_neg (by omega)]
theorem Jrt (l:List Pr) (h:KvOk l) (hr:J81 l) (a b:List UInt8):J4n l a b=some (J86 l (J6h l a - 1) (min (J6h l (maxS a b)+1) l.length)):=by
 have hl:=h.1
 have h1:=below_le l a
 have h2:=below_le l (maxS a b)
 unfold J4n
 rw [Jci l hr (by omega),J6a,Jci l hr (by omega),J6a,J6f (by omega) (by omega),J6f (by omega) (by omega),Jrq l h,J6a]
 congr 2 <;> omega
theorem Jz8 (l:List Pr) (h:KvOk l) (hr:J81 l) (k:List UInt8):J5g l k=some (if isAt l k then (J86 l (J6h l k) (J6h l k+1),true) else ((0,0,[],[],()),false)):=by
 have hl:=h.1
 have h1:=below_le l k
 unfold J5g
 rw [Jfo l hr (by omega),J6a]
 cases c:isAt l k with
 | false=>rfl
 | true=>
  have:=c
  unfold isAt at this
  rw [decide_eq_true_eq] at this
  rw [if_pos rfl,Bool.not_true,J6k,Jci l hr (by omega),J6a,J6f (by omega) (by omega),Jrq l h,J6a,if_pos rfl]
  congr 3 <;> omega
theorem Jny (a:List UInt8):maxS a a=a:=by unfold maxS; cases J6t a a <;> rfl
theorem Jub (l:List Pr) (h:KvOk l) (hr:J81 l) (k:List UInt8):J54 l k=some (if isAt l k then ((0,0,[],[],()),false) else (J86 l (J6h l k - 1) (min (J6h l k+1) l.length),true)):=by
 have hl:=h.1
 unfold J54
 rw [Jfo l hr (by omega),J6a]
 cases c:isAt l k with
 | true=>rfl
 | false=>
  rw [if_neg (by simp),J6k,Jrt l h hr,Jny,J6a,if_neg (by simp)]
theorem Jrn (l:List Pr) (h:l.length≤60) (f n:Nat):(J95 l f n).length=n∧∀ x ∈ J95 l f n,x.length≤60:=by
 refine ⟨by simp [J95],fun x hx=>?_⟩
 obtain ⟨j,_,rfl⟩:=List.mem_map.1 hx
 unfold Jb8
 split
 ·have:=Jb7 (J6w l).length (J6w l) ((f+j:Nat):Int).toNat
  rw [J7d] at this ⊢; omega
 ·exact Nat.zero_le _
theorem Jzx (n:Nat) (h:n≤1000000000):J2b (n:Int)=some []:=by
 unfold J2b
 rw [J6c (by omega),Int.sub_zero,J6f (by omega) (by omega)]
 by_cases c:(0:Int) < (n:Int)
 ·rw [J6e c,J6b ⟨rfl,rfl⟩,J6b (by rw [List.length_replicate]; omega),J6b (by omega),J6b (by rw [List.length_replicate]; omega)]
  rfl
 ·rw [J6c c]
theorem Jtk (l:List (List Pr)) (h:l.flatten.length≤1000000000) (hl:l.length≤1000000):J3 l=some l.flatten:=by
 have ht:∀ i,((l.take i).flatten).length≤1000000000:=fun i=>Nat.le_trans (Jaq l i) h
 have m1:J3_1 l 0 l (l.length:Int) 0=some (l,(l.flatten.length:Int)):=by
  unfold J3_1
  have:=J6l (step:=fun (s:Int×Int)=>J3_1_step l s.1 l (l.length:Int) s.2) (fun i (_:Unit)=>((((l.take i).flatten).length:Int),(i:Int))) (fun _ _=>()) (fun _=>(l,(l.flatten.length:Int))) l.length (fun _ _=>True) (fun i w hi _=>⟨?_,trivial⟩) (fun w _=>?_) l.length 0 () (by omega) trivial
  ·exact this
  ·show J3_1_step l (((l.take i).flatten).length:Int) l (l.length:Int) (i:Int)=_
   unfold J3_1_step
   have e:=congrArg List.length (getD_take l hi)
   rw [List.length_append] at e
   have b:=ht (i+1)
   rw [J6e (by omega),J6b (by omega),Int.toNat_natCast,J6f (n:=(((l.take i).flatten).length:Int)+((l.getD i []).length:Int)) (by omega) (by omega),J6c (by omega),J6f (by omega) (by omega)]
   congr 3
   omega
  ·show J3_1_step l (((l.take l.length).flatten).length:Int) l (l.length:Int) (l.length:Int)=_
   unfold J3_1_step
   rw [J6c (by omega),List.take_of_length_le (Nat.le_refl _)]
 have m2:J3_2 l (l.length:Int) 0 []=some l.flatten:=by
  unfold J3_2
  have:=J6l (step:=fun (s:Int×List Pr)=>J3_2_step l (l.length:Int) s.1 s.2) (fun i (_:Unit)=>((i:Int),(l.take i).flatten)) (fun _ _=>()) (fun _=>l.flatten) l.length (fun _ _=>True) (fun i w hi _=>⟨?_,trivial⟩) (fun w _=>?_) l.length 0 () (by omega) trivial
  ·exact this
  ·show J3_2_step l (l.length:Int) (i:Int) ((l.take i).flatten)=_
   unfold J3_2_step
   have e:=congrArg List.length (getD_take l hi)
   rw [List.length_append] at e
   have b:=ht (i+1)
   rw [J6e (by omega),J6b (by omega),Int.toNat_natCast,J6b (by omega),J6f (by omega) (by omega),getD_take l hi]
   rfl
  ·show J3_2_step l (l.length:Int) (l.length:Int) ((l.take l.length).flatten)=_
   unfold J3_2_step
   rw [J6c (by omega),List.take_of_length_le (Nat.le_refl _)]
 unfold J3
 rw [m1,J6a]
 simp only
 rw [Jzx _ h,J6a,m2,J6a]
abbrev Stt:=List Pr×Int×List (List Pr)×Unit
def mayP (p:Pr):Bool:=!decide (p.1=[]) && (decide ((p.1.length:Int)≤16) && decide ((p.2.1.length:Int)≤24))
theorem Jwg (p:Pr):J5r p=some (mayP p):=by
 unfold J5r mayP
 cases decide (p.1=[]) <;> cases decide ((p.1.length:Int)≤16) <;> rfl
def putP (l:List Pr) (p:Pr):List Pr:=if isAt l p.1 then l.take (J6h l p.1)++p::l.drop (J6h l p.1+1) else l.take (J6h l p.1)++p::l.drop (J6h l p.1)
def setP (l:List Pr) (p:Pr):List Pr×Bool:=if mayP p && (isAt l p.1 || decide (l.length < 30)) then (putP l p,true) else (l,false)
theorem Jdv {l:List Pr} {k:List UInt8} (h:isAt l k=true):J6h l k < l.length∧(l.getD (J6h l k) zPr).1=k:=by
 unfold isAt at h; rw [decide_eq_true_eq] at h; exact h
theorem Jw8 (l:List Pr) (hr:J81 l) (hl:l.length≤1000) (p:Pr):J5e l p=some (setP l p):=by
 have hb:=below_le l p.1
 have c3:∀ a b c:List Pr,J3 [a,b,c]=some (a++(b++(c++[])))∨1000000000 < (a++(b++(c++[]))).length:=fun a b c=>by
  by_cases q:([a,b,c]:List (List Pr)).flatten.length≤1000000000
  ·exact .inl (Jtk _ q (by simp))
  ·right
   have:([a,b,c]:List (List Pr)).flatten=a++(b++(c++[])):=rfl
   rw [← this]; omega
 have c4:∀ a c:List Pr,a.length≤1000→c.length≤1000→J3 [a,[p],c]=some (a++p::c):=fun a c h1 h2=>by
  rcases c3 a [p] c with e | e
  ·rw [e,List.append_nil]; rfl
  ·simp only [List.length_append,List.length_cons,List.length_nil] at e; omega
 unfold J5e setP putP
 rw [Jf0 l hr hl,J6a,Jwg,J6a,J6f (by omega) (by omega)]
 cases hm:mayP p with
 | false=>rfl
 | true=>
  rw [Bool.not_true,J6k,Bool.true_and]
  cases ha:isAt l p.1 with
  | true=>
   have:=(Jdv ha).1
   have e1:cutL l 0 (J6h l p.1:Int)=l.take (J6h l p.1):=by rw [Jeg,Int.toNat_natCast]
   have e2:cutL l ((J6h l p.1:Int)+1) (l.length:Int)=l.drop (J6h l p.1+1):=by rw [J8v]; rfl
   rw [Bool.not_true,J6k,J7l,J6b (by omega),J6b (by omega),e1,e2,c4 _ _ (by rw [List.length_take]; omega) (by rw [List.length_drop]; omega),J6a,Bool.true_or,if_pos rfl,if_pos rfl]
  | false=>
   have e1:cutL l 0 (J6h l p.1:Int)=l.take (J6h l p.1):=by rw [Jeg,Int.toNat_natCast]
   have e2:cutL l (J6h l p.1:Int) (l.length:Int)=l.drop (J6h l p.1):=by rw [J8v,Int.toNat_natCast]
   rw [Bool.not_false,J7l,Bool.false_or]
   by_cases c:l.length < 30
   ·rw [J6c (by omega),J6k,J6b (by omega),J6b (by omega),e1,e2,c4 _ _ (by rw [List.length_take]; omega) (by rw [List.length_drop]; omega),J6a,decide_eq_true c,if_pos rfl,if_neg (by simp)]
   ·rw [J6e (by omega),decide_eq_false c,if_neg (by simp)]
theorem Jt8 {l:List Pr} (h:J81 l) (n:Nat):J81 (l.take n):=h.sublist (List.take_sublist n l)
theorem Jt7 {l:List Pr} (h:J81 l) (n:Nat):J81 (l.drop n):=h.sublist (List.drop_sublist n l)
theorem Jpt {l:List Pr} {k:List UInt8} {p:Pr} (h:p ∈ l.take (J6h l k)):J6t p.1 k=true:=by
 obtain ⟨i,hi,rfl⟩:=List.getElem_of_mem h
 rw [List.length_take] at hi
 rw [List.getElem_take]
 have:=Jcz l k i (by omega)
 rw [List.getD_eq_getElem?_getD,List.getElem?_eq_getElem (by omega)] at this
 exact this
theorem Jgg {l:List Pr} {n:Nat} {p:Pr} (h:p ∈ l.drop n):∃ i,n≤i∧i < l.length∧l.getD i zPr=p:=by
 obtain ⟨i,hi,rfl⟩:=List.getElem_of_mem h
 rw [List.length_drop] at hi
 refine ⟨n+i,by omega,by omega,?_⟩
 rw [List.getElem_drop,List.getD_eq_getElem?_getD,List.getElem?_eq_getElem (by omega)]; rfl
theorem Jvb {l:List Pr} (hr:J81 l) {k:List UInt8} {n:Nat} (h:isAt l k=false∧n=J6h l k∨isAt l k=true∧n=J6h l k+1) {p:Pr} (hp:p ∈ l.drop n):J6t k p.1=true:=by
 obtain ⟨i,h1,h2,rfl⟩:=Jgg hp
 rcases h with ⟨ha,rfl⟩ | ⟨ha,rfl⟩
 ·have b:J6t (l.getD i zPr).1 k=false:=by
   cases q:J6t (l.getD i zPr).1 k with
   | false=>rfl
   | true=>have:=(J8d hr k h2).1 q; omega
  rcases Jf8 _ _ b with e | e
  ·exact absurd ((Jr7 hr k).2 ⟨_,J7c h2,e⟩) (by rw [ha]; simp)
  ·exact e
 ·have e:=(Jdv ha).2
  have:=Jep hr (i:=J6h l k) (j:=i) (by omega) h2
  rw [e] at this; exact this
theorem Jx2 {l:List Pr} (hr:J81 l) (p:Pr):J81 (putP l p):=by
 have key:∀ n,(isAt l p.1=false∧n=J6h l p.1∨isAt l p.1=true∧n=J6h l p.1+1)→J81 (l.take (J6h l p.1)++p::l.drop n):=fun n hn=>by
  refine List.pairwise_append.2 ⟨Jt8 hr _,List.pairwise_cons.2 ⟨fun q hq=>Jvb hr hn hq,Jt7 hr _⟩,fun a ha b hb=>?_⟩
  have h1:=Jpt ha
  rcases List.mem_cons.1 hb with rfl | hb
  ·exact h1
  ·exact J7y _ _ _ h1 (Jvb hr hn hb)
 unfold putP
 cases ha:isAt l p.1 with
 | true=>rw [if_pos rfl]; exact key _ (.inr ⟨ha,rfl⟩)
 | false=>rw [if_neg (by simp)]; exact key _ (.inl ⟨ha,rfl⟩)
theorem Jzz (l:List Pr) (p:Pr):(putP l p).length=if isAt l p.1 then l.length else l.length+1:=by
 have hb:=below_le l p.1
 unfold putP
 cases ha:isAt l p.1 with
 | true=>
  have:=(Jdv ha).1
  rw [if_pos rfl,if_pos rfl,List.length_append,List.length_cons,List.length_take,List.length_drop]; omega
 | false=>rw [if_neg (by simp),if_neg (by simp),List.length_append,List.length_cons,List.length_take,List.length_drop]; omega
theorem Jxj {l:List Pr} (hr:J81 l) (p:Pr):J81 (setP l p).1:=by
 unfold setP
 split
 ·exact Jx2 hr p
 ·exact hr
theorem Kq {l:List Pr} (hl:l.length≤30) (p:Pr):(setP l p).1.length≤30:=by
 unfold setP
 split
 ·rename_i h
  rw [Bool.and_eq_true,Bool.or_eq_true,decide_eq_true_eq] at h
  show (putP l p).length≤30
  rw [Jzz]
  split
  ·exact hl
  ·rename_i h2
   have:=h.2.resolve_left h2
   omega
 ·exact hl
theorem K3 {l:List Pr} {p q:Pr} (h:q ∈ putP l p):q=p∨q ∈ l:=by
 unfold putP at h
 split at h
 ·rcases List.mem_append.1 h with h | h
  ·exact .inr (List.mem_of_mem_take h)
  ·rcases List.mem_cons.1 h with h | h
   ·exact .inl h
   ·exact .inr (List.mem_of_mem_drop h)
 ·rcases List.mem_append.1 h with h | h
  ·exact .inr (List.mem_of_mem_take h)
  ·rcases List.mem_cons.1 h with h | h
   ·exact .inl h
   ·exact .inr (List.mem_of_mem_drop h)
def RowB (l:List Pr):Prop:=J81 l∧l.length≤30∧∀ p ∈ l,p.1.length≤16∧p.2.1.length≤24
theorem Jao:RowB []:=⟨List.Pairwise.nil,by simp,by simp⟩
theorem Kr {l:List Pr} (h:RowB l) (p:Pr):RowB (setP l p).1:=by
 refine ⟨Jxj h.1 p,Kq h.2.1 p,fun q hq=>?_⟩
 unfold setP at hq
 split at hq
 ·rename_i c
  rw [Bool.and_eq_true] at c
  have hm:=c.1
  unfold mayP at hm
  simp only [Bool.and_eq_true,decide_eq_true_eq] at hm
  rcases K3 hq with rfl | hq
  ·omega
  ·exact h.2.2 q hq
 ·exact h.2.2 q hq
def StOk (s:Stt):Prop:=RowB s.1∧0≤s.2.1∧s.2.1≤16∧(s.2.2.1.length:Int)=min s.2.1 6∧∀ l ∈ s.2.2.1,RowB l
theorem Jxy:StOk ([],0,[],()):=⟨Jao,by decide,by decide,by decide,by simp⟩
theorem Ky (s:Stt) (h:StOk s) (p:Pr):J0k p s=some ((setP s.1 p).2,((setP s.1 p).1,s.2.1,s.2.2.1,())):=by
 have:=h.1.2.1
 unfold J0k
 rw [Jw8 _ h.1.1 (by omega),J6a]
theorem st_set {s:Stt} (h:StOk s) (p:Pr):StOk ((setP s.1 p).1,s.2.1,s.2.2.1,()):=⟨Kr h.1 p,h.2⟩
def Jnk (k:List (List Pr)) (l:List Pr):List (List Pr):=if 6 < k.length+1 then (k++[l]).drop 1 else k++[l]
def Jfj (s:Stt):Int×Stt:=if s.2.1=16 then (0,s) else (s.2.1+1,(s.1,s.2.1+1,Jnk s.2.2.1 s.1,()))
theorem Jh6 (s:Stt) (h:s.1.length≤2147483648):J0y s=some s.1:=by
 unfold J0y Jj
 rw [J6b h,J6a]
theorem Jj2 (s:Stt) (h:StOk s):J11 s=some (Jfj s):=by
 obtain ⟨⟨h1,h2,_⟩,h3,h4,h5,h6⟩:=h
 unfold J11 Jfj Jnk
 by_cases c:s.2.1=16
 ·rw [J6e c,if_pos c]
 ·have e:J2t s.2.2.1=some s.2.2.1:=by unfold J2t; rw [J6b (by omega)]
  rw [J6c c,if_neg c,e,J6a,J6f (by omega) (by omega),Jh6 _ (by show s.1.length≤_; omega),J6a,J6b (by simp only [List.length_cons,List.length_nil]; omega)]
  have hl:(s.2.2.1++[s.1]).length=s.2.2.1.length+1:=by rw [List.length_append]; rfl
  show fork (decide ((6:Int) < ((s.2.2.1++[s.1]).length:Int))) (need (0≤(1:Int)∧(1:Int)≤((s.2.2.1++[s.1]).length:Int)∧((s.2.2.1++[s.1]).length:Int)≤((s.2.2.1++[s.1]).length:Int)) (some (s.2.1+1,(s.1,s.2.1+1,cutL (s.2.2.1++[s.1]) 1 ((s.2.2.1++[s.1]).length:Int),())))) (some (s.2.1+1,(s.1,s.2.1+1,s.2.2.1++[s.1],())))=_
  rw [hl]
  by_cases q:6 < s.2.2.1.length+1
  ·rw [J6e (by omega),J6b (by omega),if_pos q,← hl,J8v]; rfl
  ·rw [J6c (by omega),if_neg q]
theorem Jw3 (k:List (List Pr)) (l:List Pr) (h:k.length≤6):(Jnk k l).length=min (k.length+1) 6:=by
 unfold Jnk
 split
 ·rw [List.length_drop,List.length_append,List.length_cons,List.length_nil]; omega
 ·rw [List.length_append,List.length_cons,List.length_nil]; omega
theorem Jw4 {k:List (List Pr)} {l x:List Pr} (h:x ∈ Jnk k l):x ∈ k∨x=l:=by
 unfold Jnk at h
 have:x ∈ k++[l]:=by
  split at h
  ·exact List.mem_of_mem_drop h
  ·exact h
 rcases List.mem_append.1 this with h | h
 ·exact .inl h
 ·exact .inr (List.mem_singleton.1 h)
theorem Joo {s:Stt} (h:StOk s):StOk (Jfj s).2:=by
 obtain ⟨h1,h3,h4,h5,h6⟩:=h
 unfold Jfj
 by_cases c:s.2.1=16
 ·rw [if_pos c]; exact ⟨h1,h3,h4,h5,h6⟩
 ·rw [if_neg c]
  refine ⟨h1,by show 0≤s.2.1+1; omega,by show s.2.1+1≤16; omega,?_,fun l hl=>?_⟩
  ·show ((Jnk s.2.2.1 s.1).length:Int)=min (s.2.1+1) 6
   rw [Jw3 _ _ (by omega)]; omega
  ·rcases Jw4 hl with hl | rfl
   ·exact h6 l hl
   ·exact h1
def lowS (s:Stt):Int:=s.2.1 - (s.2.2.1.length:Int)+1
def atS (s:Stt) (n:Int):List Pr×Bool:=if n < lowS s∨s.2.1 < n then ([],false) else (s.2.2.1.getD (n - lowS s).toNat [],true)
theorem low_eq (s:Stt) (h:StOk s):J1q s=some (lowS s):=by
 obtain ⟨h1,h3,h4,h5,h6⟩:=h
 unfold J1q lowS
 rw [J6f (n:=s.2.1 - _) (by omega) (by omega),J6f (by omega) (by omega)]
theorem Jvq {k:List (List Pr)} (h:∀ l ∈ k,RowB l) (i:Nat):RowB (k.getD i []):=by
 by_cases c:i < k.length
 ·exact h _ (J7c c)
 ·rw [List.getD_eq_getElem?_getD,List.getElem?_eq_none (by omega)]
  exact Jao
theorem Jxw (s:Stt) (h:StOk s) (n:Int):J3m n s=some (atS s n):=by
 have hlow:=low_eq s h
 obtain ⟨h1,h3,h4,h5,h6⟩:=h
 have hl:lowS s=s.2.1 - (s.2.2.1.length:Int)+1:=rfl
 unfold J3m atS
 rw [hlow,J6a]
 by_cases c1:n < lowS s
 ·rw [J6e c1,if_pos (.inl c1)]
 ·rw [J6c c1]
  by_cases c2:s.2.1 < n
  ·rw [J6e c2,if_pos (.inr c2)]
  ·have:=(Jvq h6 (n - lowS s).toNat).2.1
   rw [J6c c2,if_neg (by omega),J6a,J6f (by omega) (by omega),J6b (by omega)]
   unfold Jj
   rw [J6b (by omega),J6a]
theorem Jja (a lo hi:Int) (h:lo≤hi) (h1:-1099511627776≤lo) (h2:hi≤1099511627776):∃ r,J0u a lo hi=some r∧lo≤r∧r≤hi:=by
 unfold J0u
 have hn:w64 (w64 (hi - lo)+1)=hi - lo+1:=by simp (disch:=omega) only [J6f]
 rw [hn,J6b (by omega)]
 have hb:Int.tmod a (hi - lo+1) < hi - lo+1∧-(hi - lo+1) < Int.tmod a (hi - lo+1):=by
  constructor
  ·exact Int.tmod_lt_of_pos a (by omega)
  ·have:=Int.tmod_lt_of_pos (-a) (b:=hi - lo+1) (by omega)
   rw [Int.neg_tmod] at this; omega
 generalize Int.tmod a (hi - lo+1)=t at hb
 by_cases ht:t < 0
 ·rw [J6e ht]
  simp (disch:=omega) only [J6f]
  exact ⟨_,rfl,by omega,by omega⟩
 ·rw [J6c ht]
  simp (disch:=omega) only [J6f]
  exact ⟨_,rfl,by omega,by omega⟩
def nm (i:Nat):List UInt8:=([[118,97],[118,98],[118,99],[118,100]]:List (List UInt8)).getD i []
def ky (i:Nat):List UInt8:=List.set (List.replicate 32 (0:UInt8)) 0 (UInt8.ofNat (Int.toNat (((i:Int)+1) % 256)))
def wv (a:Int):Int:=(J0u a 1 9).getD 1
theorem wv_eq (a:Int):J0u a 1 9=some (wv a)∧1≤wv a∧wv a≤9:=by
 obtain ⟨r,h,h1,h2⟩:=Jja a 1 9 (by omega) (by omega) (by omega)
 unfold wv; rw [h]; exact ⟨rfl,h1,h2⟩
def pw (ps:List Int) (i:Nat):Int:=if i < ps.length then wv (ps.getD i 0) else 1
theorem pw_b (ps:List Int) (i:Nat):1≤pw ps i∧pw ps i≤9:=by
 unfold pw; split
 ·exact (wv_eq _).2
 ·omega
def setN (ps:List Int):Nat:=max 1 (min 4 ps.length)
def Jpu (p:Nat→Int) (i:Nat):Val:=(nm i,p i,ky i,())
def setS (ps:List Int):List Val:=(List.range (setN ps)).map (Jpu (pw ps))
def Jg1 (ps:List Int) (i:Nat) (l:List Val):List Val:=if i=0∨i < ps.length then l++[Jpu (pw ps) i] else l
theorem K3d (ps:List Int):J74 (Jg1 ps) 0 4 []=setS ps:=by
 unfold setS setN
 simp only [J74,Jg1]
 by_cases h3:3 < ps.length
 ·rw [show max 1 (min 4 ps.length)=4 from by omega]; simp [h3,show 1 < ps.length from by omega,show 2 < ps.length from by omega,List.range_succ]
 ·by_cases h2:2 < ps.length
  ·rw [show max 1 (min 4 ps.length)=3 from by omega]; simp [h3,h2,show 1 < ps.length from by omega,List.range_succ]
  ·by_cases h1:1 < ps.length
   ·rw [show max 1 (min 4 ps.length)=2 from by omega]; simp [h3,h2,h1,List.range_succ]
   ·rw [show max 1 (min 4 ps.length)=1 from by omega]; simp [h3,h2,h1,List.range_succ]
theorem set_eq (ps:List Int) (hp:ps.length≤140737488351232):J08 ps=some (setS ps):=by
 unfold J08 J4g
 rw [J6a]
 have main:J08_1 ps 4 0 [] [[118,97],[118,98],[118,99],[118,100]]=some (J74 (Jg1 ps) 0 4 []):=by
  unfold J08_1
  refine J6l (step:=fun (s:Int×List Val)=>J08_1_step ps 4 s.1 s.2 [[118,97],[118,98],[118,99],[118,100]]) (fun i l=>((i:Int),l)) (Jg1 ps) (fun l=>l) 4 (fun i l=>l.length≤i) (fun i l hi hl=>⟨?_,?_⟩) (fun l hl=>?_) 4 0 [] (by omega) (by simp)
  ·show J08_1_step ps 4 (i:Int) l [[118,97],[118,98],[118,99],[118,100]]=_
   unfold J08_1_step
   have hlen:List.length [([118,97]:List UInt8),[118,98],[118,99],[118,100]]=4:=rfl
   have hw:=(wv_eq (ps.getD i 0)).1
   have ho:∀ x:Val,List.length [x]=1:=fun _=>rfl
   simp (disch:=omega) only [hlen,J6e,J6b,Int.toNat_natCast,J6f,hw,J6a,ho]
   unfold Jg1 Jpu pw
   by_cases h0:i=0
   ·rw [J6e (by omega),if_pos (Or.inl h0)]
    by_cases hc:i < ps.length
    ·rw [J6e (by omega),J6b (by omega),if_pos hc]; rfl
    ·rw [J6c (by omega),if_neg hc]; rfl
   ·rw [J6c (by omega)]
    by_cases hc:i < ps.length
    ·rw [J6e (by omega),J6b (by omega),if_pos (Or.inr hc),if_pos hc]; rfl
    ·rw [J6c (by omega),if_neg (by omega)]; rfl
  ·unfold Jg1
   split
   ·simp; omega
   ·omega
  ·show J08_1_step ps 4 4 l _=_
   unfold J08_1_step
   rfl
 show andThen (J08_1 ps 4 0 [] [[118,97],[118,98],[118,99],[118,100]]) _=_
 rw [main,J6a,K3d]
def K0p:List (List UInt8):=[[97],[97,98],[97,98,99],[98],[98,97],[115,47,97],[115,47,98],[115,47,99],[116],[117],[122],[122,122]]
def Jyi (l:List Pr):Prop:=J81 l∧l.length≤12∧(∀ p ∈ l,p.1 ∈ K0p)∧∀ p ∈ l,p.2.1.length≤8
theorem K0q:∀ k ∈ K0p,1≤k.length∧k.length≤3:=by decide
theorem row_kv {l:List Pr} (h:Jyi l):KvOk l:=⟨by have:=h.2.1; omega,fun p hp=>⟨by have:=K0q _ (h.2.2.1 p hp); omega,by have:=h.2.2.2 p hp; omega⟩⟩
theorem Ji5:∀ {a b:List Pr},J81 a→J81 b→(∀ q,q ∈ a↔q ∈ b)→a=b
 | [],[],_,_,_=>rfl
 | [],y::b,_,_,h=>by cases (h y).2 List.mem_cons_self
 | x::a,[],_,_,h=>by cases (h x).1 List.mem_cons_self
 | x::a,y::b,ha,hb,h=>by
  obtain ⟨a1,a2⟩:=List.pairwise_cons.1 ha
  obtain ⟨b1,b2⟩:=List.pairwise_cons.1 hb
  have e:x=y:=by
   rcases List.mem_cons.1 ((h x).1 List.mem_cons_self) with e | e
   ·exact e
   ·rcases List.mem_cons.1 ((h y).2 List.mem_cons_self) with e2 | e2
    ·exact e2.symm
    ·have:=J7y _ _ _ (b1 x e) (a1 y e2)
     rw [Jab] at this; cases this
  subst e
  congr 1
  refine Ji5 a2 b2 fun q=>⟨fun hq=>?_,fun hq=>?_⟩
  ·rcases List.mem_cons.1 ((h q).1 (List.mem_cons_of_mem _ hq)) with e | e
   ·have:=a1 q hq
    rw [e,Jab] at this; cases this
   ·exact e
  ·rcases List.mem_cons.1 ((h q).2 (List.mem_cons_of_mem _ hq)) with e | e
   ·have:=b1 q hq
    rw [e,Jab] at this; cases this
   ·exact e
theorem K31 {l:List Pr} (h:RowB l):KvOk l:=⟨by have:=h.2.1; omega,fun p hp=>by have:=h.2.2 p hp; omega⟩
def Jmu (n:Nat) (r:List UInt8):List UInt8:=sha (83::(oneS (n:Int)++r))
noncomputable def J9i (l:List Pr):List UInt8:=Jmu l.length (J8m (J6w l))
theorem Jxu (x0:List Pr) (x1:List Pr) (x2:Int) (x3:Int) (x4:List UInt8) (x5:List (List UInt8)):J0o_1_step x0 x1 x2 x3 x4 x5 =
  (fork (decide (x3 < x2)) (need (0≤x3∧x3 < (List.length x1:Int)) (andThen (J4p (List.getD x1 (Int.toNat x3) zPr)) (fun u4=>need (List.length x5+List.length ([u4]:List (List UInt8))≤2147483648) (some (.inl ((w64 (x3+(1:Int))),(x5++([u4]:List (List UInt8))))))))) (some (.inr (x0,x4,x5))):Option ((Int×List (List UInt8))⊕((List Pr)×List UInt8×List (List UInt8)))):=rfl
theorem Jj3 (l:List Pr) (h:KvOk l):J0o l=some (J9i l):=by
 have hl:=h.1
 have m1:J0o_1 l l (l.length:Int) 0 (List.replicate 32 0) []=some (l,List.replicate 32 0,J6w l):=by
  unfold J0o_1
  have:=J6l (step:=fun (s:Int×List (List UInt8))=>J0o_1_step l l (l.length:Int) s.1 (List.replicate 32 0) s.2) (fun i (_:Unit)=>((i:Int),J6w (l.take i))) (fun _ _=>()) (fun _=>(l,List.replicate 32 0,J6w l)) l.length (fun _ _=>True) (fun i w hi _=>⟨?_,trivial⟩) (fun w _=>?_) l.length 0 () (by omega) trivial
  ·exact this
  ·show J0o_1_step l l (l.length:Int) (i:Int) (List.replicate 32 0) (J6w (l.take i))=_
   rw [Jxu,J6e (by omega),J6b (by omega),Int.toNat_natCast,Jpr _ (h.2 _ (J7c hi)),J6a,J6b (by rw [J7d,List.length_take]; simp only [List.length_cons,List.length_nil]; omega),Jge l hi,J6f (by omega) (by omega)]
   rfl
  ·show J0o_1_step l l (l.length:Int) (l.length:Int) (List.replicate 32 0) (J6w (l.take l.length))=_
   rw [Jxu,J6c (by omega),List.take_of_length_le (Nat.le_refl _)]
 have hp:putS [(l.length:Int)]=oneS l.length:=by simp [putS]
 have h1:=J7q (l.length:Int)
 have h2:=J7w (J6w l)
 have hf:[oneS (l.length:Int),J8m (J6w l)].flatten=oneS (l.length:Int)++J8m (J6w l):=by simp
 unfold J0o
 rw [m1,J6a]
 dsimp only
 rw [Jm5 _ (by rw [J7d]; omega) (Jer h),J6a,put_eq _ (by simp),J6a,hp,J7s _ _ (by rw [hf,List.length_append]; omega) (by simp),hf]
 rfl
theorem Jtm (a b:List Pr) (hl:a.length=b.length) {ρ:Type} (r r0:ρ) (hr:r≠r0):scan (fun i=>if a.getD i zPr=b.getD i zPr then none else some r) r0 0 a.length=if a=b then r0 else r:=by
 by_cases e:a=b
 ·subst e
  rw [if_pos rfl]
  exact Jbc _ _ (fun j _ _=>if_pos rfl)
 ·rw [if_neg e]
  have:∃ j,j < a.length∧a.getD j zPr≠b.getD j zPr:=by
   apply Classical.byContradiction
   intro hn
   apply e
   apply List.ext_getElem hl
   intro i h1 h2
   apply Classical.byContradiction
   intro hne
   exact hn ⟨i,h1,by rw [List.getD_eq_getElem?_getD,List.getD_eq_getElem?_getD,List.getElem?_eq_getElem h1,List.getElem?_eq_getElem h2]; exact hne⟩
  obtain ⟨j,hj⟩:=Nat.find_of this
  refine Jaa a.length 0 j (Nat.zero_le _) (by omega) (fun j' _ h=>if_pos ?_) (if_neg hj.1.2)
  exact Classical.byContradiction fun hne=>hj.2 j' h ⟨by omega,hne⟩
theorem Jlv (x0:List Pr) (x1:List Pr) (x2:Int) (x3:Int):Jp_1_step x0 x1 x2 x3 =
  (fork (decide (x3 < x2)) (need (0≤x3∧x3 < (List.length x0:Int)) (need (0≤x3∧x3 < (List.length x1:Int)) (fork (!(Ty.beq (.fld .str (.fld .str .unit)) (List.getD x0 (Int.toNat x3) zPr) (List.getD x1 (Int.toNat x3) zPr))) (some (.inr (.inl false))) (some (.inl (w64 (x3+(1:Int)))))))) (some (.inr (.inr ()))):Option ((Int)⊕((Bool)⊕(Unit)))):=rfl
theorem Jo5 (a b:List Pr) (ha:a.length≤1073741824):Jp a b=some (decide (a=b)):=by
 by_cases hl:a.length=b.length
 ·have h:Jp_1 a b (a.length:Int) 0=some (scan (fun i=>if a.getD i zPr=b.getD i zPr then none else some (.inl false)) (.inr ()) 0 a.length):=by
   unfold Jp_1
   refine J8y (step:=fun (s:Int)=>Jp_1_step a b (a.length:Int) s) (fun i=>(i:Int)) _ _ a.length (fun i hi h=>?_) (fun i r hi h=>?_) ?_ a.length 0 (by omega)
   ·rw [Jlv,J6e (by omega),J6b (by omega),J6b (by omega),Int.toNat_natCast,pbeq,J6f (by omega) (by omega)]
    by_cases e:a.getD i zPr=b.getD i zPr
    ·rw [J9k e]; rfl
    ·rw [if_neg e] at h; cases h
   ·rw [Jlv,J6e (by omega),J6b (by omega),J6b (by omega),Int.toNat_natCast,pbeq]
    by_cases e:a.getD i zPr=b.getD i zPr
    ·rw [if_pos e] at h; cases h
    ·rw [if_neg e] at h; injection h with h; subst h; rw [Jbm e]
   ·rw [Jlv,J6c (by omega)]
  unfold Jp
  rw [J9k (by omega),h,J6a,Jtm a b hl _ _ (by simp)]
  by_cases e:a=b
  ·rw [if_pos e,decide_eq_true e]
  ·rw [if_neg e,decide_eq_false e]
 ·unfold Jp
  rw [Jbm (by omega),decide_eq_false (fun e=>hl (by rw [e]))]
abbrev hq (a b:List UInt8):Bool:=Ty.beq (.arr 32 (.int .u8)) a b
theorem K0j (a b:List UInt8):hq a b=true↔a=b:=Ty.beq_iff (.arr 32 (.int .u8)) rfl a b
def okP (l:List Pr) (i:Nat):Bool:=mayP (l.getD i zPr) && (i == 0 || J6t (l.getD (i - 1) zPr).1 (l.getD i zPr).1)
def J96 (l:List Pr):Bool:=(List.range l.length).all (okP l) && decide (l.length≤30)
theorem Jw7 (x0:List Pr) (x1:List Pr) (x2:Int) (x3:Int):J18_1_step x0 x1 x2 x3 =
  (fork (decide (x3 < x2)) (need (0≤x3∧x3 < (List.length x1:Int)) (andThen (J5r (List.getD x1 (Int.toNat x3) zPr)) (fun u4=>fork (!u4) (some (.inr (.inl false))) (fork (decide ((0:Int) < x3)) (need (0≤(w64 (x3 - (1:Int)))∧(w64 (x3 - (1:Int))) < (List.length x0:Int)) (fork (!J6t (List.getD x0 (Int.toNat (w64 (x3 - (1:Int)))) zPr).1 (List.getD x1 (Int.toNat x3) zPr).1) (some (.inr (.inl false))) (some (.inl (w64 (x3+(1:Int))))))) (some (.inl (w64 (x3+(1:Int))))))))) (some (.inr (.inr x0))):Option ((Int)⊕((Bool)⊕(List Pr)))):=rfl
theorem Ji4 (l:List Pr) (hl:l.length≤1073741824):J18 l=some (J96 l):=by
 have main:J18_1 l l (l.length:Int) 0=some (scan (fun i=>if okP l i then none else some (.inl false)) (.inr l) 0 l.length):=by
  unfold J18_1
  have step:∀ i,i < l.length→J18_1_step l l (l.length:Int) (i:Int)=if okP l i then some (.inl ((i+1:Nat):Int)) else some (.inr (.inl false)):=by
   intro i hi
   rw [Jw7]
   simp (disch:=omega) only [J6e,J6f,J6b,Int.toNat_natCast,Jwg,J6a]
   unfold okP
   by_cases hm:mayP (l.getD i zPr)
   ·rw [hm]
    rw [show (!true)=false from rfl,J6k,Bool.true_and]
    by_cases h0:i=0
    ·subst h0; rw [J6c (by omega)]; rfl
    ·rw [J6e (by omega),J6b (by omega),show Int.toNat ((i:Int) - 1)=i - 1 from by omega]
     have:(i == 0)=false:=by simp [h0]
     rw [this,Bool.false_or]
     by_cases hs:J6t (l.getD (i - 1) zPr).1 (l.getD i zPr).1
     ·rw [hs]; rfl
     ·rw [Bool.not_eq_true] at hs; rw [hs]; rfl
   ·rw [Bool.not_eq_true] at hm; rw [hm]; rfl
  refine J8y (step:=fun (s:Int)=>J18_1_step l l (l.length:Int) s) (fun i=>(i:Int)) _ _ l.length (fun i hi h=>?_) (fun i r hi h=>?_) ?_ l.length 0 (by omega)
  ·by_cases hk:okP l i
   ·exact (step i hi).trans (if_pos hk)
   ·rw [if_neg hk] at h; cases h
  ·by_cases hk:okP l i
   ·rw [if_pos hk] at h; cases h
   ·rw [if_neg hk] at h; injection h with h; subst h
    exact (step i hi).trans (if_neg hk)
  ·rw [Jw7,J6c (by omega)]
 unfold J18
 rw [main,J6a]
 unfold J96
 by_cases hall:(List.range l.length).all (okP l)
 ·rw [Jbc _ _ (fun j _ h=>if_pos (List.all_eq_true.1 hall j (by simp; omega))),hall,Bool.true_and]
  dsimp only
  congr 1
  exact decide_eq_decide.2 (by omega)
 ·rw [Bool.not_eq_true] at hall
  have:∃ j,j < l.length∧okP l j=false:=by
   rw [List.all_eq_false] at hall
   obtain ⟨j,hj,hk⟩:=hall
   exact ⟨j,by simpa using hj,by simpa using hk⟩
  obtain ⟨j,hj⟩:=Nat.find_of this
  have hsc:scan (fun i=>if okP l i then none else some (.inl false)) (.inr l:Bool⊕List Pr) 0 l.length=.inl false:=by
   refine Jaa l.length 0 j (Nat.zero_le _) (by omega) (fun j' _ h=>if_pos ?_) (if_neg ?_)
   ·have:=hj.2 j' h
    cases hk:okP l j' with
    | true=>rfl
    | false=>exact absurd ⟨by omega,hk⟩ this
   ·rw [hj.1.2]; simp
  rw [hall,hsc]
  rfl
theorem Jba (l:List Pr):J96 l=true↔J81 l∧(∀ p ∈ l,mayP p=true)∧l.length≤30:=by
 have e:∀ j,(l.map (·.1)).getD j []=(l.getD j zPr).1:=fun j=>by
  rw [List.getD_eq_getElem?_getD,List.getD_eq_getElem?_getD,List.getElem?_map]
  cases l[j]? <;> rfl
 unfold J96
 rw [Bool.and_eq_true,decide_eq_true_eq]
 constructor
 ·rintro ⟨h1,h2⟩
  have key0:∀ i,i < l.length→okP l i=true:=fun i hi=>List.all_eq_true.1 h1 i (List.mem_range.2 hi)
  have hinc:incN (l.map fun p:Pr=>p.1)=true:=by
   refine List.all_eq_true.2 fun i hi=>?_
   have hi:=List.mem_range.1 hi
   rw [List.length_map] at hi
   have:=key0 (i+1) (by omega)
   unfold okP at this
   simp only [Bool.and_eq_true,Bool.or_eq_true,beq_iff_eq] at this
   have t:=this.2.resolve_left (by omega)
   rw [Nat.add_sub_cancel] at t
   rw [e,e]; exact t
  refine ⟨List.pairwise_map.1 (Jni _ hinc),fun p hp=>?_,h2⟩
  ·obtain ⟨i,hi,rfl⟩:=List.getElem_of_mem hp
   have:=key0 i hi
   unfold okP at this
   rw [Bool.and_eq_true,List.getD_eq_getElem?_getD,List.getElem?_eq_getElem hi] at this
   exact this.1
 ·rintro ⟨h1,h2,h3⟩
  refine ⟨List.all_eq_true.2 fun i hi=>?_,h3⟩
  have hi:=List.mem_range.1 hi
  unfold okP
  rw [Bool.and_eq_true,Bool.or_eq_true,beq_iff_eq]
  refine ⟨h2 _ (J7c hi),?_⟩
  by_cases c:i=0
  ·exact .inl c
  ·exact .inr (Jep h1 (by omega) hi)
theorem mayP_b {p:Pr} (h:mayP p=true):1≤p.1.length∧p.1.length≤16∧p.2.1.length≤24:=by
 unfold mayP at h
 simp only [Bool.and_eq_true,Bool.not_eq_true',decide_eq_true_eq,decide_eq_false_iff_not,← List.length_eq_zero_iff] at h
 omega
theorem Jf3 {l:List Pr} (h:J96 l=true):KvOk l∧J81 l:=by
 obtain ⟨h1,h2,h3⟩:=(Jba l).1 h
 exact ⟨⟨by omega,fun p hp=>by have:=mayP_b (h2 p hp); omega⟩,h1⟩
noncomputable def Jh2 (p:Prf) (i:Nat):List UInt8×Bool:=upS (Jdy (p.2.2.1.getD i zPr)) (p.2.1+(i:Int)) p.1 (p.2.2.2.1.getD i [])
noncomputable def Jaw (root:List UInt8) (p:Prf) (i:Nat):Bool:=(Jh2 p i).2 && hq (Jmu p.1.toNat (Jh2 p i).1) root
noncomputable def J9q (root:List UInt8) (p:Prf):Bool:=
 decide (0≤p.1∧p.1≤30∧p.2.2.2.1.length=p.2.2.1.length) && (J96 p.2.2.1 && (decide (0≤p.2.1∧p.2.1≤p.1 - (p.2.2.1.length:Int)) && (if p.1=0 then hq root (J9i []) else (decide (0 < p.2.2.1.length) && (List.range p.2.2.1.length).all (Jaw root p)))))
def Jkm (p:Prf):Prop:=(∀ x ∈ p.2.2.2.1,x.length≤1000∧∀ h ∈ x,h.length=32)∧p.2.2.1.length≤1000000∧p.2.2.2.1.length≤1000000
theorem upS_32 (leaf:List UInt8) (i n:Int) (p:List (List UInt8)):(upS leaf i n p).1.length=32:=by
 unfold upS
 split
 ·exact Jku _ _ _ (J7x _)
 ·simp
theorem Jv5 (n:Nat) (r:List UInt8) (hr:r.length=32):J4m (n:Int) r=some (Jmu n r):=by
 have hp:putS [(n:Int)]=oneS n:=by simp [putS]
 have h1:=J7q (n:Int)
 have hf:[oneS (n:Int),r].flatten=oneS (n:Int)++r:=by simp
 unfold J4m
 rw [put_eq _ (by simp),J6a,hp,J7s _ _ (by rw [hf,List.length_append]; omega) (by simp),hf]
 rfl
theorem Jv2 (x0:List Pr) (x1:Int) (x2:Int) (x3:List UInt8) (x4:Prf):J0v_1_step x0 x1 x2 x3 x4 =
  (fork (decide (x2 < x1)) (need (0≤x2∧x2 < (List.length x0:Int)) (andThen (J4p (List.getD x0 (Int.toNat x2) zPr)) (fun u16=>need (0≤x2∧x2 < (List.length x4.2.2.2.1:Int)) (andThen (J2e u16 (w64 (x4.2.1+x2)) x4.1 (List.getD x4.2.2.2.1 (Int.toNat x2) ([]:List (List UInt8)))) (fun u19=>fork (!u19.2) (some (.inr (.inl ()))) (andThen (J4m x4.1 u19.1) (fun u22=>fork (!(Ty.beq (.arr 32 (.int .u8)) u22 x3)) (some (.inr (.inl ()))) (some (.inl (w64 (x2+(1:Int)))))))))))) (some (.inr (.inr ()))):Option ((Int)⊕((Unit)⊕(Unit)))):=rfl
theorem Kn {ρ:Type} (f:Nat→Bool) (r r0:ρ) (n:Nat):scan (fun i=>if f i then none else some r) r0 0 n=if (List.range n).all f then r0 else r:=by
 by_cases h:(List.range n).all f=true
 ·rw [if_pos h]
  exact Jbc _ _ fun j _ hj=>if_pos (List.all_eq_true.1 h j (List.mem_range.2 (by omega)))
 ·rw [if_neg h]
  rw [Bool.not_eq_true,List.all_eq_false] at h
  obtain ⟨j,hj,hf⟩:=h
  obtain ⟨k,hk⟩:=Nat.find_of (p:=fun j=>j < n∧¬ f j=true) ⟨j,List.mem_range.1 hj,hf⟩
  refine Jaa n 0 k (Nat.zero_le _) (by omega) (fun j' _ h=>if_pos ?_) (if_neg hk.1.2)
  exact Classical.byContradiction fun q=>hk.2 j' h ⟨by omega,q⟩
theorem K2g {p:Prf} (h:Jkm p) (i:Nat):(∀ x ∈ p.2.2.2.1.getD i [],x.length=32)∧(p.2.2.2.1.getD i []).length≤100000:=by
 by_cases c:i < p.2.2.2.1.length
 ·have:=h.1 _ (J7c (z:=[]) c)
  exact ⟨this.2,by omega⟩
 ·rw [List.getD_eq_getElem?_getD,List.getElem?_eq_none (by omega)]; simp
theorem Jee (root:List UInt8) (p:Prf) (h:Jkm p):J0v root p=some (J9q root p):=by
 have hn:=h.2.1
 unfold J0v J9q
 by_cases c1:p.1 < 0
 ·rw [J6e c1,decide_eq_false (fun q=>absurd q.1 (by omega))]; rfl
 rw [J6c c1]
 by_cases c2:30 < p.1
 ·rw [J6e c2,decide_eq_false (fun q=>absurd q.2.1 (by omega))]; rfl
 rw [J6c c2]
 by_cases c3:p.2.2.2.1.length=p.2.2.1.length
 case neg=>rw [Jbm (by omega),decide_eq_false (fun q=>c3 q.2.2)]; rfl
 rw [J9k (by omega),Ji4 _ (by omega),J6a,decide_eq_true (p:=0≤p.1∧p.1≤30∧p.2.2.2.1.length=p.2.2.1.length) ⟨by omega,by omega,c3⟩,Bool.true_and]
 cases c4:J96 p.2.2.1 with
 | false=>rfl
 | true=>
  obtain ⟨hk,hr⟩:=Jf3 c4
  have hl:=hk.1
  rw [Bool.not_true,J6k,Bool.true_and]
  by_cases c5:p.2.1 < 0
  ·rw [J6e c5,decide_eq_false (fun q=>absurd q.1 (by omega))]; rfl
  rw [J6c c5,J6f (by omega) (by omega)]
  by_cases c6:p.1 - (p.2.2.1.length:Int) < p.2.1
  ·rw [J6e c6,decide_eq_false (fun q=>absurd q.2 (by omega))]; rfl
  rw [J6c c6,decide_eq_true (p:=0≤p.2.1∧p.2.1≤p.1 - (p.2.2.1.length:Int)) ⟨by omega,by omega⟩,Bool.true_and]
  by_cases c7:p.1=0
  ·rw [J6e c7,if_pos c7,Jj3 [] ⟨by simp,by simp⟩,J6a]
  rw [J6c c7,if_neg c7]
  by_cases c8:p.2.2.1.length=0
  ·rw [J6e (by omega),decide_eq_false (by omega)]; rfl
  rw [J6c (by omega),decide_eq_true (p:=0 < p.2.2.1.length) (by omega),Bool.true_and]
  have m:J0v_1 p.2.2.1 (p.2.2.1.length:Int) 0 root p=some (scan (fun i=>if Jaw root p i then none else some (.inl ())) (.inr ()) 0 p.2.2.1.length):=by
   unfold J0v_1
   have step:∀ i,i < p.2.2.1.length→J0v_1_step p.2.2.1 (p.2.2.1.length:Int) (i:Int) root p=if Jaw root p i then some (.inl ((i+1:Nat):Int)) else some (.inr (.inl ())):=by
    intro i hi
    obtain ⟨po1,po2⟩:=K2g h i
    have hlf:=hk.2 _ (J7c (z:=zPr) hi)
    have hlb:=Jno hlf
    have hnum:p.1=((p.1.toNat:Nat):Int):=by omega
    have hw:J4m p.1 (upS (Jdy (p.2.2.1.getD i zPr)) (p.2.1+(i:Int)) p.1 (p.2.2.2.1.getD i [])).1=some (Jmu p.1.toNat (upS (Jdy (p.2.2.1.getD i zPr)) (p.2.1+(i:Int)) p.1 (p.2.2.2.1.getD i [])).1):=by
     have:=Jv5 p.1.toNat _ (upS_32 (Jdy (p.2.2.1.getD i zPr)) (p.2.1+(i:Int)) p.1 (p.2.2.2.1.getD i []))
     rw [← hnum] at this; exact this
    rw [Jv2,J6e (by omega),J6b (by omega),Int.toNat_natCast,Jpr _ hlf,J6a,J6b (by omega),J6f (n:=p.2.1+(i:Int)) (by omega) (by omega),up_eq _ (by omega) _ _ (by omega) _ po1 po2,J6a,hw,J6a,J6f (by omega) (by omega)]
    unfold Jaw Jh2
    cases (upS (Jdy (p.2.2.1.getD i zPr)) (p.2.1+(i:Int)) p.1 (p.2.2.2.1.getD i [])).2 with
    | false=>rfl
    | true=>
     rw [Bool.not_true,J6k,Bool.true_and]
     unfold hq
     cases Ty.beq (.arr 32 (.int .u8)) (Jmu p.1.toNat (upS (Jdy (p.2.2.1.getD i zPr)) (p.2.1+(i:Int)) p.1 (p.2.2.2.1.getD i [])).1) root <;> rfl
   refine J8y (step:=fun (s:Int)=>J0v_1_step p.2.2.1 (p.2.2.1.length:Int) s root p) (fun i=>(i:Int)) _ _ p.2.2.1.length (fun i hi h=>?_) (fun i r hi h=>?_) ?_ p.2.2.1.length 0 (by omega)
   ·by_cases hk:Jaw root p i
    ·exact (step i hi).trans (if_pos hk)
    ·rw [if_neg hk] at h; cases h
   ·by_cases hk:Jaw root p i
    ·rw [if_pos hk] at h; cases h
    ·rw [if_neg hk] at h; injection h with h; subst h
     exact (step i hi).trans (if_neg hk)
   ·rw [Jv2,J6c (by omega)]
  rw [m,J6a,Kn]
  cases (List.range p.2.2.1.length).all (Jaw root p) <;> rfl
theorem Js9 {root:List UInt8} {p:Prf} (h:J9q root p=true):KvOk p.2.2.1∧J81 p.2.2.1:=by
 unfold J9q at h
 rw [Bool.and_eq_true,Bool.and_eq_true] at h
 exact Jf3 h.2.1
theorem Jxr {root:List UInt8} {p:Prf} (h:J9q root p=true):0≤p.1∧p.1≤30∧0≤p.2.1∧p.2.1≤p.1 - (p.2.2.1.length:Int)∧(p.2.2.1.length=0↔p.1=0):=by
 unfold J9q at h
 simp only [Bool.and_eq_true,decide_eq_true_eq] at h
 obtain ⟨⟨h1,h2,_⟩,_,⟨h3,h4⟩,h5⟩:=h
 refine ⟨h1,h2,h3,h4,fun e=>?_,fun e=>by omega⟩
 apply Classical.byContradiction
 intro c
 rw [if_neg c,Bool.and_eq_true,decide_eq_true_eq] at h5
 omega
def inR (a b:List UInt8) (p:Pr):Bool:=!J6t p.1 a && J6t p.1 b
def J9p (l:List Pr) (a b:List UInt8):List Pr:=l.filter (inR a b)
theorem Jzs {l:List Pr} {a b:Nat} {q:Pr}:q ∈ cutL l (a:Int) (b:Int)↔∃ i,a≤i∧i < b∧i < l.length∧l.getD i zPr=q:=by
 unfold cutL
 rw [Int.toNat_natCast,Int.toNat_natCast]
 constructor
 ·intro h
  obtain ⟨i,h1,h2,h3⟩:=Jgg h
  rw [List.length_take] at h2
  rw [List.getD_eq_getElem?_getD,List.getElem?_take,if_pos (by omega),← List.getD_eq_getElem?_getD] at h3
  exact ⟨i,h1,by omega,by omega,h3⟩
 ·rintro ⟨i,h1,h2,h3,rfl⟩
  have e:(l.take b).drop a=(l.drop a).take (b - a):=by rw [List.drop_take]
  have hm:((l.take b).drop a).getD (i - a) zPr=l.getD i zPr:=by
   rw [List.getD_eq_getElem?_getD,List.getD_eq_getElem?_getD,List.getElem?_drop,List.getElem?_take,if_pos (by omega)]
   congr 2; omega
  rw [← hm]
  exact J7c (by rw [List.length_drop,List.length_take]; omega)
theorem Jk1 (l:List Pr) (hr:J81 l) (hl:l.length≤1000) (a b:List UInt8):J40 l a b=some (J9p l a b):=by
 have h1:=below_le l a
 have h2:=below_le l b
 have e:cutL l ((J6h l a:Nat):Int) ((max (J6h l a) (J6h l b):Nat):Int)=J9p l a b:=by
  refine Ji5 ?_ (hr.sublist List.filter_sublist) fun q=>?_
  ·unfold cutL
   exact (hr.sublist (List.take_sublist _ _)).sublist (List.drop_sublist _ _)
  ·rw [Jzs]
   unfold J9p inR
   rw [List.mem_filter,Bool.and_eq_true,Bool.not_eq_true']
   constructor
   ·rintro ⟨i,g1,g2,g3,rfl⟩
    refine ⟨J7c g3,?_,(J8d hr b g3).2 (by omega)⟩
    cases c:J6t (l.getD i zPr).1 a with
    | false=>rfl
    | true=>have:=(J8d hr a g3).1 c; omega
   ·rintro ⟨g1,g2,g3⟩
    obtain ⟨i,hi,rfl⟩:=List.getElem_of_mem g1
    have hg:l.getD i zPr=l[i]:=by rw [List.getD_eq_getElem?_getD,List.getElem?_eq_getElem hi]; rfl
    rw [← hg] at g2 g3
    have:=(J8d hr b hi).1 g3
    refine ⟨i,?_,by omega,hi,hg⟩
    apply Classical.byContradiction
    intro c
    rw [(J8d hr a hi).2 (by omega)] at g2; cases g2
 unfold J40
 rw [Jci l hr hl,J6a,Jci l hr hl,J6a,show max (J6h l a:Int) (J6h l b:Int)=((max (J6h l a) (J6h l b):Nat):Int) from by omega,J6b (by omega),e]
 unfold Jj
 have hle:(J9p l a b).length≤l.length:=List.length_filter_le _ _
 rw [J6b (by omega),J6a]
def Jko (p:Prf) (a:List UInt8):Bool:=decide (p.2.1=0) || J6t (p.2.2.1.getD 0 zPr).1 a
def Jyz (p:Prf) (m:List UInt8):Bool:=decide (p.2.1+(p.2.2.1.length:Int)=p.1) || !J6t (p.2.2.1.getD (p.2.2.1.length - 1) zPr).1 m
noncomputable def Ja8 (root a b:List UInt8) (p:Prf):List Pr×Bool:=
 if J9q root p then (if p.2.2.1.length=0 then ([],true) else if Jko p a && Jyz p (maxS a b) then (J9p p.2.2.1 a b,true) else ([],false)) else ([],false)
theorem Jed (root a b:List UInt8) (p:Prf) (h:Jkm p):J4l root a b p=some (Ja8 root a b p):=by
 unfold J4l Ja8
 rw [Jee root p h,J6a]
 cases hs:J9q root p with
 | false=>rfl
 | true=>
  obtain ⟨hk,hr⟩:=Js9 hs
  have hl:=hk.1
  obtain ⟨n1,n2,n3,n4,n5⟩:=Jxr hs
  rw [Bool.not_true,J6k,if_pos rfl,Jk1 _ hr (by omega),J6a]
  by_cases c:p.2.2.1.length=0
  ·rw [J6e (by omega),if_pos c]
  rw [J6c (by omega),if_neg c,J6f (n:=p.2.1+_) (by omega) (by omega),J6f (by omega) (by omega),J6b (by omega),J6b (by omega),show Int.toNat ((p.2.2.1.length:Int) - 1)=p.2.2.1.length - 1 from by omega,show Int.toNat (0:Int)=0 from rfl]
  unfold Jko Jyz
  by_cases c1:p.2.1=0
  ·rw [J6e c1,decide_eq_true c1,Bool.true_or,Bool.true_and]
   by_cases c2:p.2.1+(p.2.2.1.length:Int)=p.1
   ·rw [J6e c2,decide_eq_true c2]; rfl
   ·rw [J6c c2,decide_eq_false c2,Bool.false_or]
    show fork (!(!J6t (p.2.2.1.getD (p.2.2.1.length - 1) zPr).1 (maxS a b))) _ _=_
    cases J6t (p.2.2.1.getD (p.2.2.1.length - 1) zPr).1 (maxS a b) <;> rfl
  ·rw [J6c c1,decide_eq_false c1,Bool.false_or]
   by_cases c2:p.2.1+(p.2.2.1.length:Int)=p.1
   ·rw [J6e c2,decide_eq_true c2,Bool.true_or,Bool.and_true]
    show fork (!J6t (p.2.2.1.getD 0 zPr).1 a) _ _=_
    cases J6t (p.2.2.1.getD 0 zPr).1 a <;> rfl
   ·rw [J6c c2,decide_eq_false c2,Bool.false_or,J6b (by omega)]
    show fork (!J6t (p.2.2.1.getD 0 zPr).1 a) _ (fork (!(!J6t (p.2.2.1.getD (p.2.2.1.length - 1) zPr).1 (maxS a b))) _ _)=_
    cases J6t (p.2.2.1.getD 0 zPr).1 a <;> cases J6t (p.2.2.1.getD (p.2.2.1.length - 1) zPr).1 (maxS a b) <;> rfl
theorem Jo8 {root a b:List UInt8} {p:Prf} (h:(Ja8 root a b p).2=true):J9q root p=true:=by
 unfold Ja8 at h
 cases hs:J9q root p with
 | true=>rfl
 | false=>rw [hs,if_neg (by simp)] at h; cases h
noncomputable def absS (root k:List UInt8) (p:Prf):Bool:=(Ja8 root k k p).2 && !isAt p.2.2.1 k
theorem Jje (root k:List UInt8) (p:Prf) (h:Jkm p):J52 root k p=some (absS root k p):=by
 unfold J52 absS
 rw [Jed root k k p h,J6a]
 cases hs:(Ja8 root k k p).2 with
 | false=>rfl
 | true=>
  obtain ⟨hk,hr⟩:=Js9 (Jo8 hs)
  have hl:=hk.1
  rw [Bool.not_true,J6k,Jfo _ hr (by omega),J6a,Bool.true_and]
  cases isAt p.2.2.1 k <;> rfl
noncomputable def Jjt (root:List UInt8) (x:Pr) (p:Prf):Bool:=J9q root p && decide (p.2.2.1=[x])
theorem Jkt (root:List UInt8) (x:Pr) (p:Prf) (h:Jkm p):J4x root x p=some (Jjt root x p):=by
 have:=h.2.1
 unfold J4x Jjt
 rw [Jee root p h,J6a]
 cases J9q root p with
 | false=>rfl
 | true=>rw [J7l,Jo5 _ _ (by omega),J6a,Bool.true_and]
theorem Js8 (l:List Pr) (h:KvOk l) (F T:Nat) (hT:T≤1000):Jkm (J86 l F T):=by
 have hl:=h.1
 unfold J86
 by_cases c:T≤F
 ·rw [if_pos c]; exact ⟨by simp,by simp,by simp⟩
 ·rw [if_neg c]
  obtain ⟨a,b⟩:=Jrn l hl F (T - F)
  refine ⟨fun x hx=>⟨by have:=b x hx; omega,?_⟩,by show ((l.drop F).take (T - F)).length≤_; rw [List.length_take,List.length_drop]; omega,by show (J95 l F (T - F)).length≤_; omega⟩
  obtain ⟨j,_,rfl⟩:=List.mem_map.1 hx
  unfold Jb8
  split
  ·exact Jh1 _ _ _
  ·simp
theorem K3m (l:List Pr) (hl:l.length≤60) (i:Nat) (hi:i < l.length):upS (Jdy (l.getD i zPr)) (i:Int) (l.length:Int) (Jb8 (J6w l) (i:Int))=(J8m (J6w l),true):=by
 have hg:(J6w l).getD i []=Jdy (l.getD i zPr):=by
  unfold J6w
  rw [List.getD_eq_getElem?_getD,List.getD_eq_getElem?_getD,List.getElem?_map,List.getElem?_eq_getElem hi]; rfl
 have hp:=Jlu l.length (J6w l) i (by rw [J7d]; omega) (by rw [J7d]; omega) (by rw [J7d]; omega)
 have hs:=J9y l.length (J6w l) i (by rw [J7d]; omega)
 rw [J7d,hg] at hp
 rw [J7d] at hs
 have e:Jb8 (J6w l) (i:Int)=J83 l.length (J6w l) i:=by
  unfold Jb8
  rw [J7d,if_pos (by omega),Int.toNat_natCast]
 unfold upS
 rw [e,if_pos ⟨(Jln _ _).2 (by omega),by rw [Int.toNat_natCast,Int.toNat_natCast]; exact hs⟩,Int.toNat_natCast,Int.toNat_natCast,hp]
theorem Jxe {l:List Pr} (h:Jyi l):J96 l=true:=by
 rw [Jba]
 refine ⟨h.1,fun p hp=>?_,by have:=h.2.1; omega⟩
 have:=K0q _ (h.2.2.1 p hp)
 have h3:=h.2.2.2 p hp
 unfold mayP
 have hne:p.1≠[]:=fun e=>by rw [e] at this; simp at this
 simp only [Bool.and_eq_true,Bool.not_eq_true',decide_eq_true_eq,decide_eq_false_iff_not]
 exact ⟨hne,by omega,by omega⟩
theorem Jiw {l m:List Pr} (h:J96 l=true) (hs:m.Sublist l):J96 m=true:=by
 obtain ⟨h1,h2,h3⟩:=(Jba l).1 h
 exact (Jba m).2 ⟨h1.sublist hs,fun p hp=>h2 p (hs.subset hp),Nat.le_trans hs.length_le h3⟩
theorem Jac (l:List Pr) {F T:Nat} (h:F < T):J86 l F T=((l.length:Int),(F:Int),(l.drop F).take (T - F),J95 l F (T - F),()):=by unfold J86; rw [if_neg (by omega)]
theorem Jtv (root:List UInt8) (l:List Pr) (h:J96 l=true) (F T:Nat) (hT:T≤l.length):J9q root (J86 l F T)=if l.length=0 then hq root (J9i []) else decide (F < T) && hq (J9i l) root:=by
 obtain ⟨hk,hr⟩:=Jf3 h
 have h30:=((Jba l).1 h).2.2
 by_cases c:F < T
 ·have e1:((l.drop F).take (T - F)).length=T - F:=by rw [List.length_take,List.length_drop]; omega
  obtain ⟨e2,e3⟩:=Jrn l hk.1 F (T - F)
  have hat:∀ i,i < T - F→Jaw root (J86 l F T) i=hq (J9i l) root:=fun i hi=>by
   have g1:((l.drop F).take (T - F)).getD i zPr=l.getD (F+i) zPr:=by
    rw [List.getD_eq_getElem?_getD,List.getD_eq_getElem?_getD,List.getElem?_take,if_pos hi,List.getElem?_drop]
   have g2:(J95 l F (T - F)).getD i []=Jb8 (J6w l) ((F+i:Nat):Int):=by
    unfold J95
    rw [List.getD_eq_getElem?_getD,List.getElem?_map,List.getElem?_range hi]; rfl
   have hu:=K3m l hk.1 (F+i) (by omega)
   unfold Jaw Jh2
   rw [Jac l c]
   dsimp only
   rw [g1,g2,show (F:Int)+(i:Int)=((F+i:Nat):Int) from by omega,hu,Int.toNat_natCast]
   rfl
  rw [if_neg (by omega),decide_eq_true c,Bool.true_and]
  have hall:(List.range (T - F)).all (Jaw root (J86 l F T))=hq (J9i l) root:=by
   cases hv:hq (J9i l) root with
   | true=>exact List.all_eq_true.2 fun i hi=>by rw [hat i (List.mem_range.1 hi),hv]
   | false=>exact List.all_eq_false.2 ⟨0,List.mem_range.2 (by omega),by rw [hat 0 (by omega),hv]; simp⟩
  unfold J9q
  rw [Jac l c] at hall ⊢
  dsimp only at hall ⊢
  rw [e1,e2,hall,Jiw h ((List.take_sublist _ _).trans (List.drop_sublist _ _)),decide_eq_true (p:=0≤(l.length:Int)∧(l.length:Int)≤30∧T - F=T - F) ⟨by omega,by omega,rfl⟩,decide_eq_true (p:=0≤(F:Int)∧(F:Int)≤(l.length:Int) - ((T - F:Nat):Int)) ⟨by omega,by omega⟩,if_neg (by omega),decide_eq_true (p:=0 < T - F) (by omega)]
  rfl
 ·have es:J86 l F T=((l.length:Int),0,[],[],()):=by unfold J86; rw [if_pos (by omega)]
  have hn:J96 ([]:List Pr)=true:=rfl
  rw [decide_eq_false c,Bool.false_and]
  unfold J9q
  rw [es]
  dsimp only
  rw [hn,decide_eq_true (p:=0≤(l.length:Int)∧(l.length:Int)≤30∧([]:List (List (List UInt8))).length=([]:List Pr).length) ⟨by omega,by omega,rfl⟩,decide_eq_true (p:=0≤(0:Int)∧(0:Int)≤(l.length:Int) - (([]:List Pr).length:Int)) ⟨by omega,by simp⟩,Bool.true_and,Bool.true_and,Bool.true_and]
  by_cases c0:l.length=0
  ·rw [if_pos c0,if_pos (by omega)]
  ·rw [if_neg c0,if_neg (by omega)]; rfl
theorem Jkc (l:List Pr) (h:J96 l=true) (F T:Nat) (hT:T≤l.length):J9q (J9i l) (J86 l F T)=(decide (l.length=0) || decide (F < T)):=by
 rw [Jtv _ l h F T hT]
 by_cases c:l.length=0
 ·have:l=[]:=List.length_eq_zero_iff.1 c
  subst this
  rw [if_pos c,decide_eq_true c]
  exact (K0j _ _).2 rfl
 ·rw [if_neg c,decide_eq_false c,Bool.false_or,(K0j (J9i l) (J9i l)).2 rfl,Bool.and_true]
theorem Jd8 (l:List Pr) (hr:J81 l) (a b:List UInt8) (F T:Nat) (hFT:F < T) (hT:T≤l.length) (h1:F=0∨F < J6h l a) (h2:T=l.length∨J6h l (maxS a b) < T):J9p ((l.drop F).take (T - F)) a b=J9p l a b:=by
 have hm:J6t b a=true∨J6h l b≤J6h l (maxS a b):=by
  unfold maxS
  cases c:J6t a b with
  | true=>exact .inr (Nat.le_refl _)
  | false=>
   rcases Jf8 a b c with e | e
   ·exact .inr (by rw [e]; exact Nat.le_refl _)
   ·exact .inl e
 refine Ji5 (((hr.sublist (List.drop_sublist _ _)).sublist (List.take_sublist _ _)).sublist List.filter_sublist) (hr.sublist List.filter_sublist) fun q=>?_
 unfold J9p
 rw [List.mem_filter,List.mem_filter]
 refine ⟨fun h=>⟨List.mem_of_mem_drop (List.mem_of_mem_take h.1),h.2⟩,fun h=>⟨?_,h.2⟩⟩
 obtain ⟨g1,g2⟩:=h
 unfold inR at g2
 rw [Bool.and_eq_true,Bool.not_eq_true'] at g2
 obtain ⟨i,hi,rfl⟩:=List.getElem_of_mem g1
 have hg:l.getD i zPr=l[i]:=by rw [List.getD_eq_getElem?_getD,List.getElem?_eq_getElem hi]; rfl
 rw [← hg] at g2 ⊢
 have q1:=(J8d hr b hi).1 g2.2
 have q2:J6h l a≤i:=by
  apply Classical.byContradiction
  intro c
  rw [(J8d hr a hi).2 (by omega)] at g2; cases g2.1
 have q3:i < T:=by
  rcases hm with e | e
  ·have:=J7y _ _ _ g2.2 e
   rw [g2.1] at this; cases this
  ·omega
 have hm2:((l.drop F).take (T - F)).getD (i - F) zPr=l.getD i zPr:=by
  rw [List.getD_eq_getElem?_getD,List.getD_eq_getElem?_getD,List.getElem?_take,if_pos (by omega),List.getElem?_drop]
  congr 2; omega
 rw [← hm2]
 exact J7c (by rw [List.length_take,List.length_drop]; omega)
theorem Jz0 (l:List Pr) {F T:Nat} (hFT:F < T) (hT:T≤l.length):((l.drop F).take (T - F)).length=T - F∧((l.drop F).take (T - F)).getD 0 zPr=l.getD F zPr∧((l.drop F).take (T - F)).getD (T - F - 1) zPr=l.getD (T - 1) zPr:=by
 refine ⟨by rw [List.length_take,List.length_drop]; omega,?_,?_⟩
 ·rw [List.getD_eq_getElem?_getD,List.getD_eq_getElem?_getD,List.getElem?_take,if_pos (by omega),List.getElem?_drop]; rfl
 ·rw [List.getD_eq_getElem?_getD,List.getD_eq_getElem?_getD,List.getElem?_take,if_pos (by omega),List.getElem?_drop]
  congr 2; omega
theorem Jq2 (l:List Pr) (h:J96 l=true) (a b:List UInt8) (F T:Nat) (hT:T≤l.length) :
  Ja8 (J9i l) a b (J86 l F T)=if l.length=0∨(F < T∧(F=0∨F < J6h l a)∧(T=l.length∨J6h l (maxS a b) < T)) then (J9p l a b,true) else ([],false):=by
 obtain ⟨hk,hr⟩:=Jf3 h
 unfold Ja8
 rw [Jkc l h F T hT]
 by_cases c0:l.length=0
 ·have e0:l=[]:=List.length_eq_zero_iff.1 c0
  have es:J86 l F T=((l.length:Int),0,[],[],()):=by unfold J86; rw [if_pos (by omega)]
  rw [decide_eq_true c0,Bool.true_or,if_pos rfl,es,if_pos (by rfl),if_pos (.inl c0),e0]; rfl
 rw [decide_eq_false c0,Bool.false_or]
 by_cases c:F < T
 ·obtain ⟨e1,e2,e3⟩:=Jz0 l c hT
  rw [decide_eq_true c,if_pos rfl]
  have hb:Jko (J86 l F T) a=decide (F=0∨F < J6h l a):=by
   unfold Jko
   rw [Jac l c]
   dsimp only
   rw [e2,Bool.eq_iff_iff,Bool.or_eq_true,decide_eq_true_eq,decide_eq_true_eq,J8d hr a (by omega)]
   omega
  have he:Jyz (J86 l F T) (maxS a b)=decide (T=l.length∨J6h l (maxS a b) < T):=by
   unfold Jyz
   rw [Jac l c]
   dsimp only
   rw [e1,e3,Bool.eq_iff_iff,Bool.or_eq_true,decide_eq_true_eq,decide_eq_true_eq,Bool.not_eq_true',← Bool.not_eq_true,J8d hr _ (by omega)]
   omega
  rw [hb,he,Jac l c]
  dsimp only
  rw [e1,if_neg (by omega)]
  by_cases q:(F=0∨F < J6h l a)∧(T=l.length∨J6h l (maxS a b) < T)
  ·have hP:l.length=0∨(F < T∧(F=0∨F < J6h l a)∧(T=l.length∨J6h l (maxS a b) < T)):=.inr ⟨c,q⟩
   rw [decide_eq_true q.1,decide_eq_true q.2,Bool.true_and,if_pos rfl,if_pos hP,Jd8 l hr a b F T c hT q.1 q.2]
  ·have hP:¬ (l.length=0∨(F < T∧(F=0∨F < J6h l a)∧(T=l.length∨J6h l (maxS a b) < T))):=fun e=>e.elim c0 (fun e=>q e.2)
   have hQ:¬ (decide (F=0∨F < J6h l a) && decide (T=l.length∨J6h l (maxS a b) < T))=true:=by
    rw [Bool.and_eq_true,decide_eq_true_eq,decide_eq_true_eq]; exact q
   rw [if_neg hP,if_neg hQ]
 ·have hP:¬ (l.length=0∨(F < T∧(F=0∨F < J6h l a)∧(T=l.length∨J6h l (maxS a b) < T))):=fun e=>e.elim c0 (fun e=>c e.1)
  rw [decide_eq_false c,if_neg (by simp),if_neg hP]
theorem Jgd (l:List Pr) (hrt:J96 l=true) (a b:List UInt8):Ja8 (J9i l) a b (J86 l (J6h l a - 1) (min (J6h l (maxS a b)+1) l.length))=(J9p l a b,true):=by
 have h1:=below_le l a
 have h2:=below_le l (maxS a b)
 have h3:J6t (maxS a b) a=false:=by
  unfold maxS
  cases c:J6t a b with
  | true=>
   show J6t b a=false
   cases q:J6t b a with
   | false=>rfl
   | true=>have:=J7y _ _ _ c q; rw [Jab] at this; cases this
  | false=>exact Jab a
 have h4:=Jsp l (maxS a b) a h3
 rw [Jq2 l hrt _ _ _ _ (by omega),if_pos]
 by_cases c:l.length=0
 ·exact .inl c
 ·exact .inr ⟨by omega,by omega,by omega⟩
theorem Jxp (l:List Pr) {k:Nat} (hk:k < l.length):J86 l k (k+1)=((l.length:Int),(k:Int),[l.getD k zPr],[Jb8 (J6w l) (k:Int)],()):=by
 unfold J86
 rw [if_neg (by omega),show k+1 - k=0+1 from by omega,Jdg l (by omega),Jio]
 rfl
abbrev Rsp:=Int×Int×List Pr×Prf×Unit
abbrev Qry:=Int×List UInt8×List UInt8×Int×Int×Unit
def admR (r:Rsp):Bool:=decide (1≤r.2.1) && (decide (r.2.1≤16) && J96 r.2.2.1)
theorem Jha (r:Rsp) (h:r.2.2.1.length≤1073741824):J46 r=some (admR r):=by
 unfold J46 admR
 rw [Ji4 _ h]
 cases decide (1≤r.2.1) <;> cases decide (r.2.1≤16) <;> rfl
noncomputable def admS (q:Qry) (root:List UInt8) (r:Rsp):Int:=
 if admR r then
  if q.1=2 then (if (Ja8 root q.2.1 q.2.2.1 r.2.2.2.1).2 && decide ((Ja8 root q.2.1 q.2.2.1 r.2.2.2.1).1=r.2.2.1) then 0 else 2)
  else if r.2.2.1.length=0 then (if absS root q.2.1 r.2.2.2.1 then 0 else 2)
  else if r.2.2.1.length=1 then (if decide ((r.2.2.1.getD 0 zPr).1=q.2.1) && Jjt root (r.2.2.1.getD 0 zPr) r.2.2.2.1 then 0 else 2)
  else 2
 else 1
theorem Jto {root a b:List UInt8} {p:Prf} (h:Jkm p):(Ja8 root a b p).1.length≤1000000:=by
 have:=h.2.1
 unfold Ja8
 split
 ·split
  ·simp
  ·split
   ·exact Nat.le_trans (List.length_filter_le _ _) this
   ·simp
 ·simp
theorem Jp0 (q:Qry) (root:List UInt8) (r:Rsp) (h:Jkm r.2.2.2.1) (hl:r.2.2.1.length≤1073741824):J4w q root r=some (admS q root r):=by
 unfold J4w admS
 rw [Jha r hl,J6a]
 cases admR r with
 | false=>rfl
 | true=>
  rw [Bool.not_true,J6k,if_pos rfl]
  by_cases c:q.1=2
  ·have hrl:=Jto (root:=root) (a:=q.2.1) (b:=q.2.2.1) h
   rw [J6e c,if_pos c,Jed _ _ _ _ h,J6a]
   cases (Ja8 root q.2.1 q.2.2.1 r.2.2.2.1).2 with
   | false=>rfl
   | true=>
    rw [Bool.not_true,J6k,Jo5 _ _ (by omega),J6a,Bool.true_and]
    cases decide ((Ja8 root q.2.1 q.2.2.1 r.2.2.2.1).1=r.2.2.1) <;> rfl
  ·rw [J6c c,if_neg c]
   by_cases c0:r.2.2.1.length=0
   ·rw [J6e (by omega),if_pos c0,Jje _ _ _ h,J6a]
    cases absS root q.2.1 r.2.2.2.1 <;> rfl
   ·rw [J6c (by omega),if_neg c0]
    by_cases c1:r.2.2.1.length=1
    ·rw [J6e (by omega),if_pos c1,J6b (by omega)]
     show fork (decide ((r.2.2.1.getD 0 zPr).1=q.2.1)) (andThen (J4x root (r.2.2.1.getD 0 zPr) r.2.2.2.1) _) _=_
     rw [Jkt _ _ _ h,J6a]
     cases decide ((r.2.2.1.getD 0 zPr).1=q.2.1) with
     | false=>rfl
     | true=>
      rw [J7l,Bool.true_and]
      cases Jjt root (r.2.2.1.getD 0 zPr) r.2.2.2.1 <;> rfl
    ·rw [J6c (by omega),if_neg c1]
def endQ (q:Qry):List UInt8:=if q.1=1 then q.2.1 else q.2.2.1
noncomputable def ansS (id:Int) (q:Qry) (h:Int) (l:List Pr):Rsp:=
 if q.1=1∧isAt l q.2.1=true then (id,h,[l.getD (J6h l q.2.1) zPr],J86 l (J6h l q.2.1) (J6h l q.2.1+1),())
 else (id,h,J9p l q.2.1 (endQ q),J86 l (J6h l q.2.1 - 1) (min (J6h l (maxS q.2.1 (endQ q))+1) l.length),())
def l1:List Pr:=[([97],[49],())]
def q1:Qry:=(1,[97],[],0,1,())
theorem Jir (l:List Pr) (k:List UInt8):J9p l k k=[]:=by
 unfold J9p
 rw [List.filter_eq_nil_iff]
 intro p _
 unfold inR
 cases J6t p.1 k <;> simp
def Jas (l:List Int):Prop:=l.Pairwise (·≤·)
theorem Ji0 (x:Int):∀ l:List Int,(insI x l).Perm (x::l)
 | []=>List.Perm.refl _
 | y::r=>by
  unfold insI
  split
  ·exact List.Perm.refl _
  ·exact ((Ji0 x r).cons y).trans (List.Perm.swap x y r)
theorem Ji1 (x:Int):∀ {l:List Int},Jas l→Jas (insI x l)
 | [],_=>List.pairwise_singleton _ _
 | y::r,h=>by
  unfold insI
  obtain ⟨h1,h2⟩:=List.pairwise_cons.1 h
  split
  ·rename_i hxy
   exact List.pairwise_cons.2 ⟨fun z hz=>by rcases List.mem_cons.1 hz with rfl | hz; exact hxy; have:=h1 z hz; omega,h⟩
  ·rename_i hxy
   refine List.pairwise_cons.2 ⟨fun z hz=>?_,Ji1 x h2⟩
   rcases List.mem_cons.1 ((Ji0 x r).mem_iff.1 hz) with rfl | hz
   ·omega
   ·exact h1 z hz
theorem Jcu:∀ l:List Int,(srtI l).Perm l
 | []=>List.Perm.refl _
 | x::r=>(Ji0 x _).trans ((Jcu r).cons x)
theorem Jae:∀ l:List Int,Jas (srtI l)
 | []=>List.Pairwise.nil
 | x::r=>Ji1 x (Jae r)
theorem Je3 {a b:List Int} (ha:Jas a) (hb:Jas b) (h:a.Perm b):a=b:=
 List.Perm.eq_of_pairwise (fun x y _ _ h1 h2=>by omega) ha hb h
theorem K3i {a b:List Int} (h:a.Perm b):srtI a=srtI b:=Je3 (Jae a) (Jae b) ((Jcu a).trans (h.trans (Jcu b).symm))
def insR:List Int→Int→List Int→List Int
 | [],x,B=>x::B
 | y::A,x,B=>if x < y then insR A x (y::B) else (y::A).reverse++x::B
theorem Jr6:∀ (A:List Int) (x:Int) (B:List Int),(insR A x B).length=A.length+B.length+1
 | [],x,B=>by simp [insR]
 | y::A,x,B=>by
  unfold insR
  split
  ·rw [Jr6]; simp only [List.length_cons]; omega
  ·simp; omega
theorem Jnj:∀ (A:List Int) (x:Int) (B:List Int),(insR A x B).Perm (A.reverse++x::B)
 | [],x,B=>List.Perm.refl _
 | y::A,x,B=>by
  unfold insR
  split
  ·refine (Jnj A x (y::B)).trans ?_
   rw [List.reverse_cons,List.append_assoc]
   exact (List.Perm.swap y x B).append_left _
  ·exact List.Perm.refl _
theorem Ji2:∀ {A:List Int} {x:Int} {B:List Int},Jas (A.reverse++B)→(∀ b ∈ B,x≤b)→Jas (insR A x B)
 | [],x,B,h,hb=>List.pairwise_cons.2 ⟨hb,h⟩
 | y::A,x,B,h,hb=>by
  unfold insR
  split
  ·rename_i hxy
   refine Ji2 (by rw [List.reverse_cons,List.append_assoc] at h; exact h) fun b hb'=>?_
   rcases List.mem_cons.1 hb' with rfl | hb'
   ·omega
   ·exact hb b hb'
  ·rename_i hxy
   obtain ⟨h1,h2,h3⟩:=List.pairwise_append.1 h
   refine List.pairwise_append.2 ⟨h1,List.pairwise_cons.2 ⟨hb,h2⟩,fun a ha b hb'=>?_⟩
   rcases List.mem_cons.1 hb' with rfl | hb'
   ·have hay:a≤y:=by
     rw [List.reverse_cons] at h1 ha
     rcases List.mem_append.1 ha with ha | ha
     ·exact (List.pairwise_append.1 h1).2.2 a ha y (List.mem_singleton.2 rfl)
     ·rw [List.mem_singleton.1 ha]; exact Int.le_refl _
    omega
   ·exact h3 a ha b hb'
theorem K27 (a b:Int):J53 a b=some (decide (a < b)):=by
 unfold J53 J4e
 rw [J6a,show (!decide (a=a))=false from by simp,J6k]
theorem Jw0 (b i:Int) (C:List Int):∀ (A:List Int) (x:Int) (B:List Int),A.length+B.length+C.length≤1000→
  J2_1 0 b i (A.length:Int) (A.reverse++x::(B++C))=some (0,b,i,insR A x B++C)
 | [],x,B,hl=>by
  unfold J2_1
  refine J6z ?_
  show J2_1_step 0 b i 0 (x::(B++C))=_
  unfold J2_1_step
  rw [J6c (by omega)]
  rfl
 | y::A,x,B,hl=>by
  simp only [List.length_cons] at hl
  have hd:(y::A).reverse++x::(B++C)=A.reverse++y::x::(B++C):=by simp
  have hlen:(A.reverse++y::x::(B++C)).length=A.length+2+B.length+C.length:=by simp; omega
  have hn:(((y::A).length:Nat):Int)=(A.length:Int)+1:=by simp
  have w1:w64 ((A.length:Int)+1 - 1)=(A.length:Int):=by rw [J6f (by omega) (by omega)]; omega
  have g1:(A.reverse++y::x::(B++C)).getD (A.length+1) 0=x:=by
   rw [List.getD_eq_getElem?_getD,List.getElem?_append_right (by simp)]; simp
  have g2:(A.reverse++y::x::(B++C)).getD A.length 0=y:=by
   rw [List.getD_eq_getElem?_getD,List.getElem?_append_right (by simp)]; simp
  have tn:Int.toNat ((A.length:Int)+1)=A.length+1:=by omega
  have st:J2_1_step 0 b i ((A.length:Int)+1) (A.reverse++y::x::(B++C))=if x < y then some (.inl ((A.length:Int),A.reverse++x::y::(B++C))) else some (.inr (0,b,i,A.reverse++y::x::(B++C))):=by
   unfold J2_1_step
   rw [J6e (by omega),J6b (by rw [hlen]; omega),w1,J6b (by rw [hlen]; omega),tn,Int.toNat_natCast,g1,g2,K27,J6a]
   by_cases c:x < y
   ·rw [J6e c,if_pos c,J6b (by rw [List.length_set,hlen]; omega)]
    congr 3
    rw [List.set_append_right _ _ (by simp),List.length_reverse,show A.length+1 - A.length=1 from by omega]
    rw [show (y::x::(B++C)).set 1 y=y::y::(B++C) from rfl,List.set_append_right _ _ (by simp),List.length_reverse,Nat.sub_self]
    rfl
   ·rw [J6c c,if_neg c]
  rw [hd,hn]
  unfold J2_1 insR
  by_cases c:x < y
  ·rw [if_pos c] at st ⊢
   rw [J77 (s':=((A.length:Int),A.reverse++x::((y::B)++C))) st]
   exact Jw0 b i C A x (y::B) (by simp only [List.length_cons]; omega)
  ·rw [if_neg c] at st ⊢
   rw [J6z st,hd.symm]
   simp
theorem Jrl (n:Nat) (hn:n≤500):∀ (k i:Nat) (d:List Int),d.length=n→i+k=n→1≤i→Jas (d.take i)→∃ r,J2_2 0 (n:Int) (i:Int) d=some r∧r.Perm d∧Jas r
 | 0,i,d,hd,hi,h1,hs=>by
  refine ⟨d,?_,List.Perm.refl _,by rw [List.take_of_length_le (by omega)] at hs; exact hs⟩
  unfold J2_2
  refine J6z ?_
  show J2_2_step 0 (n:Int) (i:Int) d=_
  unfold J2_2_step
  rw [J6c (by omega)]
 | k+1,i,d,hd,hi,h1,hs=>by
  have hlt:i < d.length:=by omega
  have hsplit:d=(d.take i).reverse.reverse++d[i]::([]++d.drop (i+1)):=by
   rw [List.reverse_reverse,List.nil_append,List.getElem_cons_drop,List.take_append_drop]
  have hlA:((d.take i).reverse.length:Int)=(i:Int):=by rw [List.length_reverse,List.length_take]; omega
  have hin:=Jw0 (n:Int) (i:Int) (d.drop (i+1)) (d.take i).reverse d[i] [] (by rw [List.length_reverse,List.length_take,List.length_drop,List.length_nil]; omega)
  rw [← hsplit,hlA] at hin
  have hp:=Jnj (d.take i).reverse d[i] []
  have hs2:=Ji2 (A:=(d.take i).reverse) (x:=d[i]) (B:=[]) (by rw [List.reverse_reverse,List.append_nil]; exact hs) (by simp)
  have hlr:=Jr6 (d.take i).reverse d[i] []
  rw [List.length_reverse,List.length_take,List.length_nil] at hlr
  have hpd:(insR (d.take i).reverse d[i] []++d.drop (i+1)).Perm d:=by
   refine (hp.append_right _).trans ?_
   rw [List.append_assoc]
   have:=hsplit
   simp only [List.nil_append] at this
   rw [List.cons_append,List.nil_append,← this]
  obtain ⟨r,e,p1,p2⟩:=Jrl n hn k (i+1) (insR (d.take i).reverse d[i] []++d.drop (i+1)) (by rw [hpd.length_eq]; exact hd) (by omega) (by omega) (by
   rw [List.take_append_of_le_length (by omega),List.take_of_length_le (by omega)]; exact hs2)
  refine ⟨r,?_,p1.trans hpd,p2⟩
  unfold J2_2 at e ⊢
  rw [J77 (s':=(0,(n:Int),((i+1:Nat):Int),insR (d.take i).reverse d[i] []++d.drop (i+1))) (by
   show J2_2_step 0 (n:Int) (i:Int) d=_
   unfold J2_2_step
   rw [J6e (by omega),hin,J6a]
   dsimp only
   rw [J6f (by omega) (by omega)]
   rfl)]
  exact e
set_option maxRecDepth 100000 in
theorem len_ok:∀ n:Nat,n≤12→∃ k,J62 (UInt64.ofNat (Int.toNat ((n:Int) % 18446744073709551616)))=some k:=by
 intro n hn
 have:n=0∨n=1∨n=2∨n=3∨n=4∨n=5∨n=6∨n=7∨n=8∨n=9∨n=10∨n=11∨n=12:=by omega
 rcases this with rfl | rfl | rfl | rfl | rfl | rfl | rfl | rfl | rfl | rfl | rfl | rfl | rfl <;> exact ⟨_,rfl⟩
set_option maxRecDepth 100000 in
theorem K3h (d:List Int) (hd:d.length≤12):J1x d=some (srtI d):=by
 obtain ⟨k,hk⟩:=len_ok d.length hd
 have main:J2 0 (d.length:Int) d=some (srtI d):=by
  unfold J2
  rw [show w64 ((0:Int)+1)=((1:Nat):Int) from rfl]
  by_cases c:d.length=0
  ·have:d=[]:=List.eq_nil_of_length_eq_zero c
   subst this
   unfold J2_2
   rw [J6z (r:=[]) rfl]; rfl
  ·obtain ⟨r,e,p1,p2⟩:=Jrl d.length (by omega) (d.length - 1) 1 d rfl (by omega) (Nat.le_refl 1) (by
    match d,c with
    | x::l,_=>exact List.pairwise_singleton _ _)
   rw [e,J6a,Je3 p2 (Jae d) (p1.trans (Jcu d).symm)]
 unfold J1x Jo Jo_1
 rw [hk,J6a,J6z (r:=srtI d) (by
  show Jo_1_step 0 (d.length:Int) k true true d=_
  unfold Jo_1_step
  rw [J6f (by omega) (by omega),J6e (by omega),main,J6a])]
 rfl
theorem Jxq {α:Type} (f:(List (Int×α))→Option (List Int)) (l:List (Int×α)) (hl:l.length≤12)
  (hf:f l=Jtg (∀ ss:List Int,ss.Perm (l.map (·.1))→J1x ss=some (srtI (l.map (·.1)))) (need (List.length l≤1000) (some (srtI (l.map (·.1)))))):f l=some (srtI (l.map (·.1))):=by
 rw [hf,Jti (fun ss hs=>by rw [K3h ss (by rw [hs.length_eq,List.length_map]; exact hl),K3i hs]),J6b (by omega)]
abbrev Ent:=Qry×Int×Int×Unit
abbrev ib:Int→Int→Bool:=Ty.beq (.int .i64)
theorem Jhy (a b:Int):ib a b=decide (a=b):=by
 rw [Bool.eq_iff_iff,decide_eq_true_eq]
 exact Ty.beq_iff (.int .i64) rfl a b
def regF (g:Nat→Ent):Nat→Nat→List (Int×Ent)
 | _,0=>[]
 | s,m+1=>((s:Int)+1,g s)::regF g (s+1) m
def idsF:Nat→Nat→List Int
 | _,0=>[]
 | s,m+1=>((s:Int)+1)::idsF (s+1) m
def updG (g:Nat→Ent) (j:Nat) (y:Ent):Nat→Ent:=fun k=>if k=j then y else g k
theorem J99 {g h:Nat→Ent}:∀ (m s:Nat),(∀ j,s≤j→j < s+m→g j=h j)→regF g s m=regF h s m
 | 0,s,_=>rfl
 | m+1,s,e=>by
  unfold regF
  rw [e s (Nat.le_refl _) (by omega),J99 m (s+1) fun j h1 h2=>e j (by omega) (by omega)]
theorem Jrw (g:Nat→Ent):∀ (m s:Nat),(regF g s m).length=m
 | 0,s=>rfl
 | m+1,s=>by unfold regF; rw [List.length_cons,Jrw]
theorem Joa (g:Nat→Ent):∀ (m s:Nat),(regF g s m).map (·.1)=idsF s m
 | 0,s=>rfl
 | m+1,s=>by unfold regF idsF; rw [List.map_cons,Joa]
theorem Jfu (g:Nat→Ent) (j:Nat):∀ (m s:Nat),s≤j→j < s+m→J6p ib ((j:Int)+1) (regF g s m)=some (g j)
 | 0,s,h1,h2=>by omega
 | m+1,s,h1,h2=>by
  unfold regF J6p
  rw [Jhy]
  by_cases c:s=j
  ·subst c; rw [decide_eq_true rfl,cond_true]
  ·rw [decide_eq_false (by omega),cond_false]; exact Jfu g j m (s+1) (by omega) (by omega)
theorem Jit (g:Nat→Ent) (j:Nat) (y:Ent):∀ (m s:Nat),s≤j→j < s+m→J6x ib ((j:Int)+1) y (regF g s m)=regF (updG g j y) s m
 | 0,s,h1,h2=>by omega
 | m+1,s,h1,h2=>by
  unfold regF J6x
  rw [Jhy]
  by_cases c:s=j
  ·subst c
   rw [decide_eq_true rfl,cond_true]
   rw [show updG g s y s=y from if_pos rfl]
   congr 1
   exact J99 m (s+1) fun j h1 h2=>(if_neg (by omega)).symm
  ·rw [decide_eq_false (by omega),cond_false,Jit g j y m (s+1) (by omega) (by omega),show updG g j y s=g s from if_neg c]
theorem Jem:∀ (m s:Nat),(idsF s m).length=m
 | 0,s=>rfl
 | m+1,s=>by unfold idsF; rw [List.length_cons,Jem]
theorem Jr5:∀ {m s:Nat} {x:Int},x ∈ idsF s m→(s:Int)+1≤x
 | 0,s,x,h=>by cases h
 | m+1,s,x,h=>by
  unfold idsF at h
  rcases List.mem_cons.1 h with rfl | h
  ·omega
  ·have:=Jr5 h; omega
theorem Jhz:∀ (m s:Nat),Jas (idsF s m)
 | 0,s=>List.Pairwise.nil
 | m+1,s=>by
  unfold idsF
  exact List.pairwise_cons.2 ⟨fun x hx=>by have:=Jr5 hx; omega,Jhz m (s+1)⟩
theorem Jlj:∀ (m s i:Nat),i < m→(idsF s m).getD i 0=(s:Int)+i+1
 | 0,s,i,h=>by omega
 | m+1,s,0,h=>by unfold idsF; rw [List.getD_cons_zero]; omega
 | m+1,s,i+1,h=>by
  unfold idsF; rw [List.getD_cons_succ,Jlj m (s+1) i (by omega)]; omega
theorem Jtq (g:Nat→Ent) (m:Nat) (hm:m≤12):J3l (regF g 0 m)=some (idsF 0 m):=by
 rw [Jxq J3l (regF g 0 m) (by rw [Jrw]; exact hm) rfl,Joa,Je3 (Jae _) (Jhz m 0) (Jcu _)]
def J84 (p:Nat→Bool):Nat→List Int
 | 0=>[]
 | i+1=>J84 p i++(if p i then [(i:Int)+1] else [])
theorem Jez (p:Nat→Bool):∀ i,(J84 p i).length≤i
 | 0=>Nat.le_refl _
 | i+1=>by unfold J84; rw [List.length_append]; have:=Jez p i; split <;> simp <;> omega
theorem K0x {p:Nat→Bool} {i:Nat} (h:p i=true):J84 p (i+1)=J84 p i++[(i:Int)+1]:=by show _++_=_; rw [if_pos h]
theorem Jx0 {p:Nat→Bool} {i:Nat} (h:p i=false):J84 p (i+1)=J84 p i:=by show _++_=_; rw [h,if_neg (by simp),List.append_nil]
def J7g (b:Int) (x:Ent):Bool:=decide (0 < x.2.2.1) && decide (x.2.2.1 < b)
def J9l (b:Int) (x:Ent):Ent:=if J7g b x then (x.1,x.2.1,0,()) else x
def Jb2 (b:Int) (x:Ent):Bool:=!decide (x.2.1=0) && (!decide (b < x.2.1) && !decide (0 < x.2.2.1))
def askG (b:Int) (x:Ent):Ent:=if Jb2 b x then (x.1,(if 0 < x.1.2.2.2.1 then b+x.1.2.2.2.1 else 0),b+x.1.2.2.2.2.1,()) else x
def part (f:Ent→Ent) (g:Nat→Ent) (i:Nat):Nat→Ent:=fun j=>if j < i then f (g j) else g j
theorem Jim (f:Ent→Ent) (g:Nat→Ent) (m i:Nat) (hi:i < m):regF (updG (part f g i) i (f (g i))) 0 m=regF (part f g (i+1)) 0 m:=
 J99 m 0 fun j _ _=>by
  unfold updG part
  by_cases c:j=i
  ·subst c; rw [if_pos rfl,if_pos (by omega)]
  ·rw [if_neg c]
   by_cases c2:j < i
   ·rw [if_pos c2,if_pos (by omega)]
   ·rw [if_neg c2,if_neg (by omega)]
theorem Jex (f:Ent→Ent) (g:Nat→Ent) (m i:Nat) (h:f (g i)=g i):regF (part f g i) 0 m=regF (part f g (i+1)) 0 m:=
 J99 m 0 fun j _ _=>by
  unfold part
  by_cases c:j=i
  ·subst c; rw [if_neg (by omega),if_pos (by omega),h]
  ·by_cases c2:j < i
   ·rw [if_pos c2,if_pos (by omega)]
   ·rw [if_neg c2,if_neg (by omega)]
def Jml (x:Ent):Prop:=0≤x.1.2.2.2.1∧x.1.2.2.2.1≤1000∧0≤x.1.2.2.2.2.1∧x.1.2.2.2.2.1≤1000
theorem Jtx (m:Nat) (hm:m≤12) (g:Nat→Ent) (r:Int×Int×Int×Unit) (i:Nat) (hi:i < m) :
  Jb_1_step (m:Int) (i:Int) r (regF (part (J9l r.2.1) g i) 0 m) (J84 (fun j=>J7g r.2.1 (g j)) i) (idsF 0 m)=some (.inl (((i+1:Nat):Int),regF (part (J9l r.2.1) g (i+1)) 0 m,J84 (fun j=>J7g r.2.1 (g j)) (i+1))):=by
 have hg:(idsF 0 m).getD i 0=(i:Int)+1:=by rw [Jlj m 0 i hi]; omega
 have hget:=Jfu (part (J9l r.2.1) g i) i m 0 (Nat.zero_le _) (by omega)
 have hp:part (J9l r.2.1) g i i=g i:=if_neg (Nat.lt_irrefl i)
 have hl:=Jez (fun j=>J7g r.2.1 (g j)) i
 rw [hp] at hget
 unfold Jb_1_step
 rw [J6e (by omega),J6b (by rw [Jem]; omega),Int.toNat_natCast,hg,hget,J6f (by omega) (by omega)]
 simp only [Option.getD_some]
 by_cases c1:0 < (g i).2.2.1
 ·rw [J6e c1]
  by_cases c2:(g i).2.2.1 < r.2.1
  ·have hL:J7g r.2.1 (g i)=true:=by unfold J7g; rw [decide_eq_true c1,decide_eq_true c2]; rfl
   rw [J6e c2,J6b (by rw [List.length_singleton]; omega),Jit _ i _ m 0 (Nat.zero_le _) (by omega)]
   have:=Jim (J9l r.2.1) g m i hi
   rw [show J9l r.2.1 (g i)=((g i).1,(g i).2.1,0,()) from by unfold J9l; rw [if_pos hL]] at this
   rw [this,K0x (p:=fun j=>J7g r.2.1 (g j)) hL]
   rfl
  ·have hL:J7g r.2.1 (g i)=false:=by unfold J7g; rw [decide_eq_false c2]; simp
   rw [J6c c2,Jex (J9l r.2.1) g m i (by unfold J9l; rw [hL,if_neg (by simp)]),Jx0 (p:=fun j=>J7g r.2.1 (g j)) hL]
   rfl
 ·have hL:J7g r.2.1 (g i)=false:=by unfold J7g; rw [decide_eq_false c1]; simp
  rw [J6c c1,Jex (J9l r.2.1) g m i (by unfold J9l; rw [hL,if_neg (by simp)]),Jx0 (p:=fun j=>J7g r.2.1 (g j)) hL]
  rfl
theorem Jwy (f:Ent→Ent) (g:Nat→Ent) (m:Nat):regF (part f g 0) 0 m=regF g 0 m:=J99 m 0 fun j _ _=>if_neg (by omega)
theorem K0v (f:Ent→Ent) (g:Nat→Ent) (m:Nat):regF (part f g m) 0 m=regF (fun j=>f (g j)) 0 m:=J99 m 0 fun j _ h=>if_pos (by omega)
theorem tick1 (m:Nat) (hm:m≤12) (g:Nat→Ent) (r:Int×Int×Int×Unit) :
  Jb_1 (m:Int) 0 r (regF g 0 m) [] (idsF 0 m)=some (r,regF (fun j=>J9l r.2.1 (g j)) 0 m,J84 (fun j=>J7g r.2.1 (g j)) m,idsF 0 m):=by
 have:=J6l (step:=fun (s:Int×(List (Int×Ent))×List Int)=>Jb_1_step (m:Int) s.1 r s.2.1 s.2.2 (idsF 0 m)) (fun i (_:Unit)=>((i:Int),regF (part (J9l r.2.1) g i) 0 m,J84 (fun j=>J7g r.2.1 (g j)) i)) (fun _ _=>()) (fun _=>(r,regF (part (J9l r.2.1) g m) 0 m,J84 (fun j=>J7g r.2.1 (g j)) m,idsF 0 m)) m (fun _ _=>True)
  (fun i w hi _=>⟨Jtx m hm g r i hi,trivial⟩) (fun w _=>by
   show Jb_1_step (m:Int) (m:Int) r _ _ (idsF 0 m)=_
   unfold Jb_1_step
   rw [J6c (by omega)]) m 0 () (by omega) trivial
 rw [K0v,Jwy] at this
 exact this
theorem Jty (m:Nat) (hm:m≤12) (g:Nat→Ent) (hg0:∀ j,Jml (g j)) (r:Int×Int×Int×Unit) (hr:0≤r.2.1∧r.2.1≤100000) (x4:List Int) (i:Nat) (hi:i < m) :
  Jb_2_step (m:Int) (i:Int) r (regF (part (askG r.2.1) g i) 0 m) x4 (J84 (fun j=>Jb2 r.2.1 (g j)) i) (idsF 0 m)=some (.inl (((i+1:Nat):Int),regF (part (askG r.2.1) g (i+1)) 0 m,J84 (fun j=>Jb2 r.2.1 (g j)) (i+1))):=by
 have hg:(idsF 0 m).getD i 0=(i:Int)+1:=by rw [Jlj m 0 i hi]; omega
 have hget:=Jfu (part (askG r.2.1) g i) i m 0 (Nat.zero_le _) (by omega)
 have hp:part (askG r.2.1) g i i=g i:=if_neg (Nat.lt_irrefl i)
 have hl:=Jez (fun j=>Jb2 r.2.1 (g j)) i
 obtain ⟨o1,o2,o3,o4⟩:=hg0 i
 rw [hp] at hget
 have no:Jb2 r.2.1 (g i)=false→some (.inl (w64 ((i:Int)+1),regF (part (askG r.2.1) g i) 0 m,J84 (fun j=>Jb2 r.2.1 (g j)) i))=(some (.inl (((i+1:Nat):Int),regF (part (askG r.2.1) g (i+1)) 0 m,J84 (fun j=>Jb2 r.2.1 (g j)) (i+1))):Option ((Int×List (Int×Ent)×List Int)⊕((Int×Int×Int×Unit)×List (Int×Ent)×List Int×List Int))):=fun hL=>by
  rw [Jex (askG r.2.1) g m i (by unfold askG; rw [hL,if_neg (by simp)]),Jx0 (p:=fun j=>Jb2 r.2.1 (g j)) hL,J6f (by omega) (by omega)]
  rfl
 unfold Jb_2_step
 rw [J6e (by omega),J6b (by rw [Jem]; omega),Int.toNat_natCast,hg,hget]
 simp only [Option.getD_some]
 by_cases c1:(g i).2.1=0
 ·rw [J6e c1]; exact no (by unfold Jb2; rw [decide_eq_true c1]; rfl)
 rw [J6c c1]
 by_cases c2:r.2.1 < (g i).2.1
 ·rw [J6e c2]; exact no (by unfold Jb2; rw [decide_eq_true c2]; simp)
 rw [J6c c2]
 by_cases c3:0 < (g i).2.2.1
 ·rw [J6e c3]; exact no (by unfold Jb2; rw [decide_eq_true c3]; simp)
 rw [J6c c3]
 have hL:Jb2 r.2.1 (g i)=true:=by unfold Jb2; rw [decide_eq_false c1,decide_eq_false c2,decide_eq_false c3]; rfl
 have hs:=Jim (askG r.2.1) g m i hi
 rw [K0x (p:=fun j=>Jb2 r.2.1 (g j)) hL,← hs,show askG r.2.1 (g i)=((g i).1,(if 0 < (g i).1.2.2.2.1 then r.2.1+(g i).1.2.2.2.1 else 0),r.2.1+(g i).1.2.2.2.2.1,()) from by unfold askG; rw [if_pos hL]]
 by_cases c4:0 < (g i).1.2.2.2.1
 ·rw [J6e c4,J6b (by rw [List.length_singleton]; omega),Jit _ i _ m 0 (Nat.zero_le _) (by omega),J6f (n:=(i:Int)+1) (by omega) (by omega),J6f (n:=r.2.1+(g i).1.2.2.2.1) (by omega) (by omega),J6f (n:=r.2.1+(g i).1.2.2.2.2.1) (by omega) (by omega),if_pos c4]
  rfl
 ·rw [J6c c4,J6b (by rw [List.length_singleton]; omega),Jit _ i _ m 0 (Nat.zero_le _) (by omega),J6f (n:=(i:Int)+1) (by omega) (by omega),J6f (n:=r.2.1+(g i).1.2.2.2.2.1) (by omega) (by omega),if_neg c4]
  rfl
theorem tick2 (m:Nat) (hm:m≤12) (g:Nat→Ent) (hg0:∀ j,Jml (g j)) (r:Int×Int×Int×Unit) (hr:0≤r.2.1∧r.2.1≤100000) (x4:List Int) :
  Jb_2 (m:Int) 0 r (regF g 0 m) x4 [] (idsF 0 m)=some (r,regF (fun j=>askG r.2.1 (g j)) 0 m,x4,J84 (fun j=>Jb2 r.2.1 (g j)) m):=by
 have:=J6l (step:=fun (s:Int×(List (Int×Ent))×List Int)=>Jb_2_step (m:Int) s.1 r s.2.1 x4 s.2.2 (idsF 0 m)) (fun i (_:Unit)=>((i:Int),regF (part (askG r.2.1) g i) 0 m,J84 (fun j=>Jb2 r.2.1 (g j)) i)) (fun _ _=>()) (fun _=>(r,regF (part (askG r.2.1) g m) 0 m,x4,J84 (fun j=>Jb2 r.2.1 (g j)) m)) m (fun _ _=>True)
  (fun i w hi _=>⟨Jty m hm g hg0 r hr x4 i hi,trivial⟩) (fun w _=>by
   show Jb_2_step (m:Int) (m:Int) r _ x4 _ (idsF 0 m)=_
   unfold Jb_2_step
   rw [J6c (by omega)]) m 0 () (by omega) trivial
 rw [K0v,Jwy] at this
 exact this
theorem Jzq {b:Int} {x:Ent} (h:Jml x):Jml (J9l b x):=by unfold J9l; split <;> exact h
theorem Jy4 (m:Nat) (hm:m≤12) (g:Nat→Ent) (hg0:∀ j,Jml (g j)) (a b l:Int) (hb:0≤b∧b < 100000) (hl:0≤l∧l≤100000) :
  Jb (a,b,l,()) (regF g 0 m)=some ((a,b+1,l+(J84 (fun j=>J7g (b+1) (g j)) m).length,()),regF (fun j=>askG (b+1) (J9l (b+1) (g j))) 0 m,J84 (fun j=>J7g (b+1) (g j)) m,J84 (fun j=>Jb2 (b+1) (J9l (b+1) (g j))) m):=by
 have hpl:=Jez (fun j=>J7g (b+1) (g j)) m
 unfold Jb
 rw [show J2i (regF g 0 m)=some () from rfl,J6a,Jtq g m hm,J6a,Jem]
 dsimp only
 rw [J6f (n:=b+1) (by omega) (by omega),tick1 m hm g (a,b+1,l,()),J6a]
 dsimp only
 rw [Jem,J6f (by omega) (by omega),tick2 m hm (fun j=>J9l (b+1) (g j)) (fun j=>Jzq (hg0 j)) (a,b+1,l+(J84 (fun j=>J7g (b+1) (g j)) m).length,()) ⟨by show 0≤b+1; omega,by show b+1≤100000; omega⟩]
 rfl
def RowG (l:List Pr):Prop:=J81 l∧l.length≤12∧KvOk l∧J96 l=true
theorem K33 {l:List Pr} (h:Jyi l):RowG l:=⟨h.1,h.2.1,row_kv h,Jxe h⟩
theorem Jhc (id:Int) (q:Qry) (h:Int) (l:List Pr) (hrow:RowG l):Jkm (ansS id q h l).2.2.2.1∧(ansS id q h l).2.2.1.length≤12∧J96 (ansS id q h l).2.2.1=true∧(ansS id q h l).1=id∧(ansS id q h l).2.1=h:=by
 have hk:=hrow.2.2.1
 have hl:=hrow.2.1
 have hrt:=hrow.2.2.2
 have hb:=below_le l q.2.1
 unfold ansS
 split
 ·rename_i c
  have:=(Jdv c.2).1
  have hs:[l.getD (J6h l q.2.1) zPr].Sublist l:=List.singleton_sublist.2 (J7c this)
  exact ⟨Js8 l hk _ _ (by omega),by simp,Jiw hrt hs,rfl,rfl⟩
 ·exact ⟨Js8 l hk _ _ (by omega),Nat.le_trans (List.length_filter_le _ _) hl,Jiw hrt List.filter_sublist,rfl,rfl⟩
theorem K1d {l:List Pr} (hrow:RowG l) {q:Qry} (hq:q.1=1∨q.1=2) (id h:Int) (h1:1≤h∧h≤16):admR (ansS id q h l)=true∧admS q (J9i l) (ansS id q h l)=0:=by
 have hk:=hrow.2.2.1
 have hrt:=hrow.2.2.2
 have hr:=hrow.1
 obtain ⟨o1,o2,o3,o4,o5⟩:=Jhc id q h l hrow
 have hR:admR (ansS id q h l)=true:=by
  unfold admR
  rw [o5,o3,decide_eq_true h1.1,decide_eq_true h1.2]; rfl
 refine ⟨hR,?_⟩
 unfold admS
 rw [hR,if_pos rfl]
 rcases hq with c | c
 ·rw [if_neg (by omega)]
  cases ha:isAt l q.2.1 with
  | true=>
   obtain ⟨q1,q2⟩:=Jdv ha
   have e:ansS id q h l=(id,h,[l.getD (J6h l q.2.1) zPr],J86 l (J6h l q.2.1) (J6h l q.2.1+1),()):=by unfold ansS; rw [if_pos ⟨c,ha⟩]
   rw [e]
   dsimp only
   rw [if_neg (by simp),if_pos (by rfl)]
   have he:Jjt (J9i l) (l.getD (J6h l q.2.1) zPr) (J86 l (J6h l q.2.1) (J6h l q.2.1+1))=true:=by
    unfold Jjt
    rw [Jkc l hrt _ _ (by omega),decide_eq_true (show J6h l q.2.1 < J6h l q.2.1+1 by omega),Bool.or_true,Bool.true_and,decide_eq_true_eq,Jxp l q1]
   rw [show [l.getD (J6h l q.2.1) zPr].getD 0 zPr=l.getD (J6h l q.2.1) zPr from rfl,he,decide_eq_true q2]; rfl
  | false=>
   have e:ansS id q h l=(id,h,J9p l q.2.1 q.2.1,J86 l (J6h l q.2.1 - 1) (min (J6h l (maxS q.2.1 q.2.1)+1) l.length),()):=by
    unfold ansS endQ; rw [if_neg (fun h=>by rw [ha] at h; cases h.2),if_pos c]
   have hA:absS (J9i l) q.2.1 (J86 l (J6h l q.2.1 - 1) (min (J6h l (maxS q.2.1 q.2.1)+1) l.length))=true:=by
    unfold absS
    rw [Jgd l hrt,Bool.true_and,Bool.not_eq_true',← Bool.not_eq_true]
    intro hat
    obtain ⟨z1,z2⟩:=Jdv hat
    have hm:=J7c (z:=zPr) z1
    generalize (J86 l (J6h l q.2.1 - 1) (min (J6h l (maxS q.2.1 q.2.1)+1) l.length)).2.2.1.getD (J6h (J86 l (J6h l q.2.1 - 1) (min (J6h l (maxS q.2.1 q.2.1)+1) l.length)).2.2.1 q.2.1) zPr=u at hm z2
    have hm2:u ∈ l:=by
     unfold J86 at hm
     split at hm
     ·cases hm
     ·exact List.mem_of_mem_drop (List.mem_of_mem_take hm)
    rw [(Jr7 hr q.2.1).2 ⟨u,hm2,z2⟩] at ha; cases ha
   rw [e]
   dsimp only
   rw [Jir,if_pos (by rfl),hA]; rfl
 ·rw [if_pos c]
  have e:ansS id q h l=(id,h,J9p l q.2.1 q.2.2.1,J86 l (J6h l q.2.1 - 1) (min (J6h l (maxS q.2.1 q.2.2.1)+1) l.length),()):=by
   unfold ansS endQ; rw [if_neg (by omega),if_neg (by omega)]
  rw [e]
  dsimp only
  rw [Jgd l hrt,decide_eq_true rfl]; rfl
theorem Jsm {l:List Pr} (hrow:RowG l) {q:Qry} (hq:q.1=1∨q.1=2) (id h:Int) (h1:1≤h∧h≤16):J46 (ansS id q h l)=some true∧J4w q (J9i l) (ansS id q h l)=some 0:=by
 obtain ⟨a,b,c,d,e⟩:=Jhc id q h l hrow
 obtain ⟨r,s⟩:=K1d hrow hq id h h1
 exact ⟨by rw [Jha _ (by omega),r],by rw [Jp0 _ _ _ a (by omega),s]⟩
theorem K1e {l:List Pr} (hrow:RowG l) {q:Qry} (hq:q.1=1∨q.1=2) (id h:Int):J55 id q h l=some (ansS id q h l):=by
 have hk:=hrow.2.2.1
 have hr:=hrow.1
 have hl:=hrow.2.1
 unfold J55
 rcases hq with c | c
 ·rw [J6c (by omega),Jz8 l hk hr,J6a]
  cases ha:isAt l q.2.1 with
  | true=>
   rw [if_pos rfl]
   dsimp only
   rw [J7l,Jfo l hr (by omega),J6a,ha,if_pos rfl]
   unfold ansS
   rw [if_pos ⟨c,ha⟩]
   dsimp only
   have:=(Jdv ha).2
   congr 3
   generalize l.getD (J6h l q.2.1) zPr=u at this ⊢
   rw [← this]
  | false=>
   rw [if_neg (by simp)]
   dsimp only
   rw [J6k,Jub l hk hr,J6a,ha,if_neg (by simp)]
   unfold ansS endQ
   rw [if_neg (fun h=>by rw [ha] at h; cases h.2),if_pos c,Jir,Jny]
 ·rw [J6e c,Jk1 l hr (by omega),J6a,Jrt l hk hr,J6a]
  unfold ansS endQ
  rw [if_neg (by omega),if_neg (by omega)]
abbrev CalT:=Int×Int×List Pr×Unit
def zCal:CalT:=(0,0,[],())
def Je8 (c:CalT):Prop:=c.2.2.1.length≤1000
theorem Jhi (x0:Int) (x1:Int) (x2:List CalT):J0j_1_step x0 x1 x2 =
  (fork (decide (x1 < x0)) (need (0≤x1∧x1 < (List.length x2:Int)) (andThen (Jj ((List.getD x2 (Int.toNat x1) zCal).2.2.1)) (fun u6=>some (.inl ((w64 (x1+(1:Int))),(List.set x2 (Int.toNat x1) ((List.getD x2 (Int.toNat x1) zCal).1,(List.getD x2 (Int.toNat x1) zCal).2.1,u6,()))))))) (some (.inr x2)):Option ((Int×List CalT)⊕List CalT)):=rfl
theorem Kt {α:Type} (l:List α) (i:Nat) (z:α):l.set i (l.getD i z)=l:=by
 by_cases h:i < l.length
 ·rw [List.getD_eq_getElem?_getD,List.getElem?_eq_getElem h]; exact List.set_getElem_self h
 ·rw [List.set_eq_of_length_le (by omega)]
theorem Jp6 (l:List CalT) (hl:l.length≤1000) (h:∀ c ∈ l,Je8 c):J0j l=some l:=by
 have m:J0j_1 (l.length:Int) 0 l=some l:=by
  unfold J0j_1
  refine J6l (step:=fun (s:Int×List CalT)=>J0j_1_step (l.length:Int) s.1 s.2) (fun i (_:Unit)=>((i:Int),l)) (fun _ _=>()) (fun _=>l) l.length (fun _ _=>True) (fun i w hi _=>⟨?_,trivial⟩) (fun w _=>?_) l.length 0 () (by omega) trivial
  ·show J0j_1_step (l.length:Int) (i:Int) l=_
   have hc:=h _ (J7c (z:=zCal) hi)
   unfold Je8 at hc
   rw [Jhi,J6e (by omega),J6b (by omega),Int.toNat_natCast]
   unfold Jj
   rw [J6b (by omega),J6a,J6f (by omega) (by omega)]
   rw [show ((l.getD i zCal).1,(l.getD i zCal).2.1,(l.getD i zCal).2.2.1,())=l.getD i zCal from rfl,Kt]
   rfl
  ·show J0j_1_step (l.length:Int) (l.length:Int) l=_
   rw [Jhi,J6c (by omega)]
 unfold J0j J3k
 rw [J6b (by omega),J6a,m]
 rfl
theorem pushG (c:CalT) (l:List CalT) (hl:l.length < 8) (hc:Je8 c) (h:∀ c ∈ l,Je8 c):J3a [c] (l,())=some (1,(),l++[c]):=by
 unfold J3a J1l
 rw [J6a,Jp6 l (by omega) h,J6a]
 dsimp only
 rw [J6f (by omega) (by omega),show (([c].length:Nat):Int)=1 from rfl,show min (1:Int) (8 - (l.length:Int))=1 from by omega,J6b (by omega)]
 rw [show cutL [c] (0:Int) 1=[c] from rfl,Jp6 [c] (by simp) (by simpa using hc),J6a,J6b (by simp only [List.length_singleton]; omega)]
theorem roomG (l:List CalT) (hl:l.length≤8):J1l (l,())=some (8 - (l.length:Int)):=by
 unfold J1l
 dsimp only
 rw [J6f (by omega) (by omega)]
theorem popG (c:CalT) (l:List CalT) (hl:l.length≤1000):J1u (c::l,())=some (c,true,(l,())):=by
 unfold J1u
 dsimp only
 rw [J6c (by rw [List.length_cons]; omega),J6b (by rw [List.length_cons]; omega),J6b (by rw [List.length_cons]; omega)]
 unfold cutL
 rw [Int.toNat_natCast,List.take_length]
 rfl
theorem popG0:J1u (([]:List CalT),())=some (zCal,false,([],())):=rfl
abbrev zH:List UInt8:=List.replicate 32 (0:UInt8)
def secS (seed:List UInt8) (i v:Nat):List UInt8:=sha (115::(seed++[UInt8.ofNat i,UInt8.ofNat v]))
def pubS (s:List UInt8):List UInt8:=sha (112::s)
def keyS (ps:List (List UInt8)):List UInt8:=sha (107::ps.flatten)
def digS (m:List UInt8):List UInt8:=sha (109::m)
def bitN (d:List UInt8) (i:Nat):Nat:=((d.getD (i / 8) 0).toNat >>> (7 - i % 8)) % 2
theorem Jhe (d:List UInt8) (i:Nat):bitN d i≤1:=by unfold bitN; omega
abbrev One:=List (List UInt8)×List (List UInt8)×Unit
theorem Js1 (seed:List UInt8) (hs:seed.length=32) (i v:Nat) (hi:i < 256) (hv:v < 256):J3p seed (i:Int) (v:Int)=some (secS seed i v):=by
 unfold J3p
 have hf:[seed,[UInt8.ofNat (Int.toNat ((i:Int) % 256)),UInt8.ofNat (Int.toNat ((v:Int) % 256))]].flatten=seed++[UInt8.ofNat i,UInt8.ofNat v]:=by
  rw [J92,J92]; simp
 rw [J7s _ _ (by rw [hf]; simp; omega) (by simp),hf]
 rfl
theorem Jrr (s:List UInt8) (hs:s.length=32):J3o s=some (pubS s):=by
 unfold J3o
 have hf:[s].flatten=s:=by simp
 rw [J7s _ _ (by rw [hf]; omega) (by simp),hf]
 rfl
theorem Jc0 (seed:List UInt8) (i v:Nat):(secS seed i v).length=32:=J7x _
theorem Jlz (s:List UInt8):(pubS s).length=32:=J7x _
theorem Jr9 (s:List (List UInt8)):(keyS s).length=32:=J7x _
theorem Jr3 (m:List (List UInt8)) (hm:∀ x ∈ m,x.length=32):m.flatten.length=32 * m.length:=by
 induction m with
 | nil=>rfl
 | cons a m ih=>rw [List.flatten_cons,List.length_append,ih (fun x hx=>hm x (List.mem_cons_of_mem _ hx)),hm a List.mem_cons_self,List.length_cons]; omega
theorem Jnb (l:List (List UInt8)) {i:Nat} (h:i < l.length):(l.take i).flatten++l.getD i zH=(l.take (i+1)).flatten:=by
 rw [List.take_add_one,List.flatten_append,List.getD_eq_getElem?_getD,List.getElem?_eq_getElem h]
 simp
theorem Jgu (l:List (List UInt8)) (h:∀ x ∈ l,x.length=32) (i:Nat):(l.getD i zH).length=32:=by
 rw [List.getD_eq_getElem?_getD]
 cases e:l[i]? with
 | none=>rfl
 | some x=>exact h x (List.mem_of_getElem? e)
theorem K0o (l:List (List UInt8)) (hl:l.length≤1000) (h:∀ x ∈ l,x.length=32):J29 l=some (keyS l):=by
 have hlen:∀ i,((l.take i).flatten).length≤32 * l.length:=fun i=>by
  rw [Jr3 _ fun x hx=>h x (List.mem_of_mem_take hx),List.length_take]; omega
 have main:∀ z,J29_1 l (l.length:Int) 0 z []=some (z,l.flatten):=by
  intro z
  unfold J29_1
  have:=J6l (step:=fun (s:Int×List UInt8)=>J29_1_step l (l.length:Int) s.1 z s.2) (fun i (_:Unit)=>((i:Int),(l.take i).flatten)) (fun _ _=>()) (fun _=>(z,l.flatten)) l.length (fun _ _=>True) (fun i w hi _=>⟨?_,trivial⟩) (fun w _=>?_) l.length 0 () (by omega) trivial
  ·exact this
  ·show J29_1_step l (l.length:Int) (i:Int) z (l.take i).flatten=_
   unfold J29_1_step
   have b:=hlen i
   have hm:(l.getD i (List.replicate 32 0)).length=32:=Jgu l h i
   rw [J6e (by omega),J6b (by omega),Int.toNat_natCast,J6b (by omega),J6f (by omega) (by omega),Jnb l hi]
   rfl
  ·show J29_1_step l (l.length:Int) (l.length:Int) z (l.take l.length).flatten=_
   unfold J29_1_step
   rw [J6c (by omega),List.take_of_length_le (Nat.le_refl _)]
 unfold J29
 have hf:[l.flatten].flatten=l.flatten:=by simp
 have:=Jr3 l h
 rw [main,J6a]
 simp only
 rw [J7s _ _ (by rw [hf]; omega) (by simp),hf]
 rfl
theorem K0b (d:List UInt8) (i:Nat) (hi:i < 256):J5o d (i:Int)=some ((bitN d i:Nat):Int):=by
 unfold J5o
 have e1:Int.tdiv (i:Int) 8=((i / 8:Nat):Int):=by rw [Int.tdiv_eq_ediv_of_nonneg (by omega)]; omega
 have e2:Int.tmod (i:Int) 8=((i % 8:Nat):Int):=by rw [Int.tmod_eq_emod_of_nonneg (by omega)]; omega
 rw [e1,e2,J6f (by omega) (by omega),J6f (by omega) (by omega),J6b (by omega),J6b (by omega),Int.toNat_natCast,show Int.toNat (7 - ((i % 8:Nat):Int))=7 - i % 8 from by omega]
 generalize hx:d.getD (i / 8) 0=x
 have hlt:=x.toNat_lt
 have hs:x.toNat >>> (7 - i % 8)≤x.toNat:=by rw [Nat.shiftRight_eq_div_pow]; exact Nat.div_le_self _ _
 rw [UInt8.toNat_ofNat',Nat.mod_eq_of_lt (by omega)]
 have hb:=Jkn (x.toNat >>> (7 - i % 8)) 1 (by omega) (by omega)
 rw [show ((1:Nat):Int)=1 from rfl] at hb
 rw [hb,show (1:Nat)=2 ^ 1 - 1 from rfl,Nat.and_two_pow_sub_one_eq_mod]
 unfold bitN
 rw [hx]
def Jtj (seed:List UInt8) (i:Nat):List (List UInt8):=[pubS (secS seed i 0),pubS (secS seed i 1)]
def J89 (seed:List UInt8) (n:Nat):List (List UInt8):=(List.range n).flatMap (Jtj seed)
theorem Jey (seed:List UInt8) (n:Nat):(∀ x ∈ J89 seed n,x.length=32)∧(J89 seed n).length=2 * n:=by
 unfold J89
 refine ⟨fun x hx=>?_,?_⟩
 ·obtain ⟨i,_,hi⟩:=List.mem_flatMap.1 hx
  simp only [Jtj,List.mem_cons,List.not_mem_nil,or_false] at hi
  rcases hi with rfl | rfl <;> exact Jlz _
 ·induction n with
  | zero=>rfl
  | succ n ih=>rw [List.range_succ,List.flatMap_append,List.length_append,ih]; simp [Jtj]; omega
theorem Jhu {α β:Type} {f g:α→List β}:∀ {l:List α},(∀ a ∈ l,f a=g a)→l.flatMap f=l.flatMap g
 | [],_=>rfl
 | a::l,h=>by rw [List.flatMap_cons,List.flatMap_cons,h a List.mem_cons_self,Jhu fun b hb=>h b (List.mem_cons_of_mem _ hb)]
theorem Jej {α:Type} (f:Nat→List α) (n:Nat):(List.range (n+1)).flatMap f=(List.range n).flatMap f++f n:=by
 rw [List.range_succ,List.flatMap_append]; simp
def KeyS (seed:List UInt8):List UInt8:=keyS (J89 seed 32)
theorem Key_eq (seed:List UInt8) (hs:seed.length=32):J2o seed=some (KeyS seed):=by
 have main:∀ z,J2o_1 0 seed z []=some (z,J89 seed 32):=by
  intro z
  unfold J2o_1
  have:=J6l (step:=fun (s:Int×List (List UInt8))=>J2o_1_step s.1 seed z s.2) (fun i (_:Unit)=>((i:Int),J89 seed i)) (fun _ _=>()) (fun _=>(z,J89 seed 32)) 32 (fun _ _=>True) (fun i w hi _=>⟨?_,trivial⟩) (fun w _=>?_) 32 0 () (by omega) trivial
  ·exact this
  ·show J2o_1_step (i:Int) seed z (J89 seed i)=_
   unfold J2o_1_step
   have hl:=(Jey seed i).2
   have s0:=Js1 seed hs i 0 (by omega) (by omega)
   have s1:=Js1 seed hs i 1 (by omega) (by omega)
   rw [show ((0:Nat):Int)=0 from rfl] at s0
   rw [show ((1:Nat):Int)=1 from rfl] at s1
   rw [J6e (by omega),s0,J6a,Jrr _ (Jc0 _ _ _),J6a,s1,J6a,Jrr _ (Jc0 _ _ _),J6a,J6b (by simp; omega),J6f (by omega) (by omega)]
   unfold J89
   rw [Jej]
   rfl
  ·show J2o_1_step 32 seed z (J89 seed 32)=_
   unfold J2o_1_step
   rw [J6c (by omega)]
 unfold J2o
 obtain ⟨h1,h2⟩:=Jey seed 32
 rw [main,J6a]
 simp only
 rw [K0o _ (by omega) h1]
 rfl
def Jai (seed d:List UInt8) (n:Nat):List (List UInt8):=(List.range n).map fun i=>secS seed i (bitN d i)
def Jaj (seed d:List UInt8) (n:Nat):List (List UInt8):=(List.range n).map fun i=>pubS (secS seed i (1 - bitN d i))
def Jjh (seed m:List UInt8):One:=(Jai seed (digS m) 32,Jaj seed (digS m) 32,())
theorem mapRange {α:Type} (f:Nat→α) (n:Nat):(List.range (n+1)).map f=(List.range n).map f++[f n]:=by
 rw [List.range_succ,List.map_append]; rfl
theorem K0g (m:List UInt8) (hm:m.length≤100000):Jv 109 [m]=some (digS m):=by
 have hf:[m].flatten=m:=by simp
 rw [J7s _ _ (by rw [hf]; omega) (by simp),hf]
 rfl
theorem K3f (seed m:List UInt8) (hs:seed.length=32) (hm:m.length≤100000):J24 seed m=some (Jjh seed m):=by
 have main:∀ d,J24_1 0 seed () () [] [] d=some ((),(),Jai seed d 32,Jaj seed d 32):=by
  intro d
  unfold J24_1
  have:=J6l (step:=fun (s:Int×List (List UInt8)×List (List UInt8))=>J24_1_step s.1 seed () () s.2.1 s.2.2 d) (fun i (_:Unit)=>((i:Int),Jai seed d i,Jaj seed d i)) (fun _ _=>()) (fun _=>((),(),Jai seed d 32,Jaj seed d 32)) 32 (fun _ _=>True) (fun i w hi _=>⟨?_,trivial⟩) (fun w _=>?_) 32 0 () (by omega) trivial
  ·exact this
  ·show J24_1_step (i:Int) seed () () (Jai seed d i) (Jaj seed d i) d=_
   unfold J24_1_step
   have hb:=Jhe d i
   have lo:(Jai seed d i).length=i:=by simp [Jai]
   have ls:(Jaj seed d i).length=i:=by simp [Jaj]
   rw [J6e (by omega),K0b d i (by omega),J6a,Js1 seed hs i _ (by omega) (by omega),J6a,J6b (by simp; omega),J6f (by omega) (by omega),show (1:Int) - ((bitN d i:Nat):Int)=((1 - bitN d i:Nat):Int) from by omega,
    Js1 seed hs i _ (by omega) (by omega),J6a,Jrr _ (Jc0 _ _ _),J6a,J6b (by simp; omega),J6f (by omega) (by omega)]
   unfold Jai Jaj
   rw [mapRange,mapRange]
   rfl
  ·show J24_1_step 32 seed () () (Jai seed d 32) (Jaj seed d 32) d=_
   unfold J24_1_step
   rw [J6c (by omega)]
 unfold J24
 rw [K0g m hm,J6a,main,J6a]
 rfl
def Jgp (d:List UInt8) (o s:List (List UInt8)) (i:Nat):List (List UInt8):=if bitN d i=0 then [pubS (o.getD i zH),s.getD i zH] else [s.getD i zH,pubS (o.getD i zH)]
def Jdm (d:List UInt8) (o s:List (List UInt8)):List (List UInt8):=(List.range 32).flatMap (Jgp d o s)
def Len32 (l:List (List UInt8)):Prop:=∀ x ∈ l,x.length=32
def whoS (m:List UInt8) (x:One):List UInt8×Bool:=if x.1.length=32∧x.2.1.length=32 then (keyS (Jdm (digS m) x.1 x.2.1),true) else (zH,false)
theorem Jya (d:List UInt8) (o s:List (List UInt8)) (i:Nat):(Jgp d o s i).length=2:=by unfold Jgp; split <;> rfl
theorem Jg6 (d:List UInt8) (o s:List (List UInt8)):∀ n,((List.range n).flatMap (Jgp d o s)).length=2 * n
 | 0=>rfl
 | n+1=>by rw [Jej,List.length_append,Jg6 d o s n,Jya]; omega
theorem Ju3 (d:List UInt8) (o s:List (List UInt8)) (hs:Len32 s) (n:Nat):Len32 ((List.range n).flatMap (Jgp d o s)):=by
 intro x hx
 obtain ⟨i,_,hi⟩:=List.mem_flatMap.1 hx
 unfold Jgp at hi
 split at hi <;> simp only [List.mem_cons,List.not_mem_nil,or_false] at hi <;> rcases hi with rfl | rfl <;> first | exact Jlz _ | exact Jgu s hs i
theorem Js4 {α:Type} (a l:List α) (k:Nat) (x:α) (n:Nat) (h:n=a.length+k):(a++l).set n x=a++l.set k x:=by
 subst h; exact Jqa a l k x
theorem who_1 (d:List UInt8) (z:List UInt8) (x:One) (ho:x.1.length=32) (hs:x.2.1.length=32) (lo:Len32 x.1):J2p_1 0 x z d (List.replicate 64 zH)=some (z,Jdm d x.1 x.2.1):=by
 unfold J2p_1
 have:=J6l (step:=fun (s:Int×List (List UInt8))=>J2p_1_step s.1 x z d s.2) (fun i (_:Unit)=>((i:Int),(List.range i).flatMap (Jgp d x.1 x.2.1)++List.replicate (64 - 2 * i) zH)) (fun _ _=>()) (fun _=>(z,Jdm d x.1 x.2.1)) 32 (fun _ _=>True) (fun i w hi _=>⟨?_,trivial⟩) (fun w _=>?_) 32 0 () (by omega) trivial
 ·exact this
 ·show J2p_1_step (i:Int) x z d ((List.range i).flatMap (Jgp d x.1 x.2.1)++List.replicate (64 - 2 * i) zH)=_
  unfold J2p_1_step
  have hb:=Jhe d i
  have hl:=Jg6 d x.1 x.2.1 i
  have hlen:((List.range i).flatMap (Jgp d x.1 x.2.1)++List.replicate (64 - 2 * i) zH).length=64:=by rw [List.length_append,hl,List.length_replicate]; omega
  rw [J6e (by omega),K0b d i (by omega),J6a,J6b (by omega),Int.toNat_natCast,Jrr _ (Jgu _ lo i),J6a,J6b (by omega)]
  have e1:w64 (w64 (2 * (i:Int))+((bitN d i:Nat):Int))=((2 * i+bitN d i:Nat):Int):=by rw [J6f (n:=2 * (i:Int)) (by omega) (by omega),J6f (by omega) (by omega)]; omega
  have e2:w64 (w64 (w64 (2 * (i:Int))+1) - ((bitN d i:Nat):Int))=((2 * i+1 - bitN d i:Nat):Int):=by rw [J6f (n:=2 * (i:Int)) (by omega) (by omega),J6f (n:=2 * (i:Int)+1) (by omega) (by omega),J6f (by omega) (by omega)]; omega
  rw [e1,e2,hlen,J6b (by omega),List.length_set,hlen,J6b (by omega),Int.toNat_natCast,Int.toNat_natCast,J6f (by omega) (by omega),Jej]
  have hr:List.replicate (64 - 2 * i) zH=zH::zH::List.replicate (64 - 2 * (i+1)) zH:=by
   rw [show 64 - 2 * i=(64 - 2 * (i+1))+1+1 from by omega,List.replicate_succ,List.replicate_succ]
  rw [hr]
  have hw:Jgp d x.1 x.2.1 i=if bitN d i=0 then [pubS (x.1.getD i zH),x.2.1.getD i zH] else [x.2.1.getD i zH,pubS (x.1.getD i zH)]:=rfl
  rw [hw]
  rcases (show bitN d i=0∨bitN d i=1 by omega) with h0 | h0
  ·rw [h0,if_pos rfl,Js4 _ _ 0 _ _ (by rw [hl]),Js4 _ _ 1 _ _ (by rw [hl]; rfl),List.append_assoc]
   rfl
  ·rw [h0,if_neg (by omega),Js4 _ _ 1 _ _ (by rw [hl]),Js4 _ _ 0 _ _ (by rw [hl]; omega),List.append_assoc]
   rfl
 ·show J2p_1_step 32 x z d _=_
  unfold J2p_1_step
  rw [J6c (by omega)]
  simp [Jdm]
theorem who_eq (m:List UInt8) (hm:m.length≤100000) (x:One) (lo:Len32 x.1) (ls:Len32 x.2.1):J2p m x=some (whoS m x):=by
 unfold J2p whoS
 by_cases ho:x.1.length=32
 ·rw [J9k (by omega)]
  by_cases hs:x.2.1.length=32
  ·rw [J9k (by omega),K0g m hm,J6a,J6b (by omega),if_pos ⟨ho,hs⟩]
   have w:=who_1 (digS m) zH x ho hs lo
   rw [show Int.toNat (64:Int)=64 from rfl,w,J6a]
   simp only
   have hk:J29 (Jdm (digS m) x.1 x.2.1)=some (keyS (Jdm (digS m) x.1 x.2.1)):=K0o _ (by unfold Jdm; rw [Jg6]; omega) (Ju3 _ _ _ ls 32)
   rw [hk]
   rfl
  ·rw [Jbm (by omega),if_neg (fun h=>hs h.2)]
 ·rw [Jbm (by omega),if_neg (fun h=>ho h.1)]
theorem Js6 (seed m:List UInt8):(Jjh seed m).1.length=32∧(Jjh seed m).2.1.length=32∧Len32 (Jjh seed m).1∧Len32 (Jjh seed m).2.1:=by
 refine ⟨by simp [Jjh,Jai],by simp [Jjh,Jaj],fun x hx=>?_,fun x hx=>?_⟩
 ·obtain ⟨i,_,rfl⟩:=List.mem_map.1 hx; exact Jc0 _ _ _
 ·obtain ⟨i,_,rfl⟩:=List.mem_map.1 hx; exact Jlz _
theorem Jel (f:Nat→List UInt8) (n i:Nat) (h:i < n):((List.range n).map f).getD i zH=f i:=by
 rw [List.getD_eq_getElem?_getD,List.getElem?_map,List.getElem?_range h]; rfl
def Jo3 (seed d e:List UInt8) (i:Nat):List (List UInt8):=if bitN d i=bitN e i then Jtj seed i else [pubS (secS seed i 1),pubS (secS seed i 0)]
theorem Jqi (seed d e:List UInt8):Jdm e (Jai seed d 32) (Jaj seed d 32)=(List.range 32).flatMap (Jo3 seed d e):=by
 unfold Jdm
 have:∀ i ∈ List.range 32,Jgp e (Jai seed d 32) (Jaj seed d 32) i=Jo3 seed d e i:=by
  intro i hi
  have hi:i < 32:=List.mem_range.1 hi
  unfold Jgp Jo3 Jai Jaj Jtj
  rw [Jel _ 32 i hi,Jel _ 32 i hi]
  have h1:=Jhe d i
  have h2:=Jhe e i
  rcases (show bitN d i=0∨bitN d i=1 by omega) with a | a <;> rcases (show bitN e i=0∨bitN e i=1 by omega) with b | b <;> simp [a,b]
 rw [Jhu this]
theorem K06 (seed m:List UInt8):whoS m (Jjh seed m)=(KeyS seed,true):=by
 obtain ⟨h1,h2,_,_⟩:=Js6 seed m
 unfold whoS
 rw [if_pos ⟨h1,h2⟩]
 show (keyS (Jdm (digS m) (Jai seed (digS m) 32) (Jaj seed (digS m) 32)),true)=_
 rw [Jqi]
 have:∀ i ∈ List.range 32,Jo3 seed (digS m) (digS m) i=Jtj seed i:=fun i _=>if_pos rfl
 rw [Jhu this]
 rfl
def Jj0 (seed:List UInt8) (h:Nat):List UInt8:=sha (114::(seed++[UInt8.ofNat h]))
def Jfn (seed:List UInt8) (n:Nat):List (List UInt8):=(List.range n).map fun i=>KeyS (Jj0 seed (i+1))
def J8x (seed:List UInt8):List (List UInt8):=Jfn seed 16
noncomputable def Jk0 (seed:List UInt8):List UInt8:=J8m (J8x seed)
abbrev Sig:=Int×One×List (List UInt8)×Unit
noncomputable def byS (keys:List (List UInt8)) (seed:List UInt8) (h:Int) (m:List UInt8):Sig:=(h,Jjh (Jj0 seed h.toNat) m,Jb8 keys (h - 1),())
def noSig:Sig:=(0,([],[],()),[],())
def isH (h:Int):Bool:=decide (1≤h) && decide (h≤16)
def verS (id:List UInt8) (j:Int) (m:List UInt8) (s:Sig):Bool:=
 isH j && (decide (s.1=j) && ((whoS m s.2.1).2 && ((upS (whoS m s.2.1).1 (j - 1) 16 s.2.2.1).2 && Ty.beq (.arr 32 (.int .u8)) (upS (whoS m s.2.1).1 (j - 1) 16 s.2.2.1).1 id)))
theorem Jf6 (seed:List UInt8) (h:Nat):(Jj0 seed h).length=32:=J7x _
theorem Jyf (seed:List UInt8):(KeyS seed).length=32:=Jr9 _
theorem Ju8 (seed:List UInt8) (hs:seed.length=32) (h:Nat):J58 seed (h:Int)=some (Jj0 seed h):=by
 unfold J58
 have hf:[seed,[UInt8.ofNat (Int.toNat ((h:Int) % 256))]].flatten=seed++[UInt8.ofNat h]:=by
  rw [J92]; simp
 rw [J7s _ _ (by rw [hf]; simp; omega) (by simp),hf]
 rfl
theorem Ji3 (seed:List UInt8) (n:Nat):(Jfn seed n).length=n:=by simp [Jfn]
theorem Jzm (seed:List UInt8) (n:Nat):Len32 (Jfn seed n):=by
 intro x hx
 obtain ⟨i,_,rfl⟩:=List.mem_map.1 hx
 exact Jyf _
theorem J8f (seed:List UInt8):(J8x seed).length=16:=Ji3 _ _
theorem Jdw (seed:List UInt8):Small (J8x seed):=fun x hx=>by rw [Jzm seed 16 x hx]; omega
theorem Jzn (seed:List UInt8) (i:Nat) (h:i < 16):(J8x seed).getD i []=KeyS (Jj0 seed (i+1)):=by
 unfold J8x Jfn
 rw [List.getD_eq_getElem?_getD,List.getElem?_map,List.getElem?_range h]; rfl
theorem K1b (seed:List UInt8) (hs:seed.length=32):J1k seed=some (J8x seed):=by
 have main:J1k_1 1 seed []=some (J8x seed):=by
  unfold J1k_1
  have:=J6l (step:=fun (s:Int×List (List UInt8))=>J1k_1_step s.1 seed s.2) (fun i (_:Unit)=>(((i+1:Nat):Int),Jfn seed i)) (fun _ _=>()) (fun _=>J8x seed) 16 (fun _ _=>True) (fun i w hi _=>⟨?_,trivial⟩) (fun w _=>?_) 16 0 () (by omega) trivial
  ·exact this
  ·show J1k_1_step ((i+1:Nat):Int) seed (Jfn seed i)=_
   unfold J1k_1_step
   have hl:=Ji3 seed i
   rw [J6e (by omega),Ju8 seed hs,J6a,Key_eq _ (Jf6 _ _),J6a,J6b (by simp; omega),J6f (by omega) (by omega)]
   unfold Jfn
   rw [mapRange]
   rfl
  ·show J1k_1_step 17 seed (Jfn seed 16)=_
   unfold J1k_1_step
   rw [J6c (by omega)]
   rfl
 unfold J1k
 rw [main]
 rfl
theorem K0l (h:Int):J5p h=some (isH h):=by
 unfold J5p isH
 by_cases c:1≤h
 ·rw [J6e c,decide_eq_true c]; rfl
 ·rw [J6c c,decide_eq_false c]; rfl
theorem isH_t {h:Int} (h1:1≤h) (h2:h≤16):isH h=true:=by unfold isH; rw [decide_eq_true h1,decide_eq_true h2]; rfl
theorem K24 {h:Int}:isH h=true↔1≤h∧h≤16:=by unfold isH; rw [Bool.and_eq_true,decide_eq_true_eq,decide_eq_true_eq]
theorem By_eq (keys:List (List UInt8)) (hk:keys.length < 64) (hks:Small keys) (seed m:List UInt8) (hs:seed.length=32) (h:Int) (h1:1≤h) (h2:h≤16) (hm:m.length≤100000):J61 keys seed h m=some (byS keys seed h m):=by
 obtain ⟨k,rfl⟩:=Int.eq_ofNat_of_zero_le (show 0≤h by omega)
 unfold J61 byS
 rw [K0l,isH_t h1 h2,J6a,show (!true)=false from rfl,J6k,Ju8 seed hs,J6a,K3f _ m (Jf6 _ _) hm,J6a,J6f (by omega) (by omega),Jwz keys _ hk hks,J6a,Int.toNat_natCast]
noncomputable def sigS (seed:List UInt8) (h:Int) (m:List UInt8):Sig:=byS (J8x seed) seed h m
theorem K05 (m:List UInt8) (x:One):(whoS m x).1.length=32:=by
 unfold whoS
 split
 ·exact Jr9 _
 ·rfl
def Jsl (s:Sig):Prop:=Len32 s.2.1.1∧Len32 s.2.1.2.1∧Len32 s.2.2.1∧s.2.2.1.length≤100000
theorem Ver_eq (id:List UInt8) (j:Int) (m:List UInt8) (hm:m.length≤100000) (s:Sig) (hs:Jsl s):J4z id j m s=some (verS id j m s):=by
 obtain ⟨s1,s2,s3,s4⟩:=hs
 unfold J4z verS
 rw [K0l,J6a]
 cases hj:isH j with
 | false=>rfl
 | true=>
  obtain ⟨j1,j2⟩:=K24.1 hj
  rw [show (!true)=false from rfl,J6k,Bool.true_and]
  by_cases c:s.1=j
  ·rw [J9k c,decide_eq_true c,Bool.true_and,who_eq m hm s.2.1 s1 s2,J6a]
   cases (whoS m s.2.1).2 with
   | false=>rfl
   | true=>
    rw [show (!true)=false from rfl,J6k,Bool.true_and,J6f (by omega) (by omega),up_eq _ (by rw [K05]; omega) _ _ (by omega) _ s3 s4,J6a]
    cases (upS (whoS m s.2.1).1 (j - 1) 16 s.2.2.1).2 <;> rfl
  ·rw [Jbm c,decide_eq_false c]; rfl
theorem Jxm:∀ i,i < 16→(J8t 16 i 16).length=4:=by decide
theorem K0w (seed:List UInt8) (h:Int) (h1:1≤h) (h2:h≤16):Jb8 (J8x seed) (h - 1)=J83 16 (J8x seed) (h - 1).toNat∧(Jb8 (J8x seed) (h - 1)).length=4∧Len32 (Jb8 (J8x seed) (h - 1)):=by
 have e:Jb8 (J8x seed) (h - 1)=J83 16 (J8x seed) (h - 1).toNat:=by
  unfold Jb8
  rw [J8f,if_pos (by omega)]
 rw [e]
 refine ⟨rfl,?_,Jh1 _ _ _⟩
 rw [J9y _ _ _ (by rw [J8f]; omega),J8f,Jxm _ (by omega)]
theorem sig_ok (seed:List UInt8) (h:Int) (h1:1≤h) (h2:h≤16) (m:List UInt8):Jsl (sigS seed h m):=by
 obtain ⟨_,_,a,b⟩:=Js6 (Jj0 seed h.toNat) m
 obtain ⟨_,p1,p2⟩:=K0w seed h h1 h2
 exact ⟨a,b,p2,by show (Jb8 (J8x seed) (h - 1)).length≤100000; omega⟩
theorem Jzu:Jsl noSig:=⟨(fun x hx=>nomatch hx),(fun x hx=>nomatch hx),(fun x hx=>nomatch hx),by show (0:Nat)≤100000; omega⟩
theorem K3p (id seed:List UInt8) (h:Int) (h1:1≤h) (h2:h≤16) (m:List UInt8):verS id h m (sigS seed h m)=Ty.beq (.arr 32 (.int .u8)) (Jk0 seed) id:=by
 obtain ⟨p0,p1,p2⟩:=K0w seed h h1 h2
 have hw:whoS m (sigS seed h m).2.1=(KeyS (Jj0 seed h.toNat),true):=K06 _ _
 have hk:KeyS (Jj0 seed h.toNat)=(J8x seed).getD (h - 1).toNat []:=by
  rw [Jzn seed _ (by omega),show (h - 1).toNat+1=h.toNat from by omega]
 have hup:upS (KeyS (Jj0 seed h.toNat)) (h - 1) 16 (sigS seed h m).2.2.1=(Jk0 seed,true):=by
  show upS (KeyS (Jj0 seed h.toNat)) (h - 1) 16 (Jb8 (J8x seed) (h - 1))=_
  unfold upS
  have e16:(16:Int).toNat=16:=rfl
  rw [e16,if_pos ⟨(Jln _ _).2 (by omega),by rw [p1,Jxm _ (by omega)]⟩,p0,hk]
  have:=Jlu 16 (J8x seed) (h - 1).toNat (by rw [J8f]; omega) (by rw [J8f]; omega) (by rw [J8f]; omega)
  rw [J8f] at this
  rw [this]
  rfl
 unfold verS
 rw [hw,isH_t h1 h2]
 simp only
 rw [hup,decide_eq_true (show (sigS seed h m).1=h from rfl)]
 rfl
theorem Jm8 (seed:List UInt8) (hs:seed.length=32) (i v:Nat) (hi:i < 256) (hv:v < 256):J19 seed (i:Int) (v:Int)=some (secS seed i v):=by
 unfold J19
 have hf:[seed,[UInt8.ofNat (Int.toNat ((i:Int) % 256)),UInt8.ofNat (Int.toNat ((v:Int) % 256))]].flatten=seed++[UInt8.ofNat i,UInt8.ofNat v]:=by
  rw [J92,J92]; simp
 rw [J7p _ _ (by rw [hf]; simp; omega) (by simp),hf]
 rfl
theorem Jq8 (s:List UInt8) (hs:s.length=32):J1y s=some (pubS s):=by
 unfold J1y
 have hf:[s].flatten=s:=by simp
 rw [J7p _ _ (by rw [hf]; omega) (by simp),hf]
 rfl
theorem K2q (m:List UInt8) (hm:m.length≤100000):Je 109 [m]=some (digS m):=by
 have hf:[m].flatten=m:=by simp
 rw [J7p _ _ (by rw [hf]; omega) (by simp),hf]
 rfl
theorem K2o (d:List UInt8) (i:Nat) (hi:i < 256):need (0≤(w64 (Int.tdiv (i:Int) (8:Int)))∧(w64 (Int.tdiv (i:Int) (8:Int))) < (32:Int)) (need (0≤(((UInt64.ofNat (Int.toNat ((w64 ((7:Int) - (Int.tmod (i:Int) (8:Int)))) % 18446744073709551616))).toNat:Nat):Int))
  (some (band ((UInt8.toNat (UInt8.ofNat (UInt8.toNat (List.getD d (Int.toNat (w64 (Int.tdiv (i:Int) (8:Int)))) (0:UInt8)) >>> (Int.toNat (((UInt64.ofNat (Int.toNat ((w64 ((7:Int) - (Int.tmod (i:Int) (8:Int)))) % 18446744073709551616))).toNat:Nat):Int)))):Nat):Int) (1:Int))))=some ((bitN d i:Nat):Int):=by
 have e1:Int.tdiv (i:Int) 8=((i / 8:Nat):Int):=by rw [Int.tdiv_eq_ediv_of_nonneg (by omega)]; omega
 have e2:Int.tmod (i:Int) 8=((i % 8:Nat):Int):=by rw [Int.tmod_eq_emod_of_nonneg (by omega)]; omega
 have e3:(UInt64.ofNat (Int.toNat ((7 - ((i % 8:Nat):Int)) % 18446744073709551616))).toNat=7 - i % 8:=by
  rw [show Int.toNat ((7 - ((i % 8:Nat):Int)) % 18446744073709551616)=7 - i % 8 from by omega,UInt64.toNat_ofNat']; omega
 rw [e1,e2,J6f (by omega) (by omega),J6f (by omega) (by omega),J6b (by omega),e3,J6b (by omega),Int.toNat_natCast,Int.toNat_natCast]
 generalize hx:d.getD (i / 8) 0=x
 have hlt:=x.toNat_lt
 have hs:x.toNat >>> (7 - i % 8)≤x.toNat:=by rw [Nat.shiftRight_eq_div_pow]; exact Nat.div_le_self _ _
 rw [UInt8.toNat_ofNat',Nat.mod_eq_of_lt (by omega)]
 have hb:=Jkn (x.toNat >>> (7 - i % 8)) 1 (by omega) (by omega)
 rw [show ((1:Nat):Int)=1 from rfl] at hb
 rw [hb,show (1:Nat)=2 ^ 1 - 1 from rfl,Nat.and_two_pow_sub_one_eq_mod]
 unfold bitN
 rw [hx]
theorem K2p (m:List UInt8) (hm:m.length≤100000) (i:Nat) (hi:i < 256):J4a m (i:Int)=some ((bitN (digS m) i:Nat):Int):=by
 unfold J4a
 rw [K2q m hm,J6a]
 exact K2o (digS m) i hi
theorem K2y (l:List (List UInt8)) (hl:l.length≤1000) (h:∀ x ∈ l,x.length=32):J0d l=some (keyS l):=by
 have hlen:∀ i,((l.take i).flatten).length≤32 * l.length:=fun i=>by
  rw [Jr3 _ fun x hx=>h x (List.mem_of_mem_take hx),List.length_take]; omega
 have main:∀ z,J0d_1 l (l.length:Int) 0 z []=some (z,l.flatten):=by
  intro z
  unfold J0d_1
  have:=J6l (step:=fun (s:Int×List UInt8)=>J0d_1_step l (l.length:Int) s.1 z s.2) (fun i (_:Unit)=>((i:Int),(l.take i).flatten)) (fun _ _=>()) (fun _=>(z,l.flatten)) l.length (fun _ _=>True) (fun i w hi _=>⟨?_,trivial⟩) (fun w _=>?_) l.length 0 () (by omega) trivial
  ·exact this
  ·show J0d_1_step l (l.length:Int) (i:Int) z (l.take i).flatten=_
   unfold J0d_1_step
   have b:=hlen i
   have hm:(l.getD i (List.replicate 32 0)).length=32:=Jgu l h i
   rw [J6e (by omega),J6b (by omega),Int.toNat_natCast,J6b (by omega),J6f (by omega) (by omega),Jnb l hi]
   rfl
  ·show J0d_1_step l (l.length:Int) (l.length:Int) z (l.take l.length).flatten=_
   unfold J0d_1_step
   rw [J6c (by omega),List.take_of_length_le (Nat.le_refl _)]
 unfold J0d
 have hf:[l.flatten].flatten=l.flatten:=by simp
 have:=Jr3 l h
 rw [main,J6a]
 simp only
 rw [J7p _ _ (by rw [hf]; omega) (by simp),hf]
 rfl
theorem K2m (seed:List UInt8) (hs:seed.length=32):J0c seed=some (KeyS seed):=by
 have main:∀ z,J0c_1 0 seed z []=some (z,J89 seed 32):=by
  intro z
  unfold J0c_1
  have:=J6l (step:=fun (s:Int×List (List UInt8))=>J0c_1_step s.1 seed z s.2) (fun i (_:Unit)=>((i:Int),J89 seed i)) (fun _ _=>()) (fun _=>(z,J89 seed 32)) 32 (fun _ _=>True) (fun i w hi _=>⟨?_,trivial⟩) (fun w _=>?_) 32 0 () (by omega) trivial
  ·exact this
  ·show J0c_1_step (i:Int) seed z (J89 seed i)=_
   unfold J0c_1_step
   have hl:=(Jey seed i).2
   have s0:=Jm8 seed hs i 0 (by omega) (by omega)
   have s1:=Jm8 seed hs i 1 (by omega) (by omega)
   rw [show ((0:Nat):Int)=0 from rfl] at s0
   rw [show ((1:Nat):Int)=1 from rfl] at s1
   rw [J6e (by omega),s0,J6a,Jq8 _ (Jc0 _ _ _),J6a,s1,J6a,Jq8 _ (Jc0 _ _ _),J6a,J6b (by simp; omega),J6f (by omega) (by omega)]
   unfold J89
   rw [Jej]
   rfl
  ·show J0c_1_step 32 seed z (J89 seed 32)=_
   unfold J0c_1_step
   rw [J6c (by omega)]
 unfold J0c
 obtain ⟨h1,h2⟩:=Jey seed 32
 rw [main,J6a]
 simp only
 rw [K2y _ (by omega) h1]
 rfl
theorem Kk (seed m:List UInt8) (hs:seed.length=32) (hm:m.length≤100000):J07 seed m=some (Jjh seed m):=by
 have main:J07_1 m 0 seed () () [] []=some ((),(),Jai seed (digS m) 32,Jaj seed (digS m) 32):=by
  generalize hd:digS m=d
  unfold J07_1
  have:=J6l (step:=fun (s:Int×List (List UInt8)×List (List UInt8))=>J07_1_step m s.1 seed () () s.2.1 s.2.2) (fun i (_:Unit)=>((i:Int),Jai seed d i,Jaj seed d i)) (fun _ _=>()) (fun _=>((),(),Jai seed d 32,Jaj seed d 32)) 32 (fun _ _=>True) (fun i w hi _=>⟨?_,trivial⟩) (fun w _=>?_) 32 0 () (by omega) trivial
  ·exact this
  ·show J07_1_step m (i:Int) seed () () (Jai seed d i) (Jaj seed d i)=_
   unfold J07_1_step
   have hb:=Jhe d i
   have lo:(Jai seed d i).length=i:=by simp [Jai]
   have ls:(Jaj seed d i).length=i:=by simp [Jaj]
   rw [J6e (by omega),K2p m hm i (by omega),J6a,hd,Jm8 seed hs i _ (by omega) (by omega),J6a,J6b (by simp; omega),J6f (by omega) (by omega),show (1:Int) - ((bitN d i:Nat):Int)=((1 - bitN d i:Nat):Int) from by omega,
    Jm8 seed hs i _ (by omega) (by omega),J6a,Jq8 _ (Jc0 _ _ _),J6a,J6b (by simp; omega),J6f (by omega) (by omega)]
   unfold Jai Jaj
   rw [mapRange,mapRange]
   rfl
  ·show J07_1_step m 32 seed () () (Jai seed d 32) (Jaj seed d 32)=_
   unfold J07_1_step
   rw [J6c (by omega)]
 unfold J07
 rw [main,J6a]
 rfl
theorem Jrs (seed:List UInt8) (hs:seed.length=32) (h:Nat):J2v seed (h:Int)=some (Jj0 seed h):=by
 unfold J2v
 have hf:[seed,[UInt8.ofNat (Int.toNat ((h:Int) % 256))]].flatten=seed++[UInt8.ofNat h]:=by
  rw [J92]; simp
 rw [J7p _ _ (by rw [hf]; simp; omega) (by simp),hf]
 rfl
theorem K5 (seed:List UInt8) (hs:seed.length=32):J01 seed=some (J8x seed):=by
 have main:J01_1 1 seed []=some (J8x seed):=by
  unfold J01_1
  have:=J6l (step:=fun (s:Int×List (List UInt8))=>J01_1_step s.1 seed s.2) (fun i (_:Unit)=>(((i+1:Nat):Int),Jfn seed i)) (fun _ _=>()) (fun _=>J8x seed) 16 (fun _ _=>True) (fun i w hi _=>⟨?_,trivial⟩) (fun w _=>?_) 16 0 () (by omega) trivial
  ·exact this
  ·show J01_1_step ((i+1:Nat):Int) seed (Jfn seed i)=_
   unfold J01_1_step
   have hl:=Ji3 seed i
   rw [J6e (by omega),Jrs seed hs,J6a,K2m _ (Jf6 _ _),J6a,J6b (by simp; omega),J6f (by omega) (by omega)]
   unfold Jfn
   rw [mapRange]
   rfl
  ·show J01_1_step 17 seed (Jfn seed 16)=_
   unfold J01_1_step
   rw [J6c (by omega)]
   rfl
 unfold J01
 rw [main]
 rfl
theorem rBy_eq (keys:List (List UInt8)) (hk:keys.length < 64) (hks:Small keys) (seed m:List UInt8) (hs:seed.length=32) (h:Int) (h1:1≤h) (h2:h≤16) (hm:m.length≤100000):J3r keys seed h m=some (byS keys seed h m):=by
 obtain ⟨k,rfl⟩:=Int.eq_ofNat_of_zero_le (show 0≤h by omega)
 unfold J3r byS
 rw [Jrs seed hs,J6a,Kk _ m (Jf6 _ _) hm,J6a,J6f (by omega) (by omega),Kj keys _ hk hks,J6a,Int.toNat_natCast]
abbrev J7b:=List UInt8×Sig×Unit
def zSg:J7b:=(([]:List UInt8),((0:Int),(([]:List (List UInt8)),([]:List (List UInt8)),()),([]:List (List UInt8)),()),())
def nmsS (s:List J7b):List (List UInt8):=s.map (·.1)
theorem Jrg (s:List J7b) (i:Nat):(s.getD i zSg).1=(nmsS s).getD i []:=by
 unfold nmsS
 rw [List.getD_eq_getElem?_getD,List.getD_eq_getElem?_getD,List.getElem?_map]
 cases s[i]? <;> rfl
def incS (s:List J7b):Bool:=incN (nmsS s)
def Jfv (s:List J7b):Bool:=incS s && decide (s.length≤5)
theorem Je2 (s:List J7b) (i:Int):J1m_1_step s i=(fork (decide (i < (s.length:Int))) (need (0≤(w64 (i - 1))∧(w64 (i - 1)) < (s.length:Int)) (need (0≤i∧i < (s.length:Int)) (fork (!J6t (s.getD (Int.toNat (w64 (i - 1))) zSg).1 (s.getD (Int.toNat i) zSg).1) (some (.inr (.inl false))) (some (.inl (w64 (i+1))))))) (some (.inr (.inr s))):Option (Int⊕(Bool⊕List J7b))):=rfl
theorem Jrz (s:List J7b) {ρ:Type} (r r0:ρ):∀ (k i:Nat),i+k=s.length - 1→(∀ j,j < i→J6t (s.getD j zSg).1 (s.getD (j+1) zSg).1=true)→
  scan (fun i=>if J6t (s.getD i zSg).1 (s.getD (i+1) zSg).1=true then none else some r) r0 i k=if incS s=true then r0 else r
 | 0,i,h,hj=>by
  have:incS s=true:=List.all_eq_true.2 fun j hj'=>by
   have hj':j < (nmsS s).length - 1:=by simpa using hj'
   have hl:(nmsS s).length=s.length:=by simp [nmsS]
   rw [← Jrg,← Jrg]
   exact hj j (by omega)
  rw [if_pos this]; rfl
 | k+1,i,h,hj=>by
  rw [scan]
  by_cases e:J6t (s.getD i zSg).1 (s.getD (i+1) zSg).1=true
  ·rw [if_pos e]
   exact Jrz s r r0 k (i+1) (by omega) fun j hj'=>by
    rcases (show j < i∨j=i by omega) with h1 | rfl
    ·exact hj j h1
    ·exact e
  ·rw [if_neg e]
   have hl:(nmsS s).length=s.length:=by simp [nmsS]
   have:¬ incS s=true:=fun hall=>e (by
    have:=List.all_eq_true.1 hall i (by simp; omega)
    rwa [← Jrg,← Jrg] at this)
   rw [if_neg this]
theorem Jok (s:List J7b) (hs:s.length≤1073741824):J1m s=some (Jfv s):=by
 have h:J1m_1 s 1=some (scan (fun i=>if J6t (s.getD i zSg).1 (s.getD (i+1) zSg).1=true then none else some (.inl false)) (.inr s) 0 (s.length - 1)):=by
  unfold J1m_1
  refine J8y (step:=fun (x:Int)=>J1m_1_step s x) (fun i=>((i+1:Nat):Int)) _ _ (s.length - 1) (fun i hi h=>?_) (fun i r hi h=>?_) ?_ (s.length - 1) 0 (by omega)
  ·rw [Je2,J6e (by omega),J6f (n:=((i+1:Nat):Int) - 1) (by omega) (by omega),J6b (by omega),J6b (by omega),show Int.toNat (((i+1:Nat):Int) - 1)=i from by omega,Int.toNat_natCast]
   by_cases e:J6t (s.getD i zSg).1 (s.getD (i+1) zSg).1=true
   ·rw [e,J6f (by omega) (by omega)]; rfl
   ·rw [if_neg e] at h; cases h
  ·rw [Je2,J6e (by omega),J6f (n:=((i+1:Nat):Int) - 1) (by omega) (by omega),J6b (by omega),J6b (by omega),show Int.toNat (((i+1:Nat):Int) - 1)=i from by omega,Int.toNat_natCast]
   by_cases e:J6t (s.getD i zSg).1 (s.getD (i+1) zSg).1=true
   ·rw [if_pos e] at h; cases h
   ·rw [if_neg e] at h; injection h with h; subst h
    rw [Bool.not_eq_true] at e
    rw [e]; rfl
  ·rw [Je2,J6c (by omega)]
 unfold J1m Jfv
 rw [h,J6a,Jrz s _ _ (s.length - 1) 0 (by omega) (fun j hj=>by omega)]
 cases incS s with
 | true=>
  show some (decide ((s.length:Int)≤5))=some (true && decide (s.length≤5))
  rw [Bool.true_and]
  congr 1
  exact decide_eq_decide.2 (by omega)
 | false=>rfl
def Jj5 (h:Hdr):List UInt8:=sha (72::Jc3 h)
theorem Jj6 (h:Hdr):(Jj5 h).length=32:=J7x _
theorem Jy3 (h:Hdr) (hh:J8n h):J5a h=some (Jj5 h):=by
 unfold J5a
 rw [Jhx h hh]
 rfl
noncomputable def sgS (h:Hdr) (n seed:List UInt8):J7b:=(n,sigS seed h.1 (Jj5 h),())
def SgOk (s:List J7b):Prop:=∀ x ∈ s,Jsl x.2.1
theorem sg_at {s:List J7b} (h:SgOk s) (i:Nat):Jsl (s.getD i zSg).2.1:=by
 rw [List.getD_eq_getElem?_getD]
 cases e:s[i]? with
 | none=>exact Jzu
 | some x=>exact h x (List.mem_of_getElem? e)
def Jt4 (set:List Val) (h:Int) (d:List UInt8) (x:J7b):Bool:=(Jn9 set x.1).2 && verS (Jn9 set x.1).1.2.2.1 h d x.2.1
def Jc5 (set:List Val) (h:Int) (d:List UInt8) (s:List J7b):List (List UInt8):=(s.filter (Jt4 set h d)).map (·.1)
def Jgh (set:List Val) (h:Hdr) (s:List J7b):List (List UInt8):=if Jfv s then Jc5 set h.1 (Jj5 h) s else []
theorem Jk6 (set:List Val) (h:Int) (d:List UInt8) (s:List J7b):(Jc5 set h d s).length≤s.length:=by
 unfold Jc5
 rw [List.length_map]
 exact List.length_filter_le _ _
theorem Jpw (set:List Val) (h:Int) (d:List UInt8) (s:List J7b) {i:Nat} (hi:i < s.length):Jc5 set h d (s.take (i+1))=Jc5 set h d (s.take i)++(if Jt4 set h d (s.getD i zSg) then [(s.getD i zSg).1] else []):=by
 unfold Jc5
 rw [List.take_add_one,List.getElem?_eq_getElem hi,List.getD_eq_getElem?_getD,List.getElem?_eq_getElem hi]
 simp only [Option.toList_some,Option.getD_some,List.filter_append,List.map_append]
 by_cases hg:Jt4 set h d s[i]
 ·rw [List.filter_cons_of_pos hg,if_pos hg]; rfl
 ·rw [List.filter_cons_of_neg hg,if_neg hg]; rfl
theorem Jif (set:List Val) (s:List J7b) (n i:Int) (h:Hdr) (o:List (List UInt8)) (d:List UInt8):J1b_1_step set s n i h o d=(fork (decide (i < n)) (need (0≤i∧i < (s.length:Int)) (andThen (J1s set (s.getD (Int.toNat i) zSg).1) (fun u9=>fork u9.2 (andThen (J4z u9.1.2.2.1 h.1 d (s.getD (Int.toNat i) zSg).2.1) (fun u12=>fork u12 (need (o.length+([(s.getD (Int.toNat i) zSg).1]:List (List UInt8)).length≤2147483648) (some (.inl ((w64 (i+1)),o++([(s.getD (Int.toNat i) zSg).1]:List (List UInt8)))))) (some (.inl ((w64 (i+1)),o))))) (some (.inl ((w64 (i+1)),o)))))) (some (.inr o)):Option ((Int×List (List UInt8))⊕(List (List UInt8)))):=rfl
theorem Jzt (set:List Val) (hset:set.length≤1073741824) (h:Hdr) (hh:J8n h) (s:List J7b) (hl:s.length≤1073741824) (hs:SgOk s):J1b set h s=some (Jgh set h s):=by
 unfold J1b Jgh
 rw [Jok s hl,J6a]
 cases hr:Jfv s with
 | false=>rfl
 | true=>
  have main:∀ d:List UInt8,d.length≤100000→J1b_1 set s (s.length:Int) 0 h [] d=some (Jc5 set h.1 d s):=by
   intro d hd
   unfold J1b_1
   have:=J6l (step:=fun (x:Int×List (List UInt8))=>J1b_1_step set s (s.length:Int) x.1 h x.2 d) (fun i (_:Unit)=>((i:Int),Jc5 set h.1 d (s.take i))) (fun _ _=>()) (fun _=>Jc5 set h.1 d s) s.length (fun _ _=>True) (fun i w hi _=>⟨?_,trivial⟩) (fun w _=>?_) s.length 0 () (by omega) trivial
   ·exact this
   ·show J1b_1_step set s (s.length:Int) (i:Int) h (Jc5 set h.1 d (s.take i)) d=_
    have b:=Jk6 set h.1 d (s.take i)
    rw [List.length_take] at b
    have t:=Jpw set h.1 d s hi
    rw [Jif,J6e (by omega),J6b (by omega),Int.toNat_natCast,K1u set hset,J6a,t,J6f (by omega) (by omega)]
    unfold Jt4
    cases hf:(Jn9 set (s.getD i zSg).1).2 with
    | false=>rw [J6k,Bool.false_and,if_neg (by simp),List.append_nil]; rfl
    | true=>
     rw [J7l,Bool.true_and,Ver_eq _ _ d hd _ (sg_at hs i),J6a]
     cases hv:verS (Jn9 set (s.getD i zSg).1).1.2.2.1 h.1 d (s.getD i zSg).2.1 with
     | false=>rw [J6k,if_neg (by simp),List.append_nil]; rfl
     | true=>rw [J7l,J6b (by simp; omega),if_pos rfl]; rfl
   ·show J1b_1_step set s (s.length:Int) (s.length:Int) h (Jc5 set h.1 d (s.take s.length)) d=_
    rw [Jif,J6c (by omega),List.take_of_length_le (Nat.le_refl _)]
  rw [show (!true)=false from rfl,J6k,Jy3 h hh,J6a,main _ (by rw [Jj6]; omega),if_pos rfl]
  rfl
theorem Jtd (set:List Val) (h:Hdr) (s:List J7b):(Jgh set h s).length≤s.length:=by
 unfold Jgh
 split
 ·exact Jk6 _ _ _ _
 ·simp
def Jgn (set:List Val) (h:Hdr) (s:List J7b):Int:=pow (fun v=>(Jgh set h s).contains v.1) set
def allS (set:List Val):Int:=pow (fun _=>true) set
theorem K0u (set:List Val) (hset:Jc2 set) (h:Hdr) (s:List J7b):0≤Jgn set h s∧Jgn set h s≤4294967296:=by
 have:=Ja7 (fun v=>(Jgh set h s).contains v.1) set hset.2
 have:=hset.1
 unfold Jgn
 omega
theorem all_b (set:List Val) (hset:Jc2 set):0≤allS set∧allS set≤4294967296:=by
 have:=Ja7 (fun _=>true) set hset.2
 have:=hset.1
 unfold allS
 omega
theorem Jgk (set:List Val) (hset:Jc2 set) (h:Hdr) (hh:J8n h) (s:List J7b) (hl:s.length≤1000000) (hs:SgOk s):J4u set h s=some (Jgn set h s,allS set):=by
 have:=Jtd set h s
 unfold J4u
 rw [Jzt set (by have:=hset.1; omega) h hh s (by omega) hs,J6a,K00 set hset _ (by omega)]
 rfl
theorem Jvc (set:List Val) (hset:Jc2 set) (h:Hdr) (hh:J8n h) (s:List J7b) (hl:s.length≤1000000) (hs:SgOk s):J4o set h s=some (decide (allS set * 2 < Jgn set h s * 3)):=by
 unfold J4o
 rw [Jgk set hset h hh s hl hs,J6a,Jwt _ 2 3 (K0u set hset h s) (all_b set hset) (by omega) (by omega)]
 rfl
theorem K3g (set:List Val) (hset:Jc2 set) (h:Hdr) (hh:J8n h) (s:List J7b) (hl:s.length≤1000000) (hs:SgOk s):J59 set h s=some (decide (allS set * 1 < Jgn set h s * 3)):=by
 unfold J59
 rw [Jgk set hset h hh s hl hs,J6a,Jwt _ 1 3 (K0u set hset h s) (all_b set hset) (by omega) (by omega)]
 rfl
def J9v (i:Nat):List UInt8:=List.set (List.set (List.replicate 32 (0:UInt8)) 0 (77:UInt8)) 1 (UInt8.ofNat i)
theorem Jf5 (i:Nat):(J9v i).length=32:=by simp [J9v]
theorem Jpo (i:Nat):J44 (i:Int)=some (J9v i):=by
 unfold J44
 rw [J92]
 rfl
noncomputable def Jet (p:Nat→Int) (i:Nat):Val:=(nm i,p i,Jk0 (J9v i),())
noncomputable def J6g (p:Nat→Int) (n:Nat):List Val:=(List.range n).map (Jet p)
noncomputable def Jx9 (ps:List Int):List Val:=J6g (pw ps) (setN ps)
noncomputable def midS (p:Nat→Int) (n i:Nat):List Val:=(List.range n).map fun j=>if j < i then Jet p j else Jpu p j
theorem mid_step (p:Nat→Int) (n i:Nat) (h:i < n):List.set (midS p n i) i (((midS p n i).getD i zVal).1,((midS p n i).getD i zVal).2.1,Jk0 (J9v i),())=midS p n (i+1):=by
 have hg:(midS p n i).getD i zVal=Jpu p i:=by
  unfold midS
  rw [List.getD_eq_getElem?_getD,List.getElem?_map,List.getElem?_range h]
  simp
 rw [hg]
 unfold midS
 apply List.ext_getElem
 ·simp
 ·intro j h1 h2
  rw [List.getElem_set]
  simp only [List.getElem_map,List.getElem_range]
  by_cases e:i=j
  ·subst e; rw [if_pos rfl,if_pos (by omega)]; rfl
  ·rw [if_neg e]
   by_cases c:j < i
   ·rw [if_pos c,if_pos (by omega)]
   ·rw [if_neg c,if_neg (by omega)]
theorem Js3 (ps:List Int):1≤setN ps∧setN ps≤4:=by unfold setN; omega
theorem K0t:∀ i,i < 4→∀ j,j < 4→nm i=nm j→i=j:=by decide
theorem K0s:∀ i,i < 4→∀ j,j < 4→i < j→J6t (nm i) (nm j)=true:=by decide
theorem Jts (p:Nat→Int) (n:Nat) (h:n≤4):Dist (J6g p n):=by
 unfold Dist J6g
 rw [List.map_map]
 rw [List.nodup_iff_pairwise_ne,List.pairwise_map]
 refine List.Pairwise.imp_of_mem (fun {a b} ha hb hab e=>hab (K0t a (by have:=List.mem_range.1 ha; omega) b (by have:=List.mem_range.1 hb; omega) e)) (List.nodup_iff_pairwise_ne.1 List.nodup_range)
theorem Jq5 (p:Nat→Int) (n:Nat) (h:n≤4) (hp:∀ i,0≤p i∧p i≤2097152):Jc2 (J6g p n):=by
 refine ⟨by simp [J6g]; omega,fun v hv=>?_⟩
 obtain ⟨i,_,rfl⟩:=List.mem_map.1 hv
 exact hp i
theorem Jzd (set:List Val) (hd:Dist set) (h:Hdr) (h1:1≤h.1) (h2:h.1≤16) (v:Val) (hv:v ∈ set) (seed:List UInt8) (hk:v.2.2.1=Jk0 seed):Jt4 set h.1 (Jj5 h) (sgS h v.1 seed)=true:=by
 unfold Jt4 sgS
 simp only
 rw [K1v hd hv,hk,K3p _ _ _ h1 h2,Jeb]
 rfl
theorem sgS_ok (h:Hdr) (h1:1≤h.1) (h2:h.1≤16) (n seed:List UInt8):Jsl (sgS h n seed).2.1:=sig_ok seed h.1 h1 h2 _
noncomputable def sgJ (h:Hdr) (js:List Nat):List J7b:=js.map fun j=>sgS h (nm j) (J9v j)
def pwJ (p:Nat→Int) (js:List Nat):Int:=(js.map p).sum
theorem pwJ_b (p:Nat→Int) (hp:∀ i,0≤p i∧p i≤2097152):∀ js,0≤pwJ p js∧pwJ p js≤2097152 * js.length
 | []=>⟨Int.le_refl _,Int.le_refl _⟩
 | j::js=>by
  have:=pwJ_b p hp js
  have:=hp j
  unfold pwJ at *
  rw [List.map_cons,List.sum_cons,List.length_cons]
  omega
theorem K4 (p:Nat→Int) (js ks:List Nat):pwJ p (js++ks)=pwJ p js+pwJ p ks:=by
 unfold pwJ; rw [List.map_append,List.sum_append]
theorem Jwm (h:Hdr) (js:List Nat):nmsS (sgJ h js)=js.map nm:=by
 unfold nmsS sgJ
 rw [List.map_map]
 rfl
theorem Jw1 {js:List Nat} (h1:js.Pairwise (· < ·)) (h2:∀ j ∈ js,j < 4):incN (js.map nm)=true:=by
 refine K23 _ ?_
 rw [List.pairwise_map]
 exact List.Pairwise.imp_of_mem (fun {a b} ha hb hab=>K0s a (h2 a ha) b (h2 b hb) hab) h1
theorem sgJ_ok (h:Hdr) (h1:1≤h.1) (h2:h.1≤16) (js:List Nat):SgOk (sgJ h js):=by
 intro x hx
 obtain ⟨j,_,rfl⟩:=List.mem_map.1 hx
 exact sgS_ok h h1 h2 _ _
theorem Jx8 (h:Hdr) {js:List Nat} (h1:js.Pairwise (· < ·)) (h2:∀ j ∈ js,j < 4) (h3:js.length≤4):Jfv (sgJ h js)=true:=by
 unfold Jfv incS
 rw [Jwm,Jw1 h1 h2,Bool.true_and,decide_eq_true_eq]
 simp [sgJ]; omega
theorem Jtl (q:Val→Bool) (a b:List Val):pow q (a++b)=pow q a+pow q b:=by
 unfold pow
 rw [List.filter_append,List.map_append,List.sum_append]
theorem Jlx (p:Nat→Int) (q:Val→Bool) (f:Nat→Bool):∀ n,(∀ i,i < n→q (Jet p i)=f i)→pow q (J6g p n)=pwJ p ((List.range n).filter f)
 | 0,_=>rfl
 | n+1,h=>by
  have e:J6g p (n+1)=J6g p n++[Jet p n]:=by unfold J6g; rw [List.range_succ,List.map_append]; rfl
  rw [e,Jtl,Jlx p q f n fun i hi=>h i (by omega),List.range_succ,List.filter_append,K4,Jzy,K2h,h n (by omega)]
  congr 1
  by_cases c:f n
  ·rw [if_pos c,List.filter_cons_of_pos c,List.filter_nil]; simp [pwJ,Jet]
  ·rw [if_neg c,List.filter_cons_of_neg c,List.filter_nil]; rfl
theorem Jp5 {js:List Nat} {i:Nat} (h:∀ j ∈ js,j < 4) (hi:i < 4):(js.map nm).contains (nm i)=js.contains i:=by
 rw [Bool.eq_iff_iff]
 simp only [List.contains_iff_mem]
 constructor
 ·intro hm
  obtain ⟨j,hj,e⟩:=List.mem_map.1 hm
  rw [← K0t j (h j hj) i hi e]
  exact hj
 ·exact fun hm=>List.mem_map_of_mem hm
theorem Jmb (h:Hdr) (i:Nat):sgJ h (List.range (i+1))=sgJ h (List.range i)++[sgS h (nm i) (J9v i)]:=by
 unfold sgJ; rw [List.range_succ,List.map_append]; rfl
theorem Jg2 (h:Hdr) (js:List Nat):(sgJ h js).length=js.length:=by simp [sgJ]
abbrev Block:=Hdr×List J7b×List Val×List Val×Unit
def zBlk:Block:=(zHdr,([]:List J7b),([]:List Val),([]:List Val),())
def J6i (n:Nat):List (List UInt8):=(List.range n).map J9v
def J6n (n:Nat):List (List (List UInt8)):=(List.range n).map fun i=>J8x (J9v i)
def J7o (n:Nat):List (List UInt8):=(List.range n).map nm
theorem J7t {α:Type} (f:Nat→α) (z:α) {n i:Nat} (h:i < n):((List.range n).map f).getD i z=f i:=by
 rw [List.getD_eq_getElem?_getD,List.getElem?_map,List.getElem?_range h]; rfl
theorem Jgz {α:Type} (f:Nat→α) (i:Nat):(List.range (i+1)).map f=(List.range i).map f++[f i]:=by
 rw [List.range_succ,List.map_append]; rfl
theorem J90 {α:Type} (f:Nat→α) (n:Nat):((List.range n).map f).length=n:=by simp
def setV (p:Nat→Int) (n:Nat):List Val:=(List.range n).map (Jpu p)
theorem setS_v (ps:List Int):setS ps=setV (pw ps) (setN ps):=rfl
theorem chain1 (n:Nat) (hn:n≤4) (set:List Val):Jh_1 (n:Int) 0 set []=some (set,J6i n):=by
 unfold Jh_1
 have:=J6l (step:=fun (t:Int×List (List UInt8))=>Jh_1_step (n:Int) t.1 set t.2) (fun i (_:Unit)=>((i:Int),J6i i)) (fun _ _=>()) (fun _=>(set,J6i n)) n (fun _ _=>True) (fun i w hi _=>⟨?_,trivial⟩) (fun w _=>?_) n 0 () (by omega) trivial
 ·exact this
 ·show Jh_1_step (n:Int) (i:Int) set (J6i i)=_
  unfold Jh_1_step
  have hl:(J6i i).length=i:=J90 _ _
  rw [J6e (by omega),Jpo,J6a,J6b (by rw [hl]; simp only [List.length_cons,List.length_nil]; omega),J6f (by omega) (by omega)]
  unfold J6i
  rw [Jgz]
  rfl
 ·show Jh_1_step (n:Int) (n:Int) set (J6i n)=_
  unfold Jh_1_step
  rw [J6c (by omega)]
theorem Jwk (n i:Int) (set:List Val) (seeds:List (List UInt8)) (u:Unit) (r:List (List (List UInt8))) (ns:List (List UInt8)):Jl_1_step n i set seeds u r ns =
  (fork (decide (i < n)) (need (0≤i∧i < (List.length set:Int)) (need (List.length ns+List.length ([(set.getD (Int.toNat i) zVal).1]:List (List UInt8))≤2147483648) (need (0≤i∧i < (List.length seeds:Int)) (andThen (J01 (List.getD seeds (Int.toNat i) (List.replicate 32 (0:UInt8)))) (fun u6=>need (List.length r+List.length ([u6]:List (List (List UInt8)))≤2147483648) (some (.inl ((w64 (i+(1:Int))),(r++([u6]:List (List (List UInt8)))),(ns++([(set.getD (Int.toNat i) zVal).1]:List (List UInt8))))))))))) (some (.inr (set,seeds,u,r,ns))):Option ((Int×List (List (List UInt8))×List (List UInt8))⊕((List Val)×List (List UInt8)×Unit×List (List (List UInt8))×List (List UInt8)))):=rfl
theorem Jpx (p:Nat→Int) (n:Nat) (hn:n≤4):Jl (setV p n) (J6i n)=some (setV p n,J6i n,(),J6n n,J7o n):=by
 have hl:(setV p n).length=n:=J90 _ _
 have hs:(J6i n).length=n:=J90 _ _
 have main:Jl_1 (n:Int) 0 (setV p n) (J6i n) () [] []=some (setV p n,J6i n,(),J6n n,J7o n):=by
  unfold Jl_1
  have:=J6l (step:=fun (t:Int×List (List (List UInt8))×List (List UInt8))=>Jl_1_step (n:Int) t.1 (setV p n) (J6i n) () t.2.1 t.2.2) (fun i (_:Unit)=>((i:Int),J6n i,J7o i)) (fun _ _=>()) (fun _=>(setV p n,J6i n,(),J6n n,J7o n)) n (fun _ _=>True) (fun i w hi _=>⟨?_,trivial⟩) (fun w _=>?_) n 0 () (by omega) trivial
  ·exact this
  ·show Jl_1_step (n:Int) (i:Int) (setV p n) (J6i n) () (J6n i) (J7o i)=_
   have h1:(J6n i).length=i:=J90 _ _
   have h2:(J7o i).length=i:=J90 _ _
   have g1:(setV p n).getD i zVal=Jpu p i:=J7t _ _ hi
   have g2:(J6i n).getD i (List.replicate 32 (0:UInt8))=J9v i:=J7t _ _ hi
   rw [Jwk,J6e (by omega),J6b (by omega),Int.toNat_natCast,g1,g2,J6b (by rw [h2]; simp only [List.length_cons,List.length_nil]; omega),J6b (by omega),K5 _ (Jf5 i),J6a,J6b (by rw [h1]; simp only [List.length_cons,List.length_nil]; omega),J6f (by omega) (by omega)]
   unfold J6n J7o
   rw [Jgz,Jgz]
   rfl
  ·show Jl_1_step (n:Int) (n:Int) (setV p n) (J6i n) () (J6n n) (J7o n)=_
   rw [Jwk,J6c (by omega)]
 unfold Jl
 rw [hl,main]
 rfl
theorem Jqp (n i:Int) (set:List Val) (u:Unit) (seeds:List (List UInt8)) (r:List (List (List UInt8))) (ns:List (List UInt8)):Jh_2_step n i set u seeds r ns =
  (fork (decide (i < n)) (need (0≤i∧i < (List.length r:Int)) (andThen (J06 (List.getD r (Int.toNat i) ([]:List (List UInt8)))) (fun u15=>need (0≤i∧i < (List.length set:Int)) (some (.inl ((w64 (i+(1:Int))),(List.set set (Int.toNat i) ((set.getD (Int.toNat i) zVal).1,(set.getD (Int.toNat i) zVal).2.1,u15,())))))))) (some (.inr (u,seeds,r,ns,set))):Option ((Int×List Val)⊕(Unit×List (List UInt8)×List (List (List UInt8))×List (List UInt8)×List Val))):=rfl
theorem chain2 (p:Nat→Int) (n:Nat) (hn:n≤4):Jh_2 (n:Int) 0 (setV p n) () (J6i n) (J6n n) (J7o n)=some ((),J6i n,J6n n,J7o n,J6g p n):=by
 have hr:(J6n n).length=n:=J90 _ _
 unfold Jh_2
 have:=J6l (step:=fun (t:Int×List Val)=>Jh_2_step (n:Int) t.1 t.2 () (J6i n) (J6n n) (J7o n)) (fun i (_:Unit)=>((i:Int),midS p n i)) (fun _ _=>()) (fun _=>((),J6i n,J6n n,J7o n,J6g p n)) n (fun _ _=>True) (fun i w hi _=>⟨?_,trivial⟩) (fun w _=>?_) n 0 () (by omega) trivial
 ·rw [show setV p n=midS p n 0 from by unfold setV midS; congr 1]
  exact this
 ·show Jh_2_step (n:Int) (i:Int) (midS p n i) () (J6i n) (J6n n) (J7o n)=_
  have hm:(midS p n i).length=n:=by simp [midS]
  have g1:(J6n n).getD i []=J8x (J9v i):=J7t _ _ hi
  rw [Jqp,J6e (by omega),J6b (by omega),Int.toNat_natCast,g1,Jh5 _ (by rw [J8f]; omega) (Jdw _),J6a,J6b (by omega),J6f (by omega) (by omega)]
  show some (Sum.inl (_,List.set (midS p n i) i (((midS p n i).getD i zVal).1,((midS p n i).getD i zVal).2.1,Jk0 (J9v i),())))=_
  rw [mid_step _ _ _ hi]
  rfl
 ·show Jh_2_step (n:Int) (n:Int) (midS p n n) () (J6i n) (J6n n) (J7o n)=_
  rw [Jqp,J6c (by omega)]
  unfold midS J6g
  congr 6
  apply List.map_congr_left
  intro j hj
  rw [if_pos (List.mem_range.1 hj)]
theorem Jqr (ps:List Int) (hp:ps.length≤140737488351232):Jh ps=some ((),J6i (setN ps),J6n (setN ps),J7o (setN ps),Jx9 ps):=by
 have hn:=Js3 ps
 have hl:(setV (pw ps) (setN ps)).length=setN ps:=J90 _ _
 unfold Jh
 rw [set_eq ps hp,J6a,setS_v,hl,chain1 _ hn.2,J6a]
 simp only
 rw [Jpx _ _ hn.2,J6a]
 simp only
 rw [hl,chain2 _ _ hn.2]
 rfl
noncomputable def Jxc:List UInt8:=sha (83::(oneS 0++J8m []))
theorem Joe:Jxc.length=32:=J7x _
theorem Jme:J27 []=some Jxc:=by
 have h1:J0i []=some []:=by
  unfold J0i J0i_1
  rw [J6z (r:=[]) rfl]; rfl
 have h2:=Jh5 [] (by simp) (fun x hx=>nomatch hx)
 have h3:[oneS 0,J8m []].flatten=oneS 0++J8m []:=by simp
 have h4:(J8m []).length≤1000000:=by rw [J7w]; omega
 have h5:=J7q 0
 unfold J27
 rw [h1,J6a,h2,J6a]
 unfold J4h
 rw [show ((([]:List (List UInt8×List UInt8×Unit)).length:Int))=0 from rfl,Jfy,J6a,J7p _ _ (by rw [h3,List.length_append]; omega) (by simp),h3]
 rfl
def lastB (B:List Block):Block:=B.getD (B.length - 1) zBlk
noncomputable def hdS (S:List Val) (B:List Block) (t:Int):Hdr:=
 if B.length=0 then (1,t,Jxc,setH S,setH S,List.replicate 32 0,())
 else ((B.length:Int)+1,t,Jxc,setH (lastB B).2.2.2.1,setH S,sha (72::Jfg (lastB B).1),())
theorem Jt6 (S:List Val) (B:List Block) (t:Int):J8n (hdS S B t):=by
 unfold hdS
 split
 ·exact ⟨Joe,J8j _,J8j _,by simp⟩
 ·exact ⟨Joe,J8j _,J8j _,J7x _⟩
theorem hdS_1 (S:List Val) (B:List Block) (t:Int):(hdS S B t).1=(B.length:Int)+1:=by
 unfold hdS; split
 ·show (1:Int)=_; omega
 ·rfl
theorem hdS_t (S:List Val) (B:List Block) (t:Int):(hdS S B t).2.1=t:=by unfold hdS; split <;> rfl
def nowS (S:List Val) (B:List Block):List Val:=if B.length=0 then S else (lastB B).2.2.2.1
theorem Jvz {S:List Val} {B:List Block} {t:Int} (hb:B.length < 16) (h1:0≤t) (h2:t≤1073741824):J8a (hdS S B t)=true:=by
 rw [Jbx,hdS_1,hdS_t]; omega
noncomputable def blkS (n:Nat) (S:List Val) (B:List Block) (t:Int):Block:=(hdS S B t,sgJ (hdS S B t) (List.range n),nowS S B,S,())
theorem Jy2 {h:Hdr} (hr:J8a h=true):Jj5 h=sha (72::Jfg h):=by
 unfold Jj5 Jc3; rw [if_pos hr]
abbrev Rows:=List (List (List UInt8×List UInt8×Unit))
theorem Jt9 (B:List Block) (b:Block):lastB (B++[b])=b:=by
 unfold lastB
 rw [List.length_append,List.getD_eq_getElem?_getD,List.getElem?_append_right (by simp)]
 simp
theorem Jm4 (p:Nat→Int) (n:Nat) (h:n≤4):Joy (J6g p n):=by
 refine ⟨by simp [J6g]; omega,fun v hv=>?_⟩
 obtain ⟨i,hi,rfl⟩:=List.mem_map.1 hv
 have hi:=List.mem_range.1 hi
 have:∀ i,i < 4→(nm i).length≤100000:=by decide
 exact ⟨this i (by omega),J7w _⟩
abbrev eqH (x y:List UInt8):Bool:=Ty.beq (.arr 32 (.int .u8)) x y
abbrev Cli:=List Hdr×List Val×Int×Bool×Unit
def Jsj (l:List Val):Prop:=∀ v ∈ l,v.2.2.1.length=32
def K19 (b:Block):Prop:=J8n b.1∧SgOk b.2.1∧b.2.1.length≤1000000∧Jsj b.2.2.1∧Jsj b.2.2.2.1∧b.2.2.1.length≤1000000∧b.2.2.2.1.length≤1000000
theorem Jiv {l:List Val} (h:Jan l=true):Jc2 l∧l.length≤5∧1≤l.length∧∀ v ∈ l,v.1.length≤16:=by
 unfold Jan at h
 simp only [Bool.and_eq_true,decide_eq_true_eq] at h
 obtain ⟨h1,h2,h3⟩:=h
 have key:∀ v ∈ l,mayS v=true:=by
  intro v hv
  obtain ⟨i,hi,rfl⟩:=List.getElem_of_mem hv
  have:=List.all_eq_true.1 h1 i (List.mem_range.2 hi)
  unfold okAt at this
  rw [Bool.and_eq_true] at this
  rw [List.getD_eq_getElem?_getD,List.getElem?_eq_getElem hi] at this
  exact this.1
 have key2:∀ v ∈ l,v.1.length≤16∧1≤v.2.1∧v.2.1≤1048576:=by
  intro v hv
  have:=key v hv
  unfold mayS at this
  simp only [Bool.and_eq_true,decide_eq_true_eq] at this
  omega
 exact ⟨⟨by omega,fun v hv=>by have:=key2 v hv; omega⟩,h3,h2,fun v hv=>(key2 v hv).1⟩
theorem Jm3 {l:List Val} (h:Jan l=true) (hk:Jsj l):Joy l:=by
 obtain ⟨_,h2,_,h4⟩:=Jiv h
 exact ⟨by omega,fun v hv=>⟨by have:=h4 v hv; omega,hk v hv⟩⟩
def Jj9 (b:Block):Bool:=J8a b.1 && (Jan b.2.2.1 && (Jan b.2.2.2.1 && (decide (b.2.1.length≤5) && (eqH (setH b.2.2.1) b.1.2.2.2.1 && eqH (setH b.2.2.2.1) b.1.2.2.2.2.1))))
theorem K07 (b:Block) (hb:K19 b):J5f b=some (Jj9 b):=by
 obtain ⟨b1,b2,b3,b4,b5,b6,b7⟩:=hb
 unfold J5f Jj9
 rw [Jcq,J6a]
 cases c1:J8a b.1 with
 | false=>rfl
 | true=>
  rw [J7l,right_eq _ (by omega),J6a]
  cases c2:Jan b.2.2.1 with
  | false=>rfl
  | true=>
   rw [J7l,right_eq _ (by omega),J6a]
   cases c3:Jan b.2.2.2.1 with
   | false=>rfl
   | true=>
    rw [J7l]
    by_cases c4:b.2.1.length≤5
    ·rw [J6e (by omega),J9b _ (Jm3 c2 b4),J6a,decide_eq_true c4]
     cases c5:Ty.beq (.arr 32 (.int .u8)) (setH b.2.2.1) b.1.2.2.2.1 with
     | false=>rw [show eqH (setH b.2.2.1) b.1.2.2.2.1=false from c5]; rfl
     | true=>rw [show eqH (setH b.2.2.1) b.1.2.2.2.1=true from c5,J7l,J9b _ (Jm3 c3 b5),J6a]; rfl
    ·rw [J6c (by omega),decide_eq_false c4]; rfl
def lastH (c:Cli):Hdr:=c.1.getD (c.1.length - 1) zHdr
theorem Jpq (c:Cli):J1j c=need (0≤(w64 ((List.length c.1:Int) - (1:Int)))∧(w64 ((List.length c.1:Int) - (1:Int))) < (List.length c.1:Int)) (some (List.getD c.1 (Int.toNat (w64 ((List.length c.1:Int) - (1:Int)))) zHdr)):=rfl
theorem Jnn (c:Cli) (h1:1≤c.1.length) (h2:c.1.length≤1000000):J1j c=some (lastH c):=by
 rw [Jpq,J6f (by omega) (by omega),J6b (by omega)]
 unfold lastH
 congr 2
 omega
def K1a (c:Cli):Prop:=1≤c.1.length∧c.1.length≤1000000∧Jc2 c.2.1∧(0≤(lastH c).1∧(lastH c).1≤1099511627776)∧(0≤(lastH c).2.1∧(lastH c).2.1≤1099511627776)
theorem Jju (now:Int) (c:Cli) (hc:K1a c) (hn:-1099511627776≤now∧now≤1099511627776):J0h now c=some (decide (c.2.2.1 < now - (lastH c).2.1)):=by
 obtain ⟨h1,h2,_,_,h5⟩:=hc
 unfold J0h
 rw [Jnn c h1 h2,J6a,J6f (by omega) (by omega)]
theorem Jef (l:List Val) (h:l.length≤2147483648):J9 l=some l:=by unfold J9; rw [J6b h]
theorem Jhg (l:List Hdr) (h:l.length≤2147483648):J00 l=some l:=by unfold J00; rw [J6b h]
def enS (set:List Val) (h:Hdr) (s:List J7b):Bool:=decide (allS set * 2 < Jgn set h s * 3)
def soS (set:List Val) (h:Hdr) (s:List J7b):Bool:=decide (allS set * 1 < Jgn set h s * 3)
def cut6 (l:List Hdr):List Hdr:=if 6 < l.length then l.drop 1 else l
def updS (b:Block) (now:Int) (c:Cli):Int×Cli:=
 if c.2.2.2.1=true then (5,c) else if Jj9 b=false then (1,c) else if b.1.1≤(lastH c).1 then (8,c) else if b.1.2.1≤(lastH c).2.1 then (1,c)
 else if c.2.2.1 < now - (lastH c).2.1 then (6,c) else if now < b.1.2.1 then (6,c)
 else if b.1.1=(lastH c).1+1∧eqH b.1.2.2.2.1 (lastH c).2.2.2.2.1=false then (9,c) else if enS b.2.2.1 b.1 b.2.1=false then (9,c)
 else if b.1.1≠(lastH c).1+1∧soS c.2.1 b.1 b.2.1=false then (9,c)
 else (0,(cut6 (c.1++[b.1]),b.2.2.2.1,c.2.2.1,c.2.2.2.1,()))
theorem K3j (b:Block) (c:Cli) (hc:c.1.length≤1000000) (hb:b.2.2.2.1.length≤1000000):(andThen (J00 c.1) (fun u22=>need (List.length u22+List.length ([b.1]:List Hdr)≤2147483648) (fork (decide ((6:Int) < (List.length (u22++([b.1]:List Hdr)):Int))) (need (0≤(1:Int)∧(1:Int)≤(List.length (u22++([b.1]:List Hdr)):Int)∧(List.length (u22++([b.1]:List Hdr)):Int)≤(List.length (u22++([b.1]:List Hdr)):Int)) (andThen (J9 b.2.2.2.1) (fun u27=>some ((0:Int),((cutL (u22++([b.1]:List Hdr)) (1:Int) (List.length (u22++([b.1]:List Hdr)):Int)),u27,c.2.2.1,c.2.2.2.1,()))))) (andThen (J9 b.2.2.2.1) (fun u29=>some ((0:Int),((u22++([b.1]:List Hdr)),u29,c.2.2.1,c.2.2.2.1,())))))):Option (Int×Cli)) =
  some (0,(cut6 (c.1++[b.1]),b.2.2.2.1,c.2.2.1,c.2.2.2.1,())):=by
 have hl:(c.1++[b.1]).length=c.1.length+1:=by simp
 have h1:([b.1]:List Hdr).length=1:=rfl
 rw [Jhg _ (by omega),J6a,J6b (by omega)]
 unfold cut6
 by_cases h:(6:Int) < ((c.1++[b.1]).length:Int)
 ·rw [J6e h,J6b (by omega),Jef _ (by omega),J6a,if_pos (by omega),J8v]
  rfl
 ·rw [J6c h,Jef _ (by omega),J6a,if_neg (by omega)]
theorem upd_eq (b:Block) (now:Int) (c:Cli) (hb:K19 b) (hc:K1a c) (hn:-1099511627776≤now∧now≤1099511627776):J25 b now c=some (updS b now c):=by
 have hex:=Jju now c hc hn
 obtain ⟨c1,c2,c3,c4,c5⟩:=hc
 have hw:=K07 b hb
 obtain ⟨b1,b2,b3,b4,b5,b6,b7⟩:=hb
 have wl:w64 ((lastH c).1+1)=(lastH c).1+1:=J6f (by omega) (by omega)
 have htail:=K3j b c (by omega) (by omega)
 unfold J25 updS
 rw [Jnn c c1 c2,J6a]
 by_cases q1:c.2.2.2.1=true
 ·rw [q1,J7l,if_pos rfl]
 rw [if_neg q1]
 have q1:c.2.2.2.1=false:=by simpa using q1
 rw [q1] at htail ⊢
 rw [J6k,hw,J6a]
 cases q2:Jj9 b with
 | false=>rw [if_pos rfl]; rfl
 | true=>
  rw [if_neg (by simp),Bool.not_true,J6k]
  have hset:Jc2 b.2.2.1:=by
   unfold Jj9 at q2
   simp only [Bool.and_eq_true] at q2
   exact (Jiv q2.2.1).1
  by_cases q3:b.1.1≤(lastH c).1
  ·rw [J6e q3,if_pos q3]
  rw [J6c q3,if_neg q3]
  by_cases q4:b.1.2.1≤(lastH c).2.1
  ·rw [J6e q4,if_pos q4]
  rw [J6c q4,if_neg q4,hex,J6a]
  by_cases q5:c.2.2.1 < now - (lastH c).2.1
  ·rw [J6e q5,if_pos q5]
  rw [J6c q5,if_neg q5]
  by_cases q6:now < b.1.2.1
  ·rw [J6e q6,if_pos q6]
  rw [J6c q6,if_neg q6,wl]
  have en:=Jvc b.2.2.1 hset b.1 b1 b.2.1 b3 b2
  have so:=K3g c.2.1 c3 b.1 b1 b.2.1 b3 b2
  rw [show decide (allS b.2.2.1 * 2 < Jgn b.2.2.1 b.1 b.2.1 * 3)=enS b.2.2.1 b.1 b.2.1 from rfl] at en
  rw [show decide (allS c.2.1 * 1 < Jgn c.2.1 b.1 b.2.1 * 3)=soS c.2.1 b.1 b.2.1 from rfl] at so
  by_cases q7:b.1.1=(lastH c).1+1
  ·rw [J6e q7]
   cases q8:Ty.beq (.arr 32 (.int .u8)) b.1.2.2.2.1 (lastH c).2.2.2.2.1 with
   | false=>rw [if_pos ⟨q7,q8⟩]; rfl
   | true=>
    rw [if_neg (by rw [show eqH b.1.2.2.2.1 (lastH c).2.2.2.2.1=true from q8]; simp),Bool.not_true,J6k,en,J6a]
    cases q9:enS b.2.2.1 b.1 b.2.1 with
    | false=>rw [if_pos rfl]; rfl
    | true=>
     rw [if_neg (by simp),Bool.not_true,J6k,J9k q7,if_neg (fun h=>h.1 q7)]
     exact htail
  ·rw [J6c q7,if_neg (fun h=>q7 h.1),en,J6a]
   cases q9:enS b.2.2.1 b.1 b.2.1 with
   | false=>rw [if_pos rfl]; rfl
   | true=>
    rw [if_neg (by simp),Bool.not_true,J6k,Jbm q7,so,J6a]
    cases q10:soS c.2.1 b.1 b.2.1 with
    | false=>rw [if_pos ⟨q7,rfl⟩]; rfl
    | true=>
     rw [if_neg (by simp),Bool.not_true,J6k]
     exact htail
def newS (h:Hdr) (next:List Val) (p:Int):Int⊕(Int×Cli):=
 if J8a h=true∧Jan next=true∧eqH h.2.2.2.2.1 (setH next)=true∧(0≤p∧p≤1073741824) then .inr (0,([h],next,p,false,())) else .inl 1
theorem new_eq (h:Hdr) (next:List Val) (p:Int) (hk:Jsj next) (hl:next.length≤1000000):J57 h next p=some (newS h next p):=by
 unfold J57 newS
 rw [Jcq,J6a]
 cases q1:J8a h with
 | false=>rw [if_neg (by simp)]; rfl
 | true=>
  rw [Bool.not_true,J6k,right_eq _ (by omega),J6a]
  cases q2:Jan next with
  | false=>rw [if_neg (by simp)]; rfl
  | true=>
   rw [Bool.not_true,J6k,J9b _ (Jm3 q2 hk),J6a]
   cases q3:Ty.beq (.arr 32 (.int .u8)) h.2.2.2.2.1 (setH next) with
   | false=>rw [if_neg (by rw [show eqH h.2.2.2.2.1 (setH next)=false from q3]; simp)]; rfl
   | true=>
    rw [Bool.not_true,J6k]
    unfold J5j
    by_cases q4:0≤p
    ·rw [J6e q4,J6a]
     by_cases q5:p≤1073741824
     ·rw [decide_eq_true q5,Bool.not_true,J6k,Jef _ (by omega),if_pos ⟨rfl,rfl,q3,q4,q5⟩]
      rfl
     ·rw [decide_eq_false q5,if_neg (by omega)]; rfl
    ·rw [J6c q4,J6a,if_neg (by omega)]; rfl
theorem Jte (p:Nat→Int) {n:Nat} (hn:n≤4) (h:Hdr) (h1:1≤h.1) (h2:h.1≤16) {js:List Nat} (q1:js.Pairwise (· < ·)) (q2:∀ j ∈ js,j < n) (q3:js.length≤4):Jgh (J6g p n) h (sgJ h js)=js.map nm:=by
 unfold Jgh Jc5
 rw [if_pos (Jx8 h q1 (fun j hj=>by have:=q2 j hj; omega) q3),List.filter_eq_self.2,← Jwm h js]
 ·rfl
 ·intro x hx
  obtain ⟨j,hj,rfl⟩:=List.mem_map.1 hx
  exact Jzd _ (Jts p n hn) h h1 h2 (Jet p j) (List.mem_map_of_mem (List.mem_range.2 (q2 j hj))) (J9v j) rfl
theorem Jza (g:Nat→Bool) (n:Nat):((List.range n).filter g).Pairwise (· < ·):=List.Pairwise.filter _ List.pairwise_lt_range
theorem Jvn {g:Nat→Bool} {n j:Nat} (h:j ∈ (List.range n).filter g):j < n:=List.mem_range.1 (List.mem_filter.1 h).1
theorem Jlf (g:Nat→Bool) (n:Nat):((List.range n).filter g).length≤n:=by
 have:=List.length_filter_le g (List.range n)
 rwa [List.length_range] at this
theorem Jo4 (p:Nat→Int) {n:Nat} (hn:n≤4) (h:Hdr) (h1:1≤h.1) (h2:h.1≤16) (g:Nat→Bool):Jgn (J6g p n) h (sgJ h ((List.range n).filter g))=pwJ p ((List.range n).filter g):=by
 have hl:=Jlf g n
 unfold Jgn
 rw [Jte p hn h h1 h2 (Jza g n) (fun j hj=>Jvn hj) (by omega)]
 refine Jlx p _ g n fun i hi=>?_
 show (((List.range n).filter g).map nm).contains (nm i)=g i
 rw [Jp5 (fun j hj=>by have:=Jvn hj; omega) (by omega),Bool.eq_iff_iff]
 simp only [List.contains_iff_mem,List.mem_filter,List.mem_range]
 exact ⟨fun x=>x.2,fun x=>⟨hi,x⟩⟩
theorem Jle (n:Nat):(List.range n).filter (fun _=>true)=List.range n:=List.filter_eq_self.2 fun _ _=>rfl
theorem Jmq (p:Nat→Int) (n:Nat):allS (J6g p n)=pwJ p (List.range n):=by
 unfold allS
 rw [Jlx p (fun _=>true) (fun _=>true) n (fun _ _=>rfl),Jle]
def PwOk (p:Nat→Int):Prop:=∀ i,1≤p i∧p i≤1000000
theorem K2k (ps:List Int):PwOk (pw ps):=fun i=>by have:=pw_b ps i; omega
theorem PwOk.s {p:Nat→Int} (h:PwOk p):∀ i,0≤p i∧p i≤2097152:=fun i=>by have:=h i; omega
theorem K2j {p:Nat→Int} (h:PwOk p):∀ js:List Nat,js≠[]→1≤pwJ p js
 | [],e=>absurd rfl e
 | j::js,_=>by
  have:=h j
  have:=pwJ_b p h.s js
  unfold pwJ at *
  rw [List.map_cons,List.sum_cons]; omega
theorem K6 {n:Nat} (h:1≤n):List.range n≠[]:=fun e=>by have:=congrArg List.length e; simp at this; omega
theorem Jby {p:Nat→Int} (hp:PwOk p) {n:Nat} (h1:1≤n) (hn:n≤4):Jan (J6g p n)=true:=by
 have hl:(J6g p n).length=n:=by simp [J6g]
 have hg:∀ i,i < n→(J6g p n).getD i zVal=Jet p i:=fun i hi=>J7t _ _ hi
 have h2:∀ i,i < 4→nm i≠[]∧(nm i).length≤16:=by decide
 unfold Jan
 rw [hl]
 simp only [Bool.and_eq_true,decide_eq_true_eq]
 refine ⟨List.all_eq_true.2 fun i hi=>?_,by omega,by omega⟩
 have hi:=List.mem_range.1 hi
 obtain ⟨a,b⟩:=h2 i (by omega)
 have:=hp i
 unfold okAt mayS
 rw [hg i hi]
 simp only [Bool.and_eq_true,Bool.or_eq_true,Bool.not_eq_true',decide_eq_true_eq,decide_eq_false_iff_not,beq_iff_eq]
 refine ⟨⟨a,?_,this.1,?_⟩,?_⟩
 ·show ((nm i).length:Int)≤16; omega
 ·show p i≤1048576; omega
 ·by_cases c:i=0
  ·exact .inl c
  ·right
   rw [hg (i - 1) (by omega)]
   exact K0s (i - 1) (by omega) i (by omega) (by omega)
theorem Jix (p:Nat→Int) (n:Nat):Jsj (J6g p n):=by
 intro v hv
 obtain ⟨i,hi,rfl⟩:=List.mem_map.1 hv
 exact J7w _
theorem Jod {p:Nat→Int} (hp:PwOk p) {n:Nat} (hn:n≤4):Jc2 (J6g p n):=Jq5 p n hn hp.s
noncomputable def blF (n:Nat) (S:List Val) (f:Nat→Int):Nat→List Block
 | 0=>[]
 | k+1=>blF n S f k++[blkS n S (blF n S f k) (f k)]
noncomputable def hF (n:Nat) (S:List Val) (f:Nat→Int) (j:Nat):Hdr:=hdS S (blF n S f j) (f j)
def Rise (f:Nat→Int):Prop:=(∀ i,i < 16→0≤f i∧f i≤1000000000)∧∀ i,i+1 < 16→f i < f (i+1)
theorem Rise.lt {f:Nat→Int} (h:Rise f) {i:Nat}:∀ {j:Nat},i < j→j < 16→f i < f j
 | j+1,hij,hj=>by
  have:=h.2 j hj
  rcases Nat.lt_or_ge i j with c | c
  ·have:=h.lt c (by omega); omega
  ·have:i=j:=by omega
   subst this; omega
def Knows (S:List Val) (P:Int) (h:Hdr) (c:Cli):Prop:=1≤c.1.length∧c.1.length≤1000∧lastH c=h∧c.2.1=S∧c.2.2.1=P∧c.2.2.2.1=false
theorem Jk2 (l:List Hdr) (h:Hdr) (x:List Val×Int×Bool×Unit):lastH (l++[h],x)=h:=by
 unfold lastH
 simp only
 rw [List.length_append,List.getD_eq_getElem?_getD,List.getElem?_append_right (by simp)]
 simp
theorem Jw9 (l:List Hdr) (h:Hdr) (x:List Val×Int×Bool×Unit) (hl:1≤l.length):lastH (cut6 (l++[h]),x)=h:=by
 unfold cut6
 split
 ·rw [List.drop_append_of_le_length hl]
  exact Jk2 _ _ _
 ·exact Jk2 _ _ _
noncomputable def hdR (r:List UInt8) (S:List Val) (B:List Block) (t:Int):Hdr:=
 if B.length=0 then (1,t,r,setH S,setH S,List.replicate 32 0,())
 else ((B.length:Int)+1,t,r,setH (lastB B).2.2.2.1,setH S,sha (72::Jfg (lastB B).1),())
theorem Jt5 {r:List UInt8} (hr32:r.length=32) (S:List Val) (B:List Block) (t:Int):J8n (hdR r S B t):=by
 unfold hdR
 split
 ·exact ⟨hr32,J8j _,J8j _,by simp⟩
 ·exact ⟨hr32,J8j _,J8j _,J7x _⟩
theorem hdR_1 (r:List UInt8) (S:List Val) (B:List Block) (t:Int):(hdR r S B t).1=(B.length:Int)+1:=by
 unfold hdR; split
 ·show (1:Int)=_; omega
 ·rfl
theorem hdR_t (r:List UInt8) (S:List Val) (B:List Block) (t:Int):(hdR r S B t).2.1=t:=by unfold hdR; split <;> rfl
theorem Jzf (r:List UInt8) (S:List Val) (B:List Block) (t:Int):(hdR r S B t).2.2.2.2.1=setH S:=by unfold hdR; split <;> rfl
theorem Jzg (r:List UInt8) (S:List Val) (B:List Block) (t:Int):(hdR r S B t).2.2.2.1=setH (nowS S B):=by unfold hdR nowS; split <;> rfl
theorem Jvy {r:List UInt8} {S:List Val} {B:List Block} {t:Int} (hb:B.length < 16) (h1:0≤t) (h2:t≤1073741824):J8a (hdR r S B t)=true:=by
 rw [Jbx,hdR_1,hdR_t]; omega
noncomputable def blkR (n:Nat) (r:List UInt8) (S:List Val) (B:List Block) (t:Int):Block:=(hdR r S B t,sgJ (hdR r S B t) (List.range n),nowS S B,S,())
noncomputable def blG (n:Nat) (r:Nat→List UInt8) (S:Nat→List Val) (f:Nat→Int):Nat→List Block
 | 0=>[]
 | k+1=>blG n r S f k++[blkR n (r k) (S k) (blG n r S f k) (f k)]
noncomputable def hG (n:Nat) (r:Nat→List UInt8) (S:Nat→List Val) (f:Nat→Int) (j:Nat):Hdr:=hdR (r j) (S j) (blG n r S f j) (f j)
def preS (S:Nat→List Val) (j:Nat):List Val:=if j=0 then S 0 else S (j - 1)
noncomputable def genB (n:Nat) (r:Nat→List UInt8) (S:Nat→List Val) (f:Nat→Int) (j:Nat):Block:=(hG n r S f j,sgJ (hG n r S f j) (List.range n),preS S j,S j,())
theorem Jbh (n:Nat) (r:Nat→List UInt8) (S:Nat→List Val) (f:Nat→Int):∀ k,(blG n r S f k).length=k
 | 0=>rfl
 | k+1=>by rw [blG,List.length_append,Jbh n r S f k]; rfl
theorem nowG (n:Nat) (r:Nat→List UInt8) (S:Nat→List Val) (f:Nat→Int):∀ k,nowS (S k) (blG n r S f k)=preS S k
 | 0=>rfl
 | k+1=>by
  unfold nowS preS
  rw [Jbh,if_neg (by omega),if_neg (by omega),blG,Jt9]
  rfl
theorem Jup (n:Nat) (r:Nat→List UInt8) (S:Nat→List Val) (f:Nat→Int):∀ {k j:Nat},j < k→(blG n r S f k).getD j zBlk=genB n r S f j
 | k+1,j,h=>by
  rw [blG]
  rcases Nat.lt_or_ge j k with c | c
  ·rw [List.getD_eq_getElem?_getD,List.getElem?_append_left (by rw [Jbh]; exact c),← List.getD_eq_getElem?_getD]
   exact Jup n r S f c
  ·have:j=k:=by omega
   subst this
   rw [List.getD_eq_getElem?_getD,List.getElem?_append_right (by rw [Jbh]; omega),Jbh]
   simp only [Nat.sub_self,List.getElem?_cons_zero,Option.getD_some]
   unfold blkR
   rw [nowG]
   rfl
theorem Jmt (n:Nat) {r r':Nat→List UInt8} {S S':Nat→List Val} {f f':Nat→Int}:∀ k,(∀ j,j < k→r j=r' j∧S j=S' j∧f j=f' j)→blG n r S f k=blG n r' S' f' k
 | 0,_=>rfl
 | k+1,h=>by
  obtain ⟨a,b,c⟩:=h k (Nat.lt_succ_self k)
  rw [blG,blG,Jmt n k (fun j hj=>h j (by omega)),a,b,c]
theorem hG_1 (n:Nat) (r:Nat→List UInt8) (S:Nat→List Val) (f:Nat→Int) (j:Nat):(hG n r S f j).1=(j:Int)+1:=by unfold hG; rw [hdR_1,Jbh]
theorem hG_t (n:Nat) (r:Nat→List UInt8) (S:Nat→List Val) (f:Nat→Int) (j:Nat):(hG n r S f j).2.1=f j:=hdR_t _ _ _ _
theorem K20 (n:Nat) (r:Nat→List UInt8) (S:Nat→List Val) (f:Nat→Int) (j:Nat):(hG n r S f j).2.2.1=r j:=by unfold hG hdR; split <;> rfl
theorem Jpn (n:Nat) (r:Nat→List UInt8) (S:Nat→List Val) (f:Nat→Int) (j:Nat):(hG n r S f j).2.2.2.2.1=setH (S j):=Jzf _ _ _ _
theorem Jvv (n:Nat) (r:Nat→List UInt8) (S:Nat→List Val) (f:Nat→Int) (j:Nat):(hG n r S f j).2.2.2.1=setH (preS S j):=by unfold hG; rw [Jzg,nowG]
theorem Jnf (n:Nat) {r:Nat→List UInt8} (S:Nat→List Val) (f:Nat→Int) {j:Nat} (hr:(r j).length=32):J8n (hG n r S f j):=Jt5 hr _ _ _
theorem Jlh {n:Nat} {r:Nat→List UInt8} {S:Nat→List Val} {f:Nat→Int} {j:Nat} (hj:j < 16) (h1:0≤f j) (h2:f j≤1073741824):J8a (hG n r S f j)=true:=Jvy (by rw [Jbh]; exact hj) h1 h2
theorem Jzo (n:Nat) (r:Nat→List UInt8) (S:Nat→List Val) (f:Nat→Int) (k:Nat):lastB (blG n r S f (k+1))=genB n r S f k:=by
 unfold lastB
 rw [Jbh]
 exact Jup n r S f (by omega)
theorem preR (P:Nat→Nat→Int) (n j:Nat):preS (fun k=>J6g (P k) n) j=J6g (if j=0 then P 0 else P (j - 1)) n:=by
 unfold preS; split <;> rfl
def Jh8 (m:Nat) (f:Nat→Int):Prop:=(∀ i,i < m→0≤f i∧f i≤1000000000)∧∀ i,i+1 < m→f i < f (i+1)
theorem Jh8.lt {m:Nat} {f:Nat→Int} (h:Jh8 m f) {i:Nat}:∀ {j:Nat},i < j→j < m→f i < f j
 | j+1,hij,hj=>by
  have:=h.2 j hj
  rcases Nat.lt_or_ge i j with c | c
  ·have:=h.lt c (by omega); omega
  ·have:i=j:=by omega
   subst this; omega
noncomputable def sgB (n:Nat) (r:Nat→List UInt8) (P:Nat→Nat→Int) (f:Nat→Int) (j:Nat) (g:Nat→Bool):Block:=(hG n r (fun k=>J6g (P k) n) f j,sgJ (hG n r (fun k=>J6g (P k) n) f j) ((List.range n).filter g),preS (fun k=>J6g (P k) n) j,J6g (P j) n,())
def pB (P:Nat→Nat→Int) (j:Nat):Nat→Int:=if j=0 then P 0 else P (j - 1)
theorem pB_ok {P:Nat→Nat→Int} (hP:∀ j,PwOk (P j)) (j:Nat):PwOk (pB P j):=by
 unfold pB; split <;> exact hP _
theorem sgB_ok {n:Nat} (hn:n≤4) {r:Nat→List UInt8} (P:Nat→Nat→Int) (f:Nat→Int) {j:Nat} (hj:j < 16) (hr:(r j).length=32) (g:Nat→Bool):K19 (sgB n r P f j g):=by
 have hl:∀ p,(J6g p n).length=n:=fun p=>by simp [J6g]
 have h1:=hG_1 n r (fun k=>J6g (P k) n) f j
 refine ⟨Jnf n _ f hr,sgJ_ok _ (by omega) (by omega) _,?_,?_,Jix _ n,?_,?_⟩
 ·show (sgJ _ _).length≤1000000
  have:=Jlf g n
  rw [Jg2]; omega
 ·show Jsj (preS (fun k=>J6g (P k) n) j)
  rw [preR]; exact Jix _ n
 ·show (preS (fun k=>J6g (P k) n) j).length≤1000000
  rw [preR,hl]; omega
 ·show (J6g (P j) n).length≤1000000
  rw [hl]; omega
theorem Jy8 {n:Nat} (h1:1≤n) (hn:n≤4) {r:Nat→List UInt8} {P:Nat→Nat→Int} (hP:∀ j,PwOk (P j)) {f:Nat→Int} {j:Nat} (hj:j < 16) (q1:0≤f j) (q2:f j≤1073741824) (g:Nat→Bool):Jj9 (sgB n r P f j g)=true:=by
 have hfl:=Jlf g n
 unfold Jj9 sgB
 dsimp only
 rw [Jlh hj q1 q2,preR,Jby (show PwOk (if j=0 then P 0 else P (j - 1)) from pB_ok hP j) h1 hn,Jby (hP j) h1 hn,Jvv,preR,Jpn]
 show (true && (true && (true && (decide ((sgJ _ _).length≤5) && (eqH (setH _) (setH _) && eqH (setH _) (setH _))))))=true
 rw [decide_eq_true (by rw [Jg2]; omega),show ∀ s,eqH (setH s) (setH s)=true from fun s=>Jeb _,show ∀ s,eqH (setH s) (setH s)=true from fun s=>Jeb _]
 rfl
theorem K3o {n:Nat} (h1:1≤n) (hn:n≤4) {r:Nat→List UInt8} {P:Nat→Nat→Int} (hP:∀ j,PwOk (P j)) {m:Nat} (hm:m≤16) {f:Nat→Int} (hf:Jh8 m f) {i j:Nat} (hij:i < j) (hj:j < m) {T:Int} {c:Cli}
  (hc:Knows (J6g (P i) n) T (hG n r (fun k=>J6g (P k) n) f i) c) (now:Int) (g:Nat→Bool) (q2:¬ T < now - f i) (q3:¬ now < f j) :
  updS (sgB n r P f j g) now c=if ¬ pwJ (pB P j) (List.range n) * 2 < pwJ (pB P j) ((List.range n).filter g) * 3 then (9,c) else if j≠i+1∧¬ pwJ (P i) (List.range n) * 1 < pwJ (P i) ((List.range n).filter g) * 3 then (9,c) else (0,(cut6 (c.1++[hG n r (fun k=>J6g (P k) n) f j]),J6g (P j) n,T,false,())):=by
 obtain ⟨c1,c2,c3,c4,c5,c6⟩:=hc
 have fj:=hf.1 j hj
 have fi:=hf.1 i (by omega)
 have hlt:=hf.lt hij hj
 have e1:=hG_1 n r (fun k=>J6g (P k) n) f j
 have e2:=hG_1 n r (fun k=>J6g (P k) n) f i
 have ea:∀ p,enS (J6g p n) (hG n r (fun k=>J6g (P k) n) f j) (sgJ (hG n r (fun k=>J6g (P k) n) f j) ((List.range n).filter g))=decide (pwJ p (List.range n) * 2 < pwJ p ((List.range n).filter g) * 3):=fun p=>by
  unfold enS
  rw [Jo4 p hn _ (by omega) (by omega),Jmq]
 have es:∀ p,soS (J6g p n) (hG n r (fun k=>J6g (P k) n) f j) (sgJ (hG n r (fun k=>J6g (P k) n) f j) ((List.range n).filter g))=decide (pwJ p (List.range n) * 1 < pwJ p ((List.range n).filter g) * 3):=fun p=>by
  unfold soS
  rw [Jo4 p hn _ (by omega) (by omega),Jmq]
 unfold updS
 rw [if_neg (by rw [c6]; simp),Jy8 h1 hn hP (by omega) fj.1 (by omega) g,if_neg (by simp),c3,e2,hG_t,Jpn]
 show (if (hG n r (fun k=>J6g (P k) n) f j).1≤_ then _ else if (hG n r (fun k=>J6g (P k) n) f j).2.1≤_ then _ else _)=_
 rw [e1,hG_t,if_neg (by omega),if_neg (by omega),c5,if_neg q2]
 show (if now < (hG n r (fun k=>J6g (P k) n) f j).2.1 then _ else if (hG n r (fun k=>J6g (P k) n) f j).1=_∧eqH (hG n r (fun k=>J6g (P k) n) f j).2.2.2.1 _=false then _ else if enS (preS (fun k=>J6g (P k) n) j) (hG n r (fun k=>J6g (P k) n) f j) (sgJ (hG n r (fun k=>J6g (P k) n) f j) ((List.range n).filter g))=false then _ else if (hG n r (fun k=>J6g (P k) n) f j).1≠_∧soS c.2.1 (hG n r (fun k=>J6g (P k) n) f j) (sgJ (hG n r (fun k=>J6g (P k) n) f j) ((List.range n).filter g))=false then _ else (0,(cut6 (c.1++[hG n r (fun k=>J6g (P k) n) f j]),J6g (P j) n,T,c.2.2.2.1,())))=_
 rw [hG_t,if_neg q3,Jvv,e1,preR,ea,c4,es,c6]
 have hv:¬ ((j:Int)+1=(i:Int)+1+1∧eqH (setH (J6g (if j=0 then P 0 else P (j - 1)) n)) (setH (J6g (P i) n))=false):=by
  rintro ⟨a,b⟩
  rw [if_neg (by omega),show j - 1=i from by omega,show eqH (setH (J6g (P i) n)) (setH (J6g (P i) n))=true from Jeb _] at b
  cases b
 rw [if_neg hv]
 show (if decide (pwJ (pB P j) (List.range n) * 2 < pwJ (pB P j) ((List.range n).filter g) * 3)=false then _ else _)=_
 by_cases k1:pwJ (pB P j) (List.range n) * 2 < pwJ (pB P j) ((List.range n).filter g) * 3
 ·have n1:¬ ¬ pwJ (pB P j) (List.range n) * 2 < pwJ (pB P j) ((List.range n).filter g) * 3:=fun q=>q k1
  rw [decide_eq_true k1,if_neg (show ¬ (true=false) by simp),if_neg n1]
  by_cases k2:j≠i+1∧¬ pwJ (P i) (List.range n) * 1 < pwJ (P i) ((List.range n).filter g) * 3
  ·have m2:(j:Int)+1≠(i:Int)+1+1∧decide (pwJ (P i) (List.range n) * 1 < pwJ (P i) ((List.range n).filter g) * 3)=false:=⟨by omega,decide_eq_false k2.2⟩
   rw [if_pos k2,if_pos m2]
  ·have m2:¬ ((j:Int)+1≠(i:Int)+1+1∧decide (pwJ (P i) (List.range n) * 1 < pwJ (P i) ((List.range n).filter g) * 3)=false):=by
    rintro ⟨a,b⟩
    exact k2 ⟨by omega,of_decide_eq_false b⟩
   rw [if_neg k2,if_neg m2]
 ·rw [decide_eq_false k1,if_pos (show (false=false) from rfl),if_pos k1]
theorem K0e {n:Nat} (hn:n≤4) {r:Nat→List UInt8} {P:Nat→Nat→Int} (hP:∀ j,PwOk (P j)) {m:Nat} (hm:m≤16) {f:Nat→Int} (hf:Jh8 m f) {i:Nat} (hi:i < m) {T:Int} {c:Cli} (hc:Knows (J6g (P i) n) T (hG n r (fun k=>J6g (P k) n) f i) c):K1a c:=by
 obtain ⟨c1,c2,c3,c4,_,_⟩:=hc
 have:=hf.1 i hi
 refine ⟨c1,by omega,by rw [c4]; exact Jod (hP i) hn,?_,?_⟩
 ·rw [c3,hG_1]; omega
 ·rw [c3,hG_t]; omega
theorem K2b {n:Nat} (h1:1≤n) (hn:n≤4) {r:Nat→List UInt8} {P:Nat→Nat→Int} (hP:∀ j,PwOk (P j)) {m:Nat} (hm:m≤16) {f:Nat→Int} (hf:Jh8 m f) {T:Int} (hT:0≤T∧T≤1073741824) {j:Nat} (hj:j < m) :
  J57 (hG n r (fun k=>J6g (P k) n) f j) (J6g (P j) n) T=some (.inr (0,([hG n r (fun k=>J6g (P k) n) f j],J6g (P j) n,T,false,()))):=by
 have hl:(J6g (P j) n).length=n:=by simp [J6g]
 have fj:=hf.1 j hj
 rw [new_eq _ _ _ (Jix _ n) (by omega)]
 unfold newS
 rw [if_pos ⟨Jlh (by omega) fj.1 (by omega),Jby (hP j) h1 hn,by rw [Jpn]; exact Jeb _,hT.1,hT.2⟩]
theorem K1x (n:Nat) (r:Nat→List UInt8) (P:Nat→Nat→Int) (f:Nat→Int) (j:Nat):genB n r (fun k=>J6g (P k) n) f j=sgB n r P f j (fun _=>true):=by
 unfold genB sgB
 rw [Jle]
def Jdx {α:Type} (l:List α):List α:=l.drop (l.length - 6)
theorem Jeq {α:Type} (l:List α):(Jdx l).length=min l.length 6:=by unfold Jdx; rw [List.length_drop]; omega
theorem Jk3 {α:Type} (l:List α) (x:α):Jdx (l++[x])=if 6 < (Jdx l).length+1 then (Jdx l++[x]).drop 1 else Jdx l++[x]:=by
 rw [Jeq]
 unfold Jdx
 rw [List.length_append,List.length_singleton]
 split
 ·rw [List.drop_append_of_le_length (by omega),List.drop_append_of_le_length (by rw [List.length_drop]; omega),List.drop_drop]
  congr 2; omega
 ·rw [show l.length+1 - 6=0 from by omega,show l.length - 6=0 from by omega]; rfl
noncomputable def rR (R:List (List Pr)) (j:Nat):List UInt8:=J9i (R.getD j [])
theorem K0z (R:List (List Pr)) (j:Nat):(rR R j).length=32:=J7x _
theorem Jx3 (R:List (List Pr)) (l:List Pr) {j:Nat} (h:j < R.length):rR (R++[l]) j=rR R j:=by
 unfold rR; rw [List.getD_eq_getElem?_getD,List.getD_eq_getElem?_getD,List.getElem?_append_left h]
theorem K2n (R:List (List Pr)) (l:List Pr):rR (R++[l]) R.length=J9i l:=by
 unfold rR; rw [List.getD_eq_getElem?_getD,List.getElem?_append_right (Nat.le_refl _)]; simp
section
variable (n : Nat) (p : Nat → Int) (f : Nat → Int)
noncomputable def BL (R:List (List Pr)):List Block:=blG n (rR R) (fun _=>J6g p n) f R.length
noncomputable def hL (R:List (List Pr)) (j:Nat):Hdr:=hG n (rR R) (fun _=>J6g p n) f j
noncomputable def gL (R:List (List Pr)) (j:Nat):Block:=genB n (rR R) (fun _=>J6g p n) f j
theorem Ju4 (R:List (List Pr)):(BL n p f R).length=R.length:=Jbh _ _ _ _ _
theorem BL_cg (R:List (List Pr)) (l:List Pr) {k:Nat} (h:k≤R.length):blG n (rR (R++[l])) (fun _=>J6g p n) f k=blG n (rR R) (fun _=>J6g p n) f k:=
 Jmt n k fun j hj=>⟨Jx3 R l (by omega),rfl,rfl⟩
theorem K18 (R:List (List Pr)) (l:List Pr):BL n p f (R++[l])=BL n p f R++[blkR n (J9i l) (J6g p n) (BL n p f R) (f R.length)]:=by
 unfold BL
 rw [List.length_append,List.length_singleton]
 show blG n (rR (R++[l])) _ f R.length++[_]=_
 rw [BL_cg n p f R l (Nat.le_refl _),K2n]
theorem K21 (R:List (List Pr)) (l:List Pr) {j:Nat} (h:j < R.length):hL n p f (R++[l]) j=hL n p f R j:=by
 unfold hL hG; rw [BL_cg n p f R l (by omega),Jx3 R l h]
theorem BL_at (R:List (List Pr)) {j:Nat} (h:j < R.length):(BL n p f R).getD j zBlk=gL n p f R j:=Jup _ _ _ _ h
end
theorem Jbd (n:Nat):(J6i n).length=n:=J90 _ _
theorem Jfw (n:Nat):(J6n n).length=n:=J90 _ _
theorem Ja9 (p:Nat→Int) (n:Nat):(J6g p n).length=n:=J90 _ _
theorem Js0 (h:Hdr) (hh:J8n h) (h1:1≤h.1) (h2:h.1≤16) (nm:List UInt8) (i:Nat):J5h (J8x (J9v i)) h nm (J9v i)=some (sgS h nm (J9v i)):=by
 unfold J5h
 rw [Jy3 h hh,J6a,By_eq _ (by rw [J8f]; omega) (Jdw _) _ _ (Jf5 i) _ h1 h2 (by rw [Jj6]; omega),J6a]
 rfl
theorem Jfi (p:Nat→Int) {n:Nat} (hn:n≤4):J9 (J6g p n)=some (J6g p n):=Jef _ (by rw [Ja9]; omega)
theorem Juw (l:List Block) (h:l.length≤1000):J0r l=some l:=by unfold J0r; rw [J6b (by omega)]
theorem Jzh (p:Nat→Int) (hp:PwOk p) {n:Nat} (h1:1≤n) (hn:n≤4):J1v (J6g p n) (J6i n)=some ((),J6i n,J6n n,J6g p n,([],0,[],())):=by
 have e1:Jan (J6g p n)=true:=Jby hp h1 hn
 have e2:J1v_1 (J6i n) (n:Int) 0 () (J6i n) [] (J6g p n) ([],0,[],())=some ((),J6i n,J6n n,J6g p n,([],0,[],())):=by
  unfold J1v_1
  have:=J6l (step:=fun (s:Int×List (List (List UInt8)))=>J1v_1_step (J6i n) (n:Int) s.1 () (J6i n) s.2 (J6g p n) ([],0,[],())) (fun i (_:Unit)=>((i:Int),J6n i)) (fun _ _=>()) (fun _=>((),J6i n,J6n n,J6g p n,([],0,[],()))) n (fun _ _=>True)
   (fun i w hi _=>⟨by
    show J1v_1_step (J6i n) (n:Int) (i:Int) () (J6i n) (J6n i) (J6g p n) ([],0,[],())=_
    unfold J1v_1_step
    have g1:(J6i n).getD i (List.replicate 32 (0:UInt8))=J9v i:=J7t _ _ hi
    rw [J6e (by omega),J6b (by rw [Jbd]; omega),Int.toNat_natCast,g1,K1b _ (Jf5 i),J6a,J6b (by rw [Jfw,List.length_singleton]; omega),J6f (by omega) (by omega)]
    rw [show J6n (i+1)=J6n i++[J8x (J9v i)] from Jgz _ _]
    rfl,trivial⟩) (fun w _=>by
    show J1v_1_step (J6i n) (n:Int) (n:Int) () (J6i n) (J6n n) (J6g p n) ([],0,[],())=_
    unfold J1v_1_step
    rw [J6c (by omega)]) n 0 () (by omega) trivial
  exact this
 unfold J1v
 rw [right_eq _ (by rw [Ja9]; omega),J6a,e1,Ja9,Jbd]
 rw [show (!true)=false from rfl,J6k,J9k rfl]
 rw [show J2y (J6i n)=some (J6i n) from by unfold J2y; rw [J6b (by rw [Jbd]; omega)],J6a,Jfi p hn,J6a]
 show andThen (J1v_1 (J6i n) (n:Int) 0 () (J6i n) [] (J6g p n) ([],0,[],())) _=_
 rw [e2]
 rfl
theorem hcA (n:Nat) (hn:n≤4) (p:Nat→Int) (h:Hdr) (hh:J8n h) (h1:1≤h.1) (h2:h.1≤16) (st:Stt) (g:Hdr) (a b:List Val) :
  Jq_1 (n:Int) 0 () (J6i n) (J6n n) (J6g p n) st h g () [] a b=some ((),J6i n,J6n n,J6g p n,st,g,(),sgJ h (List.range n),a,b):=by
 unfold Jq_1
 have:=J6l (step:=fun (s:Int×List J7b)=>Jq_1_step (n:Int) s.1 () (J6i n) (J6n n) (J6g p n) st h g () s.2 a b) (fun i (_:Unit)=>((i:Int),sgJ h (List.range i))) (fun _ _=>()) (fun _=>((),J6i n,J6n n,J6g p n,st,g,(),sgJ h (List.range n),a,b)) n (fun _ _=>True)
  (fun i w hi _=>⟨by
   show Jq_1_step (n:Int) (i:Int) () (J6i n) (J6n n) (J6g p n) st h g () (sgJ h (List.range i)) a b=_
   unfold Jq_1_step
   have g1:(J6i n).getD i (List.replicate 32 (0:UInt8))=J9v i:=J7t _ _ hi
   have g2:(J6n n).getD i []=J8x (J9v i):=J7t _ _ hi
   have g3:((J6g p n).getD i zVal).1=nm i:=by rw [show (J6g p n).getD i zVal=Jet p i from J7t _ _ hi]; rfl
   rw [J6e (by omega),J6b (by rw [Ja9]; omega),J6b (by rw [Jfw]; omega),J6b (by rw [Jbd]; omega),Int.toNat_natCast,g1,g2]
   rw [show ((([]:List UInt8),(0:Int),(List.replicate 32 (0:UInt8)),()):Val)=zVal from rfl,g3,Js0 h hh h1 h2,J6a,J6b (by rw [Jg2,List.length_range]; simp only [List.length_cons,List.length_nil]; omega),J6f (n:=(i:Int)+1) (by omega) (by omega),Jmb]
   rfl,trivial⟩) (fun w _=>by
   show Jq_1_step (n:Int) (n:Int) () (J6i n) (J6n n) (J6g p n) st h g () (sgJ h (List.range n)) a b=_
   unfold Jq_1_step
   rw [J6c (by omega)]) n 0 () (by omega) trivial
 exact this
theorem hcB (n:Nat) (hn:n≤4) (p:Nat→Int) (h:Hdr) (hh:J8n h) (h1:1≤h.1) (h2:h.1≤16) (st:Stt) (B:List Block) (g:Hdr) (a b:List Val) :
  Jc_1 (J6g p n) (n:Int) 0 () (J6i n) (J6n n) (J6g p n) st B h g () [] a b=some ((),J6i n,J6n n,J6g p n,st,B,g,(),sgJ h (List.range n),a,b):=by
 unfold Jc_1
 have:=J6l (step:=fun (s:Int×List J7b)=>Jc_1_step (J6g p n) (n:Int) s.1 () (J6i n) (J6n n) (J6g p n) st B h g () s.2 a b) (fun i (_:Unit)=>((i:Int),sgJ h (List.range i))) (fun _ _=>()) (fun _=>((),J6i n,J6n n,J6g p n,st,B,g,(),sgJ h (List.range n),a,b)) n (fun _ _=>True)
  (fun i w hi _=>⟨by
   show Jc_1_step (J6g p n) (n:Int) (i:Int) () (J6i n) (J6n n) (J6g p n) st B h g () (sgJ h (List.range i)) a b=_
   unfold Jc_1_step
   have g1:(J6i n).getD i (List.replicate 32 (0:UInt8))=J9v i:=J7t _ _ hi
   have g2:(J6n n).getD i []=J8x (J9v i):=J7t _ _ hi
   have g3:((J6g p n).getD i zVal).1=nm i:=by rw [show (J6g p n).getD i zVal=Jet p i from J7t _ _ hi]; rfl
   rw [J6e (by omega),J6b (by rw [Ja9]; omega),J6b (by rw [Jfw]; omega),J6b (by rw [Jbd]; omega),Int.toNat_natCast,g1,g2]
   rw [show ((([]:List UInt8),(0:Int),(List.replicate 32 (0:UInt8)),()):Val)=zVal from rfl,g3,Js0 h hh h1 h2,J6a,J6b (by rw [Jg2,List.length_range]; simp only [List.length_cons,List.length_nil]; omega),J6f (n:=(i:Int)+1) (by omega) (by omega),Jmb]
   rfl,trivial⟩) (fun w _=>by
   show Jc_1_step (J6g p n) (n:Int) (n:Int) () (J6i n) (J6n n) (J6g p n) st B h g () (sgJ h (List.range n)) a b=_
   unfold Jc_1_step
   rw [J6c (by omega)]) n 0 () (by omega) trivial
 exact this
def stR (now:List Pr) (R:List (List Pr)):Stt:=(now,(R.length:Int),Jdx R,())
theorem Jwa {α:Type} {l:List α} {x:α} (h:x ∈ Jdx l):x ∈ l:=List.mem_of_mem_drop h
theorem Jxx {now:List Pr} {R:List (List Pr)} (hn:RowB now) (hR:∀ l ∈ R,RowB l) (hl:R.length≤16):StOk (stR now R):=by
 refine ⟨hn,by show 0≤(R.length:Int); omega,by show (R.length:Int)≤16; omega,?_,fun l hl=>hR l (Jwa hl)⟩
 show ((Jdx R).length:Int)=min (R.length:Int) 6
 rw [Jeq]; omega
theorem Jtw {now:List Pr} {R:List (List Pr)} (hl:R.length < 16):Jfj (stR now R)=((R.length:Int)+1,stR now (R++[now])):=by
 unfold Jfj
 rw [if_neg (show ¬ (stR now R).2.1=16 by show ¬ (R.length:Int)=16; omega)]
 unfold stR Jnk
 dsimp only
 rw [Jk3,List.length_append,List.length_singleton]
 rfl
theorem K14 {now:List Pr} {R:List (List Pr)} (h:Int):atS (stR now R) h=if 1≤h∧(R.length:Int) - 6 < h∧h≤(R.length:Int) then (R.getD (h - 1).toNat [],true) else ([],false):=by
 have hk:=Jeq R
 have hlow:lowS (stR now R)=(R.length:Int) - ((Jdx R).length:Int)+1:=rfl
 unfold atS
 rw [hlow,show (stR now R).2.1=(R.length:Int) from rfl,hk]
 by_cases c:1≤h∧(R.length:Int) - 6 < h∧h≤(R.length:Int)
 ·rw [if_pos c,if_neg (by omega)]
  congr 1
  show (Jdx R).getD _ []=_
  unfold Jdx
  rw [List.getD_eq_getElem?_getD,List.getD_eq_getElem?_getD,List.getElem?_drop]
  congr 2; omega
 ·rw [if_neg c,if_pos (by omega)]
end Go.Ax.V
