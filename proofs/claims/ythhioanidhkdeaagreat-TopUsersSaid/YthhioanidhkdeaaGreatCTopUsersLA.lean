/-
  Users come and go; whatever they do, all of them together never get out more than was put in, beyond what is pending; a halted ledger gives nothing.
-/
import Derived.Test.YthhioanidhkdeaaGreatCTopUsersP
namespace Go.Ax.V
open Go.Ax
set_option linter.unusedVariables false
set_option linter.unusedSimpArgs false
def J63 {τ:Type} (f:Nat→τ→τ):Nat→Nat→τ→τ
 | _,0,t=>t
 | i,k+1,t=>J63 f (i+1) k (f i t)
theorem J5k {σ ρ τ : Type} {step : σ → Option (σ ⊕ ρ)} (st : Nat → τ → σ) (f : Nat → τ → τ) (g : τ → ρ) (n : Nat) (I : Nat → τ → Prop)
    (h1 : ∀ i t, i < n → I i t → step (st i t) = some (.inl (st (i + 1) (f i t))) ∧ I (i + 1) (f i t))
    (h2 : ∀ t, I n t → step (st n t) = some (.inr (g t))) : ∀ (k i : Nat) (t : τ), i + k = n → I i t → loop step (st i t) = some (g (J63 f i k t))
  | 0, i, t, e, h => by have : i = n := by omega
                        subst this; exact J5r (h2 t h)
  | k + 1, i, t, e, h => by
    rw [J5v (h1 i t (by omega) h).1]
    exact J5k st f g n I h1 h2 k (i + 1) (f i t) (by omega) (h1 i t (by omega) h).2
theorem Nat.find_of {p:Nat→Prop} (h:∃ n,p n):∃ n,p n∧∀ m,m < n→¬ p m:=by
 obtain ⟨n,hn⟩:=h
 induction n using Nat.strongRecOn with
 | _ n ih=>
  by_cases hx:∃ m,m < n∧p m
  ·obtain ⟨m,hm,hp⟩:=hx; exact ih m hm hp
  ·exact ⟨n,hn,fun m hm hp=>hx ⟨m,hm,hp⟩⟩
def scan {ρ:Type} (bad:Nat→Option ρ) (r0:ρ):Nat→Nat→ρ
 | _,0=>r0
 | i,k+1=>match bad i with
  | some r=>r
  | none=>scan bad r0 (i+1) k
theorem J9r {ρ:Type} {bad:Nat→Option ρ} {r0:ρ}:∀ (k i:Nat),(∀ j,i≤j→j < i+k→bad j=none)→scan bad r0 i k=r0
 | 0,i,_=>rfl
 | k+1,i,h=>by
  rw [scan,h i (Nat.le_refl _) (by omega)]
  exact J9r k (i+1) fun j h1 h2=>h j (by omega) (by omega)
theorem J8w {ρ:Type} {bad:Nat→Option ρ} {r0 r:ρ}:∀ (k i j:Nat),i≤j→j < i+k→(∀ j',i≤j'→j' < j→bad j'=none)→bad j=some r→scan bad r0 i k=r
 | 0,i,j,h1,h2,_,_=>by omega
 | k+1,i,j,h1,h2,h3,h4=>by
  rw [scan]
  by_cases e:i=j
  ·subst e; rw [h4]
  ·rw [h3 i (Nat.le_refl _) (by omega)]
   exact J8w k (i+1) j (by omega) (by omega) (fun j' g1 g2=>h3 j' (by omega) g2) h4
theorem J7k {σ ρ : Type} {step : σ → Option (σ ⊕ ρ)} (st : Nat → σ) (bad : Nat → Option ρ) (r0 : ρ) (n : Nat) (h1 : ∀ i, i < n → bad i = none → step (st i) = some (.inl (st (i + 1))))
    (h2 : ∀ i r, i < n → bad i = some r → step (st i) = some (.inr r)) (h3 : step (st n) = some (.inr r0)) : ∀ (k i : Nat), i + k = n → loop step (st i) = some (scan bad r0 i k)
  | 0, i, e => by have : i = n := by omega
                  subst this; exact J5r h3
  | k + 1, i, e => by
    rw [scan]
    split
    · rename_i r hr; exact J5r (h2 i r (by omega) hr)
    · rename_i hn
      rw [J5v (h1 i (by omega) hn)]
      exact J7k st bad r0 n h1 h2 h3 k (i + 1) (by omega)
theorem J5b {α β:Type} {a:α} {k:α→Option β}:andThen (some a) k=k a:=rfl
theorem J5f {α:Type} {p:Prop} [Decidable p] {x y:Option α} (h:p):fork (decide p) x y=x:=by rw [decide_eq_true h]; rfl
theorem J5d {α:Type} {p:Prop} [Decidable p] {x y:Option α} (h:¬ p):fork (decide p) x y=y:=by rw [decide_eq_false h]; rfl
theorem J8b {α:Type} {p:Prop} [Decidable p] {x y:Option α} (h:p):fork (!decide p) x y=y:=by rw [decide_eq_true h]; rfl
theorem J9c {α:Type} {p:Prop} [Decidable p] {x y:Option α} (h:¬ p):fork (!decide p) x y=x:=by rw [decide_eq_false h]; rfl
theorem J7h {α:Type} {x y:Option α}:fork true x y=x:=rfl
theorem J5o {α:Type} {x y:Option α}:fork false x y=y:=rfl
theorem Jeg {α:Type} {b:Bool} {x y:Option α}:fork b x y=if b then x else y:=by cases b <;> rfl
theorem Jf0 {α:Type} (l:List α) (u:Int):cutL l 0 u=l.take u.toNat:=rfl
theorem J8g {α:Type} (l:List α) (u:Int):cutL l u (l.length:Int)=l.drop u.toNat:=by
 unfold cutL; rw [Int.toNat_natCast,List.take_of_length_le (Nat.le_refl _)]
theorem Ju3 (t:Ty) (h:t.comp=true) (x:t.den):Ty.beq t x x=true:=(Ty.beq_iff t h x x).2 rfl
theorem Jcd (x:List UInt8):Ty.beq (.arr 32 (.int .u8)) x x=true:=Ju3 (.arr 32 (.int .u8)) rfl x
abbrev Val:=List UInt8×Int×List UInt8×Unit
def zVal:Val:=(([]:List UInt8),(0:Int),(List.replicate 32 (0:UInt8)),())
theorem Jjm:((([]:List UInt8),(0:Int),(List.replicate 32 (0:UInt8)),()):Val)=zVal:=rfl
theorem Juv (l:List (List UInt8)) (x:List UInt8) (hl:l.length≤1073741824):J16 l x=some (l.contains x):=by
 have h:Jh_1 l x (l.length:Int) 0=some (scan (fun i=>if x=l.getD i [] then some (.inl (i:Int)) else none) (.inr ()) 0 l.length):=by
  unfold Jh_1
  refine J7k (step:=fun (s:Int)=>Jh_1_step l x (l.length:Int) s) (fun i=>(i:Int)) _ _ l.length (fun i hi h=>?_) (fun i r hi h=>?_) ?_ l.length 0 (by omega)
  ·unfold Jh_1_step
   simp (disch:=omega) only [J5f,J5g,J5c,Int.toNat_natCast]
   by_cases e:x=l.getD i []
   ·rw [if_pos e] at h; cases h
   ·rw [J5d e]; rfl
  ·unfold Jh_1_step
   simp (disch:=omega) only [J5f,J5g,J5c,Int.toNat_natCast]
   by_cases e:x=l.getD i []
   ·rw [if_pos e] at h; rw [J5f e]; injection h with h; subst h; rfl
   ·rw [if_neg e] at h; cases h
  ·unfold Jh_1_step
   rw [J5d (by omega)]
 unfold J16 Jh
 rw [h,J5b]
 by_cases hx:x ∈ l
 ·have hm:∃ j,j < l.length∧x=l.getD j []:=by
   obtain ⟨j,hj,e⟩:=List.getElem_of_mem hx
   exact ⟨j,hj,by rw [List.getD_eq_getElem?_getD,List.getElem?_eq_getElem hj]; exact e.symm⟩
  obtain ⟨j,hj⟩:=Nat.find_of (p:=fun j=>j < l.length∧x=l.getD j []) hm
  rw [J8w l.length 0 j (Nat.zero_le _) (by omega) (fun j' _ h=>?_) (if_pos hj.1.2)]
  ·simp [andThen,hx]
  ·rw [if_neg]
   intro e
   exact hj.2 j' h ⟨by omega,e⟩
 ·rw [J9r _ _ (fun j _ h=>?_)]
  ·simp [andThen,hx]
  ·rw [if_neg]
   intro e
   apply hx
   rw [e,List.getD_eq_getElem?_getD,List.getElem?_eq_getElem (by omega:j < l.length)]
   exact List.getElem_mem _
def pow (p:Val→Bool) (l:List Val):Int:=((l.filter p).map (·.2.1)).sum
def Jaa (l:List Val):Prop:=l.length≤1000∧∀ v ∈ l,0≤v.2.1∧v.2.1≤2097152
theorem J8v (p:Val→Bool):∀ (l:List Val),(∀ v ∈ l,0≤v.2.1∧v.2.1≤2097152)→0≤pow p l∧pow p l≤2097152 * l.length
 | [],_=>by simp [pow]
 | v::l,h=>by
  have ih:=J8v p l fun w hw=>h w (List.mem_cons_of_mem _ hw)
  have hv:=h v (List.mem_cons_self)
  unfold pow at ih ⊢
  by_cases hp:p v
  ·rw [List.filter_cons_of_pos hp]; simp only [List.map_cons,List.sum_cons,List.length_cons]; omega
  ·rw [List.filter_cons_of_neg hp]; simp only [List.length_cons]; omega
theorem Jo6 (p:Val→Bool) (l:List Val) {i:Nat} (h:i < l.length):pow p (l.take (i+1))=pow p (l.take i)+(if p (l.getD i zVal) then (l.getD i zVal).2.1 else 0):=by
 unfold pow
 rw [List.take_add_one,List.getElem?_eq_getElem h,List.getD_eq_getElem?_getD,List.getElem?_eq_getElem h]
 simp only [Option.toList_some,Option.getD_some,List.filter_append,List.map_append,List.sum_append]
 by_cases hp:p l[i]
 ·rw [List.filter_cons_of_pos hp]; simp [hp]
 ·rw [List.filter_cons_of_neg hp]; simp [hp]
theorem J6h {α:Type} {l:List α} {i:Nat} {z:α} (h:i < l.length):l.getD i z ∈ l:=by
 rw [List.getD_eq_getElem?_getD,List.getElem?_eq_getElem h]; exact List.getElem_mem _
theorem Jw7 (l:List Val) (h:Jaa l):J10 l=some (pow (fun _=>true) l):=by
 have main:J10_1 0 l (l.length:Int) 0=some (pow (fun _=>true) l):=by
  unfold J10_1
  have:=J5k (step:=fun (s:Int×Int)=>J10_1_step s.1 l (l.length:Int) s.2) (fun i (_:Unit)=>(pow (fun _=>true) (l.take i),(i:Int))) (fun _ _=>()) (fun _=>pow (fun _=>true) l) l.length (fun _ _=>True) (fun i w hi _=>⟨?_,trivial⟩) (fun w _=>?_) l.length 0 () (by omega) trivial
  ·exact this
  ·unfold J10_1_step
   simp only [Jjm]
   have b:=J8v (fun _=>true) (l.take i) fun v hv=>h.2 v (List.mem_of_mem_take hv)
   have hm:=h.2 _ (J6h (z:=zVal) hi)
   have hl:=h.1
   have t:=Jo6 (fun _=>true) l hi
   rw [List.length_take] at b
   simp only [if_true] at t
   simp (disch:=omega) only [J5f,J5g,J5c,Int.toNat_natCast]
   rw [t]
   rfl
  ·unfold J10_1_step
   rw [J5d (by omega),List.take_of_length_le (Nat.le_refl _)]
 unfold J10
 rw [main,J5b]
theorem Jw4 (l:List Val) (h:Jaa l) (ns:List (List UInt8)) (hn:ns.length≤1073741824):J0z l ns=some (pow (fun v=>ns.contains v.1) l,pow (fun _=>true) l):=by
 have hl:=h.1
 have main:J0z_1 l ns 0 l (l.length:Int) 0=some (l,pow (fun v=>ns.contains v.1) l):=by
  unfold J0z_1
  have:=J5k (step:=fun (s:Int×Int)=>J0z_1_step l ns s.1 l (l.length:Int) s.2) (fun i (_:Unit)=>(pow (fun v=>ns.contains v.1) (l.take i),(i:Int))) (fun _ _=>()) (fun _=>(l,pow (fun v=>ns.contains v.1) l)) l.length (fun _ _=>True) (fun i w hi _=>⟨?_,trivial⟩) (fun w _=>?_) l.length 0 () (by omega) trivial
  ·exact this
  ·unfold J0z_1_step
   simp only [Jjm]
   have b:=J8v (fun v=>ns.contains v.1) (l.take i) fun v hv=>h.2 v (List.mem_of_mem_take hv)
   have hm:=h.2 _ (J6h (z:=zVal) hi)
   have t:=Jo6 (fun v=>ns.contains v.1) l hi
   rw [List.length_take] at b
   simp (disch:=omega) only [J5f,J5g,J5c,Int.toNat_natCast,Juv _ _ hn,J5b]
   by_cases hc:ns.contains (l.getD i zVal).1
   ·rw [if_pos hc] at t
    rw [hc,J7h,t]
    rfl
   ·rw [if_neg hc] at t
    rw [Bool.not_eq_true] at hc
    rw [hc,J5o,t,Int.add_zero]
    rfl
  ·unfold J0z_1_step
   rw [J5d (by omega),List.take_of_length_le (Nat.le_refl _)]
 have b1:=J8v (fun v=>ns.contains v.1) l h.2
 have b2:=J8v (fun _=>true) l h.2
 unfold J0z
 rw [main,J5b,J5c (by show Int.natAbs (pow _ l) < _; omega),Jw7 l h,J5b,J5c (by omega)]
theorem Jse (t:Int×Int) (n d:Int) (h1:0≤t.1∧t.1≤4294967296) (h2:0≤t.2∧t.2≤4294967296) (hn:0≤n∧n≤1000) (hd:0≤d∧d≤1000):J4d t n d=some (decide (t.2 * n < t.1 * d)):=by
 unfold J4d
 have b1:0≤t.2 * n∧t.2 * n≤4294967296 * 1000:=⟨Int.mul_nonneg h2.1 hn.1,Int.mul_le_mul h2.2 hn.2 hn.1 (by omega)⟩
 have b2:0≤t.1 * d∧t.1 * d≤4294967296 * 1000:=⟨Int.mul_nonneg h1.1 hd.1,Int.mul_le_mul h1.2 hd.2 hd.1 (by omega)⟩
 rw [J5g (by omega) (by omega),J5g (by omega) (by omega)]
def mayS (v:Val):Bool:=!decide (v.1=[]) && (decide ((v.1.length:Int)≤16) && (decide (1≤v.2.1) && decide (v.2.1≤1048576)))
theorem may_eq (v:Val):J4z v=some (mayS v):=by
 unfold J4z mayS
 simp only [Jeg]
 split
 ·rename_i h; rw [h]; split
  ·rename_i h; rw [h]; split
   ·rename_i h; rw [h]; simp
   ·rename_i h; rw [Bool.not_eq_true] at h; rw [h]; simp
  ·rename_i h; rw [Bool.not_eq_true] at h; rw [h]; simp
 ·rename_i h; rw [Bool.not_eq_true] at h; rw [h]; simp
def okAt (l:List Val) (i:Nat):Bool:=mayS (l.getD i zVal) && (i == 0 || J5q (l.getD (i - 1) zVal).1 (l.getD i zVal).1)
def J97 (l:List Val):Bool:=(List.range l.length).all (okAt l) && (decide (1≤l.length) && decide (l.length≤5))
theorem right_eq (l:List Val) (hl:l.length≤1073741824):J0e l=some (J97 l):=by
 have main:J0e_1 l l (l.length:Int) 0=some (scan (fun i=>if okAt l i then none else some (.inl false)) (.inr l) 0 l.length):=by
  unfold J0e_1
  have step:∀ i,i < l.length→J0e_1_step l l (l.length:Int) (i:Int)=if okAt l i then some (.inl ((i+1:Nat):Int)) else some (.inr (.inl false)):=by
   intro i hi
   unfold J0e_1_step
   simp only [Jjm]
   simp (disch:=omega) only [J5f,J5g,J5c,Int.toNat_natCast,may_eq,J5b]
   unfold okAt
   by_cases hm:mayS (l.getD i zVal)
   ·rw [hm]
    rw [show (!true)=false from rfl,J5o,Bool.true_and]
    by_cases h0:i=0
    ·subst h0; rw [J5d (by omega)]; rfl
    ·rw [J5f (by omega),J5c (by omega),show Int.toNat ((i:Int) - 1)=i - 1 from by omega]
     have:(i == 0)=false:=by simp [h0]
     rw [this,Bool.false_or]
     by_cases hs:J5q (l.getD (i - 1) zVal).1 (l.getD i zVal).1
     ·rw [hs]; rfl
     ·rw [Bool.not_eq_true] at hs; rw [hs]; rfl
   ·rw [Bool.not_eq_true] at hm; rw [hm]; rfl
  refine J7k (step:=fun (s:Int)=>J0e_1_step l l (l.length:Int) s) (fun i=>(i:Int)) _ _ l.length (fun i hi h=>?_) (fun i r hi h=>?_) ?_ l.length 0 (by omega)
  ·by_cases hk:okAt l i
   ·exact (step i hi).trans (if_pos hk)
   ·rw [if_neg hk] at h; cases h
  ·by_cases hk:okAt l i
   ·rw [if_pos hk] at h; cases h
   ·rw [if_neg hk] at h; injection h with h; subst h
    exact (step i hi).trans (if_neg hk)
  ·unfold J0e_1_step
   rw [J5d (by omega)]
 unfold J0e
 rw [main,J5b]
 unfold J97
 by_cases hall:(List.range l.length).all (okAt l)
 ·rw [J9r _ _ (fun j _ h=>if_pos (List.all_eq_true.1 hall j (by simp; omega))),hall,Bool.true_and]
  simp only [Jeg]
  by_cases h1:1≤l.length
  ·rw [decide_eq_true h1,decide_eq_true (show (1:Int)≤(l.length:Int) by omega),if_pos rfl,Bool.true_and]
   congr 1
   exact decide_eq_decide.2 (by omega)
  ·rw [decide_eq_false h1,decide_eq_false (show ¬ (1:Int)≤(l.length:Int) by omega)]; rfl
 ·rw [Bool.not_eq_true] at hall
  have:∃ j,j < l.length∧okAt l j=false:=by
   rw [List.all_eq_false] at hall
   obtain ⟨j,hj,hk⟩:=hall
   exact ⟨j,by simpa using hj,by simpa using hk⟩
  obtain ⟨j,hj⟩:=Nat.find_of this
  have hsc:scan (fun i=>if okAt l i then none else some (.inl false)) (.inr l:Bool⊕List Val) 0 l.length=.inl false:=by
   refine J8w l.length 0 j (Nat.zero_le _) (by omega) (fun j' _ h=>if_pos ?_) (if_neg ?_)
   ·have:=hj.2 j' h
    cases hk:okAt l j' with
    | true=>rfl
    | false=>exact absurd ⟨by omega,hk⟩ this
   ·rw [hj.1.2]; simp
  rw [hall,hsc]
  rfl
theorem Jvb (p:Val→Bool) (v:Val) (l:List Val):pow p (v::l)=(if p v then v.2.1 else 0)+pow p l:=by
 unfold pow
 by_cases h:p v
 ·rw [List.filter_cons_of_pos h,if_pos h]; simp
 ·rw [List.filter_cons_of_neg h,if_neg h]; simp
theorem Jy6 (p:Val→Bool):pow p []=0:=rfl
theorem J8x:∀ a:List UInt8,J5q a a=false
 | []=>rfl
 | x::a=>by
  rw [J5q,J8x a]
  simp
theorem J6p:∀ a b c:List UInt8,J5q a b=true→J5q b c=true→J5q a c=true
 | _,[],_,h,_=>by cases ‹List UInt8› <;> simp [J5q] at h
 | _,_::_,[],_,h=>by simp [J5q] at h
 | [],_::_,_::_,_,_=>rfl
 | x::a,y::b,z::c,h1,h2=>by
  simp only [J5q,Bool.or_eq_true,Bool.and_eq_true,decide_eq_true_eq,beq_iff_eq] at h1 h2 ⊢
  rcases h1 with h1 | ⟨rfl,h1⟩
  ·rcases h2 with h2 | ⟨rfl,h2⟩
   ·exact .inl (UInt8.lt_trans h1 h2)
   ·exact .inl h1
  ·rcases h2 with h2 | ⟨rfl,h2⟩
   ·exact .inl h2
   ·exact .inr ⟨rfl,J6p a b c h1 h2⟩
def incN (ns:List (List UInt8)):Bool:=(List.range (ns.length - 1)).all fun i=>J5q (ns.getD i []) (ns.getD (i+1) [])
theorem Jkg:∀ (ns:List (List UInt8)),incN ns=true→ns.Pairwise (fun a b=>J5q a b=true)
 | [],_=>List.Pairwise.nil
 | [x],_=>List.pairwise_singleton _ _
 | x::y::ns,h=>by
  have hall:∀ i,i < ns.length+1→J5q ((x::y::ns).getD i []) ((x::y::ns).getD (i+1) [])=true:=fun i hi=>List.all_eq_true.1 h i (by simp; omega)
  have ih:=Jkg (y::ns) (List.all_eq_true.2 fun i hi=>by
   have:=hall (i+1) (by simp at hi; omega)
   exact this)
  have h0:J5q x y=true:=hall 0 (by omega)
  refine List.pairwise_cons.2 ⟨fun z hz=>?_,ih⟩
  rcases List.mem_cons.1 hz with rfl | hz
  ·exact h0
  ·exact J6p _ _ _ h0 ((List.pairwise_cons.1 ih).1 z hz)
theorem Jxt:∀ (ns:List (List UInt8)),ns.Pairwise (fun a b=>J5q a b=true)→incN ns=true:=by
 intro ns h
 refine List.all_eq_true.2 fun i hi=>?_
 have hi:i < ns.length - 1:=by simpa using hi
 rw [List.getD_eq_getElem?_getD,List.getD_eq_getElem?_getD,List.getElem?_eq_getElem (by omega),List.getElem?_eq_getElem (by omega)]
 exact List.pairwise_iff_getElem.1 h i (i+1) (by omega) (by omega) (by omega)
def Jk6 (l:List Val) (x:List UInt8):Val×Bool:=match l.find? (fun v=>decide (v.1=x)) with
 | some v=>(v,true)
 | none=>(zVal,false)
theorem Jlb (l:List Val) (x:List UInt8):∀ (k i:Nat),i+k=l.length→scan (fun i=>if (l.getD i zVal).1=x then some (.inl (true,l.getD i zVal)) else none) (.inr zVal:(Bool×Val)⊕Val) i k =
  match (l.drop i).find? (fun v=>decide (v.1=x)) with | some v=>.inl (true,v) | none=>.inr zVal
 | 0,i,h=>by rw [List.drop_of_length_le (by omega)]; rfl
 | k+1,i,h=>by
  have hd:l.drop i=l.getD i zVal::l.drop (i+1):=by
   rw [List.drop_eq_getElem_cons (by omega),List.getD_eq_getElem?_getD,List.getElem?_eq_getElem (by omega)]; rfl
  rw [scan,hd]
  by_cases e:(l.getD i zVal).1=x
  ·rw [if_pos e,List.find?_cons_of_pos (by simpa using e)]
  ·rw [if_neg e,List.find?_cons_of_neg (by simpa using e)]
   exact Jlb l x k (i+1) (by omega)
theorem Jk7 (x:List UInt8) (l:List Val) (n i:Int) (z:Val):J1b_1_step x l n i z=(fork (decide (i < n)) (need (0≤i∧i < (l.length:Int)) (fork (decide ((l.getD (Int.toNat i) zVal).1=x)) (some (.inr (.inl (true,l.getD (Int.toNat i) zVal)))) (some (.inl (w64 (i+1)))))) (some (.inr (.inr z))):Option (Int⊕((Bool×Val)⊕Val))):=rfl
theorem Jxl (l:List Val) (hl:l.length≤1073741824) (x:List UInt8):J1b l x=some (Jk6 l x):=by
 have h:J1b_1 x l (l.length:Int) 0 zVal=some (scan (fun i=>if (l.getD i zVal).1=x then some (.inl (true,l.getD i zVal)) else none) (.inr zVal) 0 l.length):=by
  unfold J1b_1
  refine J7k (step:=fun (s:Int)=>J1b_1_step x l (l.length:Int) s zVal) (fun i=>(i:Int)) _ _ l.length (fun i hi h=>?_) (fun i r hi h=>?_) ?_ l.length 0 (by omega)
  ·rw [Jk7,J5f (by omega),J5c (by omega),Int.toNat_natCast,J5g (by omega) (by omega)]
   by_cases e:(l.getD i zVal).1=x
   ·rw [if_pos e] at h; cases h
   ·rw [J5d e]; rfl
  ·rw [Jk7,J5f (by omega),J5c (by omega),Int.toNat_natCast]
   by_cases e:(l.getD i zVal).1=x
   ·rw [if_pos e] at h; injection h with h; subst h; rw [J5f e]
   ·rw [if_neg e] at h; cases h
  ·unfold J1b_1_step
   rw [J5d (by omega)]
 unfold J1b
 simp only [Jjm]
 rw [h,J5b,Jlb l x l.length 0 (by omega),List.drop_zero]
 unfold Jk6
 cases l.find? (fun v=>decide (v.1=x)) <;> rfl
def Dist (l:List Val):Prop:=(l.map (·.1)).Nodup
theorem Jxm {l:List Val} (hd:Dist l) {v:Val} (hv:v ∈ l):Jk6 l v.1=(v,true):=by
 have:l.find? (fun w=>decide (w.1=v.1))=some v:=by
  induction l with
  | nil=>cases hv
  | cons w l ih=>
   unfold Dist at hd
   rw [List.map_cons,List.nodup_cons] at hd
   rcases List.mem_cons.1 hv with rfl | hv
   ·rw [List.find?_cons_of_pos (by simp)]
   ·rw [List.find?_cons_of_neg]
    ·exact ih hd.2 hv
    ·simp only [decide_eq_true_eq]
     intro e
     exact hd.1 (by rw [e]; exact List.mem_map_of_mem hv)
 unfold Jk6
 rw [this]
set_option maxRecDepth 100000
def rotr (x:UInt32) (n:Nat):UInt32:=UInt32.ofNat (x.toNat <<< (32 - n)) ||| UInt32.ofNat (x.toNat >>> n)
def shr (x:UInt32) (n:Nat):UInt32:=UInt32.ofNat (x.toNat >>> n)
def Jxb (b:List UInt8) (i k:Nat):UInt32:=UInt32.ofNat (UInt32.toNat (UInt32.ofNat (UInt8.toNat (List.getD b i 0))) <<< k)
def word (b:List UInt8) (i:Nat):UInt32:=((Jxb b (4 * i) 24 ||| Jxb b (4 * i+1) 16) ||| Jxb b (4 * i+2) 8) ||| UInt32.ofNat (UInt8.toNat (List.getD b (4 * i+3) 0))
def Jn1 (b:List UInt8) (i:Nat) (w:List UInt32):List UInt32:=w.set i (word b i)
def Jn2 (i:Nat) (w:List UInt32):List UInt32:=
 w.set i (((w.getD (i - 16) 0+((rotr (w.getD (i - 15) 0) 7 ^^^ rotr (w.getD (i - 15) 0) 18) ^^^ shr (w.getD (i - 15) 0) 3))+w.getD (i - 7) 0)+((rotr (w.getD (i - 2) 0) 17 ^^^ rotr (w.getD (i - 2) 0) 19) ^^^ shr (w.getD (i - 2) 0) 10))
def Jc7 (b:List UInt8):List UInt32:=J63 Jn2 16 48 (J63 (Jn1 b) 0 16 (List.replicate 64 0))
abbrev W8:=UInt32×UInt32×UInt32×UInt32×UInt32×UInt32×UInt32×UInt32
def J6v (k w:List UInt32) (i:Nat) (s:W8):W8:=
 match s with
 | (a,b,c,d,e,f,g,h)=>
  let one:=(((h+((rotr e 6 ^^^ rotr e 11) ^^^ rotr e 25))+((e &&& f) ^^^ ((~~~e) &&& g)))+k.getD i 0)+w.getD i 0
  (one+(((rotr a 2 ^^^ rotr a 13) ^^^ rotr a 22)+(((a &&& b) ^^^ (a &&& c)) ^^^ (b &&& c))),a,b,c,d+one,e,f,g)
def Jpl (s:W8):List UInt32:=[s.1,s.2.1,s.2.2.1,s.2.2.2.1,s.2.2.2.2.1,s.2.2.2.2.2.1,s.2.2.2.2.2.2.1,s.2.2.2.2.2.2.2]
def tup8 (h:List UInt32):W8:=(h.getD 0 0,h.getD 1 0,h.getD 2 0,h.getD 3 0,h.getD 4 0,h.getD 5 0,h.getD 6 0,h.getD 7 0)
def addS (v:List UInt32) (i:Nat) (h:List UInt32):List UInt32:=h.set i (h.getD i 0+v.getD i 0)
def mixS (k:List UInt32) (b:List UInt8) (h:List UInt32):List UInt32:=
 J63 (addS (Jpl (J63 (J6v k (Jc7 b)) 0 64 (tup8 h)))) 0 8 h
def kS:List UInt32:=[1116352408,1899447441,3049323471,3921009573,961987163,1508970993,2453635748,2870763221,3624381080,310598401,607225278,1426881987,1925078388,2162078206,2614888103,3248222580,3835390401,4022224774,264347078,604807628,770255983,1249150122,1555081692,1996064986,2554220882,2821834349,2952996808,3210313671,3336571891,3584528711,113926993,338241895,666307205,773529912,1294757372,1396182291,1695183700,1986661051,2177026350,2456956037,2730485921,2820302411,3259730800,3345764771,3516065817,3600352804,4094571909,275423344,430227734,506948616,659060556,883997877,958139571,1322822218,1537002063,1747873779,1955562222,2024104815,2227730452,2361852424,2428436474,2756734187,3204031479,3329325298]
def h0S:List UInt32:=[1779033703,3144134277,1013904242,2773480762,1359893119,2600822924,528734635,1541459225]
def J9g (n:UInt64) (i:Nat):UInt8:=UInt8.ofNat (UInt64.toNat (UInt64.ofNat (UInt64.toNat n >>> (8 * i))))
def bitsOf (b:List UInt8):UInt64:=UInt64.ofNat b.length * 8
def padS (b:List UInt8):List UInt8:=
 b++128::(List.replicate ((b.length+8) / 64 * 64+55 - b.length) 0++[J9g (bitsOf b) 7,J9g (bitsOf b) 6,J9g (bitsOf b) 5,J9g (bitsOf b) 4,J9g (bitsOf b) 3,J9g (bitsOf b) 2,J9g (bitsOf b) 1,J9g (bitsOf b) 0])
def J9w:Nat→List UInt8→List UInt32→List UInt32
 | 0,_,h=>h
 | n+1,l,h=>J9w n (l.drop 64) (mixS kS (l.take 64) h)
def outB (x:UInt32) (j:Nat):UInt8:=UInt8.ofNat (UInt32.toNat (UInt32.ofNat (UInt32.toNat x >>> (24 - 8 * j))))
def outS (h:List UInt32):List UInt8:=h.flatMap fun x=>[outB x 0,outB x 1,outB x 2,outB x 3]
def sha (b:List UInt8):List UInt8:=outS (J9w ((b.length+8) / 64+1) (padS b) h0S)
theorem right7 (x:UInt32):J0d x 7=some (rotr x 7):=rfl
theorem Jye (x:UInt32):J0d x 18=some (rotr x 18):=rfl
theorem Jyd (x:UInt32):J0d x 17=some (rotr x 17):=rfl
theorem Jyf (x:UInt32):J0d x 19=some (rotr x 19):=rfl
theorem right6 (x:UInt32):J0d x 6=some (rotr x 6):=rfl
theorem Jyb (x:UInt32):J0d x 11=some (rotr x 11):=rfl
theorem Jyh (x:UInt32):J0d x 25=some (rotr x 25):=rfl
theorem right2 (x:UInt32):J0d x 2=some (rotr x 2):=rfl
theorem Jyc (x:UInt32):J0d x 13=some (rotr x 13):=rfl
theorem Jyg (x:UInt32):J0d x 22=some (rotr x 22):=rfl
theorem Jle (b:List UInt8) (hb:b.length=64) (z w:List UInt32) {i:Nat} (hi:i < 16) :
  J02_1_step b (i:Int) z w=some (.inl (((i+1:Nat):Int),Jn1 b i w)):=by
 unfold J02_1_step
 have e0:Int.toNat (4 * (i:Int))=4 * i:=by omega
 have e1:Int.toNat (4 * (i:Int)+1)=4 * i+1:=by omega
 have e2:Int.toNat (4 * (i:Int)+2)=4 * i+2:=by omega
 have e3:Int.toNat (4 * (i:Int)+3)=4 * i+3:=by omega
 simp (disch:=omega) only [J5f,J5g,J5c,hb,e0,e1,e2,e3,Int.toNat_natCast]
 rfl
theorem Jw0 (b:List UInt8) (hb:b.length=64) (z:List UInt32):J02_1 b 0 z z=some (z,J63 (Jn1 b) 0 16 z):=by
 unfold J02_1
 refine J5k (fun i w=>((i:Int),w)) (Jn1 b) (fun w=>(z,w)) 16 (fun _ _=>True) (fun i w hi _=>⟨Jle b hb z w hi,trivial⟩) (fun w _=>?_) 16 0 z rfl trivial
 unfold J02_1_step
 rfl
theorem Jlf (z w:List UInt32) {i:Nat} (h1:16≤i) (hi:i < 64) :
  J02_2_step (i:Int) z w=some (.inl (((i+1:Nat):Int),Jn2 i w)):=by
 unfold J02_2_step
 have e0:Int.toNat ((i:Int) - 15)=i - 15:=by omega
 have e1:Int.toNat ((i:Int) - 2)=i - 2:=by omega
 have e2:Int.toNat ((i:Int) - 16)=i - 16:=by omega
 have e3:Int.toNat ((i:Int) - 7)=i - 7:=by omega
 simp (disch:=omega) only [J5f,J5g,J5c,e0,e1,e2,e3,Int.toNat_natCast,right7,Jye,Jyd,Jyf,J5b]
 rfl
theorem Jw1 (z w:List UInt32):J02_2 16 z w=some (z,J63 Jn2 16 48 w):=by
 unfold J02_2
 refine J5k (fun i w=>((i:Int),w)) Jn2 (fun w=>(z,w)) 64 (fun i _=>16≤i) (fun i w hi h=>⟨Jlf z w h hi,by omega⟩) (fun w _=>?_) 48 16 w rfl (Nat.le_refl _)
 unfold J02_2_step
 rfl
theorem Jt9 (b:List UInt8) (hb:b.length=64):J02 b=some (Jc7 b):=by
 unfold J02
 rw [Jw0 b hb,J5b,Jw1,J5b,Jc7]
theorem Js3 (k w hz:List UInt32) (s:W8) {i:Nat} (hi:i < 64) :
  Jt_1_step s.1 s.2.1 s.2.2.1 s.2.2.2.1 s.2.2.2.2.1 s.2.2.2.2.2.1 s.2.2.2.2.2.2.1 s.2.2.2.2.2.2.2 (i:Int) hz k w =
   some (.inl ((J6v k w i s).1,(J6v k w i s).2.1,(J6v k w i s).2.2.1,(J6v k w i s).2.2.2.1,(J6v k w i s).2.2.2.2.1,(J6v k w i s).2.2.2.2.2.1,(J6v k w i s).2.2.2.2.2.2.1,(J6v k w i s).2.2.2.2.2.2.2,((i+1:Nat):Int))):=by
 obtain ⟨a,b,c,d,e,f,g,h⟩:=s
 unfold Jt_1_step
 simp (disch:=omega) only [J5f,J5g,J5c,Int.toNat_natCast,right6,Jyb,Jyh,right2,Jyc,Jyg,J5b]
 rfl
theorem mix_1 (k w hz:List UInt32) (s:W8):Jt_1 s.1 s.2.1 s.2.2.1 s.2.2.2.1 s.2.2.2.2.1 s.2.2.2.2.2.1 s.2.2.2.2.2.2.1 s.2.2.2.2.2.2.2 0 hz k w =
   some ((J63 (J6v k w) 0 64 s).1,(J63 (J6v k w) 0 64 s).2.1,(J63 (J6v k w) 0 64 s).2.2.1,(J63 (J6v k w) 0 64 s).2.2.2.1,(J63 (J6v k w) 0 64 s).2.2.2.2.1,(J63 (J6v k w) 0 64 s).2.2.2.2.2.1,(J63 (J6v k w) 0 64 s).2.2.2.2.2.2.1,(J63 (J6v k w) 0 64 s).2.2.2.2.2.2.2,hz,k):=by
 unfold Jt_1
 refine J5k (fun i (s:W8)=>(s.1,s.2.1,s.2.2.1,s.2.2.2.1,s.2.2.2.2.1,s.2.2.2.2.2.1,s.2.2.2.2.2.2.1,s.2.2.2.2.2.2.2,(i:Int))) (J6v k w)
  (fun (s:W8)=>(s.1,s.2.1,s.2.2.1,s.2.2.2.1,s.2.2.2.2.1,s.2.2.2.2.2.1,s.2.2.2.2.2.2.1,s.2.2.2.2.2.2.2,hz,k)) 64 (fun _ _=>True) (fun i s hi _=>⟨Js3 k w hz s hi,trivial⟩) (fun s _=>?_) 64 0 s rfl trivial
 unfold Jt_1_step
 rfl
theorem mix_2 (v h k:List UInt32):Jt_2 v 0 h k=some (J63 (addS v) 0 8 h,k):=by
 unfold Jt_2
 refine J5k (fun i w=>((i:Int),w)) (addS v) (fun w=>(w,k)) 8 (fun _ _=>True) (fun i w hi _=>⟨?_,trivial⟩) (fun w _=>?_) 8 0 h rfl trivial
 ·unfold Jt_2_step
  simp (disch:=omega) only [J5f,J5g,J5c,Int.toNat_natCast]
  rfl
 ·unfold Jt_2_step
  rfl
theorem mix_eq (b:List UInt8) (hb:b.length=64) (h k:List UInt32):Jt b h k=some (mixS k b h,k):=by
 unfold Jt
 rw [Jt9 b hb,J5b]
 have:=mix_1 k (Jc7 b) h (tup8 h)
 simp only [tup8] at this
 rw [show (Int.toNat (0:Int))=0 from rfl,show (Int.toNat (1:Int))=1 from rfl,show (Int.toNat (2:Int))=2 from rfl,show (Int.toNat (3:Int))=3 from rfl,show (Int.toNat (4:Int))=4 from rfl,
  show (Int.toNat (5:Int))=5 from rfl,show (Int.toNat (6:Int))=6 from rfl,show (Int.toNat (7:Int))=7 from rfl,this,J5b,mix_2,J5b]
 rfl
set_option maxRecDepth 100000
theorem Jqq (n:Nat) (h:n≤1073741824):J4m (n:Int)=some (((n+8) / 64+1:Nat):Int):=by
 unfold J4m
 have e:Int.tdiv ((n:Int)+8) 64=(((n+8) / 64:Nat):Int):=by
  rw [Int.tdiv_eq_ediv_of_nonneg (by omega)]; omega
 simp (disch:=omega) only [J5g,e]
 rfl
theorem Jmy {α:Type} (a l:List α) (k:Nat) (x:α):(a++l).set (a.length+k) x=a++l.set k x:=by
 rw [List.set_append_right _ _ (by omega)]
 congr 2; omega
theorem Jmr (x0:UInt64) (n:Nat) (hn:8≤n) (hn2:n≤2147483648) (l:List UInt8) (hl:l.length=n):J15_1 x0 0 l=some (J63 (fun i (w:List UInt8)=>w.set (n - 1 - i) (J9g x0 i)) 0 8 l):=by
 unfold J15_1
 refine J5k (fun i w=>((i:Int),w)) (fun i (w:List UInt8)=>w.set (n - 1 - i) (J9g x0 i)) (fun w=>w) 8 (fun _ w=>w.length=n) (fun i w hi hw=>⟨?_,by simp [hw]⟩) (fun w _=>?_) 8 0 l rfl hl
 ·unfold J15_1_step
  have e0:Int.toNat ((n:Int) - 1 - (i:Int))=n - 1 - i:=by omega
  have e1:Int.toNat (8 * (i:Int))=8 * i:=by omega
  simp (disch:=omega) only [J5f,J5g,J5c,hw,e0,e1]
  rfl
 ·unfold J15_1_step
  rfl
theorem Jsi (b:List UInt8) (hb:b.length≤1073741824):J15 b=some (padS b):=by
 unfold J15
 rw [Jqq _ hb,J5b]
 have hN:w64 ((((b.length+8) / 64+1:Nat):Int) * 64)=(((b.length+8) / 64 * 64+64:Nat):Int):=by
  rw [J5g (by omega) (by omega)]; omega
 generalize hn:(b.length+8) / 64 * 64+64=n at hN
 rw [hN,J5c (by omega),Int.toNat_natCast,List.length_replicate,List.take_of_length_le (by omega),List.drop_replicate]
 have hz:n - b.length=((b.length+8) / 64 * 64+55 - b.length)+1+8:=by omega
 have hl:(b++List.replicate (n - b.length) (0:UInt8)).length=n:=by simp; omega
 rw [hl,J5c (by omega),Int.toNat_natCast]
 have hbits:UInt64.ofNat (Int.toNat ((b.length:Int) % 18446744073709551616)) * 8=bitsOf b:=by
  unfold bitsOf; congr 2; omega
 rw [hbits,Jmr (bitsOf b) n (by omega) (by omega) _ (by rw [List.length_set,hl]),J5b]
 congr 1
 have h1:(b++List.replicate (n - b.length) (0:UInt8)).set b.length 128=(b++128::List.replicate ((b.length+8) / 64 * 64+55 - b.length) 0)++[0,0,0,0,0,0,0,0]:=by
  rw [hz]
  generalize (b.length+8) / 64 * 64+55 - b.length=z
  have h:=Jmy b (List.replicate ((z+8)+1) (0:UInt8)) 0 128
  rw [Nat.add_zero b.length] at h
  rw [show z+1+8=(z+8)+1 from by omega,h,List.replicate_succ,List.set_cons_zero,← List.replicate_append_replicate,List.append_assoc]
  rfl
 rw [h1]
 have hA:(b++128::List.replicate ((b.length+8) / 64 * 64+55 - b.length) (0:UInt8)).length=n - 8:=by simp; omega
 generalize hA2:(b++128::List.replicate ((b.length+8) / 64 * 64+55 - b.length) (0:UInt8))=A at hA
 have ix:∀ i,i < 8→n - 1 - i=A.length+(7 - i):=by intro i hi; omega
 simp only [J63]
 rw [ix 0 (by omega),ix (0+1) (by omega),ix (0+1+1) (by omega),ix (0+1+1+1) (by omega),ix (0+1+1+1+1) (by omega),ix (0+1+1+1+1+1) (by omega),ix (0+1+1+1+1+1+1) (by omega),ix (0+1+1+1+1+1+1+1) (by omega)]
 simp only [Jmy]
 unfold padS
 rw [show ∀ x:List UInt8,b++128::(List.replicate ((b.length+8) / 64 * 64+55 - b.length) 0++x)=A++x from fun x=>by rw [← hA2]; simp]
 rfl
theorem Jmq (b:List UInt8):(padS b).length=64 * ((b.length+8) / 64+1):=by
 unfold padS
 simp
 omega
theorem Jho {α:Type} {f:Nat→List α→List α} (h:∀ i w,(f i w).length=w.length):∀ (k i:Nat) (w:List α),(J63 f i k w).length=w.length
 | 0,_,_=>rfl
 | k+1,i,w=>by rw [J63,Jho h k,h]
theorem Jny (k:List UInt32) (b:List UInt8) (h:List UInt32):(mixS k b h).length=h.length:=Jho (fun i w=>by simp [addS]) _ _ _
theorem J9x:∀ (n:Nat) (l:List UInt8) (h:List UInt32),(J9w n l h).length=h.length
 | 0,_,_=>rfl
 | n+1,l,h=>by rw [J9w,J9x n,Jny]
theorem sum_1 (out:List UInt8):∀ (n:Nat) (l:List UInt8),l.length=64 * n→l.length≤2147483648→∀ h,J03_1 l out h kS=some (out,J9w n l h)
 | 0,l,hl,_,h=>by
  unfold J03_1
  refine J5r ?_
  unfold J03_1_step
  show fork (decide ((0:Int) < (l.length:Int))) _ _=_
  rw [J5d (by omega)]; rfl
 | n+1,l,hl,hl2,h=>by
  have hm:=mix_eq (l.take 64) (by rw [List.length_take]; omega) h kS
  have hs:J03_1_step l out h kS=some (.inl (l.drop 64,mixS kS (l.take 64) h,kS)):=by
   unfold J03_1_step
   rw [J5f (by omega),J5c (by omega),show cutL l (0:Int) (64:Int)=l.take 64 from rfl,hm,J5b,J5c (by omega)]
   have:cutL l (64:Int) (l.length:Int)=l.drop 64:=by
    unfold cutL; rw [Int.toNat_natCast,List.take_of_length_le (Nat.le_refl _)]; rfl
   rw [this]
  have ih:=sum_1 out n (l.drop 64) (by rw [List.length_drop]; omega) (by rw [List.length_drop]; omega) (mixS kS (l.take 64) h)
  unfold J03_1 at ih ⊢
  rw [J5v (s':=(l.drop 64,mixS kS (l.take 64) h,kS)) hs,ih]
  rfl
def Jky (x:UInt32) (i:Nat) (acc:List UInt8):List UInt8:=J63 (fun j (acc:List UInt8)=>acc.set (4 * i+j) (outB x j)) 0 4 acc
theorem sum_2 (x:UInt32) (h:List UInt32) (z acc:List UInt8) {i:Nat} (hi:i < 8):J03_2 (i:Int) x h (i:Int) 0 z acc=some (h,(i:Int),z,Jky x i acc):=by
 unfold J03_2
 refine J5k (fun j acc=>((j:Int),acc)) (fun j (acc:List UInt8)=>acc.set (4 * i+j) (outB x j)) (fun acc=>(h,(i:Int),z,acc)) 4 (fun _ _=>True) (fun j acc hj _=>⟨?_,trivial⟩) (fun acc _=>?_) 4 0 acc rfl trivial
 ·unfold J03_2_step
  have e0:Int.toNat (4 * (i:Int)+(j:Int))=4 * i+j:=by omega
  have e1:Int.toNat (24 - 8 * (j:Int))=24 - 8 * j:=by omega
  simp (disch:=omega) only [J5f,J5g,J5c,e0,e1]
  rfl
 ·unfold J03_2_step
  rfl
theorem sum_3 (h:List UInt32) (z acc:List UInt8):J03_3 h 0 z acc=some (z,J63 (fun i acc=>Jky (h.getD i 0) i acc) 0 8 acc):=by
 unfold J03_3
 refine J5k (fun i acc=>(h,(i:Int),z,acc)) (fun i acc=>Jky (h.getD i 0) i acc) (fun acc=>(z,acc)) 8 (fun _ _=>True) (fun i acc hi _=>⟨?_,trivial⟩) (fun acc _=>?_) 8 0 acc rfl trivial
 ·show J03_3_step h (i:Int) z acc=_
  unfold J03_3_step
  rw [J5f (by omega),J5c (by omega),Int.toNat_natCast,sum_2 _ _ _ _ hi,J5b]
  rw [J5g (by show (-9223372036854775808:Int)≤(i:Int)+1; omega) (by show (i:Int)+1≤9223372036854775807; omega)]
  rfl
 ·unfold J03_3_step
  rfl
theorem Jy2 (a b c d e f g i:UInt32):J63 (fun j acc=>Jky (List.getD [a,b,c,d,e,f,g,i] j 0) j acc) 0 8 (List.replicate 32 (0:UInt8))=outS [a,b,c,d,e,f,g,i]:=by kernel_rfl
theorem out_eq (h:List UInt32) (hh:h.length=8):J63 (fun i acc=>Jky (h.getD i 0) i acc) 0 8 (List.replicate 32 (0:UInt8))=outS h:=by
 match h,hh with
 | [a,b,c,d,e,f,g,i],_=>exact Jy2 a b c d e f g i
theorem Jup:J52=some h0S:=by kernel_rfl
theorem Jty:J51=some kS:=by kernel_rfl
theorem sum_eq (b:List UInt8) (hb:b.length≤1073741824):J03 b=some (sha b):=by
 unfold J03
 rw [Jup,J5b,Jty,J5b,Jsi b hb,J5b,sum_1 _ _ _ (Jmq b) (by rw [Jmq]; omega),J5b]
 simp only [sum_3,J5b]
 rw [out_eq _ (by rw [J9x]; rfl)]
 rfl
theorem J77 (b:List UInt8):(sha b).length=32:=by
 unfold sha outS
 have:(J9w ((b.length+8) / 64+1) (padS b) h0S).length=8:=by rw [J9x]; rfl
 generalize J9w ((b.length+8) / 64+1) (padS b) h0S=h at this
 match h,this with
 | [a,b,c,d,e,f,g,i],_=>rfl
theorem getD_take {α:Type} (l:List (List α)) {i:Nat} (h:i < l.length):(l.take i).flatten++l.getD i []=(l.take (i+1)).flatten:=by
 rw [List.take_add_one,List.flatten_append,List.getD_eq_getElem?_getD,List.getElem?_eq_getElem h]
 simp
theorem J9a {α:Type} (l:List (List α)) (i:Nat):((l.take i).flatten).length≤l.flatten.length:=by
 conv=>rhs; rw [← List.take_append_drop i l]
 rw [List.flatten_append,List.length_append]; omega
theorem J6k (t:UInt8) (l:List (List UInt8)) (h:l.flatten.length≤1073741823) (hl:l.length≤1073741823):Jr t l=some (sha (t::l.flatten)):=by
 unfold Jr
 have:∀ z,Jr_1 l (l.length:Int) 0 z [t]=some (z,t::l.flatten):=by
  intro z
  unfold Jr_1
  have:=J5k (step:=fun (s:Int×List UInt8)=>Jr_1_step l (l.length:Int) s.1 z s.2) (fun i (_:Unit)=>((i:Int),t::(l.take i).flatten)) (fun _ _=>()) (fun _=>(z,t::l.flatten)) l.length (fun _ _=>True) (fun i w hi _=>⟨?_,trivial⟩) (fun w _=>?_) l.length 0 () (by omega) trivial
  ·exact this
  ·unfold Jr_1_step
   have e:=getD_take l hi
   have le:=J9a l (i+1)
   rw [← e,List.length_append] at le
   simp (disch:=omega) only [J5f,J5g,J5c,Int.toNat_natCast]
   rw [J5c (by rw [List.length_cons]; omega),List.cons_append,e]
   rfl
  ·unfold Jr_1_step
   rw [J5d (by omega),List.take_of_length_le (Nat.le_refl _)]
 rw [this,J5b]
 simp only []
 rw [sum_eq _ (by rw [List.length_cons]; omega),J5b]
theorem Jcw (a:Nat):(BitVec.ofInt 64 (a:Int)).toNat=a % 18446744073709551616:=by
 rw [BitVec.toNat_ofInt]; omega
theorem Jnd (a b:Nat) (ha:a < 9223372036854775808) (hb:b < 9223372036854775808):band (a:Int) (b:Int)=((a &&& b:Nat):Int):=by
 unfold band
 have hle:a &&& b≤a:=Nat.and_le_left
 rw [BitVec.toNat_and,Jcw,Jcw,Nat.mod_eq_of_lt (by omega),Nat.mod_eq_of_lt (by omega)]
 exact J5g (by omega) (by omega)
theorem Jqr (a b:Nat) (h:(a ||| b) < 9223372036854775808):bor (a:Int) (b:Int)=((a ||| b:Nat):Int):=by
 unfold bor
 have h1:a≤a ||| b:=Nat.left_le_or
 have h2:b≤a ||| b:=Nat.right_le_or
 rw [BitVec.toNat_or,Jcw,Jcw,Nat.mod_eq_of_lt (by omega),Nat.mod_eq_of_lt (by omega)]
 exact J5g (by omega) (by omega)
theorem Jx8 (a:Nat) (ha:a < 9223372036854775808):band (a:Int) 127=((a % 128:Nat):Int):=by
 rw [show (127:Int)=((127:Nat):Int) from rfl,Jnd a 127 ha (by omega),show (127:Nat)=2 ^ 7 - 1 from rfl,Nat.and_two_pow_sub_one_eq_mod]
theorem Jsb (a c k:Nat) (h:a < 2 ^ k):a ||| (c * 2 ^ k)=a+c * 2 ^ k:=by
 rw [Nat.or_comm,← Nat.shiftLeft_eq,← Nat.shiftLeft_add_eq_or_of_lt h,Nat.add_comm]
theorem bor128 (a:Nat) (h:a < 128):bor (a:Int) 128=((a+128:Nat):Int):=by
 have e:=Jsb a 1 7 h
 rw [show (128:Int)=((128:Nat):Int) from rfl,Jqr a 128 (by simp only [Nat.one_mul] at e; rw [show (128:Nat)=2 ^ 7 from rfl,e]; omega)]
 simp only [Nat.one_mul] at e
 rw [show (128:Nat)=2 ^ 7 from rfl,e]
theorem Juz (a k:Nat) (hk:k≤64):ishr (a:Int) k=((a / 2 ^ k:Nat):Int):=by
 unfold ishr
 rw [Nat.min_eq_left hk,Int.fdiv_eq_ediv_of_nonneg _ (by exact_mod_cast Nat.zero_le _)]
 exact_mod_cast rfl
theorem Juy (a k:Nat) (hk:k≤64) (h:a * 2 ^ k < 9223372036854775808):ishl (a:Int) k=((a * 2 ^ k:Nat):Int):=by
 unfold ishl
 rw [Nat.min_eq_left hk]
 have e:(a:Int) * 2 ^ k=((a * 2 ^ k:Nat):Int):=by exact_mod_cast rfl
 rw [e]
 exact J5g (by omega) (by omega)
theorem u8_and127 (b:UInt8):(b &&& 127).toNat=b.toNat % 128:=by
 rw [UInt8.toNat_and,show (127:UInt8).toNat=2 ^ 7 - 1 from rfl,Nat.and_two_pow_sub_one_eq_mod]
theorem J8k (a:Nat):UInt8.ofNat (Int.toNat ((a:Int) % 256))=UInt8.ofNat a:=by
 rw [show Int.toNat ((a:Int) % 256)=a % 256 from by omega]
 apply UInt8.toNat_inj.1
 simp
abbrev zH:List UInt8:=List.replicate 32 (0:UInt8)
def secS (seed:List UInt8) (i v:Nat):List UInt8:=sha (115::(seed++[UInt8.ofNat i,UInt8.ofNat v]))
def pubS (s:List UInt8):List UInt8:=sha (112::s)
def keyS (ps:List (List UInt8)):List UInt8:=sha (107::ps.flatten)
def digS (m:List UInt8):List UInt8:=sha (109::m)
def bitN (d:List UInt8) (i:Nat):Nat:=((d.getD (i / 8) 0).toNat >>> (7 - i % 8)) % 2
theorem Jhy (d:List UInt8) (i:Nat):bitN d i≤1:=by unfold bitN; omega
abbrev One:=List (List UInt8)×List (List UInt8)×Unit
theorem Joh (seed:List UInt8) (hs:seed.length=32) (i v:Nat) (hi:i < 256) (hv:v < 256):J2x seed (i:Int) (v:Int)=some (secS seed i v):=by
 unfold J2x
 have hf:[seed,[UInt8.ofNat (Int.toNat ((i:Int) % 256)),UInt8.ofNat (Int.toNat ((v:Int) % 256))]].flatten=seed++[UInt8.ofNat i,UInt8.ofNat v]:=by
  rw [J8k,J8k]; simp
 rw [J6k _ _ (by rw [hf]; simp; omega) (by simp),hf]
 rfl
theorem Jo8 (s:List UInt8) (hs:s.length=32):J2w s=some (pubS s):=by
 unfold J2w
 have hf:[s].flatten=s:=by simp
 rw [J6k _ _ (by rw [hf]; omega) (by simp),hf]
 rfl
theorem Jbd (seed:List UInt8) (i v:Nat):(secS seed i v).length=32:=J77 _
theorem Jj6 (s:List UInt8):(pubS s).length=32:=J77 _
theorem Jns (s:List (List UInt8)):(keyS s).length=32:=J77 _
theorem Jnr (m:List (List UInt8)) (hm:∀ x ∈ m,x.length=32):m.flatten.length=32 * m.length:=by
 induction m with
 | nil=>rfl
 | cons a m ih=>rw [List.flatten_cons,List.length_append,ih (fun x hx=>hm x (List.mem_cons_of_mem _ hx)),hm a List.mem_cons_self,List.length_cons]; omega
theorem Jk8 (l:List (List UInt8)) {i:Nat} (h:i < l.length):(l.take i).flatten++l.getD i zH=(l.take (i+1)).flatten:=by
 rw [List.take_add_one,List.flatten_append,List.getD_eq_getElem?_getD,List.getElem?_eq_getElem h]
 simp
theorem Jeh (l:List (List UInt8)) (h:∀ x ∈ l,x.length=32) (i:Nat):(l.getD i zH).length=32:=by
 rw [List.getD_eq_getElem?_getD]
 cases e:l[i]? with
 | none=>rfl
 | some x=>exact h x (List.mem_of_getElem? e)
theorem Jwo (l:List (List UInt8)) (hl:l.length≤1000) (h:∀ x ∈ l,x.length=32):J1n l=some (keyS l):=by
 have hlen:∀ i,((l.take i).flatten).length≤32 * l.length:=fun i=>by
  rw [Jnr _ fun x hx=>h x (List.mem_of_mem_take hx),List.length_take]; omega
 have main:∀ z,J1n_1 l (l.length:Int) 0 z []=some (z,l.flatten):=by
  intro z
  unfold J1n_1
  have:=J5k (step:=fun (s:Int×List UInt8)=>J1n_1_step l (l.length:Int) s.1 z s.2) (fun i (_:Unit)=>((i:Int),(l.take i).flatten)) (fun _ _=>()) (fun _=>(z,l.flatten)) l.length (fun _ _=>True) (fun i w hi _=>⟨?_,trivial⟩) (fun w _=>?_) l.length 0 () (by omega) trivial
  ·exact this
  ·show J1n_1_step l (l.length:Int) (i:Int) z (l.take i).flatten=_
   unfold J1n_1_step
   have b:=hlen i
   have hm:(l.getD i (List.replicate 32 0)).length=32:=Jeh l h i
   rw [J5f (by omega),J5c (by omega),Int.toNat_natCast,J5c (by omega),J5g (by omega) (by omega),Jk8 l hi]
   rfl
  ·show J1n_1_step l (l.length:Int) (l.length:Int) z (l.take l.length).flatten=_
   unfold J1n_1_step
   rw [J5d (by omega),List.take_of_length_le (Nat.le_refl _)]
 unfold J1n
 have hf:[l.flatten].flatten=l.flatten:=by simp
 have:=Jnr l h
 rw [main,J5b]
 simp only
 rw [J6k _ _ (by rw [hf]; omega) (by simp),hf]
 rfl
theorem Jwf (d:List UInt8) (i:Nat) (hi:i < 256):J4t d (i:Int)=some ((bitN d i:Nat):Int):=by
 unfold J4t
 have e1:Int.tdiv (i:Int) 8=((i / 8:Nat):Int):=by rw [Int.tdiv_eq_ediv_of_nonneg (by omega)]; omega
 have e2:Int.tmod (i:Int) 8=((i % 8:Nat):Int):=by rw [Int.tmod_eq_emod_of_nonneg (by omega)]; omega
 rw [e1,e2,J5g (by omega) (by omega),J5g (by omega) (by omega),J5c (by omega),J5c (by omega),Int.toNat_natCast,show Int.toNat (7 - ((i % 8:Nat):Int))=7 - i % 8 from by omega]
 generalize hx:d.getD (i / 8) 0=x
 have hlt:=x.toNat_lt
 have hs:x.toNat >>> (7 - i % 8)≤x.toNat:=by rw [Nat.shiftRight_eq_div_pow]; exact Nat.div_le_self _ _
 rw [UInt8.toNat_ofNat',Nat.mod_eq_of_lt (by omega)]
 have hb:=Jnd (x.toNat >>> (7 - i % 8)) 1 (by omega) (by omega)
 rw [show ((1:Nat):Int)=1 from rfl] at hb
 rw [hb,show (1:Nat)=2 ^ 1 - 1 from rfl,Nat.and_two_pow_sub_one_eq_mod]
 unfold bitN
 rw [hx]
def Jpr (seed:List UInt8) (i:Nat):List (List UInt8):=[pubS (secS seed i 0),pubS (secS seed i 1)]
def J6x (seed:List UInt8) (n:Nat):List (List UInt8):=(List.range n).flatMap (Jpr seed)
theorem Jcz (seed:List UInt8) (n:Nat):(∀ x ∈ J6x seed n,x.length=32)∧(J6x seed n).length=2 * n:=by
 unfold J6x
 refine ⟨fun x hx=>?_,?_⟩
 ·obtain ⟨i,_,hi⟩:=List.mem_flatMap.1 hx
  simp only [Jpr,List.mem_cons,List.not_mem_nil,or_false] at hi
  rcases hi with rfl | rfl <;> exact Jj6 _
 ·induction n with
  | zero=>rfl
  | succ n ih=>rw [List.range_succ,List.flatMap_append,List.length_append,ih]; simp [Jpr]; omega
theorem Jfc {α β:Type} {f g:α→List β}:∀ {l:List α},(∀ a ∈ l,f a=g a)→l.flatMap f=l.flatMap g
 | [],_=>rfl
 | a::l,h=>by rw [List.flatMap_cons,List.flatMap_cons,h a List.mem_cons_self,Jfc fun b hb=>h b (List.mem_cons_of_mem _ hb)]
theorem Jcm {α:Type} (f:Nat→List α) (n:Nat):(List.range (n+1)).flatMap f=(List.range n).flatMap f++f n:=by
 rw [List.range_succ,List.flatMap_append]; simp
def KeyS (seed:List UInt8):List UInt8:=keyS (J6x seed 32)
theorem Key_eq (seed:List UInt8) (hs:seed.length=32):J1y seed=some (KeyS seed):=by
 have main:∀ z,J1y_1 0 seed z []=some (z,J6x seed 32):=by
  intro z
  unfold J1y_1
  have:=J5k (step:=fun (s:Int×List (List UInt8))=>J1y_1_step s.1 seed z s.2) (fun i (_:Unit)=>((i:Int),J6x seed i)) (fun _ _=>()) (fun _=>(z,J6x seed 32)) 32 (fun _ _=>True) (fun i w hi _=>⟨?_,trivial⟩) (fun w _=>?_) 32 0 () (by omega) trivial
  ·exact this
  ·show J1y_1_step (i:Int) seed z (J6x seed i)=_
   unfold J1y_1_step
   have hl:=(Jcz seed i).2
   have s0:=Joh seed hs i 0 (by omega) (by omega)
   have s1:=Joh seed hs i 1 (by omega) (by omega)
   rw [show ((0:Nat):Int)=0 from rfl] at s0
   rw [show ((1:Nat):Int)=1 from rfl] at s1
   rw [J5f (by omega),s0,J5b,Jo8 _ (Jbd _ _ _),J5b,s1,J5b,Jo8 _ (Jbd _ _ _),J5b,J5c (by simp; omega),J5g (by omega) (by omega)]
   unfold J6x
   rw [Jcm]
   rfl
  ·show J1y_1_step 32 seed z (J6x seed 32)=_
   unfold J1y_1_step
   rw [J5d (by omega)]
 unfold J1y
 obtain ⟨h1,h2⟩:=Jcz seed 32
 rw [main,J5b]
 simp only
 rw [Jwo _ (by omega) h1]
 rfl
def Jcx (seed d:List UInt8) (n:Nat):List (List UInt8):=(List.range n).map fun i=>secS seed i (bitN d i)
def Jd6 (seed d:List UInt8) (n:Nat):List (List UInt8):=(List.range n).map fun i=>pubS (secS seed i (1 - bitN d i))
def Jjd (seed m:List UInt8):One:=(Jcx seed (digS m) 32,Jd6 seed (digS m) 32,())
theorem mapRange {α:Type} (f:Nat→α) (n:Nat):(List.range (n+1)).map f=(List.range n).map f++[f n]:=by
 rw [List.range_succ,List.map_append]; rfl
theorem Jwh (m:List UInt8) (hm:m.length≤100000):Jr 109 [m]=some (digS m):=by
 have hf:[m].flatten=m:=by simp
 rw [J6k _ _ (by rw [hf]; omega) (by simp),hf]
 rfl
theorem Jyt (seed m:List UInt8) (hs:seed.length=32) (hm:m.length≤100000):J1g seed m=some (Jjd seed m):=by
 have main:∀ d,J1g_1 0 seed () () [] [] d=some ((),(),Jcx seed d 32,Jd6 seed d 32):=by
  intro d
  unfold J1g_1
  have:=J5k (step:=fun (s:Int×List (List UInt8)×List (List UInt8))=>J1g_1_step s.1 seed () () s.2.1 s.2.2 d) (fun i (_:Unit)=>((i:Int),Jcx seed d i,Jd6 seed d i)) (fun _ _=>()) (fun _=>((),(),Jcx seed d 32,Jd6 seed d 32)) 32 (fun _ _=>True) (fun i w hi _=>⟨?_,trivial⟩) (fun w _=>?_) 32 0 () (by omega) trivial
  ·exact this
  ·show J1g_1_step (i:Int) seed () () (Jcx seed d i) (Jd6 seed d i) d=_
   unfold J1g_1_step
   have hb:=Jhy d i
   have lo:(Jcx seed d i).length=i:=by simp [Jcx]
   have ls:(Jd6 seed d i).length=i:=by simp [Jd6]
   rw [J5f (by omega),Jwf d i (by omega),J5b,Joh seed hs i _ (by omega) (by omega),J5b,J5c (by simp; omega),J5g (by omega) (by omega),show (1:Int) - ((bitN d i:Nat):Int)=((1 - bitN d i:Nat):Int) from by omega,
    Joh seed hs i _ (by omega) (by omega),J5b,Jo8 _ (Jbd _ _ _),J5b,J5c (by simp; omega),J5g (by omega) (by omega)]
   unfold Jcx Jd6
   rw [mapRange,mapRange]
   rfl
  ·show J1g_1_step 32 seed () () (Jcx seed d 32) (Jd6 seed d 32) d=_
   unfold J1g_1_step
   rw [J5d (by omega)]
 unfold J1g
 rw [Jwh m hm,J5b,main,J5b]
 rfl
def Jec (d:List UInt8) (o s:List (List UInt8)) (i:Nat):List (List UInt8):=if bitN d i=0 then [pubS (o.getD i zH),s.getD i zH] else [s.getD i zH,pubS (o.getD i zH)]
def Jbq (d:List UInt8) (o s:List (List UInt8)):List (List UInt8):=(List.range 32).flatMap (Jec d o s)
def Len32 (l:List (List UInt8)):Prop:=∀ x ∈ l,x.length=32
def whoS (m:List UInt8) (x:One):List UInt8×Bool:=if x.1.length=32∧x.2.1.length=32 then (keyS (Jbq (digS m) x.1 x.2.1),true) else (zH,false)
theorem Jtp (d:List UInt8) (o s:List (List UInt8)) (i:Nat):(Jec d o s i).length=2:=by unfold Jec; split <;> rfl
theorem Jdw (d:List UInt8) (o s:List (List UInt8)):∀ n,((List.range n).flatMap (Jec d o s)).length=2 * n
 | 0=>rfl
 | n+1=>by rw [Jcm,List.length_append,Jdw d o s n,Jtp]; omega
theorem Jqa (d:List UInt8) (o s:List (List UInt8)) (hs:Len32 s) (n:Nat):Len32 ((List.range n).flatMap (Jec d o s)):=by
 intro x hx
 obtain ⟨i,_,hi⟩:=List.mem_flatMap.1 hx
 unfold Jec at hi
 split at hi <;> simp only [List.mem_cons,List.not_mem_nil,or_false] at hi <;> rcases hi with rfl | rfl <;> first | exact Jj6 _ | exact Jeh s hs i
theorem Joi {α:Type} (a l:List α) (k:Nat) (x:α) (n:Nat) (h:n=a.length+k):(a++l).set n x=a++l.set k x:=by
 subst h; exact Jmy a l k x
theorem who_1 (d:List UInt8) (z:List UInt8) (x:One) (ho:x.1.length=32) (hs:x.2.1.length=32) (lo:Len32 x.1):J1z_1 0 x z d (List.replicate 64 zH)=some (z,Jbq d x.1 x.2.1):=by
 unfold J1z_1
 have:=J5k (step:=fun (s:Int×List (List UInt8))=>J1z_1_step s.1 x z d s.2) (fun i (_:Unit)=>((i:Int),(List.range i).flatMap (Jec d x.1 x.2.1)++List.replicate (64 - 2 * i) zH)) (fun _ _=>()) (fun _=>(z,Jbq d x.1 x.2.1)) 32 (fun _ _=>True) (fun i w hi _=>⟨?_,trivial⟩) (fun w _=>?_) 32 0 () (by omega) trivial
 ·exact this
 ·show J1z_1_step (i:Int) x z d ((List.range i).flatMap (Jec d x.1 x.2.1)++List.replicate (64 - 2 * i) zH)=_
  unfold J1z_1_step
  have hb:=Jhy d i
  have hl:=Jdw d x.1 x.2.1 i
  have hlen:((List.range i).flatMap (Jec d x.1 x.2.1)++List.replicate (64 - 2 * i) zH).length=64:=by rw [List.length_append,hl,List.length_replicate]; omega
  rw [J5f (by omega),Jwf d i (by omega),J5b,J5c (by omega),Int.toNat_natCast,Jo8 _ (Jeh _ lo i),J5b,J5c (by omega)]
  have e1:w64 (w64 (2 * (i:Int))+((bitN d i:Nat):Int))=((2 * i+bitN d i:Nat):Int):=by rw [J5g (n:=2 * (i:Int)) (by omega) (by omega),J5g (by omega) (by omega)]; omega
  have e2:w64 (w64 (w64 (2 * (i:Int))+1) - ((bitN d i:Nat):Int))=((2 * i+1 - bitN d i:Nat):Int):=by rw [J5g (n:=2 * (i:Int)) (by omega) (by omega),J5g (n:=2 * (i:Int)+1) (by omega) (by omega),J5g (by omega) (by omega)]; omega
  rw [e1,e2,hlen,J5c (by omega),List.length_set,hlen,J5c (by omega),Int.toNat_natCast,Int.toNat_natCast,J5g (by omega) (by omega),Jcm]
  have hr:List.replicate (64 - 2 * i) zH=zH::zH::List.replicate (64 - 2 * (i+1)) zH:=by
   rw [show 64 - 2 * i=(64 - 2 * (i+1))+1+1 from by omega,List.replicate_succ,List.replicate_succ]
  rw [hr]
  have hw:Jec d x.1 x.2.1 i=if bitN d i=0 then [pubS (x.1.getD i zH),x.2.1.getD i zH] else [x.2.1.getD i zH,pubS (x.1.getD i zH)]:=rfl
  rw [hw]
  rcases (show bitN d i=0∨bitN d i=1 by omega) with h0 | h0
  ·rw [h0,if_pos rfl,Joi _ _ 0 _ _ (by rw [hl]),Joi _ _ 1 _ _ (by rw [hl]; rfl),List.append_assoc]
   rfl
  ·rw [h0,if_neg (by omega),Joi _ _ 1 _ _ (by rw [hl]),Joi _ _ 0 _ _ (by rw [hl]; omega),List.append_assoc]
   rfl
 ·show J1z_1_step 32 x z d _=_
  unfold J1z_1_step
  rw [J5d (by omega)]
  simp [Jbq]
theorem who_eq (m:List UInt8) (hm:m.length≤100000) (x:One) (lo:Len32 x.1) (ls:Len32 x.2.1):J1z m x=some (whoS m x):=by
 unfold J1z whoS
 by_cases ho:x.1.length=32
 ·rw [J8b (by omega)]
  by_cases hs:x.2.1.length=32
  ·rw [J8b (by omega),Jwh m hm,J5b,J5c (by omega),if_pos ⟨ho,hs⟩]
   have w:=who_1 (digS m) zH x ho hs lo
   rw [show Int.toNat (64:Int)=64 from rfl,w,J5b]
   simp only
   have hk:J1n (Jbq (digS m) x.1 x.2.1)=some (keyS (Jbq (digS m) x.1 x.2.1)):=Jwo _ (by unfold Jbq; rw [Jdw]; omega) (Jqa _ _ _ ls 32)
   rw [hk]
   rfl
  ·rw [J9c (by omega),if_neg (fun h=>hs h.2)]
 ·rw [J9c (by omega),if_neg (fun h=>ho h.1)]
theorem Jok (seed m:List UInt8):(Jjd seed m).1.length=32∧(Jjd seed m).2.1.length=32∧Len32 (Jjd seed m).1∧Len32 (Jjd seed m).2.1:=by
 refine ⟨by simp [Jjd,Jcx],by simp [Jjd,Jd6],fun x hx=>?_,fun x hx=>?_⟩
 ·obtain ⟨i,_,rfl⟩:=List.mem_map.1 hx; exact Jbd _ _ _
 ·obtain ⟨i,_,rfl⟩:=List.mem_map.1 hx; exact Jj6 _
theorem Jcp (f:Nat→List UInt8) (n i:Nat) (h:i < n):((List.range n).map f).getD i zH=f i:=by
 rw [List.getD_eq_getElem?_getD,List.getElem?_map,List.getElem?_range h]; rfl
def Jl0 (seed d e:List UInt8) (i:Nat):List (List UInt8):=if bitN d i=bitN e i then Jpr seed i else [pubS (secS seed i 1),pubS (secS seed i 0)]
theorem Jn7 (seed d e:List UInt8):Jbq e (Jcx seed d 32) (Jd6 seed d 32)=(List.range 32).flatMap (Jl0 seed d e):=by
 unfold Jbq
 have:∀ i ∈ List.range 32,Jec e (Jcx seed d 32) (Jd6 seed d 32) i=Jl0 seed d e i:=by
  intro i hi
  have hi:i < 32:=List.mem_range.1 hi
  unfold Jec Jl0 Jcx Jd6 Jpr
  rw [Jcp _ 32 i hi,Jcp _ 32 i hi]
  have h1:=Jhy d i
  have h2:=Jhy e i
  rcases (show bitN d i=0∨bitN d i=1 by omega) with a | a <;> rcases (show bitN e i=0∨bitN e i=1 by omega) with b | b <;> simp [a,b]
 rw [Jfc this]
theorem Jw9 (seed m:List UInt8):whoS m (Jjd seed m)=(KeyS seed,true):=by
 obtain ⟨h1,h2,_,_⟩:=Jok seed m
 unfold whoS
 rw [if_pos ⟨h1,h2⟩]
 show (keyS (Jbq (digS m) (Jcx seed (digS m) 32) (Jd6 seed (digS m) 32)),true)=_
 rw [Jn7]
 have:∀ i ∈ List.range 32,Jl0 seed (digS m) (digS m) i=Jpr seed i:=fun i _=>if_pos rfl
 rw [Jfc this]
 rfl
def Jgr:Nat→Nat→Nat→Nat
 | 0,k,n=>k
 | f+1,k,n=>if 2 * k < n then Jgr f (2 * k) n else k
def J60 (n:Nat):Nat:=Jgr 40 1 n
theorem Jj3 (k f:Nat):2 * (2 * k) * 2 ^ f=2 * k * (2 ^ f * 2):=by
 rw [Nat.mul_comm (2 ^ f) 2,← Nat.mul_assoc (2 * k) 2 (2 ^ f)]; congr 1; omega
theorem Jry:∀ (f k n:Nat),1≤k→k < n→n≤2 * k * 2 ^ f→k≤Jgr f k n∧Jgr f k n < n∧n≤2 * Jgr f k n
 | 0,k,n,h1,h2,h3=>by
  simp only [Nat.pow_zero,Nat.mul_one] at h3
  exact ⟨Nat.le_refl _,h2,h3⟩
 | f+1,k,n,h1,h2,h3=>by
  rw [Jgr]
  split
  ·rename_i h
   have:=Jry f (2 * k) n (by omega) h (by rw [Nat.pow_succ] at h3; rw [Jj3]; exact h3)
   exact ⟨by omega,this.2⟩
  ·exact ⟨Nat.le_refl _,h2,by omega⟩
theorem Jaq (n:Nat) (h:2≤n) (h2:n≤1099511627776):1≤J60 n∧J60 n < n∧n≤2 * J60 n:=Jry 40 1 n (by omega) (by omega) (by omega)
theorem Jkl:∀ (f k n:Nat),n≤2 * k * 2 ^ f→1≤k→n≤1073741824→k≤1073741824→J0q_1 (n:Int) (k:Int)=some ((Jgr f k n:Nat):Int)
 | 0,k,n,h,h1,h2,hk=>by
  unfold J0q_1
  refine J5r ?_
  unfold J0q_1_step
  simp only [Nat.pow_zero,Nat.mul_one] at h
  rw [J5g (by omega) (by omega),J5d (by omega)]
  rfl
 | f+1,k,n,h,h1,h2,hk=>by
  rw [Jgr]
  split
  ·rename_i hlt
   rw [← Jkl f (2 * k) n (by rw [Nat.pow_succ] at h; rw [Jj3]; exact h) (by omega) h2 (by omega)]
   have hs:J0q_1_step (n:Int) (k:Int)=some (.inl ((2 * k:Nat):Int)):=by
    unfold J0q_1_step
    rw [J5g (by omega) (by omega),J5g (by omega) (by omega),J5f (by omega),show (k:Int) * 2=((2 * k:Nat):Int) from by omega]
   unfold J0q_1
   rw [J5v hs]
  ·rename_i hlt
   unfold J0q_1
   refine J5r ?_
   unfold J0q_1_step
   rw [J5g (by omega) (by omega),J5d (by omega)]
theorem left_eq (n:Nat) (h:n≤1073741824):J0q (n:Int)=some ((J60 n:Nat):Int):=by
 unfold J0q
 rw [show (1:Int)=((1:Nat):Int) from rfl,Jkl 40 1 n (by omega) (by omega) h (by omega),J5b]
 rfl
def Jvs (l:List (List UInt8)):List UInt8:=
 if h:2≤l.length∧l.length≤1099511627776 then sha (1::(Jvs (l.take (J60 l.length))++Jvs (l.drop (J60 l.length))))
 else if l.length=0 then sha [2] else sha (0::l.getD 0 [])
termination_by l.length
decreasing_by
 ·have:=Jaq l.length h.1 h.2; simp; omega
 ·have:=Jaq l.length h.1 h.2; simp; omega
theorem Joe:∃ f:List (List UInt8)→List UInt8,∀ l,f l=if h:2≤l.length∧l.length≤1099511627776 then sha (1::(f (l.take (J60 l.length))++f (l.drop (J60 l.length)))) else if l.length=0 then sha [2] else sha (0::l.getD 0 []):=
 ⟨Jvs,fun l=>by rw [Jvs]⟩
noncomputable def J8a:List (List UInt8)→List UInt8:=Classical.choose Joe
theorem Jer (l:List (List UInt8)):J8a l=if h:2≤l.length∧l.length≤1099511627776 then sha (1::(J8a (l.take (J60 l.length))++J8a (l.drop (J60 l.length)))) else if l.length=0 then sha [2] else sha (0::l.getD 0 []):=Classical.choose_spec Joe l
theorem J72 (l:List (List UInt8)):(J8a l).length=32:=by
 rw [Jer]; split
 ·exact J77 _
 ·split <;> exact J77 _
def Jcq (a b:List UInt8):List UInt8:=sha (1::(a++b))
def Jxv (x:List UInt8):List UInt8:=sha (0::x)
theorem Jg7 (l:List (List UInt8)) (h:2≤l.length) (h2:l.length≤1099511627776):J8a l=Jcq (J8a (l.take (J60 l.length))) (J8a (l.drop (J60 l.length))):=by
 rw [Jer,dif_pos ⟨h,h2⟩]; rfl
theorem Jaz (x:List UInt8):J8a [x]=Jxv x:=by
 rw [Jer,dif_neg (by simp),if_neg (by simp)]; rfl
theorem Jhm:J8a []=sha [2]:=by
 rw [Jer,dif_neg (by simp),if_pos (by simp)]
theorem Jir (a b:List UInt8) (ha:a.length=32) (hb:b.length=32):J3f a b=some (Jcq a b):=by
 unfold J3f
 have hf:[a,b].flatten=a++b:=by simp
 rw [J6k _ _ (by rw [hf,List.length_append]; omega) (by simp),hf]
 rfl
def Small (l:List (List UInt8)):Prop:=∀ x ∈ l,x.length≤1000000
theorem Jbf {l:List (List UInt8)} (h:Small l) (n:Nat):Small (l.take n):=fun x hx=>h x (List.mem_of_mem_take hx)
theorem Jbe {l:List (List UInt8)} (h:Small l) (n:Nat):Small (l.drop n):=fun x hx=>h x (List.mem_of_mem_drop hx)
theorem Jg8:∀ (k:Nat) (l:List (List UInt8)),l.length < k→l.length≤1000→Small l→J1a_f k l=some (J8a l)
 | 0,l,h,_,_=>by omega
 | k+1,l,h,h2,hl=>by
  rw [J1a_f]
  match l,h,h2,hl with
  | [],h,h2,hl=>
   rw [J5f (by simp),J6k _ _ (by simp) (by simp),Jhm]; rfl
  | [x],h,h2,hl=>
   have hx:=hl x (by simp)
   have hf:[List.getD [x] (Int.toNat (0:Int)) []].flatten=x:=by simp
   rw [J5d (by simp),J5f (by simp),J5c (by simp),J6k _ _ (by rw [hf]; omega) (by simp),hf,Jaz]; rfl
  | x::y::r,h,h2,hl=>
   have hn:2≤(x::y::r).length:=by simp
   generalize x::y::r=l at h h2 hl hn
   obtain ⟨b1,b2,b3⟩:=Jaq l.length hn (by omega)
   rw [J5d (by omega),J5d (by omega),left_eq _ (by omega),J5b,J5c (by omega),Jf0,J8g,Int.toNat_natCast,Jg8 k (l.take (J60 l.length)) (by rw [List.length_take]; omega) (by rw [List.length_take]; omega) (Jbf hl _),J5b,J5c (by omega),
    Jg8 k (l.drop (J60 l.length)) (by rw [List.length_drop]; omega) (by rw [List.length_drop]; omega) (Jbe hl _),J5b,Jir _ _ (J72 _) (J72 _),J5b,Jg7 l hn (by omega)]
theorem Jj9 (l:List (List UInt8)) (h:l.length < 64) (hl:Small l):J1a l=some (J8a l):=Jg8 64 l h (by omega) hl
noncomputable def J9m:Nat→List (List UInt8)→Nat→List (List UInt8)
 | 0,_,_=>[]
 | f+1,l,i=>if l.length≤1 then [] else if i < J60 l.length then J9m f (l.take (J60 l.length)) i++[J8a (l.drop (J60 l.length))]
   else J9m f (l.drop (J60 l.length)) (i - J60 l.length)++[J8a (l.take (J60 l.length))]
def J7e:Nat→Nat→Nat→List Bool
 | 0,_,_=>[]
 | f+1,i,n=>if n≤1 then [] else if i < J60 n then true::J7e f i (J60 n) else false::J7e f (i - J60 n) (n - J60 n)
theorem J8m:∀ (f:Nat) (l:List (List UInt8)) (i:Nat),l.length≤1000→(J9m f l i).length=(J7e f i l.length).length
 | 0,_,_,_=>rfl
 | f+1,l,i,h=>by
  rw [J9m,J7e]
  by_cases h1:l.length≤1
  ·rw [if_pos h1,if_pos h1]; rfl
  ·obtain ⟨b1,b2,b3⟩:=Jaq l.length (by omega) (by omega)
   rw [if_neg h1,if_neg h1]
   by_cases hi:i < J60 l.length
   ·rw [if_pos hi,if_pos hi,List.length_append,J8m f _ _ (by rw [List.length_take]; omega),List.length_take,Nat.min_eq_left (by omega)]; simp
   ·rw [if_neg hi,if_neg hi,List.length_append,J8m f _ _ (by rw [List.length_drop]; omega),List.length_drop]; simp
theorem Jd0:∀ (f:Nat) (l:List (List UInt8)) (i:Nat),(J9m f l i).length≤f
 | 0,_,_=>by simp [J9m]
 | f+1,l,i=>by
  rw [J9m]; split
  ·simp
  ·split
   ·have:=Jd0 f (l.take (J60 l.length)) i; simp; omega
   ·have:=Jd0 f (l.drop (J60 l.length)) (i - J60 l.length); simp; omega
theorem Jeo:∀ (f:Nat) (l:List (List UInt8)) (i:Nat),∀ x ∈ J9m f l i,x.length=32
 | 0,_,_,x,hx=>by simp [J9m] at hx
 | f+1,l,i,x,hx=>by
  rw [J9m] at hx; split at hx
  ·simp at hx
  ·split at hx
   ·rcases List.mem_append.1 hx with h | h
    ·exact Jeo f _ _ x h
    ·simp at h; rw [h]; exact J72 _
   ·rcases List.mem_append.1 hx with h | h
    ·exact Jeo f _ _ x h
    ·simp at h; rw [h]; exact J72 _
abbrev zT:List UInt8:=List.replicate 32 (0:UInt8)
def Jd3 (a:List (List UInt8)) (i:Nat):List (List UInt8):=(List.range a.length).map fun j=>if j < i∨a.length - 1 - i < j then a.getD (a.length - 1 - j) zT else a.getD j zT
theorem J7m (a:List (List UInt8)) (i:Nat):(Jd3 a i).length=a.length:=by simp [Jd3]
theorem J9o (a:List (List UInt8)) (i j:Nat) (h:j < a.length):(Jd3 a i).getD j zT=if j < i∨a.length - 1 - i < j then a.getD (a.length - 1 - j) zT else a.getD j zT:=by
 unfold Jd3
 rw [List.getD_eq_getElem?_getD,List.getElem?_map,List.getElem?_range h]; rfl
theorem Jif {a b:List (List UInt8)} (hl:a.length=b.length) (h:∀ j,j < a.length→a.getD j zT=b.getD j zT):a=b:=by
 apply List.ext_getElem hl
 intro j h1 h2
 have:=h j h1
 rw [List.getD_eq_getElem?_getD,List.getD_eq_getElem?_getD,List.getElem?_eq_getElem h1,List.getElem?_eq_getElem h2] at this
 exact this
theorem Jej (a:List (List UInt8)) (i j:Nat) (x:List UInt8) (h:i < a.length):(a.set i x).getD j zT=if i=j then x else a.getD j zT:=by
 rw [List.getD_eq_getElem?_getD,List.getElem?_set,List.getD_eq_getElem?_getD]
 split
 ·rename_i e; subst e; simp [h]
 ·rfl
theorem Jpy (a:List (List UInt8)) (i:Nat) (h:i < a.length - 1 - i):((Jd3 a i).set i ((Jd3 a i).getD (a.length - 1 - i) zT)).set (a.length - 1 - i) ((Jd3 a i).getD i zT)=Jd3 a (i+1):=by
 apply Jif (by simp [J7m])
 intro j hj
 rw [List.length_set,List.length_set,J7m] at hj
 rw [Jej _ _ _ _ (by rw [List.length_set,J7m]; omega),Jej _ _ _ _ (by rw [J7m]; omega),J9o a i _ (by omega),J9o a i _ (by omega),J9o a i j hj,J9o a (i+1) j hj]
 rw [if_neg (show ¬ (i < i∨a.length - 1 - i < i) by omega),if_neg (show ¬ (a.length - 1 - i < i∨a.length - 1 - i < a.length - 1 - i) by omega)]
 by_cases e1:a.length - 1 - i=j
 ·rw [if_pos e1,if_pos (by omega)]; congr 1; omega
 ·rw [if_neg e1]
  by_cases e2:i=j
  ·rw [if_pos e2,if_pos (by omega)]; congr 1; omega
  ·rw [if_neg e2]
   by_cases e3:j < i∨a.length - 1 - i < j
   ·rw [if_pos e3,if_pos (by omega)]
   ·rw [if_neg e3,if_neg (by omega)]
theorem rev_eq (a:List (List UInt8)) (ha:a.length≤1000000):Jd a=some a.reverse:=by
 have main:Jd_1 0 ((a.length:Int) - 1) a=some (Jd3 a (a.length / 2)):=by
  have h0:Jd3 a 0=a:=by
   apply Jif (J7m a 0)
   intro j hj
   rw [J7m] at hj
   rw [J9o a 0 j hj,if_neg (by omega)]
  unfold Jd_1
  have:=J5k (step:=fun (s:Int×Int×List (List UInt8))=>Jd_1_step s.1 s.2.1 s.2.2) (fun i (_:Unit)=>((i:Int),(a.length:Int) - 1 - (i:Int),Jd3 a i)) (fun _ _=>()) (fun _=>Jd3 a (a.length / 2)) (a.length / 2) (fun _ _=>True) (fun i w hi _=>⟨?_,trivial⟩) (fun w _=>?_) (a.length / 2) 0 () (by omega) trivial
  ·rw [h0] at this
   simpa using this
  ·show Jd_1_step (i:Int) ((a.length:Int) - 1 - (i:Int)) (Jd3 a i)=_
   unfold Jd_1_step
   have hl:=J7m a i
   have e1:Int.toNat ((a.length:Int) - 1 - (i:Int))=a.length - 1 - i:=by omega
   rw [J5f (by omega),J5c (by omega),J5c (by omega),List.length_set,J5c (by omega),e1,Int.toNat_natCast,J5g (by omega) (by omega),J5g (by omega) (by omega),Jpy a i (by omega),show (a.length:Int) - 1 - (i:Int) - 1=(a.length:Int) - 1 - ((i+1:Nat):Int) from by omega]
   rfl
  ·show Jd_1_step ((a.length / 2:Nat):Int) ((a.length:Int) - 1 - ((a.length / 2:Nat):Int)) (Jd3 a (a.length / 2))=_
   unfold Jd_1_step
   rw [J5d (by omega)]
 unfold Jd
 rw [J5g (by omega) (by omega),main,J5b]
 congr 1
 apply Jif (by rw [J7m,List.length_reverse])
 intro j hj
 rw [J7m] at hj
 rw [J9o a _ j hj]
 have hr:a.reverse.getD j zT=a.getD (a.length - 1 - j) zT:=by
  rw [List.getD_eq_getElem?_getD,List.getElem?_reverse hj,List.getD_eq_getElem?_getD]
 rw [hr]
 split
 ·rfl
 ·congr 1; omega
theorem Jg0:∀ (f:Nat) (l:List (List UInt8)) (i:Nat) (acc:List (List UInt8)),l.length≤f+1→l.length < 64→i < l.length∨l.length=0→acc.length≤1000 - f→f≤100→Small l→J0i_1 l (i:Int) acc=some (acc++(J9m f l i).reverse)
 | 0,l,i,acc,h,h2,hi,ha,hf,hs=>by
  unfold J0i_1
  refine J5r ?_
  unfold J0i_1_step
  rw [J5d (by show ¬ (1:Int) < (l.length:Int); omega)]
  simp [J9m]
 | f+1,l,i,acc,h,h2,hi,ha,hf,hs=>by
  by_cases h1:l.length≤1
  ·rw [J9m,if_pos h1]
   unfold J0i_1
   refine J5r ?_
   unfold J0i_1_step
   rw [J5d (by show ¬ (1:Int) < (l.length:Int); omega)]
   simp
  ·obtain ⟨b1,b2,b3⟩:=Jaq l.length (by omega) (by omega)
   rw [J9m,if_neg h1]
   by_cases hl:i < J60 l.length
   ·rw [if_pos hl,List.reverse_append,List.reverse_singleton,← List.append_assoc]
    have hst:J0i_1_step l (i:Int) acc=some (.inl (l.take (J60 l.length),(i:Int),acc++[J8a (l.drop (J60 l.length))])):=by
     unfold J0i_1_step
     rw [J5f (by omega),left_eq _ (by omega),J5b,J5f (by omega),J5c (by omega),J8g,Jf0,Int.toNat_natCast,Jj9 _ (by rw [List.length_drop]; omega) (Jbe hs _),J5b,J5c (by simp; omega),J5c (by omega)]
    rw [← Jg0 f (l.take (J60 l.length)) i (acc++[J8a (l.drop (J60 l.length))]) (by rw [List.length_take]; omega) (by rw [List.length_take]; omega) (by rw [List.length_take]; omega) (by simp; omega) (by omega) (Jbf hs _)]
    unfold J0i_1
    rw [J5v hst]
   ·rw [if_neg hl,List.reverse_append,List.reverse_singleton,← List.append_assoc]
    have hst:J0i_1_step l (i:Int) acc=some (.inl (l.drop (J60 l.length),((i - J60 l.length:Nat):Int),acc++[J8a (l.take (J60 l.length))])):=by
     unfold J0i_1_step
     rw [J5f (by omega),left_eq _ (by omega),J5b,J5d (by omega),J5c (by omega),J8g,Jf0,Int.toNat_natCast,Jj9 _ (by rw [List.length_take]; omega) (Jbf hs _),J5b,J5c (by simp; omega),J5c (by omega),J5g (by omega) (by omega),
      show (i:Int) - ((J60 l.length:Nat):Int)=((i - J60 l.length:Nat):Int) from by omega]
    rw [← Jg0 f (l.drop (J60 l.length)) (i - J60 l.length) (acc++[J8a (l.take (J60 l.length))]) (by rw [List.length_drop]; omega) (by rw [List.length_drop]; omega) (by rw [List.length_drop]; omega) (by simp; omega) (by omega) (Jbe hs _)]
    unfold J0i_1
    rw [J5v hst]
noncomputable def Jaj (l:List (List UInt8)) (i:Int):List (List UInt8):=if 0≤i∧i < (l.length:Int) then J9m l.length l i.toNat else []
theorem Jsj (l:List (List UInt8)) (i:Int) (h:l.length < 64) (hs:Small l):J0i l i=some (Jaj l i):=by
 unfold J0i Jaj
 by_cases h0:i < 0
 ·rw [J5f h0,if_neg (by omega)]
 ·rw [J5d h0]
  by_cases h1:(l.length:Int)≤i
  ·rw [J5f h1,if_neg (by omega)]
  ·rw [J5d h1,if_pos (by omega)]
   obtain ⟨k,rfl⟩:=Int.eq_ofNat_of_zero_le (show 0≤i by omega)
   have hl:=Jd0 l.length l k
   rw [Jg0 l.length l k [] (by omega) h (by omega) (by simp) (by omega) hs,J5b]
   simp only [List.nil_append]
   rw [rev_eq _ (by rw [List.length_reverse]; omega),List.reverse_reverse]
   rfl
theorem Jdu:∀ (f i n:Nat) (acc:List Bool),n≤f+1→n≤1073741824→i < n∨n=0→acc.length≤10000000 - f→f≤5000000→J0c_1 (i:Int) (n:Int) acc=some (acc++J7e f i n)
 | 0,i,n,acc,h,h2,hi,ha,hf=>by
  unfold J0c_1
  refine J5r ?_
  unfold J0c_1_step
  rw [J5d (by show ¬ (1:Int) < (n:Int); omega)]
  simp [J7e]
 | f+1,i,n,acc,h,h2,hi,ha,hf=>by
  by_cases h1:n≤1
  ·rw [J7e,if_pos h1]
   unfold J0c_1
   refine J5r ?_
   unfold J0c_1_step
   rw [J5d (by show ¬ (1:Int) < (n:Int); omega)]
   simp
  ·obtain ⟨b1,b2,b3⟩:=Jaq n (by omega) (by omega)
   rw [J7e,if_neg h1]
   by_cases hl:i < J60 n
   ·rw [if_pos hl,show acc++true::J7e f i (J60 n)=(acc++[true])++J7e f i (J60 n) from by simp]
    have hst:J0c_1_step (i:Int) (n:Int) acc=some (.inl ((i:Int),((J60 n:Nat):Int),acc++[true])):=by
     unfold J0c_1_step
     rw [J5f (by omega),left_eq _ (by omega),J5b,J5c (by simp; omega),decide_eq_true (show (i:Int) < ((J60 n:Nat):Int) by omega),J7h]
    rw [← Jdu f i (J60 n) (acc++[true]) (by omega) (by omega) (by omega) (by simp; omega) (by omega)]
    unfold J0c_1
    rw [J5v hst]
   ·rw [if_neg hl,show acc++false::J7e f (i - J60 n) (n - J60 n)=(acc++[false])++J7e f (i - J60 n) (n - J60 n) from by simp]
    have hst:J0c_1_step (i:Int) (n:Int) acc=some (.inl (((i - J60 n:Nat):Int),((n - J60 n:Nat):Int),acc++[false])):=by
     unfold J0c_1_step
     rw [J5f (by omega),left_eq _ (by omega),J5b,J5c (by simp; omega),decide_eq_false (show ¬ (i:Int) < ((J60 n:Nat):Int) by omega),J5o,J5g (by omega) (by omega),J5g (by omega) (by omega),
      show (i:Int) - ((J60 n:Nat):Int)=((i - J60 n:Nat):Int) from by omega,show (n:Int) - ((J60 n:Nat):Int)=((n - J60 n:Nat):Int) from by omega]
    rw [← Jdu f (i - J60 n) (n - J60 n) (acc++[false]) (by omega) (by omega) (by omega) (by simp; omega) (by omega)]
    unfold J0c_1
    rw [J5v hst]
theorem Joj (i n:Nat) (h:i < n) (hn:n≤1000000):J0c (i:Int) (n:Int)=some (J7e n i n):=by
 unfold J0c
 rw [Jdu n i n [] (by omega) (by omega) (by omega) (by simp) (by omega),J5b]
 rfl
def isS (i n:Int):Bool:=decide (0≤i) && (decide (i < n) && decide (n≤1048576))
theorem is_eq (i n:Int):J4v i n=some (isS i n):=by
 unfold J4v isS
 simp only [Jeg]
 cases decide (0≤i) <;> cases decide (i < n) <;> simp
theorem Jit (i n:Int):isS i n=true↔0≤i∧i < n∧n≤1048576:=by
 unfold isS; simp
theorem Juc (i n:Int) (hn:n≤1000000∨1048576 < n):J4n i n=some (if isS i n then ((J7e n.toNat i.toNat n.toNat).length:Int) else -1):=by
 unfold J4n
 rw [is_eq,J5b]
 cases h:isS i n with
 | false=>rfl
 | true=>
  obtain ⟨h1,h2,h3⟩:=(Jit i n).1 h
  obtain ⟨a,rfl⟩:=Int.eq_ofNat_of_zero_le h1
  obtain ⟨b,rfl⟩:=Int.eq_ofNat_of_zero_le (show 0≤n by omega)
  rw [show (!true)=false from rfl,J5o,Joj a b (by omega) (by omega),J5b]
  rfl
def Jai:List Bool→List (List UInt8)→List UInt8→List UInt8
 | b::bs,p::ps,h=>Jai bs ps (if b then Jcq h p else Jcq p h)
 | _,_,h=>h
theorem Jb6:∀ (bs:List Bool) (ps:List (List UInt8)) (h:List UInt8) (b:Bool) (p:List UInt8),bs.length=ps.length→Jai (bs++[b]) (ps++[p]) h=if b then Jcq (Jai bs ps h) p else Jcq p (Jai bs ps h)
 | [],[],h,b,p,_=>rfl
 | x::bs,y::ps,h,b,p,e=>by
  show Jai (bs++[b]) (ps++[p]) _=_
  rw [Jb6 bs ps _ b p (by simpa using e)]
  rfl
 | [],_::_,_,_,_,e=>by simp at e
 | _::_,[],_,_,_,e=>by simp at e
theorem Ji1:∀ (bs:List Bool) (ps:List (List UInt8)) (h:List UInt8),h.length=32→(Jai bs ps h).length=32
 | [],_,h,e=>by simpa [Jai] using e
 | _::_,[],h,e=>by simpa [Jai] using e
 | b::bs,p::ps,h,e=>by
  rw [Jai]
  exact Ji1 bs ps _ (by split <;> exact J77 _)
theorem Jp5 (bs:List Bool) (ps:List (List UInt8)) (h:List UInt8) (i:Nat) (h1:i < bs.length) (h2:i < ps.length) :
  Jai (bs.take (i+1)) (ps.take (i+1)) h=if bs.getD i false then Jcq (Jai (bs.take i) (ps.take i) h) (ps.getD i zT) else Jcq (ps.getD i zT) (Jai (bs.take i) (ps.take i) h):=by
 rw [List.take_add_one,List.take_add_one,List.getElem?_eq_getElem h1,List.getElem?_eq_getElem h2,Option.toList_some,Option.toList_some,Jb6 _ _ _ _ _ (by simp; omega)]
 rw [List.getD_eq_getElem?_getD,List.getElem?_eq_getElem h1,List.getD_eq_getElem?_getD,List.getElem?_eq_getElem h2]
 rfl
theorem Jyz (z h:List UInt8) (l:List Bool) (p:List (List UInt8)) (hl:l.length=p.length) (hp:∀ x ∈ p,x.length=32) (hh:h.length=32) (hb:p.length≤100000):J1r_1 p (p.length:Int) 0 z h l=some (z,Jai l.reverse p h):=by
 unfold J1r_1
 have:=J5k (step:=fun (s:Int×List UInt8)=>J1r_1_step p (p.length:Int) s.1 z s.2 l) (fun i (_:Unit)=>((i:Int),Jai (l.reverse.take i) (p.take i) h)) (fun _ _=>()) (fun _=>(z,Jai l.reverse p h)) p.length (fun _ _=>True) (fun i w hi _=>⟨?_,trivial⟩) (fun w _=>?_) p.length 0 () (by omega) trivial
 ·exact this
 ·show J1r_1_step p (p.length:Int) (i:Int) z (Jai (l.reverse.take i) (p.take i) h) l=_
  unfold J1r_1_step
  have hg:(p.getD i (List.replicate 32 0)).length=32:=by
   rw [List.getD_eq_getElem?_getD,List.getElem?_eq_getElem hi]; exact hp _ (List.getElem_mem _)
  have hc:=Ji1 (l.reverse.take i) (p.take i) h hh
  have hr:l.getD (l.length - 1 - i) false=l.reverse.getD i false:=by
   rw [List.getD_eq_getElem?_getD,List.getD_eq_getElem?_getD,List.getElem?_reverse (by omega)]
  rw [J5f (by omega),J5c (by omega),J5g (n:=(l.length:Int) - 1) (by omega) (by omega),J5g (by omega) (by omega),J5c (by omega),show Int.toNat ((l.length:Int) - 1 - (i:Int))=l.length - 1 - i from by omega,hr,Int.toNat_natCast,Jir _ _ hc hg,Jir _ _ hg hc,J5b,J5b,J5g (by omega) (by omega),
   Jp5 _ _ _ _ (by rw [List.length_reverse]; omega) hi]
  cases l.reverse.getD i false <;> rfl
 ·show J1r_1_step p (p.length:Int) (p.length:Int) z _ l=_
  unfold J1r_1_step
  rw [J5d (by omega),List.take_of_length_le (Nat.le_refl _),List.take_of_length_le (by rw [List.length_reverse]; omega)]
def upS (leaf:List UInt8) (i n:Int) (p:List (List UInt8)):List UInt8×Bool:=
 if isS i n∧p.length=(J7e n.toNat i.toNat n.toNat).length then (Jai (J7e n.toNat i.toNat n.toNat).reverse p (Jxv leaf),true) else (zT,false)
theorem up_eq (leaf:List UInt8) (hf:leaf.length≤1000000) (i n:Int) (hn:n≤1000000) (p:List (List UInt8)) (hp:∀ x ∈ p,x.length=32) (hb:p.length≤100000):J1r leaf i n p=some (upS leaf i n p):=by
 unfold J1r upS
 rw [is_eq,J5b]
 cases h:isS i n with
 | false=>rw [if_neg (by simp)]; rfl
 | true=>
  obtain ⟨h1,h2,h3⟩:=(Jit i n).1 h
  rw [show (!true)=false from rfl,J5o,Juc i n (.inl hn),h,if_pos rfl,J5b]
  by_cases e:p.length=(J7e n.toNat i.toNat n.toNat).length
  ·rw [J8b (by omega),if_pos ⟨rfl,e⟩,Jj9 [leaf] (by simp) (by intro x hx; simp at hx; rw [hx]; exact hf),J5b]
   have hsd:=Joj i.toNat n.toNat (by omega) (by omega)
   rw [show ((i.toNat:Nat):Int)=i from by omega,show ((n.toNat:Nat):Int)=n from by omega] at hsd
   rw [hsd,J5b,Jyz _ _ _ _ e.symm hp (J72 _) hb,J5b,Jaz]
  ·rw [J9c (by omega),if_neg (fun h=>e h.2)]
theorem Jj1:∀ (f:Nat) (l:List (List UInt8)) (i:Nat),i < l.length→l.length≤f+1→l.length≤1000→Jai (J7e f i l.length).reverse (J9m f l i) (Jxv (l.getD i []))=J8a l
 | 0,l,i,hi,h,h2=>by
  match l,hi,h with
  | [x],hi,h=>
   have:i=0:=by simp at hi; exact hi
   subst this
   rw [Jaz]; rfl
 | f+1,l,i,hi,h,h2=>by
  rw [J7e,J9m]
  by_cases h1:l.length≤1
  ·rw [if_pos h1,if_pos h1]
   match l,hi,h1 with
   | [x],hi,h1=>
    have:i=0:=by simp at hi; exact hi
    subst this
    rw [Jaz]; rfl
  ·obtain ⟨b1,b2,b3⟩:=Jaq l.length (by omega) (by omega)
   rw [if_neg h1,if_neg h1,Jg7 l (by omega) (by omega)]
   by_cases hl:i < J60 l.length
   ·rw [if_pos hl,if_pos hl,List.reverse_cons,Jb6 _ _ _ _ _ (by rw [List.length_reverse,J8m f _ _ (by rw [List.length_take]; omega),List.length_take,Nat.min_eq_left (by omega)]),if_pos rfl]
    have ih:=Jj1 f (l.take (J60 l.length)) i (by rw [List.length_take]; omega) (by rw [List.length_take]; omega) (by rw [List.length_take]; omega)
    rw [List.length_take,Nat.min_eq_left (by omega)] at ih
    have hg:(l.take (J60 l.length)).getD i []=l.getD i []:=by
     rw [List.getD_eq_getElem?_getD,List.getD_eq_getElem?_getD,List.getElem?_take_of_lt hl]
    rw [hg] at ih
    rw [ih]
   ·rw [if_neg hl,if_neg hl,List.reverse_cons,Jb6 _ _ _ _ _ (by rw [List.length_reverse,J8m f _ _ (by rw [List.length_drop]; omega),List.length_drop]),if_neg (by simp)]
    have ih:=Jj1 f (l.drop (J60 l.length)) (i - J60 l.length) (by rw [List.length_drop]; omega) (by rw [List.length_drop]; omega) (by rw [List.length_drop]; omega)
    rw [List.length_drop] at ih
    have hg:(l.drop (J60 l.length)).getD (i - J60 l.length) []=l.getD i []:=by
     rw [List.getD_eq_getElem?_getD,List.getD_eq_getElem?_getD,List.getElem?_drop]; congr 2; omega
    rw [hg] at ih
    rw [ih]
def Jga (seed:List UInt8) (h:Nat):List UInt8:=sha (114::(seed++[UInt8.ofNat h]))
def Jdm (seed:List UInt8) (n:Nat):List (List UInt8):=(List.range n).map fun i=>KeyS (Jga seed (i+1))
def J7r (seed:List UInt8):List (List UInt8):=Jdm seed 16
noncomputable def Jhb (seed:List UInt8):List UInt8:=J8a (J7r seed)
abbrev Sig:=Int×One×List (List UInt8)×Unit
noncomputable def byS (keys:List (List UInt8)) (seed:List UInt8) (h:Int) (m:List UInt8):Sig:=(h,Jjd (Jga seed h.toNat) m,Jaj keys (h - 1),())
def noSig:Sig:=(0,([],[],()),[],())
def isH (h:Int):Bool:=decide (1≤h) && decide (h≤16)
def verS (id:List UInt8) (j:Int) (m:List UInt8) (s:Sig):Bool:=
 isH j && (decide (s.1=j) && ((whoS m s.2.1).2 && ((upS (whoS m s.2.1).1 (j - 1) 16 s.2.2.1).2 && Ty.beq (.arr 32 (.int .u8)) (upS (whoS m s.2.1).1 (j - 1) 16 s.2.2.1).1 id)))
theorem Jgb (seed:List UInt8) (h:Nat):(Jga seed h).length=32:=J77 _
theorem Jtu (seed:List UInt8):(KeyS seed).length=32:=Jns _
theorem Jqb (seed:List UInt8) (hs:seed.length=32) (h:Nat):J4a seed (h:Int)=some (Jga seed h):=by
 unfold J4a
 have hf:[seed,[UInt8.ofNat (Int.toNat ((h:Int) % 256))]].flatten=seed++[UInt8.ofNat h]:=by
  rw [J8k]; simp
 rw [J6k _ _ (by rw [hf]; simp; omega) (by simp),hf]
 rfl
theorem Jfg (seed:List UInt8) (n:Nat):(Jdm seed n).length=n:=by simp [Jdm]
theorem Jv0 (seed:List UInt8) (n:Nat):Len32 (Jdm seed n):=by
 intro x hx
 obtain ⟨i,_,rfl⟩:=List.mem_map.1 hx
 exact Jtu _
theorem J7j (seed:List UInt8):(J7r seed).length=16:=Jfg _ _
theorem Jfh (seed:List UInt8):Small (J7r seed):=fun x hx=>by rw [Jv0 seed 16 x hx]; omega
theorem Jv1 (seed:List UInt8) (i:Nat) (h:i < 16):(J7r seed).getD i []=KeyS (Jga seed (i+1)):=by
 unfold J7r Jdm
 rw [List.getD_eq_getElem?_getD,List.getElem?_map,List.getElem?_range h]; rfl
theorem Jx4 (seed:List UInt8) (hs:seed.length=32):J13 seed=some (J7r seed):=by
 have main:J13_1 1 seed []=some (J7r seed):=by
  unfold J13_1
  have:=J5k (step:=fun (s:Int×List (List UInt8))=>J13_1_step s.1 seed s.2) (fun i (_:Unit)=>(((i+1:Nat):Int),Jdm seed i)) (fun _ _=>()) (fun _=>J7r seed) 16 (fun _ _=>True) (fun i w hi _=>⟨?_,trivial⟩) (fun w _=>?_) 16 0 () (by omega) trivial
  ·exact this
  ·show J13_1_step ((i+1:Nat):Int) seed (Jdm seed i)=_
   unfold J13_1_step
   have hl:=Jfg seed i
   rw [J5f (by omega),Jqb seed hs,J5b,Key_eq _ (Jgb _ _),J5b,J5c (by simp; omega),J5g (by omega) (by omega)]
   unfold Jdm
   rw [mapRange]
   rfl
  ·show J13_1_step 17 seed (Jdm seed 16)=_
   unfold J13_1_step
   rw [J5d (by omega)]
   rfl
 unfold J13
 rw [main]
 rfl
theorem Jwm (h:Int):J4u h=some (isH h):=by
 unfold J4u isH
 by_cases c:1≤h
 ·rw [J5f c,decide_eq_true c]; rfl
 ·rw [J5d c,decide_eq_false c]; rfl
theorem isH_t {h:Int} (h1:1≤h) (h2:h≤16):isH h=true:=by unfold isH; rw [decide_eq_true h1,decide_eq_true h2]; rfl
theorem Jxu {h:Int}:isH h=true↔1≤h∧h≤16:=by unfold isH; rw [Bool.and_eq_true,decide_eq_true_eq,decide_eq_true_eq]
theorem By_eq (keys:List (List UInt8)) (hk:keys.length < 64) (hks:Small keys) (seed m:List UInt8) (hs:seed.length=32) (h:Int) (h1:1≤h) (h2:h≤16) (hm:m.length≤100000):J55 keys seed h m=some (byS keys seed h m):=by
 obtain ⟨k,rfl⟩:=Int.eq_ofNat_of_zero_le (show 0≤h by omega)
 unfold J55 byS
 rw [Jwm,isH_t h1 h2,J5b,show (!true)=false from rfl,J5o,Jqb seed hs,J5b,Jyt _ m (Jgb _ _) hm,J5b,J5g (by omega) (by omega),Jsj keys _ hk hks,J5b,Int.toNat_natCast]
noncomputable def sigS (seed:List UInt8) (h:Int) (m:List UInt8):Sig:=byS (J7r seed) seed h m
theorem Jw8 (m:List UInt8) (x:One):(whoS m x).1.length=32:=by
 unfold whoS
 split
 ·exact Jns _
 ·rfl
def Joz (s:Sig):Prop:=Len32 s.2.1.1∧Len32 s.2.1.2.1∧Len32 s.2.2.1∧s.2.2.1.length≤100000
theorem Ver_eq (id:List UInt8) (j:Int) (m:List UInt8) (hm:m.length≤100000) (s:Sig) (hs:Joz s):J43 id j m s=some (verS id j m s):=by
 obtain ⟨s1,s2,s3,s4⟩:=hs
 unfold J43 verS
 rw [Jwm,J5b]
 cases hj:isH j with
 | false=>rfl
 | true=>
  obtain ⟨j1,j2⟩:=Jxu.1 hj
  rw [show (!true)=false from rfl,J5o,Bool.true_and]
  by_cases c:s.1=j
  ·rw [J8b c,decide_eq_true c,Bool.true_and,who_eq m hm s.2.1 s1 s2,J5b]
   cases (whoS m s.2.1).2 with
   | false=>rfl
   | true=>
    rw [show (!true)=false from rfl,J5o,Bool.true_and,J5g (by omega) (by omega),up_eq _ (by rw [Jw8]; omega) _ _ (by omega) _ s3 s4,J5b]
    cases (upS (whoS m s.2.1).1 (j - 1) 16 s.2.2.1).2 <;> rfl
  ·rw [J9c c,decide_eq_false c]; rfl
theorem Jt5:∀ i,i < 16→(J7e 16 i 16).length=4:=by decide
theorem Jwu (seed:List UInt8) (h:Int) (h1:1≤h) (h2:h≤16):Jaj (J7r seed) (h - 1)=J9m 16 (J7r seed) (h - 1).toNat∧(Jaj (J7r seed) (h - 1)).length=4∧Len32 (Jaj (J7r seed) (h - 1)):=by
 have e:Jaj (J7r seed) (h - 1)=J9m 16 (J7r seed) (h - 1).toNat:=by
  unfold Jaj
  rw [J7j,if_pos (by omega)]
 rw [e]
 refine ⟨rfl,?_,Jeo _ _ _⟩
 rw [J8m _ _ _ (by rw [J7j]; omega),J7j,Jt5 _ (by omega)]
theorem sig_ok (seed:List UInt8) (h:Int) (h1:1≤h) (h2:h≤16) (m:List UInt8):Joz (sigS seed h m):=by
 obtain ⟨_,_,a,b⟩:=Jok (Jga seed h.toNat) m
 obtain ⟨_,p1,p2⟩:=Jwu seed h h1 h2
 exact ⟨a,b,p2,by show (Jaj (J7r seed) (h - 1)).length≤100000; omega⟩
theorem Jv7:Joz noSig:=⟨(fun x hx=>nomatch hx),(fun x hx=>nomatch hx),(fun x hx=>nomatch hx),by show (0:Nat)≤100000; omega⟩
theorem Jz3 (id seed:List UInt8) (h:Int) (h1:1≤h) (h2:h≤16) (m:List UInt8):verS id h m (sigS seed h m)=Ty.beq (.arr 32 (.int .u8)) (Jhb seed) id:=by
 obtain ⟨p0,p1,p2⟩:=Jwu seed h h1 h2
 have hw:whoS m (sigS seed h m).2.1=(KeyS (Jga seed h.toNat),true):=Jw9 _ _
 have hk:KeyS (Jga seed h.toNat)=(J7r seed).getD (h - 1).toNat []:=by
  rw [Jv1 seed _ (by omega),show (h - 1).toNat+1=h.toNat from by omega]
 have hup:upS (KeyS (Jga seed h.toNat)) (h - 1) 16 (sigS seed h m).2.2.1=(Jhb seed,true):=by
  show upS (KeyS (Jga seed h.toNat)) (h - 1) 16 (Jaj (J7r seed) (h - 1))=_
  unfold upS
  have e16:(16:Int).toNat=16:=rfl
  rw [e16,if_pos ⟨(Jit _ _).2 (by omega),by rw [p1,Jt5 _ (by omega)]⟩,p0,hk]
  have:=Jj1 16 (J7r seed) (h - 1).toNat (by rw [J7j]; omega) (by rw [J7j]; omega) (by rw [J7j]; omega)
  rw [J7j] at this
  rw [this]
  rfl
 unfold verS
 rw [hw,isH_t h1 h2]
 simp only
 rw [hup,decide_eq_true (show (sigS seed h m).1=h from rfl)]
 rfl
set_option maxRecDepth 100000
theorem J73 (x:UInt32) (n:Nat):UInt32.ofNat (x.toNat >>> n) ||| UInt32.ofNat (x.toNat <<< (32 - n))=rotr x n:=UInt32.or_comm _ _
theorem turn7 (x:UInt32):Jl x 7=some (rotr x 7):=congrArg some (J73 x 7)
theorem turn18 (x:UInt32):Jl x 18=some (rotr x 18):=congrArg some (J73 x 18)
theorem turn17 (x:UInt32):Jl x 17=some (rotr x 17):=congrArg some (J73 x 17)
theorem turn19 (x:UInt32):Jl x 19=some (rotr x 19):=congrArg some (J73 x 19)
theorem turn6 (x:UInt32):Jl x 6=some (rotr x 6):=congrArg some (J73 x 6)
theorem turn11 (x:UInt32):Jl x 11=some (rotr x 11):=congrArg some (J73 x 11)
theorem turn25 (x:UInt32):Jl x 25=some (rotr x 25):=congrArg some (J73 x 25)
theorem turn2 (x:UInt32):Jl x 2=some (rotr x 2):=congrArg some (J73 x 2)
theorem turn13 (x:UInt32):Jl x 13=some (rotr x 13):=congrArg some (J73 x 13)
theorem turn22 (x:UInt32):Jl x 22=some (rotr x 22):=congrArg some (J73 x 22)
theorem Jvl (b:List UInt8) (hb:b.length=64) (k h v z:List UInt32):J3_1 b k 0 h v z=some (k,h,v,J63 (Jn1 b) 0 16 z):=by
 unfold J3_1
 refine J5k (fun i w=>((i:Int),w)) (Jn1 b) (fun w=>(k,h,v,w)) 16 (fun _ _=>True) (fun i w hi _=>⟨?_,trivial⟩) (fun w _=>?_) 16 0 z rfl trivial
 ·unfold J3_1_step
  have e0:Int.toNat (4 * (i:Int))=4 * i:=by omega
  have e1:Int.toNat (4 * (i:Int)+1)=4 * i+1:=by omega
  have e2:Int.toNat (4 * (i:Int)+2)=4 * i+2:=by omega
  have e3:Int.toNat (4 * (i:Int)+3)=4 * i+3:=by omega
  simp (disch:=omega) only [J5f,J5g,J5c,hb,e0,e1,e2,e3,Int.toNat_natCast]
  rfl
 ·unfold J3_1_step
  rfl
theorem Jvm (k h v z:List UInt32):J3_2 k 16 h v z=some (k,h,v,J63 Jn2 16 48 z):=by
 unfold J3_2
 refine J5k (fun i w=>((i:Int),w)) Jn2 (fun w=>(k,h,v,w)) 64 (fun i _=>16≤i) (fun i w hi hh=>⟨?_,by omega⟩) (fun w _=>?_) 48 16 z rfl (Nat.le_refl _)
 ·unfold J3_2_step
  have e0:Int.toNat ((i:Int) - 15)=i - 15:=by omega
  have e1:Int.toNat ((i:Int) - 2)=i - 2:=by omega
  have e2:Int.toNat ((i:Int) - 16)=i - 16:=by omega
  have e3:Int.toNat ((i:Int) - 7)=i - 7:=by omega
  simp (disch:=omega) only [J5f,J5g,J5c,e0,e1,e2,e3,Int.toNat_natCast,turn7,turn18,turn17,turn19,J5b]
  rfl
 ·unfold J3_2_step
  rfl
theorem Jvn (k h v w:List UInt32) (hk:k.length=64) (s:W8):J3_3 k 0 h v w (Jpl s)=some (h,v,Jpl (J63 (J6v k w) 0 64 s)):=by
 unfold J3_3
 refine J5k (fun i (s:W8)=>((i:Int),Jpl s)) (J6v k w) (fun s=>(h,v,Jpl s)) 64 (fun _ _=>True) (fun i s hi _=>⟨?_,trivial⟩) (fun s _=>?_) 64 0 s rfl trivial
 ·obtain ⟨a,b,c,d,e,f,g,x⟩:=s
  unfold J3_3_step
  simp (disch:=omega) only [J5f,J5g,J5c,hk,Int.toNat_natCast,turn6,turn11,turn25,turn2,turn13,turn22,J5b]
  rw [show J6v k w i (a,b,c,d,e,f,g,x)=((((((x+((rotr e 6 ^^^ rotr e 11) ^^^ rotr e 25))+((e &&& f) ^^^ ((~~~e) &&& g)))+k.getD i 0)+w.getD i 0)+((rotr a 2 ^^^ rotr a 13) ^^^ rotr a 22))+(((a &&& b) ^^^ (a &&& c)) ^^^ (b &&& c)),a,b,c,
   d+((((x+((rotr e 6 ^^^ rotr e 11) ^^^ rotr e 25))+((e &&& f) ^^^ ((~~~e) &&& g)))+k.getD i 0)+w.getD i 0),e,f,g) from by simp only [J6v,UInt32.add_assoc]]
  rfl
 ·unfold J3_3_step
  rfl
theorem Jvo (h z v:List UInt32):J3_4 0 h z v=some (J63 (addS v) 0 8 h,z):=by
 unfold J3_4
 refine J5k (fun i w=>((i:Int),w)) (addS v) (fun w=>(w,z)) 8 (fun _ _=>True) (fun i w hi _=>⟨?_,trivial⟩) (fun w _=>?_) 8 0 h rfl trivial
 ·unfold J3_4_step
  simp (disch:=omega) only [J5f,J5g,J5c,Int.toNat_natCast]
  rfl
 ·unfold J3_4_step
  rfl
theorem Jpm (h:List UInt32) (hh:h.length=8):Jpl (tup8 h)=h:=by
 match h,hh with
 | [a,b,c,d,e,f,g,i],_=>rfl
theorem Jsn (h:List UInt32) (hh:h.length=8) (b:List UInt8) (hb:b.length=64) (k:List UInt32) (hk:k.length=64):J3 h b k=some (mixS k b h):=by
 unfold J3
 simp only [Jvl b hb,Jvm,J5b]
 have h3:=Jvn k h (List.replicate 8 0) (Jc7 b) hk (tup8 h)
 rw [Jpm h hh] at h3
 rw [show J63 Jn2 16 48 (J63 (Jn1 b) 0 16 (List.replicate 64 0))=Jc7 b from by rw [Jc7],h3,J5b]
 simp only [Jvo,J5b]
 rw [mixS]
theorem Jx0 (n:Nat):Int.tmod (n:Int) 64=((n % 64:Nat):Int):=by
 rw [Int.tmod_eq_emod_of_nonneg (by omega)]; omega
theorem rsum_1 (b:List UInt8) (hb:b.length≤1073741824) (out:List UInt8) (k h:List UInt32) :
  J5_1 b out k h (b++[128])=some (b,out,k,h,(b++[128])++List.replicate ((b.length+8) / 64 * 64+55 - b.length) 0):=by
 unfold J5_1
 generalize hz:(b.length+8) / 64 * 64+55 - b.length=z
 have:=J5k (step:=fun s=>J5_1_step b out k h s) (fun i (_:Unit)=>(b++[128])++List.replicate i (0:UInt8)) (fun _ _=>()) (fun _=>(b,out,k,h,(b++[128])++List.replicate z 0)) z (fun _ _=>True) (fun i w hi _=>⟨?_,trivial⟩) (fun w _=>?_) z 0 () (by omega) trivial
 ·simpa using this
 ·unfold J5_1_step
  rw [Jx0,J9c (by simp; omega),J5c (by simp; omega),List.append_assoc,List.append_assoc,List.append_assoc,← List.replicate_succ']
 ·unfold J5_1_step
  rw [Jx0,J8b (by simp; omega)]
theorem Jq6 {j:Nat} (h:j < 8):(UInt64.ofNat (Int.toNat ((8 * ((7:Int) - (j:Int))) % 18446744073709551616))).toNat=8 * (7 - j):=by
 have:Int.toNat ((8 * ((7:Int) - (j:Int))) % 18446744073709551616)=8 * (7 - j):=by omega
 rw [this,UInt64.toNat_ofNat']; omega
theorem rsum_2 (b:List UInt8) (hb:b.length≤1073741824) (out m:List UInt8) (hm:m.length≤1073741924) (k h:List UInt32) :
  J5_2 b 7 out k h m=some (out,k,h,J63 (fun j (l:List UInt8)=>l++[J9g (bitsOf b) (7 - j)]) 0 8 m):=by
 unfold J5_2
 refine J5k (step:=fun (s:Int×List UInt8)=>J5_2_step b s.1 out k h s.2) (fun j l=>((7:Int) - (j:Int),l)) (fun j (l:List UInt8)=>l++[J9g (bitsOf b) (7 - j)]) (fun l=>(out,k,h,l)) 8 (fun j l=>l.length=m.length+j) (fun j l hj hl=>⟨?_,by simp [hl]; omega⟩) (fun l _=>?_) 8 0 m rfl rfl
 ·unfold J5_2_step
  have hbits:UInt64.ofNat (Int.toNat ((8 * (b.length:Int)) % 18446744073709551616))=bitsOf b:=by
   rw [show Int.toNat ((8 * (b.length:Int)) % 18446744073709551616)=b.length * 8 from by omega,UInt64.ofNat_mul]; rfl
  simp (disch:=omega) only [J5f,J5g,hbits]
  rw [J5c (by omega),J5c (by simp; omega),Jq6 hj,Int.toNat_natCast]
  rw [show (7:Int) - (j:Int) - 1=7 - ((j+1:Nat):Int) from by omega]
  rfl
 ·unfold J5_2_step
  rfl
theorem Jyl (l out:List UInt8) (n:Nat) (hl:l.length=64 * n) (hn:64 * n≤2147483648) (h:List UInt32) (hh:h.length=8) :
  J5_3 l 0 out kS h=some (out,J63 (fun j h=>mixS kS ((l.drop (64 * j)).take 64) h) 0 n h):=by
 unfold J5_3
 refine J5k (step:=fun (s:Int×List UInt32)=>J5_3_step l s.1 out kS s.2) (fun j h=>(((64 * j:Nat):Int),h)) (fun j h=>mixS kS ((l.drop (64 * j)).take 64) h) (fun h=>(out,h)) n (fun j h=>h.length=8) (fun j h hj hh=>⟨?_,by rw [Jny,hh]⟩) (fun l _=>?_) n 0 h (by omega) hh
 ·unfold J5_3_step
  have hc:cutL l ((64 * j:Nat):Int) (((64 * j:Nat):Int)+64)=(l.drop (64 * j)).take 64:=by
   unfold cutL
   rw [Int.toNat_natCast,show Int.toNat (((64 * j:Nat):Int)+64)=64 * j+64 from by omega,List.drop_take]
   congr 1; omega
  simp (disch:=omega) only [J5f,J5g,J5c,hc]
  rw [Jsn h hh _ (by rw [List.length_take,List.length_drop]; omega) _ rfl,J5b]
  rfl
 ·unfold J5_3_step
  rw [J5d (by omega)]
theorem Jex (l:List UInt8):∀ (n j:Nat) (h:List UInt32),J63 (fun j h=>mixS kS ((l.drop (64 * j)).take 64) h) j n h=J9w n (l.drop (64 * j)) h
 | 0,_,_=>rfl
 | n+1,j,h=>by
  rw [J63,Jex l n (j+1),J9w,List.drop_drop]
  rfl
def Jfz (x:UInt32) (i:Nat) (acc:List UInt8):List UInt8:=(((acc.set (4 * i) (outB x 0)).set (4 * i+1) (outB x 1)).set (4 * i+2) (outB x 2)).set (4 * i+3) (outB x 3)
theorem rsum_4 (h:List UInt32) (z acc:List UInt8):J5_4 h 0 z acc=some (z,J63 (fun i acc=>Jfz (h.getD i 0) i acc) 0 8 acc):=by
 unfold J5_4
 refine J5k (step:=fun (s:Int×List UInt8)=>J5_4_step h s.1 z s.2) (fun i acc=>((i:Int),acc)) (fun i acc=>Jfz (h.getD i 0) i acc) (fun acc=>(z,acc)) 8 (fun _ _=>True) (fun i acc hi _=>⟨?_,trivial⟩) (fun acc _=>?_) 8 0 acc rfl trivial
 ·unfold J5_4_step
  have e0:Int.toNat (4 * (i:Int))=4 * i:=by omega
  have e1:Int.toNat (4 * (i:Int)+1)=4 * i+1:=by omega
  have e2:Int.toNat (4 * (i:Int)+2)=4 * i+2:=by omega
  have e3:Int.toNat (4 * (i:Int)+3)=4 * i+3:=by omega
  have hx:∀ x:UInt32,outB x 3=UInt8.ofNat x.toNat:=by intro x; simp [outB]
  simp (disch:=omega) only [J5f,J5g,J5c,e0,e1,e2,e3,Int.toNat_natCast]
  rw [Jfz,hx]
  rfl
 ·unfold J5_4_step
  rfl
theorem Jvt (a b c d e f g i:UInt32):J63 (fun j acc=>Jfz (List.getD [a,b,c,d,e,f,g,i] j 0) j acc) 0 8 (List.replicate 32 (0:UInt8))=outS [a,b,c,d,e,f,g,i]:=by kernel_rfl
theorem Jyj (h:List UInt32) (hh:h.length=8):J63 (fun i acc=>Jfz (h.getD i 0) i acc) 0 8 (List.replicate 32 (0:UInt8))=outS h:=by
 match h,hh with
 | [a,b,c,d,e,f,g,i],_=>exact Jvt a b c d e f g i
theorem Jua:J30=some kS:=by kernel_rfl
theorem Jyk (b:List UInt8):J63 (fun j (l:List UInt8)=>l++[J9g (bitsOf b) (7 - j)]) 0 8 ((b++[128])++List.replicate ((b.length+8) / 64 * 64+55 - b.length) 0)=padS b:=by
 unfold padS
 simp only [J63,List.append_assoc]
 rfl
theorem Jym (b:List UInt8) (hb:b.length≤1073741824):J5 b=some (sha b):=by
 unfold J5
 have h0:(List.set (List.set (List.set (List.set (List.set (List.set (List.set (List.set (List.replicate 8 (0:UInt32)) 0 (1779033703:UInt32)) 1 (3144134277:UInt32)) 2 (1013904242:UInt32)) 3 (2773480762:UInt32)) 4 (1359893119:UInt32)) 5 (2600822924:UInt32)) 6 (528734635:UInt32)) 7 (1541459225:UInt32))=h0S:=by kernel_rfl
 rw [Jua,J5b,J5c (by simp; omega),J5c (by simp; omega),h0,List.nil_append,rsum_1 b hb,J5b]
 simp only [rsum_2 b hb _ _ (show ((b++[128])++List.replicate ((b.length+8) / 64 * 64+55 - b.length) (0:UInt8)).length≤1073741924 by simp; omega),J5b,Jyk]
 rw [Jyl _ _ ((b.length+8) / 64+1) (Jmq b) (by omega) _ rfl,J5b,Jex]
 simp only [rsum_4,J5b]
 rw [Jyj _ (by rw [J9x]; rfl)]
 rfl
theorem J7w (t:UInt8) (l:List (List UInt8)) (h:l.flatten.length≤1073741823) (hl:l.length≤1073741823):Jf t l=some (sha (t::l.flatten)):=by
 unfold Jf
 have:∀ z,Jf_1 l (l.length:Int) 0 z [t]=some (z,t::l.flatten):=by
  intro z
  unfold Jf_1
  have:=J5k (step:=fun (s:Int×List UInt8)=>Jf_1_step l (l.length:Int) s.1 z s.2) (fun i (_:Unit)=>((i:Int),t::(l.take i).flatten)) (fun _ _=>()) (fun _=>(z,t::l.flatten)) l.length (fun _ _=>True) (fun i w hi _=>⟨?_,trivial⟩) (fun w _=>?_) l.length 0 () (by omega) trivial
  ·exact this
  ·unfold Jf_1_step
   have e:=getD_take l hi
   have le:=J9a l (i+1)
   rw [← e,List.length_append] at le
   simp (disch:=omega) only [J5f,J5g,J5c,Int.toNat_natCast]
   rw [J5c (by rw [List.length_cons]; omega),List.cons_append,e]
   rfl
  ·unfold Jf_1_step
   rw [J5d (by omega),List.take_of_length_le (Nat.le_refl _)]
 rw [this,J5b]
 simp only []
 rw [Jym _ (by rw [List.length_cons]; omega),J5b]
theorem Jsz (seed:List UInt8) (hs:seed.length=32) (i v:Nat) (hi:i < 256) (hv:v < 256):J22 seed (i:Int) (v:Int)=some (secS seed i v):=by
 unfold J22
 have hf:[seed,[UInt8.ofNat (Int.toNat ((i:Int) % 256)),UInt8.ofNat (Int.toNat ((v:Int) % 256))]].flatten=seed++[UInt8.ofNat i,UInt8.ofNat v]:=by
  rw [J8k,J8k]; simp
 rw [J7w _ _ (by rw [hf]; simp; omega) (by simp),hf]
 rfl
theorem Jsy (s:List UInt8) (hs:s.length=32):J21 s=some (pubS s):=by
 unfold J21
 have hf:[s].flatten=s:=by simp
 rw [J7w _ _ (by rw [hf]; omega) (by simp),hf]
 rfl
theorem Jyi (l:List (List UInt8)) (hl:l.length≤1000) (h:∀ x ∈ l,x.length=32):J05 l=some (keyS l):=by
 have hlen:∀ i,((l.take i).flatten).length≤32 * l.length:=fun i=>by
  rw [Jnr _ fun x hx=>h x (List.mem_of_mem_take hx),List.length_take]; omega
 have main:∀ z,J05_1 l (l.length:Int) 0 z []=some (z,l.flatten):=by
  intro z
  unfold J05_1
  have:=J5k (step:=fun (s:Int×List UInt8)=>J05_1_step l (l.length:Int) s.1 z s.2) (fun i (_:Unit)=>((i:Int),(l.take i).flatten)) (fun _ _=>()) (fun _=>(z,l.flatten)) l.length (fun _ _=>True) (fun i w hi _=>⟨?_,trivial⟩) (fun w _=>?_) l.length 0 () (by omega) trivial
  ·exact this
  ·show J05_1_step l (l.length:Int) (i:Int) z (l.take i).flatten=_
   unfold J05_1_step
   have b:=hlen i
   have hm:(l.getD i (List.replicate 32 0)).length=32:=Jeh l h i
   rw [J5f (by omega),J5c (by omega),Int.toNat_natCast,J5c (by omega),J5g (by omega) (by omega),Jk8 l hi]
   rfl
  ·show J05_1_step l (l.length:Int) (l.length:Int) z (l.take l.length).flatten=_
   unfold J05_1_step
   rw [J5d (by omega),List.take_of_length_le (Nat.le_refl _)]
 unfold J05
 have hf:[l.flatten].flatten=l.flatten:=by simp
 have:=Jnr l h
 rw [main,J5b]
 simp only
 rw [J7w _ _ (by rw [hf]; omega) (by simp),hf]
 rfl
theorem Jy9 (seed:List UInt8) (hs:seed.length=32):J04 seed=some (KeyS seed):=by
 have main:∀ z,J04_1 0 seed z []=some (z,J6x seed 32):=by
  intro z
  unfold J04_1
  have:=J5k (step:=fun (s:Int×List (List UInt8))=>J04_1_step s.1 seed z s.2) (fun i (_:Unit)=>((i:Int),J6x seed i)) (fun _ _=>()) (fun _=>(z,J6x seed 32)) 32 (fun _ _=>True) (fun i w hi _=>⟨?_,trivial⟩) (fun w _=>?_) 32 0 () (by omega) trivial
  ·exact this
  ·show J04_1_step (i:Int) seed z (J6x seed i)=_
   unfold J04_1_step
   have hl:=(Jcz seed i).2
   have s0:=Jsz seed hs i 0 (by omega) (by omega)
   have s1:=Jsz seed hs i 1 (by omega) (by omega)
   rw [show ((0:Nat):Int)=0 from rfl] at s0
   rw [show ((1:Nat):Int)=1 from rfl] at s1
   rw [J5f (by omega),s0,J5b,Jsy _ (Jbd _ _ _),J5b,s1,J5b,Jsy _ (Jbd _ _ _),J5b,J5c (by simp; omega),J5g (by omega) (by omega)]
   unfold J6x
   rw [Jcm]
   rfl
  ·show J04_1_step 32 seed z (J6x seed 32)=_
   unfold J04_1_step
   rw [J5d (by omega)]
 unfold J04
 obtain ⟨h1,h2⟩:=Jcz seed 32
 rw [main,J5b]
 simp only
 rw [Jyi _ (by omega) h1]
 rfl
theorem Jkd:∀ (f k n:Nat),n≤2 * k * 2 ^ f→1≤k→n≤1073741824→k≤1073741824→Jy_1 (n:Int) (k:Int)=some ((Jgr f k n:Nat):Int)
 | 0,k,n,h,h1,h2,hk=>by
  unfold Jy_1
  refine J5r ?_
  unfold Jy_1_step
  simp only [Nat.pow_zero,Nat.mul_one] at h
  rw [J5g (by omega) (by omega),J5d (by omega)]
  rfl
 | f+1,k,n,h,h1,h2,hk=>by
  rw [Jgr]
  split
  ·rename_i hlt
   rw [← Jkd f (2 * k) n (by rw [Nat.pow_succ] at h; rw [Jj3]; exact h) (by omega) h2 (by omega)]
   have hs:Jy_1_step (n:Int) (k:Int)=some (.inl ((2 * k:Nat):Int)):=by
    unfold Jy_1_step
    rw [J5g (by omega) (by omega),J5f (by omega),show 2 * (k:Int)=((2 * k:Nat):Int) from by omega]
   unfold Jy_1
   rw [J5v hs]
  ·rename_i hlt
   unfold Jy_1
   refine J5r ?_
   unfold Jy_1_step
   rw [J5g (by omega) (by omega),J5d (by omega)]
theorem Jxr (n:Nat) (h:n≤1073741824):Jy (n:Int)=some ((J60 n:Nat):Int):=by
 unfold Jy
 rw [show (1:Int)=((1:Nat):Int) from rfl,Jkd 40 1 n (by omega) (by omega) h (by omega),J5b]
 rfl
theorem Jss (a b:List UInt8) (ha:a.length=32) (hb:b.length=32):Jf 1 [a,b]=some (Jcq a b):=by
 have hf:[a,b].flatten=a++b:=by simp
 rw [J7w _ _ (by rw [hf,List.length_append]; omega) (by simp),hf]
 rfl
theorem Jds:∀ (k:Nat) (l:List (List UInt8)),l.length < k→l.length≤1000→Small l→J0f_f k l=some (J8a l)
 | 0,l,h,_,_=>by omega
 | k+1,l,h,h2,hl=>by
  rw [J0f_f]
  match l,h,h2,hl with
  | [],h,h2,hl=>
   rw [J5f (by simp),J7w _ _ (by simp) (by simp),Jhm]; rfl
  | [x],h,h2,hl=>
   have hx:=hl x (by simp)
   have hf:[List.getD [x] (Int.toNat (0:Int)) []].flatten=x:=by simp
   rw [J5d (by simp),J5f (by simp),J5c (by simp),J7w _ _ (by rw [hf]; omega) (by simp),hf,Jaz]; rfl
  | x::y::r,h,h2,hl=>
   have hn:2≤(x::y::r).length:=by simp
   generalize x::y::r=l at h h2 hl hn
   obtain ⟨b1,b2,b3⟩:=Jaq l.length hn (by omega)
   rw [J5d (by omega),J5d (by omega),Jxr _ (by omega),J5b,J5c (by omega),Jf0,J8g,Int.toNat_natCast,Jds k (l.take (J60 l.length)) (by rw [List.length_take]; omega) (by rw [List.length_take]; omega) (Jbf hl _),J5b,J5c (by omega),
    Jds k (l.drop (J60 l.length)) (by rw [List.length_drop]; omega) (by rw [List.length_drop]; omega) (Jbe hl _),J5b,Jss _ _ (J72 _) (J72 _),J5b,Jg7 l hn (by omega)]
theorem Jvu (l:List (List UInt8)) (h:l.length < 64) (hl:Small l):J0f l=some (J8a l):=Jds 64 l h (by omega) hl
theorem Jvh (seed:List UInt8) (hs:seed.length=32) (h:Nat):J31 seed (h:Int)=some (Jga seed h):=by
 unfold J31
 have hf:[seed,[UInt8.ofNat (Int.toNat ((h:Int) % 256))]].flatten=seed++[UInt8.ofNat h]:=by
  rw [J8k]; simp
 rw [J7w _ _ (by rw [hf]; simp; omega) (by simp),hf]
 rfl
theorem Jvg (seed:List UInt8) (hs:seed.length=32):Jv seed=some (J7r seed):=by
 have main:Jv_1 1 seed []=some (J7r seed):=by
  unfold Jv_1
  have:=J5k (step:=fun (s:Int×List (List UInt8))=>Jv_1_step s.1 seed s.2) (fun i (_:Unit)=>(((i+1:Nat):Int),Jdm seed i)) (fun _ _=>()) (fun _=>J7r seed) 16 (fun _ _=>True) (fun i w hi _=>⟨?_,trivial⟩) (fun w _=>?_) 16 0 () (by omega) trivial
  ·exact this
  ·show Jv_1_step ((i+1:Nat):Int) seed (Jdm seed i)=_
   unfold Jv_1_step
   have hl:=Jfg seed i
   rw [J5f (by omega),Jvh seed hs,J5b,Jy9 _ (Jgb _ _),J5b,J5c (by simp; omega),J5g (by omega) (by omega)]
   unfold Jdm
   rw [mapRange]
   rfl
  ·show Jv_1_step 17 seed (Jdm seed 16)=_
   unfold Jv_1_step
   rw [J5d (by omega)]
   rfl
 unfold Jv
 rw [main]
 rfl
def putF:Nat→Nat→List UInt8
 | 0,n=>[UInt8.ofNat n]
 | f+1,n=>if n < 128 then [UInt8.ofNat n] else UInt8.ofNat (n % 128+128)::putF f (n / 128)
def oneS (n:Int):List UInt8:=if 0≤n∧n≤1099511627775 then putF 6 n.toNat else []
theorem Jo9:∀ (f n:Nat),(putF f n).length≤f+1
 | 0,_=>by simp [putF]
 | f+1,n=>by
  rw [putF]; split
  ·simp
  ·have:=Jo9 f (n / 128); simp; omega
theorem J81 (n:Int):(oneS n).length≤7:=by
 unfold oneS; split
 ·exact Jo9 6 _
 ·simp
theorem Jo2:∀ (f n:Nat) (acc:List UInt8),n < 128 ^ (f+1)→n < 9223372036854775808→acc.length≤1000 - f→f≤10→∃ (m:Nat) (l:List UInt8),J0w_1 (n:Int) acc=some ((m:Int),acc++l)∧l++[UInt8.ofNat m]=putF f n∧(acc++l).length≤1000
 | 0,n,acc,h,h2,ha,_=>by
  refine ⟨n,[],?_,rfl,by simp; omega⟩
  rw [List.append_nil]
  unfold J0w_1
  refine J5r ?_
  show J0w_1_step (n:Int) acc=_
  unfold J0w_1_step
  rw [J5d (by omega)]
 | f+1,n,acc,h,h2,ha,hf=>by
  by_cases hn:n < 128
  ·refine ⟨n,[],?_,by rw [putF,if_pos hn]; rfl,by simp; omega⟩
   rw [List.append_nil]
   unfold J0w_1
   refine J5r ?_
   show J0w_1_step (n:Int) acc=_
   unfold J0w_1_step
   rw [J5d (by omega)]
  ·have hs:J0w_1_step (n:Int) acc=some (.inl (((n / 128:Nat):Int),acc++[UInt8.ofNat (n % 128+128)])):=by
    unfold J0w_1_step
    rw [J5f (by omega),J5c (by simp; omega),Jx8 n (by omega),bor128 _ (by omega),J8k,show Int.toNat 7=7 from rfl,Juz n 7 (by omega)]
   have hd:n / 128 < 128 ^ (f+1):=by
    rw [Nat.div_lt_iff_lt_mul (by omega)]
    have:128 ^ (f+1+1)=128 ^ (f+1) * 128:=Nat.pow_succ ..
    omega
   obtain ⟨m,l,h4,h5,h6⟩:=Jo2 f (n / 128) (acc++[UInt8.ofNat (n % 128+128)]) hd (by omega) (by simp; omega) (by omega)
   refine ⟨m,UInt8.ofNat (n % 128+128)::l,?_,?_,?_⟩
   ·unfold J0w_1 at h4 ⊢
    rw [J5v (s':=(((n / 128:Nat):Int),acc++[UInt8.ofNat (n % 128+128)])) hs,h4]
    simp
   ·rw [putF,if_neg hn,← h5]; rfl
   ·simpa using h6
theorem Jsa (n:Int):J0w n=some (oneS n):=by
 unfold J0w oneS
 by_cases h0:n < 0
 ·rw [J5f h0,if_neg (by omega)]
 ·rw [J5d h0]
  by_cases h1:1099511627775 < n
  ·rw [J5f h1,if_neg (by omega)]
  ·rw [J5d h1,if_pos (by omega)]
   obtain ⟨k,rfl⟩:=Int.eq_ofNat_of_zero_le (show 0≤n by omega)
   obtain ⟨m,l,h2,h3,h4⟩:=Jo2 6 k [] (by omega) (by omega) (by simp) (by omega)
   rw [h2,J5b]
   simp only [List.nil_append] at h4 ⊢
   rw [J5c (by simp; omega),J8k,h3]
   rfl
def putS (l:List Int):List UInt8:=l.flatMap oneS
theorem Jmu:∀ (l:List Int),(putS l).length≤7 * l.length
 | []=>by simp [putS]
 | n::l=>by
  have:=Jmu l
  have h:=J81 n
  unfold putS at this ⊢
  rw [List.flatMap_cons,List.length_append,List.length_cons]; omega
theorem Jcn {α β:Type} (f:α→List β) (l:List α) (z:α) {i:Nat} (h:i < l.length):(l.take (i+1)).flatMap f=(l.take i).flatMap f++f (l.getD i z):=by
 rw [List.take_add_one,List.flatMap_append,List.getD_eq_getElem?_getD]
 congr 1
 rw [List.getElem?_eq_getElem h]
 simp only [Option.toList_some,Option.getD_some,List.flatMap_cons,List.flatMap_nil,List.append_nil]
theorem put_eq (l:List Int) (hl:l.length≤100000000):J0h l=some (putS l):=by
 have main:J0h_1 l (l.length:Int) 0 []=some (putS l):=by
  unfold J0h_1
  have:=J5k (step:=fun (s:Int×List UInt8)=>J0h_1_step l (l.length:Int) s.1 s.2) (fun i (_:Unit)=>((i:Int),putS (l.take i))) (fun _ _=>()) (fun _=>putS l) l.length (fun _ _=>True) (fun i w hi _=>⟨?_,trivial⟩) (fun w _=>?_) l.length 0 () (by omega) trivial
  ·exact this
  ·show J0h_1_step l (l.length:Int) (i:Int) (putS (l.take i))=_
   unfold J0h_1_step
   have b:=Jmu (l.take i)
   have b2:=J81 (l.getD i 0)
   rw [List.length_take] at b
   rw [J5f (by omega),J5c (by omega),Jsa,J5b,Int.toNat_natCast,J5c (by omega),J5g (by omega) (by omega)]
   unfold putS
   rw [Jcn oneS l 0 hi]
   rfl
  ·show J0h_1_step l (l.length:Int) (l.length:Int) (putS (l.take l.length))=_
   unfold J0h_1_step
   rw [J5d (by omega),List.take_of_length_le (Nat.le_refl _)]
 unfold J0h
 rw [main,J5b]
theorem Jrp (l:List (List UInt8)) (hl:l.length≤1000000) (h:∀ x ∈ l,x.length=32):J0t l=some l.flatten:=by
 have hlen:∀ i,((l.take i).flatten).length≤32 * l.length:=by
  intro i
  have:∀ (m:List (List UInt8)),(∀ x ∈ m,x.length=32)→m.flatten.length=32 * m.length:=by
   intro m
   induction m with
   | nil=>intro _; rfl
   | cons a m ih=>intro hm; rw [List.flatten_cons,List.length_append,ih (fun x hx=>hm x (List.mem_cons_of_mem _ hx)),hm a List.mem_cons_self,List.length_cons]; omega
  rw [this _ fun x hx=>h x (List.mem_of_mem_take hx),List.length_take]; omega
 have main:J0t_1 l (l.length:Int) 0 []=some l.flatten:=by
  unfold J0t_1
  have:=J5k (step:=fun (s:Int×List UInt8)=>J0t_1_step l (l.length:Int) s.1 s.2) (fun i (_:Unit)=>((i:Int),(l.take i).flatten)) (fun _ _=>()) (fun _=>l.flatten) l.length (fun _ _=>True) (fun i w hi _=>⟨?_,trivial⟩) (fun w _=>?_) l.length 0 () (by omega) trivial
  ·exact this
  ·show J0t_1_step l (l.length:Int) (i:Int) (l.take i).flatten=_
   unfold J0t_1_step
   have b:=hlen i
   have hm:(l.getD i (List.replicate 32 0)).length=32:=h _ (by rw [List.getD_eq_getElem?_getD,List.getElem?_eq_getElem hi]; exact List.getElem_mem _)
   have e:=Jcn (fun x:List UInt8=>x) l (List.replicate 32 0) hi
   simp only [List.flatMap_id'] at e
   rw [J5f (by omega),J5c (by omega),Int.toNat_natCast,J5c (by omega),J5g (by omega) (by omega),e]
   rfl
  ·show J0t_1_step l (l.length:Int) (l.length:Int) (l.take l.length).flatten=_
   unfold J0t_1_step
   rw [J5d (by omega),List.take_of_length_le (Nat.le_refl _)]
 unfold J0t
 rw [main,J5b]
abbrev Rdr:=List UInt8×Bool×Unit
def Jw3 (n:Nat) (r:Rdr):List UInt8×Rdr:=if r.2.1 then ([],(r.1,true,())) else if r.1.length < n then ([],(r.1,true,())) else (r.1.take n,(r.1.drop n,false,()))
theorem Jn3 (n:Nat) (hn:n≤1000) (r:Rdr):J2l (n:Int) r=some (Jw3 n r):=by
 obtain ⟨l,b,u⟩:=r
 unfold J2l Jw3
 cases b with
 | true=>rfl
 | false=>
  simp only [J5o,Bool.false_eq_true,if_false]
  by_cases h:l.length < n
  ·rw [J5f (by omega),if_pos h]
  ·rw [J5d (by omega),if_neg h,J5c (by omega),J5c (by omega)]
   have e1:cutL l 0 (n:Int)=l.take n:=by rw [Jf0,Int.toNat_natCast]
   have e2:cutL l (n:Int) (l.length:Int)=l.drop n:=by rw [J8g,Int.toNat_natCast]
   rw [e1,e2]
def numF:Nat→Nat→Nat→List UInt8→Int×Rdr
 | 0,_,_,l=>(0,l,true,())
 | k+1,i,acc,[]=>(0,[],true,())
 | k+1,i,acc,b::l=>if b.toNat < 128 then (if 1099511627775 < acc+b.toNat * 128 ^ i∨(b=0∧0 < i) then (0,l,true,()) else (((acc+b.toNat * 128 ^ i:Nat):Int),l,false,()))
   else numF k (i+1) (acc+(b.toNat % 128) * 128 ^ i) l
def numS (r:Rdr):Int×Rdr:=if r.2.1 then (0,(r.1,true,())) else numF 6 0 0 r.1
theorem Jo0:∀ (k i acc:Nat) (l:List UInt8),i+k=6→acc < 128 ^ i→
  (match J8_1 (acc:Int) ((7 * i:Nat):Int) (l,false,()) with | some (.inl o)=>some (o.1,o.2) | some (.inr o)=>some ((0:Int),(o.1,true,())) | none=>none)=some (numF k i acc l)
 | 0,i,acc,l,hi,ha=>by
  have:i=6:=by omega
  subst this
  have:J8_1 (acc:Int) ((7 * 6:Nat):Int) (l,false,())=some (.inr (l,false,())):=by
   unfold J8_1
   refine J5r ?_
   show J8_1_step (acc:Int) ((7 * 6:Nat):Int) (l,false,())=_
   unfold J8_1_step
   rw [J5d (by omega)]
  rw [this]; rfl
 | k+1,i,acc,[],hi,ha=>by
  have:J8_1 (acc:Int) ((7 * i:Nat):Int) ([],false,())=some (.inl (0,([],true,()))):=by
   unfold J8_1
   refine J5r ?_
   show J8_1_step (acc:Int) ((7 * i:Nat):Int) ([],false,())=_
   unfold J8_1_step
   rw [J5f (by omega),show (1:Int)=((1:Nat):Int) from rfl,Jn3 1 (by omega),J5b]
   rfl
  rw [this]; rfl
 | k+1,i,acc,b::l,hi,ha=>by
  have hp:128 ^ i=2 ^ (7 * i):=by rw [Nat.pow_mul]
  have hb:=b.toNat_lt
  have hpi:128 ^ i≤128 ^ 5:=Nat.pow_le_pow_right (by omega) (by omega)
  have hpow:128 ^ (i+1)=128 ^ i * 128:=Nat.pow_succ ..
  have hm:(b.toNat % 128) * 128 ^ i≤127 * 128 ^ i:=Nat.mul_le_mul_right _ (by omega)
  have e:bor (acc:Int) (ishl ((UInt8.toNat (b &&& 127):Nat):Int) (7 * i))=((acc+(b.toNat % 128) * 128 ^ i:Nat):Int):=by
   rw [u8_and127,Juy _ _ (by omega) (by rw [← hp]; omega),hp]
   have ho:=Jsb acc (b.toNat % 128) (7 * i) (by rw [← hp]; exact ha)
   rw [Jqr _ _ (by rw [ho,← hp]; omega),ho]
  have ht:Jw3 1 (b::l,false,())=([b],(l,false,())):=by
   unfold Jw3
   rw [if_neg (by simp),if_neg (by simp)]; rfl
  have step:∀ r,J8_1_step (acc:Int) ((7 * i:Nat):Int) (b::l,false,())=some r↔(if b.toNat < 128 then (if 1099511627775 < acc+b.toNat * 128 ^ i then some (.inr (.inr (l,false,()))) else if b=0 then (if 0 < i then some (.inr (.inr (l,false,()))) else some (.inr (.inl (((acc+b.toNat * 128 ^ i:Nat):Int),l,false,())))) else some (.inr (.inl (((acc+b.toNat * 128 ^ i:Nat):Int),l,false,())))) else some (.inl (((acc+(b.toNat % 128) * 128 ^ i:Nat):Int),((7 * (i+1):Nat):Int),(l,false,()))))=some r:=by
   intro r
   unfold J8_1_step
   rw [J5f (by omega),show (1:Int)=((1:Nat):Int) from rfl,Jn3 1 (by omega),J5b,ht]
   simp only [List.length_cons,List.length_nil,Int.toNat_zero,List.getD_cons_zero,Int.toNat_natCast,e]
   rw [J5d (by omega),J5c (by omega),J5c (by omega),J5g (by omega) (by omega)]
   by_cases h1:b.toNat < 128
   ·have hlt:b < 128:=UInt8.lt_iff_toNat_lt.2 h1
    rw [J5f hlt,if_pos h1,Nat.mod_eq_of_lt h1]
    by_cases h2:1099511627775 < acc+b.toNat * 128 ^ i
    ·rw [J5f (by omega),if_pos h2]
    ·rw [J5d (by omega),if_neg h2]
     by_cases h3:b=0
     ·rw [J5f h3,if_pos h3]
      by_cases h4:0 < i
      ·rw [J5f (by omega),if_pos h4]
      ·rw [J5d (by omega),if_neg h4]
     ·rw [J5d h3,if_neg h3]
   ·have hlt:¬ b < 128:=fun h=>h1 (UInt8.lt_iff_toNat_lt.1 h)
    rw [J5d hlt,if_neg h1,show ((7 * i:Nat):Int)+7=((7 * (i+1):Nat):Int) from by omega]
  rw [numF]
  by_cases h1:b.toNat < 128
  ·rw [if_pos h1]
   have go:∀ r,(if 1099511627775 < acc+b.toNat * 128 ^ i then some (.inr (.inr (l,false,()))) else if b=0 then (if 0 < i then some (.inr (.inr (l,false,()))) else some (.inr (.inl (((acc+b.toNat * 128 ^ i:Nat):Int),l,false,())))) else some (.inr (.inl (((acc+b.toNat * 128 ^ i:Nat):Int),l,false,()))))=some (.inr r:(Int×Int×Rdr)⊕((Int×Rdr)⊕Rdr))→
     J8_1 (acc:Int) ((7 * i:Nat):Int) (b::l,false,())=some r:=by
    intro r hr
    unfold J8_1
    refine J5r ?_
    refine (step _).2 ?_
    rw [if_pos h1]; exact hr
   by_cases h2:1099511627775 < acc+b.toNat * 128 ^ i
   ·rw [go (.inr (l,false,())) (if_pos h2),if_pos (Or.inl h2)]
   ·by_cases h3:b=0∧0 < i
    ·rw [go (.inr (l,false,())) (by rw [if_neg h2,if_pos h3.1,if_pos h3.2]),if_pos (Or.inr h3)]
    ·rw [go (.inl (((acc+b.toNat * 128 ^ i:Nat):Int),l,false,())) (by
      rw [if_neg h2]
      by_cases h4:b=0
      ·rw [if_pos h4,if_neg (fun h=>h3 ⟨h4,h⟩)]
      ·rw [if_neg h4]),if_neg (fun h=>h.elim h2 h3)]
  ·rw [if_neg h1,← Jo0 k (i+1) (acc+(b.toNat % 128) * 128 ^ i) l (by omega) (by omega)]
   have hs:J8_1_step (acc:Int) ((7 * i:Nat):Int) (b::l,false,())=some (.inl (((acc+(b.toNat % 128) * 128 ^ i:Nat):Int),((7 * (i+1):Nat):Int),(l,false,()))):=(step _).2 (by rw [if_neg h1])
   unfold J8_1
   rw [J5v hs]
theorem number_eq (r:Rdr):J8 r=some (numS r):=by
 obtain ⟨l,b,u⟩:=r
 unfold J8 numS
 cases b with
 | true=>
  have:J8_1 0 0 (l,true,())=some (.inl (0,(l,true,()))):=by
   unfold J8_1
   refine J5r ?_
   show J8_1_step 0 0 (l,true,())=_
   unfold J8_1_step
   rw [J5f (by omega),show (1:Int)=((1:Nat):Int) from rfl,Jn3 1 (by omega),J5b]
   rfl
  rw [show ((l,true,u):Rdr)=(l,true,()) from rfl,this]; rfl
 | false=>
  have:=Jo0 6 0 0 l rfl (by decide)
  rw [if_neg (by simp),← this]
  show andThen (J8_1 0 0 (l,false,())) _=match J8_1 0 0 (l,false,()) with | some (.inl o)=>_ | some (.inr o)=>_ | none=>_
  cases J8_1 0 0 (l,false,()) with
  | none=>rfl
  | some o=>cases o <;> rfl
abbrev Hdr:=Int×Int×List UInt8×List UInt8×List UInt8×List UInt8×Unit
def J7n (h:Hdr):Bool:=decide (1≤h.1) && (decide (h.1≤16) && (decide (0≤h.2.1) && decide (h.2.1≤1073741824)))
theorem Jay (h:Hdr):J2d h=some (J7n h):=by
 unfold J2d J7n
 simp only [Jeg]
 cases decide (1≤h.1) <;> cases decide (h.1≤16) <;> cases decide (0≤h.2.1) <;> simp
theorem Jc4 (h:Hdr):J7n h=true↔(1≤h.1∧h.1≤16)∧0≤h.2.1∧h.2.1≤1073741824:=by
 unfold J7n
 simp only [Bool.and_eq_true,decide_eq_true_eq]
 exact ⟨fun ⟨a,b,c,d⟩=>⟨⟨a,b⟩,c,d⟩,fun ⟨⟨a,b⟩,c,d⟩=>⟨a,b,c,d⟩⟩
def J84 (h:Hdr):Prop:=h.2.2.1.length=32∧h.2.2.2.1.length=32∧h.2.2.2.2.1.length=32∧h.2.2.2.2.2.1.length=32
def Jls (h:Hdr):List UInt8:=oneS h.1++(oneS h.2.1++(h.2.2.1++(h.2.2.2.1++(h.2.2.2.2.1++h.2.2.2.2.2.1))))
def Jam (h:Hdr):List UInt8:=if J7n h then Jls h else []
theorem Ju6 (h:Hdr) (hh:J84 h):J4l h=some (Jam h):=by
 obtain ⟨a,b,c,d⟩:=hh
 unfold J4l Jam
 rw [Jay,J5b]
 cases J7n h with
 | false=>rfl
 | true=>
  rw [show (!true)=false from rfl,J5o,put_eq _ (by simp),J5b,Jrp _ (by simp) (by
   intro x hx
   simp only [List.mem_cons,List.not_mem_nil,or_false] at hx
   rcases hx with rfl | rfl | rfl | rfl <;> assumption),J5b]
  have l1:=Jmu [h.1,h.2.1]
  simp only [List.length_cons,List.length_nil] at l1
  rw [J5c (by simp; omega),if_pos rfl]
  congr 1
  simp [putS,Jls,List.flatMap_cons]
theorem Ju5 (h:Hdr) (hh:J84 h):(Jls h).length≤142:=by
 obtain ⟨a,b,c,d⟩:=hh
 have:=J81 h.1
 have:=J81 h.2.1
 unfold Jls
 simp only [List.length_append]; omega
def zHdr:Hdr:=(0,0,List.replicate 32 0,List.replicate 32 0,List.replicate 32 0,List.replicate 32 0,())
theorem doneS (r:Rdr):J2k r=some (!r.2.1 && decide (r.1=[])):=by
 unfold J2k
 obtain ⟨l,b,u⟩:=r
 cases b with
 | true=>rfl
 | false=>
  show some (decide ((l.length:Int)=0))=some (true && decide (l=[]))
  rw [Bool.true_and]
  congr 1
  exact decide_eq_decide.2 ⟨fun h=>List.eq_nil_of_length_eq_zero (by omega),fun h=>by subst h; rfl⟩
theorem Jff (h:Hdr) (hh:J84 h):J48 h=some (sha (72::Jam h)):=by
 have hl:(Jam h).length≤142:=by
  unfold Jam; split
  ·exact Ju5 h hh
  ·simp
 unfold J48
 have hf:[Jam h].flatten=Jam h:=by simp
 rw [Ju6 h hh,J5b,J6k _ _ (by rw [hf]; omega) (by simp),hf]
 rfl
abbrev J6a:=List UInt8×Sig×Unit
def zSg:J6a:=(([]:List UInt8),((0:Int),(([]:List (List UInt8)),([]:List (List UInt8)),()),([]:List (List UInt8)),()),())
def nmsS (s:List J6a):List (List UInt8):=s.map (·.1)
theorem Jnz (s:List J6a) (i:Nat):(s.getD i zSg).1=(nmsS s).getD i []:=by
 unfold nmsS
 rw [List.getD_eq_getElem?_getD,List.getD_eq_getElem?_getD,List.getElem?_map]
 cases s[i]? <;> rfl
def incS (s:List J6a):Bool:=incN (nmsS s)
def Jdr (s:List J6a):Bool:=incS s && decide (s.length≤5)
theorem Jc3 (s:List J6a) (i:Int):J14_1_step s i=(fork (decide (i < (s.length:Int))) (need (0≤(w64 (i - 1))∧(w64 (i - 1)) < (s.length:Int)) (need (0≤i∧i < (s.length:Int)) (fork (!J5q (s.getD (Int.toNat (w64 (i - 1))) zSg).1 (s.getD (Int.toNat i) zSg).1) (some (.inr (.inl false))) (some (.inl (w64 (i+1))))))) (some (.inr (.inr s))):Option (Int⊕(Bool⊕List J6a))):=rfl
theorem Jog (s:List J6a) {ρ:Type} (r r0:ρ):∀ (k i:Nat),i+k=s.length - 1→(∀ j,j < i→J5q (s.getD j zSg).1 (s.getD (j+1) zSg).1=true)→
  scan (fun i=>if J5q (s.getD i zSg).1 (s.getD (i+1) zSg).1=true then none else some r) r0 i k=if incS s=true then r0 else r
 | 0,i,h,hj=>by
  have:incS s=true:=List.all_eq_true.2 fun j hj'=>by
   have hj':j < (nmsS s).length - 1:=by simpa using hj'
   have hl:(nmsS s).length=s.length:=by simp [nmsS]
   rw [← Jnz,← Jnz]
   exact hj j (by omega)
  rw [if_pos this]; rfl
 | k+1,i,h,hj=>by
  rw [scan]
  by_cases e:J5q (s.getD i zSg).1 (s.getD (i+1) zSg).1=true
  ·rw [if_pos e]
   exact Jog s r r0 k (i+1) (by omega) fun j hj'=>by
    rcases (show j < i∨j=i by omega) with h1 | rfl
    ·exact hj j h1
    ·exact e
  ·rw [if_neg e]
   have hl:(nmsS s).length=s.length:=by simp [nmsS]
   have:¬ incS s=true:=fun hall=>e (by
    have:=List.all_eq_true.1 hall i (by simp; omega)
    rwa [← Jnz,← Jnz] at this)
   rw [if_neg this]
theorem Jld (s:List J6a) (hs:s.length≤1073741824):J14 s=some (Jdr s):=by
 have h:J14_1 s 1=some (scan (fun i=>if J5q (s.getD i zSg).1 (s.getD (i+1) zSg).1=true then none else some (.inl false)) (.inr s) 0 (s.length - 1)):=by
  unfold J14_1
  refine J7k (step:=fun (x:Int)=>J14_1_step s x) (fun i=>((i+1:Nat):Int)) _ _ (s.length - 1) (fun i hi h=>?_) (fun i r hi h=>?_) ?_ (s.length - 1) 0 (by omega)
  ·rw [Jc3,J5f (by omega),J5g (n:=((i+1:Nat):Int) - 1) (by omega) (by omega),J5c (by omega),J5c (by omega),show Int.toNat (((i+1:Nat):Int) - 1)=i from by omega,Int.toNat_natCast]
   by_cases e:J5q (s.getD i zSg).1 (s.getD (i+1) zSg).1=true
   ·rw [e,J5g (by omega) (by omega)]; rfl
   ·rw [if_neg e] at h; cases h
  ·rw [Jc3,J5f (by omega),J5g (n:=((i+1:Nat):Int) - 1) (by omega) (by omega),J5c (by omega),J5c (by omega),show Int.toNat (((i+1:Nat):Int) - 1)=i from by omega,Int.toNat_natCast]
   by_cases e:J5q (s.getD i zSg).1 (s.getD (i+1) zSg).1=true
   ·rw [if_pos e] at h; cases h
   ·rw [if_neg e] at h; injection h with h; subst h
    rw [Bool.not_eq_true] at e
    rw [e]; rfl
  ·rw [Jc3,J5d (by omega)]
 unfold J14 Jdr
 rw [h,J5b,Jog s _ _ (s.length - 1) 0 (by omega) (fun j hj=>by omega)]
 cases incS s with
 | true=>
  show some (decide ((s.length:Int)≤5))=some (true && decide (s.length≤5))
  rw [Bool.true_and]
  congr 1
  exact decide_eq_decide.2 (by omega)
 | false=>rfl
def Jth (h:Hdr):List UInt8:=sha (72::Jam h)
theorem Jlk (h:Hdr):(Jth h).length=32:=J77 _
theorem Jti (h:Hdr) (hh:J84 h):J4c h=some (Jth h):=by
 unfold J4c
 rw [Jff h hh]
 rfl
noncomputable def sgS (h:Hdr) (n seed:List UInt8):J6a:=(n,sigS seed h.1 (Jth h),())
def SgOk (s:List J6a):Prop:=∀ x ∈ s,Joz x.2.1
theorem sg_at {s:List J6a} (h:SgOk s) (i:Nat):Joz (s.getD i zSg).2.1:=by
 rw [List.getD_eq_getElem?_getD]
 cases e:s[i]? with
 | none=>exact Jv7
 | some x=>exact h x (List.mem_of_getElem? e)
def Jpg (set:List Val) (h:Int) (d:List UInt8) (x:J6a):Bool:=(Jk6 set x.1).2 && verS (Jk6 set x.1).1.2.2.1 h d x.2.1
def Jac (set:List Val) (h:Int) (d:List UInt8) (s:List J6a):List (List UInt8):=(s.filter (Jpg set h d)).map (·.1)
def Je4 (set:List Val) (h:Hdr) (s:List J6a):List (List UInt8):=if Jdr s then Jac set h.1 (Jth h) s else []
theorem Jhg (set:List Val) (h:Int) (d:List UInt8) (s:List J6a):(Jac set h d s).length≤s.length:=by
 unfold Jac
 rw [List.length_map]
 exact List.length_filter_le _ _
theorem Jmm (set:List Val) (h:Int) (d:List UInt8) (s:List J6a) {i:Nat} (hi:i < s.length):Jac set h d (s.take (i+1))=Jac set h d (s.take i)++(if Jpg set h d (s.getD i zSg) then [(s.getD i zSg).1] else []):=by
 unfold Jac
 rw [List.take_add_one,List.getElem?_eq_getElem hi,List.getD_eq_getElem?_getD,List.getElem?_eq_getElem hi]
 simp only [Option.toList_some,Option.getD_some,List.filter_append,List.map_append]
 by_cases hg:Jpg set h d s[i]
 ·rw [List.filter_cons_of_pos hg,if_pos hg]; rfl
 ·rw [List.filter_cons_of_neg hg,if_neg hg]; rfl
theorem Jft (set:List Val) (s:List J6a) (n i:Int) (h:Hdr) (o:List (List UInt8)) (d:List UInt8):J0x_1_step set s n i h o d=(fork (decide (i < n)) (need (0≤i∧i < (s.length:Int)) (andThen (J1b set (s.getD (Int.toNat i) zSg).1) (fun u9=>fork u9.2 (andThen (J43 u9.1.2.2.1 h.1 d (s.getD (Int.toNat i) zSg).2.1) (fun u12=>fork u12 (need (o.length+([(s.getD (Int.toNat i) zSg).1]:List (List UInt8)).length≤2147483648) (some (.inl ((w64 (i+1)),o++([(s.getD (Int.toNat i) zSg).1]:List (List UInt8)))))) (some (.inl ((w64 (i+1)),o))))) (some (.inl ((w64 (i+1)),o)))))) (some (.inr o)):Option ((Int×List (List UInt8))⊕(List (List UInt8)))):=rfl
theorem Jv6 (set:List Val) (hset:set.length≤1073741824) (h:Hdr) (hh:J84 h) (s:List J6a) (hl:s.length≤1073741824) (hs:SgOk s):J0x set h s=some (Je4 set h s):=by
 unfold J0x Je4
 rw [Jld s hl,J5b]
 cases hr:Jdr s with
 | false=>rfl
 | true=>
  have main:∀ d:List UInt8,d.length≤100000→J0x_1 set s (s.length:Int) 0 h [] d=some (Jac set h.1 d s):=by
   intro d hd
   unfold J0x_1
   have:=J5k (step:=fun (x:Int×List (List UInt8))=>J0x_1_step set s (s.length:Int) x.1 h x.2 d) (fun i (_:Unit)=>((i:Int),Jac set h.1 d (s.take i))) (fun _ _=>()) (fun _=>Jac set h.1 d s) s.length (fun _ _=>True) (fun i w hi _=>⟨?_,trivial⟩) (fun w _=>?_) s.length 0 () (by omega) trivial
   ·exact this
   ·show J0x_1_step set s (s.length:Int) (i:Int) h (Jac set h.1 d (s.take i)) d=_
    have b:=Jhg set h.1 d (s.take i)
    rw [List.length_take] at b
    have t:=Jmm set h.1 d s hi
    rw [Jft,J5f (by omega),J5c (by omega),Int.toNat_natCast,Jxl set hset,J5b,t,J5g (by omega) (by omega)]
    unfold Jpg
    cases hf:(Jk6 set (s.getD i zSg).1).2 with
    | false=>rw [J5o,Bool.false_and,if_neg (by simp),List.append_nil]; rfl
    | true=>
     rw [J7h,Bool.true_and,Ver_eq _ _ d hd _ (sg_at hs i),J5b]
     cases hv:verS (Jk6 set (s.getD i zSg).1).1.2.2.1 h.1 d (s.getD i zSg).2.1 with
     | false=>rw [J5o,if_neg (by simp),List.append_nil]; rfl
     | true=>rw [J7h,J5c (by simp; omega),if_pos rfl]; rfl
   ·show J0x_1_step set s (s.length:Int) (s.length:Int) h (Jac set h.1 d (s.take s.length)) d=_
    rw [Jft,J5d (by omega),List.take_of_length_le (Nat.le_refl _)]
  rw [show (!true)=false from rfl,J5o,Jti h hh,J5b,main _ (by rw [Jlk]; omega),if_pos rfl]
  rfl
theorem Jpo (set:List Val) (h:Hdr) (s:List J6a):(Je4 set h s).length≤s.length:=by
 unfold Je4
 split
 ·exact Jhg _ _ _ _
 ·simp
def Jea (set:List Val) (h:Hdr) (s:List J6a):Int:=pow (fun v=>(Je4 set h s).contains v.1) set
def allS (set:List Val):Int:=pow (fun _=>true) set
theorem Jwt (set:List Val) (hset:Jaa set) (h:Hdr) (s:List J6a):0≤Jea set h s∧Jea set h s≤4294967296:=by
 have:=J8v (fun v=>(Je4 set h s).contains v.1) set hset.2
 have:=hset.1
 unfold Jea
 omega
theorem all_b (set:List Val) (hset:Jaa set):0≤allS set∧allS set≤4294967296:=by
 have:=J8v (fun _=>true) set hset.2
 have:=hset.1
 unfold allS
 omega
theorem Je7 (set:List Val) (hset:Jaa set) (h:Hdr) (hh:J84 h) (s:List J6a) (hl:s.length≤1000000) (hs:SgOk s):J3y set h s=some (Jea set h s,allS set):=by
 have:=Jpo set h s
 unfold J3y
 rw [Jv6 set (by have:=hset.1; omega) h hh s (by omega) hs,J5b,Jw4 set hset _ (by omega)]
 rfl
theorem Jr5 (set:List Val) (hset:Jaa set) (h:Hdr) (hh:J84 h) (s:List J6a) (hl:s.length≤1000000) (hs:SgOk s):J3v set h s=some (decide (allS set * 2 < Jea set h s * 3)):=by
 unfold J3v
 rw [Je7 set hset h hh s hl hs,J5b,Jse _ 2 3 (Jwt set hset h s) (all_b set hset) (by omega) (by omega)]
 rfl
theorem Jyu (set:List Val) (hset:Jaa set) (h:Hdr) (hh:J84 h) (s:List J6a) (hl:s.length≤1000000) (hs:SgOk s):J4b set h s=some (decide (allS set * 1 < Jea set h s * 3)):=by
 unfold J4b
 rw [Je7 set hset h hh s hl hs,J5b,Jse _ 1 3 (Jwt set hset h s) (all_b set hset) (by omega) (by omega)]
 rfl
theorem Jgk (a lo hi:Int) (h:lo≤hi) (h1:-1099511627776≤lo) (h2:hi≤1099511627776):∃ r,J0m a lo hi=some r∧lo≤r∧r≤hi:=by
 unfold J0m
 have hn:w64 (w64 (hi - lo)+1)=hi - lo+1:=by simp (disch:=omega) only [J5g]
 rw [hn,J5c (by omega)]
 have hb:Int.tmod a (hi - lo+1) < hi - lo+1∧-(hi - lo+1) < Int.tmod a (hi - lo+1):=by
  constructor
  ·exact Int.tmod_lt_of_pos a (by omega)
  ·have:=Int.tmod_lt_of_pos (-a) (b:=hi - lo+1) (by omega)
   rw [Int.neg_tmod] at this; omega
 generalize Int.tmod a (hi - lo+1)=t at hb
 by_cases ht:t < 0
 ·rw [J5f ht]
  simp (disch:=omega) only [J5g]
  exact ⟨_,rfl,by omega,by omega⟩
 ·rw [J5d ht]
  simp (disch:=omega) only [J5g]
  exact ⟨_,rfl,by omega,by omega⟩
def nm (i:Nat):List UInt8:=([[118,97],[118,98],[118,99],[118,100]]:List (List UInt8)).getD i []
def ky (i:Nat):List UInt8:=List.set (List.replicate 32 (0:UInt8)) 0 (UInt8.ofNat (Int.toNat (((i:Int)+1) % 256)))
def wv (a:Int):Int:=(J0m a 1 9).getD 1
theorem wv_eq (a:Int):J0m a 1 9=some (wv a)∧1≤wv a∧wv a≤9:=by
 obtain ⟨r,h,h1,h2⟩:=Jgk a 1 9 (by omega) (by omega) (by omega)
 unfold wv; rw [h]; exact ⟨rfl,h1,h2⟩
def pw (ps:List Int) (i:Nat):Int:=if i < ps.length then wv (ps.getD i 0) else 1
theorem pw_b (ps:List Int) (i:Nat):1≤pw ps i∧pw ps i≤9:=by
 unfold pw; split
 ·exact (wv_eq _).2
 ·omega
def setN (ps:List Int):Nat:=max 1 (min 4 ps.length)
def Jmk (p:Nat→Int) (i:Nat):Val:=(nm i,p i,ky i,())
def setS (ps:List Int):List Val:=(List.range (setN ps)).map (Jmk (pw ps))
def Jdt (ps:List Int) (i:Nat) (l:List Val):List Val:=if i=0∨i < ps.length then l++[Jmk (pw ps) i] else l
theorem Jyr (ps:List Int):J63 (Jdt ps) 0 4 []=setS ps:=by
 unfold setS setN
 simp only [J63,Jdt]
 by_cases h3:3 < ps.length
 ·rw [show max 1 (min 4 ps.length)=4 from by omega]; simp [h3,show 1 < ps.length from by omega,show 2 < ps.length from by omega,List.range_succ]
 ·by_cases h2:2 < ps.length
  ·rw [show max 1 (min 4 ps.length)=3 from by omega]; simp [h3,h2,show 1 < ps.length from by omega,List.range_succ]
  ·by_cases h1:1 < ps.length
   ·rw [show max 1 (min 4 ps.length)=2 from by omega]; simp [h3,h2,h1,List.range_succ]
   ·rw [show max 1 (min 4 ps.length)=1 from by omega]; simp [h3,h2,h1,List.range_succ]
theorem set_eq (ps:List Int) (hp:ps.length≤140737488351232):J01 ps=some (setS ps):=by
 unfold J01 J3q
 rw [J5b]
 have main:J01_1 ps 4 0 [] [[118,97],[118,98],[118,99],[118,100]]=some (J63 (Jdt ps) 0 4 []):=by
  unfold J01_1
  refine J5k (step:=fun (s:Int×List Val)=>J01_1_step ps 4 s.1 s.2 [[118,97],[118,98],[118,99],[118,100]]) (fun i l=>((i:Int),l)) (Jdt ps) (fun l=>l) 4 (fun i l=>l.length≤i) (fun i l hi hl=>⟨?_,?_⟩) (fun l hl=>?_) 4 0 [] (by omega) (by simp)
  ·show J01_1_step ps 4 (i:Int) l [[118,97],[118,98],[118,99],[118,100]]=_
   unfold J01_1_step
   have hlen:List.length [([118,97]:List UInt8),[118,98],[118,99],[118,100]]=4:=rfl
   have hw:=(wv_eq (ps.getD i 0)).1
   have ho:∀ x:Val,List.length [x]=1:=fun _=>rfl
   simp (disch:=omega) only [hlen,J5f,J5c,Int.toNat_natCast,J5g,hw,J5b,ho]
   unfold Jdt Jmk pw
   by_cases h0:i=0
   ·rw [J5f (by omega),if_pos (Or.inl h0)]
    by_cases hc:i < ps.length
    ·rw [J5f (by omega),J5c (by omega),if_pos hc]; rfl
    ·rw [J5d (by omega),if_neg hc]; rfl
   ·rw [J5d (by omega)]
    by_cases hc:i < ps.length
    ·rw [J5f (by omega),J5c (by omega),if_pos (Or.inr hc),if_pos hc]; rfl
    ·rw [J5d (by omega),if_neg (by omega)]; rfl
  ·unfold Jdt
   split
   ·simp; omega
   ·omega
  ·show J01_1_step ps 4 4 l _=_
   unfold J01_1_step
   rfl
 show andThen (J01_1 ps 4 0 [] [[118,97],[118,98],[118,99],[118,100]]) _=_
 rw [main,J5b,Jyr]
def J7x (i:Nat):List UInt8:=List.set (List.set (List.replicate 32 (0:UInt8)) 0 (77:UInt8)) 1 (UInt8.ofNat i)
theorem Jg9 (i:Nat):(J7x i).length=32:=by simp [J7x]
theorem Jmd (i:Nat):J3a (i:Int)=some (J7x i):=by
 unfold J3a
 rw [J8k]
 rfl
noncomputable def Jfq (p:Nat→Int) (i:Nat):Val:=(nm i,p i,Jhb (J7x i),())
noncomputable def J5t (p:Nat→Int) (n:Nat):List Val:=(List.range n).map (Jfq p)
noncomputable def ringS (ps:List Int):List Val:=J5t (pw ps) (setN ps)
noncomputable def midS (p:Nat→Int) (n i:Nat):List Val:=(List.range n).map fun j=>if j < i then Jfq p j else Jmk p j
theorem mid_step (p:Nat→Int) (n i:Nat) (h:i < n):List.set (midS p n i) i (((midS p n i).getD i zVal).1,((midS p n i).getD i zVal).2.1,Jhb (J7x i),())=midS p n (i+1):=by
 have hg:(midS p n i).getD i zVal=Jmk p i:=by
  unfold midS
  rw [List.getD_eq_getElem?_getD,List.getElem?_map,List.getElem?_range h]
  simp
 rw [hg]
 unfold midS
 apply List.ext_getElem
 ·simp
 ·intro j h1 h2
  rw [List.getElem_set]
  simp only [List.getElem_map,List.getElem_range]
  by_cases e:i=j
  ·subst e; rw [if_pos rfl,if_pos (by omega)]; rfl
  ·rw [if_neg e]
   by_cases c:j < i
   ·rw [if_pos c,if_pos (by omega)]
   ·rw [if_neg c,if_neg (by omega)]
theorem setN_b (ps:List Int):1≤setN ps∧setN ps≤4:=by unfold setN; omega
theorem Jws:∀ i,i < 4→∀ j,j < 4→nm i=nm j→i=j:=by decide
theorem Jwr:∀ i,i < 4→∀ j,j < 4→i < j→J5q (nm i) (nm j)=true:=by decide
theorem Jpz (p:Nat→Int) (n:Nat) (h:n≤4):Dist (J5t p n):=by
 unfold Dist J5t
 rw [List.map_map]
 rw [List.nodup_iff_pairwise_ne,List.pairwise_map]
 refine List.Pairwise.imp_of_mem (fun {a b} ha hb hab e=>hab (Jws a (by have:=List.mem_range.1 ha; omega) b (by have:=List.mem_range.1 hb; omega) e)) (List.nodup_iff_pairwise_ne.1 List.nodup_range)
theorem Jmw (p:Nat→Int) (n:Nat) (h:n≤4) (hp:∀ i,0≤p i∧p i≤2097152):Jaa (J5t p n):=by
 refine ⟨by simp [J5t]; omega,fun v hv=>?_⟩
 obtain ⟨i,_,rfl⟩:=List.mem_map.1 hv
 exact hp i
theorem Jur (set:List Val) (hd:Dist set) (h:Hdr) (h1:1≤h.1) (h2:h.1≤16) (v:Val) (hv:v ∈ set) (seed:List UInt8) (hk:v.2.2.1=Jhb seed):Jpg set h.1 (Jth h) (sgS h v.1 seed)=true:=by
 unfold Jpg sgS
 simp only
 rw [Jxm hd hv,hk,Jz3 _ _ _ h1 h2,Jcd]
 rfl
theorem sgS_ok (h:Hdr) (h1:1≤h.1) (h2:h.1≤16) (n seed:List UInt8):Joz (sgS h n seed).2.1:=sig_ok seed h.1 h1 h2 _
noncomputable def sgJ (h:Hdr) (js:List Nat):List J6a:=js.map fun j=>sgS h (nm j) (J7x j)
def pwJ (p:Nat→Int) (js:List Nat):Int:=(js.map p).sum
theorem pwJ_b (p:Nat→Int) (hp:∀ i,0≤p i∧p i≤2097152):∀ js,0≤pwJ p js∧pwJ p js≤2097152 * js.length
 | []=>⟨Int.le_refl _,Int.le_refl _⟩
 | j::js=>by
  have:=pwJ_b p hp js
  have:=hp j
  unfold pwJ at *
  rw [List.map_cons,List.sum_cons,List.length_cons]
  omega
theorem Jvf (p:Nat→Int) (js ks:List Nat):pwJ p (js++ks)=pwJ p js+pwJ p ks:=by
 unfold pwJ; rw [List.map_append,List.sum_append]
theorem Js8 (h:Hdr) (js:List Nat):nmsS (sgJ h js)=js.map nm:=by
 unfold nmsS sgJ
 rw [List.map_map]
 rfl
theorem Jrr {js:List Nat} (h1:js.Pairwise (· < ·)) (h2:∀ j ∈ js,j < 4):incN (js.map nm)=true:=by
 refine Jxt _ ?_
 rw [List.pairwise_map]
 exact List.Pairwise.imp_of_mem (fun {a b} ha hb hab=>Jwr a (h2 a ha) b (h2 b hb) hab) h1
theorem sgJ_ok (h:Hdr) (h1:1≤h.1) (h2:h.1≤16) (js:List Nat):SgOk (sgJ h js):=by
 intro x hx
 obtain ⟨j,_,rfl⟩:=List.mem_map.1 hx
 exact sgS_ok h h1 h2 _ _
theorem Jsr (h:Hdr) {js:List Nat} (h1:js.Pairwise (· < ·)) (h2:∀ j ∈ js,j < 4) (h3:js.length≤4):Jdr (sgJ h js)=true:=by
 unfold Jdr incS
 rw [Js8,Jrr h1 h2,Bool.true_and,decide_eq_true_eq]
 simp [sgJ]; omega
theorem Jpt (q:Val→Bool) (a b:List Val):pow q (a++b)=pow q a+pow q b:=by
 unfold pow
 rw [List.filter_append,List.map_append,List.sum_append]
theorem Jj4 (p:Nat→Int) (q:Val→Bool) (f:Nat→Bool):∀ n,(∀ i,i < n→q (Jfq p i)=f i)→pow q (J5t p n)=pwJ p ((List.range n).filter f)
 | 0,_=>rfl
 | n+1,h=>by
  have e:J5t p (n+1)=J5t p n++[Jfq p n]:=by unfold J5t; rw [List.range_succ,List.map_append]; rfl
  rw [e,Jpt,Jj4 p q f n fun i hi=>h i (by omega),List.range_succ,List.filter_append,Jvf,Jvb,Jy6,h n (by omega)]
  congr 1
  by_cases c:f n
  ·rw [if_pos c,List.filter_cons_of_pos c,List.filter_nil]; simp [pwJ,Jfq]
  ·rw [if_neg c,List.filter_cons_of_neg c,List.filter_nil]; rfl
theorem Jlv {js:List Nat} {i:Nat} (h:∀ j ∈ js,j < 4) (hi:i < 4):(js.map nm).contains (nm i)=js.contains i:=by
 rw [Bool.eq_iff_iff]
 simp only [List.contains_iff_mem]
 constructor
 ·intro hm
  obtain ⟨j,hj,e⟩:=List.mem_map.1 hm
  rw [← Jws j (h j hj) i hi e]
  exact hj
 ·exact fun hm=>List.mem_map_of_mem hm
theorem Jt3 (h:Hdr) (js:List Nat):(sgJ h js).length=js.length:=by simp [sgJ]
def txtS (x:List UInt8):List UInt8:=oneS x.length++x
theorem Jjj (x:List UInt8):(txtS x).length≤x.length+7:=by
 have:=J81 (x.length:Int)
 unfold txtS; rw [List.length_append]; omega
theorem Jot (l:List (List UInt8)) (hl:l.length≤1000) (h:∀ x ∈ l,x.length≤100000):J0u l=some (l.flatMap txtS):=by
 have hlen:∀ i,((l.take i).flatMap txtS).length≤100007 * i:=by
  intro i
  have:∀ (m:List (List UInt8)),(∀ x ∈ m,x.length≤100000)→(m.flatMap txtS).length≤100007 * m.length:=by
   intro m
   induction m with
   | nil=>intro _; simp
   | cons a m ih=>intro hm; have h1:=ih (fun x hx=>hm x (List.mem_cons_of_mem _ hx)); have h2:=hm a List.mem_cons_self; have h3:=Jjj a; rw [List.flatMap_cons,List.length_append,List.length_cons]; omega
  have:=this (l.take i) fun x hx=>h x (List.mem_of_mem_take hx)
  rw [List.length_take] at this; omega
 have main:J0u_1 l (l.length:Int) 0 []=some (l.flatMap txtS):=by
  unfold J0u_1
  have:=J5k (step:=fun (s:Int×List UInt8)=>J0u_1_step l (l.length:Int) s.1 s.2) (fun i (_:Unit)=>((i:Int),(l.take i).flatMap txtS)) (fun _ _=>()) (fun _=>l.flatMap txtS) l.length (fun _ _=>True) (fun i w hi _=>⟨?_,trivial⟩) (fun w _=>?_) l.length 0 () (by omega) trivial
  ·exact this
  ·show J0u_1_step l (l.length:Int) (i:Int) ((l.take i).flatMap txtS)=_
   unfold J0u_1_step
   have b:=hlen i
   have hm:(l.getD i []).length≤100000:=h _ (J6h hi)
   have b2:=J81 ((l.getD i []).length:Int)
   rw [J5f (by omega),J5c (by omega),Int.toNat_natCast,Jsa,J5b,J5c (by omega),J5c (by rw [List.length_append]; omega),J5g (by omega) (by omega),List.append_assoc,Jcn txtS l [] hi]
   rfl
  ·show J0u_1_step l (l.length:Int) (l.length:Int) ((l.take l.length).flatMap txtS)=_
   unfold J0u_1_step
   rw [J5d (by omega),List.take_of_length_le (Nat.le_refl _)]
 unfold J0u
 rw [main,J5b]
theorem Jxp (n:Nat) (h:n≤1000000000):J1q (n:Int)=some []:=by
 unfold J1q
 rw [J5d (by omega),Int.sub_zero,J5g (by omega) (by omega)]
 by_cases c:(0:Int) < (n:Int)
 ·rw [J5f c,J5c ⟨rfl,rfl⟩,J5c (by rw [List.length_replicate]; omega),J5c (by omega),J5c (by rw [List.length_replicate]; omega)]
  rfl
 ·rw [J5d c]
theorem Jqu (l:List (List UInt8)) (h:l.flatten.length≤1000000000) (hl:l.length≤1000000):J4 l=some l.flatten:=by
 have ht:∀ i,((l.take i).flatten).length≤1000000000:=fun i=>Nat.le_trans (J9a l i) h
 have m1:J4_1 l 0 l (l.length:Int) 0=some (l,(l.flatten.length:Int)):=by
  unfold J4_1
  have:=J5k (step:=fun (s:Int×Int)=>J4_1_step l s.1 l (l.length:Int) s.2) (fun i (_:Unit)=>((((l.take i).flatten).length:Int),(i:Int))) (fun _ _=>()) (fun _=>(l,(l.flatten.length:Int))) l.length (fun _ _=>True) (fun i w hi _=>⟨?_,trivial⟩) (fun w _=>?_) l.length 0 () (by omega) trivial
  ·exact this
  ·show J4_1_step l (((l.take i).flatten).length:Int) l (l.length:Int) (i:Int)=_
   unfold J4_1_step
   have e:=congrArg List.length (getD_take l hi)
   rw [List.length_append] at e
   have b:=ht (i+1)
   rw [J5f (by omega),J5c (by omega),Int.toNat_natCast,J5g (n:=(((l.take i).flatten).length:Int)+((l.getD i []).length:Int)) (by omega) (by omega),J5d (by omega),J5g (by omega) (by omega)]
   congr 3
   omega
  ·show J4_1_step l (((l.take l.length).flatten).length:Int) l (l.length:Int) (l.length:Int)=_
   unfold J4_1_step
   rw [J5d (by omega),List.take_of_length_le (Nat.le_refl _)]
 have m2:J4_2 l (l.length:Int) 0 []=some l.flatten:=by
  unfold J4_2
  have:=J5k (step:=fun (s:Int×List UInt8)=>J4_2_step l (l.length:Int) s.1 s.2) (fun i (_:Unit)=>((i:Int),(l.take i).flatten)) (fun _ _=>()) (fun _=>l.flatten) l.length (fun _ _=>True) (fun i w hi _=>⟨?_,trivial⟩) (fun w _=>?_) l.length 0 () (by omega) trivial
  ·exact this
  ·show J4_2_step l (l.length:Int) (i:Int) ((l.take i).flatten)=_
   unfold J4_2_step
   have e:=congrArg List.length (getD_take l hi)
   rw [List.length_append] at e
   have b:=ht (i+1)
   rw [J5f (by omega),J5c (by omega),Int.toNat_natCast,J5c (by omega),J5g (by omega) (by omega),getD_take l hi]
   rfl
  ·show J4_2_step l (l.length:Int) (l.length:Int) ((l.take l.length).flatten)=_
   unfold J4_2_step
   rw [J5d (by omega),List.take_of_length_le (Nat.le_refl _)]
 unfold J4
 rw [m1,J5b]
 simp only
 rw [Jxp _ h,J5b,m2,J5b]
def valB (v:Val):List UInt8:=txtS v.1++oneS v.2.1++v.2.2.1
def setB (l:List Val):List UInt8:=oneS l.length++l.flatMap valB
def setH (l:List Val):List UInt8:=sha (86::setB l)
def Jqc (l:List Val):Prop:=l.length≤1000∧∀ v ∈ l,v.1.length≤100000∧v.2.2.1.length=32
theorem J98 (l:List Val):(setH l).length=32:=J77 _
theorem Joq {v:Val} (h:v.1.length≤100000∧v.2.2.1.length=32):(valB v).length≤100100:=by
 have h1:=Jjj v.1
 have h2:=J81 v.2.1
 unfold valB
 rw [List.length_append,List.length_append]; omega
theorem Jor:∀ (m:List Val),(∀ v ∈ m,v.1.length≤100000∧v.2.2.1.length=32)→(m.flatMap valB).length≤100100 * m.length
 | [],_=>by simp
 | a::m,hm=>by
  have h1:=Jor m fun x hx=>hm x (List.mem_cons_of_mem _ hx)
  have h2:=Joq (hm a List.mem_cons_self)
  rw [List.flatMap_cons,List.length_append,List.length_cons]; omega
theorem Jgc {l:List Val} (h:Jqc l) (i:Nat):(oneS l.length++(l.take i).flatMap valB).length≤100100 * 1000+7:=by
 have h1:=J81 (l.length:Int)
 have h2:=Jor (l.take i) fun v hv=>h.2 v (List.mem_of_mem_take hv)
 have h3:=h.1
 rw [List.length_take] at h2
 rw [List.length_append]
 have:min i l.length≤1000:=by omega
 have:100100 * min i l.length≤100100 * 1000:=Nat.mul_le_mul_left _ this
 omega
theorem Jdd (x0:List Val) (x1:Int) (x2:Int) (x3:List UInt8) (x4:List UInt8):J07_1_step x0 x1 x2 x3 x4=(fork (decide (x2 < x1)) (need (0≤x2∧x2 < (List.length x0:Int)) (andThen (J0u ([(List.getD x0 (Int.toNat x2) zVal).1]:List (List UInt8))) (fun u6=>andThen (J0h ([(List.getD x0 (Int.toNat x2) zVal).2.1]:List (Int))) (fun u8=>andThen (J0t ([(List.getD x0 (Int.toNat x2) zVal).2.2.1]:List (List UInt8))) (fun u10=>andThen (J4 ([x4,u6,u8,u10]:List (List UInt8))) (fun u12=>some (.inl ((w64 (x2+(1:Int))),u12)))))))) (some (.inr (x3,x4))):Option ((Int×List UInt8)⊕(List UInt8×List UInt8))):=rfl
theorem J7z (l:List Val) (h:Jqc l):J07 l=some (setH l):=by
 have hl:=h.1
 have main:J07_1 l (l.length:Int) 0 (List.replicate 32 0) (oneS l.length)=some (List.replicate 32 0,setB l):=by
  unfold J07_1
  have:=J5k (step:=fun (s:Int×List UInt8)=>J07_1_step l (l.length:Int) s.1 (List.replicate 32 0) s.2) (fun i (_:Unit)=>((i:Int),oneS l.length++(l.take i).flatMap valB)) (fun _ _=>()) (fun _=>(List.replicate 32 0,setB l)) l.length (fun _ _=>True) (fun i w hi _=>⟨?_,trivial⟩) (fun w _=>?_) l.length 0 () (by omega) trivial
  ·rw [show ((0:Int),oneS (l.length:Int))=(((0:Nat):Int),oneS (l.length:Int)++(l.take 0).flatMap valB) from by simp]
   exact this
  ·show J07_1_step l (l.length:Int) (i:Int) (List.replicate 32 0) (oneS l.length++(l.take i).flatMap valB)=_
   have hv:=h.2 _ (J6h (z:=zVal) hi)
   have b:=Jgc h i
   have b2:=Joq hv
   rw [Jdd,J5f (by omega),J5c (by omega),Int.toNat_natCast,Jot _ (by simp) (by simp; exact hv.1),J5b,put_eq _ (by simp),J5b,Jrp _ (by simp) (by simp; exact hv.2),J5b]
   have e:[oneS (l.length:Int)++(l.take i).flatMap valB,[(l.getD i zVal).1].flatMap txtS,putS [(l.getD i zVal).2.1],[(l.getD i zVal).2.2.1].flatten].flatten=oneS (l.length:Int)++(l.take (i+1)).flatMap valB:=by
    rw [Jcn valB l zVal hi]
    simp [valB,putS,List.append_assoc]
   have b3:=Jgc h (i+1)
   rw [Jqu _ (by rw [e]; omega) (by simp),J5b,e,J5g (by omega) (by omega)]
   rfl
  ·show J07_1_step l (l.length:Int) (l.length:Int) (List.replicate 32 0) (oneS l.length++(l.take l.length).flatMap valB)=_
   unfold J07_1_step
   rw [J5d (by omega),List.take_of_length_le (Nat.le_refl _)]
   rfl
 have b:=Jgc h l.length
 rw [List.take_of_length_le (Nat.le_refl _)] at b
 have b:(setB l).length≤100100 * 1000+7:=b
 have hp:putS [(l.length:Int)]=oneS l.length:=by simp [putS]
 have hf:[setB l].flatten=setB l:=by simp
 unfold J07
 rw [put_eq _ (by simp),J5b,hp,main,J5b]
 simp only
 rw [J6k _ _ (by rw [hf]; omega) (by simp),hf]
 rfl
abbrev Block:=Hdr×List J6a×List Val×List Val×Unit
def zBlk:Block:=(zHdr,([]:List J6a),([]:List Val),([]:List Val),())
def J6m (n:Nat):List (List UInt8):=(List.range n).map J7x
def J7u (n:Nat):List (List (List UInt8)):=(List.range n).map fun i=>J7r (J7x i)
def J8d (n:Nat):List (List UInt8):=(List.range n).map nm
theorem Jei {α:Type} (f:Nat→α) (z:α) {n i:Nat} (h:i < n):((List.range n).map f).getD i z=f i:=by
 rw [List.getD_eq_getElem?_getD,List.getElem?_map,List.getElem?_range h]; rfl
theorem Jix {α:Type} (f:Nat→α) (i:Nat):(List.range (i+1)).map f=(List.range i).map f++[f i]:=by
 rw [List.range_succ,List.map_append]; rfl
theorem Jc5 {α:Type} (f:Nat→α) (n:Nat):((List.range n).map f).length=n:=by simp
def setV (p:Nat→Int) (n:Nat):List Val:=(List.range n).map (Jmk p)
theorem setS_v (ps:List Int):setS ps=setV (pw ps) (setN ps):=rfl
theorem chain1 (n:Nat) (hn:n≤4) (set:List Val):Je_1 (n:Int) 0 set []=some (set,J6m n):=by
 unfold Je_1
 have:=J5k (step:=fun (t:Int×List (List UInt8))=>Je_1_step (n:Int) t.1 set t.2) (fun i (_:Unit)=>((i:Int),J6m i)) (fun _ _=>()) (fun _=>(set,J6m n)) n (fun _ _=>True) (fun i w hi _=>⟨?_,trivial⟩) (fun w _=>?_) n 0 () (by omega) trivial
 ·exact this
 ·show Je_1_step (n:Int) (i:Int) set (J6m i)=_
  unfold Je_1_step
  have hl:(J6m i).length=i:=Jc5 _ _
  rw [J5f (by omega),Jmd,J5b,J5c (by rw [hl]; simp only [List.length_cons,List.length_nil]; omega),J5g (by omega) (by omega)]
  unfold J6m
  rw [Jix]
  rfl
 ·show Je_1_step (n:Int) (n:Int) set (J6m n)=_
  unfold Je_1_step
  rw [J5d (by omega)]
theorem Js6 (n i:Int) (set:List Val) (seeds:List (List UInt8)) (u:Unit) (r:List (List (List UInt8))) (ns:List (List UInt8)):Jg_1_step n i set seeds u r ns =
  (fork (decide (i < n)) (need (0≤i∧i < (List.length set:Int)) (need (List.length ns+List.length ([(set.getD (Int.toNat i) zVal).1]:List (List UInt8))≤2147483648) (need (0≤i∧i < (List.length seeds:Int)) (andThen (Jv (List.getD seeds (Int.toNat i) (List.replicate 32 (0:UInt8)))) (fun u6=>need (List.length r+List.length ([u6]:List (List (List UInt8)))≤2147483648) (some (.inl ((w64 (i+(1:Int))),(r++([u6]:List (List (List UInt8)))),(ns++([(set.getD (Int.toNat i) zVal).1]:List (List UInt8))))))))))) (some (.inr (set,seeds,u,r,ns))):Option ((Int×List (List (List UInt8))×List (List UInt8))⊕((List Val)×List (List UInt8)×Unit×List (List (List UInt8))×List (List UInt8)))):=rfl
theorem Jmn (p:Nat→Int) (n:Nat) (hn:n≤4):Jg (setV p n) (J6m n)=some (setV p n,J6m n,(),J7u n,J8d n):=by
 have hl:(setV p n).length=n:=Jc5 _ _
 have hs:(J6m n).length=n:=Jc5 _ _
 have main:Jg_1 (n:Int) 0 (setV p n) (J6m n) () [] []=some (setV p n,J6m n,(),J7u n,J8d n):=by
  unfold Jg_1
  have:=J5k (step:=fun (t:Int×List (List (List UInt8))×List (List UInt8))=>Jg_1_step (n:Int) t.1 (setV p n) (J6m n) () t.2.1 t.2.2) (fun i (_:Unit)=>((i:Int),J7u i,J8d i)) (fun _ _=>()) (fun _=>(setV p n,J6m n,(),J7u n,J8d n)) n (fun _ _=>True) (fun i w hi _=>⟨?_,trivial⟩) (fun w _=>?_) n 0 () (by omega) trivial
  ·exact this
  ·show Jg_1_step (n:Int) (i:Int) (setV p n) (J6m n) () (J7u i) (J8d i)=_
   have h1:(J7u i).length=i:=Jc5 _ _
   have h2:(J8d i).length=i:=Jc5 _ _
   have g1:(setV p n).getD i zVal=Jmk p i:=Jei _ _ hi
   have g2:(J6m n).getD i (List.replicate 32 (0:UInt8))=J7x i:=Jei _ _ hi
   rw [Js6,J5f (by omega),J5c (by omega),Int.toNat_natCast,g1,g2,J5c (by rw [h2]; simp only [List.length_cons,List.length_nil]; omega),J5c (by omega),Jvg _ (Jg9 i),J5b,J5c (by rw [h1]; simp only [List.length_cons,List.length_nil]; omega),J5g (by omega) (by omega)]
   unfold J7u J8d
   rw [Jix,Jix]
   rfl
  ·show Jg_1_step (n:Int) (n:Int) (setV p n) (J6m n) () (J7u n) (J8d n)=_
   rw [Js6,J5d (by omega)]
 unfold Jg
 rw [hl,main]
 rfl
theorem Jng (n i:Int) (set:List Val) (u:Unit) (seeds:List (List UInt8)) (r:List (List (List UInt8))) (ns:List (List UInt8)):Je_2_step n i set u seeds r ns =
  (fork (decide (i < n)) (need (0≤i∧i < (List.length r:Int)) (andThen (J0f (List.getD r (Int.toNat i) ([]:List (List UInt8)))) (fun u15=>need (0≤i∧i < (List.length set:Int)) (some (.inl ((w64 (i+(1:Int))),(List.set set (Int.toNat i) ((set.getD (Int.toNat i) zVal).1,(set.getD (Int.toNat i) zVal).2.1,u15,())))))))) (some (.inr (u,seeds,r,ns,set))):Option ((Int×List Val)⊕(Unit×List (List UInt8)×List (List (List UInt8))×List (List UInt8)×List Val))):=rfl
theorem chain2 (p:Nat→Int) (n:Nat) (hn:n≤4):Je_2 (n:Int) 0 (setV p n) () (J6m n) (J7u n) (J8d n)=some ((),J6m n,J7u n,J8d n,J5t p n):=by
 have hr:(J7u n).length=n:=Jc5 _ _
 unfold Je_2
 have:=J5k (step:=fun (t:Int×List Val)=>Je_2_step (n:Int) t.1 t.2 () (J6m n) (J7u n) (J8d n)) (fun i (_:Unit)=>((i:Int),midS p n i)) (fun _ _=>()) (fun _=>((),J6m n,J7u n,J8d n,J5t p n)) n (fun _ _=>True) (fun i w hi _=>⟨?_,trivial⟩) (fun w _=>?_) n 0 () (by omega) trivial
 ·rw [show setV p n=midS p n 0 from by unfold setV midS; congr 1]
  exact this
 ·show Je_2_step (n:Int) (i:Int) (midS p n i) () (J6m n) (J7u n) (J8d n)=_
  have hm:(midS p n i).length=n:=by simp [midS]
  have g1:(J7u n).getD i []=J7r (J7x i):=Jei _ _ hi
  rw [Jng,J5f (by omega),J5c (by omega),Int.toNat_natCast,g1,Jvu _ (by rw [J7j]; omega) (Jfh _),J5b,J5c (by omega),J5g (by omega) (by omega)]
  show some (Sum.inl (_,List.set (midS p n i) i (((midS p n i).getD i zVal).1,((midS p n i).getD i zVal).2.1,Jhb (J7x i),())))=_
  rw [mid_step _ _ _ hi]
  rfl
 ·show Je_2_step (n:Int) (n:Int) (midS p n n) () (J6m n) (J7u n) (J8d n)=_
  rw [Jng,J5d (by omega)]
  unfold midS J5t
  congr 6
  apply List.map_congr_left
  intro j hj
  rw [if_pos (List.mem_range.1 hj)]
theorem Ju9 (ps:List Int) (hp:ps.length≤140737488351232):Je ps=some ((),J6m (setN ps),J7u (setN ps),J8d (setN ps),ringS ps):=by
 have hn:=setN_b ps
 have hl:(setV (pw ps) (setN ps)).length=setN ps:=Jc5 _ _
 unfold Je
 rw [set_eq ps hp,J5b,setS_v,hl,chain1 _ hn.2,J5b]
 simp only
 rw [Jmn _ _ hn.2,J5b]
 simp only
 rw [hl,chain2 _ _ hn.2]
 rfl
noncomputable def root0:List UInt8:=sha (83::(oneS 0++J8a []))
def lastB (B:List Block):Block:=B.getD (B.length - 1) zBlk
noncomputable def hdS (S:List Val) (B:List Block) (t:Int):Hdr:=
 if B.length=0 then (1,t,root0,setH S,setH S,List.replicate 32 0,())
 else ((B.length:Int)+1,t,root0,setH (lastB B).2.2.2.1,setH S,sha (72::Jls (lastB B).1),())
def nowS (S:List Val) (B:List Block):List Val:=if B.length=0 then S else (lastB B).2.2.2.1
noncomputable def blkS (n:Nat) (S:List Val) (B:List Block) (t:Int):Block:=(hdS S B t,sgJ (hdS S B t) (List.range n),nowS S B,S,())
theorem Jpk (B:List Block) (b:Block):lastB (B++[b])=b:=by
 unfold lastB
 rw [List.length_append,List.getD_eq_getElem?_getD,List.getElem?_append_right (by simp)]
 simp
theorem Jvr (p:Nat→Int) (n:Nat) (h:n≤4):Jqc (J5t p n):=by
 refine ⟨by simp [J5t]; omega,fun v hv=>?_⟩
 obtain ⟨i,hi,rfl⟩:=List.mem_map.1 hv
 have hi:=List.mem_range.1 hi
 have:∀ i,i < 4→(nm i).length≤100000:=by decide
 exact ⟨this i (by omega),J72 _⟩
abbrev eqH (x y:List UInt8):Bool:=Ty.beq (.arr 32 (.int .u8)) x y
abbrev Cli:=List Hdr×List Val×Int×Bool×Unit
def Jow (l:List Val):Prop:=∀ v ∈ l,v.2.2.1.length=32
def Jx2 (b:Block):Prop:=J84 b.1∧SgOk b.2.1∧b.2.1.length≤1000000∧Jow b.2.2.1∧Jow b.2.2.2.1∧b.2.2.1.length≤1000000∧b.2.2.2.1.length≤1000000
theorem Jg4 {l:List Val} (h:J97 l=true):Jaa l∧l.length≤5∧1≤l.length∧∀ v ∈ l,v.1.length≤16:=by
 unfold J97 at h
 simp only [Bool.and_eq_true,decide_eq_true_eq] at h
 obtain ⟨h1,h2,h3⟩:=h
 have key:∀ v ∈ l,mayS v=true:=by
  intro v hv
  obtain ⟨i,hi,rfl⟩:=List.getElem_of_mem hv
  have:=List.all_eq_true.1 h1 i (List.mem_range.2 hi)
  unfold okAt at this
  rw [Bool.and_eq_true] at this
  rw [List.getD_eq_getElem?_getD,List.getElem?_eq_getElem hi] at this
  exact this.1
 have key2:∀ v ∈ l,v.1.length≤16∧1≤v.2.1∧v.2.1≤1048576:=by
  intro v hv
  have:=key v hv
  unfold mayS at this
  simp only [Bool.and_eq_true,decide_eq_true_eq] at this
  omega
 exact ⟨⟨by omega,fun v hv=>by have:=key2 v hv; omega⟩,h3,h2,fun v hv=>(key2 v hv).1⟩
theorem Jj7 {l:List Val} (h:J97 l=true) (hk:Jow l):Jqc l:=by
 obtain ⟨_,h2,_,h4⟩:=Jg4 h
 exact ⟨by omega,fun v hv=>⟨by have:=h4 v hv; omega,hk v hv⟩⟩
def Jgj (b:Block):Bool:=J7n b.1 && (J97 b.2.2.1 && (J97 b.2.2.2.1 && (decide (b.2.1.length≤5) && (eqH (setH b.2.2.1) b.1.2.2.2.1 && eqH (setH b.2.2.2.1) b.1.2.2.2.2.1))))
theorem Jwa (b:Block) (hb:Jx2 b):J4e b=some (Jgj b):=by
 obtain ⟨b1,b2,b3,b4,b5,b6,b7⟩:=hb
 unfold J4e Jgj
 rw [Jay,J5b]
 cases c1:J7n b.1 with
 | false=>rfl
 | true=>
  rw [J7h,right_eq _ (by omega),J5b]
  cases c2:J97 b.2.2.1 with
  | false=>rfl
  | true=>
   rw [J7h,right_eq _ (by omega),J5b]
   cases c3:J97 b.2.2.2.1 with
   | false=>rfl
   | true=>
    rw [J7h]
    by_cases c4:b.2.1.length≤5
    ·rw [J5f (by omega),J7z _ (Jj7 c2 b4),J5b,decide_eq_true c4]
     cases c5:Ty.beq (.arr 32 (.int .u8)) (setH b.2.2.1) b.1.2.2.2.1 with
     | false=>rw [show eqH (setH b.2.2.1) b.1.2.2.2.1=false from c5]; rfl
     | true=>rw [show eqH (setH b.2.2.1) b.1.2.2.2.1=true from c5,J7h,J7z _ (Jj7 c3 b5),J5b]; rfl
    ·rw [J5d (by omega),decide_eq_false c4]; rfl
def lastH (c:Cli):Hdr:=c.1.getD (c.1.length - 1) zHdr
theorem Jmg (c:Cli):J12 c=need (0≤(w64 ((List.length c.1:Int) - (1:Int)))∧(w64 ((List.length c.1:Int) - (1:Int))) < (List.length c.1:Int)) (some (List.getD c.1 (Int.toNat (w64 ((List.length c.1:Int) - (1:Int)))) zHdr)):=rfl
theorem Jkj (c:Cli) (h1:1≤c.1.length) (h2:c.1.length≤1000000):J12 c=some (lastH c):=by
 rw [Jmg,J5g (by omega) (by omega),J5c (by omega)]
 unfold lastH
 congr 2
 omega
def Jx3 (c:Cli):Prop:=1≤c.1.length∧c.1.length≤1000000∧Jaa c.2.1∧(0≤(lastH c).1∧(lastH c).1≤1099511627776)∧(0≤(lastH c).2.1∧(lastH c).2.1≤1099511627776)
theorem Jh5 (now:Int) (c:Cli) (hc:Jx3 c) (hn:-1099511627776≤now∧now≤1099511627776):J0j now c=some (decide (c.2.2.1 < now - (lastH c).2.1)):=by
 obtain ⟨h1,h2,_,_,h5⟩:=hc
 unfold J0j
 rw [Jkj c h1 h2,J5b,J5g (by omega) (by omega)]
theorem Jci (l:List Val) (h:l.length≤2147483648):J7 l=some l:=by unfold J7; rw [J5c h]
theorem Jey (l:List Hdr) (h:l.length≤2147483648):Ju l=some l:=by unfold Ju; rw [J5c h]
def enS (set:List Val) (h:Hdr) (s:List J6a):Bool:=decide (allS set * 2 < Jea set h s * 3)
def soS (set:List Val) (h:Hdr) (s:List J6a):Bool:=decide (allS set * 1 < Jea set h s * 3)
def cut6 (l:List Hdr):List Hdr:=if 6 < l.length then l.drop 1 else l
def updS (b:Block) (now:Int) (c:Cli):Int×Cli:=
 if c.2.2.2.1=true then (5,c) else if Jgj b=false then (1,c) else if b.1.1≤(lastH c).1 then (8,c) else if b.1.2.1≤(lastH c).2.1 then (1,c)
 else if c.2.2.1 < now - (lastH c).2.1 then (6,c) else if now < b.1.2.1 then (6,c)
 else if b.1.1=(lastH c).1+1∧eqH b.1.2.2.2.1 (lastH c).2.2.2.2.1=false then (9,c) else if enS b.2.2.1 b.1 b.2.1=false then (9,c)
 else if b.1.1≠(lastH c).1+1∧soS c.2.1 b.1 b.2.1=false then (9,c)
 else (0,(cut6 (c.1++[b.1]),b.2.2.2.1,c.2.2.1,c.2.2.2.1,()))
theorem Jyx (b:Block) (c:Cli) (hc:c.1.length≤1000000) (hb:b.2.2.2.1.length≤1000000):(andThen (Ju c.1) (fun u22=>need (List.length u22+List.length ([b.1]:List Hdr)≤2147483648) (fork (decide ((6:Int) < (List.length (u22++([b.1]:List Hdr)):Int))) (need (0≤(1:Int)∧(1:Int)≤(List.length (u22++([b.1]:List Hdr)):Int)∧(List.length (u22++([b.1]:List Hdr)):Int)≤(List.length (u22++([b.1]:List Hdr)):Int)) (andThen (J7 b.2.2.2.1) (fun u27=>some ((0:Int),((cutL (u22++([b.1]:List Hdr)) (1:Int) (List.length (u22++([b.1]:List Hdr)):Int)),u27,c.2.2.1,c.2.2.2.1,()))))) (andThen (J7 b.2.2.2.1) (fun u29=>some ((0:Int),((u22++([b.1]:List Hdr)),u29,c.2.2.1,c.2.2.2.1,())))))):Option (Int×Cli)) =
  some (0,(cut6 (c.1++[b.1]),b.2.2.2.1,c.2.2.1,c.2.2.2.1,())):=by
 have hl:(c.1++[b.1]).length=c.1.length+1:=by simp
 have h1:([b.1]:List Hdr).length=1:=rfl
 rw [Jey _ (by omega),J5b,J5c (by omega)]
 unfold cut6
 by_cases h:(6:Int) < ((c.1++[b.1]).length:Int)
 ·rw [J5f h,J5c (by omega),Jci _ (by omega),J5b,if_pos (by omega),J8g]
  rfl
 ·rw [J5d h,Jci _ (by omega),J5b,if_neg (by omega)]
theorem upd_eq (b:Block) (now:Int) (c:Cli) (hb:Jx2 b) (hc:Jx3 c) (hn:-1099511627776≤now∧now≤1099511627776):J1h b now c=some (updS b now c):=by
 have hex:=Jh5 now c hc hn
 obtain ⟨c1,c2,c3,c4,c5⟩:=hc
 have hw:=Jwa b hb
 obtain ⟨b1,b2,b3,b4,b5,b6,b7⟩:=hb
 have wl:w64 ((lastH c).1+1)=(lastH c).1+1:=J5g (by omega) (by omega)
 have htail:=Jyx b c (by omega) (by omega)
 unfold J1h updS
 rw [Jkj c c1 c2,J5b]
 by_cases q1:c.2.2.2.1=true
 ·rw [q1,J7h,if_pos rfl]
 rw [if_neg q1]
 have q1:c.2.2.2.1=false:=by simpa using q1
 rw [q1] at htail ⊢
 rw [J5o,hw,J5b]
 cases q2:Jgj b with
 | false=>rw [if_pos rfl]; rfl
 | true=>
  rw [if_neg (by simp),Bool.not_true,J5o]
  have hset:Jaa b.2.2.1:=by
   unfold Jgj at q2
   simp only [Bool.and_eq_true] at q2
   exact (Jg4 q2.2.1).1
  by_cases q3:b.1.1≤(lastH c).1
  ·rw [J5f q3,if_pos q3]
  rw [J5d q3,if_neg q3]
  by_cases q4:b.1.2.1≤(lastH c).2.1
  ·rw [J5f q4,if_pos q4]
  rw [J5d q4,if_neg q4,hex,J5b]
  by_cases q5:c.2.2.1 < now - (lastH c).2.1
  ·rw [J5f q5,if_pos q5]
  rw [J5d q5,if_neg q5]
  by_cases q6:now < b.1.2.1
  ·rw [J5f q6,if_pos q6]
  rw [J5d q6,if_neg q6,wl]
  have en:=Jr5 b.2.2.1 hset b.1 b1 b.2.1 b3 b2
  have so:=Jyu c.2.1 c3 b.1 b1 b.2.1 b3 b2
  rw [show decide (allS b.2.2.1 * 2 < Jea b.2.2.1 b.1 b.2.1 * 3)=enS b.2.2.1 b.1 b.2.1 from rfl] at en
  rw [show decide (allS c.2.1 * 1 < Jea c.2.1 b.1 b.2.1 * 3)=soS c.2.1 b.1 b.2.1 from rfl] at so
  by_cases q7:b.1.1=(lastH c).1+1
  ·rw [J5f q7]
   cases q8:Ty.beq (.arr 32 (.int .u8)) b.1.2.2.2.1 (lastH c).2.2.2.2.1 with
   | false=>rw [if_pos ⟨q7,q8⟩]; rfl
   | true=>
    rw [if_neg (by rw [show eqH b.1.2.2.2.1 (lastH c).2.2.2.2.1=true from q8]; simp),Bool.not_true,J5o,en,J5b]
    cases q9:enS b.2.2.1 b.1 b.2.1 with
    | false=>rw [if_pos rfl]; rfl
    | true=>
     rw [if_neg (by simp),Bool.not_true,J5o,J8b q7,if_neg (fun h=>h.1 q7)]
     exact htail
  ·rw [J5d q7,if_neg (fun h=>q7 h.1),en,J5b]
   cases q9:enS b.2.2.1 b.1 b.2.1 with
   | false=>rw [if_pos rfl]; rfl
   | true=>
    rw [if_neg (by simp),Bool.not_true,J5o,J9c q7,so,J5b]
    cases q10:soS c.2.1 b.1 b.2.1 with
    | false=>rw [if_pos ⟨q7,rfl⟩]; rfl
    | true=>
     rw [if_neg (by simp),Bool.not_true,J5o]
     exact htail
def newS (h:Hdr) (next:List Val) (p:Int):Int⊕(Int×Cli):=
 if J7n h=true∧J97 next=true∧eqH h.2.2.2.2.1 (setH next)=true∧(0≤p∧p≤1073741824) then .inr (0,([h],next,p,false,())) else .inl 1
theorem new_eq (h:Hdr) (next:List Val) (p:Int) (hk:Jow next) (hl:next.length≤1000000):J49 h next p=some (newS h next p):=by
 unfold J49 newS
 rw [Jay,J5b]
 cases q1:J7n h with
 | false=>rw [if_neg (by simp)]; rfl
 | true=>
  rw [Bool.not_true,J5o,right_eq _ (by omega),J5b]
  cases q2:J97 next with
  | false=>rw [if_neg (by simp)]; rfl
  | true=>
   rw [Bool.not_true,J5o,J7z _ (Jj7 q2 hk),J5b]
   cases q3:Ty.beq (.arr 32 (.int .u8)) h.2.2.2.2.1 (setH next) with
   | false=>rw [if_neg (by rw [show eqH h.2.2.2.2.1 (setH next)=false from q3]; simp)]; rfl
   | true=>
    rw [Bool.not_true,J5o]
    unfold J4i
    by_cases q4:0≤p
    ·rw [J5f q4,J5b]
     by_cases q5:p≤1073741824
     ·rw [decide_eq_true q5,Bool.not_true,J5o,Jci _ (by omega),if_pos ⟨rfl,rfl,q3,q4,q5⟩]
      rfl
     ·rw [decide_eq_false q5,if_neg (by omega)]; rfl
    ·rw [J5d q4,J5b,if_neg (by omega)]; rfl
theorem Jpp (p:Nat→Int) {n:Nat} (hn:n≤4) (h:Hdr) (h1:1≤h.1) (h2:h.1≤16) {js:List Nat} (q1:js.Pairwise (· < ·)) (q2:∀ j ∈ js,j < n) (q3:js.length≤4):Je4 (J5t p n) h (sgJ h js)=js.map nm:=by
 unfold Je4 Jac
 rw [if_pos (Jsr h q1 (fun j hj=>by have:=q2 j hj; omega) q3),List.filter_eq_self.2,← Js8 h js]
 ·rfl
 ·intro x hx
  obtain ⟨j,hj,rfl⟩:=List.mem_map.1 hx
  exact Jur _ (Jpz p n hn) h h1 h2 (Jfq p j) (List.mem_map_of_mem (List.mem_range.2 (q2 j hj))) (J7x j) rfl
theorem Juo (g:Nat→Bool) (n:Nat):((List.range n).filter g).Pairwise (· < ·):=List.Pairwise.filter _ List.pairwise_lt_range
theorem Jrg {g:Nat→Bool} {n j:Nat} (h:j ∈ (List.range n).filter g):j < n:=List.mem_range.1 (List.mem_filter.1 h).1
theorem Jim (g:Nat→Bool) (n:Nat):((List.range n).filter g).length≤n:=by
 have:=List.length_filter_le g (List.range n)
 rwa [List.length_range] at this
theorem Jl1 (p:Nat→Int) {n:Nat} (hn:n≤4) (h:Hdr) (h1:1≤h.1) (h2:h.1≤16) (g:Nat→Bool):Jea (J5t p n) h (sgJ h ((List.range n).filter g))=pwJ p ((List.range n).filter g):=by
 have hl:=Jim g n
 unfold Jea
 rw [Jpp p hn h h1 h2 (Juo g n) (fun j hj=>Jrg hj) (by omega)]
 refine Jj4 p _ g n fun i hi=>?_
 show (((List.range n).filter g).map nm).contains (nm i)=g i
 rw [Jlv (fun j hj=>by have:=Jrg hj; omega) (by omega),Bool.eq_iff_iff]
 simp only [List.contains_iff_mem,List.mem_filter,List.mem_range]
 exact ⟨fun x=>x.2,fun x=>⟨hi,x⟩⟩
theorem Jil (n:Nat):(List.range n).filter (fun _=>true)=List.range n:=List.filter_eq_self.2 fun _ _=>rfl
theorem Jjr (p:Nat→Int) (n:Nat):allS (J5t p n)=pwJ p (List.range n):=by
 unfold allS
 rw [Jj4 p (fun _=>true) (fun _=>true) n (fun _ _=>rfl),Jil]
def PwOk (p:Nat→Int):Prop:=∀ i,1≤p i∧p i≤1000000
theorem pw_ok (ps:List Int):PwOk (pw ps):=fun i=>by have:=pw_b ps i; omega
theorem PwOk.s {p:Nat→Int} (h:PwOk p):∀ i,0≤p i∧p i≤2097152:=fun i=>by have:=h i; omega
theorem Jy8 {p:Nat→Int} (h:PwOk p):∀ js:List Nat,js≠[]→1≤pwJ p js
 | [],e=>absurd rfl e
 | j::js,_=>by
  have:=h j
  have:=pwJ_b p h.s js
  unfold pwJ at *
  rw [List.map_cons,List.sum_cons]; omega
theorem Jvk {n:Nat} (h:1≤n):List.range n≠[]:=fun e=>by have:=congrArg List.length e; simp at this; omega
theorem Ja7 {p:Nat→Int} (hp:PwOk p) {n:Nat} (h1:1≤n) (hn:n≤4):J97 (J5t p n)=true:=by
 have hl:(J5t p n).length=n:=by simp [J5t]
 have hg:∀ i,i < n→(J5t p n).getD i zVal=Jfq p i:=fun i hi=>Jei _ _ hi
 have h2:∀ i,i < 4→nm i≠[]∧(nm i).length≤16:=by decide
 unfold J97
 rw [hl]
 simp only [Bool.and_eq_true,decide_eq_true_eq]
 refine ⟨List.all_eq_true.2 fun i hi=>?_,by omega,by omega⟩
 have hi:=List.mem_range.1 hi
 obtain ⟨a,b⟩:=h2 i (by omega)
 have:=hp i
 unfold okAt mayS
 rw [hg i hi]
 simp only [Bool.and_eq_true,Bool.or_eq_true,Bool.not_eq_true',decide_eq_true_eq,decide_eq_false_iff_not,beq_iff_eq]
 refine ⟨⟨a,?_,this.1,?_⟩,?_⟩
 ·show ((nm i).length:Int)≤16; omega
 ·show p i≤1048576; omega
 ·by_cases c:i=0
  ·exact .inl c
  ·right
   rw [hg (i - 1) (by omega)]
   exact Jwr (i - 1) (by omega) i (by omega) (by omega)
theorem Jg6 (p:Nat→Int) (n:Nat):Jow (J5t p n):=by
 intro v hv
 obtain ⟨i,hi,rfl⟩:=List.mem_map.1 hv
 exact J72 _
theorem Jl8 {p:Nat→Int} (hp:PwOk p) {n:Nat} (hn:n≤4):Jaa (J5t p n):=Jmw p n hn hp.s
noncomputable def blF (n:Nat) (S:List Val) (f:Nat→Int):Nat→List Block
 | 0=>[]
 | k+1=>blF n S f k++[blkS n S (blF n S f k) (f k)]
noncomputable def hF (n:Nat) (S:List Val) (f:Nat→Int) (j:Nat):Hdr:=hdS S (blF n S f j) (f j)
def Rise (f:Nat→Int):Prop:=(∀ i,i < 16→0≤f i∧f i≤1000000000)∧∀ i,i+1 < 16→f i < f (i+1)
theorem Rise.lt {f:Nat→Int} (h:Rise f) {i:Nat}:∀ {j:Nat},i < j→j < 16→f i < f j
 | j+1,hij,hj=>by
  have:=h.2 j hj
  rcases Nat.lt_or_ge i j with c | c
  ·have:=h.lt c (by omega); omega
  ·have:i=j:=by omega
   subst this; omega
def Knows (S:List Val) (P:Int) (h:Hdr) (c:Cli):Prop:=1≤c.1.length∧c.1.length≤1000∧lastH c=h∧c.2.1=S∧c.2.2.1=P∧c.2.2.2.1=false
theorem Jhd (l:List Hdr) (h:Hdr) (x:List Val×Int×Bool×Unit):lastH (l++[h],x)=h:=by
 unfold lastH
 simp only
 rw [List.length_append,List.getD_eq_getElem?_getD,List.getElem?_append_right (by simp)]
 simp
noncomputable def hdR (r:List UInt8) (S:List Val) (B:List Block) (t:Int):Hdr:=
 if B.length=0 then (1,t,r,setH S,setH S,List.replicate 32 0,())
 else ((B.length:Int)+1,t,r,setH (lastB B).2.2.2.1,setH S,sha (72::Jls (lastB B).1),())
theorem Jph {r:List UInt8} (hr32:r.length=32) (S:List Val) (B:List Block) (t:Int):J84 (hdR r S B t):=by
 unfold hdR
 split
 ·exact ⟨hr32,J98 _,J98 _,by simp⟩
 ·exact ⟨hr32,J98 _,J98 _,J77 _⟩
theorem hdR_1 (r:List UInt8) (S:List Val) (B:List Block) (t:Int):(hdR r S B t).1=(B.length:Int)+1:=by
 unfold hdR; split
 ·show (1:Int)=_; omega
 ·rfl
theorem hdR_t (r:List UInt8) (S:List Val) (B:List Block) (t:Int):(hdR r S B t).2.1=t:=by unfold hdR; split <;> rfl
theorem Jus (r:List UInt8) (S:List Val) (B:List Block) (t:Int):(hdR r S B t).2.2.2.2.1=setH S:=by unfold hdR; split <;> rfl
theorem Jut (r:List UInt8) (S:List Val) (B:List Block) (t:Int):(hdR r S B t).2.2.2.1=setH (nowS S B):=by unfold hdR nowS; split <;> rfl
theorem Jrq {r:List UInt8} {S:List Val} {B:List Block} {t:Int} (hb:B.length < 16) (h1:0≤t) (h2:t≤1073741824):J7n (hdR r S B t)=true:=by
 rw [Jc4,hdR_1,hdR_t]; omega
noncomputable def blkR (n:Nat) (r:List UInt8) (S:List Val) (B:List Block) (t:Int):Block:=(hdR r S B t,sgJ (hdR r S B t) (List.range n),nowS S B,S,())
noncomputable def blG (n:Nat) (r:Nat→List UInt8) (S:Nat→List Val) (f:Nat→Int):Nat→List Block
 | 0=>[]
 | k+1=>blG n r S f k++[blkR n (r k) (S k) (blG n r S f k) (f k)]
noncomputable def hG (n:Nat) (r:Nat→List UInt8) (S:Nat→List Val) (f:Nat→Int) (j:Nat):Hdr:=hdR (r j) (S j) (blG n r S f j) (f j)
def preS (S:Nat→List Val) (j:Nat):List Val:=if j=0 then S 0 else S (j - 1)
noncomputable def genB (n:Nat) (r:Nat→List UInt8) (S:Nat→List Val) (f:Nat→Int) (j:Nat):Block:=(hG n r S f j,sgJ (hG n r S f j) (List.range n),preS S j,S j,())
theorem J8p (n:Nat) (r:Nat→List UInt8) (S:Nat→List Val) (f:Nat→Int):∀ k,(blG n r S f k).length=k
 | 0=>rfl
 | k+1=>by rw [blG,List.length_append,J8p n r S f k]; rfl
theorem nowG (n:Nat) (r:Nat→List UInt8) (S:Nat→List Val) (f:Nat→Int):∀ k,nowS (S k) (blG n r S f k)=preS S k
 | 0=>rfl
 | k+1=>by
  unfold nowS preS
  rw [J8p,if_neg (by omega),if_neg (by omega),blG,Jpk]
  rfl
theorem Jne (n:Nat) (r:Nat→List UInt8) (S:Nat→List Val) (f:Nat→Int):∀ {k j:Nat},j < k→(blG n r S f k).getD j zBlk=genB n r S f j
 | k+1,j,h=>by
  rw [blG]
  rcases Nat.lt_or_ge j k with c | c
  ·rw [List.getD_eq_getElem?_getD,List.getElem?_append_left (by rw [J8p]; exact c),← List.getD_eq_getElem?_getD]
   exact Jne n r S f c
  ·have:j=k:=by omega
   subst this
   rw [List.getD_eq_getElem?_getD,List.getElem?_append_right (by rw [J8p]; omega),J8p]
   simp only [Nat.sub_self,List.getElem?_cons_zero,Option.getD_some]
   unfold blkR
   rw [nowG]
   rfl
theorem hG_1 (n:Nat) (r:Nat→List UInt8) (S:Nat→List Val) (f:Nat→Int) (j:Nat):(hG n r S f j).1=(j:Int)+1:=by unfold hG; rw [hdR_1,J8p]
theorem hG_t (n:Nat) (r:Nat→List UInt8) (S:Nat→List Val) (f:Nat→Int) (j:Nat):(hG n r S f j).2.1=f j:=hdR_t _ _ _ _
theorem Jxq (n:Nat) (r:Nat→List UInt8) (S:Nat→List Val) (f:Nat→Int) (j:Nat):(hG n r S f j).2.2.1=r j:=by unfold hG hdR; split <;> rfl
theorem Jmb (n:Nat) (r:Nat→List UInt8) (S:Nat→List Val) (f:Nat→Int) (j:Nat):(hG n r S f j).2.2.2.2.1=setH (S j):=Jus _ _ _ _
theorem Jro (n:Nat) (r:Nat→List UInt8) (S:Nat→List Val) (f:Nat→Int) (j:Nat):(hG n r S f j).2.2.2.1=setH (preS S j):=by unfold hG; rw [Jut,nowG]
theorem Jkc (n:Nat) {r:Nat→List UInt8} (S:Nat→List Val) (f:Nat→Int) {j:Nat} (hr:(r j).length=32):J84 (hG n r S f j):=Jph hr _ _ _
theorem Jio {n:Nat} {r:Nat→List UInt8} {S:Nat→List Val} {f:Nat→Int} {j:Nat} (hj:j < 16) (h1:0≤f j) (h2:f j≤1073741824):J7n (hG n r S f j)=true:=Jrq (by rw [J8p]; exact hj) h1 h2
theorem Jv2 (n:Nat) (r:Nat→List UInt8) (S:Nat→List Val) (f:Nat→Int) (k:Nat):lastB (blG n r S f (k+1))=genB n r S f k:=by
 unfold lastB
 rw [J8p]
 exact Jne n r S f (by omega)
theorem preR (P:Nat→Nat→Int) (n j:Nat):preS (fun k=>J5t (P k) n) j=J5t (if j=0 then P 0 else P (j - 1)) n:=by
 unfold preS; split <;> rfl
def Joy (m:Nat) (f:Nat→Int):Prop:=(∀ i,i < m→0≤f i∧f i≤1000000000)∧∀ i,i+1 < m→f i < f (i+1)
theorem Joy.lt {m:Nat} {f:Nat→Int} (h:Joy m f) {i:Nat}:∀ {j:Nat},i < j→j < m→f i < f j
 | j+1,hij,hj=>by
  have:=h.2 j hj
  rcases Nat.lt_or_ge i j with c | c
  ·have:=h.lt c (by omega); omega
  ·have:i=j:=by omega
   subst this; omega
noncomputable def sgB (n:Nat) (r:Nat→List UInt8) (P:Nat→Nat→Int) (f:Nat→Int) (j:Nat) (g:Nat→Bool):Block:=(hG n r (fun k=>J5t (P k) n) f j,sgJ (hG n r (fun k=>J5t (P k) n) f j) ((List.range n).filter g),preS (fun k=>J5t (P k) n) j,J5t (P j) n,())
def pB (P:Nat→Nat→Int) (j:Nat):Nat→Int:=if j=0 then P 0 else P (j - 1)
theorem pB_ok {P:Nat→Nat→Int} (hP:∀ j,PwOk (P j)) (j:Nat):PwOk (pB P j):=by
 unfold pB; split <;> exact hP _
theorem sgB_ok {n:Nat} (hn:n≤4) {r:Nat→List UInt8} (P:Nat→Nat→Int) (f:Nat→Int) {j:Nat} (hj:j < 16) (hr:(r j).length=32) (g:Nat→Bool):Jx2 (sgB n r P f j g):=by
 have hl:∀ p,(J5t p n).length=n:=fun p=>by simp [J5t]
 have h1:=hG_1 n r (fun k=>J5t (P k) n) f j
 refine ⟨Jkc n _ f hr,sgJ_ok _ (by omega) (by omega) _,?_,?_,Jg6 _ n,?_,?_⟩
 ·show (sgJ _ _).length≤1000000
  have:=Jim g n
  rw [Jt3]; omega
 ·show Jow (preS (fun k=>J5t (P k) n) j)
  rw [preR]; exact Jg6 _ n
 ·show (preS (fun k=>J5t (P k) n) j).length≤1000000
  rw [preR,hl]; omega
 ·show (J5t (P j) n).length≤1000000
  rw [hl]; omega
theorem Jtn {n:Nat} (h1:1≤n) (hn:n≤4) {r:Nat→List UInt8} {P:Nat→Nat→Int} (hP:∀ j,PwOk (P j)) {f:Nat→Int} {j:Nat} (hj:j < 16) (q1:0≤f j) (q2:f j≤1073741824) (g:Nat→Bool):Jgj (sgB n r P f j g)=true:=by
 have hfl:=Jim g n
 unfold Jgj sgB
 dsimp only
 rw [Jio hj q1 q2,preR,Ja7 (show PwOk (if j=0 then P 0 else P (j - 1)) from pB_ok hP j) h1 hn,Ja7 (hP j) h1 hn,Jro,preR,Jmb]
 show (true && (true && (true && (decide ((sgJ _ _).length≤5) && (eqH (setH _) (setH _) && eqH (setH _) (setH _))))))=true
 rw [decide_eq_true (by rw [Jt3]; omega),show ∀ s,eqH (setH s) (setH s)=true from fun s=>Jcd _,show ∀ s,eqH (setH s) (setH s)=true from fun s=>Jcd _]
 rfl
theorem Jz1 {n:Nat} (h1:1≤n) (hn:n≤4) {r:Nat→List UInt8} {P:Nat→Nat→Int} (hP:∀ j,PwOk (P j)) {m:Nat} (hm:m≤16) {f:Nat→Int} (hf:Joy m f) {i j:Nat} (hij:i < j) (hj:j < m) {T:Int} {c:Cli}
  (hc:Knows (J5t (P i) n) T (hG n r (fun k=>J5t (P k) n) f i) c) (now:Int) (g:Nat→Bool) (q2:¬ T < now - f i) (q3:¬ now < f j) :
  updS (sgB n r P f j g) now c=if ¬ pwJ (pB P j) (List.range n) * 2 < pwJ (pB P j) ((List.range n).filter g) * 3 then (9,c) else if j≠i+1∧¬ pwJ (P i) (List.range n) * 1 < pwJ (P i) ((List.range n).filter g) * 3 then (9,c) else (0,(cut6 (c.1++[hG n r (fun k=>J5t (P k) n) f j]),J5t (P j) n,T,false,())):=by
 obtain ⟨c1,c2,c3,c4,c5,c6⟩:=hc
 have fj:=hf.1 j hj
 have fi:=hf.1 i (by omega)
 have hlt:=hf.lt hij hj
 have e1:=hG_1 n r (fun k=>J5t (P k) n) f j
 have e2:=hG_1 n r (fun k=>J5t (P k) n) f i
 have ea:∀ p,enS (J5t p n) (hG n r (fun k=>J5t (P k) n) f j) (sgJ (hG n r (fun k=>J5t (P k) n) f j) ((List.range n).filter g))=decide (pwJ p (List.range n) * 2 < pwJ p ((List.range n).filter g) * 3):=fun p=>by
  unfold enS
  rw [Jl1 p hn _ (by omega) (by omega),Jjr]
 have es:∀ p,soS (J5t p n) (hG n r (fun k=>J5t (P k) n) f j) (sgJ (hG n r (fun k=>J5t (P k) n) f j) ((List.range n).filter g))=decide (pwJ p (List.range n) * 1 < pwJ p ((List.range n).filter g) * 3):=fun p=>by
  unfold soS
  rw [Jl1 p hn _ (by omega) (by omega),Jjr]
 unfold updS
 rw [if_neg (by rw [c6]; simp),Jtn h1 hn hP (by omega) fj.1 (by omega) g,if_neg (by simp),c3,e2,hG_t,Jmb]
 show (if (hG n r (fun k=>J5t (P k) n) f j).1≤_ then _ else if (hG n r (fun k=>J5t (P k) n) f j).2.1≤_ then _ else _)=_
 rw [e1,hG_t,if_neg (by omega),if_neg (by omega),c5,if_neg q2]
 show (if now < (hG n r (fun k=>J5t (P k) n) f j).2.1 then _ else if (hG n r (fun k=>J5t (P k) n) f j).1=_∧eqH (hG n r (fun k=>J5t (P k) n) f j).2.2.2.1 _=false then _ else if enS (preS (fun k=>J5t (P k) n) j) (hG n r (fun k=>J5t (P k) n) f j) (sgJ (hG n r (fun k=>J5t (P k) n) f j) ((List.range n).filter g))=false then _ else if (hG n r (fun k=>J5t (P k) n) f j).1≠_∧soS c.2.1 (hG n r (fun k=>J5t (P k) n) f j) (sgJ (hG n r (fun k=>J5t (P k) n) f j) ((List.range n).filter g))=false then _ else (0,(cut6 (c.1++[hG n r (fun k=>J5t (P k) n) f j]),J5t (P j) n,T,c.2.2.2.1,())))=_
 rw [hG_t,if_neg q3,Jro,e1,preR,ea,c4,es,c6]
 have hv:¬ ((j:Int)+1=(i:Int)+1+1∧eqH (setH (J5t (if j=0 then P 0 else P (j - 1)) n)) (setH (J5t (P i) n))=false):=by
  rintro ⟨a,b⟩
  rw [if_neg (by omega),show j - 1=i from by omega,show eqH (setH (J5t (P i) n)) (setH (J5t (P i) n))=true from Jcd _] at b
  cases b
 rw [if_neg hv]
 show (if decide (pwJ (pB P j) (List.range n) * 2 < pwJ (pB P j) ((List.range n).filter g) * 3)=false then _ else _)=_
 by_cases k1:pwJ (pB P j) (List.range n) * 2 < pwJ (pB P j) ((List.range n).filter g) * 3
 ·have n1:¬ ¬ pwJ (pB P j) (List.range n) * 2 < pwJ (pB P j) ((List.range n).filter g) * 3:=fun q=>q k1
  rw [decide_eq_true k1,if_neg (show ¬ (true=false) by simp),if_neg n1]
  by_cases k2:j≠i+1∧¬ pwJ (P i) (List.range n) * 1 < pwJ (P i) ((List.range n).filter g) * 3
  ·have m2:(j:Int)+1≠(i:Int)+1+1∧decide (pwJ (P i) (List.range n) * 1 < pwJ (P i) ((List.range n).filter g) * 3)=false:=⟨by omega,decide_eq_false k2.2⟩
   rw [if_pos k2,if_pos m2]
  ·have m2:¬ ((j:Int)+1≠(i:Int)+1+1∧decide (pwJ (P i) (List.range n) * 1 < pwJ (P i) ((List.range n).filter g) * 3)=false):=by
    rintro ⟨a,b⟩
    exact k2 ⟨by omega,of_decide_eq_false b⟩
   rw [if_neg k2,if_neg m2]
 ·rw [decide_eq_false k1,if_pos (show (false=false) from rfl),if_pos k1]
theorem Jwg {n:Nat} (hn:n≤4) {r:Nat→List UInt8} {P:Nat→Nat→Int} (hP:∀ j,PwOk (P j)) {m:Nat} (hm:m≤16) {f:Nat→Int} (hf:Joy m f) {i:Nat} (hi:i < m) {T:Int} {c:Cli} (hc:Knows (J5t (P i) n) T (hG n r (fun k=>J5t (P k) n) f i) c):Jx3 c:=by
 obtain ⟨c1,c2,c3,c4,_,_⟩:=hc
 have:=hf.1 i hi
 refine ⟨c1,by omega,by rw [c4]; exact Jl8 (hP i) hn,?_,?_⟩
 ·rw [c3,hG_1]; omega
 ·rw [c3,hG_t]; omega
theorem Jxz {n:Nat} (h1:1≤n) (hn:n≤4) {r:Nat→List UInt8} {P:Nat→Nat→Int} (hP:∀ j,PwOk (P j)) {m:Nat} (hm:m≤16) {f:Nat→Int} (hf:Joy m f) {T:Int} (hT:0≤T∧T≤1073741824) {j:Nat} (hj:j < m) :
  J49 (hG n r (fun k=>J5t (P k) n) f j) (J5t (P j) n) T=some (.inr (0,([hG n r (fun k=>J5t (P k) n) f j],J5t (P j) n,T,false,()))):=by
 have hl:(J5t (P j) n).length=n:=by simp [J5t]
 have fj:=hf.1 j hj
 rw [new_eq _ _ _ (Jg6 _ n) (by omega)]
 unfold newS
 rw [if_pos ⟨Jio (by omega) fj.1 (by omega),Ja7 (hP j) h1 hn,by rw [Jmb]; exact Jcd _,hT.1,hT.2⟩]
theorem Jxn (n:Nat) (r:Nat→List UInt8) (P:Nat→Nat→Int) (f:Nat→Int) (j:Nat):genB n r (fun k=>J5t (P k) n) f j=sgB n r P f j (fun _=>true):=by
 unfold genB sgB
 rw [Jil]
abbrev Pr:=List UInt8×List UInt8×Unit
def zPr:Pr:=([],[],())
abbrev PT:Ty:=.fld .str (.fld .str .unit)
theorem pbeq (a b:Pr):Ty.beq PT a b=decide (a=b):=by
 rw [Bool.eq_iff_iff,Ty.beq_iff PT rfl a b,decide_eq_true_eq]
theorem Jd8:∀ a b:List UInt8,J5q a b=false→a=b∨J5q b a=true
 | [],[],_=>.inl rfl
 | _::_,[],_=>.inr rfl
 | [],_::_,h=>by simp [J5q] at h
 | x::a,y::b,h=>by
  simp only [J5q,Bool.or_eq_false_iff,Bool.and_eq_false_iff,decide_eq_false_iff_not,beq_eq_false_iff_ne,ne_eq] at h
  obtain ⟨h1,h2⟩:=h
  by_cases e:x=y
  ·subst e
   rcases Jd8 a b (h2.resolve_left (fun q=>q rfl)) with rfl | h
   ·exact .inl rfl
   ·exact .inr (by simp [J5q,h])
  ·right
   have:y < x:=by
    rcases UInt8.lt_or_lt_of_ne e with q | q
    ·exact absurd q h1
    ·exact q
   simp [J5q,this]
theorem Jlu:∀ a b:List UInt8,(cmpS a b < 0)↔J5q a b=true
 | [],[]=>by simp [cmpS,Lib.compareBytes,J5q]
 | [],_::_=>by simp [cmpS,Lib.compareBytes,J5q]
 | _::_,[]=>by simp [cmpS,Lib.compareBytes,J5q]
 | x::a,y::b=>by
  have ih:=Jlu a b
  unfold cmpS at ih
  unfold cmpS
  rw [Lib.compareBytes,J5q]
  by_cases h:x < y
  ·simp [h]
  ·rw [if_neg h]
   by_cases h2:y < x
   ·have hne:x≠y:=fun e=>by subst e; exact h h2
    rw [if_pos h2]; simp [h,hne]
   ·have he:x=y:=UInt8.le_antisymm (UInt8.not_lt.1 h2) (UInt8.not_lt.1 h)
    rw [if_neg h2,ih]; simp [he]
theorem Ji2:∀ a b:List UInt8,(cmpS a b=0)↔a=b
 | [],[]=>by simp [cmpS,Lib.compareBytes]
 | [],_::_=>by simp [cmpS,Lib.compareBytes]
 | _::_,[]=>by simp [cmpS,Lib.compareBytes]
 | x::a,y::b=>by
  have ih:=Ji2 a b
  unfold cmpS at ih
  unfold cmpS
  rw [Lib.compareBytes]
  by_cases h:x < y
  ·have hne:x≠y:=fun e=>by subst e; exact UInt8.lt_irrefl _ h
   rw [if_pos h]; simp [hne]
  ·rw [if_neg h]
   by_cases h2:y < x
   ·have hne:x≠y:=fun e=>by subst e; exact h h2
    rw [if_pos h2]; simp [hne]
   ·have he:x=y:=UInt8.le_antisymm (UInt8.not_lt.1 h2) (UInt8.not_lt.1 h)
    rw [if_neg h2,ih]; simp [he]
def J5i:List Pr→List UInt8→Nat
 | [],_=>0
 | p::r,k=>bif J5q p.1 k then J5i r k+1 else 0
theorem below_le:∀ (l:List Pr) (k:List UInt8),J5i l k≤l.length
 | [],_=>Nat.le_refl _
 | p::r,k=>by
  have:=below_le r k
  unfold J5i
  cases J5q p.1 k
  ·exact Nat.zero_le _
  ·rw [cond_true,List.length_cons]; omega
theorem Jb5:∀ (l:List Pr) (k:List UInt8) (i:Nat),i < J5i l k→J5q (l.getD i zPr).1 k=true
 | [],_,i,h=>by unfold J5i at h; omega
 | p::r,k,i,h=>by
  unfold J5i at h
  cases e:J5q p.1 k with
  | false=>rw [e,cond_false] at h; omega
  | true=>
   rw [e,cond_true] at h
   match i with
   | 0=>exact e
   | j+1=>exact Jb5 r k j (by omega)
theorem Jed:∀ (l:List Pr) (k:List UInt8),J5i l k < l.length→J5q (l.getD (J5i l k) zPr).1 k=false
 | [],_,h=>by simp at h
 | p::r,k,h=>by
  unfold J5i at h ⊢
  cases e:J5q p.1 k with
  | false=>exact e
  | true=>
   rw [e,cond_true,List.length_cons] at h
   exact Jed r k (by omega)
theorem Jp2 (l:List Pr) (k:List UInt8) (n:Nat) (hn:n≤l.length) (h1:∀ i,i < n→J5q (l.getD i zPr).1 k=true) (h2:n < l.length→J5q (l.getD n zPr).1 k=false):J5i l k=n:=by
 rcases Nat.lt_trichotomy (J5i l k) n with h | h | h
 ·have a:=h1 _ h
  rw [Jed l k (by omega)] at a; cases a
 ·exact h
 ·have a:=Jb5 l k n h
  have b:=below_le l k
  rw [h2 (by omega)] at a; cases a
def J6y (l:List Pr):Prop:=l.Pairwise (fun a b=>J5q a.1 b.1=true)
theorem Jct {l:List Pr} (h:J6y l) {i j:Nat} (hij:i < j) (hj:j < l.length):J5q (l.getD i zPr).1 (l.getD j zPr).1=true:=by
 rw [List.getD_eq_getElem?_getD,List.getD_eq_getElem?_getD,List.getElem?_eq_getElem hj,List.getElem?_eq_getElem (by omega)]
 exact List.pairwise_iff_getElem.1 h i j (by omega) hj hij
theorem J70 {l:List Pr} (h:J6y l) (k:List UInt8) {i:Nat} (hi:i < l.length):J5q (l.getD i zPr).1 k=true↔i < J5i l k:=by
 refine ⟨fun hs=>?_,Jb5 l k i⟩
 apply Classical.byContradiction
 intro hn
 have b:=Jed l k (by omega)
 rcases Nat.lt_or_ge (J5i l k) i with c | c
 ·rw [J6p _ _ _ (Jct h c hi) hs] at b; cases b
 ·have:J5i l k=i:=by omega
  rw [this,hs] at b; cases b
theorem Jp1 (l:List Pr) (a b:List UInt8) (h:J5q a b=false):J5i l b≤J5i l a:=by
 apply Nat.le_of_not_lt
 intro hc
 have hl:=below_le l b
 have h1:=Jb5 l b _ hc
 have h2:=Jed l a (by omega)
 rcases Jd8 a b h with rfl | q
 ·rw [h1] at h2; cases h2
 ·rw [J6p _ _ _ h1 q] at h2; cases h2
def isAt (l:List Pr) (k:List UInt8):Bool:=decide (J5i l k < l.length∧(l.getD (J5i l k) zPr).1=k)
theorem Juw {l:List Pr} (h:J6y l) (k:List UInt8):isAt l k=true↔∃ p ∈ l,p.1=k:=by
 unfold isAt
 rw [decide_eq_true_eq]
 constructor
 ·rintro ⟨h1,h2⟩
  exact ⟨_,J6h h1,h2⟩
 ·rintro ⟨p,hp,e⟩
  obtain ⟨i,hi,rfl⟩:=List.getElem_of_mem hp
  have hg:l.getD i zPr=l[i]:=by rw [List.getD_eq_getElem?_getD,List.getElem?_eq_getElem hi]; rfl
  have:J5i l k=i:=by
   refine Jp2 l k i (by omega) (fun j hj=>?_) fun _=>?_
   ·rw [← e,← hg]; exact Jct h hj hi
   ·rw [hg,e]; exact J8x k
  rw [this,hg]; exact ⟨hi,e⟩
theorem mid_eq (i j:Nat) (h:i+j≤1073741824):w64 ((UInt64.toNat (UInt64.ofNat (UInt64.toNat (UInt64.ofNat (Int.toNat ((w64 ((i:Int)+(j:Int))) % 18446744073709551616))) >>> (Int.toNat (1:Int)))):Nat):Int)=(((i+j) / 2:Nat):Int):=by
 rw [J5g (n:=(i:Int)+(j:Int)) (by omega) (by omega)]
 have e1:Int.toNat (((i:Int)+(j:Int)) % 18446744073709551616)=i+j:=by omega
 have e2:UInt64.toNat (UInt64.ofNat (i+j))=i+j:=by rw [UInt64.toNat_ofNat']; omega
 have e3:(i+j) >>> (Int.toNat (1:Int))=(i+j) / 2:=rfl
 have e4:UInt64.toNat (UInt64.ofNat ((i+j) / 2))=(i+j) / 2:=by rw [UInt64.toNat_ofNat']; omega
 rw [e1,e2,e3,e4,J5g (by omega) (by omega)]
theorem Jl3 (p:Pr) (k:List UInt8):J3x p k=some (cmpS p.1 k):=rfl
theorem Jqs (x0:List Pr) (x1:List UInt8) (x2:Int) (x3:Int) (x4:Int):J6_1_step x0 x1 x2 x3 x4 =
  (fork (decide (x3 < x4)) (need (0≤(w64 ((UInt64.toNat (UInt64.ofNat (UInt64.toNat (UInt64.ofNat (Int.toNat ((w64 (x3+x4)) % 18446744073709551616))) >>> (Int.toNat (1:Int)))):Nat):Int))∧(w64 ((UInt64.toNat (UInt64.ofNat (UInt64.toNat (UInt64.ofNat (Int.toNat ((w64 (x3+x4)) % 18446744073709551616))) >>> (Int.toNat (1:Int)))):Nat):Int)) < (List.length x0:Int)) (andThen (J3x (List.getD x0 (Int.toNat (w64 ((UInt64.toNat (UInt64.ofNat (UInt64.toNat (UInt64.ofNat (Int.toNat ((w64 (x3+x4)) % 18446744073709551616))) >>> (Int.toNat (1:Int)))):Nat):Int))) zPr) x1) (fun u4=>fork (decide (u4 < (0:Int))) (some (.inl ((w64 ((w64 ((UInt64.toNat (UInt64.ofNat (UInt64.toNat (UInt64.ofNat (Int.toNat ((w64 (x3+x4)) % 18446744073709551616))) >>> (Int.toNat (1:Int)))):Nat):Int))+(1:Int))),x4))) (some (.inl (x3,(w64 ((UInt64.toNat (UInt64.ofNat (UInt64.toNat (UInt64.ofNat (Int.toNat ((w64 (x3+x4)) % 18446744073709551616))) >>> (Int.toNat (1:Int)))):Nat):Int)))))))) (some (.inr (x0,x1,x2,x3))):Option ((Int×Int)⊕((List Pr)×List UInt8×Int×Int))):=rfl
theorem Jlt (l:List Pr) (hr:J6y l) (hl:l.length≤1000) (k:List UInt8):∀ (m i j:Nat),j - i≤m→i≤J5i l k→J5i l k≤j→j≤l.length→
  J6_1 l k (l.length:Int) (i:Int) (j:Int)=some (l,k,(l.length:Int),(J5i l k:Int))
 | m,i,j,hm,h1,h2,h3=>by
  unfold J6_1
  by_cases c:i < j
  ·have hs:J6_1_step l k (l.length:Int) (i:Int) (j:Int)=some (.inl (if (i+j) / 2 < J5i l k then ((((i+j) / 2+1:Nat):Int),(j:Int)) else ((i:Int),(((i+j) / 2:Nat):Int)))):=by
    rw [Jqs,J5f (by omega),mid_eq i j (by omega),J5c (by omega),Int.toNat_natCast,Jl3,J5b,J5g (by omega) (by omega)]
    by_cases q:(i+j) / 2 < J5i l k
    ·rw [if_pos q,J5f ((Jlu _ _).2 (Jb5 l k _ q))]; rfl
    ·rw [if_neg q,J5d (fun e=>q ((J70 hr k (by omega)).1 ((Jlu _ _).1 e)))]
   rw [J5v hs]
   match m with
   | 0=>omega
   | m+1=>
    by_cases q:(i+j) / 2 < J5i l k
    ·rw [if_pos q]
     exact Jlt l hr hl k m ((i+j) / 2+1) j (by omega) (by omega) h2 h3
    ·rw [if_neg q]
     exact Jlt l hr hl k m i ((i+j) / 2) (by omega) h1 (by omega) (by omega)
  ·have:i=J5i l k:=by omega
   subst this
   exact J5r (by rw [Jqs,J5d (by omega)])
theorem Jd1 (l:List Pr) (hr:J6y l) (hl:l.length≤1000) (k:List UInt8):J42 l k=some ((J5i l k:Int),isAt l k):=by
 have hb:=below_le l k
 have h:J6 l k=some ((J5i l k:Int),isAt l k):=by
  unfold J6
  rw [show ((0:Int))=((0:Nat):Int) from rfl,Jlt l hr hl k l.length 0 l.length (by omega) (by omega) hb (Nat.le_refl _),J5b]
  simp only
  unfold isAt
  by_cases c:J5i l k < l.length
  ·rw [J5f (by omega),J5c (by omega),Jl3,J5b,Int.toNat_natCast]
   congr 2
   exact decide_eq_decide.2 ⟨fun e=>⟨c,(Ji2 _ _).1 e⟩,fun e=>(Ji2 _ _).2 e.2⟩
  ·rw [J5d (by omega),decide_eq_false (fun e=>c e.1)]
 unfold J42
 rw [h,J5b]
theorem Jcs (l:List Pr) (hr:J6y l) (hl:l.length≤1000) (k:List UInt8):J3p l k=some (J5i l k:Int):=by
 unfold J3p
 rw [Jd1 l hr hl,J5b]
theorem Jme (l:List Pr) (hr:J6y l) (hl:l.length≤1000) (k:List UInt8):J4o l k=some (if isAt l k then ((l.getD (J5i l k) zPr).2.1,true) else ([],false)):=by
 unfold J4o
 rw [Jd1 l hr hl,J5b]
 cases c:isAt l k with
 | false=>rfl
 | true=>
  have:=c
  unfold isAt at this
  rw [decide_eq_true_eq] at this
  rw [Bool.not_true,J5o,J5c (by omega),Int.toNat_natCast]; rfl
theorem Jva (n:Nat) (h:n≤1000000000):J1p (n:Int)=some []:=by
 unfold J1p
 rw [J5d (by omega),Int.sub_zero,J5g (by omega) (by omega)]
 by_cases c:(0:Int) < (n:Int)
 ·rw [J5f c,J5c ⟨rfl,rfl⟩,J5c (by rw [List.length_replicate]; omega),J5c (by omega),J5c (by rw [List.length_replicate]; omega)]
  rfl
 ·rw [J5d c]
theorem Jps (l:List (List Pr)) (h:l.flatten.length≤1000000000) (hl:l.length≤1000000):J2 l=some l.flatten:=by
 have ht:∀ i,((l.take i).flatten).length≤1000000000:=fun i=>Nat.le_trans (J9a l i) h
 have m1:J2_1 l 0 l (l.length:Int) 0=some (l,(l.flatten.length:Int)):=by
  unfold J2_1
  have:=J5k (step:=fun (s:Int×Int)=>J2_1_step l s.1 l (l.length:Int) s.2) (fun i (_:Unit)=>((((l.take i).flatten).length:Int),(i:Int))) (fun _ _=>()) (fun _=>(l,(l.flatten.length:Int))) l.length (fun _ _=>True) (fun i w hi _=>⟨?_,trivial⟩) (fun w _=>?_) l.length 0 () (by omega) trivial
  ·exact this
  ·show J2_1_step l (((l.take i).flatten).length:Int) l (l.length:Int) (i:Int)=_
   unfold J2_1_step
   have e:=congrArg List.length (getD_take l hi)
   rw [List.length_append] at e
   have b:=ht (i+1)
   rw [J5f (by omega),J5c (by omega),Int.toNat_natCast,J5g (n:=(((l.take i).flatten).length:Int)+((l.getD i []).length:Int)) (by omega) (by omega),J5d (by omega),J5g (by omega) (by omega)]
   congr 3
   omega
  ·show J2_1_step l (((l.take l.length).flatten).length:Int) l (l.length:Int) (l.length:Int)=_
   unfold J2_1_step
   rw [J5d (by omega),List.take_of_length_le (Nat.le_refl _)]
 have m2:J2_2 l (l.length:Int) 0 []=some l.flatten:=by
  unfold J2_2
  have:=J5k (step:=fun (s:Int×List Pr)=>J2_2_step l (l.length:Int) s.1 s.2) (fun i (_:Unit)=>((i:Int),(l.take i).flatten)) (fun _ _=>()) (fun _=>l.flatten) l.length (fun _ _=>True) (fun i w hi _=>⟨?_,trivial⟩) (fun w _=>?_) l.length 0 () (by omega) trivial
  ·exact this
  ·show J2_2_step l (l.length:Int) (i:Int) ((l.take i).flatten)=_
   unfold J2_2_step
   have e:=congrArg List.length (getD_take l hi)
   rw [List.length_append] at e
   have b:=ht (i+1)
   rw [J5f (by omega),J5c (by omega),Int.toNat_natCast,J5c (by omega),J5g (by omega) (by omega),getD_take l hi]
   rfl
  ·show J2_2_step l (l.length:Int) (l.length:Int) ((l.take l.length).flatten)=_
   unfold J2_2_step
   rw [J5d (by omega),List.take_of_length_le (Nat.le_refl _)]
 unfold J2
 rw [m1,J5b]
 simp only
 rw [Jva _ h,J5b,m2,J5b]
abbrev Stt:=List Pr×Int×List (List Pr)×Unit
def mayP (p:Pr):Bool:=!decide (p.1=[]) && (decide ((p.1.length:Int)≤16) && decide ((p.2.1.length:Int)≤24))
theorem Js2 (p:Pr):J4x p=some (mayP p):=by
 unfold J4x mayP
 cases decide (p.1=[]) <;> cases decide ((p.1.length:Int)≤16) <;> rfl
def putP (l:List Pr) (p:Pr):List Pr:=if isAt l p.1 then l.take (J5i l p.1)++p::l.drop (J5i l p.1+1) else l.take (J5i l p.1)++p::l.drop (J5i l p.1)
def setP (l:List Pr) (p:Pr):List Pr×Bool:=if mayP p && (isAt l p.1 || decide (l.length < 30)) then (putP l p,true) else (l,false)
theorem Jis {l:List Pr} {k:List UInt8} (h:isAt l k=true):J5i l k < l.length∧(l.getD (J5i l k) zPr).1=k:=by
 unfold isAt at h; rw [decide_eq_true_eq] at h; exact h
theorem Jrx (l:List Pr) (hr:J6y l) (hl:l.length≤1000) (p:Pr):J4p l p=some (setP l p):=by
 have hb:=below_le l p.1
 have c3:∀ a b c:List Pr,J2 [a,b,c]=some (a++(b++(c++[])))∨1000000000 < (a++(b++(c++[]))).length:=fun a b c=>by
  by_cases q:([a,b,c]:List (List Pr)).flatten.length≤1000000000
  ·exact .inl (Jps _ q (by simp))
  ·right
   have:([a,b,c]:List (List Pr)).flatten=a++(b++(c++[])):=rfl
   rw [← this]; omega
 have c4:∀ a c:List Pr,a.length≤1000→c.length≤1000→J2 [a,[p],c]=some (a++p::c):=fun a c h1 h2=>by
  rcases c3 a [p] c with e | e
  ·rw [e,List.append_nil]; rfl
  ·simp only [List.length_append,List.length_cons,List.length_nil] at e; omega
 unfold J4p setP putP
 rw [Jd1 l hr hl,J5b,Js2,J5b,J5g (by omega) (by omega)]
 cases hm:mayP p with
 | false=>rfl
 | true=>
  rw [Bool.not_true,J5o,Bool.true_and]
  cases ha:isAt l p.1 with
  | true=>
   have:=(Jis ha).1
   have e1:cutL l 0 (J5i l p.1:Int)=l.take (J5i l p.1):=by rw [Jf0,Int.toNat_natCast]
   have e2:cutL l ((J5i l p.1:Int)+1) (l.length:Int)=l.drop (J5i l p.1+1):=by rw [J8g]; rfl
   rw [Bool.not_true,J5o,J7h,J5c (by omega),J5c (by omega),e1,e2,c4 _ _ (by rw [List.length_take]; omega) (by rw [List.length_drop]; omega),J5b,Bool.true_or,if_pos rfl,if_pos rfl]
  | false=>
   have e1:cutL l 0 (J5i l p.1:Int)=l.take (J5i l p.1):=by rw [Jf0,Int.toNat_natCast]
   have e2:cutL l (J5i l p.1:Int) (l.length:Int)=l.drop (J5i l p.1):=by rw [J8g,Int.toNat_natCast]
   rw [Bool.not_false,J7h,Bool.false_or]
   by_cases c:l.length < 30
   ·rw [J5d (by omega),J5o,J5c (by omega),J5c (by omega),e1,e2,c4 _ _ (by rw [List.length_take]; omega) (by rw [List.length_drop]; omega),J5b,decide_eq_true c,if_pos rfl,if_neg (by simp)]
   ·rw [J5f (by omega),decide_eq_false c,if_neg (by simp)]
theorem Jpj {l:List Pr} (h:J6y l) (n:Nat):J6y (l.take n):=h.sublist (List.take_sublist n l)
theorem Jpi {l:List Pr} (h:J6y l) (n:Nat):J6y (l.drop n):=h.sublist (List.drop_sublist n l)
theorem Jmj {l:List Pr} {k:List UInt8} {p:Pr} (h:p ∈ l.take (J5i l k)):J5q p.1 k=true:=by
 obtain ⟨i,hi,rfl⟩:=List.getElem_of_mem h
 rw [List.length_take] at hi
 rw [List.getElem_take]
 have:=Jb5 l k i (by omega)
 rw [List.getD_eq_getElem?_getD,List.getElem?_eq_getElem (by omega)] at this
 exact this
theorem Je3 {l:List Pr} {n:Nat} {p:Pr} (h:p ∈ l.drop n):∃ i,n≤i∧i < l.length∧l.getD i zPr=p:=by
 obtain ⟨i,hi,rfl⟩:=List.getElem_of_mem h
 rw [List.length_drop] at hi
 refine ⟨n+i,by omega,by omega,?_⟩
 rw [List.getElem_drop,List.getD_eq_getElem?_getD,List.getElem?_eq_getElem (by omega)]; rfl
theorem Jr4 {l:List Pr} (hr:J6y l) {k:List UInt8} {n:Nat} (h:isAt l k=false∧n=J5i l k∨isAt l k=true∧n=J5i l k+1) {p:Pr} (hp:p ∈ l.drop n):J5q k p.1=true:=by
 obtain ⟨i,h1,h2,rfl⟩:=Je3 hp
 rcases h with ⟨ha,rfl⟩ | ⟨ha,rfl⟩
 ·have b:J5q (l.getD i zPr).1 k=false:=by
   cases q:J5q (l.getD i zPr).1 k with
   | false=>rfl
   | true=>have:=(J70 hr k h2).1 q; omega
  rcases Jd8 _ _ b with e | e
  ·exact absurd ((Juw hr k).2 ⟨_,J6h h2,e⟩) (by rw [ha]; simp)
  ·exact e
 ·have e:=(Jis ha).2
  have:=Jct hr (i:=J5i l k) (j:=i) (by omega) h2
  rw [e] at this; exact this
theorem Jsm {l:List Pr} (hr:J6y l) (p:Pr):J6y (putP l p):=by
 have key:∀ n,(isAt l p.1=false∧n=J5i l p.1∨isAt l p.1=true∧n=J5i l p.1+1)→J6y (l.take (J5i l p.1)++p::l.drop n):=fun n hn=>by
  refine List.pairwise_append.2 ⟨Jpj hr _,List.pairwise_cons.2 ⟨fun q hq=>Jr4 hr hn hq,Jpi hr _⟩,fun a ha b hb=>?_⟩
  have h1:=Jmj ha
  rcases List.mem_cons.1 hb with rfl | hb
  ·exact h1
  ·exact J6p _ _ _ h1 (Jr4 hr hn hb)
 unfold putP
 cases ha:isAt l p.1 with
 | true=>rw [if_pos rfl]; exact key _ (.inr ⟨ha,rfl⟩)
 | false=>rw [if_neg (by simp)]; exact key _ (.inl ⟨ha,rfl⟩)
theorem Jvd (l:List Pr) (p:Pr):(putP l p).length=if isAt l p.1 then l.length else l.length+1:=by
 have hb:=below_le l p.1
 unfold putP
 cases ha:isAt l p.1 with
 | true=>
  have:=(Jis ha).1
  rw [if_pos rfl,if_pos rfl,List.length_append,List.length_cons,List.length_take,List.length_drop]; omega
 | false=>rw [if_neg (by simp),if_neg (by simp),List.length_append,List.length_cons,List.length_take,List.length_drop]; omega
theorem Jt2 {l:List Pr} (hr:J6y l) (p:Pr):J6y (setP l p).1:=by
 unfold setP
 split
 ·exact Jsm hr p
 ·exact hr
theorem Jvx {l:List Pr} (hl:l.length≤30) (p:Pr):(setP l p).1.length≤30:=by
 unfold setP
 split
 ·rename_i h
  rw [Bool.and_eq_true,Bool.or_eq_true,decide_eq_true_eq] at h
  show (putP l p).length≤30
  rw [Jvd]
  split
  ·exact hl
  ·rename_i h2
   have:=h.2.resolve_left h2
   omega
 ·exact hl
theorem Jve {l:List Pr} {p q:Pr} (h:q ∈ putP l p):q=p∨q ∈ l:=by
 unfold putP at h
 split at h
 ·rcases List.mem_append.1 h with h | h
  ·exact .inr (List.mem_of_mem_take h)
  ·rcases List.mem_cons.1 h with h | h
   ·exact .inl h
   ·exact .inr (List.mem_of_mem_drop h)
 ·rcases List.mem_append.1 h with h | h
  ·exact .inr (List.mem_of_mem_take h)
  ·rcases List.mem_cons.1 h with h | h
   ·exact .inl h
   ·exact .inr (List.mem_of_mem_drop h)
def RowB (l:List Pr):Prop:=J6y l∧l.length≤30∧∀ p ∈ l,p.1.length≤16∧p.2.1.length≤24
theorem Jof:RowB []:=⟨List.Pairwise.nil,by simp,by simp⟩
theorem Jvy {l:List Pr} (h:RowB l) (p:Pr):RowB (setP l p).1:=by
 refine ⟨Jt2 h.1 p,Jvx h.2.1 p,fun q hq=>?_⟩
 unfold setP at hq
 split at hq
 ·rename_i c
  rw [Bool.and_eq_true] at c
  have hm:=c.1
  unfold mayP at hm
  simp only [Bool.and_eq_true,decide_eq_true_eq] at hm
  rcases Jve hq with rfl | hq
  ·omega
  ·exact h.2.2 q hq
 ·exact h.2.2 q hq
def StOk (s:Stt):Prop:=RowB s.1∧0≤s.2.1∧s.2.1≤16∧(s.2.2.1.length:Int)=min s.2.1 6∧∀ l ∈ s.2.2.1,RowB l
theorem Jtd:StOk ([],0,[],()):=⟨Jof,by decide,by decide,by decide,by simp⟩
theorem Jw2 (s:Stt) (h:StOk s) (p:Pr):J1v p s=some ((setP s.1 p).2,((setP s.1 p).1,s.2.1,s.2.2.1,())):=by
 have:=h.1.2.1
 unfold J1v
 rw [Jrx _ h.1.1 (by omega),J5b]
theorem st_set {s:Stt} (h:StOk s) (p:Pr):StOk ((setP s.1 p).1,s.2.1,s.2.2.1,()):=⟨Jvy h.1 p,h.2⟩
def Jmc (k:List (List Pr)) (l:List Pr):List (List Pr):=if 6 < k.length+1 then (k++[l]).drop 1 else k++[l]
def J8q (s:Stt):Int×Stt:=if s.2.1=16 then (0,s) else (s.2.1+1,(s.1,s.2.1+1,Jmc s.2.2.1 s.1,()))
theorem Jes (s:Stt) (h:s.1.length≤2147483648):J0r s=some s.1:=by
 unfold J0r Jk
 rw [J5c h,J5b]
theorem Jge (s:Stt) (h:StOk s):J0s s=some (J8q s):=by
 obtain ⟨⟨h1,h2,_⟩,h3,h4,h5,h6⟩:=h
 unfold J0s J8q Jmc
 by_cases c:s.2.1=16
 ·rw [J5f c,if_pos c]
 ·have e:J20 s.2.2.1=some s.2.2.1:=by unfold J20; rw [J5c (by omega)]
  rw [J5d c,if_neg c,e,J5b,J5g (by omega) (by omega),Jes _ (by show s.1.length≤_; omega),J5b,J5c (by simp only [List.length_cons,List.length_nil]; omega)]
  have hl:(s.2.2.1++[s.1]).length=s.2.2.1.length+1:=by rw [List.length_append]; rfl
  show fork (decide ((6:Int) < ((s.2.2.1++[s.1]).length:Int))) (need (0≤(1:Int)∧(1:Int)≤((s.2.2.1++[s.1]).length:Int)∧((s.2.2.1++[s.1]).length:Int)≤((s.2.2.1++[s.1]).length:Int)) (some (s.2.1+1,(s.1,s.2.1+1,cutL (s.2.2.1++[s.1]) 1 ((s.2.2.1++[s.1]).length:Int),())))) (some (s.2.1+1,(s.1,s.2.1+1,s.2.2.1++[s.1],())))=_
  rw [hl]
  by_cases q:6 < s.2.2.1.length+1
  ·rw [J5f (by omega),J5c (by omega),if_pos q,← hl,J8g]; rfl
  ·rw [J5d (by omega),if_neg q]
theorem Jrt (k:List (List Pr)) (l:List Pr) (h:k.length≤6):(Jmc k l).length=min (k.length+1) 6:=by
 unfold Jmc
 split
 ·rw [List.length_drop,List.length_append,List.length_cons,List.length_nil]; omega
 ·rw [List.length_append,List.length_cons,List.length_nil]; omega
theorem Jru {k:List (List Pr)} {l x:List Pr} (h:x ∈ Jmc k l):x ∈ k∨x=l:=by
 unfold Jmc at h
 have:x ∈ k++[l]:=by
  split at h
  ·exact List.mem_of_mem_drop h
  ·exact h
 rcases List.mem_append.1 this with h | h
 ·exact .inl h
 ·exact .inr (List.mem_singleton.1 h)
theorem Jdb {s:Stt} (h:StOk s):StOk (J8q s).2:=by
 obtain ⟨h1,h3,h4,h5,h6⟩:=h
 unfold J8q
 by_cases c:s.2.1=16
 ·rw [if_pos c]; exact ⟨h1,h3,h4,h5,h6⟩
 ·rw [if_neg c]
  refine ⟨h1,by show 0≤s.2.1+1; omega,by show s.2.1+1≤16; omega,?_,fun l hl=>?_⟩
  ·show ((Jmc s.2.2.1 s.1).length:Int)=min (s.2.1+1) 6
   rw [Jrt _ _ (by omega)]; omega
  ·rcases Jru hl with hl | rfl
   ·exact h6 l hl
   ·exact h1
def lowS (s:Stt):Int:=s.2.1 - (s.2.2.1.length:Int)+1
def atS (s:Stt) (n:Int):List Pr×Bool:=if n < lowS s∨s.2.1 < n then ([],false) else (s.2.2.1.getD (n - lowS s).toNat [],true)
theorem low_eq (s:Stt) (h:StOk s):J19 s=some (lowS s):=by
 obtain ⟨h1,h3,h4,h5,h6⟩:=h
 unfold J19 lowS
 rw [J5g (n:=s.2.1 - _) (by omega) (by omega),J5g (by omega) (by omega)]
theorem Jrj {k:List (List Pr)} (h:∀ l ∈ k,RowB l) (i:Nat):RowB (k.getD i []):=by
 by_cases c:i < k.length
 ·exact h _ (J6h c)
 ·rw [List.getD_eq_getElem?_getD,List.getElem?_eq_none (by omega)]
  exact Jof
theorem Jyw (s:Stt) (h:StOk s) (n:Int):J2t n s=some (atS s n):=by
 have hlow:=low_eq s h
 obtain ⟨h1,h3,h4,h5,h6⟩:=h
 have hl:lowS s=s.2.1 - (s.2.2.1.length:Int)+1:=rfl
 unfold J2t atS
 rw [hlow,J5b]
 by_cases c1:n < lowS s
 ·rw [J5f c1,if_pos (.inl c1)]
 ·rw [J5d c1]
  by_cases c2:s.2.1 < n
  ·rw [J5f c2,if_pos (.inr c2)]
  ·have:=(Jrj h6 (n - lowS s).toNat).2.1
   rw [J5d c2,if_neg (by omega),J5b,J5g (by omega) (by omega),J5c (by omega)]
   unfold Jk
   rw [J5c (by omega),J5b]
abbrev Prf:=Int×Int×List Pr×List (List (List UInt8))×Unit
def Jby (p:Pr):List UInt8:=txtS p.1++txtS p.2.1
def J5u (l:List Pr):List (List UInt8):=l.map Jby
def KvOk (l:List Pr):Prop:=l.length≤60∧∀ p ∈ l,p.1.length≤100000∧p.2.1.length≤100000
theorem J69 (l:List Pr):(J5u l).length=l.length:=by simp [J5u]
theorem Jkk {p:Pr} (h:p.1.length≤100000∧p.2.1.length≤100000):(Jby p).length≤200100:=by
 have a:=Jjj p.1
 have b:=Jjj p.2.1
 unfold Jby; rw [List.length_append]; omega
theorem Jcu {l:List Pr} (h:KvOk l):Small (J5u l):=by
 intro x hx
 obtain ⟨p,hp,rfl⟩:=List.mem_map.1 hx
 have:=Jkk (h.2 p hp)
 omega
theorem Jmh (p:Pr) (h:p.1.length≤100000∧p.2.1.length≤100000):J3w p=some (Jby p):=by
 have:=Jot [p.1,p.2.1] (by simp) (fun x hx=>by
  rcases List.mem_cons.1 hx with rfl | hx
  ·exact h.1
  ·rcases List.mem_cons.1 hx with rfl | hx
   ·exact h.2
   ·cases hx)
 have e:([p.1,p.2.1]:List (List UInt8)).flatMap txtS=Jby p:=by simp [Jby]
 rw [e] at this
 unfold J3w
 rw [this,J5b]
theorem Je2 (l:List Pr) {i:Nat} (hi:i < l.length):J5u (l.take i)++[Jby (l.getD i zPr)]=J5u (l.take (i+1)):=by
 unfold J5u
 rw [List.take_add_one,List.map_append,List.getElem?_eq_getElem hi,List.getD_eq_getElem?_getD,List.getElem?_eq_getElem hi]; rfl
theorem Jhq (x0:List Pr) (x1:Int) (x2:Int) (x3:List Pr) (x4:Int) (x5:Int) (x6:Int) (x7:Int) (x8:Unit) (x9:Int) (x10:Int) (x11:Unit) (x12:List (List UInt8)):J00_1_step x0 x1 x2 x3 x4 x5 x6 x7 x8 x9 x10 x11 x12 =
  (fork (decide (x5 < x4)) (need (0≤x5∧x5 < (List.length x3:Int)) (andThen (J3w (List.getD x3 (Int.toNat x5) zPr)) (fun u5=>need (List.length x12+List.length ([u5]:List (List UInt8))≤2147483648) (some (.inl ((w64 (x5+(1:Int))),(x12++([u5]:List (List UInt8))))))))) (some (.inr (x0,x1,x2,x6,x7,x8,x9,x10,x11,x12))):Option ((Int×List (List UInt8))⊕((List Pr)×Int×Int×Int×Int×Unit×Int×Int×Unit×List (List UInt8)))):=rfl
theorem Jhr (x0:List Pr) (x1:Int) (x2:Int) (x3:Int) (x4:Int) (x5:Unit) (x6:Int) (x7:Int) (x8:Unit) (x9:List Pr) (x10:List (List (List UInt8))) (x11:List (List UInt8)):J00_2_step x0 x1 x2 x3 x4 x5 x6 x7 x8 x9 x10 x11 =
  (fork (decide (x2 < x1)) (need (0≤x2∧x2 < (List.length x0:Int)) (need (List.length x9+List.length ([(List.getD x0 (Int.toNat x2) zPr)]:List Pr)≤2147483648) (andThen (J0i x11 x2) (fun u14=>need (List.length x10+List.length ([u14]:List (List (List UInt8)))≤2147483648) (some (.inl ((w64 (x2+(1:Int))),(x9++([(List.getD x0 (Int.toNat x2) zPr)]:List Pr)),(x10++([u14]:List (List (List UInt8))))))))))) (some (.inr (x3,x4,x5,x6,x7,x8,x9,x10))):Option ((Int×(List Pr)×List (List (List UInt8)))⊕(Int×Int×Unit×Int×Int×Unit×(List Pr)×List (List (List UInt8))))):=rfl
noncomputable def J7t (l:List Pr) (f n:Nat):List (List (List UInt8)):=(List.range n).map fun j=>Jaj (J5u l) ((f+j:Nat):Int)
noncomputable def J8j (l:List Pr) (f t:Nat):Prf:=if t≤f then ((l.length:Int),0,[],[],()) else ((l.length:Int),(f:Int),(l.drop f).take (t - f),J7t l f (t - f),())
theorem Jms (l:List Pr) (f n:Nat):J7t l f (n+1)=J7t l f n++[Jaj (J5u l) ((f+n:Nat):Int)]:=by
 unfold J7t
 rw [List.range_succ,List.map_append]; rfl
theorem Jgp (l:List Pr) {f n:Nat} (h:f+n < l.length):(l.drop f).take (n+1)=(l.drop f).take n++[l.getD (f+n) zPr]:=by
 rw [List.take_add_one,List.getElem?_drop,List.getElem?_eq_getElem h,List.getD_eq_getElem?_getD,List.getElem?_eq_getElem h]; rfl
theorem Jvc (l:List Pr) (h:KvOk l) (a b:Int):J00 l a b=some (J8j l (max a 0).toNat (min b (l.length:Int)).toNat):=by
 have hl:=h.1
 unfold J00
 by_cases c:min b (l.length:Int)≤max a 0
 ·rw [J5f c]
  unfold J8j
  rw [if_pos (by omega)]
 ·rw [J5d c]
  have ef:max a 0=(((max a 0).toNat:Nat):Int):=by omega
  have et:min b (l.length:Int)=(((min b (l.length:Int)).toNat:Nat):Int):=by omega
  generalize hF:(max a 0).toNat=F at *
  generalize hT:(min b (l.length:Int)).toNat=T at *
  rw [ef,et]
  rw [ef,et] at c
  have hFT:F < T:=by omega
  have hTl:T≤l.length:=by omega
  clear hF hT ef et c
  have m1:J00_1 l (F:Int) (T:Int) l (l.length:Int) 0 0 0 () (l.length:Int) 0 () []=some (l,(F:Int),(T:Int),0,0,(),(l.length:Int),0,(),J5u l):=by
   unfold J00_1
   have:=J5k (step:=fun (s:Int×List (List UInt8))=>J00_1_step l (F:Int) (T:Int) l (l.length:Int) s.1 0 0 () (l.length:Int) 0 () s.2) (fun i (_:Unit)=>((i:Int),J5u (l.take i))) (fun _ _=>()) (fun _=>(l,(F:Int),(T:Int),0,0,(),(l.length:Int),0,(),J5u l)) l.length (fun _ _=>True) (fun i w hi _=>⟨?_,trivial⟩) (fun w _=>?_) l.length 0 () (by omega) trivial
   ·exact this
   ·show J00_1_step l (F:Int) (T:Int) l (l.length:Int) (i:Int) 0 0 () (l.length:Int) 0 () (J5u (l.take i))=_
    rw [Jhq,J5f (by omega),J5c (by omega),Int.toNat_natCast,Jmh _ (h.2 _ (J6h hi)),J5b,J5c (by rw [J69,List.length_take]; simp only [List.length_cons,List.length_nil]; omega),Je2 l hi,J5g (by omega) (by omega)]
    rfl
   ·show J00_1_step l (F:Int) (T:Int) l (l.length:Int) (l.length:Int) 0 0 () (l.length:Int) 0 () (J5u (l.take l.length))=_
    rw [Jhq,J5d (by omega),List.take_of_length_le (Nat.le_refl _)]
  have m2:J00_2 l (T:Int) (F:Int) 0 0 () (l.length:Int) (F:Int) () [] [] (J5u l)=some (0,0,(),(l.length:Int),(F:Int),(),(l.drop F).take (T - F),J7t l F (T - F)):=by
   unfold J00_2
   have:=J5k (step:=fun (s:Int×(List Pr)×List (List (List UInt8)))=>J00_2_step l (T:Int) s.1 0 0 () (l.length:Int) (F:Int) () s.2.1 s.2.2 (J5u l)) (fun i (_:Unit)=>(((F+i:Nat):Int),(l.drop F).take i,J7t l F i)) (fun _ _=>()) (fun _=>(0,0,(),(l.length:Int),(F:Int),(),(l.drop F).take (T - F),J7t l F (T - F))) (T - F) (fun _ _=>True) (fun i w hi _=>⟨?_,trivial⟩) (fun w _=>?_) (T - F) 0 () (by omega) trivial
   ·exact this
   ·show J00_2_step l (T:Int) ((F+i:Nat):Int) 0 0 () (l.length:Int) (F:Int) () ((l.drop F).take i) (J7t l F i) (J5u l)=_
    have e1:((l.drop F).take i).length≤60:=by rw [List.length_take,List.length_drop]; omega
    have e2:(J7t l F i).length=i:=by simp [J7t]
    rw [Jhr,J5f (by omega),J5c (by omega),Int.toNat_natCast,J5c (by simp only [List.length_cons,List.length_nil]; omega),Jsj (J5u l) _ (by rw [J69]; omega) (Jcu h),J5b,J5c (by simp only [List.length_cons,List.length_nil]; omega),J5g (by omega) (by omega),← Jgp l (by omega),← Jms]
    congr 3
   ·show J00_2_step l (T:Int) ((F+(T - F):Nat):Int) 0 0 () (l.length:Int) (F:Int) () ((l.drop F).take (T - F)) (J7t l F (T - F)) (J5u l)=_
    rw [Jhr,J5d (by omega)]
  rw [m1,J5b]
  simp only
  rw [m2,J5b]
  unfold J8j
  rw [if_neg (by omega)]
theorem Jvj (l:List Pr) (h:KvOk l) (hr:J6y l) (a b:List UInt8):J4f l a b=some (J8j l (J5i l a - 1) (min (J5i l (maxS a b)+1) l.length)):=by
 have hl:=h.1
 have h1:=below_le l a
 have h2:=below_le l (maxS a b)
 unfold J4f
 rw [Jcs l hr (by omega),J5b,Jcs l hr (by omega),J5b,J5g (by omega) (by omega),J5g (by omega) (by omega),Jvc l h,J5b]
 congr 2 <;> omega
theorem Jo5 (l:List Pr) (h:l.length≤60) (f n:Nat):(J7t l f n).length=n∧∀ x ∈ J7t l f n,x.length≤60:=by
 refine ⟨by simp [J7t],fun x hx=>?_⟩
 obtain ⟨j,_,rfl⟩:=List.mem_map.1 hx
 unfold Jaj
 split
 ·have:=Jd0 (J5u l).length (J5u l) ((f+j:Nat):Int).toNat
  rw [J69] at this ⊢; omega
 ·exact Nat.zero_le _
def Jwp:List (List UInt8):=[[97],[97,98],[97,98,99],[98],[98,97],[115,47,97],[115,47,98],[115,47,99],[116],[117],[122],[122,122]]
def Jtx (l:List Pr):Prop:=J6y l∧l.length≤12∧(∀ p ∈ l,p.1 ∈ Jwp)∧∀ p ∈ l,p.2.1.length≤8
theorem Jwq:∀ k ∈ Jwp,1≤k.length∧k.length≤3:=by decide
theorem Jsw {l:List Pr} (h:Jtx l):KvOk l:=⟨by have:=h.2.1; omega,fun p hp=>⟨by have:=Jwq _ (h.2.2.1 p hp); omega,by have:=h.2.2.2 p hp; omega⟩⟩
theorem Jfj:∀ {a b:List Pr},J6y a→J6y b→(∀ q,q ∈ a↔q ∈ b)→a=b
 | [],[],_,_,_=>rfl
 | [],y::b,_,_,h=>by cases (h y).2 List.mem_cons_self
 | x::a,[],_,_,h=>by cases (h x).1 List.mem_cons_self
 | x::a,y::b,ha,hb,h=>by
  obtain ⟨a1,a2⟩:=List.pairwise_cons.1 ha
  obtain ⟨b1,b2⟩:=List.pairwise_cons.1 hb
  have e:x=y:=by
   rcases List.mem_cons.1 ((h x).1 List.mem_cons_self) with e | e
   ·exact e
   ·rcases List.mem_cons.1 ((h y).2 List.mem_cons_self) with e2 | e2
    ·exact e2.symm
    ·have:=J6p _ _ _ (b1 x e) (a1 y e2)
     rw [J8x] at this; cases this
  subst e
  congr 1
  refine Jfj a2 b2 fun q=>⟨fun hq=>?_,fun hq=>?_⟩
  ·rcases List.mem_cons.1 ((h q).1 (List.mem_cons_of_mem _ hq)) with e | e
   ·have:=a1 q hq
    rw [e,J8x] at this; cases this
   ·exact e
  ·rcases List.mem_cons.1 ((h q).2 (List.mem_cons_of_mem _ hq)) with e | e
   ·have:=b1 q hq
    rw [e,J8x] at this; cases this
   ·exact e
def Jjt (n:Nat) (r:List UInt8):List UInt8:=sha (83::(oneS (n:Int)++r))
noncomputable def J89 (l:List Pr):List UInt8:=Jjt l.length (J8a (J5u l))
theorem Jta (x0:List Pr) (x1:List Pr) (x2:Int) (x3:Int) (x4:List UInt8) (x5:List (List UInt8)):J0n_1_step x0 x1 x2 x3 x4 x5 =
  (fork (decide (x3 < x2)) (need (0≤x3∧x3 < (List.length x1:Int)) (andThen (J3w (List.getD x1 (Int.toNat x3) zPr)) (fun u4=>need (List.length x5+List.length ([u4]:List (List UInt8))≤2147483648) (some (.inl ((w64 (x3+(1:Int))),(x5++([u4]:List (List UInt8))))))))) (some (.inr (x0,x4,x5))):Option ((Int×List (List UInt8))⊕((List Pr)×List UInt8×List (List UInt8)))):=rfl
theorem Jgf (l:List Pr) (h:KvOk l):J0n l=some (J89 l):=by
 have hl:=h.1
 have m1:J0n_1 l l (l.length:Int) 0 (List.replicate 32 0) []=some (l,List.replicate 32 0,J5u l):=by
  unfold J0n_1
  have:=J5k (step:=fun (s:Int×List (List UInt8))=>J0n_1_step l l (l.length:Int) s.1 (List.replicate 32 0) s.2) (fun i (_:Unit)=>((i:Int),J5u (l.take i))) (fun _ _=>()) (fun _=>(l,List.replicate 32 0,J5u l)) l.length (fun _ _=>True) (fun i w hi _=>⟨?_,trivial⟩) (fun w _=>?_) l.length 0 () (by omega) trivial
  ·exact this
  ·show J0n_1_step l l (l.length:Int) (i:Int) (List.replicate 32 0) (J5u (l.take i))=_
   rw [Jta,J5f (by omega),J5c (by omega),Int.toNat_natCast,Jmh _ (h.2 _ (J6h hi)),J5b,J5c (by rw [J69,List.length_take]; simp only [List.length_cons,List.length_nil]; omega),Je2 l hi,J5g (by omega) (by omega)]
   rfl
  ·show J0n_1_step l l (l.length:Int) (l.length:Int) (List.replicate 32 0) (J5u (l.take l.length))=_
   rw [Jta,J5d (by omega),List.take_of_length_le (Nat.le_refl _)]
 have hp:putS [(l.length:Int)]=oneS l.length:=by simp [putS]
 have h1:=J81 (l.length:Int)
 have h2:=J72 (J5u l)
 have hf:[oneS (l.length:Int),J8a (J5u l)].flatten=oneS (l.length:Int)++J8a (J5u l):=by simp
 unfold J0n
 rw [m1,J5b]
 dsimp only
 rw [Jj9 _ (by rw [J69]; omega) (Jcu h),J5b,put_eq _ (by simp),J5b,hp,J6k _ _ (by rw [hf,List.length_append]; omega) (by simp),hf]
 rfl
def pq1:Nat→Int:=pw [1]
noncomputable def V1:List Val:=J5t pq1 1
theorem Jhl:PwOk pq1:=pw_ok [1]
theorem Jx5:Jqc V1:=Jvr pq1 1 (by omega)
theorem Jjp:V1.length=1:=by simp [V1,J5t]
noncomputable abbrev D1:List (List UInt8):=[J7x 0]
noncomputable abbrev K1:List (List (List UInt8)):=[J7r (J7x 0)]
theorem Jlc (h:Hdr) (hh:J84 h) (h1:1≤h.1) (h2:h.1≤16) (n:List UInt8):J4g (J7r (J7x 0)) h n (J7x 0)=some (sgS h n (J7x 0)):=by
 unfold J4g
 rw [Jti h hh,J5b,By_eq _ (by rw [J7j]; omega) (Jfh _) _ _ (Jg9 0) _ h1 h2 (by rw [Jlk]; omega),J5b]
 rfl
theorem Jdj:J7 V1=some V1:=Jci _ (by rw [Jjp]; omega)
theorem Jxs:J1x V1 D1=some ((),D1,K1,V1,([],0,[],())):=by
 have e1:J97 V1=true:=Ja7 Jhl (by omega) (by omega)
 have e2:J1x_1 D1 1 0 () D1 [] V1 ([],0,[],())=some ((),D1,K1,V1,([],0,[],())):=by
  unfold J1x_1
  rw [J5v (s':=(1,K1)) (by
   show J1x_1_step D1 1 0 () D1 [] V1 ([],0,[],())=_
   unfold J1x_1_step
   rw [show D1.getD (Int.toNat 0) (List.replicate 32 0)=J7x 0 from rfl,Jx4 _ (Jg9 0)]
   rfl)]
  exact J5r rfl
 unfold J1x
 rw [right_eq _ (by rw [Jjp]; omega),J5b,e1,Jjp]
 rw [show (!true)=false from rfl,J5o,show (!decide ((D1.length:Int)=((1:Nat):Int)))=false from rfl,J5o]
 rw [show J2s D1=some D1 from rfl,J5b,Jdj,J5b]
 show andThen (J1x_1 D1 1 0 () D1 [] V1 ([],0,[],())) _=_
 rw [e2]
 rfl
theorem Jjw (l:List Block) (h:l.length≤1000):J0k l=some l:=by unfold J0k; rw [J5c (by omega)]
theorem hc1 (h:Hdr) (hh:J84 h) (h1:1≤h.1) (h2:h.1≤16) (st:Stt) (g:Hdr) (a b:List Val) :
  Jo_1 1 0 () D1 K1 V1 st h g () [] a b=some ((),D1,K1,V1,st,g,(),sgJ h (List.range 1),a,b):=by
 unfold Jo_1
 rw [J5v (s':=(1,sgJ h (List.range 1))) (by
  show Jo_1_step 1 0 () D1 K1 V1 st h g () [] a b=_
  unfold Jo_1_step
  rw [show K1.getD (Int.toNat 0) []=J7r (J7x 0) from rfl,show D1.getD (Int.toNat 0) (List.replicate 32 0)=J7x 0 from rfl,Jlc h hh h1 h2]
  rfl)]
 exact J5r rfl
theorem hc2 (h:Hdr) (hh:J84 h) (h1:1≤h.1) (h2:h.1≤16) (st:Stt) (B:List Block) (g:Hdr) (a b:List Val) :
  Jb_1 V1 1 0 () D1 K1 V1 st B h g () [] a b=some ((),D1,K1,V1,st,B,g,(),sgJ h (List.range 1),a,b):=by
 unfold Jb_1
 rw [J5v (s':=(1,sgJ h (List.range 1))) (by
  show Jb_1_step V1 1 0 () D1 K1 V1 st B h g () [] a b=_
  unfold Jb_1_step
  rw [show K1.getD (Int.toNat 0) []=J7r (J7x 0) from rfl,show D1.getD (Int.toNat 0) (List.replicate 32 0)=J7x 0 from rfl,Jlc h hh h1 h2]
  rfl)]
 exact J5r rfl
theorem Jxe (r:Nat→List UInt8) (f:Nat→Int) (hr:r 0=J89 []) (hf:0≤f 0∧f 0≤1073741824) :
  Jo (f 0) () D1 K1 V1 ([],0,[],())=some (1,(),D1,K1,V1,([],1,[[]],()),blG 1 r (fun _=>V1) f 1):=by
 have e0:J7n ((1:Int),f 0,J89 [],List.replicate 32 (0:UInt8),setH V1,List.replicate 32 (0:UInt8),())=true:=by
  rw [Jc4]; show ((1:Int)≤1∧(1:Int)≤16)∧0≤f 0∧f 0≤1073741824; omega
 have hh:J84 ((1:Int),f 0,J89 [],setH V1,setH V1,List.replicate 32 (0:UInt8),()):=⟨J77 _,J98 _,J98 _,by simp⟩
 unfold Jo
 rw [Jes _ (by simp),J5b,Jgf [] ⟨by simp,by simp⟩,J5b,J7z _ Jx5,J5b,Jay,J5b,e0]
 rw [show (!true)=false from rfl,J5o,J5b,Jdj,J5b,J5b,Jjp]
 show andThen (Jo_1 1 0 () D1 K1 V1 ([],0,[],()) _ _ () [] V1 V1) _=_
 rw [hc1 _ hh (Int.le_refl 1) (show (1:Int)≤16 by omega),J5b,Jjw [] (by simp),J5b,J5c (by simp),Jge _ Jtd,J5b]
 rw [blG,blG,blkR,hdR,hr]
 rfl
theorem Jxf (r:Nat→List UInt8) (f:Nat→Int) (k:Nat) (hk:1≤k∧k < 16) (st:Stt) (hs:StOk st) (hkv:KvOk st.1) (hr:∀ j,j≤k→(r j).length=32) (hrk:r k=J89 st.1) (hf:∀ j,j≤k→0≤f j∧f j≤1073741824) (hlt:f (k - 1) < f k) :
  Jb (f k) () D1 K1 V1 st (blG 1 r (fun _=>V1) f k)=some ((J8q st).1,(),D1,K1,V1,(J8q st).2,blG 1 r (fun _=>V1) f k,blG 1 r (fun _=>V1) f (k+1)):=by
 obtain ⟨k,rfl⟩:∃ j,k=j+1:=⟨k - 1,by omega⟩
 have hlen:(blG 1 r (fun _=>V1) f (k+1)).length=k+1:=J8p _ _ _ _ _
 have hlast:=Jv2 1 r (fun _=>V1) f k
 have e0:J7n (((k+2:Nat):Int),f (k+1),J89 st.1,List.replicate 32 (0:UInt8),setH V1,List.replicate 32 (0:UInt8),())=true:=by
  rw [Jc4]; show ((1:Int)≤((k+2:Nat):Int)∧((k+2:Nat):Int)≤16)∧0≤f (k+1)∧f (k+1)≤1073741824; have:=hf (k+1) (Nat.le_refl _); omega
 have e1:w64 (((k+1:Nat):Int)+1)=((k+2:Nat):Int):=by rw [J5g (by omega) (by omega)]; omega
 have e2:w64 (((k+1:Nat):Int) - 1)=((k:Nat):Int):=by rw [J5g (by omega) (by omega)]; omega
 have e3:(blG 1 r (fun _=>V1) f (k+1)).getD k zBlk=genB 1 r (fun _=>V1) f k:=Jne _ _ _ _ (Nat.lt_succ_self k)
 have hg:J84 (hG 1 r (fun _=>V1) f k):=Jkc 1 _ f (hr k (by omega))
 have hh:J84 (((k+2:Nat):Int),f (k+1),J89 st.1,setH V1,setH V1,sha (72::Jam (hG 1 r (fun _=>V1) f k)),()):=⟨J77 _,J98 _,J98 _,J77 _⟩
 have e5:Jam (hG 1 r (fun _=>V1) f k)=Jls (hG 1 r (fun _=>V1) f k):=by
  unfold Jam
  rw [Jio (by omega) (hf k (by omega)).1 (hf k (by omega)).2,if_pos rfl]
 unfold Jb
 rw [Jes _ (by have:=hkv.1; omega),J5b,Jgf _ hkv,J5b,J7z _ Jx5,J5b,Jay,J5b,hlen,e1,e0]
 rw [show (!true)=false from rfl,J5o,J5f (by omega),e2,J5c ⟨by omega,by omega⟩,show (Int.toNat ((k:Nat):Int))=k from rfl]
 rw [show ((((0:Int),(0:Int),(List.replicate 32 (0:UInt8)),(List.replicate 32 (0:UInt8)),(List.replicate 32 (0:UInt8)),(List.replicate 32 (0:UInt8)),()),([]:List J6a),([]:List Val),([]:List Val),()):Block)=zBlk from rfl,e3]
 rw [show (genB 1 r (fun _=>V1) f k).1=hG 1 r (fun _=>V1) f k from rfl,show (genB 1 r (fun _=>V1) f k).2.2.2.1=V1 from rfl,hG_t,J5d (by have:f (k+1 - 1) < f (k+1):=hlt; simp only [Nat.add_sub_cancel] at this; omega)]
 rw [Jff _ hg,J5b,J7z _ Jx5,J5b,Jdj,J5b,J5b,Jjp]
 show andThen (Jb_1 V1 1 0 () D1 K1 V1 st (blG 1 r (fun _=>V1) f (k+1)) _ _ () [] V1 V1) _=_
 rw [hc2 _ hh (show (1:Int)≤((k+2:Nat):Int) by omega) (show ((k+2:Nat):Int)≤16 by omega),J5b,Jjw _ (by rw [hlen]; omega),J5b,J5c (by rw [hlen]; simp; omega),Jge _ hs,J5b,e5]
 rw [show blG 1 r (fun _=>V1) f (k+1+1)=blG 1 r (fun _=>V1) f (k+1)++[blkR 1 (r (k+1)) V1 (blG 1 r (fun _=>V1) f (k+1)) (f (k+1))] from rfl]
 unfold blkR hdR nowS
 rw [hlen,if_neg (by omega),if_neg (by omega),hlast,hrk]
 rw [show (((k+1:Nat):Int)+1)=((k+2:Nat):Int) from by omega]
 rfl
def f1 (j:Nat):Int:=(j:Int)+1
def R1:Pr:=([115,47,97],[9,0],())
noncomputable def r1 (j:Nat):List UInt8:=if j=0 then J89 [] else J89 [R1]
theorem Jig:Joy 16 f1:=⟨fun i hi=>by unfold f1; omega,fun i hi=>by unfold f1; omega⟩
theorem Jww (j:Nat):(r1 j).length=32:=by unfold r1; split <;> exact J77 _
noncomputable abbrev B1 (k:Nat):List Block:=blG 1 r1 (fun _=>V1) f1 k
noncomputable abbrev H1 (k:Nat):Hdr:=hG 1 r1 (fun _=>V1) f1 k
noncomputable abbrev G1 (k:Nat):Block:=genB 1 r1 (fun _=>V1) f1 k
def Q1:Int×List UInt8×List UInt8×Int×Int×Unit:=(2,[115,47],[115,48],1,3,())
theorem Jnf (k:Nat) (j:Nat) (hj:j < k) (hk:k≤16) (st:Stt):J0l ((j:Int)+1) () D1 K1 V1 st (B1 k)=some (G1 j,true):=by
 have hlen:(B1 k).length=k:=J8p _ _ _ _ _
 have e3:(B1 k).getD j zBlk=G1 j:=Jne _ _ _ _ hj
 have e2:w64 ((j:Int)+1 - 1)=(j:Int):=by rw [J5g (by omega) (by omega)]; omega
 unfold J0l
 rw [hlen,J5d (by omega),J5d (by omega),e2,J5c ⟨by omega,by omega⟩,show Int.toNat (j:Int)=j from rfl]
 rw [show ((((0:Int),(0:Int),(List.replicate 32 (0:UInt8)),(List.replicate 32 (0:UInt8)),(List.replicate 32 (0:UInt8)),(List.replicate 32 (0:UInt8)),()),([]:List J6a),([]:List Val),([]:List Val),()):Block)=zBlk from rfl,e3]
 have e4:preS (fun _=>V1) j=V1:=by unfold preS; split <;> rfl
 rw [show (G1 j).2.1=[sgS (H1 j) (nm 0) (J7x 0)] from rfl,show (G1 j).2.2.1=V1 from e4,show (G1 j).2.2.2.1=V1 from rfl]
 rw [show J24 [sgS (H1 j) (nm 0) (J7x 0)]=some [sgS (H1 j) (nm 0) (J7x 0)] from rfl,J5b,Jdj,J5b,J5b]
 show some ((H1 j,[sgS (H1 j) (nm 0) (J7x 0)],V1,V1,()),true)=some ((H1 j,[sgS (H1 j) (nm 0) (J7x 0)],preS (fun _=>V1) j,V1,()),true)
 rw [e4]
theorem Jv4:J49 (H1 0) V1 50=some (.inr (0,([H1 0],V1,50,false,()))):=
 Jxz (n:=1) (r:=r1) (P:=fun _=>pq1) (m:=16) (by omega) (by omega) (fun _=>Jhl) (by omega) Jig (T:=50) (by omega) (j:=0) (by omega)
theorem Jwb:J4k V1 D1 50 1 3=some (0,1,1,(),(),D1,K1,V1,([],1,[[]],()),B1 1,(),([H1 0],V1,50,false,()),(1,0,0,()),[(1,(Q1,1,0,()))],(),[],([],()),(0,0,[],false,()),0,0,0,false,(),[]):=by
 have e:J41 (H1 0) V1 50 1 3=some (0,(),([H1 0],V1,50,false,()),(1,0,0,()),[(1,(Q1,1,0,()))],(),[],([],()),(0,0,[],false,()),0,0,0,false,(),[]):=by
  unfold J41
  rw [Jv4]
  rfl
 unfold J4k
 rw [Jxs,J5b]
 rw [show Jo 1 () D1 K1 V1 ([],0,[],())=_ from Jxe r1 f1 rfl (by unfold f1; omega),J5b]
 rw [show J0l 1 () D1 K1 V1 ([],1,[[]],()) (B1 1)=_ from Jnf 1 0 (by omega) (by omega) _,J5b]
 rw [show J41 (G1 0).1 (G1 0).2.2.2.1 50 1 3=_ from e]
 rfl
theorem Jpu (a b:List Pr) (hl:a.length=b.length) {ρ:Type} (r r0:ρ) (hr:r≠r0):scan (fun i=>if a.getD i zPr=b.getD i zPr then none else some r) r0 0 a.length=if a=b then r0 else r:=by
 by_cases e:a=b
 ·subst e
  rw [if_pos rfl]
  exact J9r _ _ (fun j _ _=>if_pos rfl)
 ·rw [if_neg e]
  have:∃ j,j < a.length∧a.getD j zPr≠b.getD j zPr:=by
   apply Classical.byContradiction
   intro hn
   apply e
   apply List.ext_getElem hl
   intro i h1 h2
   apply Classical.byContradiction
   intro hne
   exact hn ⟨i,h1,by rw [List.getD_eq_getElem?_getD,List.getD_eq_getElem?_getD,List.getElem?_eq_getElem h1,List.getElem?_eq_getElem h2]; exact hne⟩
  obtain ⟨j,hj⟩:=Nat.find_of this
  refine J8w a.length 0 j (Nat.zero_le _) (by omega) (fun j' _ h=>if_pos ?_) (if_neg hj.1.2)
  exact Classical.byContradiction fun hne=>hj.2 j' h ⟨by omega,hne⟩
theorem Jj2 (x0:List Pr) (x1:List Pr) (x2:Int) (x3:Int):Ji_1_step x0 x1 x2 x3 =
  (fork (decide (x3 < x2)) (need (0≤x3∧x3 < (List.length x0:Int)) (need (0≤x3∧x3 < (List.length x1:Int)) (fork (!(Ty.beq (.fld .str (.fld .str .unit)) (List.getD x0 (Int.toNat x3) zPr) (List.getD x1 (Int.toNat x3) zPr))) (some (.inr (.inl false))) (some (.inl (w64 (x3+(1:Int)))))))) (some (.inr (.inr ()))):Option ((Int)⊕((Bool)⊕(Unit)))):=rfl
theorem Jl2 (a b:List Pr) (ha:a.length≤1073741824):Ji a b=some (decide (a=b)):=by
 by_cases hl:a.length=b.length
 ·have h:Ji_1 a b (a.length:Int) 0=some (scan (fun i=>if a.getD i zPr=b.getD i zPr then none else some (.inl false)) (.inr ()) 0 a.length):=by
   unfold Ji_1
   refine J7k (step:=fun (s:Int)=>Ji_1_step a b (a.length:Int) s) (fun i=>(i:Int)) _ _ a.length (fun i hi h=>?_) (fun i r hi h=>?_) ?_ a.length 0 (by omega)
   ·rw [Jj2,J5f (by omega),J5c (by omega),J5c (by omega),Int.toNat_natCast,pbeq,J5g (by omega) (by omega)]
    by_cases e:a.getD i zPr=b.getD i zPr
    ·rw [J8b e]; rfl
    ·rw [if_neg e] at h; cases h
   ·rw [Jj2,J5f (by omega),J5c (by omega),J5c (by omega),Int.toNat_natCast,pbeq]
    by_cases e:a.getD i zPr=b.getD i zPr
    ·rw [if_pos e] at h; cases h
    ·rw [if_neg e] at h; injection h with h; subst h; rw [J9c e]
   ·rw [Jj2,J5d (by omega)]
  unfold Ji
  rw [J8b (by omega),h,J5b,Jpu a b hl _ _ (by simp)]
  by_cases e:a=b
  ·rw [if_pos e,decide_eq_true e]
  ·rw [if_neg e,decide_eq_false e]
 ·unfold Ji
  rw [J9c (by omega),decide_eq_false (fun e=>hl (by rw [e]))]
abbrev hq (a b:List UInt8):Bool:=Ty.beq (.arr 32 (.int .u8)) a b
theorem Jwk (a b:List UInt8):hq a b=true↔a=b:=Ty.beq_iff (.arr 32 (.int .u8)) rfl a b
def okP (l:List Pr) (i:Nat):Bool:=mayP (l.getD i zPr) && (i == 0 || J5q (l.getD (i - 1) zPr).1 (l.getD i zPr).1)
def J88 (l:List Pr):Bool:=(List.range l.length).all (okP l) && decide (l.length≤30)
theorem Jrw (x0:List Pr) (x1:List Pr) (x2:Int) (x3:Int):J0y_1_step x0 x1 x2 x3 =
  (fork (decide (x3 < x2)) (need (0≤x3∧x3 < (List.length x1:Int)) (andThen (J4x (List.getD x1 (Int.toNat x3) zPr)) (fun u4=>fork (!u4) (some (.inr (.inl false))) (fork (decide ((0:Int) < x3)) (need (0≤(w64 (x3 - (1:Int)))∧(w64 (x3 - (1:Int))) < (List.length x0:Int)) (fork (!J5q (List.getD x0 (Int.toNat (w64 (x3 - (1:Int)))) zPr).1 (List.getD x1 (Int.toNat x3) zPr).1) (some (.inr (.inl false))) (some (.inl (w64 (x3+(1:Int))))))) (some (.inl (w64 (x3+(1:Int))))))))) (some (.inr (.inr x0))):Option ((Int)⊕((Bool)⊕(List Pr)))):=rfl
theorem Jfi (l:List Pr) (hl:l.length≤1073741824):J0y l=some (J88 l):=by
 have main:J0y_1 l l (l.length:Int) 0=some (scan (fun i=>if okP l i then none else some (.inl false)) (.inr l) 0 l.length):=by
  unfold J0y_1
  have step:∀ i,i < l.length→J0y_1_step l l (l.length:Int) (i:Int)=if okP l i then some (.inl ((i+1:Nat):Int)) else some (.inr (.inl false)):=by
   intro i hi
   rw [Jrw]
   simp (disch:=omega) only [J5f,J5g,J5c,Int.toNat_natCast,Js2,J5b]
   unfold okP
   by_cases hm:mayP (l.getD i zPr)
   ·rw [hm]
    rw [show (!true)=false from rfl,J5o,Bool.true_and]
    by_cases h0:i=0
    ·subst h0; rw [J5d (by omega)]; rfl
    ·rw [J5f (by omega),J5c (by omega),show Int.toNat ((i:Int) - 1)=i - 1 from by omega]
     have:(i == 0)=false:=by simp [h0]
     rw [this,Bool.false_or]
     by_cases hs:J5q (l.getD (i - 1) zPr).1 (l.getD i zPr).1
     ·rw [hs]; rfl
     ·rw [Bool.not_eq_true] at hs; rw [hs]; rfl
   ·rw [Bool.not_eq_true] at hm; rw [hm]; rfl
  refine J7k (step:=fun (s:Int)=>J0y_1_step l l (l.length:Int) s) (fun i=>(i:Int)) _ _ l.length (fun i hi h=>?_) (fun i r hi h=>?_) ?_ l.length 0 (by omega)
  ·by_cases hk:okP l i
   ·exact (step i hi).trans (if_pos hk)
   ·rw [if_neg hk] at h; cases h
  ·by_cases hk:okP l i
   ·rw [if_pos hk] at h; cases h
   ·rw [if_neg hk] at h; injection h with h; subst h
    exact (step i hi).trans (if_neg hk)
  ·rw [Jrw,J5d (by omega)]
 unfold J0y
 rw [main,J5b]
 unfold J88
 by_cases hall:(List.range l.length).all (okP l)
 ·rw [J9r _ _ (fun j _ h=>if_pos (List.all_eq_true.1 hall j (by simp; omega))),hall,Bool.true_and]
  dsimp only
  congr 1
  exact decide_eq_decide.2 (by omega)
 ·rw [Bool.not_eq_true] at hall
  have:∃ j,j < l.length∧okP l j=false:=by
   rw [List.all_eq_false] at hall
   obtain ⟨j,hj,hk⟩:=hall
   exact ⟨j,by simpa using hj,by simpa using hk⟩
  obtain ⟨j,hj⟩:=Nat.find_of this
  have hsc:scan (fun i=>if okP l i then none else some (.inl false)) (.inr l:Bool⊕List Pr) 0 l.length=.inl false:=by
   refine J8w l.length 0 j (Nat.zero_le _) (by omega) (fun j' _ h=>if_pos ?_) (if_neg ?_)
   ·have:=hj.2 j' h
    cases hk:okP l j' with
    | true=>rfl
    | false=>exact absurd ⟨by omega,hk⟩ this
   ·rw [hj.1.2]; simp
  rw [hall,hsc]
  rfl
theorem J9p (l:List Pr):J88 l=true↔J6y l∧(∀ p ∈ l,mayP p=true)∧l.length≤30:=by
 have e:∀ j,(l.map (·.1)).getD j []=(l.getD j zPr).1:=fun j=>by
  rw [List.getD_eq_getElem?_getD,List.getD_eq_getElem?_getD,List.getElem?_map]
  cases l[j]? <;> rfl
 unfold J88
 rw [Bool.and_eq_true,decide_eq_true_eq]
 constructor
 ·rintro ⟨h1,h2⟩
  have key0:∀ i,i < l.length→okP l i=true:=fun i hi=>List.all_eq_true.1 h1 i (List.mem_range.2 hi)
  have hinc:incN (l.map fun p:Pr=>p.1)=true:=by
   refine List.all_eq_true.2 fun i hi=>?_
   have hi:=List.mem_range.1 hi
   rw [List.length_map] at hi
   have:=key0 (i+1) (by omega)
   unfold okP at this
   simp only [Bool.and_eq_true,Bool.or_eq_true,beq_iff_eq] at this
   have t:=this.2.resolve_left (by omega)
   rw [Nat.add_sub_cancel] at t
   rw [e,e]; exact t
  refine ⟨List.pairwise_map.1 (Jkg _ hinc),fun p hp=>?_,h2⟩
  ·obtain ⟨i,hi,rfl⟩:=List.getElem_of_mem hp
   have:=key0 i hi
   unfold okP at this
   rw [Bool.and_eq_true,List.getD_eq_getElem?_getD,List.getElem?_eq_getElem hi] at this
   exact this.1
 ·rintro ⟨h1,h2,h3⟩
  refine ⟨List.all_eq_true.2 fun i hi=>?_,h3⟩
  have hi:=List.mem_range.1 hi
  unfold okP
  rw [Bool.and_eq_true,Bool.or_eq_true,beq_iff_eq]
  refine ⟨h2 _ (J6h hi),?_⟩
  by_cases c:i=0
  ·exact .inl c
  ·exact .inr (Jct h1 (by omega) hi)
theorem mayP_b {p:Pr} (h:mayP p=true):1≤p.1.length∧p.1.length≤16∧p.2.1.length≤24:=by
 unfold mayP at h
 simp only [Bool.and_eq_true,Bool.not_eq_true',decide_eq_true_eq,decide_eq_false_iff_not,← List.length_eq_zero_iff] at h
 omega
theorem Jd4 {l:List Pr} (h:J88 l=true):KvOk l∧J6y l:=by
 obtain ⟨h1,h2,h3⟩:=(J9p l).1 h
 exact ⟨⟨by omega,fun p hp=>by have:=mayP_b (h2 p hp); omega⟩,h1⟩
noncomputable def Jep (p:Prf) (i:Nat):List UInt8×Bool:=upS (Jby (p.2.2.1.getD i zPr)) (p.2.1+(i:Int)) p.1 (p.2.2.2.1.getD i [])
noncomputable def J9e (root:List UInt8) (p:Prf) (i:Nat):Bool:=(Jep p i).2 && hq (Jjt p.1.toNat (Jep p i).1) root
noncomputable def J8f (root:List UInt8) (p:Prf):Bool:=
 decide (0≤p.1∧p.1≤30∧p.2.2.2.1.length=p.2.2.1.length) && (J88 p.2.2.1 && (decide (0≤p.2.1∧p.2.1≤p.1 - (p.2.2.1.length:Int)) && (if p.1=0 then hq root (J89 []) else (decide (0 < p.2.2.1.length) && (List.range p.2.2.1.length).all (J9e root p)))))
def Jhw (p:Prf):Prop:=(∀ x ∈ p.2.2.2.1,x.length≤1000∧∀ h ∈ x,h.length=32)∧p.2.2.1.length≤1000000∧p.2.2.2.1.length≤1000000
theorem upS_32 (leaf:List UInt8) (i n:Int) (p:List (List UInt8)):(upS leaf i n p).1.length=32:=by
 unfold upS
 split
 ·exact Ji1 _ _ _ (J77 _)
 ·simp
theorem Jr0 (n:Nat) (r:List UInt8) (hr:r.length=32):J3u (n:Int) r=some (Jjt n r):=by
 have hp:putS [(n:Int)]=oneS n:=by simp [putS]
 have h1:=J81 (n:Int)
 have hf:[oneS (n:Int),r].flatten=oneS (n:Int)++r:=by simp
 unfold J3u
 rw [put_eq _ (by simp),J5b,hp,J6k _ _ (by rw [hf,List.length_append]; omega) (by simp),hf]
 rfl
theorem Jqx (x0:List Pr) (x1:Int) (x2:Int) (x3:List UInt8) (x4:Prf):J0o_1_step x0 x1 x2 x3 x4 =
  (fork (decide (x2 < x1)) (need (0≤x2∧x2 < (List.length x0:Int)) (andThen (J3w (List.getD x0 (Int.toNat x2) zPr)) (fun u16=>need (0≤x2∧x2 < (List.length x4.2.2.2.1:Int)) (andThen (J1r u16 (w64 (x4.2.1+x2)) x4.1 (List.getD x4.2.2.2.1 (Int.toNat x2) ([]:List (List UInt8)))) (fun u19=>fork (!u19.2) (some (.inr (.inl ()))) (andThen (J3u x4.1 u19.1) (fun u22=>fork (!(Ty.beq (.arr 32 (.int .u8)) u22 x3)) (some (.inr (.inl ()))) (some (.inl (w64 (x2+(1:Int)))))))))))) (some (.inr (.inr ()))):Option ((Int)⊕((Unit)⊕(Unit)))):=rfl
theorem Jvw {ρ:Type} (f:Nat→Bool) (r r0:ρ) (n:Nat):scan (fun i=>if f i then none else some r) r0 0 n=if (List.range n).all f then r0 else r:=by
 by_cases h:(List.range n).all f=true
 ·rw [if_pos h]
  exact J9r _ _ fun j _ hj=>if_pos (List.all_eq_true.1 h j (List.mem_range.2 (by omega)))
 ·rw [if_neg h]
  rw [Bool.not_eq_true,List.all_eq_false] at h
  obtain ⟨j,hj,hf⟩:=h
  obtain ⟨k,hk⟩:=Nat.find_of (p:=fun j=>j < n∧¬ f j=true) ⟨j,List.mem_range.1 hj,hf⟩
  refine J8w n 0 k (Nat.zero_le _) (by omega) (fun j' _ h=>if_pos ?_) (if_neg hk.1.2)
  exact Classical.byContradiction fun q=>hk.2 j' h ⟨by omega,q⟩
theorem Jy4 {p:Prf} (h:Jhw p) (i:Nat):(∀ x ∈ p.2.2.2.1.getD i [],x.length=32)∧(p.2.2.2.1.getD i []).length≤100000:=by
 by_cases c:i < p.2.2.2.1.length
 ·have:=h.1 _ (J6h (z:=[]) c)
  exact ⟨this.2,by omega⟩
 ·rw [List.getD_eq_getElem?_getD,List.getElem?_eq_none (by omega)]; simp
theorem Jch (root:List UInt8) (p:Prf) (h:Jhw p):J0o root p=some (J8f root p):=by
 have hn:=h.2.1
 unfold J0o J8f
 by_cases c1:p.1 < 0
 ·rw [J5f c1,decide_eq_false (fun q=>absurd q.1 (by omega))]; rfl
 rw [J5d c1]
 by_cases c2:30 < p.1
 ·rw [J5f c2,decide_eq_false (fun q=>absurd q.2.1 (by omega))]; rfl
 rw [J5d c2]
 by_cases c3:p.2.2.2.1.length=p.2.2.1.length
 case neg=>rw [J9c (by omega),decide_eq_false (fun q=>c3 q.2.2)]; rfl
 rw [J8b (by omega),Jfi _ (by omega),J5b,decide_eq_true (p:=0≤p.1∧p.1≤30∧p.2.2.2.1.length=p.2.2.1.length) ⟨by omega,by omega,c3⟩,Bool.true_and]
 cases c4:J88 p.2.2.1 with
 | false=>rfl
 | true=>
  obtain ⟨hk,hr⟩:=Jd4 c4
  have hl:=hk.1
  rw [Bool.not_true,J5o,Bool.true_and]
  by_cases c5:p.2.1 < 0
  ·rw [J5f c5,decide_eq_false (fun q=>absurd q.1 (by omega))]; rfl
  rw [J5d c5,J5g (by omega) (by omega)]
  by_cases c6:p.1 - (p.2.2.1.length:Int) < p.2.1
  ·rw [J5f c6,decide_eq_false (fun q=>absurd q.2 (by omega))]; rfl
  rw [J5d c6,decide_eq_true (p:=0≤p.2.1∧p.2.1≤p.1 - (p.2.2.1.length:Int)) ⟨by omega,by omega⟩,Bool.true_and]
  by_cases c7:p.1=0
  ·rw [J5f c7,if_pos c7,Jgf [] ⟨by simp,by simp⟩,J5b]
  rw [J5d c7,if_neg c7]
  by_cases c8:p.2.2.1.length=0
  ·rw [J5f (by omega),decide_eq_false (by omega)]; rfl
  rw [J5d (by omega),decide_eq_true (p:=0 < p.2.2.1.length) (by omega),Bool.true_and]
  have m:J0o_1 p.2.2.1 (p.2.2.1.length:Int) 0 root p=some (scan (fun i=>if J9e root p i then none else some (.inl ())) (.inr ()) 0 p.2.2.1.length):=by
   unfold J0o_1
   have step:∀ i,i < p.2.2.1.length→J0o_1_step p.2.2.1 (p.2.2.1.length:Int) (i:Int) root p=if J9e root p i then some (.inl ((i+1:Nat):Int)) else some (.inr (.inl ())):=by
    intro i hi
    obtain ⟨po1,po2⟩:=Jy4 h i
    have hlf:=hk.2 _ (J6h (z:=zPr) hi)
    have hlb:=Jkk hlf
    have hnum:p.1=((p.1.toNat:Nat):Int):=by omega
    have hw:J3u p.1 (upS (Jby (p.2.2.1.getD i zPr)) (p.2.1+(i:Int)) p.1 (p.2.2.2.1.getD i [])).1=some (Jjt p.1.toNat (upS (Jby (p.2.2.1.getD i zPr)) (p.2.1+(i:Int)) p.1 (p.2.2.2.1.getD i [])).1):=by
     have:=Jr0 p.1.toNat _ (upS_32 (Jby (p.2.2.1.getD i zPr)) (p.2.1+(i:Int)) p.1 (p.2.2.2.1.getD i []))
     rw [← hnum] at this; exact this
    rw [Jqx,J5f (by omega),J5c (by omega),Int.toNat_natCast,Jmh _ hlf,J5b,J5c (by omega),J5g (n:=p.2.1+(i:Int)) (by omega) (by omega),up_eq _ (by omega) _ _ (by omega) _ po1 po2,J5b,hw,J5b,J5g (by omega) (by omega)]
    unfold J9e Jep
    cases (upS (Jby (p.2.2.1.getD i zPr)) (p.2.1+(i:Int)) p.1 (p.2.2.2.1.getD i [])).2 with
    | false=>rfl
    | true=>
     rw [Bool.not_true,J5o,Bool.true_and]
     unfold hq
     cases Ty.beq (.arr 32 (.int .u8)) (Jjt p.1.toNat (upS (Jby (p.2.2.1.getD i zPr)) (p.2.1+(i:Int)) p.1 (p.2.2.2.1.getD i [])).1) root <;> rfl
   refine J7k (step:=fun (s:Int)=>J0o_1_step p.2.2.1 (p.2.2.1.length:Int) s root p) (fun i=>(i:Int)) _ _ p.2.2.1.length (fun i hi h=>?_) (fun i r hi h=>?_) ?_ p.2.2.1.length 0 (by omega)
   ·by_cases hk:J9e root p i
    ·exact (step i hi).trans (if_pos hk)
    ·rw [if_neg hk] at h; cases h
   ·by_cases hk:J9e root p i
    ·rw [if_pos hk] at h; cases h
    ·rw [if_neg hk] at h; injection h with h; subst h
     exact (step i hi).trans (if_neg hk)
   ·rw [Jqx,J5d (by omega)]
  rw [m,J5b,Jvw]
  cases (List.range p.2.2.1.length).all (J9e root p) <;> rfl
theorem Jon {root:List UInt8} {p:Prf} (h:J8f root p=true):KvOk p.2.2.1∧J6y p.2.2.1:=by
 unfold J8f at h
 rw [Bool.and_eq_true,Bool.and_eq_true] at h
 exact Jd4 h.2.1
theorem Jt7 {root:List UInt8} {p:Prf} (h:J8f root p=true):0≤p.1∧p.1≤30∧0≤p.2.1∧p.2.1≤p.1 - (p.2.2.1.length:Int)∧(p.2.2.1.length=0↔p.1=0):=by
 unfold J8f at h
 simp only [Bool.and_eq_true,decide_eq_true_eq] at h
 obtain ⟨⟨h1,h2,_⟩,_,⟨h3,h4⟩,h5⟩:=h
 refine ⟨h1,h2,h3,h4,fun e=>?_,fun e=>by omega⟩
 apply Classical.byContradiction
 intro c
 rw [if_neg c,Bool.and_eq_true,decide_eq_true_eq] at h5
 omega
def inR (a b:List UInt8) (p:Pr):Bool:=!J5q p.1 a && J5q p.1 b
def J9n (l:List Pr) (a b:List UInt8):List Pr:=l.filter (inR a b)
theorem Jv5 {l:List Pr} {a b:Nat} {q:Pr}:q ∈ cutL l (a:Int) (b:Int)↔∃ i,a≤i∧i < b∧i < l.length∧l.getD i zPr=q:=by
 unfold cutL
 rw [Int.toNat_natCast,Int.toNat_natCast]
 constructor
 ·intro h
  obtain ⟨i,h1,h2,h3⟩:=Je3 h
  rw [List.length_take] at h2
  rw [List.getD_eq_getElem?_getD,List.getElem?_take,if_pos (by omega),← List.getD_eq_getElem?_getD] at h3
  exact ⟨i,h1,by omega,by omega,h3⟩
 ·rintro ⟨i,h1,h2,h3,rfl⟩
  have e:(l.take b).drop a=(l.drop a).take (b - a):=by rw [List.drop_take]
  have hm:((l.take b).drop a).getD (i - a) zPr=l.getD i zPr:=by
   rw [List.getD_eq_getElem?_getD,List.getD_eq_getElem?_getD,List.getElem?_drop,List.getElem?_take,if_pos (by omega)]
   congr 2; omega
  rw [← hm]
  exact J6h (by rw [List.length_drop,List.length_take]; omega)
theorem Jhc (l:List Pr) (hr:J6y l) (hl:l.length≤1000) (a b:List UInt8):J36 l a b=some (J9n l a b):=by
 have h1:=below_le l a
 have h2:=below_le l b
 have e:cutL l ((J5i l a:Nat):Int) ((max (J5i l a) (J5i l b):Nat):Int)=J9n l a b:=by
  refine Jfj ?_ (hr.sublist List.filter_sublist) fun q=>?_
  ·unfold cutL
   exact (hr.sublist (List.take_sublist _ _)).sublist (List.drop_sublist _ _)
  ·rw [Jv5]
   unfold J9n inR
   rw [List.mem_filter,Bool.and_eq_true,Bool.not_eq_true']
   constructor
   ·rintro ⟨i,g1,g2,g3,rfl⟩
    refine ⟨J6h g3,?_,(J70 hr b g3).2 (by omega)⟩
    cases c:J5q (l.getD i zPr).1 a with
    | false=>rfl
    | true=>have:=(J70 hr a g3).1 c; omega
   ·rintro ⟨g1,g2,g3⟩
    obtain ⟨i,hi,rfl⟩:=List.getElem_of_mem g1
    have hg:l.getD i zPr=l[i]:=by rw [List.getD_eq_getElem?_getD,List.getElem?_eq_getElem hi]; rfl
    rw [← hg] at g2 g3
    have:=(J70 hr b hi).1 g3
    refine ⟨i,?_,by omega,hi,hg⟩
    apply Classical.byContradiction
    intro c
    rw [(J70 hr a hi).2 (by omega)] at g2; cases g2
 unfold J36
 rw [Jcs l hr hl,J5b,Jcs l hr hl,J5b,show max (J5i l a:Int) (J5i l b:Int)=((max (J5i l a) (J5i l b):Nat):Int) from by omega,J5c (by omega),e]
 unfold Jk
 have hle:(J9n l a b).length≤l.length:=List.length_filter_le _ _
 rw [J5c (by omega),J5b]
def Jhx (p:Prf) (a:List UInt8):Bool:=decide (p.2.1=0) || J5q (p.2.2.1.getD 0 zPr).1 a
def Jue (p:Prf) (m:List UInt8):Bool:=decide (p.2.1+(p.2.2.1.length:Int)=p.1) || !J5q (p.2.2.1.getD (p.2.2.1.length - 1) zPr).1 m
noncomputable def J8e (root a b:List UInt8) (p:Prf):List Pr×Bool:=
 if J8f root p then (if p.2.2.1.length=0 then ([],true) else if Jhx p a && Jue p (maxS a b) then (J9n p.2.2.1 a b,true) else ([],false)) else ([],false)
theorem Jcg (root a b:List UInt8) (p:Prf) (h:Jhw p):J3t root a b p=some (J8e root a b p):=by
 unfold J3t J8e
 rw [Jch root p h,J5b]
 cases hs:J8f root p with
 | false=>rfl
 | true=>
  obtain ⟨hk,hr⟩:=Jon hs
  have hl:=hk.1
  obtain ⟨n1,n2,n3,n4,n5⟩:=Jt7 hs
  rw [Bool.not_true,J5o,if_pos rfl,Jhc _ hr (by omega),J5b]
  by_cases c:p.2.2.1.length=0
  ·rw [J5f (by omega),if_pos c]
  rw [J5d (by omega),if_neg c,J5g (n:=p.2.1+_) (by omega) (by omega),J5g (by omega) (by omega),J5c (by omega),J5c (by omega),show Int.toNat ((p.2.2.1.length:Int) - 1)=p.2.2.1.length - 1 from by omega,show Int.toNat (0:Int)=0 from rfl]
  unfold Jhx Jue
  by_cases c1:p.2.1=0
  ·rw [J5f c1,decide_eq_true c1,Bool.true_or,Bool.true_and]
   by_cases c2:p.2.1+(p.2.2.1.length:Int)=p.1
   ·rw [J5f c2,decide_eq_true c2]; rfl
   ·rw [J5d c2,decide_eq_false c2,Bool.false_or]
    show fork (!(!J5q (p.2.2.1.getD (p.2.2.1.length - 1) zPr).1 (maxS a b))) _ _=_
    cases J5q (p.2.2.1.getD (p.2.2.1.length - 1) zPr).1 (maxS a b) <;> rfl
  ·rw [J5d c1,decide_eq_false c1,Bool.false_or]
   by_cases c2:p.2.1+(p.2.2.1.length:Int)=p.1
   ·rw [J5f c2,decide_eq_true c2,Bool.true_or,Bool.and_true]
    show fork (!J5q (p.2.2.1.getD 0 zPr).1 a) _ _=_
    cases J5q (p.2.2.1.getD 0 zPr).1 a <;> rfl
   ·rw [J5d c2,decide_eq_false c2,Bool.false_or,J5c (by omega)]
    show fork (!J5q (p.2.2.1.getD 0 zPr).1 a) _ (fork (!(!J5q (p.2.2.1.getD (p.2.2.1.length - 1) zPr).1 (maxS a b))) _ _)=_
    cases J5q (p.2.2.1.getD 0 zPr).1 a <;> cases J5q (p.2.2.1.getD (p.2.2.1.length - 1) zPr).1 (maxS a b) <;> rfl
theorem Jl5 {root a b:List UInt8} {p:Prf} (h:(J8e root a b p).2=true):J8f root p=true:=by
 unfold J8e at h
 cases hs:J8f root p with
 | true=>rfl
 | false=>rw [hs,if_neg (by simp)] at h; cases h
noncomputable def absS (root k:List UInt8) (p:Prf):Bool:=(J8e root k k p).2 && !isAt p.2.2.1 k
theorem Jgo (root k:List UInt8) (p:Prf) (h:Jhw p):J47 root k p=some (absS root k p):=by
 unfold J47 absS
 rw [Jcg root k k p h,J5b]
 cases hs:(J8e root k k p).2 with
 | false=>rfl
 | true=>
  obtain ⟨hk,hr⟩:=Jon (Jl5 hs)
  have hl:=hk.1
  rw [Bool.not_true,J5o,Jme _ hr (by omega),J5b,Bool.true_and]
  cases isAt p.2.2.1 k <;> rfl
noncomputable def Jno (root:List UInt8) (x:Pr) (p:Prf):Bool:=J8f root p && decide (p.2.2.1=[x])
theorem Ji0 (root:List UInt8) (x:Pr) (p:Prf) (h:Jhw p):J40 root x p=some (Jno root x p):=by
 have:=h.2.1
 unfold J40 Jno
 rw [Jch root p h,J5b]
 cases J8f root p with
 | false=>rfl
 | true=>rw [J7h,Jl2 _ _ (by omega),J5b,Bool.true_and]
theorem Jom (l:List Pr) (h:KvOk l) (F T:Nat) (hT:T≤1000):Jhw (J8j l F T):=by
 have hl:=h.1
 unfold J8j
 by_cases c:T≤F
 ·rw [if_pos c]; exact ⟨by simp,by simp,by simp⟩
 ·rw [if_neg c]
  obtain ⟨a,b⟩:=Jo5 l hl F (T - F)
  refine ⟨fun x hx=>⟨by have:=b x hx; omega,?_⟩,by show ((l.drop F).take (T - F)).length≤_; rw [List.length_take,List.length_drop]; omega,by show (J7t l F (T - F)).length≤_; omega⟩
  obtain ⟨j,_,rfl⟩:=List.mem_map.1 hx
  unfold Jaj
  split
  ·exact Jeo _ _ _
  ·simp
theorem Jz0 (l:List Pr) (hl:l.length≤60) (i:Nat) (hi:i < l.length):upS (Jby (l.getD i zPr)) (i:Int) (l.length:Int) (Jaj (J5u l) (i:Int))=(J8a (J5u l),true):=by
 have hg:(J5u l).getD i []=Jby (l.getD i zPr):=by
  unfold J5u
  rw [List.getD_eq_getElem?_getD,List.getD_eq_getElem?_getD,List.getElem?_map,List.getElem?_eq_getElem hi]; rfl
 have hp:=Jj1 l.length (J5u l) i (by rw [J69]; omega) (by rw [J69]; omega) (by rw [J69]; omega)
 have hs:=J8m l.length (J5u l) i (by rw [J69]; omega)
 rw [J69,hg] at hp
 rw [J69] at hs
 have e:Jaj (J5u l) (i:Int)=J9m l.length (J5u l) i:=by
  unfold Jaj
  rw [J69,if_pos (by omega),Int.toNat_natCast]
 unfold upS
 rw [e,if_pos ⟨(Jit _ _).2 (by omega),by rw [Int.toNat_natCast,Int.toNat_natCast]; exact hs⟩,Int.toNat_natCast,Int.toNat_natCast,hp]
theorem Jsx {l:List Pr} (h:Jtx l):J88 l=true:=by
 rw [J9p]
 refine ⟨h.1,fun p hp=>?_,by have:=h.2.1; omega⟩
 have:=Jwq _ (h.2.2.1 p hp)
 have h3:=h.2.2.2 p hp
 unfold mayP
 have hne:p.1≠[]:=fun e=>by rw [e] at this; simp at this
 simp only [Bool.and_eq_true,Bool.not_eq_true',decide_eq_true_eq,decide_eq_false_iff_not]
 exact ⟨hne,by omega,by omega⟩
theorem Jg5 {l m:List Pr} (h:J88 l=true) (hs:m.Sublist l):J88 m=true:=by
 obtain ⟨h1,h2,h3⟩:=(J9p l).1 h
 exact (J9p m).2 ⟨h1.sublist hs,fun p hp=>h2 p (hs.subset hp),Nat.le_trans hs.length_le h3⟩
theorem J8y (l:List Pr) {F T:Nat} (h:F < T):J8j l F T=((l.length:Int),(F:Int),(l.drop F).take (T - F),J7t l F (T - F),()):=by unfold J8j; rw [if_neg (by omega)]
theorem Jq4 (root:List UInt8) (l:List Pr) (h:J88 l=true) (F T:Nat) (hT:T≤l.length):J8f root (J8j l F T)=if l.length=0 then hq root (J89 []) else decide (F < T) && hq (J89 l) root:=by
 obtain ⟨hk,hr⟩:=Jd4 h
 have h30:=((J9p l).1 h).2.2
 by_cases c:F < T
 ·have e1:((l.drop F).take (T - F)).length=T - F:=by rw [List.length_take,List.length_drop]; omega
  obtain ⟨e2,e3⟩:=Jo5 l hk.1 F (T - F)
  have hat:∀ i,i < T - F→J9e root (J8j l F T) i=hq (J89 l) root:=fun i hi=>by
   have g1:((l.drop F).take (T - F)).getD i zPr=l.getD (F+i) zPr:=by
    rw [List.getD_eq_getElem?_getD,List.getD_eq_getElem?_getD,List.getElem?_take,if_pos hi,List.getElem?_drop]
   have g2:(J7t l F (T - F)).getD i []=Jaj (J5u l) ((F+i:Nat):Int):=by
    unfold J7t
    rw [List.getD_eq_getElem?_getD,List.getElem?_map,List.getElem?_range hi]; rfl
   have hu:=Jz0 l hk.1 (F+i) (by omega)
   unfold J9e Jep
   rw [J8y l c]
   dsimp only
   rw [g1,g2,show (F:Int)+(i:Int)=((F+i:Nat):Int) from by omega,hu,Int.toNat_natCast]
   rfl
  rw [if_neg (by omega),decide_eq_true c,Bool.true_and]
  have hall:(List.range (T - F)).all (J9e root (J8j l F T))=hq (J89 l) root:=by
   cases hv:hq (J89 l) root with
   | true=>exact List.all_eq_true.2 fun i hi=>by rw [hat i (List.mem_range.1 hi),hv]
   | false=>exact List.all_eq_false.2 ⟨0,List.mem_range.2 (by omega),by rw [hat 0 (by omega),hv]; simp⟩
  unfold J8f
  rw [J8y l c] at hall ⊢
  dsimp only at hall ⊢
  rw [e1,e2,hall,Jg5 h ((List.take_sublist _ _).trans (List.drop_sublist _ _)),decide_eq_true (p:=0≤(l.length:Int)∧(l.length:Int)≤30∧T - F=T - F) ⟨by omega,by omega,rfl⟩,decide_eq_true (p:=0≤(F:Int)∧(F:Int)≤(l.length:Int) - ((T - F:Nat):Int)) ⟨by omega,by omega⟩,if_neg (by omega),decide_eq_true (p:=0 < T - F) (by omega)]
  rfl
 ·have es:J8j l F T=((l.length:Int),0,[],[],()):=by unfold J8j; rw [if_pos (by omega)]
  have hn:J88 ([]:List Pr)=true:=rfl
  rw [decide_eq_false c,Bool.false_and]
  unfold J8f
  rw [es]
  dsimp only
  rw [hn,decide_eq_true (p:=0≤(l.length:Int)∧(l.length:Int)≤30∧([]:List (List (List UInt8))).length=([]:List Pr).length) ⟨by omega,by omega,rfl⟩,decide_eq_true (p:=0≤(0:Int)∧(0:Int)≤(l.length:Int) - (([]:List Pr).length:Int)) ⟨by omega,by simp⟩,Bool.true_and,Bool.true_and,Bool.true_and]
  by_cases c0:l.length=0
  ·rw [if_pos c0,if_pos (by omega)]
  ·rw [if_neg c0,if_neg (by omega)]; rfl
theorem Jq0 (l:List Pr) (h:J88 l=true) (F T:Nat) (hT:T≤l.length):J8f (J89 l) (J8j l F T)=(decide (l.length=0) || decide (F < T)):=by
 rw [Jq4 _ l h F T hT]
 by_cases c:l.length=0
 ·have:l=[]:=List.length_eq_zero_iff.1 c
  subst this
  rw [if_pos c,decide_eq_true c]
  exact (Jwk _ _).2 rfl
 ·rw [if_neg c,decide_eq_false c,Bool.false_or,(Jwk (J89 l) (J89 l)).2 rfl,Bool.and_true]
theorem Jbc (l:List Pr) (hr:J6y l) (a b:List UInt8) (F T:Nat) (hFT:F < T) (hT:T≤l.length) (h1:F=0∨F < J5i l a) (h2:T=l.length∨J5i l (maxS a b) < T):J9n ((l.drop F).take (T - F)) a b=J9n l a b:=by
 have hm:J5q b a=true∨J5i l b≤J5i l (maxS a b):=by
  unfold maxS
  cases c:J5q a b with
  | true=>exact .inr (Nat.le_refl _)
  | false=>
   rcases Jd8 a b c with e | e
   ·exact .inr (by rw [e]; exact Nat.le_refl _)
   ·exact .inl e
 refine Jfj (((hr.sublist (List.drop_sublist _ _)).sublist (List.take_sublist _ _)).sublist List.filter_sublist) (hr.sublist List.filter_sublist) fun q=>?_
 unfold J9n
 rw [List.mem_filter,List.mem_filter]
 refine ⟨fun h=>⟨List.mem_of_mem_drop (List.mem_of_mem_take h.1),h.2⟩,fun h=>⟨?_,h.2⟩⟩
 obtain ⟨g1,g2⟩:=h
 unfold inR at g2
 rw [Bool.and_eq_true,Bool.not_eq_true'] at g2
 obtain ⟨i,hi,rfl⟩:=List.getElem_of_mem g1
 have hg:l.getD i zPr=l[i]:=by rw [List.getD_eq_getElem?_getD,List.getElem?_eq_getElem hi]; rfl
 rw [← hg] at g2 ⊢
 have q1:=(J70 hr b hi).1 g2.2
 have q2:J5i l a≤i:=by
  apply Classical.byContradiction
  intro c
  rw [(J70 hr a hi).2 (by omega)] at g2; cases g2.1
 have q3:i < T:=by
  rcases hm with e | e
  ·have:=J6p _ _ _ g2.2 e
   rw [g2.1] at this; cases this
  ·omega
 have hm2:((l.drop F).take (T - F)).getD (i - F) zPr=l.getD i zPr:=by
  rw [List.getD_eq_getElem?_getD,List.getD_eq_getElem?_getD,List.getElem?_take,if_pos (by omega),List.getElem?_drop]
  congr 2; omega
 rw [← hm2]
 exact J6h (by rw [List.length_take,List.length_drop]; omega)
theorem Juf (l:List Pr) {F T:Nat} (hFT:F < T) (hT:T≤l.length):((l.drop F).take (T - F)).length=T - F∧((l.drop F).take (T - F)).getD 0 zPr=l.getD F zPr∧((l.drop F).take (T - F)).getD (T - F - 1) zPr=l.getD (T - 1) zPr:=by
 refine ⟨by rw [List.length_take,List.length_drop]; omega,?_,?_⟩
 ·rw [List.getD_eq_getElem?_getD,List.getD_eq_getElem?_getD,List.getElem?_take,if_pos (by omega),List.getElem?_drop]; rfl
 ·rw [List.getD_eq_getElem?_getD,List.getD_eq_getElem?_getD,List.getElem?_take,if_pos (by omega),List.getElem?_drop]
  congr 2; omega
theorem Jmv (l:List Pr) (h:J88 l=true) (a b:List UInt8) (F T:Nat) (hT:T≤l.length) :
  J8e (J89 l) a b (J8j l F T)=if l.length=0∨(F < T∧(F=0∨F < J5i l a)∧(T=l.length∨J5i l (maxS a b) < T)) then (J9n l a b,true) else ([],false):=by
 obtain ⟨hk,hr⟩:=Jd4 h
 unfold J8e
 rw [Jq0 l h F T hT]
 by_cases c0:l.length=0
 ·have e0:l=[]:=List.length_eq_zero_iff.1 c0
  have es:J8j l F T=((l.length:Int),0,[],[],()):=by unfold J8j; rw [if_pos (by omega)]
  rw [decide_eq_true c0,Bool.true_or,if_pos rfl,es,if_pos (by rfl),if_pos (.inl c0),e0]; rfl
 rw [decide_eq_false c0,Bool.false_or]
 by_cases c:F < T
 ·obtain ⟨e1,e2,e3⟩:=Juf l c hT
  rw [decide_eq_true c,if_pos rfl]
  have hb:Jhx (J8j l F T) a=decide (F=0∨F < J5i l a):=by
   unfold Jhx
   rw [J8y l c]
   dsimp only
   rw [e2,Bool.eq_iff_iff,Bool.or_eq_true,decide_eq_true_eq,decide_eq_true_eq,J70 hr a (by omega)]
   omega
  have he:Jue (J8j l F T) (maxS a b)=decide (T=l.length∨J5i l (maxS a b) < T):=by
   unfold Jue
   rw [J8y l c]
   dsimp only
   rw [e1,e3,Bool.eq_iff_iff,Bool.or_eq_true,decide_eq_true_eq,decide_eq_true_eq,Bool.not_eq_true',← Bool.not_eq_true,J70 hr _ (by omega)]
   omega
  rw [hb,he,J8y l c]
  dsimp only
  rw [e1,if_neg (by omega)]
  by_cases q:(F=0∨F < J5i l a)∧(T=l.length∨J5i l (maxS a b) < T)
  ·have hP:l.length=0∨(F < T∧(F=0∨F < J5i l a)∧(T=l.length∨J5i l (maxS a b) < T)):=.inr ⟨c,q⟩
   rw [decide_eq_true q.1,decide_eq_true q.2,Bool.true_and,if_pos rfl,if_pos hP,Jbc l hr a b F T c hT q.1 q.2]
  ·have hP:¬ (l.length=0∨(F < T∧(F=0∨F < J5i l a)∧(T=l.length∨J5i l (maxS a b) < T))):=fun e=>e.elim c0 (fun e=>q e.2)
   have hQ:¬ (decide (F=0∨F < J5i l a) && decide (T=l.length∨J5i l (maxS a b) < T))=true:=by
    rw [Bool.and_eq_true,decide_eq_true_eq,decide_eq_true_eq]; exact q
   rw [if_neg hP,if_neg hQ]
 ·have hP:¬ (l.length=0∨(F < T∧(F=0∨F < J5i l a)∧(T=l.length∨J5i l (maxS a b) < T))):=fun e=>e.elim c0 (fun e=>c e.1)
  rw [decide_eq_false c,if_neg (by simp),if_neg hP]
theorem Jvp:J3e []=some (0,0,false):=by
 unfold J3e
 rw [show J4w []=some ([],false,()) from rfl,J5b,number_eq,J5b,number_eq,J5b,doneS,J5b]
 rfl
theorem Jya:J3e [9,0]=some (9,0,true):=by
 unfold J3e
 rw [show J4w [9,0]=some ([9,0],false,()) from rfl,J5b,number_eq,J5b,number_eq,J5b,doneS,J5b]
 rfl
theorem Jgt:J09 [R1]=some (9,true):=by
 unfold J09 J09_1
 rw [J5v (s':=(9,1)) (by
  show J09_1_step 0 [R1] ((1:Nat):Int) 0=_
  unfold J09_1_step
  rw [show ([R1].getD (Int.toNat 0) (([]:List UInt8),([]:List UInt8),()))=R1 from rfl,show J4r R1.1=some true from rfl,show R1.2.1=[9,0] from rfl,Jya]
  rfl),J5r (r:=9) rfl]
 rfl
theorem Jod:J6y []:=by simp [J6y]
theorem Jj8:J6y [R1]:=by simp [J6y]
theorem Jub:J3c [] [97] 9=some ([R1],0):=by
 unfold J3c J3r
 rw [show J3j [97]=some [115,47,97] from rfl,J5b,show J2o 9=some true from rfl,J5b,Jme [] Jod (by simp),J5b]
 rw [show (if isAt ([]:List Pr) [115,47,97] then ((([]:List Pr).getD (J5i ([]:List Pr) [115,47,97]) zPr).2.1,true) else ([],false))=(([]:List UInt8),false) from rfl,Jvp,J5b]
 rw [show J35 0 0 9=some (9,0) from rfl]
 have e:J3k 9 0=some [9,0]:=by
  unfold J3k
  rw [put_eq _ (by simp)]
  rfl
 have e2:J4p [] ([115,47,97],[9,0],())=some ([R1],true):=(Jrx [] Jod (by simp) _).trans rfl
 show andThen (andThen (some (9,0)) (fun u15=>fork (!decide (u15.2=(0:Int))) none (andThen (J3k u15.1 0) (fun u18=>andThen (J4p [] ([115,47,97],u18,())) (fun u20=>fork (!u20.2) none (andThen (J09 u20.1) (fun u23=>fork (!u23.2) none (some (u20.1,(0:Int)))))))))) _=_
 rw [J5b]
 show andThen (andThen (J3k 9 0) _) _=_
 rw [e,J5b,e2,J5b]
 show andThen (andThen (J09 [R1]) _) _=_
 rw [Jgt]
 rfl
theorem hostDo:J23 (3,[97],[],9,0,()) () D1 K1 V1 ([],1,[[]],()) (B1 1)=some (0,([R1],1,[[]],())):=by
 unfold J23
 have e:J1v ([115,47,97],[9,0],()) ([],1,[[]],())=some (true,([R1],1,[[]],())):=by
  rw [Jw2 _ (by
   have:=Jdb Jtd
   exact this)]
  rfl
 rw [Jes _ (by simp),J5b]
 show andThen (J3c [] [97] 9) _=_
 rw [Jub,J5b,J5f (show ((([R1],(0:Int)):List Pr×Int).2=0) from rfl)]
 show andThen (J3j [97]) _=_
 rw [show J3j [97]=some [115,47,97] from rfl,J5b,Jme [R1] Jj8 (by simp),J5b,J5b]
 show andThen (J1v ([115,47,97],[9,0],()) ([],1,[[]],())) _=_
 rw [e]
 rfl
theorem Jke (l:List Pr) (hrt:J88 l=true) (a b:List UInt8):J8e (J89 l) a b (J8j l (J5i l a - 1) (min (J5i l (maxS a b)+1) l.length))=(J9n l a b,true):=by
 have h1:=below_le l a
 have h2:=below_le l (maxS a b)
 have h3:J5q (maxS a b) a=false:=by
  unfold maxS
  cases c:J5q a b with
  | true=>
   show J5q b a=false
   cases q:J5q b a with
   | false=>rfl
   | true=>have:=J6p _ _ _ c q; rw [J8x] at this; cases this
  | false=>exact J8x a
 have h4:=Jp1 l (maxS a b) a h3
 rw [Jmv l hrt _ _ _ _ (by omega),if_pos]
 by_cases c:l.length=0
 ·exact .inl c
 ·exact .inr ⟨by omega,by omega,by omega⟩
abbrev Rsp:=Int×Int×List Pr×Prf×Unit
abbrev Qry:=Int×List UInt8×List UInt8×Int×Int×Unit
def admR (r:Rsp):Bool:=decide (1≤r.2.1) && (decide (r.2.1≤16) && J88 r.2.2.1)
theorem Jeu (r:Rsp) (h:r.2.2.1.length≤1073741824):J3d r=some (admR r):=by
 unfold J3d admR
 rw [Jfi _ h]
 cases decide (1≤r.2.1) <;> cases decide (r.2.1≤16) <;> rfl
noncomputable def admS (q:Qry) (root:List UInt8) (r:Rsp):Int:=
 if admR r then
  if q.1=2 then (if (J8e root q.2.1 q.2.2.1 r.2.2.2.1).2 && decide ((J8e root q.2.1 q.2.2.1 r.2.2.2.1).1=r.2.2.1) then 0 else 2)
  else if r.2.2.1.length=0 then (if absS root q.2.1 r.2.2.2.1 then 0 else 2)
  else if r.2.2.1.length=1 then (if decide ((r.2.2.1.getD 0 zPr).1=q.2.1) && Jno root (r.2.2.1.getD 0 zPr) r.2.2.2.1 then 0 else 2)
  else 2
 else 1
theorem Jpw {root a b:List UInt8} {p:Prf} (h:Jhw p):(J8e root a b p).1.length≤1000000:=by
 have:=h.2.1
 unfold J8e
 split
 ·split
  ·simp
  ·split
   ·exact Nat.le_trans (List.length_filter_le _ _) this
   ·simp
 ·simp
theorem Jlr (q:Qry) (root:List UInt8) (r:Rsp) (h:Jhw r.2.2.2.1) (hl:r.2.2.1.length≤1073741824):J3z q root r=some (admS q root r):=by
 unfold J3z admS
 rw [Jeu r hl,J5b]
 cases admR r with
 | false=>rfl
 | true=>
  rw [Bool.not_true,J5o,if_pos rfl]
  by_cases c:q.1=2
  ·have hrl:=Jpw (root:=root) (a:=q.2.1) (b:=q.2.2.1) h
   rw [J5f c,if_pos c,Jcg _ _ _ _ h,J5b]
   cases (J8e root q.2.1 q.2.2.1 r.2.2.2.1).2 with
   | false=>rfl
   | true=>
    rw [Bool.not_true,J5o,Jl2 _ _ (by omega),J5b,Bool.true_and]
    cases decide ((J8e root q.2.1 q.2.2.1 r.2.2.2.1).1=r.2.2.1) <;> rfl
  ·rw [J5d c,if_neg c]
   by_cases c0:r.2.2.1.length=0
   ·rw [J5f (by omega),if_pos c0,Jgo _ _ _ h,J5b]
    cases absS root q.2.1 r.2.2.2.1 <;> rfl
   ·rw [J5d (by omega),if_neg c0]
    by_cases c1:r.2.2.1.length=1
    ·rw [J5f (by omega),if_pos c1,J5c (by omega)]
     show fork (decide ((r.2.2.1.getD 0 zPr).1=q.2.1)) (andThen (J40 root (r.2.2.1.getD 0 zPr) r.2.2.2.1) _) _=_
     rw [Ji0 _ _ _ h,J5b]
     cases decide ((r.2.2.1.getD 0 zPr).1=q.2.1) with
     | false=>rfl
     | true=>
      rw [J7h,Bool.true_and]
      cases Jno root (r.2.2.1.getD 0 zPr) r.2.2.2.1 <;> rfl
    ·rw [J5d (by omega),if_neg c1]
def endQ (q:Qry):List UInt8:=if q.1=1 then q.2.1 else q.2.2.1
noncomputable def ansS (id:Int) (q:Qry) (h:Int) (l:List Pr):Rsp:=
 if q.1=1∧isAt l q.2.1=true then (id,h,[l.getD (J5i l q.2.1) zPr],J8j l (J5i l q.2.1) (J5i l q.2.1+1),())
 else (id,h,J9n l q.2.1 (endQ q),J8j l (J5i l q.2.1 - 1) (min (J5i l (maxS q.2.1 (endQ q))+1) l.length),())
theorem ans_ok (id:Int) (q:Qry) (h:Int) (l:List Pr) (hrow:Jtx l):Jhw (ansS id q h l).2.2.2.1∧(ansS id q h l).2.2.1.length≤12∧J88 (ansS id q h l).2.2.1=true∧(ansS id q h l).1=id∧(ansS id q h l).2.1=h:=by
 have hk:=Jsw hrow
 have hl:=hrow.2.1
 have hrt:=Jsx hrow
 have hb:=below_le l q.2.1
 unfold ansS
 split
 ·rename_i c
  have:=(Jis c.2).1
  have hs:[l.getD (J5i l q.2.1) zPr].Sublist l:=List.singleton_sublist.2 (J6h this)
  exact ⟨Jom l hk _ _ (by omega),by simp,Jg5 hrt hs,rfl,rfl⟩
 ·exact ⟨Jom l hk _ _ (by omega),Nat.le_trans (List.length_filter_le _ _) hl,Jg5 hrt List.filter_sublist,rfl,rfl⟩
set_option maxRecDepth 100000 in
theorem Jyv (e:Qry×Int×Int×Unit):J29 [(1,e)]=some [1]:=by
 unfold J29
 rw [show J34 [(1,e)]=some [1] from rfl,J5b]
 have h1:J56 (UInt64.ofNat (Int.toNat (([(1:Int)].length:Int) % 18446744073709551616)))=some 1:=by rfl
 have h2:Jp [1] 0 ([(1:Int)].length:Int) 1=some ():=by
  unfold Jp Jp_1
  rw [J5r (r:=()) (by
   show Jp_1_step [1] 0 ([(1:Int)].length:Int) 1 true true=_
   unfold Jp_1_step
   rw [J5f (by decide)]
   unfold Jn Jn_1
   rw [J5r (r:=()) rfl]
   rfl)]
  rfl
 unfold J37
 rw [h1,J5b,h2]
 rfl
theorem tick (n:Int) (hn:n=0∨n=1) (d:Int) (hd:d=n+1):J9 (1,n,0,()) [(1,(Q1,d,0,()))]=some ((1,d,0,()),[(1,(Q1,d+1,d+3,()))],[1]):=by
 subst hd
 have e1:J9_1 1 0 (1,n+1,0,()) [(1,(Q1,n+1,0,()))] [1]=some ((1,n+1,0,()),[(1,(Q1,n+1,0,()))],[1]):=by
  unfold J9_1
  rw [J5v (s':=1) rfl,J5r rfl]
 have e2:J9_2 1 0 (1,n+1,0,()) [(1,(Q1,n+1,0,()))] [] [1]=some ((1,n+1,0,()),[(1,(Q1,n+1+1,n+1+3,()))],[1]):=by
  unfold J9_2
  rw [J5v (s':=(1,[(1,(Q1,n+1+1,n+1+3,()))],[1])) (by rcases hn with rfl | rfl <;> rfl),J5r rfl]
 unfold J9
 rw [show J1u [(1,(Q1,n+1,0,()))]=some () from rfl,J5b,Jyv,J5b]
 have e3:w64 (n+1)=n+1:=J5g (by omega) (by omega)
 show andThen (J9_1 1 0 (1,w64 (n+1),0,()) [(1,(Q1,n+1,0,()))] [1]) _=_
 rw [e3,e1,J5b]
 show andThen (J9_2 1 0 (1,n+1,0,()) [(1,(Q1,n+1,0,()))] [] [1]) _=_
 rw [e2]
 rfl
theorem Jsl:J1s ([],())=some ((0,0,[],()),false,([],())):=rfl
abbrev Cal:=Int×Int×List Pr×Unit
def C1 (h:Int):Cal:=(1,h,[R1],())
theorem Jy5 (c:Cal):J1s ([c],())=some (c,true,([],())):=rfl
theorem blk0 (c:Cli):Jc () c (1,0,0,()) [(1,(Q1,1,0,()))] () [] ([],()) (0,0,[],false,()) 0 0 0 false () [] =
  some ((),c,(1,1,0,()),[(1,(Q1,2,4,()))],(),[],([],()),(0,0,[],false,()),0,0,0,false,(),[],[1]):=by
 unfold Jc
 rw [Jsl,J5b]
 have e:Jc_1 false () c (1,0,0,()) [(1,(Q1,1,0,()))] () [] ([],()) (0,0,[],false,()) 0 0 0 false () [] (0,0,[],()) =
   some ((),c,(1,0,0,()),[(1,(Q1,1,0,()))],(),[],([],()),(0,0,[],false,()),0,0,0,false,(),[]):=by
  unfold Jc_1
  exact J5r rfl
 rw [e,J5b]
 show andThen (J9 (1,0,0,()) [(1,(Q1,1,0,()))]) _=_
 rw [tick 0 (.inl rfl) 1 rfl]
 rfl
theorem take1 (h:Int) (h1:1≤h):J25 (C1 h) (0,0,[],false,())=some (0,h,9,(false,()),[R1]):=by
 unfold J25
 have e1:J0y [R1]=some true:=(Jfi _ (by simp)).trans rfl
 have e2:J0g [R1]=some false:=by
  unfold J0g Jj Jj_1
  rw [J5v (s':=1) rfl,J5r (r:=.inr ()) rfl]
  rfl
 show andThen (J0y [R1]) _=_
 rw [e1,J5b]
 show andThen (J0g [R1]) _=_
 rw [e2,J5b]
 show fork (decide (h < max 0 1)) _ _=_
 rw [J5d (by omega)]
 show andThen (J09 [R1]) _=_
 rw [Jgt]
 rfl
theorem blk1 (c:Cli) (e:List (Int×(Cal×Int×Unit))) (h:Int) (h1:1≤h):Jc () c (1,1,0,()) [(1,(Q1,2,0,()))] () e ([C1 h],()) (0,0,[],false,()) 0 0 0 false () [] =
  some ((),c,(1,2,0,()),[(1,(Q1,3,5,()))],(),e,([],()),(h,9,[R1],false,()),9,0,0,false,(),[],[1]):=by
 unfold Jc
 rw [Jy5,J5b]
 have e1:J1m (C1 h) () c (1,1,0,()) [(1,(Q1,2,0,()))] () e ([],()) (0,0,[],false,()) 0 0 0 false () []=some (h,9,(false,()),9,false,[R1]):=by
  unfold J1m
  rw [take1 h h1]
  rfl
 have e2:Jc_1 true () c (1,1,0,()) [(1,(Q1,2,0,()))] () e ([],()) (0,0,[],false,()) 0 0 0 false () [] (C1 h) =
   some ((),c,(1,1,0,()),[(1,(Q1,2,0,()))],(),e,([],()),(h,9,[R1],false,()),9,0,0,false,(),[]):=by
  unfold Jc_1
  rw [J5v (s':=(false,([],()),(h,9,[R1],false,()),9,false,(0,0,[],()))) (by
   show Jc_1_step true () c (1,1,0,()) [(1,(Q1,2,0,()))] () e ([],()) (0,0,[],false,()) 0 0 0 false () [] (C1 h)=_
   unfold Jc_1_step
   rw [e1,Jsl]
   rfl)]
  exact J5r rfl
 rw [e2,J5b]
 show andThen (J9 (1,1,0,()) [(1,(Q1,2,0,()))]) _=_
 rw [tick 1 (.inr rfl) 2 rfl]
 rfl
theorem Jjb (x0:Int) (x1:List Hdr) (x2:Int) (x3:Int) (x4:(List Hdr)×(List Val)×Int×Bool×Unit) (x5:List UInt8):Js_1_step x0 x1 x2 x3 x4 x5 =
  (fork (decide (x3 < x2)) (need (0≤x3∧x3 < (List.length x1:Int)) (fork (decide ((List.getD x1 (Int.toNat x3) zHdr).1=x0)) (some (.inr (.inl (true,x4,(List.getD x1 (Int.toNat x3) zHdr).2.2.1)))) (some (.inl (w64 (x3+(1:Int))))))) (some (.inr (.inr (x4,x5)))):Option ((Int)⊕((Bool×((List Hdr)×(List Val)×Int×Bool×Unit)×List UInt8)⊕(((List Hdr)×(List Val)×Int×Bool×Unit)×List UInt8)))):=rfl
theorem Jq1 (x:Int) (l:List Hdr) (h:Hdr) (y:List Val×Int×Bool×Unit) (hl:l.length≤1000) (hh:h.1=x) (hne:∀ z ∈ l,z.1≠x):Js x (l++[h],y)=some (h.2.2.1,true,(l++[h],y)):=by
 have hlen:(l++[h]).length=l.length+1:=by rw [List.length_append]; rfl
 have m:Js_1 x (l++[h]) ((l++[h]).length:Int) 0 (l++[h],y) (List.replicate 32 0)=some (scan (fun i=>if ((l++[h]).getD i zHdr).1=x then some (.inl (true,(l++[h],y),((l++[h]).getD i zHdr).2.2.1)) else none) (.inr ((l++[h],y),List.replicate 32 0)) 0 (l++[h]).length):=by
  unfold Js_1
  refine J7k (step:=fun (s:Int)=>Js_1_step x (l++[h]) ((l++[h]).length:Int) s (l++[h],y) (List.replicate 32 0)) (fun i=>(i:Int)) _ _ (l++[h]).length (fun i hi q=>?_) (fun i r hi q=>?_) ?_ (l++[h]).length 0 (by omega)
  ·rw [Jjb,J5f (by omega),J5c (by omega),Int.toNat_natCast,J5g (by omega) (by omega)]
   by_cases e:((l++[h]).getD i zHdr).1=x
   ·rw [if_pos e] at q; cases q
   ·rw [J5d e]; rfl
  ·rw [Jjb,J5f (by omega),J5c (by omega),Int.toNat_natCast]
   by_cases e:((l++[h]).getD i zHdr).1=x
   ·rw [if_pos e] at q; injection q with q; subst q; rw [J5f e]
   ·rw [if_neg e] at q; cases q
  ·rw [Jjb,J5d (by omega)]
 have g:(l++[h]).getD l.length zHdr=h:=by
  rw [List.getD_eq_getElem?_getD,List.getElem?_append_right (by omega)]; simp
 unfold Js
 dsimp only
 rw [m,J5b,J8w (bad:=fun i=>if ((l++[h]).getD i zHdr).1=x then some (Sum.inl (true,(l++[h],y),((l++[h]).getD i zHdr).2.2.1)) else none) (l++[h]).length 0 l.length (Nat.zero_le _) (by omega) (fun j _ hj=>if_neg (by
  rw [List.getD_eq_getElem?_getD,List.getElem?_append_left hj,List.getElem?_eq_getElem hj]
  exact hne _ (List.getElem_mem _))) (if_pos (by rw [g]; exact hh)),g]
theorem G1_sg (j:Nat):G1 j=sgB 1 r1 (fun _=>pq1) f1 j (fun _=>true):=Jxn 1 r1 (fun _=>pq1) f1 j
theorem upd1 (i:Nat) (hi:i < 14) (now:Int) (hn:now=(i:Int)+2) (l:List Hdr) (hl:1≤l.length∧l.length≤5) (hk:lastH (l,V1,50,false,())=H1 i) :
  J1h (G1 (i+1)) now (l,V1,50,false,())=some (0,(l++[H1 (i+1)],V1,50,false,())):=by
 have hc:Knows (J5t pq1 1) 50 (hG 1 r1 (fun k=>J5t ((fun _=>pq1) k) 1) f1 i) (l,V1,50,false,()):=⟨hl.1,by show l.length≤1000; omega,hk,rfl,rfl,rfl⟩
 rw [G1_sg,upd_eq _ _ _ (sgB_ok (by omega) (fun _=>pq1) f1 (by omega) (Jww _) _) (Jwg (P:=fun _=>pq1) (m:=16) (by omega) (fun _=>Jhl) (by omega) Jig (by omega) hc) (by omega)]
 rw [Jz1 (P:=fun _=>pq1) (m:=16) (by omega) (by omega) (fun _=>Jhl) (by omega) Jig (by omega) (by omega) hc now (fun _=>true) (by unfold f1; omega) (by unfold f1; omega)]
 have h1:=Jy8 (p:=pB (fun _=>pq1) (i+1)) (pB_ok (fun _=>Jhl) _) _ (Jvk (n:=1) (by omega))
 rw [Jil,if_neg (by omega),if_neg (by omega)]
 unfold cut6
 rw [if_neg (by rw [List.length_append]; simp; omega)]
 rfl
theorem Jsu:Jtx [R1]:=⟨Jj8,by decide,by decide,by decide⟩
theorem Jvi:J9n [R1] [115,47] [115,48]=[R1]:=rfl
theorem ans1 (h:Int):ansS 1 Q1 h [R1]=(1,h,[R1],J8j [R1] (J5i [R1] [115,47] - 1) (min (J5i [R1] (maxS [115,47] [115,48])+1) [R1].length),()):=by
 unfold ansS
 rw [if_neg (by decide)]
 rfl
theorem Jx6 (h:Int):J4s 1 Q1 h [R1]=some (ansS 1 Q1 h [R1]):=by
 unfold J4s
 rw [J5f (show Q1.1=2 from rfl),Jhc _ Jj8 (by simp),J5b,Jvj _ (Jsw Jsu) Jj8,J5b,ans1]
 rfl
theorem adm1 (h:Int) (h1:1≤h∧h≤16):J3d (ansS 1 Q1 h [R1])=some true∧J3z Q1 (J89 [R1]) (ansS 1 Q1 h [R1])=some 0:=by
 obtain ⟨a,b,c,d,e⟩:=ans_ok 1 Q1 h [R1] Jsu
 have hr:admR (ansS 1 Q1 h [R1])=true:=by
  unfold admR
  rw [e,c,decide_eq_true h1.1,decide_eq_true h1.2]; rfl
 refine ⟨by rw [Jeu _ (by omega),hr],?_⟩
 rw [Jlr _ _ _ a (by omega)]
 unfold admS
 rw [if_pos hr,if_pos (show Q1.1=2 from rfl),ans1]
 rw [show J8e (J89 [R1]) Q1.2.1 Q1.2.2.1 (J8j [R1] (J5i [R1] [115,47] - 1) (min (J5i [R1] (maxS [115,47] [115,48])+1) [R1].length))=(J9n [R1] [115,47] [115,48],true) from Jke [R1] (by decide) _ _,Jvi]
 rw [if_pos (by simp)]
theorem Jp6:J0b []=some []:=by
 unfold J0b J0b_1
 rw [show J27 []=some [] from rfl,J5b,J5r (r:=[]) rfl]
 rfl
theorem Jgw (h:Int):J0b [C1 h]=some [C1 h]:=by
 unfold J0b J0b_1
 rw [show J27 [C1 h]=some [C1 h] from rfl,J5b,J5v (s':=(1,[C1 h])) rfl,J5r (r:=[C1 h]) rfl]
 rfl
theorem push1 (h:Int):J2g [C1 h] ([],())=some (1,(),[C1 h]):=by
 unfold J2g
 rw [show J1k ([],())=some 8 from rfl,J5b,show (([],()):List Cal×Unit).1=[] from rfl,Jp6,J5b]
 show need _ (andThen (J0b [C1 h]) _)=_
 rw [J5c (by show (0:Int)≤0∧(0:Int)≤min ((1:Nat):Int) 8∧min ((1:Nat):Int) 8≤((1:Nat):Int); omega),Jgw]
 rfl
theorem Jvq (h b d u p:Int) (hh:2≤h∧h≤16) (hu:u=4∨u=5) (l:List Hdr) (x:Hdr) (hl:l.length≤100) (hx:x.1=h) (hr:x.2.2.1=J89 [R1]) (hne:∀ z ∈ l,z.1≠h) (now:Int) (hexp:J0j now (l++[x],V1,50,false,())=some false)
  (e e':List (Int×(Cal×Int×Unit))) (hlast:J2f 1 () e=some p) (hp:p < h) (hput:J2q (C1 h) b () e=some (0,e')) (m:Tced6) (x10 x11 x12:Int) (x13:Bool) (x15:List (List UInt8×Int)) :
  J1f (ansS 1 Q1 h [R1]) now () (l++[x],V1,50,false,()) (1,b,0,()) [(1,(Q1,d,u,()))] () e ([],()) m x10 x11 x12 x13 () x15=some (0,(l++[x],V1,50,false,()),[(1,(Q1,d,0,()))],e',(),[C1 h]):=by
 obtain ⟨a1,a2⟩:=adm1 h (by omega)
 have e1:(ansS 1 Q1 h [R1]).1=1:=by rw [ans1]
 have e2:(ansS 1 Q1 h [R1]).2.1=h:=by rw [ans1]
 have e3:(ansS 1 Q1 h [R1]).2.2.1=[R1]:=by rw [ans1]
 unfold J1f
 rw [a1,J5b,show (!true)=false from rfl,J5o,e1,e2,e3]
 rw [show J0p 1 (1,b,0,()) [(1,(Q1,d,u,()))]=some true from by rcases hu with rfl | rfl <;> rfl,J5b,show (!true)=false from rfl,J5o]
 rw [show J2m (l++[x],V1,50,false,())=some false from rfl,J5b,J5o,hexp,J5b,J5o,hlast,J5b,J5d (by omega)]
 rw [Jq1 h l x (V1,50,false,()) (by omega) hx hne,J5b,show (!(x.2.2.1,true,(l++[x],V1,(50:Int),false,())).2.1)=false from rfl,J5o]
 rw [show J1k ([],())=some 8 from rfl,J5b,J5d (by decide)]
 rw [show J18 1 (1,b,0,()) [(1,(Q1,d,u,()))]=some (Q1,true) from rfl,J5b,show (x.2.2.1,true,(l++[x],V1,(50:Int),false,())).1=x.2.2.1 from rfl,hr,a2,J5b]
 rw [show (!decide ((0:Int)=0))=false from rfl,J5o,show J2e (1,b,0,()) [(1,(Q1,d,u,()))]=some b from rfl,J5b]
 rw [show ((1,h,[R1],()):Cal)=C1 h from rfl,hput,J5b,show (!decide (((0:Int),e').1=0))=false from rfl,J5o,push1,J5b]
 rw [show J2n 1 (1,b,0,()) [(1,(Q1,d,u,()))]=some (true,[(1,(Q1,d,0,()))]) from by rcases hu with rfl | rfl <;> rfl]
 rfl
abbrev zTx:Int×List UInt8×List UInt8×Int×Int×Unit:=(0,[],[],0,0,())
abbrev Res:=Int×Int×List Int×List Int×Cal×Unit
def zR (a b:Int) (l:List Int):Res:=(a,b,[],l,(0,0,[],()),())
theorem do3 (t:Int) (now q:Int) (D:List (List UInt8)) (K:List (List (List UInt8))) (V:List Val) (s:Stt) (B:List Block) (c:Cli) (r:Int×Int×Int×Unit) (e:List (Int×(Qry×Int×Int×Unit))) (ca:List (Int×(Cal×Int×Unit))) (cq:List Cal×Unit) (m:Tced6) (x y z:Int) (hb:Bool) (us:List (List UInt8×Int)) (ac:List Cal) (h1:now≤t) (h2:t≤1073741824):Jz (3,t,0,[],zTx,zTx,[],()) now q () () D K V s B () c r e () ca cq m x y z hb () us ac=some (zR 0 0 [],t,q,(),(),D,K,V,s,(),c,r,e,(),ca,cq,m,x,y,z,hb,(),us,B,ac):=by
 unfold Jz
 rw [J5d (show ¬ (3:Int)=1 by decide),J5d (show ¬ (3:Int)=2 by decide),J5f (show (3:Int)=3 from rfl)]
 unfold J2v
 rw [J5d (show ¬ t < now by omega),J5d (show ¬ 1073741824 < t by omega)]
 rfl
theorem do2 (k:Nat) (hk:1≤k∧k < 16) (now q:Int) (s:Stt) (c:Cli) (r:Int×Int×Int×Unit) (e:List (Int×(Qry×Int×Int×Unit))) (ca:List (Int×(Cal×Int×Unit))) (cq:List Cal×Unit) (m:Tced6) (x y z:Int) (hb:Bool) (us:List (List UInt8×Int)) (ac:List Cal) (hs:StOk s) (hkv:KvOk s.1) (hc:(J8q s).1≠0) (hr:r1 k=J89 s.1):Jz (2,f1 k,0,[],zTx,zTx,[],()) now q () () D1 K1 V1 s (B1 k) () c r e () ca cq m x y z hb () us ac=some (zR 0 (J8q s).1 [],now,q,(),(),D1,K1,V1,(J8q s).2,(),c,r,e,(),ca,cq,m,x,y,z,hb,(),us,B1 (k+1),ac):=by
 unfold Jz
 rw [J5d (show ¬ (2:Int)=1 by decide),J5f (show (2:Int)=2 from rfl)]
 show andThen (Jb (f1 k) () D1 K1 V1 s (blG 1 r1 (fun _=>V1) f1 k)) _=_
 rw [Jxf r1 f1 k hk s hs hkv (fun j _=>Jww j) hr (fun j hj=>by unfold f1; omega) (by unfold f1; omega),J5b,J5d hc]
 rfl
theorem do5 (now q:Int) (D:List (List UInt8)) (K:List (List (List UInt8))) (V:List Val) (s:Stt) (B:List Block) (c:Cli) (r:Int×Int×Int×Unit) (e:List (Int×(Qry×Int×Int×Unit))) (ca:List (Int×(Cal×Int×Unit))) (cq:List Cal×Unit) (m:Tced6) (x y z:Int) (hb:Bool) (us:List (List UInt8×Int)) (ac:List Cal) (c':Cli) (r':Int×Int×Int×Unit) (e':List (Int×(Qry×Int×Int×Unit))) (ca':List (Int×(Cal×Int×Unit))) (cq':List Cal×Unit) (m':Tced6) (x' y' z':Int) (hb':Bool) (us':List (List UInt8×Int)) (l:List Int)
  (h:Jc () c r e () ca cq m x y z hb () us=some ((),c',r',e',(),ca',cq',m',x',y',z',hb',(),us',l)):Jz (5,0,0,[],zTx,zTx,[],()) now q () () D K V s B () c r e () ca cq m x y z hb () us ac=some (zR 0 0 l,now,q,(),(),D,K,V,s,(),c',r',e',(),ca',cq',m',x',y',z',hb',(),us',B,ac):=by
 unfold Jz
 rw [J5d (show ¬ (5:Int)=1 by decide),J5d (show ¬ (5:Int)=2 by decide),J5d (show ¬ (5:Int)=3 by decide),J5d (show ¬ (5:Int)=4 by decide),J5f (show (5:Int)=5 from rfl),h]
 rfl
theorem cloneP (h:Int):Jk (ansS 1 Q1 h [R1]).2.2.1=some [R1]:=by rw [ans1]; rfl
theorem Jwx (k:Nat) (hk:k≤1) (st:Stt) (hs:StOk st) (hat:atS st ((k:Int)+2)=([R1],true)) (l:List Hdr) (hl:1≤l.length∧l.length≤4) (hla:lastH (l,V1,50,false,())=H1 k) (hne:∀ z ∈ l,z.1≠(k:Int)+2)
  (d u p:Int) (hu:u=4∨u=5) (e e':List (Int×(Cal×Int×Unit))) (b:Int) (hlast:J2f 1 () e=some p) (hp:p < (k:Int)+2) (hput:J2q (C1 ((k:Int)+2)) b () e=some (0,e'))
  (m:Tced6) (x y z:Int) (hb:Bool) (us:List (List UInt8×Int)) (ac:List Cal) (hac:ac.length≤10) :
  Jq ((k:Int)+2) 1 () () D1 K1 V1 st (B1 (k+2)) () (l,V1,50,false,()) (1,b,0,()) [(1,(Q1,d,u,()))] () e ([],()) m x y z hb () us ac =
   some (zR 0 1 [],(k:Int)+2,1,(),(),D1,K1,V1,st,B1 (k+2),(),(l++[H1 (k+1)],V1,50,false,()),(1,b,0,()),[(1,(Q1,d,0,()))],(),e',([C1 ((k:Int)+2)],()),m,x,y,z,hb,(),us,ac++[C1 ((k:Int)+2)]):=by
 have hlen:((B1 (k+2)).length:Int)=(k:Int)+2:=by rw [J8p]; omega
 have hr:r1 (k+1)=J89 [R1]:=by unfold r1; rw [if_neg (by omega)]
 have hx:(H1 (k+1)).1=(k:Int)+2:=by rw [hG_1]; omega
 have hx2:(H1 (k+1)).2.2.1=J89 [R1]:=by rw [Jxq,hr]
 have hexp:J0j ((k:Int)+2) (l++[H1 (k+1)],V1,50,false,())=some false:=by
  have hc:Knows (J5t pq1 1) 50 (hG 1 r1 (fun k=>J5t ((fun _=>pq1) k) 1) f1 (k+1)) (l++[H1 (k+1)],V1,50,false,()):=⟨by rw [List.length_append]; simp,by rw [List.length_append]; simp; omega,Jhd _ _ _,rfl,rfl,rfl⟩
  rw [Jh5 _ _ (Jwg (P:=fun _=>pq1) (m:=16) (by omega) (fun _=>Jhl) (by omega) Jig (by omega) hc) (by omega),Jhd,hG_t]
  rw [decide_eq_false (show ¬ (50:Int) < (k:Int)+2 - f1 (k+1) by unfold f1; omega)]
 have hresp:=Jvq ((k:Int)+2) b d u p (by omega) hu l (H1 (k+1)) (by omega) hx hx2 hne ((k:Int)+2) hexp e e' hlast hp hput m x y z hb us
 have hans:J1c 1 ((k:Int)+2) ((k:Int)+2) 1 () () D1 K1 V1 st (B1 (k+2)) () (l++[H1 (k+1)],V1,50,false,()) (1,b,0,()) [(1,(Q1,d,u,()))] () e ([],()) m x y z hb () us ac =
   some (0,(l++[H1 (k+1)],V1,50,false,()),[(1,(Q1,d,0,()))],e',(),[C1 ((k:Int)+2)],ac++[C1 ((k:Int)+2)]):=by
  unfold J1c
  rw [show J0a () (l++[H1 (k+1)],V1,50,false,()) (1,b,0,()) [(1,(Q1,d,u,()))] () e ([],()) m x y z hb () us=some () from rfl,J5b]
  rw [show J18 1 (1,b,0,()) [(1,(Q1,d,u,()))]=some (Q1,true) from rfl,J5b]
  unfold J3i
  rw [Jyw _ hs,J5b,hat,J5b,show (!(Q1,true).2)=false from rfl,J5o,J5o]
  rw [Jx6,J5b]
  unfold J2p
  rw [hresp,J5b,J5f rfl,cloneP,J5b]
  rw [show (ansS 1 Q1 ((k:Int)+2) [R1]).1=1 from by rw [ans1],show (ansS 1 Q1 ((k:Int)+2) [R1]).2.1=(k:Int)+2 from by rw [ans1],J5c (by simp; omega)]
  rfl
 unfold Jq
 rw [show J1d () D1 K1 V1 st (B1 (k+2))=some ((k:Int)+2) from by unfold J1d; rw [hlen],J5b]
 unfold J17 J1e
 rw [Jey l (by omega),J5b,Jdj,J5b,J5b,J5b]
 have hlat:J0v (50,false,()) l V1=some (H1 k):=by
  unfold J0v
  rw [J5g (by omega) (by omega),J5c (by omega),show ((l.length:Int) - 1).toNat=l.length - 1 from by omega]
  exact congrArg some hla
 rw [show J0v _ _ _=_ from hlat,J5b,hG_1,J5f (by omega)]
 have hrel:J2a ((k:Int)+2) ((k:Int)+2) 1 () () D1 K1 V1 st (B1 (k+2)) () (l,V1,50,false,()) (1,b,0,()) [(1,(Q1,d,u,()))] () e ([],()) m x y z hb () us ac=some (0,(l++[H1 (k+1)],V1,50,false,())):=by
  unfold J2a
  rw [show J0l ((k:Int)+2) () D1 K1 V1 st (B1 (k+2))=some (G1 (k+1),true) from by
   rw [show ((k:Int)+2)=(((k+1:Nat):Int)+1) from by omega]; exact Jnf (k+2) (k+1) (by omega) (by omega) st,J5b]
  rw [show (!(G1 (k+1),true).2)=false from rfl,J5o]
  unfold J11
  rw [upd1 k (by omega) _ rfl l (by omega) hla]
  rfl
 rw [hrel,J5b]
 unfold Jq_1
 rw [J5v (s':=(2,(l++[H1 (k+1)],V1,50,false,()),[(1,(Q1,d,0,()))],e',([C1 ((k:Int)+2)],()),ac++[C1 ((k:Int)+2)],1)) (by
  show Jq_1_step _ _ _ _ _ _ _ _ _ _ _ _ _ _ _ _ _ _ _ _ _ _ _ _ _ _ _ _ _ _ _ _ _ _ _ _ _ _=_
  unfold Jq_1_step
  rw [J5f (show (1:Int)≤1 by omega)]
  dsimp only
  rw [show J0a () (l++[H1 (k+1)],V1,50,false,()) (1,b,0,()) [(1,(Q1,d,u,()))] () e ([],()) m x y z hb () us=some () from rfl,J5b]
  rw [show J0p 1 (1,b,0,()) [(1,(Q1,d,u,()))]=some true from by rcases hu with rfl | rfl <;> rfl,J5b,show (!true)=false from rfl,J5o,hans]
  rfl),J5r rfl]
 rfl
def st0:Stt:=([R1],1,[[]],())
def stA:Stt:=([R1],2,[[],[R1]],())
def stB:Stt:=([R1],3,[[],[R1],[R1]],())
theorem Jwy:StOk st0:=by
 have h:=st_set (Jdb Jtd) ([115,47,97],[9,0],())
 exact h
theorem c0:J8q st0=(2,stA):=rfl
theorem cA:J8q stA=(3,stB):=rfl
theorem Jtc:StOk stA:=Jdb Jwy
theorem stB_ok:StOk stB:=Jdb Jtc
theorem kv_R1:KvOk [R1]:=Jsw Jsu
abbrev zM:Tced6:=(0,0,[],false,())
theorem Hne (k j:Nat) (h:k≠j):(H1 k).1≠(j:Int)+1:=by rw [hG_1]; omega
theorem round0:Jw_1_step 1 0 2 0 1 1 () () D1 K1 V1 st0 () ([H1 0],V1,50,false,()) (1,0,0,()) [(1,(Q1,1,0,()))] () [] ([],()) zM 0 0 0 false () [] (B1 1) [] =
  some (.inl (1,1,2,1,(),(),D1,K1,V1,stA,(),([H1 0,H1 1],V1,50,false,()),(1,1,0,()),[(1,(Q1,2,0,()))],(),[(1,(C1 2,1,()))],([C1 2],()),zM,0,0,0,false,(),[],B1 2,[C1 2])):=by
 have h3:=do3 2 1 1 D1 K1 V1 st0 (B1 1) ([H1 0],V1,50,false,()) (1,0,0,()) [(1,(Q1,1,0,()))] [] ([],()) zM 0 0 0 false [] [] (by omega) (by omega)
 have h2:Jz (2,2,0,[],zTx,zTx,[],()) 2 1 () () D1 K1 V1 st0 (B1 1) () ([H1 0],V1,50,false,()) (1,0,0,()) [(1,(Q1,1,0,()))] () [] ([],()) zM 0 0 0 false () [] []=_:=
  do2 1 (by omega) 2 1 st0 ([H1 0],V1,50,false,()) (1,0,0,()) [(1,(Q1,1,0,()))] [] ([],()) zM 0 0 0 false [] [] Jwy kv_R1 (by rw [c0]; decide) rfl
 have h5:=do5 2 1 D1 K1 V1 stA (B1 2) ([H1 0],V1,50,false,()) (1,0,0,()) [(1,(Q1,1,0,()))] [] ([],()) zM 0 0 0 false [] [] _ _ _ _ _ _ _ _ _ _ _ _ (blk0 ([H1 0],V1,50,false,()))
 have h13:=Jwx 0 (by omega) stA Jtc rfl [H1 0] (by simp) rfl (by intro z hz; rw [List.mem_singleton.1 hz]; exact Hne 0 1 (by omega)) 2 4 0 (.inl rfl) [] [(1,(C1 2,1,()))] 1 rfl (by omega) rfl zM 0 0 0 false [] [] (by simp)
 unfold Jw_1_step
 simp only [J1w,J5b]
 rw [J5f (show (0:Int) < 2 by omega),show w64 ((1:Int)+max 1 1)=2 from rfl,h3,J5b]
 dsimp only
 rw [h2,J5b,c0]
 dsimp only
 rw [h5,J5b]
 dsimp only
 unfold Jz
 rw [J5d (show ¬ (13:Int)=1 by decide),J5d (show ¬ (13:Int)=2 by decide),J5d (show ¬ (13:Int)=3 by decide),J5d (show ¬ (13:Int)=4 by decide),J5d (show ¬ (13:Int)=5 by decide),J5d (show ¬ (13:Int)=6 by decide),J5d (show ¬ (13:Int)=7 by decide),J5d (show ¬ (13:Int)=8 by decide),J5d (show ¬ (13:Int)=9 by decide),J5d (show ¬ (13:Int)=10 by decide),J5d (show ¬ (13:Int)=11 by decide),J5d (show ¬ (13:Int)=12 by decide),J5f (show (13:Int)=13 from rfl)]
 rw [show Jq 2 1 () () D1 K1 V1 stA (B1 2) () ([H1 0],V1,50,false,()) (1,1,0,()) [(1,(Q1,2,4,()))] () [] ([],()) zM 0 0 0 false () [] []=_ from h13]
 rfl
theorem round1:Jw_1_step 1 1 2 1 2 1 () () D1 K1 V1 stA () ([H1 0,H1 1],V1,50,false,()) (1,1,0,()) [(1,(Q1,2,0,()))] () [(1,(C1 2,1,()))] ([C1 2],()) zM 0 0 0 false () [] (B1 2) [C1 2] =
  some (.inl (2,2,3,1,(),(),D1,K1,V1,stB,(),([H1 0,H1 1,H1 2],V1,50,false,()),(1,2,0,()),[(1,(Q1,3,0,()))],(),[(1,(C1 3,2,()))],([C1 3],()),(2,9,[R1],false,()),9,0,0,false,(),[],B1 3,[C1 2,C1 3])):=by
 have h3:=do3 3 2 1 D1 K1 V1 stA (B1 2) ([H1 0,H1 1],V1,50,false,()) (1,1,0,()) [(1,(Q1,2,0,()))] [(1,(C1 2,1,()))] ([C1 2],()) zM 0 0 0 false [] [C1 2] (by omega) (by omega)
 have h2:Jz (2,3,0,[],zTx,zTx,[],()) 3 1 () () D1 K1 V1 stA (B1 2) () ([H1 0,H1 1],V1,50,false,()) (1,1,0,()) [(1,(Q1,2,0,()))] () [(1,(C1 2,1,()))] ([C1 2],()) zM 0 0 0 false () [] [C1 2]=_:=
  do2 2 (by omega) 3 1 stA ([H1 0,H1 1],V1,50,false,()) (1,1,0,()) [(1,(Q1,2,0,()))] [(1,(C1 2,1,()))] ([C1 2],()) zM 0 0 0 false [] [C1 2] Jtc kv_R1 (by rw [cA]; decide) rfl
 have h5:=do5 3 1 D1 K1 V1 stB (B1 3) ([H1 0,H1 1],V1,50,false,()) (1,1,0,()) [(1,(Q1,2,0,()))] [(1,(C1 2,1,()))] ([C1 2],()) zM 0 0 0 false [] [C1 2] _ _ _ _ _ _ _ _ _ _ _ _ (blk1 ([H1 0,H1 1],V1,50,false,()) [(1,(C1 2,1,()))] 2 (by omega))
 have h13:=Jwx 1 (by omega) stB stB_ok rfl [H1 0,H1 1] (by simp) rfl (by
  intro z hz
  rcases List.mem_cons.1 hz with rfl | hz
  ·exact Hne 0 2 (by omega)
  ·rw [List.mem_singleton.1 hz]; exact Hne 1 2 (by omega)) 3 5 2 (.inr rfl) [(1,(C1 2,1,()))] [(1,(C1 3,2,()))] 2 rfl (by omega) rfl (2,9,[R1],false,()) 9 0 0 false [] [C1 2] (by simp)
 unfold Jw_1_step
 simp only [J1w,J5b]
 rw [J5f (show (1:Int) < 2 by omega),show w64 ((2:Int)+max 1 1)=3 from rfl,h3,J5b]
 dsimp only
 rw [h2,J5b,cA]
 dsimp only
 rw [h5,J5b]
 dsimp only
 unfold Jz
 rw [J5d (show ¬ (13:Int)=1 by decide),J5d (show ¬ (13:Int)=2 by decide),J5d (show ¬ (13:Int)=3 by decide),J5d (show ¬ (13:Int)=4 by decide),J5d (show ¬ (13:Int)=5 by decide),J5d (show ¬ (13:Int)=6 by decide),J5d (show ¬ (13:Int)=7 by decide),J5d (show ¬ (13:Int)=8 by decide),J5d (show ¬ (13:Int)=9 by decide),J5d (show ¬ (13:Int)=10 by decide),J5d (show ¬ (13:Int)=11 by decide),J5d (show ¬ (13:Int)=12 by decide),J5f (show (13:Int)=13 from rfl)]
 rw [show Jq 3 1 () () D1 K1 V1 stB (B1 3) () ([H1 0,H1 1],V1,50,false,()) (1,2,0,()) [(1,(Q1,3,5,()))] () [(1,(C1 2,1,()))] ([],()) (2,9,[R1],false,()) 9 0 0 false () [] [C1 2]=_ from h13]
 rfl
theorem served:Jw 2 1 1 1 () () D1 K1 V1 st0 (B1 1) () ([H1 0],V1,50,false,()) (1,0,0,()) [(1,(Q1,1,0,()))] () [] ([],()) zM 0 0 0 false () [] [] =
  some (2,3,1,(),(),D1,K1,V1,stB,(),([H1 0,H1 1,H1 2],V1,50,false,()),(1,2,0,()),[(1,(Q1,3,0,()))],(),[(1,(C1 3,2,()))],([C1 3],()),(2,9,[R1],false,()),9,0,0,false,(),[],B1 3,[C1 2,C1 3]):=by
 unfold Jw Jw_1
 rw [show max (2:Int) 0=2 from rfl,J5v (s':=_) round0,J5v (s':=_) round1,J5r rfl]
 rfl
theorem Jp0:J3b=some true:=by
 have e1:Je [1]=some ((),D1,J7u 1,J8d 1,V1):=Ju9 [1] (by simp)
 have e2:J2b (1,0,0,[],(3,[97],[],9,0,()),zTx,[],()) 1 1 () () D1 K1 V1 ([],1,[[]],()) (B1 1) () ([H1 0],V1,50,false,()) (1,0,0,()) [(1,(Q1,1,0,()))] () [] ([],()) zM 0 0 0 false () [] =
   some (zR 0 0 [],1,1,(),(),D1,K1,V1,st0,(),([H1 0],V1,50,false,()),(1,0,0,()),[(1,(Q1,1,0,()))],(),[],([],()),zM,0,0,0,false,(),[],B1 1,[]):=by
  unfold J2b
  rw [J5f (show (1:Int)=1 from rfl),hostDo]
  rfl
 have e3:J1j 3 1 () () D1 K1 V1 stB (B1 3) () ([H1 0,H1 1,H1 2],V1,50,false,()) (1,2,0,()) [(1,(Q1,3,0,()))] () [(1,(C1 3,2,()))] ([C1 3],()) (2,9,[R1],false,()) 9 0 0 false () [] [C1 2,C1 3] =
   some ((),(50,false,()),[H1 0,H1 1,H1 2],V1,(),([C1 3],()),2,9,(false,()),[R1]):=by
  unfold J1j J2c J1e
  rw [Jey _ (by simp),J5b,Jdj,J5b,J5b]
  unfold J33
  rw [show J1i (1,2,0,()) [(1,(Q1,3,0,()))]=some () from rfl,J5b,show J32 () [(1,(C1 3,2,()))]=some () from rfl,J5b,show (([C1 3],()):List Cal×Unit).1=[C1 3] from rfl,Jgw]
  rfl
 unfold J3b
 rw [e1,J5b]
 show andThen (J4k V1 D1 50 1 3) _=_
 rw [Jwb,J5b]
 show fork (!decide ((0:Int)=0)) none (andThen (J2b (1,0,0,[],(3,[97],[],9,0,()),zTx,[],()) 1 1 () () D1 K1 V1 ([],1,[[]],()) (B1 1) () ([H1 0],V1,50,false,()) (1,0,0,()) [(1,(Q1,1,0,()))] () [] ([],()) zM 0 0 0 false () []) _)=_
 rw [show (!decide ((0:Int)=0))=false from rfl,J5o,e2,J5b]
 show andThen (Jw 2 1 1 1 () () D1 K1 V1 st0 (B1 1) () ([H1 0],V1,50,false,()) (1,0,0,()) [(1,(Q1,1,0,()))] () [] ([],()) zM 0 0 0 false () [] []) _=_
 rw [served,J5b]
 show andThen (J1j 3 1 () () D1 K1 V1 stB (B1 3) () ([H1 0,H1 1,H1 2],V1,50,false,()) (1,2,0,()) [(1,(Q1,3,0,()))] () [(1,(C1 3,2,()))] ([C1 3],()) (2,9,[R1],false,()) 9 0 0 false () [] [C1 2,C1 3]) _=_
 rw [e3,J5b]
 rfl
abbrev Um:=List (List UInt8×Int)
def sumM:Um→Int
 | []=>0
 | p::r=>p.2+sumM r
def NonM:Um→Prop
 | []=>True
 | p::r=>0≤p.2∧NonM r
theorem Jgh:∀ {m:Um},NonM m→0≤sumM m
 | [],_=>Int.le_refl _
 | p::r,h=>by have:=Jgh h.2; have:=h.1; unfold sumM; omega
theorem Jn5 (x:List UInt8):∀ {m:Um},NonM m→0≤(J62 x m).getD 0∧(J62 x m).getD 0≤sumM m
 | [],_=>by simp [J62,sumM]
 | p::r,h=>by
  have h1:=Jn5 x h.2; have h2:=Jgh h.2; have:=h.1
  unfold J62 sumM
  by_cases e:x=p.1
  ·rw [decide_eq_true e,cond_true]; simp only [Option.getD_some]; omega
  ·rw [decide_eq_false e,cond_false]; omega
theorem Jn6 (x:List UInt8) (y:Int) (hy:0≤y):∀ {m:Um},NonM m→NonM (J6u x y m)∧sumM (J6u x y m)=sumM m - (J62 x m).getD 0+y
 | [],_=>by simp [J6u,NonM,sumM,J62,hy]
 | p::r,h=>by
  have h1:=Jn6 x y hy h.2; have:=h.1
  unfold J6u J62
  by_cases e:x=p.1
  ·rw [decide_eq_true e,cond_true,cond_true]; simp only [Option.getD_some,sumM,NonM]; exact ⟨⟨hy,h.2⟩,by omega⟩
  ·rw [decide_eq_false e,cond_false,cond_false]; simp only [sumM,NonM]; exact ⟨⟨h.1,h1.1⟩,by have:=h1.2; omega⟩
theorem Jtk (x:List UInt8):∀ {m:Um},NonM m→NonM (J7l (Ty.beq .str) x m)∧sumM (J7l (Ty.beq .str) x m)=sumM m - (J62 x m).getD 0
 | [],_=>by simp [J7l,NonM,sumM,J62]
 | p::r,h=>by
  have h1:=Jtk x h.2
  unfold J7l J62
  have hb:Ty.beq .str x p.1=decide (x=p.1):=rfl
  rw [hb]
  by_cases e:x=p.1
  ·rw [decide_eq_true e,cond_true,cond_true]; simp only [Option.getD_some,sumM]; exact ⟨h.2,by omega⟩
  ·rw [decide_eq_false e,cond_false,cond_false]; simp only [sumM,NonM]; exact ⟨⟨h.1,h1.1⟩,by have:=h1.2; omega⟩
structure Jdg (s p a:Int) (m:Um):Prop where
 s0:0≤s
 p0:0≤p
 top:s+p≤1073741824
 a0:0≤a
 a1:a≤1073741824
 sum:sumM m=a
 non:NonM m
theorem Jst (x:List UInt8) (n:Int):∃ b,J4j x n=some b∧(b=true→1≤n∧n≤1073741824):=by
 unfold J4j
 by_cases h1:x=[]
 ·rw [J8b h1]; exact ⟨_,rfl,by simp⟩
 rw [J9c h1]
 by_cases h2:(x.length:Int)≤16
 ·rw [J5f h2]
  by_cases h3:1≤n
  ·rw [J5f h3]; exact ⟨_,rfl,fun h=>⟨h3,of_decide_eq_true h⟩⟩
  ·rw [J5d h3]; exact ⟨_,rfl,by simp⟩
 ·rw [J5d h2]; exact ⟨_,rfl,by simp⟩
theorem Jkv {x y:Int} (hx:0≤x) (hx1:x≤1073741824) (hy:0≤y) (hy1:y≤1073741824):0≤x * y∧x * y≤1152921504606846976:=by
 refine ⟨Int.mul_nonneg hx hy,?_⟩
 have:=Int.mul_le_mul hx1 hy1 hy (by omega:(0:Int)≤1073741824)
 omega
theorem Jhu {x y:Int} (hx:0≤x) (hx1:x≤1152921504606846976) (hy:0≤y):0≤Int.tdiv x y∧Int.tdiv x y≤1152921504606846976:=by
 rw [Int.tdiv_eq_ediv_of_nonneg hx]
 have h1:=Int.ediv_nonneg hx hy
 have h2:=Int.ediv_le_self y hx
 omega
theorem Jmt {s p a:Int} {m:Um} (h:Jdg s p a m) (b:Bool) (u:Unit):J06 s p a b u m=some (s+p):=by
 have:=h.s0; have:=h.p0; have:=h.top
 unfold J06
 rw [J5g (by omega) (by omega)]
theorem Jxy {s p a:Int} {m:Um} (h:Jdg s p a m) (x:List UInt8) (n:Int) (b:Bool) (u:Unit) :
  ∃ k e p' a' m',J2j x n s p a b u m=some (k,e,p',a',m')∧Jdg s p' a' m'∧(e=0→p'=p+n)∧(e≠0→p'=p):=by
 obtain ⟨may,hmay,hn⟩:=Jst x n
 have s0:=h.s0; have p0:=h.p0; have tp:=h.top; have a0:=h.a0; have a1:=h.a1
 have hno:∀ (e:Int),e≠0→∃ k e' p' a' m',some ((0:Int),e,p,a,m)=some (k,e',p',a',m')∧Jdg s p' a' m'∧(e'=0→p'=p+n)∧(e'≠0→p'=p):=
  fun e he=>⟨_,_,_,_,_,rfl,h,fun h=>absurd h he,fun _=>rfl⟩
 have last:∀ k:Int,0≤k→k≤1073741824 - a→1≤n→s+p+n≤1073741824→∃ k' e' p' a' m',
   fork (decide ((Option.getD (J62 x m) (0:Int))=(0:Int))) (fork (decide ((30:Int)≤((List.length m:Nat):Int))) (some ((0:Int),(7:Int),p,a,m)) (some (k,(0:Int),w64 (p+n),w64 (a+k),J6u x (w64 ((Option.getD (J62 x m) (0:Int))+k)) m)))
    (some (k,(0:Int),w64 (p+n),w64 (a+k),J6u x (w64 ((Option.getD (J62 x m) (0:Int))+k)) m))=some (k',e',p',a',m')∧Jdg s p' a' m'∧(e'=0→p'=p+n)∧(e'≠0→p'=p):=by
  intro k k0 k1 n1 hp
  obtain ⟨g0,g1⟩:=Jn5 x h.non
  rw [h.sum] at g1
  have hput:=Jn6 x ((J62 x m).getD 0+k) (by omega) h.non
  have hok:Jdg s (p+n) (a+k) (J6u x ((J62 x m).getD 0+k) m):=⟨s0,by omega,by omega,by omega,by omega,by rw [hput.2,h.sum]; omega,hput.1⟩
  rw [J5g (n:=p+n) (by omega) (by omega),J5g (n:=a+k) (by omega) (by omega),J5g (n:=(J62 x m).getD 0+k) (by omega) (by omega)]
  by_cases c1:(Option.getD (J62 x m) (0:Int))=0
  ·rw [J5f c1]
   by_cases c2:(30:Int)≤((List.length m:Nat):Int)
   ·rw [J5f c2]; exact hno 7 (by decide)
   ·rw [J5d c2]; exact ⟨_,_,_,_,_,rfl,hok,fun _=>rfl,fun h=>absurd rfl h⟩
  ·rw [J5d c1]; exact ⟨_,_,_,_,_,rfl,hok,fun _=>rfl,fun h=>absurd rfl h⟩
 unfold J2j
 rw [hmay,J5b]
 cases may with
 | false=>exact hno 1 (by decide)
 | true=>
  obtain ⟨n1,n2⟩:=hn rfl
  rw [show (!true)=false from rfl,J5o]
  cases b with
  | true=>exact hno 10 (by decide)
  | false=>
   rw [J5o]
   by_cases ha:0 < a
   ·rw [J5f ha,Jmt h,J5b]
    by_cases hz:s+p=0
    ·rw [J5f hz]; exact hno 10 (by decide)
    rw [J5d hz,J5b,J5c hz]
    obtain ⟨q0,q1⟩:=Jkv (x:=n) (by omega) n2 a0 a1
    obtain ⟨q2,q3⟩:=Jhu q0 q1 (y:=s+p) (by omega)
    rw [J5g (n:=n * a) (by omega) (by omega),J5g (n:=Int.tdiv (n * a) (s+p)) (by omega) (by omega)]
    generalize Int.tdiv (n * a) (s+p)=k at q2 q3
    by_cases c1:k=0
    ·rw [J5f c1]; exact hno 11 (by decide)
    rw [J5d c1,J5g (n:=1073741824 - a) (by omega) (by omega)]
    by_cases c2:1073741824 - a < k
    ·rw [J5f c2]; exact hno 11 (by decide)
    rw [J5d c2,J5b,J5g (n:=1073741824 - (s+p)) (by omega) (by omega)]
    by_cases c3:1073741824 - (s+p) < n
    ·rw [J5f c3]; exact hno 11 (by decide)
    rw [J5d c3]
    exact last k q2 (by omega) n1 (by omega)
   ·rw [J5d ha]
    by_cases c1:n=0
    ·rw [J5f c1]; exact hno 11 (by decide)
    rw [J5d c1,J5g (n:=1073741824 - a) (by omega) (by omega)]
    by_cases c2:1073741824 - a < n
    ·rw [J5f c2]; exact hno 11 (by decide)
    rw [J5d c2,Jmt h,J5b,J5g (n:=1073741824 - (s+p)) (by omega) (by omega)]
    by_cases c3:1073741824 - (s+p) < n
    ·rw [J5f c3]; exact hno 11 (by decide)
    rw [J5d c3]
    exact last n (by omega) (by omega) n1 (by omega)
theorem Jso {s p a:Int} {m:Um} (h:Jdg s p a m) (x:List UInt8) (n:Int) (b:Bool) (u:Unit) :
  ∃ k e p' a' m',J26 x n s p a b u m=some (k,e,p',a',m')∧Jdg s p' a' m'∧(e=0→p'=p - k∧0≤k∧k≤p)∧(e≠0→p'=p):=by
 obtain ⟨may,hmay,hn⟩:=Jst x n
 have s0:=h.s0; have p0:=h.p0; have tp:=h.top; have a0:=h.a0; have a1:=h.a1
 have hno:∀ (e:Int),e≠0→∃ k e' p' a' m',some ((0:Int),e,p,a,m)=some (k,e',p',a',m')∧Jdg s p' a' m'∧(e'=0→p'=p - k∧0≤k∧k≤p)∧(e'≠0→p'=p):=
  fun e he=>⟨_,_,_,_,_,rfl,h,fun h=>absurd h he,fun _=>rfl⟩
 unfold J26
 rw [hmay,J5b]
 cases may with
 | false=>exact hno 1 (by decide)
 | true=>
  obtain ⟨n1,n2⟩:=hn rfl
  obtain ⟨g0,g1⟩:=Jn5 x h.non
  rw [h.sum] at g1
  rw [show (!true)=false from rfl,J5o]
  cases b with
  | true=>exact hno 10 (by decide)
  | false=>
   rw [J5o]
   by_cases c1:(J62 x m).getD 0=0
   ·rw [J5f c1]; exact hno 3 (by decide)
   rw [J5d c1]
   by_cases c2:(J62 x m).getD 0 < n
   ·rw [J5f c2]; exact hno 11 (by decide)
   rw [J5d c2,Jmt h,J5b,J5c (by omega)]
   obtain ⟨q0,q1⟩:=Jkv (x:=n) (y:=s+p) (by omega) n2 (by omega) tp
   obtain ⟨q2,q3⟩:=Jhu q0 q1 (y:=a) a0
   rw [J5g (n:=n * (s+p)) (by omega) (by omega),J5g (n:=Int.tdiv (n * (s+p)) a) (by omega) (by omega)]
   generalize Int.tdiv (n * (s+p)) a=k at q2 q3
   by_cases c3:p < k
   ·rw [J5f c3]; exact hno 11 (by decide)
   rw [J5d c3,J5g (n:=p - k) (by omega) (by omega),J5g (n:=a - n) (by omega) (by omega),J5g (n:=(J62 x m).getD 0 - n) (by omega) (by omega)]
   have hput:=Jn6 x ((J62 x m).getD 0 - n) (by omega) h.non
   have hs:sumM (J6u x ((J62 x m).getD 0 - n) m)=a - n:=by rw [hput.2,h.sum]; omega
   by_cases c4:n=(J62 x m).getD 0
   ·rw [J5f c4]
    have hg:(J62 x (J6u x ((J62 x m).getD 0 - n) m)).getD 0=0:=by
     have:=get_put0 x ((J62 x m).getD 0 - n) m
     rw [this]; simp only [Option.getD_some]; omega
    have hcut:=Jtk x hput.1
    exact ⟨_,_,_,_,_,rfl,⟨s0,by omega,by omega,by omega,by omega,by rw [hcut.2,hs,hg]; omega,hcut.1⟩,fun _=>⟨rfl,q2,by omega⟩,fun h=>absurd rfl h⟩
   ·rw [J5d c4]
    exact ⟨_,_,_,_,_,rfl,⟨s0,by omega,by omega,by omega,by omega,hs,hput.1⟩,fun _=>⟨rfl,q2,by omega⟩,fun h=>absurd rfl h⟩
where
 get_put0 (x:List UInt8) (y:Int):∀ m:Um,J62 x (J6u x y m)=some y
  | []=>by simp [J6u,J62]
  | p::r=>by
   unfold J6u
   by_cases e:x=p.1
   ·rw [decide_eq_true e,cond_true,J62,decide_eq_true e,cond_true]
   ·rw [decide_eq_false e,cond_false,J62,decide_eq_false e,cond_false]; exact get_put0 x y r
theorem Jv3 {s p a:Int} {m:Um} (h:Jdg s p a m) (t:Int) (h0:0≤t) (h1:t≤1073741824 - p) (b:Bool) (u:Unit) :
  J1o t s p a b u m=some (0,t,false)∧Jdg t p a m:=by
 have s0:=h.s0; have p0:=h.p0; have tp:=h.top
 unfold J1o
 rw [J5d (by omega),J5g (by omega) (by omega),J5d (by omega)]
 exact ⟨rfl,h0,h.p0,by omega,h.a0,h.a1,h.sum,h.non⟩
def UI (i x y s p a:Int) (m:Um):Prop:=Jdg s p a m∧p=x - y∧0≤y∧0≤x∧x≤500 * i
theorem Jz2 (l:List Int) (b7:Int) (hl:Bool) (x y i:Int) (u:List UInt8) (n:Int) (ev:Bool) (s p a:Int) (h:Bool) (z:Unit) (m:Um) (hi:0≤i∧i < 20) (hn:1≤n∧n≤500) (hI:UI i x y s p a m) :
  ∃ x' y' p' a' m',Ja_1 l b7 hl x y i u n ev s p a h z m=some (x',y',p',a',m')∧UI (i+1) x' y' s p' a' m':=by
 obtain ⟨hL,hp,hy,hx,hx2⟩:=hI
 have p0:=hL.p0
 unfold Ja_1
 cases ev with
 | true=>
  obtain ⟨k,e,p',a',m',he,hL',h1,h2⟩:=Jxy hL u n h z
  rw [J7h,he,J5b]
  by_cases c:e=0
  ·rw [J5f (show ((k,e,p',a',m'):Int×Int×Int×Int×Um).2.1=0 from c),J5g (by omega) (by omega)]
   exact ⟨_,_,_,_,_,rfl,hL',by have:=h1 c; show p'=_; omega,hy,by omega,by omega⟩
  ·rw [J5d (show ¬ ((k,e,p',a',m'):Int×Int×Int×Int×Um).2.1=0 from c)]
   exact ⟨_,_,_,_,_,rfl,hL',by have:=h2 c; show p'=_; omega,hy,by omega,by omega⟩
 | false=>
  obtain ⟨k,e,p',a',m',he,hL',h1,h2⟩:=Jso hL u n h z
  rw [J5o,he,J5b]
  by_cases c:e=0
  ·obtain ⟨q1,q2,q3⟩:=h1 c
   rw [J5f (show ((k,e,p',a',m'):Int×Int×Int×Int×Um).2.1=0 from c),show ((k,e,p',a',m'):Int×Int×Int×Int×Um).1=k from rfl,J5g (by omega) (by omega)]
   exact ⟨_,_,_,_,_,rfl,hL',by show p'=_; omega,by omega,by omega,by omega⟩
  ·rw [J5d (show ¬ ((k,e,p',a',m'):Int×Int×Int×Int×Um).2.1=0 from c)]
   exact ⟨_,_,_,_,_,rfl,hL',by have:=h2 c; show p'=_; omega,hy,by omega,by omega⟩
theorem Jq7 (l:List Int) (b7:Int) (hl:Bool) (x y i s p a:Int) (h:Bool) (z:Unit) (m:Um) (hi:0≤i∧i < 20∧i < (l.length:Int)) (hI:UI i x y s p a m) :
  ∃ x' y' s' p' a' h' m',Ja_4_step l b7 hl x y i s p a h z m=some (.inl (x',y',i+1,s',p',a',h',m'))∧UI (i+1) x' y' s' p' a' m':=by
 obtain ⟨n,hn,n1,n2⟩:=Jgk (l.getD i.toNat 0) 1 500 (by omega) (by omega) (by omega)
 obtain ⟨b,hb,b1,b2⟩:=Jgk b7 0 5000 (by omega) (by omega) (by omega)
 have hm:0≤Int.tmod i 3∧Int.tmod i 3 < 3:=by
  rw [Int.tmod_eq_emod_of_nonneg hi.1]; omega
 obtain ⟨x',y',p',a',m',he,hI'⟩:=Jz2 l b7 hl x y i (List.getD ([([120]:List UInt8),([121]:List UInt8),([122]:List UInt8)]:List (List UInt8)) (Int.toNat (Int.tmod i 3)) ([]:List UInt8)) n (decide ((Int.tmod (List.getD l (Int.toNat i) (0:Int)) (2:Int))=(0:Int))) s p a h z m ⟨hi.1,hi.2.1⟩ ⟨n1,n2⟩ hI
 obtain ⟨hL,hp,hy,hx,hx2⟩:=hI'
 have p0:=hL.p0
 have hw:w64 (i+1)=i+1:=J5g (by omega) (by omega)
 have hw2:w64 (x' - y')=x' - y':=J5g (by omega) (by omega)
 unfold Ja_4_step
 rw [J5f (by omega),J5f (by omega),J5c (c:=0≤(Int.tmod i (3:Int))∧(Int.tmod i (3:Int)) < (List.length ([([120]:List UInt8),([121]:List UInt8),([122]:List UInt8)]:List (List UInt8)):Int)) hm,J5c (by omega),hn,J5b,he,J5b]
 have tail:∀ (s':Int) (h':Bool),Jdg s' p' a' m'→∃ x1 y1 s1 p1 a1 h1 m1,(andThen (Jm s' p' a' h' z m') (fun _=>fork (!decide (p'=(w64 (x' - y')))) (none) (andThen (Jm s' p' a' h' z m') (fun _=>fork (decide (p' < (0:Int))) (none) (some (.inl (x',y',(w64 (i+(1:Int))),s',p',a',h',m')))))):Option ((Int×Int×Int×Int×Int×Int×Bool×Um)⊕(Int×Int)))=some (.inl (x1,y1,i+1,s1,p1,a1,h1,m1))∧UI (i+1) x1 y1 s1 p1 a1 m1:=by
  intro s' h' hL'
  rw [show Jm s' p' a' h' z m'=some () from rfl,J5b,hw2,J8b hp,J5b,J5d (by omega),hw]
  exact ⟨_,_,_,_,_,_,_,rfl,hL',hp,hy,hx,hx2⟩
 dsimp only
 by_cases c7:i=7
 ·obtain ⟨q1,q2⟩:=Jv3 hL b b1 (by omega) h z
  rw [J5f c7,hb,J5b,q1,J5b,J8b rfl]
  dsimp only
  rw [J5d (by omega)]
  exact tail b false q2
 ·rw [J5d c7]
  by_cases c11:i=11
  ·rw [J5f c11]
   have:∃ h',Ja_3 l b7 hl x' y' i hl s p' a' h z m'=some h':=by
    unfold Ja_3
    cases hl with
    | true=>exact ⟨_,rfl⟩
    | false=>exact ⟨_,rfl⟩
   obtain ⟨h',hh⟩:=this
   rw [hh,J5b]
   exact tail s h' hL
  ·rw [J5d c11]
   exact tail s h hL
theorem Jhv (l:List Int) (b7:Int) (hl:Bool) (z:Unit):∀ (k:Nat) (x y i s p a:Int) (h:Bool) (m:Um),0≤i→(20 - i).toNat=k→UI i x y s p a m→
  ∃ x' y',Ja_4 l b7 hl x y i s p a h z m=some (x',y')∧y'≤x'
 | k,x,y,i,s,p,a,h,m,h0,hk,hI=>by
  by_cases c:i < (l.length:Int)∧i < 20
  ·obtain ⟨x',y',s',p',a',h',m',e,hI'⟩:=Jq7 l b7 hl x y i s p a h z m ⟨h0,c.2,c.1⟩ hI
   match k,hk with
   | 0,hk=>omega
   | k+1,hk=>
    have:=Jhv l b7 hl z k x' y' (i+1) s' p' a' h' m' (by omega) (by omega) hI'
    unfold Ja_4 at this ⊢
    rw [J5v (s':=(x',y',i+1,s',p',a',h',m')) e]
    exact this
  ·obtain ⟨hL,hp,hy,hx,hx2⟩:=hI
   have p0:=hL.p0
   refine ⟨x,y,?_,by omega⟩
   unfold Ja_4
   refine J5r ?_
   show Ja_4_step l b7 hl x y i s p a h z m=_
   unfold Ja_4_step
   by_cases c1:i < (l.length:Int)
   ·rw [J5f c1,J5d (by omega)]
   ·rw [J5d c1]
theorem law_TopUsers (y0:List Int) (y1:Int) (y2:Bool) (w0:Wf (.slice (.int .i64)) y0) (w1:Wf (.int .i64) y1) (w2:Wf .bool y2):Ja y0 y1 y2=some true:=by
 obtain ⟨x',y',e,hle⟩:=Jhv y0 y1 y2 () 20 0 0 0 0 0 0 false [] (Int.le_refl 0) rfl ⟨⟨by omega,by omega,by omega,by omega,by omega,rfl,trivial⟩,by omega,by omega,by omega,by omega⟩
 unfold Ja J4q
 rw [J5b]
 dsimp only
 rw [e,J5b,J5f hle,Jp0]
 rfl
end Go.Ax.V
