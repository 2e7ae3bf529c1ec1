/-
  A semantics by value over the model: data, calls, code (part A).
-/
import Derived.Tactics
import Derived.Laws.Sem
import Derived.Laws.World
import Derived.LoopN
import Derived.Orders
import Derived.Below
import Derived.KernelRfl
import Derived.Laws.BitsAllLaws
import Derived.Laws.Strings
import Derived.Laws.StructEq
import Derived.Laws.BytesString
namespace Go.Ax
set_option linter.unusedVariables false
set_option linter.unusedSimpArgs false
inductive Ty where
 | int (k:IntKind) | bool | str | flt | cplx
 | ptr | mp | fn
 | arr (n:Nat) (e:Ty) | slice (e:Ty)
 | unit | fld (a r:Ty)
 deriving DecidableEq,Inhabited
@[reducible] def IK:IntKind→Type
 | .u8=>UInt8
 | .u32=>UInt32
 | .u64=>UInt64
 | _=>Int
@[reducible] def IK.toInt:(k:IntKind)→IK k→Int
 | .u8,x=>(UInt8.toNat x:Nat)
 | .u32,x=>(UInt32.toNat x:Nat)
 | .u64,x=>(UInt64.toNat x:Nat)
 | .i8,x=>x
 | .i16,x=>x
 | .i32,x=>x
 | .i64,x=>x
 | .u16,x=>x
@[reducible] def IK.ofInt:(k:IntKind)→Int→IK k
 | .u8,n=>UInt8.ofNat n.toNat
 | .u32,n=>UInt32.ofNat n.toNat
 | .u64,n=>UInt64.ofNat n.toNat
 | .i8,x=>x
 | .i16,x=>x
 | .i32,x=>x
 | .i64,x=>x
 | .u16,x=>x
@[reducible] def Ty.den:Ty→Type
 | .int k=>IK k
 | .bool=>Bool
 | .str=>List UInt8
 | .flt=>Int
 | .cplx=>Int×Int
 | .ptr=>Unit
 | .mp=>Unit
 | .fn=>Unit
 | .arr _ e=>List e.den
 | .slice e=>List e.den
 | .unit=>Unit
 | .fld a r=>a.den×r.den
@[reducible] def IK.zero:(k:IntKind)→IK k
 | .u8=>(0:UInt8)
 | .u32=>(0:UInt32)
 | .u64=>(0:UInt64)
 | .i8=>(0:Int)
 | .i16=>(0:Int)
 | .i32=>(0:Int)
 | .i64=>(0:Int)
 | .u16=>(0:Int)
def Ty.zero:(t:Ty)→t.den
 | .int k=>IK.zero k
 | .bool=>false
 | .str=>[]
 | .flt=>(0:Int)
 | .cplx=>((0:Int),(0:Int))
 | .ptr=>()
 | .mp=>()
 | .fn=>()
 | .arr n e=>List.replicate n e.zero
 | .slice _=>[]
 | .unit=>()
 | .fld a r=>(a.zero,r.zero)
def Ty.size:Ty→Nat
 | .arr n e=>n * e.size
 | .unit=>0
 | .fld a r=>a.size+r.size
 | _=>1
def Ty.isAgg:Ty→Bool
 | .arr _ _=>true
 | .unit=>true
 | .fld _ _=>true
 | _=>false
def Ty.flat:Ty→Bool
 | .slice _=>false
 | .ptr=>false
 | .mp=>false
 | .fn=>false
 | .arr _ e=>e.flat
 | .fld a r=>a.flat && r.flat
 | _=>true
def pack (t:Ty) (cs:List Value):Value:=if t.isAgg then .agg cs.toArray else cs.headD undef
def Cat {α:Type} (R:List Value→α→Prop):List Value→List α→Prop
 | cs,[]=>cs=[]
 | cs,x::xs=>∃ c1 c2,cs=c1++c2∧R c1 x∧Cat R c2 xs
def Jk0 {α:Type} (w:World) (sz:Nat) (R:List Value→α→Prop) (b o:Nat) (xs:List α):Prop:=
 ∀ i x,xs[i]?=some x→∃ cs,R cs x∧∀ j,j < cs.length→w.cell? ⟨b,o+i * sz+j,none⟩=cs[j]?
def RepC (w:World) (ok:Nat→Prop):(t:Ty)→List Value→t.den→Prop
 | .int k,cs,x=>cs=[.int k (IK.toInt k x)]
 | .bool,cs,x=>cs=[.bool x]
 | .str,cs,x=>cs=[.string ⟨List.toArray x⟩]
 | .flt,cs,x=>Int.natAbs x < 9007199254740992∧cs=[.float .f64 (FloatKind.f64.nearest x)]
 | .cplx,cs,x=>(Int.natAbs x.1 < 9007199254740992∧Int.natAbs x.2 < 9007199254740992)∧cs=[.complex .f64 (FloatKind.f64.nearest x.1) (FloatKind.f64.nearest x.2)]
 | .ptr,_,_=>False
 | .mp,_,_=>False
 | .fn,_,_=>False
 | .arr n e,cs,xs=>List.length xs=n∧Cat (RepC w ok e) cs xs
 | .slice e,cs,xs=>∃ a c,cs=[.slice a (List.length xs) c]∧List.length xs≤c∧
   (xs=[]∨∃ b o,a=some ⟨b,o,none⟩∧ok b∧Jk0 w e.size (RepC w ok e) b o xs)
 | .unit,cs,_=>cs=[]
 | .fld a r,cs,x=>∃ c1 c2,cs=c1++c2∧RepC w ok a c1 x.1∧RepC w ok r c2 x.2
theorem Cat.len {α:Type} {R:List Value→α→Prop} {sz:Nat} (h:∀ cs x,R cs x→cs.length=sz) :
  ∀ {cs:List Value} {xs:List α},Cat R cs xs→cs.length=xs.length * sz:=by
 intro cs xs
 induction xs generalizing cs with
 | nil=>intro h; simp only [Cat] at h; simp [h]
 | cons x xs ih=>
  rintro ⟨c1,c2,rfl,h1,h2⟩
  simp only [List.length_append,List.length_cons,h _ _ h1,ih h2]
  rw [Nat.add_mul,Nat.one_mul,Nat.add_comm]
theorem RepC.len {w:World} {ok:Nat→Prop}:∀ (t:Ty) {cs:List Value} {x:t.den},RepC w ok t cs x→cs.length=t.size
 | .int k,cs,x,h=>by simp only [RepC] at h; subst h; rfl
 | .bool,cs,x,h=>by simp only [RepC] at h; subst h; rfl
 | .str,cs,x,h=>by simp only [RepC] at h; subst h; rfl
 | .flt,cs,x,h=>by obtain ⟨_,rfl⟩:=h; rfl
 | .cplx,cs,x,h=>by obtain ⟨_,rfl⟩:=h; rfl
 | .ptr,_,_,h=>h.elim
 | .mp,_,_,h=>h.elim
 | .fn,_,_,h=>h.elim
 | .arr n e,cs,xs,h=>by
  obtain ⟨h1,h2⟩:=h
  rw [Cat.len (fun cs x=>RepC.len e) h2,h1]; rfl
 | .slice e,cs,xs,h=>by obtain ⟨a,c,rfl,_⟩:=h; rfl
 | .unit,cs,_,h=>by simp only [RepC] at h; subst h; rfl
 | .fld a r,cs,x,h=>by
  obtain ⟨c1,c2,rfl,h1,h2⟩:=h
  simp only [List.length_append,RepC.len a h1,RepC.len r h2,Ty.size]
theorem Cat.mono {α:Type} {R R':List Value→α→Prop} (h:∀ cs x,R cs x→R' cs x) :
  ∀ {cs:List Value} {xs:List α},Cat R cs xs→Cat R' cs xs:=by
 intro cs xs
 induction xs generalizing cs with
 | nil=>exact id
 | cons x xs ih=>
  rintro ⟨c1,c2,rfl,h1,h2⟩
  exact ⟨c1,c2,rfl,h _ _ h1,ih h2⟩
structure J76 (w w':World) (ok ok':Nat→Prop):Prop where
 sub:∀ b,ok b→ok' b
 cell:∀ b o v,ok b→w.cell? ⟨b,o,none⟩=some v→w'.cell? ⟨b,o,none⟩=some v
theorem Jk0.mono {α:Type} {w w':World} {ok ok':Nat→Prop} (k:J76 w w' ok ok') {sz:Nat} {R R':List Value→α→Prop}
  (h:∀ cs x,R cs x→R' cs x) {b o:Nat} (hb:ok b) {xs:List α} (hr:Jk0 w sz R b o xs):Jk0 w' sz R' b o xs:=by
 intro i x hx
 obtain ⟨cs,h1,h2⟩:=hr i x hx
 refine ⟨cs,h _ _ h1,fun j hj=>?_⟩
 have:=h2 j hj
 rw [List.getElem?_eq_getElem hj] at this ⊢
 exact k.cell _ _ _ hb this
theorem RepC.mono {w w':World} {ok ok':Nat→Prop} (k:J76 w w' ok ok'):∀ (t:Ty) {cs:List Value} {x:t.den},RepC w ok t cs x→RepC w' ok' t cs x
 | .int _,_,_,h=>h
 | .bool,_,_,h=>h
 | .str,_,_,h=>h
 | .flt,_,_,h=>h
 | .cplx,_,_,h=>h
 | .ptr,_,_,h=>h
 | .mp,_,_,h=>h
 | .fn,_,_,h=>h
 | .arr _ e,_,_,h=>⟨h.1,Cat.mono (fun _ _=>RepC.mono k e) h.2⟩
 | .slice e,_,_,h=>by
  obtain ⟨a,c,h1,h2,h3⟩:=h
  refine ⟨a,c,h1,h2,?_⟩
  rcases h3 with h3 | ⟨b,o,h3,h4,h5⟩
  ·exact .inl h3
  ·exact .inr ⟨b,o,h3,k.sub _ h4,Jk0.mono k (fun _ _=>RepC.mono k e) h4 h5⟩
 | .unit,_,_,h=>h
 | .fld a r,_,_,h=>by
  obtain ⟨c1,c2,h0,h1,h2⟩:=h
  exact ⟨c1,c2,h0,RepC.mono k a h1,RepC.mono k r h2⟩
theorem RepC.flat {w w':World} {ok ok':Nat→Prop}:∀ (t:Ty) {cs:List Value} {x:t.den},t.flat=true→RepC w ok t cs x→RepC w' ok' t cs x
 | .int _,_,_,_,h=>h
 | .bool,_,_,_,h=>h
 | .str,_,_,_,h=>h
 | .flt,_,_,_,h=>h
 | .cplx,_,_,_,h=>h
 | .ptr,_,_,_,h=>h
 | .mp,_,_,_,h=>h
 | .fn,_,_,_,h=>h
 | .arr _ e,_,_,f,h=>⟨h.1,Cat.mono (fun _ _=>RepC.flat e f) h.2⟩
 | .slice e,_,_,f,_=>by simp [Ty.flat] at f
 | .unit,_,_,_,h=>h
 | .fld a r,_,_,f,h=>by
  simp only [Ty.flat,Bool.and_eq_true] at f
  obtain ⟨c1,c2,h0,h1,h2⟩:=h
  exact ⟨c1,c2,h0,RepC.flat a f.1 h1,RepC.flat r f.2 h2⟩
end Go.Ax

namespace Go.Ax
set_option linter.unusedVariables false
set_option linter.unusedSimpArgs false
inductive Step where
 | fld (k:Nat) | idx (i:Nat)
 deriving DecidableEq,Inhabited
inductive Slot where
 | undef
 | v (t:Ty) (x:t.den)
 | nil
 | nilp
 | own (l:Nat) (p:List Step)
 | ptr (l:Nat) (p:List Step)
 | ref (t:Ty) (x:t.den)
 | fn (f:Nat) (cap:Slot)
 | mp (l:Nat)
 | anyb
 | node (a r:Slot)
 | tup (a r:Slot)
 | tnil
 deriving Inhabited
def Ty.field:Ty→Nat→Option (Nat×Ty)
 | .fld a _,0=>some (0,a)
 | .fld a r,k+1=>match r.field k with
  | some (o,t)=>some (a.size+o,t)
  | none=>none
 | _,_=>none
def POff:Ty→List Step→Nat→Ty→Prop
 | t,[],o,t'=>o=0∧t'=t
 | t,.fld k::p,o,t'=>∃ o1 t1 o2,t.field k=some (o1,t1)∧POff t1 p o2 t'∧o=o1+o2
 | t,.idx i::p,o,t'=>∃ n e o2,t=.arr n e∧i < n∧POff e p o2 t'∧o=i * e.size+o2
inductive GK where
 | row | box | map
 deriving DecidableEq,Inhabited
structure GE where
 kind:GK
 blk:Option Nat
 ty:Ty
 n:Nat
 cap:Nat
 deriving Inhabited
def GE.lay (g:GE):Ty:=match g.kind with | .row=>.arr g.n g.ty | _=>g.ty
inductive AObj where
 | row (e:Ty) (xs:List e.den) (live:Bool)
 | box (t:Ty) (s:Slot) (live:Bool)
 | map (k v:Ty) (es:List (k.den×v.den)) (live:Bool)
 | dead
def AObj.live:AObj→Bool
 | .row _ _ l=>l
 | .box _ _ l=>l
 | .map _ _ _ l=>l
 | .dead=>false
def AObj.isDead:AObj→Bool
 | .dead=>true
 | _=>false
def OwnV (g:GE) (p:List Step) (t:Ty) (v:Value):Prop:=
 (p=[]∧g.kind=.row∧t=.slice g.ty∧v=.slice (g.blk.map fun b=>⟨b,0,none⟩) g.n g.cap)∨
 (g.kind=.box∧∃ b o n e,g.blk=some b∧POff g.ty p o (.arr n e)∧t=.slice e∧v=.slice (some ⟨b,o,none⟩) n n)
def PtrV (g:GE) (p:List Step) (v:Value):Prop:=
 g.kind≠.map∧∃ b o t',g.blk=some b∧POff g.lay p o t'∧v=.pointer (some ⟨b,o,none⟩)
mutual
def J6y (G:List GE) (w:World) (ok:Nat→Prop):Slot→Ty→List Value→Prop
 | .undef,t,cs=>cs.length=t.size
 | .v t' x,t,cs=>t'=t∧RepC w ok t' cs x
 | .nil,t,cs=>(∃ e,t=.slice e)∧cs=[.slice none 0 0]
 | .nilp,t,cs=>t=.ptr∧cs=[.pointer none]
 | .own l p,t,cs=>∃ g v,G[l]?=some g∧cs=[v]∧OwnV g p t v
 | .ptr l p,t,cs=>t=.ptr∧∃ g v,G[l]?=some g∧cs=[v]∧PtrV g p v
 | .ref t' x,t,cs=>t=.ptr∧∃ b o cs',cs=[.pointer (some ⟨b,o,none⟩)]∧ok b∧RepC w ok t' cs' x∧∀ j,j < cs'.length→w.cell? ⟨b,o+j,none⟩=cs'[j]?
 | .fn f cap,t,cs=>t=.fn∧∃ vs:List Value,cs=[.func (.func f) #[] vs.toArray]∧LRel G w ok cap vs
 | .mp l,t,cs=>t=.mp∧∃ g b,G[l]?=some g∧g.kind=.map∧g.blk=some b∧cs=[.map (some b)]
 | .anyb,t,cs=>t=.bool∧∃ b:Bool,cs=[.bool b]
 | .node a r,t,cs=>∃ ta tr,t=.fld ta tr∧∃ c1 c2,cs=c1++c2∧J6y G w ok a ta c1∧J6y G w ok r tr c2
 | .tup _ _,_,_=>False
 | .tnil,_,_=>False
def LRel (G:List GE) (w:World) (ok:Nat→Prop):Slot→List Value→Prop
 | .tnil,vs=>vs=[]
 | .tup a r,vs=>∃ v vs',vs=v::vs'∧(∃ t cs,J6y G w ok a t cs∧v=pack t cs)∧LRel G w ok r vs'
 | _,_=>False
end
def TRel (G:List GE) (w:World) (ok:Nat→Prop):Slot→Value→Prop
 | .undef,_=>True
 | .tup a r,v=>∃ vs:List Value,v=.tuple vs.toArray∧LRel G w ok (.tup a r) vs
 | .tnil,v=>v=.tuple #[]
 | s,v=>∃ t cs,J6y G w ok s t cs∧v=pack t cs
theorem TRel.of {G:List GE} {w:World} {ok:Nat→Prop} {s:Slot} {t:Ty} {cs:List Value} (h:J6y G w ok s t cs):TRel G w ok s (pack t cs):=by
 cases s <;> first | exact ⟨_,_,h,rfl⟩ | trivial | exact h.elim
theorem J6y.len {G:List GE} {w:World} {ok:Nat→Prop}:∀ (s:Slot) {t:Ty} {cs:List Value},J6y G w ok s t cs→cs.length=t.size
 | .undef,_,_,h=>h
 | .v t x,_,_,h=>by obtain ⟨rfl,h⟩:=h; exact RepC.len _ h
 | .nil,_,_,h=>by obtain ⟨⟨e,rfl⟩,rfl⟩:=h; rfl
 | .nilp,_,_,h=>by obtain ⟨rfl,rfl⟩:=h; rfl
 | .own l p,_,_,h=>by obtain ⟨g,v,_,rfl,⟨_,_,rfl,_⟩ | ⟨_,b,o,n,e,_,_,rfl,_⟩⟩:=h <;> rfl
 | .ptr l p,_,_,h=>by obtain ⟨rfl,g,v,_,rfl,_⟩:=h; rfl
 | .ref t x,_,_,h=>by obtain ⟨rfl,b,o,cs',rfl,_⟩:=h; rfl
 | .fn f cap,_,_,h=>by obtain ⟨rfl,vs,rfl,_⟩:=h; rfl
 | .mp l,_,_,h=>by obtain ⟨rfl,g,b,_,_,_,rfl⟩:=h; rfl
 | .anyb,_,_,h=>by obtain ⟨rfl,b,rfl⟩:=h; rfl
 | .node a r,_,_,h=>by
  obtain ⟨ta,tr,rfl,c1,c2,rfl,h1,h2⟩:=h
  simp only [List.length_append,J6y.len a h1,J6y.len r h2,Ty.size]
 | .tup _ _,_,_,h=>h.elim
 | .tnil,_,_,h=>h.elim
def Ext (G G':List GE):Prop:=∀ (l:Nat) (g:GE),G[l]?=some g→G'[l]?=some g
theorem Ext.refl (G:List GE):Ext G G:=fun _ _ h=>h
theorem Ext.snoc (G:List GE) (g:GE):Ext G (G++[g]):=fun l g' h=>by
 have hl:l < G.length:=by
  rcases Nat.lt_or_ge l G.length with h' | h'
  ·exact h'
  ·rw [List.getElem?_eq_none h'] at h; cases h
 rw [List.getElem?_append_left hl]; exact h
mutual
theorem J6y.mono {G G':List GE} {w w':World} {ok ok':Nat→Prop} (hG:Ext G G') (k:J76 w w' ok ok') :
  ∀ (s:Slot) {t:Ty} {cs:List Value},J6y G w ok s t cs→J6y G' w' ok' s t cs
 | .undef,_,_,h=>h
 | .v t x,_,_,h=>by obtain ⟨e,h⟩:=h; exact ⟨e,RepC.mono k _ h⟩
 | .nil,_,_,h=>h
 | .nilp,_,_,h=>h
 | .own l p,_,_,h=>by obtain ⟨g,v,h1,h2⟩:=h; exact ⟨g,v,hG _ _ h1,h2⟩
 | .ptr l p,_,_,h=>by obtain ⟨e,g,v,h1,h2⟩:=h; exact ⟨e,g,v,hG _ _ h1,h2⟩
 | .ref t x,_,_,h=>by
  obtain ⟨e,b,o,cs',h1,h2,h3,h4⟩:=h
  refine ⟨e,b,o,cs',h1,k.sub _ h2,RepC.mono k _ h3,fun j hj=>?_⟩
  have:=h4 j hj
  rw [List.getElem?_eq_getElem hj] at this ⊢
  exact k.cell _ _ _ h2 this
 | .fn f cap,_,_,h=>by obtain ⟨e,vs,h1,h2⟩:=h; exact ⟨e,vs,h1,LRel.mono hG k cap h2⟩
 | .mp l,_,_,h=>by obtain ⟨e,g,b,h1,h2⟩:=h; exact ⟨e,g,b,hG _ _ h1,h2⟩
 | .anyb,_,_,h=>h
 | .node a r,_,_,h=>by
  obtain ⟨ta,tr,e,c1,c2,e2,h1,h2⟩:=h
  exact ⟨ta,tr,e,c1,c2,e2,J6y.mono hG k a h1,J6y.mono hG k r h2⟩
 | .tup _ _,_,_,h=>h.elim
 | .tnil,_,_,h=>h.elim
theorem LRel.mono {G G':List GE} {w w':World} {ok ok':Nat→Prop} (hG:Ext G G') (k:J76 w w' ok ok') :
  ∀ (s:Slot) {vs:List Value},LRel G w ok s vs→LRel G' w' ok' s vs
 | .tnil,_,h=>h
 | .tup a r,_,h=>by
  obtain ⟨v,vs',e,⟨t,cs,h1,h2⟩,h3⟩:=h
  exact ⟨v,vs',e,⟨t,cs,J6y.mono hG k a h1,h2⟩,LRel.mono hG k r h3⟩
 | .undef,_,h=>h.elim
 | .v _ _,_,h=>h.elim
 | .nil,_,h=>h.elim
 | .nilp,_,h=>h.elim
 | .own _ _,_,h=>h.elim
 | .ptr _ _,_,h=>h.elim
 | .ref _ _,_,h=>h.elim
 | .fn _ _,_,h=>h.elim
 | .mp _,_,h=>h.elim
 | .anyb,_,h=>h.elim
 | .node _ _,_,h=>h.elim
end
theorem TRel.mono {G G':List GE} {w w':World} {ok ok':Nat→Prop} (hG:Ext G G') (k:J76 w w' ok ok')
  (s:Slot) {v:Value} (h:TRel G w ok s v):TRel G' w' ok' s v:=by
 cases s <;> first
  | trivial
  | exact h
  | (obtain ⟨t,cs,h1,h2⟩:=h; exact ⟨t,cs,J6y.mono hG k _ h1,h2⟩)
  | (obtain ⟨vs,h1,h2⟩:=h; exact ⟨vs,h1,LRel.mono hG k _ h2⟩)
def MapR (w:World) (ok:Nat→Prop) (k v:Ty):List (k.den×v.den)→List MapEntry→Prop
 | [],[]=>True
 | p::ps,e::es=>((∃ c1,RepC w ok k c1 p.1∧e.key=pack k c1)∧∃ c2,RepC w ok v c2 p.2∧e.val=pack v c2)∧MapR w ok k v ps es
 | _,_=>False
theorem MapR.mono {w w':World} {ok ok':Nat→Prop} (q:J76 w w' ok ok') {k v:Ty}:∀ {ps:List (k.den×v.den)} {es:List MapEntry},MapR w ok k v ps es→MapR w' ok' k v ps es
 | [],[],_=>trivial
 | _::_,_::_,⟨⟨⟨c1,h1,h2⟩,c2,h3,h4⟩,h5⟩=>⟨⟨⟨c1,RepC.mono q _ h1,h2⟩,c2,RepC.mono q _ h3,h4⟩,MapR.mono q h5⟩
 | [],_::_,h=>h.elim
 | _::_,[],h=>h.elim
def J8d (es:Array MapEntry) (q:Nat):Prop:=(∀ x ∈ es.toList,x.born < q)∧(es.toList.map (·.born)).Nodup
def MapB (w:World) (ok:Nat→Prop) (k v:Ty) (ps:List (k.den×v.den)) (es:Array MapEntry) (q:Nat):Prop:=MapR w ok k v ps es.toList∧J8d es q
theorem MapB.mono {w w':World} {ok ok':Nat→Prop} (r:J76 w w' ok ok') {k v:Ty} {ps:List (k.den×v.den)} {es:Array MapEntry} {q:Nat} (h:MapB w ok k v ps es q):MapB w' ok' k v ps es q:=⟨MapR.mono r h.1,h.2⟩
def ORel (G:List GE) (w:World) (ok:Nat→Prop) (g:GE):AObj→Prop
 | .row e xs _=>g.kind=.row∧g.ty=e∧g.n=List.length xs∧g.n≤g.cap∧
   ((g.blk=none∧g.cap=0)∨∃ b c T,g.blk=some b∧w.heap[b]?=some (.cells c T (0,0))∧g.cap * e.size≤c.size∧RepC w ok (.arr g.n e) (c.toList.take (g.n * e.size)) xs)
 | .box t s _=>g.kind=.box∧g.ty=t∧∃ b c T,g.blk=some b∧w.heap[b]?=some (.cells c T (0,0))∧J6y G w ok s t c.toList
 | .map k v ps _=>g.kind=.map∧∃ b es q,g.blk=some b∧w.heap[b]?=some (.map es q)∧MapB w ok k v ps es q
 | .dead=>True
theorem cell?_of_heap {w w':World} {b:Nat} (h:w'.heap[b]?=w.heap[b]?) (o:Nat):w'.cell? ⟨b,o,none⟩=w.cell? ⟨b,o,none⟩:=by
 unfold World.cell?
 rw [h]
theorem ORel.mono {G G':List GE} {w w':World} {ok ok':Nat→Prop} (hG:Ext G G') (k:J76 w w' ok ok') {g:GE}
  (hb:∀ b,g.blk=some b→w'.heap[b]?=w.heap[b]?):∀ (o:AObj),ORel G w ok g o→ORel G' w' ok' g o
 | .row e xs _,h=>by
  obtain ⟨h1,h2,h3,h4,h5⟩:=h
  refine ⟨h1,h2,h3,h4,?_⟩
  rcases h5 with h5 | ⟨b,c,T,h5,h6,h7,h8⟩
  ·exact .inl h5
  ·exact .inr ⟨b,c,T,h5,by rw [hb b h5]; exact h6,h7,RepC.mono k _ h8⟩
 | .box t s _,h=>by
  obtain ⟨h1,h2,b,c,T,h3,h4,h5⟩:=h
  exact ⟨h1,h2,b,c,T,h3,by rw [hb b h3]; exact h4,J6y.mono hG k _ h5⟩
 | .map _ _ _ _,h=>by
  obtain ⟨h1,b,es,q,h2,h3,h4⟩:=h
  exact ⟨h1,b,es,q,h2,by rw [hb b h2]; exact h3,MapB.mono k h4⟩
 | .dead,_=>trivial
structure St where
 slots:List (Nat×Slot)
 heap:List AObj
 n:Nat
 m:Nat
def look:List (Nat×Slot)→Nat→Slot
 | [],_=>.undef
 | (i,s)::r,k=>bif Nat.beq i k then s else look r k
structure Ctx where
 A:Nat→Prop
 E:Nat→Prop
 L:Nat→Prop
 w0:World
 G0:List GE
def Jch (G:List GE) (h:List AObj) (b:Nat):Prop:=
 ∃ (l:Nat) (o:AObj) (g:GE),h[l]?=some o∧G[l]?=some g∧o.live=true∧g.blk=some b
def okB (c:Ctx) (G:List GE) (h:List AObj) (w:World) (b:Nat):Prop:=
 b < w.heap.size∧(b < c.w0.heap.size→c.A b)∧¬ Jch G h b
structure HRG (c:Ctx) (G:List GE) (h:List AObj) (w:World):Prop where
 EA:∀ b,c.E b→c.A b
 len:G.length=h.length
 inj:∀ (l l':Nat) (g g':GE) (o o':AObj) (b:Nat),G[l]?=some g→G[l']?=some g'→h[l]?=some o→h[l']?=some o'→
  o.isDead=false→o'.isDead=false→g.blk=some b→g'.blk=some b→l=l'
 inE:∀ (l:Nat) (o:AObj) (g:GE) (b:Nat),h[l]?=some o→G[l]?=some g→o.isDead=false→g.blk=some b→
  b < w.heap.size∧(c.E b∨c.w0.heap.size≤b)
 inL:∀ b,Jch G h b→c.L b∨c.w0.heap.size≤b
 frame:∀ b,b < c.w0.heap.size→¬ c.L b→w.heap[b]?=c.w0.heap[b]?
 big:c.w0.heap.size≤w.heap.size
 os:w.os=c.w0.os
 tape:w.tape=c.w0.tape
 output:w.output=c.w0.output
 objs:∀ (l:Nat) (o:AObj) (g:GE),h[l]?=some o→G[l]?=some g→ORel G w (okB c G h w) g o
structure SRG (c:Ctx) (G:List GE) (st:St) (a:Act) (w:World):Prop extends HRG c G st.heap w where
 slots:∀ i,TRel G w (okB c G st.heap w) (look st.slots i) (a.tmps.getD i undef)
 ent:Ext c.G0 G
 em:c.G0.length=st.m
 sz:a.tmps.size=st.n
 nodef:a.defers=[]
def SR (c:Ctx) (st:St) (a:Act) (w:World):Prop:=∃ G,SRG c G st a w
end Go.Ax

namespace Go.Ax
set_option linter.unusedVariables false
set_option linter.unusedSimpArgs false
def ARel (G:List GE) (w:World) (ok:Nat→Prop) (az:List Slot) (vs:List Value):Prop:=
 az.length=vs.length∧∀ (i:Nat) (s:Slot) (v:Value),az[i]?=some s→vs[i]?=some v→TRel G w ok s v
section
variable (P : Program)
def OpOK (o:Oper) (st st':St):Prop:=
 ∀ (c:Ctx) (a:Act) (w:World),SR c st a w→∀ (next:Act→World→Prop) (Q:Exit→Act→World→Prop),
  (∀ a' w',SR c st' a' w'→next a' w')→o.wp P a w next Q
def Jb0 (ops:Array Oper) (l:List Oper) (st st':St):Prop:=
 ∀ (c:Ctx) (a:Act) (w:World),SR c st a w→∀ (Q:Exit→Act→World→Prop),(∀ a' w',SR c st' a' w'→Q .normal a' w')→wpList P ops Q l a w
def J6i (x:Code) (st:St) (o:Exit) (st':St):Prop:=
 ∀ (c:Ctx) (a:Act) (w:World),SR c st a w→x.wp P (fun e a' w'=>e=o∧SR c st' a' w') a w
def J9x (x:Code) (st:St) (o:Exit) (st':St):Prop:=
 ∃ n,∀ (c:Ctx) (a:Act) (w:World),SR c st a w→Code.rounds P x (fun e a' w'=>e=o∧SR c st' a' w') n a w
def Weak (st st':St):Prop:=∀ (c:Ctx) (a:Act) (w:World),SR c st a w→SR c st' a w
def Jhn (f:FuncId) (args:List Slot) (objs:List AObj) (ret:Slot) (objs':List AObj):Prop:=
 ∀ (c:Ctx) (G:List GE) (vs:List Value),HRG c G objs c.w0→c.G0=G→ARel G c.w0 (okB c G objs c.w0) args vs→
  Calls P f vs.toArray c.w0 fun e w'=>∃ v G',e=.returned v∧HRG c G' objs' w'∧TRel G' w' (okB c G' objs' w') ret v∧Ext G G'
end
section
variable {P : Program}
theorem Weak.refl (st:St):Weak st st:=fun _ _ _ h=>h
theorem Weak.trans {a b c:St} (h:Weak a b) (h':Weak b c):Weak a c:=fun _ _ _ x=>h' _ _ _ (h _ _ _ x)
theorem Jb0.nil (ops:Array Oper) (st:St):Jb0 P ops [] st st:=fun _ _ _ h _ hq=>hq _ _ h
theorem Jb0.weak {ops:Array Oper} {l:List Oper} {st st1 st':St} (hw:Weak st st1) (h:Jb0 P ops l st1 st'):Jb0 P ops l st st':=
 fun c a w hs Q hq=>h c a w (hw c a w hs) Q hq
theorem Jb0.cons {ops:Array Oper} {o:Oper} {l:List Oper} {st st1 st':St} (hg:o.guard=none) (ho:OpOK P o st st1) (hl:Jb0 P ops l st1 st') :
  Jb0 P ops (o::l) st st':=by
 intro c a w hs Q hq
 refine wpList_plain hg fun K hK=>?_
 exact ho c a w hs K Q fun a' w' hs'=>hK _ _ (hl c a' w' hs' Q hq)
theorem Jop {c:Ctx} {G:List GE} {st:St} {a:Act} {w:World} (hs:SRG c G st a w) {i:Nat} {b:Bool} (h:look st.slots i=.v .bool b) :
  a.tmps[i]?=some (.bool b):=by
 have:=hs.slots i
 rw [h] at this
 obtain ⟨t,cs,⟨rfl,h2⟩,e⟩:=this
 simp only [RepC] at h2
 subst h2
 simp only [pack,Ty.isAgg,Bool.false_eq_true,if_false,List.headD_cons] at e
 rw [Array.getD_eq_getD_getElem?] at e
 cases hh:a.tmps[i]? with
 | none=>rw [hh] at e; simp only [Option.getD_none,undef] at e; cases e
 | some v=>rw [hh] at e; simp only [Option.getD_some] at e; rw [e]
theorem Jgn {c:Ctx} {G:List GE} {st:St} {a:Act} {w:World} (hs:SRG c G st a w) {ops:Array Oper} {j:Nat} {oj:Oper} {d:Nat} {b:Bool}
  (hj:ops[j]?=some oj) (hd:oj.dst=some d) (h:look st.slots d=.v .bool b):yielded ops a.tmps j=some b:=by
 have:=Jop hs h
 simp [yielded,hj,hd,this]
theorem Jb0.cons_wanted {ops:Array Oper} {o:Oper} {l:List Oper} {st st1 st':St} {j:Nat} {want:Bool} {oj:Oper} {d:Nat}
  (hg:o.guard=some (j,want)) (hj:ops[j]?=some oj) (hd:oj.dst=some d) (h:look st.slots d=.v .bool want)
  (ho:OpOK P o st st1) (hl:Jb0 P ops l st1 st'):Jb0 P ops (o::l) st st':=by
 intro c a w hs Q hq
 obtain ⟨G,hs'⟩:=id hs
 have hy:=Jgn hs' hj hd h
 refine wpList_step fun K hK=>?_
 rw [if_pos (by simp [Region.wanted,hg,hy])]
 exact ho c a w hs K Q fun a' w' hs'=>hK _ _ (hl c a' w' hs' Q hq)
theorem Jb0.cons_skip {ops:Array Oper} {o:Oper} {l:List Oper} {st st1 st':St} {j:Nat} {want b:Bool} {oj:Oper} {d:Nat}
  (hg:o.guard=some (j,want)) (hj:ops[j]?=some oj) (hd:oj.dst=some d) (h:look st.slots d=.v .bool b) (hb:b≠want)
  (ho:∀ (c:Ctx) (a:Act) (w:World),SR c st a w→SR c st1 (a.put o.dst undef) w) (hl:Jb0 P ops l st1 st'):Jb0 P ops (o::l) st st':=by
 intro c a w hs Q hq
 obtain ⟨G,hs'⟩:=id hs
 have hy:=Jgn hs' hj hd h
 refine wpList_step fun K hK=>?_
 rw [if_neg (by simp [Region.wanted,hg,hy,hb])]
 exact hK _ _ (hl c _ w (ho c a w hs) Q hq)
theorem J6i.region {id:Nat} {ops:Array Oper} {st st':St} (h:Jb0 P ops ops.toList st st'):J6i P (.region id ops false) st .normal st':=
 fun c a w hs=>wp_region_list (h c a w hs _ fun _ _ h=>⟨rfl,h⟩)
theorem J6i.weak {x:Code} {st st1 st':St} {o:Exit} (hw:Weak st st1) (h:J6i P x st1 o st'):J6i P x st o st':=
 fun c a w hs=>h c a w (hw c a w hs)
theorem J6i.weak_post {x:Code} {st st1 st':St} {o:Exit} (h:J6i P x st o st1) (hw:Weak st1 st'):J6i P x st o st':=
 fun c a w hs=>Code.wp_mono (fun _ _ _ ⟨e,h⟩=>⟨e,hw _ _ _ h⟩) (h c a w hs)
theorem J6i.skip (st:St):J6i P .skip st .normal st:=fun _ _ _ hs=>wp_skip ⟨rfl,hs⟩
theorem J6i.label (l:Nat) (st:St):J6i P (.label l) st .normal st:=fun _ _ _ hs=>wp_label ⟨rfl,hs⟩
theorem J6i.exit (id:Nat) (st:St):J6i P (.exit id) st (.exit id) st:=fun _ _ _ hs=>wp_exit ⟨rfl,hs⟩
theorem J6i.goto (l:Nat) (st:St):J6i P (.goto l) st (.goto l) st:=fun _ _ _ hs=>wp_goto ⟨rfl,hs⟩
theorem J6i.ret (st:St):J6i P .ret st .ret st:=fun _ _ _ hs=>wp_ret ⟨rfl,hs⟩
theorem J6i.seq {x y:Code} {st st1 st':St} {o:Exit} (hx:J6i P x st .normal st1) (hy:J6i P y st1 o st'):J6i P (.seq x y) st o st':=
 fun c a w hs=>wp_seq (Code.wp_mono (by rintro e a w ⟨rfl,h⟩; exact hy c a w h) (hx c a w hs))
theorem J6i.seq_out {x y:Code} {st st':St} {o:Exit} (ho:o≠.normal) (hx:J6i P x st o st'):J6i P (.seq x y) st o st':=
 fun c a w hs=>wp_seq (Code.wp_mono (by rintro e a w ⟨rfl,h⟩; cases e <;> first | exact absurd rfl ho | exact ⟨rfl,h⟩) (hx c a w hs))
theorem J6i.cond {t:Nat} {b:Bool} {x y:Code} {st st':St} {o:Exit} (h:look st.slots t=.v .bool b) (hx:J6i P (if b then x else y) st o st') :
  J6i P (.cond (.tmp t) x y) st o st':=by
 intro c a w hs
 obtain ⟨G,hs'⟩:=id hs
 refine wp_cond (t:=b) ?_ (hx c a w hs)
 have:=Jop hs' h
 simp [Act.eval,Array.getD_eq_getD_getElem?,this]
theorem J6i.any {t:Nat} {x y:Code} {st st':St} {o:Exit} (h:look st.slots t=.anyb) (hx:J6i P x st o st') (hy:J6i P y st o st'):J6i P (.cond (.tmp t) x y) st o st':=by
 intro c a w hs
 obtain ⟨G,hs'⟩:=id hs
 have hv:=hs'.slots t
 rw [h] at hv
 obtain ⟨ty,cs,⟨rfl,b,rfl⟩,e⟩:=hv
 have e:a.tmps.getD t undef=.bool b:=e
 refine wp_cond (t:=b) ?_ ?_
 ·simp only [Act.eval]; exact e
 ·cases b
  ·exact hy c a w hs
  ·exact hx c a w hs
theorem J6i.cond_const {b:Bool} {x y:Code} {st st':St} {o:Exit} (hx:J6i P (if b then x else y) st o st') :
  J6i P (.cond (.const (.bool b)) x y) st o st':=fun c a w hs=>wp_cond (t:=b) rfl (hx c a w hs)
theorem J6i.block {id:Nat} {x:Code} {st st':St} (h:J6i P x st .normal st'):J6i P (.block id x) st .normal st':=
 fun c a w hs=>wp_block (Code.wp_mono (by rintro e a w ⟨rfl,h⟩; exact ⟨rfl,h⟩) (h c a w hs))
theorem J6i.block_exit {id:Nat} {x:Code} {st st':St} (h:J6i P x st (.exit id) st'):J6i P (.block id x) st .normal st':=
 fun c a w hs=>wp_block (Code.wp_mono (by rintro e a w ⟨rfl,h⟩; simp only [Exit.inBlock,if_true]; exact ⟨by trivial,h⟩) (h c a w hs))
theorem J6i.block_out {id:Nat} {x:Code} {st st':St} {o:Exit} (ho:o≠.normal) (ho':o≠.exit id) (h:J6i P x st o st'):J6i P (.block id x) st o st':=
 fun c a w hs=>wp_block (Code.wp_mono (by
  rintro e a w ⟨rfl,h2⟩
  cases e with
  | exit id'=>
   have:id'≠id:=fun e=>ho' (by rw [e])
   simp only [Exit.inBlock,this,if_false]; exact ⟨by trivial,h2⟩
  | normal=>exact absurd rfl ho
  | _=>exact ⟨rfl,h2⟩) (h c a w hs))
theorem J9x.out {x:Code} {st st':St} {o:Exit} (ho:o≠.normal) (h:J6i P x st o st'):J9x P x st o st':=
 ⟨1,fun c a w hs=>Code.wp_mono (by rintro e a w ⟨rfl,h2⟩; cases e <;> first | exact absurd rfl ho | exact ⟨rfl,h2⟩) (h c a w hs)⟩
theorem J9x.next {x:Code} {st st1 st':St} {o:Exit} (h:J6i P x st .normal st1) (h':J9x P x st1 o st'):J9x P x st o st':=by
 obtain ⟨n,hn⟩:=h'
 exact ⟨n+1,fun c a w hs=>Code.wp_mono (by rintro e a w ⟨rfl,h2⟩; exact hn c a w h2) (h c a w hs)⟩
theorem J9x.weak {x:Code} {st st1 st':St} {o:Exit} (hw:Weak st st1) (h:J9x P x st1 o st'):J9x P x st o st':=
 let ⟨n,hn⟩:=h; ⟨n,fun c a w hs=>hn c a w (hw c a w hs)⟩
theorem J6i.loop {x:Code} {st st':St} {o:Exit} (h:J9x P x st o st'):J6i P (.loop x) st o st':=
 let ⟨n,hn⟩:=h; fun c a w hs=>wp_loop_rounds n (hn c a w hs)
end
end Go.Ax

namespace Go.Ax
set_option linter.unusedVariables false
set_option linter.unusedSimpArgs false
theorem J7s (d:Nat) (s:Slot) (r:List (Nat×Slot)) (i:Nat):look ((d,s)::r) i=if d=i then s else look r i:=by
 show (bif Nat.beq d i then s else look r i)=_
 by_cases h:d=i
 ·subst h; simp
 ·have:Nat.beq d i=false:=by rw [← Bool.not_eq_true,Nat.beq_eq]; exact h
  rw [this,if_neg h]; rfl
theorem Jex {xs:Array Value} {d i:Nat} {v u:Value} (hd:d < xs.size):(xs.setIfInBounds d v).getD i u=if d=i then v else xs.getD i u:=by
 simp only [Array.getD_eq_getD_getElem?,Array.getElem?_setIfInBounds]
 by_cases h:d=i
 ·subst h; simp [hd]
 ·simp [h]
theorem SRG.put {c:Ctx} {G:List GE} {st:St} {a:Act} {w:World} (h:SRG c G st a w) {d:Nat} {s:Slot} {v:Value} (hd:d < st.n)
  (hv:TRel G w (okB c G st.heap w) s v):SRG c G { st with slots:=(d,s)::st.slots } (a.put (some d) v) w where
 toHRG:=h.toHRG
 slots i:=by
  show TRel _ _ _ (look ((d,s)::st.slots) i) ((a.tmps.setIfInBounds d v).getD i undef)
  rw [J7s,Jex (by rw [h.sz]; exact hd)]
  split
  ·exact hv
  ·exact h.slots i
 ent:=h.ent
 em:=h.em
 sz:=by show (a.tmps.setIfInBounds d v).size=st.n; rw [Array.size_setIfInBounds]; exact h.sz
 nodef:=h.nodef
theorem SRG.on {c:Ctx} {G G':List GE} {st:St} {a:Act} {w w':World} {h':List AObj} (h:SRG c G st a w) (hh:HRG c G' h' w') (hG:Ext G G')
  (k:J76 w w' (okB c G st.heap w) (okB c G' h' w')):SRG c G' { st with heap:=h' } a w' where
 toHRG:=hh
 slots i:=TRel.mono hG k _ (h.slots i)
 ent l g hl:=hG _ _ (h.ent l g hl)
 em:=h.em
 sz:=h.sz
 nodef:=h.nodef
def VOp (P:Program) (o:Oper) (st:St) (s:Slot) (h':List AObj):Prop:=
 ∀ (c:Ctx) (G:List GE) (a:Act) (w:World),SRG c G st a w→
  ∃ v w' G',((execOp a.eval o).run P w=.ok (.value v) w'∨((execOp a.eval o).run P w=.ok .skip w'∧s=.undef))∧
   HRG c G' h' w'∧Ext G G'∧J76 w w' (okB c G st.heap w) (okB c G' h' w')∧TRel G' w' (okB c G' h' w') s v
def putS (o:Oper) (s:Slot) (st:St) (h':List AObj):St:=
 { st with slots:=match o.dst with | some d=>(d,s)::st.slots | none=>st.slots,heap:=h' }
theorem VOp.pure {P:Program} {o:Oper} {st:St} {s:Slot}
  (h:∀ (c:Ctx) (G:List GE) (a:Act) (w:World),SRG c G st a w→∃ v,(execOp a.eval o).run P w=.ok (.value v) w∧TRel G w (okB c G st.heap w) s v) :
  VOp P o st s st.heap:=fun c G a w hs=>
 let ⟨v,h1,h2⟩:=h c G a w hs
 ⟨v,w,G,.inl h1,hs.toHRG,Ext.refl G,⟨fun _ h=>h,fun _ _ _ _ h=>h⟩,h2⟩
def Jda:List Slot→Nat→List (Nat×Slot)
 | [],_=>[]
 | s::r,k=>(k,s)::Jda r (k+1)
theorem Joo:∀ (az:List Slot) (k i:Nat),look (Jda az k) (k+i)=az.getD i .undef
 | [],_,_=>rfl
 | s::r,k,0=>by simp [Jda,J7s]
 | s::r,k,i+1=>by
  rw [Jda,J7s,if_neg (by omega)]
  have:=Joo r (k+1) i
  rw [show k+(i+1)=k+1+i by omega,this]; rfl
def ResOK (P:Program) (fn:Func) (st:St) (r:Slot):Prop:=
 ∀ (c:Ctx) (G:List GE) (a:Act) (w:World),SRG c G st a w→∃ v,(results fn a.tmps).run P w=.ok v w∧TRel G w (okB c G st.heap w) r v
def J6x (m:Nat) (r:Slot) (h:List AObj) (r':Slot) (h':List AObj):Prop:=
 ∀ (c:Ctx) (G:List GE) (w:World) (v:Value),HRG c G h w→TRel G w (okB c G h w) r v→
  ∃ G',HRG c G' h' w∧TRel G' w (okB c G' h' w) r' v∧∀ (l:Nat) (g:GE),l < m→G[l]?=some g→G'[l]?=some g
theorem J6x.refl (m:Nat) (r:Slot) (h:List AObj):J6x m r h r h:=fun _ G _ _ hh hv=>⟨G,hh,hv,fun _ _ _ h=>h⟩
theorem J6x.trans {m:Nat} {r r1 r2:Slot} {h h1 h2:List AObj} (x:J6x m r h r1 h1) (y:J6x m r1 h1 r2 h2):J6x m r h r2 h2:=by
 intro c G w v hh hv
 obtain ⟨G1,hh1,hv1,e1⟩:=x c G w v hh hv
 obtain ⟨G2,hh2,hv2,e2⟩:=y c G1 w v hh1 hv1
 exact ⟨G2,hh2,hv2,fun l g hl hg=>e2 l g hl (e1 l g hl hg)⟩
def entry (fn:Func) (az:List Slot) (objs:List AObj):St:={ slots:=Jda az 0,heap:=objs,n:=fn.ntmps,m:=objs.length }
theorem Jhn.body {P:Program} {f:FuncId} {fn:Func} {code:Code} {az:List Slot} {objs objs':List AObj} {ret r:Slot} {st1:St} {o:Exit}
  (hf:P.funcs[f]?=some fn) (hb:fn.body=some code) (hn:az.length≤fn.ntmps)
  (hc:J6i P code (entry fn az objs) o st1) (ho:o=.normal∨o=.ret) (hr:ResOK P fn st1 r)
  (hw:J6x objs.length r st1.heap ret objs'):Jhn P f az objs ret objs':=by
 intro c G vs hh hG0 ha
 refine calls_of_wp hf hb ?_
 have hlen:vs.toArray.size=az.length:=by simpa using ha.1.symm
 have h0:SRG c G (entry fn az objs) { tmps:=vs.toArray++Array.replicate (fn.ntmps - vs.toArray.size) undef,defers:=[] } c.w0:=by
  refine ⟨hh,fun i=>?_,by rw [hG0]; exact Ext.refl G,by rw [hG0,hh.len]; rfl,?_,rfl⟩
  ·show TRel G c.w0 (okB c G objs c.w0) (look (Jda az 0) i) _
   have:=Joo az 0 i
   rw [Nat.zero_add] at this
   rw [this,List.getD_eq_getElem?_getD,Array.getD_eq_getD_getElem?]
   cases hi:az[i]? with
   | none=>trivial
   | some s=>
    have hlt:i < az.length:=by
     rcases Nat.lt_or_ge i az.length with h | h
     ·exact h
     ·rw [List.getElem?_eq_none h] at hi; cases hi
    rw [Array.getElem?_append_left (by rw [hlen]; exact hlt)]
    have hv:vs[i]?=some (vs[i]'(by rw [← ha.1]; exact hlt)):=List.getElem?_eq_getElem _
    have:=ha.2 i s _ hi hv
    simpa [hv] using this
  ·show (vs.toArray++Array.replicate (fn.ntmps - vs.toArray.size) undef).size=fn.ntmps
   simp only [Array.size_append,Array.size_replicate,hlen]; omega
 refine Code.wp_mono ?_ (hc c _ _ ⟨G,h0⟩)
 rintro e a w ⟨rfl,G1,h1⟩
 obtain ⟨v,hv,hrel⟩:=hr c G1 a w h1
 obtain ⟨G',hh',hv',he⟩:=hw c G1 w v h1.toHRG hrel
 have hext:Ext G G':=by
  intro l g hl
  have hlt:l < objs.length:=by
   rw [← hh.len]
   rcases Nat.lt_or_ge l G.length with h | h
   ·exact h
   ·rw [List.getElem?_eq_none h] at hl; cases hl
  exact he l g hlt (h1.ent l g (by rw [hG0]; exact hl))
 rcases ho with rfl | rfl
 ·exact ⟨h1.nodef,v,hv,v,G',rfl,hh',hv',hext⟩
 ·exact ⟨h1.nodef,v,hv,v,G',rfl,hh',hv',hext⟩
end Go.Ax

namespace Go.Ax
set_option linter.unusedVariables false
set_option linter.unusedSimpArgs false
def fdec (bits:Nat):Option Int:=
 match (FloatKind.f64.decode bits).toInt .zero with
 | some n=>if n.natAbs < 9007199254740992∧FloatKind.f64.nearest n=bits then some n else none
 | none=>none
theorem Jqb {bits:Nat} {n:Int} (h:fdec bits=some n):n.natAbs < 9007199254740992∧FloatKind.f64.nearest n=bits:=by
 unfold fdec at h
 split at h
 ·split at h
  ·rename_i h2; injection h with h; subst h; exact h2
  ·cases h
 ·cases h
def Ji1:Value→Slot
 | .bool b=>.v .bool b
 | .int k n=>if IK.toInt k (IK.ofInt k n)=n then .v (.int k) (IK.ofInt k n) else .undef
 | .string s=>.v .str s.data.toList
 | .slice none 0 0=>.nil
 | .pointer none=>.nilp
 | .float .f64 b=>match fdec b with | some n=>.v .flt n | none=>.undef
 | .complex .f64 a b=>match fdec a,fdec b with | some n,some m=>.v .cplx (n,m) | _,_=>.undef
 | _=>.undef
theorem Jnu (G:List GE) (w:World) (ok:Nat→Prop) (v:Value):TRel G w ok (Ji1 v) v:=by
 unfold Ji1
 split
 ·exact ⟨.bool,_,⟨rfl,rfl⟩,rfl⟩
 ·split
  ·rename_i h; exact ⟨.int _,_,⟨rfl,rfl⟩,by rw [h]; rfl⟩
  ·trivial
 ·exact ⟨.str,_,⟨rfl,rfl⟩,by simp [pack,Ty.isAgg]⟩
 ·exact ⟨.slice .bool,_,⟨⟨_,rfl⟩,rfl⟩,rfl⟩
 ·exact ⟨.ptr,_,⟨rfl,rfl⟩,rfl⟩
 ·split
  ·rename_i h; obtain ⟨h1,h2⟩:=Jqb h; exact ⟨.flt,_,⟨rfl,h1,rfl⟩,by rw [h2]; rfl⟩
  ·trivial
 ·split
  ·rename_i h h'; obtain ⟨h1,h2⟩:=Jqb h; obtain ⟨h3,h4⟩:=Jqb h'
   exact ⟨.cplx,_,⟨rfl,⟨h1,h3⟩,rfl⟩,by simp only [h2,h4]; rfl⟩
  ·trivial
 ·trivial
def opnd (ss:List (Nat×Slot)):Operand→Slot
 | .tmp t=>look ss t
 | .const v=>Ji1 v
 | .func f=>.fn f .tnil
 | .global _=>.undef
theorem J6v {c:Ctx} {G:List GE} {st:St} {a:Act} {w:World} (h:SRG c G st a w) (x:Operand):TRel G w (okB c G st.heap w) (opnd st.slots x) (a.eval x):=by
 cases x with
 | tmp t=>exact h.slots t
 | const v=>exact Jnu _ _ _ v
 | func f=>exact ⟨.fn,_,⟨rfl,[],rfl,rfl⟩,rfl⟩
 | global g=>trivial
def Slot.ids:Slot→List Nat
 | .own l _=>[l]
 | .ptr l _=>[l]
 | .mp l=>[l]
 | .fn _ cap=>cap.ids
 | .node a r=>a.ids++r.ids
 | .tup a r=>a.ids++r.ids
 | _=>[]
def Slot.ren (f:Nat→Nat):Slot→Slot
 | .own l p=>.own (f l) p
 | .ptr l p=>.ptr (f l) p
 | .mp l=>.mp (f l)
 | .fn g cap=>.fn g (cap.ren f)
 | .node a r=>.node (a.ren f) (r.ren f)
 | .tup a r=>.tup (a.ren f) (r.ren f)
 | .undef=>.undef
 | .v t x=>.v t x
 | .nil=>.nil
 | .nilp=>.nilp
 | .ref t x=>.ref t x
 | .anyb=>.anyb
 | .tnil=>.tnil
def AObj.ids:AObj→List Nat
 | .box _ s _=>s.ids
 | _=>[]
def AObj.ren (f:Nat→Nat):AObj→AObj
 | .box t s l=>.box t (s.ren f) l
 | .row e xs l=>.row e xs l
 | .map k v es l=>.map k v es l
 | .dead=>.dead
theorem AObj.live_ren (f:Nat→Nat) (o:AObj):(o.ren f).live=o.live:=by cases o <;> rfl
theorem AObj.isDead_ren (f:Nat→Nat) (o:AObj):(o.ren f).isDead=o.isDead:=by cases o <;> rfl
def Jcj (G G':List GE) (f:Nat→Nat) (ids:List Nat):Prop:=∀ l ∈ ids,∀ (g:GE),G[l]?=some g→G'[f l]?=some g
theorem Jcj.left {G G':List GE} {f:Nat→Nat} {a b:List Nat} (h:Jcj G G' f (a++b)):Jcj G G' f a:=fun l hl=>h l (List.mem_append_left _ hl)
theorem Jcj.right {G G':List GE} {f:Nat→Nat} {a b:List Nat} (h:Jcj G G' f (a++b)):Jcj G G' f b:=fun l hl=>h l (List.mem_append_right _ hl)
mutual
theorem J6y.ren {G G':List GE} {w:World} {ok:Nat→Prop} {f:Nat→Nat} :
  ∀ (s:Slot) {t:Ty} {cs:List Value},Jcj G G' f s.ids→J6y G w ok s t cs→J6y G' w ok (s.ren f) t cs
 | .undef,_,_,_,h=>h
 | .v t x,_,_,_,h=>h
 | .nil,_,_,_,h=>h
 | .nilp,_,_,_,h=>h
 | .own l p,_,_,q,h=>by obtain ⟨g,v,h1,h2⟩:=h; exact ⟨g,v,q l (by simp [Slot.ids]) g h1,h2⟩
 | .ptr l p,_,_,q,h=>by obtain ⟨e,g,v,h1,h2⟩:=h; exact ⟨e,g,v,q l (by simp [Slot.ids]) g h1,h2⟩
 | .ref t x,_,_,_,h=>h
 | .fn f cap,_,_,q,h=>by obtain ⟨e,vs,h1,h2⟩:=h; exact ⟨e,vs,h1,LRel.ren cap q h2⟩
 | .mp l,_,_,q,h=>by obtain ⟨e,g,b,h1,h2⟩:=h; exact ⟨e,g,b,q l (by simp [Slot.ids]) g h1,h2⟩
 | .anyb,_,_,_,h=>h
 | .node a r,_,_,q,h=>by
  obtain ⟨ta,tr,e,c1,c2,e2,h1,h2⟩:=h
  exact ⟨ta,tr,e,c1,c2,e2,J6y.ren a (Jcj.left q) h1,J6y.ren r (Jcj.right q) h2⟩
 | .tup _ _,_,_,_,h=>h.elim
 | .tnil,_,_,_,h=>h.elim
theorem LRel.ren {G G':List GE} {w:World} {ok:Nat→Prop} {f:Nat→Nat} :
  ∀ (s:Slot) {vs:List Value},Jcj G G' f s.ids→LRel G w ok s vs→LRel G' w ok (s.ren f) vs
 | .tnil,_,_,h=>h
 | .tup a r,_,q,h=>by
  obtain ⟨v,vs',e,⟨t,cs,h1,h2⟩,h3⟩:=h
  exact ⟨v,vs',e,⟨t,cs,J6y.ren a (Jcj.left q) h1,h2⟩,LRel.ren r (Jcj.right q) h3⟩
 | .undef,_,_,h=>h.elim
 | .v _ _,_,_,h=>h.elim
 | .nil,_,_,h=>h.elim
 | .nilp,_,_,h=>h.elim
 | .own _ _,_,_,h=>h.elim
 | .ptr _ _,_,_,h=>h.elim
 | .ref _ _,_,_,h=>h.elim
 | .fn _ _,_,_,h=>h.elim
 | .mp _,_,_,h=>h.elim
 | .anyb,_,_,h=>h.elim
 | .node _ _,_,_,h=>h.elim
end
theorem TRel.ren {G G':List GE} {w:World} {ok:Nat→Prop} {f:Nat→Nat} (s:Slot) {v:Value} (q:Jcj G G' f s.ids) (h:TRel G w ok s v) :
  TRel G' w ok (s.ren f) v:=by
 cases s <;> first
  | trivial
  | exact h
  | (obtain ⟨t,cs,h1,h2⟩:=h; exact ⟨t,cs,J6y.ren _ q h1,h2⟩)
  | (obtain ⟨vs,h1,h2⟩:=h; exact ⟨vs,h1,LRel.ren _ q h2⟩)
theorem ORel.ren {G G':List GE} {w:World} {ok:Nat→Prop} {f:Nat→Nat} {g:GE}:∀ (o:AObj),Jcj G G' f o.ids→ORel G w ok g o→ORel G' w ok g (o.ren f)
 | .row _ _ _,_,h=>h
 | .box t s _,q,h=>by
  obtain ⟨h1,h2,b,c,T,h3,h4,h5⟩:=h
  exact ⟨h1,h2,b,c,T,h3,h4,J6y.ren s q h5⟩
 | .map _ _ _ _,_,h=>h
 | .dead,_,_=>trivial
def Slot.flat:Slot→Bool
 | .v t _=>t.flat
 | .ref _ _=>false
 | .fn _ cap=>cap.flat
 | .node a r=>a.flat && r.flat
 | .tup a r=>a.flat && r.flat
 | _=>true
mutual
theorem J6y.flat {G:List GE} {w w':World} {ok ok':Nat→Prop} :
  ∀ (s:Slot) {t:Ty} {cs:List Value},s.flat=true→J6y G w ok s t cs→J6y G w' ok' s t cs
 | .undef,_,_,_,h=>h
 | .v t x,_,_,q,h=>⟨h.1,RepC.flat t q h.2⟩
 | .nil,_,_,_,h=>h
 | .nilp,_,_,_,h=>h
 | .own l p,_,_,q,h=>h
 | .ptr l p,_,_,q,h=>h
 | .ref t x,_,_,q,h=>by cases q
 | .fn f cap,_,_,q,h=>by obtain ⟨e,vs,h1,h2⟩:=h; exact ⟨e,vs,h1,LRel.flat cap q h2⟩
 | .mp l,_,_,q,h=>h
 | .anyb,_,_,_,h=>h
 | .node a r,_,_,q,h=>by
  simp only [Slot.flat,Bool.and_eq_true] at q
  obtain ⟨ta,tr,e,c1,c2,e2,h1,h2⟩:=h
  exact ⟨ta,tr,e,c1,c2,e2,J6y.flat a q.1 h1,J6y.flat r q.2 h2⟩
 | .tup _ _,_,_,_,h=>h.elim
 | .tnil,_,_,_,h=>h.elim
theorem LRel.flat {G:List GE} {w w':World} {ok ok':Nat→Prop} :
  ∀ (s:Slot) {vs:List Value},s.flat=true→LRel G w ok s vs→LRel G w' ok' s vs
 | .tnil,_,_,h=>h
 | .tup a r,_,q,h=>by
  simp only [Slot.flat,Bool.and_eq_true] at q
  obtain ⟨v,vs',e,⟨t,cs,h1,h2⟩,h3⟩:=h
  exact ⟨v,vs',e,⟨t,cs,J6y.flat a q.1 h1,h2⟩,LRel.flat r q.2 h3⟩
 | .undef,_,_,h=>h.elim
 | .v _ _,_,_,h=>h.elim
 | .nil,_,_,h=>h.elim
 | .nilp,_,_,h=>h.elim
 | .own _ _,_,_,h=>h.elim
 | .ptr _ _,_,_,h=>h.elim
 | .ref _ _,_,_,h=>h.elim
 | .fn _ _,_,_,h=>h.elim
 | .mp _,_,_,h=>h.elim
 | .anyb,_,_,h=>h.elim
 | .node _ _,_,_,h=>h.elim
end
theorem TRel.flat {G:List GE} {w w':World} {ok ok':Nat→Prop} (s:Slot) {v:Value} (q:s.flat=true) (h:TRel G w ok s v):TRel G w' ok' s v:=by
 cases s <;> first
  | trivial
  | exact h
  | (obtain ⟨t,cs,h1,h2⟩:=h; exact ⟨t,cs,J6y.flat _ q h1,h2⟩)
  | (obtain ⟨vs,h1,h2⟩:=h; exact ⟨vs,h1,LRel.flat _ q h2⟩)
def AObj.flat:AObj→Bool
 | .row e _ _=>e.flat
 | .box _ s _=>s.flat
 | .map _ _ _ _=>false
 | .dead=>true
theorem ORel.flat {G:List GE} {w:World} {ok ok':Nat→Prop} {g:GE}:∀ (o:AObj),o.flat=true→ORel G w ok g o→ORel G w ok' g o
 | .row e xs _,q,h=>by
  obtain ⟨h1,h2,h3,h4,h5⟩:=h
  refine ⟨h1,h2,h3,h4,?_⟩
  rcases h5 with h5 | ⟨b,c,T,h5,h6,h7,h8⟩
  ·exact .inl h5
  ·exact .inr ⟨b,c,T,h5,h6,h7,RepC.flat (.arr g.n e) q h8⟩
 | .box t s _,q,h=>by
  obtain ⟨h1,h2,b,c,T,h3,h4,h5⟩:=h
  exact ⟨h1,h2,b,c,T,h3,h4,J6y.flat s q h5⟩
 | .map _ _ _ _,q,h=>by cases q
 | .dead,_,_=>trivial
end Go.Ax

namespace Go.Ax
set_option linter.unusedVariables false
set_option linter.unusedSimpArgs false
def J77:Ty→List Value
 | .int k=>[.int k 0]
 | .bool=>[.bool false]
 | .str=>[.string ⟨#[]⟩]
 | .flt=>[.float .f64 0]
 | .cplx=>[.complex .f64 0 0]
 | .ptr=>[.pointer none]
 | .mp=>[.map none]
 | .fn=>[.nilFunc]
 | .arr n e=>(List.replicate n (J77 e)).flatten
 | .slice _=>[.slice none 0 0]
 | .unit=>[]
 | .fld a r=>J77 a++J77 r
def Jfs:Ty→Slot
 | .slice _=>.nil
 | .ptr=>.nilp
 | .mp=>.undef
 | .fn=>.undef
 | .fld a r=>if (Ty.fld a r).flat then .v (.fld a r) (Ty.zero (.fld a r)) else .node (Jfs a) (Jfs r)
 | .arr n e=>if e.flat then .v (.arr n e) (Ty.zero (.arr n e)) else .undef
 | t=>.v t t.zero
theorem J7p:∀ (t:Ty),(J77 t).length=t.size
 | .int _=>rfl | .bool=>rfl | .str=>rfl | .flt=>rfl | .cplx=>rfl | .ptr=>rfl | .mp=>rfl | .fn=>rfl
 | .slice _=>rfl | .unit=>rfl
 | .fld a r=>by simp [J77,Ty.size,J7p a,J7p r]
 | .arr n e=>by simp [J77,Ty.size,J7p e]
theorem IK.toInt_zero (k:IntKind):IK.toInt k (IK.zero k)=0:=by cases k <;> rfl
theorem J88 {α:Type} {R:List Value→α→Prop} {cs:List Value} {x:α} (h:R cs x):∀ n,Cat R (List.replicate n cs).flatten (List.replicate n x)
 | 0=>rfl
 | n+1=>by
  rw [List.replicate_succ,List.replicate_succ,List.flatten_cons]
  exact ⟨cs,_,rfl,h,J88 h n⟩
theorem Jgx:FloatKind.f64.nearest 0=0:=by decide
theorem J8s (w:World) (ok:Nat→Prop):∀ (t:Ty),t.flat=true→RepC w ok t (J77 t) t.zero
 | .int k,_=>by simp only [RepC,J77,Ty.zero,IK.toInt_zero]
 | .bool,_=>rfl
 | .str,_=>rfl
 | .flt,_=>⟨by decide,by rw [show Ty.zero .flt=(0:Int) from rfl,Jgx]; rfl⟩
 | .cplx,_=>⟨by decide,by rw [show Ty.zero .cplx=((0:Int),(0:Int)) from rfl]; simp only [Jgx]; rfl⟩
 | .ptr,q=>by cases q
 | .mp,q=>by cases q
 | .fn,q=>by cases q
 | .slice _,q=>by cases q
 | .unit,_=>rfl
 | .fld a r,q=>by
  simp only [Ty.flat,Bool.and_eq_true] at q
  exact ⟨_,_,rfl,J8s w ok a q.1,J8s w ok r q.2⟩
 | .arr n e,q=>⟨by simp [Ty.zero],J88 (J8s w ok e q) n⟩
theorem Jd9 (G:List GE) (w:World) (ok:Nat→Prop):∀ (t:Ty),J6y G w ok (Jfs t) t (J77 t)
 | .int k=>⟨rfl,J8s w ok (.int k) rfl⟩
 | .bool=>⟨rfl,J8s w ok .bool rfl⟩
 | .str=>⟨rfl,J8s w ok .str rfl⟩
 | .flt=>⟨rfl,J8s w ok .flt rfl⟩
 | .cplx=>⟨rfl,J8s w ok .cplx rfl⟩
 | .ptr=>⟨rfl,rfl⟩
 | .mp=>rfl
 | .fn=>rfl
 | .slice _=>⟨⟨_,rfl⟩,rfl⟩
 | .unit=>⟨rfl,rfl⟩
 | .fld a r=>by
  unfold Jfs
  split
  ·rename_i h; exact ⟨rfl,J8s w ok _ h⟩
  ·exact ⟨a,r,rfl,_,_,rfl,Jd9 G w ok a,Jd9 G w ok r⟩
 | .arr n e=>by
  unfold Jfs
  split
  ·rename_i h; exact ⟨rfl,J8s w ok (.arr n e) h⟩
  ·exact J7p _
abbrev Tab:=List (Nat×Ty×Nat)
def Tab.get:Tab→Nat→Option (Ty×Nat)
 | [],_=>none
 | (i,x)::r,k=>bif Nat.beq i k then some x else Tab.get r k
def Tab.ty (T:Tab) (t:Nat):Option Ty:=match T.get t with | some (x,_)=>some x | none=>none
def J9l (T:Tab):List Field→Ty→Nat→Prop
 | [],.unit,_=>True
 | f::fs,.fld a r,o=>T.ty f.type=some a∧f.offset=o∧J9l T fs r (o+a.size)
 | _,_,_=>False
def fieldsB (T:Tab):List Field→Ty→Nat→Bool
 | [],.unit,_=>true
 | f::fs,.fld a r,o=>decide (T.ty f.type=some a) && decide (f.offset=o) && fieldsB T fs r (o+a.size)
 | _,_,_=>false
theorem Je5 {T:Tab}:∀ {fs:List Field} {t:Ty} {o:Nat},fieldsB T fs t o=true→J9l T fs t o
 | [],.unit,_,_=>trivial
 | f::fs,.fld a r,o,h=>by
  simp only [fieldsB,Bool.and_eq_true,decide_eq_true_eq] at h
  exact ⟨h.1.1,h.1.2,Je5 h.2⟩
 | [],.int _,_,h=>by simp [fieldsB] at h
 | [],.bool,_,h=>by simp [fieldsB] at h
 | [],.str,_,h=>by simp [fieldsB] at h
 | [],.flt,_,h=>by simp [fieldsB] at h
 | [],.cplx,_,h=>by simp [fieldsB] at h
 | [],.ptr,_,h=>by simp [fieldsB] at h
 | [],.mp,_,h=>by simp [fieldsB] at h
 | [],.fn,_,h=>by simp [fieldsB] at h
 | [],.arr _ _,_,h=>by simp [fieldsB] at h
 | [],.slice _,_,h=>by simp [fieldsB] at h
 | [],.fld _ _,_,h=>by simp [fieldsB] at h
 | _::_,.unit,_,h=>by simp [fieldsB] at h
 | _::_,.int _,_,h=>by simp [fieldsB] at h
 | _::_,.bool,_,h=>by simp [fieldsB] at h
 | _::_,.str,_,h=>by simp [fieldsB] at h
 | _::_,.flt,_,h=>by simp [fieldsB] at h
 | _::_,.cplx,_,h=>by simp [fieldsB] at h
 | _::_,.ptr,_,h=>by simp [fieldsB] at h
 | _::_,.mp,_,h=>by simp [fieldsB] at h
 | _::_,.fn,_,h=>by simp [fieldsB] at h
 | _::_,.arr _ _,_,h=>by simp [fieldsB] at h
 | _::_,.slice _,_,h=>by simp [fieldsB] at h
def J7k (T:Tab) (d:TypeDesc):Ty→Prop
 | .int k=>d=.int k
 | .bool=>d=.bool
 | .str=>d=.string
 | .flt=>d=.float .f64
 | .cplx=>d=.complex .f64
 | .ptr=>∃ e,d=.pointer e
 | .mp=>∃ k e,d=.map k e
 | .fn=>∃ p r v,d=.func p r v
 | .arr n e=>∃ te,d=.array n te∧T.ty te=some e
 | .slice e=>∃ te,d=.slice te∧T.ty te=some e
 | .unit=>∃ fs,d=.struct fs∧J9l T fs.toList .unit 0
 | .fld a r=>∃ fs,d=.struct fs∧J9l T fs.toList (.fld a r) 0
def Jdp (T:Tab) (d:TypeDesc):Ty→Bool
 | .int k=>match d with | .int k'=>decide (k'=k) | _=>false
 | .bool=>match d with | .bool=>true | _=>false
 | .str=>match d with | .string=>true | _=>false
 | .flt=>match d with | .float .f64=>true | _=>false
 | .cplx=>match d with | .complex .f64=>true | _=>false
 | .ptr=>match d with | .pointer _=>true | _=>false
 | .mp=>match d with | .map _ _=>true | _=>false
 | .fn=>match d with | .func _ _ _=>true | _=>false
 | .arr n e=>match d with | .array m te=>decide (m=n) && decide (T.ty te=some e) | _=>false
 | .slice e=>match d with | .slice te=>decide (T.ty te=some e) | _=>false
 | .unit=>match d with | .struct fs=>fieldsB T fs.toList .unit 0 | _=>false
 | .fld a r=>match d with | .struct fs=>fieldsB T fs.toList (.fld a r) 0 | _=>false
theorem Jwc {T:Tab} {d:TypeDesc}:∀ {t:Ty},Jdp T d t=true→J7k T d t
 | .int k,h=>by cases d <;> simp_all [Jdp,J7k]
 | .bool,h=>by cases d <;> simp_all [Jdp,J7k]
 | .str,h=>by cases d <;> simp_all [Jdp,J7k]
 | .flt,h=>by cases d with | float k=>cases k <;> simp_all [Jdp,J7k] | _=>simp_all [Jdp,J7k]
 | .cplx,h=>by cases d with | complex k=>cases k <;> simp_all [Jdp,J7k] | _=>simp_all [Jdp,J7k]
 | .ptr,h=>by cases d <;> simp_all [Jdp,J7k]
 | .mp,h=>by cases d <;> simp_all [Jdp,J7k]
 | .fn,h=>by cases d <;> simp_all [Jdp,J7k]
 | .arr n e,h=>by cases d <;> simp_all [Jdp,J7k]
 | .slice e,h=>by cases d <;> simp_all [Jdp,J7k]
 | .unit,h=>by cases d <;> simp_all [Jdp,J7k]; exact Je5 h
 | .fld a r,h=>by cases d <;> simp_all [Jdp,J7k]; exact Je5 h
def Jre:List Value→List Value→Bool
 | [],[]=>true
 | x::xs,y::ys=>(match x,y with
  | .int k n,.int k' n'=>decide (k=k') && decide (n=n')
  | .bool b,.bool b'=>decide (b=b')
  | .string s,.string s'=>decide (s.data.toList=s'.data.toList)
  | .float .f64 a,.float .f64 b=>Nat.beq a b
  | .complex .f64 a b,.complex .f64 c d=>Nat.beq a c && Nat.beq b d
  | .pointer none,.pointer none=>true
  | .map none,.map none=>true
  | .nilFunc,.nilFunc=>true
  | .slice none 0 0,.slice none 0 0=>true
  | _,_=>false) && Jre xs ys
 | _,_=>false
theorem Jjz:∀ {xs ys:List Value},Jre xs ys=true→xs=ys
 | [],[],_=>rfl
 | x::xs,y::ys,h=>by
  simp only [Jre,Bool.and_eq_true] at h
  obtain ⟨h1,h2⟩:=h
  rw [Jjz h2]
  have:x=y:=by
   split at h1 <;> simp_all
   all_goals first
    | (rename_i s s' ; cases s; cases s'; simp_all)
    | done
  rw [this]
 | [],_::_,h=>by simp [Jre] at h
 | _::_,[],h=>by simp [Jre] at h
structure TyI (P:Program) (T:Tab) (t:Nat) (ty:Ty) (by_:Nat):Prop where
 info:∃ i,P.info? t=some i∧i.size=ty.size∧i.bytes=by_∧(ty=.mp∨ty=.fn∨i.zero=some (pack ty (J77 ty)))
 desc:∃ d,P.underlying t=some d∧J7k T d ty
 small:by_≤65536
def tyB (P:Program) (T:Tab) (t:Nat) (ty:Ty) (by_:Nat):Bool:=
  (match P.info? t with
   | some i=>Nat.beq i.size ty.size && Nat.beq i.bytes by_ && Nat.ble by_ 65536 && (match ty with
     | .mp=>true
     | .fn=>true
     | ty=>match i.zero with
       | some (.agg cs)=>ty.isAgg && Jre cs.toList (J77 ty)
       | some v=>!ty.isAgg && Jre [v] (J77 ty)
       | none=>false)
   | none=>false) &&
  (match P.underlying t with
   | some d=>Jdp T d ty
   | none=>false)
theorem K4q {P:Program} {T:Tab} {t:Nat} {ty:Ty} {by_:Nat} (h:tyB P T t ty by_=true):TyI P T t ty by_:=by
 unfold tyB at h
 rw [Bool.and_eq_true] at h
 obtain ⟨h1,h2⟩:=h
 constructor
 ·split at h1
  ·rename_i i hi
   refine ⟨i,hi,?_⟩
   simp only [Bool.and_eq_true,Nat.beq_eq] at h1
   obtain ⟨⟨⟨h1,h3⟩,_⟩,h4⟩:=h1
   refine ⟨h1,h3,?_⟩
   split at h4
   ·exact .inl rfl
   ·exact .inr (.inl rfl)
   ·right; right
    split at h4
    ·rename_i cs hz
     rw [Bool.and_eq_true] at h4
     rw [hz,pack,if_pos h4.1,← Jjz h4.2]
    ·rename_i v hv hz
     rw [Bool.and_eq_true,Bool.not_eq_true'] at h4
     rw [hz,pack,if_neg (by rw [h4.1]; simp),← Jjz h4.2]; rfl
    ·cases h4
  ·cases h1
 ·split at h2
  ·rename_i d hd; exact ⟨d,hd,Jwc h2⟩
  ·cases h2
 ·split at h1
  ·simp only [Bool.and_eq_true] at h1
   exact Nat.le_of_ble_eq_true h1.1.2
  ·cases h1
def J78 (P:Program) (T:Tab):Prop:=∀ t ty by_,T.get t=some (ty,by_)→TyI P T t ty by_
def tabB (P:Program) (T:Tab):Tab→Bool
 | []=>true
 | (t,ty,b)::r=>tyB P T t ty b && tabB P T r
theorem Jte {P:Program} {T:Tab}:∀ {R:Tab},tabB P T R=true→∀ t ty by_,R.get t=some (ty,by_)→TyI P T t ty by_
 | [],_,_,_,_,h=>by simp [Tab.get] at h
 | (t',ty',b')::r,hb,t,ty,b,h=>by
  simp only [tabB,Bool.and_eq_true] at hb
  rw [Tab.get] at h
  by_cases e:t'=t
  ·subst e
   simp only [Nat.beq_refl,cond_true,Option.some.injEq,Prod.mk.injEq] at h
   obtain ⟨rfl,rfl⟩:=h
   exact K4q hb.1
  ·have:Nat.beq t' t=false:=by rw [← Bool.not_eq_true,Nat.beq_eq]; exact e
   rw [this,cond_false] at h
   exact Jte hb.2 t ty b h
theorem Tab.ty_get {T:Tab} {t:Nat} {ty:Ty} (h:T.ty t=some ty):∃ b,T.get t=some (ty,b):=by
 unfold Tab.ty at h
 split at h
 ·rename_i x b hx; injection h with h; subst h; exact ⟨b,hx⟩
 ·cases h
end Go.Ax

namespace Go.Ax
set_option linter.unusedVariables false
set_option linter.unusedSimpArgs false
def vget:(t:Ty)→t.den→List Step→Slot
 | t,x,[]=>.v t x
 | .fld a _,x,.fld 0::p=>vget a x.1 p
 | .fld _ r,x,.fld (k+1)::p=>vget r x.2 (.fld k::p)
 | .arr _ e,xs,.idx i::p=>vget e (List.getD xs i e.zero) p
 | _,_,_=>.undef
def Slot.get:Slot→List Step→Slot
 | s,[]=>s
 | .v t x,p=>vget t x p
 | .node a _,.fld 0::p=>a.get p
 | .node _ r,.fld (k+1)::p=>r.get (.fld k::p)
 | _,_=>.undef
def cast? (t t':Ty) (x:t.den):Option t'.den:=if h:t=t' then some (h ▸ x) else none
def vset:(t:Ty)→t.den→List Step→(t':Ty)→t'.den→Option t.den
 | t,_,[],t',y=>cast? t' t y
 | .fld a _,x,.fld 0::p,t',y=>match vset a x.1 p t' y with | some z=>some (z,x.2) | none=>none
 | .fld _ r,x,.fld (k+1)::p,t',y=>match vset r x.2 (.fld k::p) t' y with | some z=>some (x.1,z) | none=>none
 | .arr _ e,xs,.idx i::p,t',y=>match vset e (List.getD xs i e.zero) p t' y with | some z=>some (List.set xs i z) | none=>none
 | _,_,_,_,_=>none
def vput:(t:Ty)→t.den→List Step→Slot→Slot
 | _,_,[],n=>n
 | .fld a r,x,.fld 0::p,n=>.node (vput a x.1 p n) (.v r x.2)
 | .fld a r,x,.fld (k+1)::p,n=>.node (.v a x.1) (vput r x.2 (.fld k::p) n)
 | _,_,_,_=>.undef
def Slot.set:Slot→List Step→Slot→Slot
 | _,[],n=>n
 | .v t x,p,n=>match n with
  | .v t' y=>match vset t x p t' y with
   | some z=>.v t z
   | none=>.undef
  | n=>vput t x p n
 | .node a r,.fld 0::p,n=>.node (a.set p n) r
 | .node a r,.fld (k+1)::p,n=>.node a (r.set (.fld k::p) n)
 | _,_,_=>.undef
theorem POff.le:∀ {t:Ty} {p:List Step} {o:Nat} {t':Ty},POff t p o t'→o+t'.size≤t.size
 | t,[],_,_,h=>by obtain ⟨rfl,rfl⟩:=h; omega
 | t,.idx i::p,_,_,h=>by
  obtain ⟨n,e,o2,rfl,hi,h,rfl⟩:=h
  have:=POff.le h
  simp only [Ty.size]
  have h2:(i+1) * e.size≤n * e.size:=Nat.mul_le_mul_right _ hi
  rw [Nat.add_mul] at h2
  omega
 | .fld a r,.fld 0::p,_,_,h=>by
  obtain ⟨o1,t1,o2,hf,h,rfl⟩:=h
  simp only [Ty.field,Option.some.injEq,Prod.mk.injEq] at hf
  obtain ⟨rfl,rfl⟩:=hf
  have:=POff.le h
  simp only [Ty.size]; omega
 | .fld a r,.fld (k+1)::p,o,t',h=>by
  obtain ⟨o1,t1,o2,hf,h,rfl⟩:=h
  simp only [Ty.field] at hf
  cases hr:r.field k with
  | none=>rw [hr] at hf; cases hf
  | some z=>
   obtain ⟨z1,z2⟩:=z
   rw [hr] at hf
   simp only [Option.some.injEq,Prod.mk.injEq] at hf
   obtain ⟨rfl,rfl⟩:=hf
   have:POff r (.fld k::p) (z1+o2) t':=⟨z1,z2,o2,hr,h,rfl⟩
   have:=POff.le this
   simp only [Ty.size]; omega
 | .int _,.fld k::p,_,_,h=>by obtain ⟨_,_,_,hf,_⟩:=h; cases k <;> simp [Ty.field] at hf
 | .bool,.fld k::p,_,_,h=>by obtain ⟨_,_,_,hf,_⟩:=h; cases k <;> simp [Ty.field] at hf
 | .str,.fld k::p,_,_,h=>by obtain ⟨_,_,_,hf,_⟩:=h; cases k <;> simp [Ty.field] at hf
 | .flt,.fld k::p,_,_,h=>by obtain ⟨_,_,_,hf,_⟩:=h; cases k <;> simp [Ty.field] at hf
 | .cplx,.fld k::p,_,_,h=>by obtain ⟨_,_,_,hf,_⟩:=h; cases k <;> simp [Ty.field] at hf
 | .ptr,.fld k::p,_,_,h=>by obtain ⟨_,_,_,hf,_⟩:=h; cases k <;> simp [Ty.field] at hf
 | .mp,.fld k::p,_,_,h=>by obtain ⟨_,_,_,hf,_⟩:=h; cases k <;> simp [Ty.field] at hf
 | .fn,.fld k::p,_,_,h=>by obtain ⟨_,_,_,hf,_⟩:=h; cases k <;> simp [Ty.field] at hf
 | .arr _ _,.fld k::p,_,_,h=>by obtain ⟨_,_,_,hf,_⟩:=h; cases k <;> simp [Ty.field] at hf
 | .slice _,.fld k::p,_,_,h=>by obtain ⟨_,_,_,hf,_⟩:=h; cases k <;> simp [Ty.field] at hf
 | .unit,.fld k::p,_,_,h=>by obtain ⟨_,_,_,hf,_⟩:=h; cases k <;> simp [Ty.field] at hf
termination_by t p=>(p.length,SizeOf.sizeOf t)
theorem POff.fld_inv {a r:Ty} {k:Nat} {p:List Step} {o:Nat} {t':Ty} (h:POff (.fld a r) (.fld k::p) o t') :
  (k=0∧POff a p o t')∨∃ j o',k=j+1∧o=a.size+o'∧POff r (.fld j::p) o' t':=by
 obtain ⟨o1,t1,o2,hf,h,rfl⟩:=h
 cases k with
 | zero=>
  simp only [Ty.field,Option.some.injEq,Prod.mk.injEq] at hf
  obtain ⟨rfl,rfl⟩:=hf
  exact .inl ⟨rfl,by rw [Nat.zero_add]; exact h⟩
 | succ k=>
  simp only [Ty.field] at hf
  cases hr:r.field k with
  | none=>rw [hr] at hf; cases hf
  | some z=>
   obtain ⟨z1,z2⟩:=z
   rw [hr] at hf
   simp only [Option.some.injEq,Prod.mk.injEq] at hf
   obtain ⟨rfl,rfl⟩:=hf
   exact .inr ⟨k,z1+o2,rfl,by omega,⟨z1,z2,o2,hr,h,rfl⟩⟩
theorem Cat.at {α:Type} {R:List Value→α→Prop} {sz:Nat} (hl:∀ cs x,R cs x→cs.length=sz) (d:α) :
  ∀ {cs:List Value} {xs:List α} {i:Nat},Cat R cs xs→i < xs.length→R ((cs.drop (i * sz)).take sz) (xs.getD i d):=by
 intro cs xs
 induction xs generalizing cs with
 | nil=>intro i _ h; simp at h
 | cons x xs ih=>
  rintro i ⟨c1,c2,rfl,h1,h2⟩ hi
  have hl1:=hl _ _ h1
  cases i with
  | zero=>
   simp only [Nat.zero_mul,List.drop_zero,List.getD_cons_zero]
   rw [← hl1,List.take_left']; exact h1
   rfl
  | succ i=>
   rw [List.getD_cons_succ,Nat.add_mul,Nat.one_mul,Nat.add_comm,← List.drop_drop,← hl1,List.drop_left' rfl,hl1]
   exact ih h2 (by simpa using hi)
theorem Cat.put {α:Type} {R:List Value→α→Prop} {sz:Nat} (hl:∀ cs x,R cs x→cs.length=sz) {n:List Value} {y:α} (hn:R n y) :
  ∀ {cs:List Value} {xs:List α} {i:Nat},Cat R cs xs→i < xs.length→Cat R (cs.take (i * sz)++n++cs.drop (i * sz+sz)) (xs.set i y):=by
 intro cs xs
 induction xs generalizing cs with
 | nil=>intro i _ h; simp at h
 | cons x xs ih=>
  rintro i ⟨c1,c2,rfl,h1,h2⟩ hi
  have hl1:=hl _ _ h1
  cases i with
  | zero=>
   simp only [Nat.zero_mul,List.take_zero,List.nil_append,Nat.zero_add,List.set_cons_zero]
   exact ⟨n,c2,by rw [← hl1,List.drop_left' rfl],hn,h2⟩
  | succ i=>
   rw [List.set_cons_succ]
   have h3:=ih h2 (by simpa using hi)
   refine ⟨c1,_,?_,h1,h3⟩
   have e0:(i+1) * sz=sz+i * sz:=by rw [Nat.add_mul,Nat.one_mul,Nat.add_comm]
   rw [e0]
   have e1:List.take (sz+i * sz) (c1++c2)=c1++c2.take (i * sz):=by
    rw [← hl1,List.take_length_add_append]
   have e2:List.drop (sz+i * sz+sz) (c1++c2)=c2.drop (i * sz+sz):=by
    rw [Nat.add_assoc,← hl1,List.drop_length_add_append]
   rw [e1,e2]
   simp only [List.append_assoc]
theorem Jgq {α:Type} (l:List α) (o s a b:Nat) (h:o+s≤b):(((l.drop a).take b).drop o).take s=(l.drop (a+o)).take s:=by
 rw [List.drop_take,List.drop_drop,List.take_take,Nat.min_eq_left (by omega)]
theorem Jso {cs:List Value} {n o s:Nat} (h:cs.length=n) (h2:o+s≤n):((cs.drop o).take s).length=s:=by
 rw [List.length_take,List.length_drop]; omega
theorem Jna {G:List GE} {w:World} {ok:Nat→Prop}:∀ {t:Ty} {x:t.den} {p:List Step} {o:Nat} {t':Ty} {cs:List Value},
  RepC w ok t cs x→POff t p o t'→J6y G w ok (vget t x p) t' ((cs.drop o).take t'.size):=by
 intro t x p
 fun_induction vget t x p with
 | case1 t x=>
  intro o t' cs h hp
  obtain ⟨rfl,rfl⟩:=hp
  rw [List.drop_zero,← RepC.len _ h,List.take_length]
  exact ⟨rfl,h⟩
 | case2 a r x p ih=>
  intro o t' cs h hp
  obtain ⟨c1,c2,rfl,h1,h2⟩:=h
  rcases POff.fld_inv hp with ⟨_,hp⟩ | ⟨j,_,hk,_⟩
  ·have hle:=POff.le hp
   rw [← RepC.len _ h1] at hle
   have:=ih h1 hp
   rwa [List.drop_append_of_le_length (by omega),List.take_append_of_le_length (by rw [List.length_drop]; omega)]
  ·cases hk
 | case3 a r x k p ih=>
  intro o t' cs h hp
  obtain ⟨c1,c2,rfl,h1,h2⟩:=h
  rcases POff.fld_inv hp with ⟨hk,_⟩ | ⟨j,o',hk,rfl,hp⟩
  ·cases hk
  ·injection hk with hk; subst hk
   have:=ih h2 hp
   rwa [← RepC.len _ h1,List.drop_length_add_append]
 | case4 n e xs i p ih=>
  intro o t' cs h hp
  obtain ⟨hn,hc⟩:=h
  obtain ⟨n',e',o2,heq,hi,hp,rfl⟩:=hp
  injection heq with e1 e2; subst e1; subst e2
  have h1:=Cat.at (fun cs x=>RepC.len e) e.zero hc (by rw [hn]; exact hi)
  have:=ih h1 hp
  rwa [Jgq _ _ _ _ _ (POff.le hp)] at this
 | case5 t x p h1 h2 h3 h4=>
  intro o t' cs h hp
  exact Jso (RepC.len _ h) (POff.le hp)
theorem Slot.get_ok {G:List GE} {w:World} {ok:Nat→Prop}:∀ {s:Slot} {p:List Step} {t:Ty} {o:Nat} {t':Ty} {cs:List Value},
  J6y G w ok s t cs→POff t p o t'→J6y G w ok (s.get p) t' ((cs.drop o).take t'.size):=by
 intro s p
 fun_induction Slot.get s p with
 | case1 s=>
  intro t o t' cs h hp
  obtain ⟨rfl,rfl⟩:=hp
  rw [List.drop_zero,← J6y.len _ h,List.take_length]; exact h
 | case2 t0 x p hp0=>
  intro t o t' cs h hp
  obtain ⟨rfl,h⟩:=h
  exact Jna h hp
 | case3 a r p ih=>
  intro t o t' cs h hp
  obtain ⟨ta,tr,rfl,c1,c2,rfl,h1,h2⟩:=h
  rcases POff.fld_inv hp with ⟨_,hp⟩ | ⟨j,_,hk,_⟩
  ·have hle:=POff.le hp
   rw [← J6y.len _ h1] at hle
   have:=ih h1 hp
   rwa [List.drop_append_of_le_length (by omega),List.take_append_of_le_length (by rw [List.length_drop]; omega)]
  ·cases hk
 | case4 a r k p ih=>
  intro t o t' cs h hp
  obtain ⟨ta,tr,rfl,c1,c2,rfl,h1,h2⟩:=h
  rcases POff.fld_inv hp with ⟨hk,_⟩ | ⟨j,o',hk,rfl,hp⟩
  ·cases hk
  ·injection hk with hk; subst hk
   have:=ih h2 hp
   rwa [← J6y.len _ h1,List.drop_length_add_append]
 | case5 s p=>
  intro t o t' cs h hp
  exact Jso (J6y.len _ h) (POff.le hp)
def splice (cs:List Value) (o:Nat) (n:List Value):List Value:=cs.take o++n++cs.drop (o+n.length)
theorem Jbn {cs n:List Value} {o:Nat} (h:o+n.length≤cs.length):(splice cs o n).length=cs.length:=by
 simp only [splice,List.length_append,List.length_take,List.length_drop]; omega
theorem Jeg {cs n:List Value} (h:n.length=cs.length):splice cs 0 n=n:=by
 simp [splice,h]
theorem Jam {c1 c2 n:List Value} {o:Nat} (h:o+n.length≤c1.length):splice (c1++c2) o n=splice c1 o n++c2:=by
 simp only [splice]
 rw [List.take_append_of_le_length (by omega),List.drop_append_of_le_length (by omega)]
 simp only [List.append_assoc]
theorem Jay {c1 c2 n:List Value} {o:Nat}:splice (c1++c2) (c1.length+o) n=c1++splice c2 o n:=by
 simp only [splice]
 rw [List.take_length_add_append,Nat.add_assoc,List.drop_length_add_append]
 simp only [List.append_assoc]
theorem Jz0 {cs n:List Value} {a o b:Nat} (h:o+n.length≤b) (hb:a+b≤cs.length) :
  splice cs (a+o) n=cs.take a++splice ((cs.drop a).take b) o n++cs.drop (a+b):=by
 have e1:cs=cs.take a++((cs.drop a).take b++cs.drop (a+b)):=by
  conv=>lhs; rw [← List.take_append_drop a cs,← List.take_append_drop b (cs.drop a),List.drop_drop]
 have hl1:(cs.take a).length=a:=by rw [List.length_take]; omega
 have hl2:((cs.drop a).take b).length=b:=by rw [List.length_take,List.length_drop]; omega
 generalize cs.take a=A at *
 generalize (cs.drop a).take b=B at *
 generalize cs.drop (a+b)=D at *
 rw [e1,← hl1,Jay,Jam (by rw [hl2]; exact h)]
 simp only [List.append_assoc]
theorem K4x {w:World} {ok:Nat→Prop}:∀ {t:Ty} {x:t.den} {p:List Step} {t':Ty} {y:t'.den} {z:t.den} {o:Nat} {cs n:List Value},
  RepC w ok t cs x→POff t p o t'→RepC w ok t' n y→vset t x p t' y=some z→RepC w ok t (splice cs o n) z:=by
 intro t x p t' y
 fun_induction vset t x p t' y with
 | case1 t t0 x y=>
  intro z o cs n h hp hn hz
  obtain ⟨rfl,rfl⟩:=hp
  simp only [cast?,dif_pos,Option.some.injEq] at hz
  subst hz
  rw [Jeg (by rw [RepC.len _ h,RepC.len _ hn])]; exact hn
 | case2 a r x p t' y z hz ih=>
  intro z' o cs n h hp hn hz'
  injection hz' with hz'; subst hz'
  obtain ⟨c1,c2,rfl,h1,h2⟩:=h
  rcases POff.fld_inv hp with ⟨_,hp⟩ | ⟨j,_,hk,_⟩
  ·have hle:=POff.le hp
   rw [← RepC.len _ h1,← RepC.len _ hn] at hle
   exact ⟨_,_,Jam hle,ih h1 hp hn hz,h2⟩
  ·cases hk
 | case3=>intro z o cs n h hp hn hz; cases hz
 | case4 a r x k p t' y z hz ih=>
  intro z' o cs n h hp hn hz'
  injection hz' with hz'; subst hz'
  obtain ⟨c1,c2,rfl,h1,h2⟩:=h
  rcases POff.fld_inv hp with ⟨hk,_⟩ | ⟨j,o',hk,rfl,hp⟩
  ·cases hk
  ·injection hk with hk; subst hk
   rw [← RepC.len _ h1,Jay]
   exact ⟨_,_,rfl,h1,ih h2 hp hn hz⟩
 | case5=>intro z o cs n h hp hn hz; cases hz
 | case6 m e i p t1 z xs y hz ih=>
  intro z' o cs n h hp hn hz'
  injection hz' with hz'; subst hz'
  obtain ⟨hm,hc⟩:=h
  obtain ⟨n',e',o2,heq,hi,hp,rfl⟩:=hp
  injection heq with e1 e2; subst e1; subst e2
  have h1:=Cat.at (fun cs x=>RepC.len e) e.zero hc (by rw [hm]; exact hi)
  have h2:=ih h1 hp hn hz
  have hle:=POff.le hp
  rw [← RepC.len _ hn] at hle
  have hlen:=Cat.len (fun cs x=>RepC.len e) hc
  have hi2:(i+1) * e.size≤m * e.size:=Nat.mul_le_mul_right _ hi
  rw [Nat.add_mul,Nat.one_mul] at hi2
  rw [Jz0 hle (by rw [hlen,hm]; exact hi2)]
  exact ⟨by rw [List.length_set]; exact hm,Cat.put (R:=RepC w ok e) (fun cs x=>RepC.len e) h2 hc (by rw [hm]; exact hi)⟩
 | case7=>intro z o cs n h hp hn hz; cases hz
 | case8=>intro z o cs n h hp hn hz; cases hz
theorem Jd4 {G:List GE} {w:World} {ok:Nat→Prop} {t t':Ty} {cs n:List Value} {o:Nat} {p:List Step} (h:cs.length=t.size) (hp:POff t p o t')
  (hn:n.length=t'.size):J6y G w ok .undef t (splice cs o n):=by
 have:=POff.le hp
 show (splice cs o n).length=t.size
 rw [Jbn (by rw [h,hn]; exact this),h]
theorem K4w {G:List GE} {w:World} {ok:Nat→Prop}:∀ {t:Ty} {x:t.den} {p:List Step} {s:Slot} {o:Nat} {t':Ty} {cs n:List Value},
  RepC w ok t cs x→POff t p o t'→J6y G w ok s t' n→J6y G w ok (vput t x p s) t (splice cs o n):=by
 intro t x p s
 fun_induction vput t x p s with
 | case1 t x s=>
  intro o t' cs n h hp hn
  obtain ⟨rfl,rfl⟩:=hp
  rw [Jeg (by rw [RepC.len _ h,J6y.len _ hn])]; exact hn
 | case2 a r x p s ih=>
  intro o t' cs n h hp hn
  obtain ⟨c1,c2,rfl,h1,h2⟩:=h
  rcases POff.fld_inv hp with ⟨_,hp⟩ | ⟨j,_,hk,_⟩
  ·have hle:=POff.le hp
   rw [← RepC.len _ h1,← J6y.len _ hn] at hle
   exact ⟨a,r,rfl,_,_,Jam hle,ih h1 hp hn,rfl,h2⟩
  ·cases hk
 | case3 a r x k p s ih=>
  intro o t' cs n h hp hn
  obtain ⟨c1,c2,rfl,h1,h2⟩:=h
  rcases POff.fld_inv hp with ⟨hk,_⟩ | ⟨j,o',hk,rfl,hp⟩
  ·cases hk
  ·injection hk with hk; subst hk
   rw [← RepC.len _ h1,Jay]
   exact ⟨a,r,rfl,_,_,rfl,⟨rfl,h1⟩,ih h2 hp hn⟩
 | case4 t x p s h1 h2 h3=>
  intro o t' cs n h hp hn
  exact Jd4 (RepC.len _ h) hp (J6y.len _ hn)
theorem Slot.set_ok {G:List GE} {w:World} {ok:Nat→Prop}:∀ {s:Slot} {p:List Step} {s':Slot} {t:Ty} {o:Nat} {t':Ty} {cs n:List Value},
  J6y G w ok s t cs→POff t p o t'→J6y G w ok s' t' n→J6y G w ok (s.set p s') t (splice cs o n):=by
 intro s p s'
 fun_induction Slot.set s p s' with
 | case1 s s'=>
  intro t o t' cs n h hp hn
  obtain ⟨rfl,rfl⟩:=hp
  rw [Jeg (by rw [J6y.len _ h,J6y.len _ hn])]; exact hn
 | case2 t0 x p hp0 t1 y z hz=>
  intro t o t' cs n h hp hn
  obtain ⟨rfl,h⟩:=h
  obtain ⟨rfl,hn⟩:=hn
  exact ⟨rfl,K4x h hp hn hz⟩
 | case3 t0 x p hp0 t1 y hz=>
  intro t o t' cs n h hp hn
  exact Jd4 (J6y.len _ h) hp (J6y.len _ hn)
 | case4 t0 x p hp0 s' hs'=>
  intro t o t' cs n h hp hn
  obtain ⟨rfl,h⟩:=h
  exact K4w h hp hn
 | case5 a r p s' ih=>
  intro t o t' cs n h hp hn
  obtain ⟨ta,tr,rfl,c1,c2,rfl,h1,h2⟩:=h
  rcases POff.fld_inv hp with ⟨_,hp⟩ | ⟨j,_,hk,_⟩
  ·have hle:=POff.le hp
   rw [← J6y.len _ h1,← J6y.len _ hn] at hle
   exact ⟨ta,tr,rfl,_,_,Jam hle,ih h1 hp hn,h2⟩
  ·cases hk
 | case6 a r k p s' ih=>
  intro t o t' cs n h hp hn
  obtain ⟨ta,tr,rfl,c1,c2,rfl,h1,h2⟩:=h
  rcases POff.fld_inv hp with ⟨hk,_⟩ | ⟨j,o',hk,rfl,hp⟩
  ·cases hk
  ·injection hk with hk; subst hk
   rw [← J6y.len _ h1,Jay]
   exact ⟨ta,tr,rfl,_,_,rfl,h1,ih h2 hp hn⟩
 | case7 s p s'=>
  intro t o t' cs n h hp hn
  exact Jd4 (J6y.len _ h) hp (J6y.len _ hn)
end Go.Ax

namespace Go.Ax
set_option linter.unusedVariables false
set_option linter.unusedSimpArgs false
variable {P : Program} {T : Tab}
theorem TyI.run_info {t:Nat} {ty:Ty} {b:Nat} (h:TyI P T t ty b) (w:World):∃ i,(typeInfo t).run P w=.ok i w∧i.size=ty.size∧i.bytes=b∧
  (ty=.mp∨ty=.fn∨i.zero=some (pack ty (J77 ty))):=by
 obtain ⟨i,hi,h1,h2,h3⟩:=h.info
 exact ⟨i,by simp [typeInfo,hi],h1,h2,h3⟩
theorem TyI.run_size {t:Nat} {ty:Ty} {b:Nat} (h:TyI P T t ty b) (w:World):(sizeOf t).run P w=.ok ty.size w:=by
 obtain ⟨i,hi,h1,_⟩:=h.run_info w
 simp [sizeOf,hi,h1]
theorem TyI.run_zero {t:Nat} {ty:Ty} {b:Nat} (h:TyI P T t ty b) (h1:ty≠.mp) (h2:ty≠.fn) (w:World):(zeroValue t).run P w=.ok (pack ty (J77 ty)) w:=by
 obtain ⟨i,hi,_,_,h3⟩:=h.run_info w
 rcases h3 with h3 | h3 | h3
 ·exact absurd h3 h1
 ·exact absurd h3 h2
 ·simp [zeroValue,hi,h3]
theorem TyI.run_under {t:Nat} {ty:Ty} {b:Nat} (h:TyI P T t ty b) (w:World):∃ d,(underlying t).run P w=.ok d w∧J7k T d ty:=by
 obtain ⟨d,hd,h1⟩:=h.desc
 exact ⟨d,by simp [underlying,hd],h1⟩
theorem TyI.run_isAgg {t:Nat} {ty:Ty} {b:Nat} (h:TyI P T t ty b) (w:World):(isAgg t).run P w=.ok ty.isAgg w:=by
 obtain ⟨d,hd,h1⟩:=h.run_under w
 simp only [Go.isAgg,Sem.run_bind,hd,Result.andThen_ok]
 cases ty with
 | arr n e=>obtain ⟨_,rfl,_⟩:=h1; rfl
 | slice e=>obtain ⟨_,rfl,_⟩:=h1; rfl
 | unit=>obtain ⟨_,rfl,_⟩:=h1; rfl
 | fld a r=>obtain ⟨_,rfl,_⟩:=h1; rfl
 | ptr=>obtain ⟨_,rfl⟩:=h1; rfl
 | mp=>obtain ⟨_,_,rfl⟩:=h1; rfl
 | fn=>obtain ⟨_,_,_,rfl⟩:=h1; rfl
 | int k=>simp only [J7k] at h1; subst h1; rfl
 | bool=>simp only [J7k] at h1; subst h1; rfl
 | str=>simp only [J7k] at h1; subst h1; rfl
 | flt=>simp only [J7k] at h1; subst h1; rfl
 | cplx=>simp only [J7k] at h1; subst h1; rfl
theorem add_plain (b o i:Nat):(⟨b,o,none⟩:Addr).add i=⟨b,o+i,none⟩:=by
 unfold Addr.add
 split
 ·rename_i h; subst h; rfl
 ·rfl
theorem run_loadCellsFrom (w:World) (b o:Nat) (cs:List Value):∀ (n i:Nat) (acc:Array Value),i+n=cs.length→(∀ j,j < cs.length→w.cell? ⟨b,o+j,none⟩=cs[j]?)→
  acc.toList=cs.take i→(loadCellsFrom ⟨b,o,none⟩ i n acc).run P w=.ok cs.toArray w
 | 0,i,acc,h,_,ha=>by
  have:acc.toList=cs:=by rw [ha,List.take_of_length_le (by omega)]
  simp [loadCellsFrom,← this]
 | n+1,i,acc,h,hc,ha=>by
  have hi:i < cs.length:=by omega
  have hci:=hc i hi
  rw [List.getElem?_eq_getElem hi] at hci
  simp only [loadCellsFrom,add_plain,Sem.run_bind,run_load,hci,Result.andThen_ok]
  refine run_loadCellsFrom w b o cs n (i+1) _ (by omega) hc ?_
  rw [Array.toList_push,ha,List.take_succ_eq_append_getElem hi]
theorem run_loadCells {w:World} {b o:Nat} {cs:List Value} (h:∀ j,j < cs.length→w.cell? ⟨b,o+j,none⟩=cs[j]?) {n:Nat} (hn:n=cs.length) :
  (loadCells ⟨b,o,none⟩ n).run P w=.ok cs.toArray w:=
 run_loadCellsFrom w b o cs n 0 #[] (by omega) h rfl
theorem Jc8 {t:Nat} {ty:Ty} {by_:Nat} (h:TyI P T t ty by_) {w:World} {b o:Nat} {cs:List Value} (hl:cs.length=ty.size)
  (hc:∀ j,j < cs.length→w.cell? ⟨b,o+j,none⟩=cs[j]?):(loadVar t ⟨b,o,none⟩).run P w=.ok (pack ty cs) w:=by
 simp only [loadVar,Sem.run_bind,h.run_isAgg w,Result.andThen_ok]
 unfold pack
 cases ha:ty.isAgg with
 | true=>simp [h.run_size w,run_loadCells hc hl.symm]
 | false=>
  have h1:ty.size=1:=by cases ty <;> simp_all [Ty.isAgg,Ty.size]
  have h2:=hc 0 (by omega)
  cases cs with
  | nil=>simp [h1] at hl
  | cons v r=>simp [Nat.add_zero] at h2; simp [h2]
structure Wrote (w w':World) (b:Nat) (c:Array Value) (T:TypeId):Prop where
 here:w'.heap[b]?=some (.cells c T (0,0))
 other:∀ k,k≠b→w'.heap[k]?=w.heap[k]?
 size:w'.heap.size=w.heap.size
 os:w'.os=w.os
 tape:w'.tape=w.tape
 output:w'.output=w.output
structure Jvf (w w':World) (b:Nat):Prop where
 other:∀ k,k≠b→w'.heap[k]?=w.heap[k]?
 size:w'.heap.size=w.heap.size
 os:w'.os=w.os
 tape:w'.tape=w.tape
 output:w'.output=w.output
theorem Wrote.base {w w':World} {b:Nat} {c:Array Value} {T:TypeId} (h:Wrote w w' b c T):Jvf w w' b:=⟨h.other,h.size,h.os,h.tape,h.output⟩
theorem Wrote.trans {w w1 w2:World} {b:Nat} {c c1:Array Value} {T:TypeId} (h:Wrote w w1 b c T) (k:Wrote w1 w2 b c1 T):Wrote w w2 b c1 T:=
 ⟨k.here,fun i hi=>(k.other i hi).trans (h.other i hi),k.size.trans h.size,k.os.trans h.os,k.tape.trans h.tape,k.output.trans h.output⟩
theorem Jnb {w:World} {b o:Nat} {c:Array Value} {T:TypeId} (h:w.heap[b]?=some (.cells c T (0,0))) (v:Value) :
  Wrote w (w.setCell ⟨b,o,none⟩ v) b (c.setIfInBounds o v) T:=by
 refine ⟨?_,fun k hk=>RowKit.Below.heap_setCell _ _ _ _ hk,by simp,rfl,rfl,rfl⟩
 simp only [World.setCell,Array.getElem?_modify,if_true,h,Option.map_some]
 simp
theorem cell?_here {w:World} {b:Nat} {c:Array Value} {T:TypeId} {f:Nat×Nat} (h:w.heap[b]?=some (.cells c T f)) (o:Nat):w.cell? ⟨b,o,none⟩=c[o]?:=by
 simp [World.cell?,h]
theorem Jlc (c:Array Value) (o:Nat) (v:Value) (h:o < c.size):(c.setIfInBounds o v).toList=splice c.toList o [v]:=by
 rw [Array.toList_setIfInBounds,splice]
 simp only [List.length_cons,List.length_nil,Nat.zero_add]
 rw [List.set_eq_take_append_cons_drop,if_pos (by simpa using h)]
 simp
theorem Jfn (cs n:List Value) (o:Nat) (v:Value) (h:o+(v::n).length≤cs.length):splice (splice cs o [v]) (o+1) n=splice cs o (v::n):=by
 simp only [splice,List.length_cons,List.length_nil,Nat.zero_add]
 have hl:(cs.take o).length=o:=by rw [List.length_take]; simp at h; omega
 generalize hA:cs.take o=A at *
 have e:A++[v]++cs.drop (o+1)=(A++[v])++cs.drop (o+1):=rfl
 have hl2:(A++[v]).length=o+1:=by simp [hl]
 rw [List.take_append_of_le_length (by omega),List.take_of_length_le (by omega)]
 rw [← hl2,List.drop_length_add_append,List.drop_drop]
 simp only [List.append_assoc,List.cons_append,List.nil_append,hl2]
 congr 4
 omega
theorem J9m {T:TypeId} (b o:Nat):∀ (vs:List Value) (i:Nat) (w:World) (c:Array Value),w.heap[b]?=some (.cells c T (0,0))→o+i+vs.length≤c.size→
  (∀ v ∈ vs,v.oneCell'=true)→∃ w' c',(storeCells ⟨b,o,none⟩ vs i).run P w=.ok () w'∧Wrote w w' b c' T∧c'.toList=splice c.toList (o+i) vs
 | [],i,w,c,h,_,_=>⟨w,c,by simp [storeCells],⟨h,fun _ _=>rfl,rfl,rfl,rfl,rfl⟩,by simp [splice]⟩
 | v::vs,i,w,c,h,hl,hv=>by
  simp only [List.length_cons] at hl
  have hcell:w.cell? ⟨b,o+i,none⟩=some (c[o+i]'(by omega)):=by rw [cell?_here h,Array.getElem?_eq_getElem]
  have hfr:w.frozen? ⟨b,o+i,none⟩=false:=by simp [World.frozen?,h]
  have hw1:=Jnb (o:=o+i) h v
  obtain ⟨w',c',h1,h2,h3⟩:=J9m b o vs (i+1) (w.setCell ⟨b,o+i,none⟩ v) _ hw1.here (by rw [Array.size_setIfInBounds]; omega)
   (fun u hu=>hv u (List.mem_cons_of_mem _ hu))
  refine ⟨w',c',?_,hw1.trans h2,?_⟩
  ·simp only [storeCells,add_plain,Sem.run_bind]
   rw [run_store P w _ v _ (hv v (List.mem_cons_self ..)),hcell]
   simp only [hfr,Bool.false_eq_true,if_false,Result.andThen_ok]
   exact h1
  ·rw [h3,Jlc _ _ _ (by omega),← Nat.add_assoc o i 1,Jfn]
   simp only [List.length_cons,Array.length_toList]; omega
def Slot.solid:Slot→Bool
 | .undef=>false
 | .node a r=>a.solid && r.solid
 | .tup _ _=>false
 | .tnil=>false
 | _=>true
theorem Cat.all {α:Type} {R:List Value→α→Prop} (h:∀ cs x,R cs x→∀ v ∈ cs,v.oneCell'=true) :
  ∀ {cs:List Value} {xs:List α},Cat R cs xs→∀ v ∈ cs,v.oneCell'=true:=by
 intro cs xs
 induction xs generalizing cs with
 | nil=>intro h v hv; simp only [Cat] at h; subst h; cases hv
 | cons x xs ih=>
  rintro ⟨c1,c2,rfl,h1,h2⟩ v hv
  rcases List.mem_append.1 hv with hv | hv
  ·exact h _ _ h1 v hv
  ·exact ih h2 v hv
theorem RepC.cells {w:World} {ok:Nat→Prop}:∀ (t:Ty) {cs:List Value} {x:t.den},RepC w ok t cs x→∀ v ∈ cs,v.oneCell'=true
 | .int k,cs,x,h,v,hv=>by simp only [RepC] at h; subst h; simp at hv; subst hv; rfl
 | .bool,cs,x,h,v,hv=>by simp only [RepC] at h; subst h; simp at hv; subst hv; rfl
 | .str,cs,x,h,v,hv=>by simp only [RepC] at h; subst h; simp at hv; subst hv; rfl
 | .flt,cs,x,h,v,hv=>by obtain ⟨_,rfl⟩:=h; simp at hv; subst hv; rfl
 | .cplx,cs,x,h,v,hv=>by obtain ⟨_,rfl⟩:=h; simp at hv; subst hv; rfl
 | .ptr,_,_,h,_,_=>h.elim
 | .mp,_,_,h,_,_=>h.elim
 | .fn,_,_,h,_,_=>h.elim
 | .arr n e,cs,xs,h,v,hv=>Cat.all (fun cs x=>RepC.cells e) h.2 v hv
 | .slice e,cs,xs,h,v,hv=>by obtain ⟨a,c,rfl,_⟩:=h; simp at hv; subst hv; rfl
 | .unit,cs,_,h,v,hv=>by simp only [RepC] at h; subst h; cases hv
 | .fld a r,cs,x,h,v,hv=>by
  obtain ⟨c1,c2,rfl,h1,h2⟩:=h
  rcases List.mem_append.1 hv with hv | hv
  ·exact RepC.cells a h1 v hv
  ·exact RepC.cells r h2 v hv
theorem J6y.cells {G:List GE} {w:World} {ok:Nat→Prop}:∀ (s:Slot) {t:Ty} {cs:List Value},s.solid=true→J6y G w ok s t cs→∀ v ∈ cs,v.oneCell'=true
 | .undef,_,_,q,_,_,_=>by cases q
 | .v t x,_,_,_,h,v,hv=>RepC.cells _ h.2 v hv
 | .nil,_,_,_,h,v,hv=>by obtain ⟨_,rfl⟩:=h; simp at hv; subst hv; rfl
 | .nilp,_,_,_,h,v,hv=>by obtain ⟨_,rfl⟩:=h; simp at hv; subst hv; rfl
 | .own l p,_,_,_,h,v,hv=>by
  obtain ⟨g,u,_,rfl,hu⟩:=h; simp at hv; subst hv
  obtain ⟨_,_,_,rfl⟩ | ⟨_,b,o,n,e,_,_,_,rfl⟩:=hu <;> rfl
 | .ptr l p,_,_,_,h,v,hv=>by obtain ⟨_,g,u,_,rfl,_,_,_,_,_,_,rfl⟩:=h; simp at hv; subst hv; rfl
 | .ref t x,_,_,_,h,v,hv=>by obtain ⟨_,b,o,cs',rfl,_⟩:=h; simp at hv; subst hv; rfl
 | .fn f cap,_,_,_,h,v,hv=>by obtain ⟨_,vs,rfl,_⟩:=h; simp at hv; subst hv; rfl
 | .mp l,_,_,_,h,v,hv=>by obtain ⟨_,g,b,_,_,_,rfl⟩:=h; simp at hv; subst hv; rfl
 | .anyb,_,_,_,h,v,hv=>by obtain ⟨_,b,rfl⟩:=h; simp at hv; subst hv; rfl
 | .node a r,_,_,q,h,v,hv=>by
  simp only [Slot.solid,Bool.and_eq_true] at q
  obtain ⟨ta,tr,_,c1,c2,rfl,h1,h2⟩:=h
  rcases List.mem_append.1 hv with hv | hv
  ·exact J6y.cells a q.1 h1 v hv
  ·exact J6y.cells r q.2 h2 v hv
 | .tup _ _,_,_,q,_,_,_=>by cases q
 | .tnil,_,_,q,_,_,_=>by cases q
theorem pack_cells {ty:Ty} {cs:List Value} (hl:cs.length=ty.size) (hc:∀ v ∈ cs,v.oneCell'=true):(pack ty cs).cells.toList=cs:=by
 unfold pack
 cases ha:ty.isAgg with
 | true=>simp [Value.cells]
 | false=>
  have h1:ty.size=1:=by cases ty <;> simp_all [Ty.isAgg,Ty.size]
  match cs,hl,hc with
  | [v],_,hc=>
   have:=hc v (by simp)
   cases v <;> simp_all [Value.cells,Value.oneCell']
  | [],hl,_=>simp [h1] at hl
  | _::_::_,hl,_=>simp [h1] at hl
theorem Jpg {t:Nat} {ty:Ty} {by_:Nat} (h:TyI P T t ty by_) {w:World} {b o:Nat} {c:Array Value} {U:TypeId} {cs:List Value} (hl:cs.length=ty.size)
  (hc:∀ v ∈ cs,v.oneCell'=true) (hb:w.heap[b]?=some (.cells c U (0,0))) (hs:o+ty.size≤c.size) :
  ∃ w' c',(storeVar t ⟨b,o,none⟩ (pack ty cs)).run P w=.ok () w'∧Wrote w w' b c' U∧c'.toList=splice c.toList o cs:=by
 have hp:=pack_cells hl hc
 obtain ⟨w',c',h1,h2,h3⟩:=J9m (P:=P) b o cs 0 w c hb (by omega) hc
 refine ⟨w',c',?_,h2,by simpa using h3⟩
 have hsz:(pack ty cs).cells.size=ty.size:=by rw [← Array.length_toList,hp,hl]
 simp only [storeVar,Sem.run_bind,h.run_size w,Result.andThen_ok,hsz,ne_eq,not_true_eq_false,if_false,hp]
 simpa using h1
end Go.Ax

namespace Go.Ax
set_option linter.unusedVariables false
set_option linter.unusedSimpArgs false
variable {P : Program} {T : Tab}
theorem Jb3 {α:Type} {h:List α} {l:Nat} {o o':α} (hl:h[l]?=some o) (k:Nat):(h.set l o')[k]?=if k=l then some o' else h[k]?:=by
 have hlt:l < h.length:=by
  rcases Nat.lt_or_ge l h.length with x | x
  ·exact x
  ·rw [List.getElem?_eq_none x] at hl; cases hl
 rw [List.getElem?_set]
 by_cases e:k=l
 ·subst e; simp [hlt]
 ·simp [e,Ne.symm e]
theorem Joz {G:List GE} {h:List AObj} {l:Nat} {o o':AObj} (hl:h[l]?=some o) (e:o'.live=o.live) (b:Nat):Jch G (h.set l o') b↔Jch G h b:=by
 constructor
 ·rintro ⟨k,x,g,h1,h2,h3,h4⟩
  rw [Jb3 hl] at h1
  by_cases hk:k=l
  ·subst hk; rw [if_pos rfl] at h1; injection h1 with h1; subst h1
   exact ⟨k,o,g,hl,h2,by rw [← e]; exact h3,h4⟩
  ·rw [if_neg hk] at h1; exact ⟨k,x,g,h1,h2,h3,h4⟩
 ·rintro ⟨k,x,g,h1,h2,h3,h4⟩
  by_cases hk:k=l
  ·subst hk; rw [hl] at h1; injection h1 with h1; subst h1
   exact ⟨k,o',g,by rw [Jb3 hl,if_pos rfl],h2,by rw [e]; exact h3,h4⟩
  ·exact ⟨k,x,g,by rw [Jb3 hl,if_neg hk]; exact h1,h2,h3,h4⟩
theorem K3k {c:Ctx} {G:List GE} {h:List AObj} {l:Nat} {o o':AObj} {w w':World} (hl:h[l]?=some o) (e:o'.live=o.live) (hs:w'.heap.size=w.heap.size) :
  okB c G (h.set l o') w'=okB c G h w:=by
 funext b
 simp only [okB,Joz hl e,hs]
theorem HRG.wrote0 {c : Ctx} {G : List GE} {h : List AObj} {w w' : World} {b : Nat} {l : Nat} {o o' : AObj} {g : GE}
    (hh : HRG c G h w) (hl : h[l]? = some o) (hg : G[l]? = some g) (hlive : o.live = true) (hb : g.blk = some b) (hw : Jvf w w' b)
    (e : o'.live = true) (hd : o'.isDead = false) (hr : J76 w w' (okB c G h w) (okB c G h w) → ORel G w' (okB c G h w) g o') :
    HRG c G (h.set l o') w' ∧ okB c G (h.set l o') w' = okB c G h w ∧ J76 w w' (okB c G h w) (okB c G h w) := by
  have e' : o'.live = o.live := by rw [e, hlive]
  have hok : okB c G (h.set l o') w' = okB c G h w := K3k hl e' hw.size
  have hown : Jch G h b := ⟨l, o, g, hl, hg, hlive, hb⟩
  have hdead : o.isDead = false := by cases o <;> simp_all [AObj.live, AObj.isDead]
  have k : J76 w w' (okB c G h w) (okB c G h w) := by
    refine ⟨fun _ h => h, fun b' o' v hb' hv => ?_⟩
    have hne : b' ≠ b := fun e => hb'.2.2 (e ▸ hown)
    rw [cell?_of_heap (hw.other b' hne)]; exact hv
  refine ⟨?_, hok, k⟩
  refine { EA := hh.EA, len := by rw [List.length_set]; exact hh.len, inj := ?_, inE := ?_, inL := ?_, frame := ?_, big := by rw [hw.size]; exact hh.big,
           os := hw.os.trans hh.os, tape := hw.tape.trans hh.tape, output := hw.output.trans hh.output, objs := ?_ }
  · intro l1 l2 g1 g2 o1 o2 b' hg1 hg2 ho1 ho2 hd1 hd2 hb1 hb2
    rw [Jb3 hl] at ho1 ho2
    have f : ∀ (l1 : Nat) (o1 : AObj), (if l1 = l then some o' else h[l1]?) = some o1 → o1.isDead = false → ∃ o2, h[l1]? = some o2 ∧ o2.isDead = false := by
      intro l1 o1 ho1 hd1
      by_cases hk : l1 = l
      · subst hk; exact ⟨o, hl, hdead⟩
      · rw [if_neg hk] at ho1; exact ⟨o1, ho1, hd1⟩
    obtain ⟨x1, hx1, hy1⟩ := f l1 o1 ho1 hd1
    obtain ⟨x2, hx2, hy2⟩ := f l2 o2 ho2 hd2
    exact hh.inj l1 l2 g1 g2 x1 x2 b' hg1 hg2 hx1 hx2 hy1 hy2 hb1 hb2
  · intro l1 o1 g1 b' ho1 hg1 hd1 hb1
    rw [Jb3 hl] at ho1
    rw [hw.size]
    by_cases hk : l1 = l
    · subst hk; exact hh.inE l1 o g1 b' hl hg1 hdead hb1
    · rw [if_neg hk] at ho1; exact hh.inE l1 o1 g1 b' ho1 hg1 hd1 hb1
  · intro b' hb'
    exact hh.inL b' ((Joz hl e' b').1 hb')
  · intro b' hb' hL
    have hne : b' ≠ b := by
      rintro rfl
      rcases hh.inL _ hown with h1 | h1
      · exact hL h1
      · omega
    rw [hw.other _ hne]; exact hh.frame _ hb' hL
  · intro l1 o1 g1 ho1 hg1
    rw [hok]
    rw [Jb3 hl] at ho1
    by_cases hk : l1 = l
    · subst hk; rw [if_pos rfl] at ho1; injection ho1 with ho1; subst ho1
      rw [hg] at hg1; injection hg1 with hg1; subst hg1
      exact hr k
    · rw [if_neg hk] at ho1
      cases hd1 : o1.isDead with
      | true => cases o1 <;> simp [AObj.isDead] at hd1; trivial
      | false =>
        refine ORel.mono (Ext.refl G) k (fun b' hb' => hw.other b' ?_) o1 (hh.objs l1 o1 g1 ho1 hg1)
        rintro rfl
        exact hk (hh.inj l1 l g1 g o1 o _ hg1 hg ho1 hl hd1 hdead hb' hb)
theorem HRG.wrote {c:Ctx} {G:List GE} {h:List AObj} {w w':World} {b:Nat} {cs:Array Value} {U:TypeId} {l:Nat} {o o':AObj} {g:GE}
  (hh:HRG c G h w) (hl:h[l]?=some o) (hg:G[l]?=some g) (hlive:o.live=true) (hb:g.blk=some b) (hw:Wrote w w' b cs U)
  (e:o'.live=true) (hd:o'.isDead=false) (hr:J76 w w' (okB c G h w) (okB c G h w)→ORel G w' (okB c G h w) g o') :
  HRG c G (h.set l o') w'∧okB c G (h.set l o') w'=okB c G h w∧J76 w w' (okB c G h w) (okB c G h w):=hh.wrote0 hl hg hlive hb hw.base e hd hr
def AObj.freeze:AObj→AObj
 | .row e xs _=>.row e xs false
 | .box t s _=>.box t s false
 | .map k v es _=>.map k v es false
 | .dead=>.dead
theorem AObj.live_freeze (o:AObj):o.freeze.live=false:=by cases o <;> rfl
theorem AObj.isDead_freeze (o:AObj):o.freeze.isDead=o.isDead:=by cases o <;> rfl
theorem ORel.freeze {G:List GE} {w:World} {ok:Nat→Prop} {g:GE} (o:AObj) (h:ORel G w ok g o):ORel G w ok g o.freeze:=by
 cases o <;> exact h
theorem HRG.shrink {c : Ctx} {G : List GE} {h h' : List AObj} {w : World} (hh : HRG c G h w) (hlen : h'.length = h.length)
    (hs : ∀ (l : Nat) (o o' : AObj), h[l]? = some o → h'[l]? = some o' → o' = o ∨ o' = o.freeze ∨ o' = .dead) :
    HRG c G h' w ∧ J76 w w (okB c G h w) (okB c G h' w) := by
  have back : ∀ (l : Nat) (o' : AObj), h'[l]? = some o' → ∃ o, h[l]? = some o ∧ (o' = o ∨ o' = o.freeze ∨ o' = .dead) := by
    intro l o' ho'
    have hlt : l < h'.length := by
      rcases Nat.lt_or_ge l h'.length with x | x
      · exact x
      · rw [List.getElem?_eq_none x] at ho'; cases ho'
    have := List.getElem?_eq_getElem (l := h) (i := l) (by omega)
    exact ⟨_, this, hs l _ o' this ho'⟩
  have nd : ∀ (o o' : AObj), (o' = o ∨ o' = o.freeze ∨ o' = .dead) → o'.isDead = false → o.isDead = false := by
    rintro o o' (rfl | rfl | rfl) hd
    · exact hd
    · rwa [AObj.isDead_freeze] at hd
    · cases hd
  have lv : ∀ (o o' : AObj), (o' = o ∨ o' = o.freeze ∨ o' = .dead) → o'.live = true → o.live = true := by
    rintro o o' (rfl | rfl | rfl) hd
    · exact hd
    · cases o <;> simp_all [AObj.freeze, AObj.live]
    · cases hd
  have own : ∀ b, Jch G h' b → Jch G h b := by
    rintro b ⟨l, o', g, h1, h2, h3, h4⟩
    obtain ⟨o, ho, hc⟩ := back l o' h1
    exact ⟨l, o, g, ho, h2, lv o o' hc h3, h4⟩
  have k : J76 w w (okB c G h w) (okB c G h' w) := ⟨fun b hb => ⟨hb.1, hb.2.1, fun ho => hb.2.2 (own b ho)⟩, fun _ _ _ _ h => h⟩
  refine ⟨?_, k⟩
  refine { EA := hh.EA, len := by rw [hlen]; exact hh.len, inj := ?_, inE := ?_, inL := fun b hb => hh.inL b (own b hb), frame := hh.frame, big := hh.big,
           os := hh.os, tape := hh.tape, output := hh.output, objs := ?_ }
  · intro l1 l2 g1 g2 o1 o2 b' hg1 hg2 ho1 ho2 hd1 hd2 hb1 hb2
    obtain ⟨x1, hx1, hc1⟩ := back l1 o1 ho1
    obtain ⟨x2, hx2, hc2⟩ := back l2 o2 ho2
    exact hh.inj l1 l2 g1 g2 x1 x2 b' hg1 hg2 hx1 hx2 (nd _ _ hc1 hd1) (nd _ _ hc2 hd2) hb1 hb2
  · intro l1 o1 g1 b' ho1 hg1 hd1 hb1
    obtain ⟨x1, hx1, hc1⟩ := back l1 o1 ho1
    exact hh.inE l1 x1 g1 b' hx1 hg1 (nd _ _ hc1 hd1) hb1
  · intro l1 o1 g1 ho1 hg1
    obtain ⟨x1, hx1, hc1⟩ := back l1 o1 ho1
    have h1 := ORel.mono (Ext.refl G) k (fun _ _ => rfl) x1 (hh.objs l1 x1 g1 hx1 hg1)
    rcases hc1 with rfl | rfl | rfl
    · exact h1
    · exact ORel.freeze _ h1
    · trivial
theorem HRG.same {c : Ctx} {G : List GE} {h : List AObj} {w w' : World} (hh : HRG c G h w) (he : w'.heap = w.heap) (h1 : w'.os = w.os) (h2 : w'.tape = w.tape) (h3 : w'.output = w.output) :
    HRG c G h w' ∧ okB c G h w' = okB c G h w ∧ J76 w w' (okB c G h w) (okB c G h w) := by
  have hok : okB c G h w' = okB c G h w := by funext b; simp only [okB, he]
  have k : J76 w w' (okB c G h w) (okB c G h w) := ⟨fun _ h => h, fun b o v _ hv => by rw [cell?_of_heap (w := w) (w' := w') (by rw [he])]; exact hv⟩
  refine ⟨?_, hok, k⟩
  refine { EA := hh.EA, len := hh.len, inj := hh.inj, inE := fun l o g b a1 a2 a3 a4 => by rw [he]; exact hh.inE l o g b a1 a2 a3 a4, inL := hh.inL,
           frame := fun b x y => by rw [he]; exact hh.frame b x y, big := by rw [he]; exact hh.big, os := h1.trans hh.os, tape := h2.trans hh.tape,
           output := h3.trans hh.output, objs := fun l o g a1 a2 => ?_ }
  rw [hok]
  exact ORel.mono (Ext.refl G) k (fun _ _ => by rw [he]) o (hh.objs l o g a1 a2)
theorem HRG.grow0 {c : Ctx} {G : List GE} {h : List AObj} {w w' : World} (hh : HRG c G h w) (oldblk : ∀ b, b < w.heap.size → w'.heap[b]? = w.heap[b]?) (hsz : w.heap.size ≤ w'.heap.size)
    (h1 : w'.os = w.os) (h2 : w'.tape = w.tape) (h3 : w'.output = w.output) {n : Nat} (hn1 : w.heap.size ≤ n) (hn2 : n < w'.heap.size) {o : AObj} {g : GE} (hb : g.blk = some n)
    (hr : ∀ ok' : Nat → Prop, J76 w w' (okB c G h w) ok' → ORel (G ++ [g]) w' ok' g o) :
    HRG c (G ++ [g]) (h ++ [o]) w' ∧ J76 w w' (okB c G h w) (okB c (G ++ [g]) (h ++ [o]) w') := by
  have hlen := hh.len
  have gl : ∀ (l : Nat) (o' : AObj) (g' : GE), (h ++ [o])[l]? = some o' → (G ++ [g])[l]? = some g' → (h[l]? = some o' ∧ G[l]? = some g') ∨ (l = h.length ∧ o' = o ∧ g' = g) := by
    intro l o' g' h1 h2
    rcases Nat.lt_trichotomy l h.length with x | x | x
    · rw [List.getElem?_append_left x] at h1
      rw [List.getElem?_append_left (by omega)] at h2
      exact .inl ⟨h1, h2⟩
    · subst x
      rw [List.getElem?_append_right (Nat.le_refl _)] at h1
      rw [List.getElem?_append_right (by omega), hlen] at h2
      simp at h1 h2
      exact .inr ⟨rfl, h1.symm, h2.symm⟩
    · rw [List.getElem?_eq_none (by simp; omega)] at h1; cases h1
  have k : J76 w w' (okB c G h w) (okB c (G ++ [g]) (h ++ [o]) w') := by
    refine ⟨fun b hb' => ⟨by have := hb'.1; omega, hb'.2.1, ?_⟩, fun b o' v hb' hv => by rw [cell?_of_heap (oldblk b hb'.1)]; exact hv⟩
    rintro ⟨l, o', g', h1, h2, h3, h4⟩
    rcases gl l o' g' h1 h2 with ⟨h1, h2⟩ | ⟨rfl, rfl, rfl⟩
    · exact hb'.2.2 ⟨l, o', g', h1, h2, h3, h4⟩
    · rw [hb] at h4; injection h4 with h4; have := hb'.1; omega
  refine ⟨?_, k⟩
  refine { EA := hh.EA, len := by simp [hlen], inj := ?_, inE := ?_, inL := ?_, frame := ?_, big := Nat.le_trans hh.big hsz,
           os := h1.trans hh.os, tape := h2.trans hh.tape, output := h3.trans hh.output, objs := ?_ }
  · intro l1 l2 g1 g2 o1 o2 b' hg1 hg2 ho1 ho2 hd1 hd2 hb1 hb2
    rcases gl l1 o1 g1 ho1 hg1 with ⟨p1, q1⟩ | ⟨rfl, rfl, rfl⟩ <;> rcases gl l2 o2 g2 ho2 hg2 with ⟨p2, q2⟩ | ⟨rfl, rfl, rfl⟩
    · exact hh.inj l1 l2 g1 g2 o1 o2 b' q1 q2 p1 p2 hd1 hd2 hb1 hb2
    · have := (hh.inE l1 o1 g1 b' p1 q1 hd1 hb1).1
      rw [hb] at hb2; injection hb2 with hb2; omega
    · have := (hh.inE l2 o2 g2 b' p2 q2 hd2 hb2).1
      rw [hb] at hb1; injection hb1 with hb1; omega
    · rfl
  · intro l1 o1 g1 b' ho1 hg1 hd1 hb1
    rcases gl l1 o1 g1 ho1 hg1 with ⟨ho1, hg1⟩ | ⟨rfl, rfl, rfl⟩
    · obtain ⟨x, y⟩ := hh.inE l1 o1 g1 b' ho1 hg1 hd1 hb1
      exact ⟨by omega, y⟩
    · rw [hb] at hb1; injection hb1 with hb1; subst hb1
      exact ⟨hn2, .inr (Nat.le_trans hh.big hn1)⟩
  · rintro b' ⟨l, o', g', h1, h2, h3, h4⟩
    rcases gl l o' g' h1 h2 with ⟨h1, h2⟩ | ⟨rfl, rfl, rfl⟩
    · exact hh.inL b' ⟨l, o', g', h1, h2, h3, h4⟩
    · rw [hb] at h4; injection h4 with h4; subst h4; exact .inr (Nat.le_trans hh.big hn1)
  · intro b' hb' hL
    rw [oldblk b' (Nat.lt_of_lt_of_le hb' hh.big)]; exact hh.frame b' hb' hL
  · intro l1 o1 g1 ho1 hg1
    rcases gl l1 o1 g1 ho1 hg1 with ⟨ho1, hg1⟩ | ⟨rfl, rfl, rfl⟩
    · cases hd1 : o1.isDead with
      | true => cases o1 <;> simp [AObj.isDead] at hd1; trivial
      | false =>
        refine ORel.mono (Ext.snoc G g) k (fun b' hb' => ?_) o1 (hh.objs l1 o1 g1 ho1 hg1)
        exact oldblk b' (hh.inE l1 o1 g1 b' ho1 hg1 hd1 hb').1
    · exact hr _ k
theorem HRG.alloc0 {c:Ctx} {G:List GE} {h:List AObj} {w:World} (hh:HRG c G h w) {x:Obj} {o:AObj} {g:GE}
  (hb:g.blk=some w.heap.size)
  (hr:∀ ok':Nat→Prop,J76 w (w.alloc x) (okB c G h w) ok'→ORel (G++[g]) (w.alloc x) ok' g o) :
  HRG c (G++[g]) (h++[o]) (w.alloc x)∧
   J76 w (w.alloc x) (okB c G h w) (okB c (G++[g]) (h++[o]) (w.alloc x)):=
 hh.grow0 (fun b hb=>RowKit.Below.heap_alloc _ _ _ hb) (by simp) rfl rfl rfl (Nat.le_refl _) (by simp) hb hr
theorem HRG.alloc {c:Ctx} {G:List GE} {h:List AObj} {w:World} (hh:HRG c G h w) {cs:Array Value} {U:TypeId} {o:AObj} {g:GE}
  (hb:g.blk=some w.heap.size)
  (hr:∀ ok':Nat→Prop,J76 w (w.alloc (.cells cs U)) (okB c G h w) ok'→ORel (G++[g]) (w.alloc (.cells cs U)) ok' g o) :
  HRG c (G++[g]) (h++[o]) (w.alloc (.cells cs U))∧
   J76 w (w.alloc (.cells cs U)) (okB c G h w) (okB c (G++[g]) (h++[o]) (w.alloc (.cells cs U))):=hh.alloc0 hb hr
theorem HRG.fresh {c : Ctx} {G : List GE} {h : List AObj} {w : World} (hh : HRG c G h w) {o : AObj} {g : GE} (hb : g.blk = none)
    (hr : ∀ ok' : Nat → Prop, ORel (G ++ [g]) w ok' g o) : HRG c (G ++ [g]) (h ++ [o]) w ∧ J76 w w (okB c G h w) (okB c (G ++ [g]) (h ++ [o]) w) := by
  have hlen := hh.len
  have gl : ∀ (l : Nat) (o' : AObj) (g' : GE), (h ++ [o])[l]? = some o' → (G ++ [g])[l]? = some g' → (h[l]? = some o' ∧ G[l]? = some g') ∨ (l = h.length ∧ o' = o ∧ g' = g) := by
    intro l o' g' h1 h2
    rcases Nat.lt_trichotomy l h.length with x | x | x
    · rw [List.getElem?_append_left x] at h1
      rw [List.getElem?_append_left (by omega)] at h2
      exact .inl ⟨h1, h2⟩
    · subst x
      rw [List.getElem?_append_right (Nat.le_refl _)] at h1
      rw [List.getElem?_append_right (by omega), hlen] at h2
      simp at h1 h2
      exact .inr ⟨rfl, h1.symm, h2.symm⟩
    · rw [List.getElem?_eq_none (by simp; omega)] at h1; cases h1
  have own : ∀ b, Jch (G ++ [g]) (h ++ [o]) b → Jch G h b := by
    rintro b ⟨l, o', g', h1, h2, h3, h4⟩
    rcases gl l o' g' h1 h2 with ⟨h1, h2⟩ | ⟨rfl, rfl, rfl⟩
    · exact ⟨l, o', g', h1, h2, h3, h4⟩
    · rw [hb] at h4; cases h4
  have k : J76 w w (okB c G h w) (okB c (G ++ [g]) (h ++ [o]) w) := ⟨fun b hb => ⟨hb.1, hb.2.1, fun ho => hb.2.2 (own b ho)⟩, fun _ _ _ _ h => h⟩
  refine ⟨?_, k⟩
  refine { EA := hh.EA, len := by simp [hlen], inj := ?_, inE := ?_, inL := fun b hb => hh.inL b (own b hb), frame := hh.frame, big := hh.big,
           os := hh.os, tape := hh.tape, output := hh.output, objs := ?_ }
  · intro l1 l2 g1 g2 o1 o2 b' hg1 hg2 ho1 ho2 hd1 hd2 hb1 hb2
    rcases gl l1 o1 g1 ho1 hg1 with ⟨p1, q1⟩ | ⟨rfl, rfl, rfl⟩ <;> rcases gl l2 o2 g2 ho2 hg2 with ⟨p2, q2⟩ | ⟨rfl, rfl, rfl⟩
    · exact hh.inj l1 l2 g1 g2 o1 o2 b' q1 q2 p1 p2 hd1 hd2 hb1 hb2
    · rw [hb] at hb2; cases hb2
    · rw [hb] at hb1; cases hb1
    · rfl
  · intro l1 o1 g1 b' ho1 hg1 hd1 hb1
    rcases gl l1 o1 g1 ho1 hg1 with ⟨ho1, hg1⟩ | ⟨rfl, rfl, rfl⟩
    · exact hh.inE l1 o1 g1 b' ho1 hg1 hd1 hb1
    · rw [hb] at hb1; cases hb1
  · intro l1 o1 g1 ho1 hg1
    rcases gl l1 o1 g1 ho1 hg1 with ⟨ho1, hg1⟩ | ⟨rfl, rfl, rfl⟩
    · exact ORel.mono (Ext.snoc G g) k (fun _ _ => rfl) o1 (hh.objs l1 o1 g1 ho1 hg1)
    · exact hr _
theorem HRG.heir {c : Ctx} {G : List GE} {h : List AObj} {w w' : World} {b : Nat} {cs : Array Value} {U : TypeId} {l : Nat} {o o' : AObj} {g g' : GE}
    (hh : HRG c G h w) (hl : h[l]? = some o) (hg : G[l]? = some g) (hlive : o.live = true) (hb : g.blk = some b) (hb' : g'.blk = some b) (hw : Wrote w w' b cs U)
    (hr : ∀ ok' : Nat → Prop, J76 w w' (okB c G h w) ok' → ORel (G ++ [g']) w' ok' g' o') (e' : o'.live = true) :
    HRG c (G ++ [g']) (h.set l .dead ++ [o']) w' ∧ J76 w w' (okB c G h w) (okB c (G ++ [g']) (h.set l .dead ++ [o']) w') := by
  have hlen := hh.len
  have hown : Jch G h b := ⟨l, o, g, hl, hg, hlive, hb⟩
  have hdead : o.isDead = false := by cases o <;> simp_all [AObj.live, AObj.isDead]
  have gl : ∀ (l1 : Nat) (o1 : AObj) (g1 : GE), (h.set l .dead ++ [o'])[l1]? = some o1 → (G ++ [g'])[l1]? = some g1 →
      (l1 ≠ l ∧ h[l1]? = some o1 ∧ G[l1]? = some g1) ∨ (l1 = h.length ∧ o1 = o' ∧ g1 = g') ∨ (o1 = .dead) := by
    intro l1 o1 g1 h1 h2
    rcases Nat.lt_trichotomy l1 h.length with x | x | x
    · rw [List.getElem?_append_left (by simpa using x), Jb3 hl] at h1
      rw [List.getElem?_append_left (by omega)] at h2
      by_cases hk : l1 = l
      · rw [if_pos hk] at h1; injection h1 with h1; exact .inr (.inr h1.symm)
      · rw [if_neg hk] at h1; exact .inl ⟨hk, h1, h2⟩
    · subst x
      rw [List.getElem?_append_right (by simp)] at h1
      rw [List.getElem?_append_right (by omega), hlen] at h2
      simp at h1 h2
      exact .inr (.inl ⟨rfl, h1.symm, h2.symm⟩)
    · rw [List.getElem?_eq_none (by simp; omega)] at h1; cases h1
  have own : ∀ b, Jch (G ++ [g']) (h.set l .dead ++ [o']) b → Jch G h b := by
    rintro b1 ⟨l1, o1, g1, h1, h2, h3, h4⟩
    rcases gl l1 o1 g1 h1 h2 with ⟨_, h1, h2⟩ | ⟨rfl, rfl, rfl⟩ | rfl
    · exact ⟨l1, o1, g1, h1, h2, h3, h4⟩
    · rw [hb'] at h4; injection h4 with h4; subst h4; exact hown
    · cases h3
  have k : J76 w w' (okB c G h w) (okB c (G ++ [g']) (h.set l .dead ++ [o']) w') := by
    refine ⟨fun b1 hb1 => ⟨by rw [hw.size]; exact hb1.1, hb1.2.1, fun ho => hb1.2.2 (own b1 ho)⟩, fun b1 o1 v hb1 hv => ?_⟩
    have hne : b1 ≠ b := fun e => hb1.2.2 (e ▸ hown)
    rw [cell?_of_heap (hw.other b1 hne)]; exact hv
  refine ⟨?_, k⟩
  refine { EA := hh.EA, len := by simp [hlen], inj := ?_, inE := ?_, inL := fun b hb => hh.inL b (own b hb), frame := ?_, big := by rw [hw.size]; exact hh.big,
           os := hw.os.trans hh.os, tape := hw.tape.trans hh.tape, output := hw.output.trans hh.output, objs := ?_ }
  · intro l1 l2 g1 g2 o1 o2 b' hg1 hg2 ho1 ho2 hd1 hd2 hb1 hb2
    rcases gl l1 o1 g1 ho1 hg1 with ⟨n1, p1, q1⟩ | ⟨rfl, rfl, rfl⟩ | rfl
    · rcases gl l2 o2 g2 ho2 hg2 with ⟨n2, p2, q2⟩ | ⟨rfl, rfl, rfl⟩ | rfl
      · exact hh.inj l1 l2 g1 g2 o1 o2 b' q1 q2 p1 p2 hd1 hd2 hb1 hb2
      · rw [hb'] at hb2; injection hb2 with hb2; subst hb2
        exact absurd (hh.inj l1 l g1 g o1 o _ q1 hg p1 hl hd1 hdead hb1 hb) n1
      · cases hd2
    · rcases gl l2 o2 g2 ho2 hg2 with ⟨n2, p2, q2⟩ | ⟨rfl, rfl, rfl⟩ | rfl
      · rw [hb'] at hb1; injection hb1 with hb1; subst hb1
        exact absurd (hh.inj l2 l g2 g o2 o _ q2 hg p2 hl hd2 hdead hb2 hb) n2
      · rfl
      · cases hd2
    · cases hd1
  · intro l1 o1 g1 b1 ho1 hg1 hd1 hb1
    rw [hw.size]
    rcases gl l1 o1 g1 ho1 hg1 with ⟨n1, ho1, hg1⟩ | ⟨rfl, rfl, rfl⟩ | rfl
    · exact hh.inE l1 o1 g1 b1 ho1 hg1 hd1 hb1
    · rw [hb'] at hb1; injection hb1 with hb1; subst hb1; exact hh.inE l o g b hl hg hdead hb
    · cases hd1
  · intro b1 hb1 hL
    have hne : b1 ≠ b := by
      rintro rfl
      rcases hh.inL _ hown with h1 | h1
      · exact hL h1
      · omega
    rw [hw.other _ hne]; exact hh.frame _ hb1 hL
  · intro l1 o1 g1 ho1 hg1
    rcases gl l1 o1 g1 ho1 hg1 with ⟨n1, ho1, hg1⟩ | ⟨rfl, rfl, rfl⟩ | rfl
    · cases hd1 : o1.isDead with
      | true => cases o1 <;> simp [AObj.isDead] at hd1; trivial
      | false =>
        refine ORel.mono (Ext.snoc G g') k (fun b1 hb1 => hw.other b1 ?_) o1 (hh.objs l1 o1 g1 ho1 hg1)
        rintro rfl
        exact n1 (hh.inj l1 l g1 g o1 o _ hg1 hg ho1 hl hd1 hdead hb1 hb)
    · exact hr _ k
    · trivial
end Go.Ax

namespace Go.Ax
set_option linter.unusedVariables false
set_option linter.unusedSimpArgs false
variable {P : Program} {T : Tab}
def Jaf:List Nat→Nat→Option Nat
 | [],_=>none
 | b::r,l=>bif Nat.beq b l then some 0 else match Jaf r l with | some k=>some (k+1) | none=>none
theorem Jff:∀ {back:List Nat} {l k:Nat},Jaf back l=some k→back[k]?=some l
 | [],_,_,h=>by cases h
 | b::r,l,k,h=>by
  unfold Jaf at h
  by_cases e:b=l
  ·subst e; simp at h; subst h; rfl
  ·have:Nat.beq b l=false:=by rw [← Bool.not_eq_true,Nat.beq_eq]; exact e
   rw [this,cond_false] at h
   cases hr:Jaf r l with
   | none=>rw [hr] at h; cases h
   | some j=>rw [hr] at h; injection h with h; subst h; simpa using Jff hr
def posF (back:List Nat) (l:Nat):Nat:=match Jaf back l with | some k=>k | none=>0
def J7h (back:List Nat) (l:Nat):Bool:=match Jaf back l with | some _=>true | none=>false
theorem Jcr {back:List Nat} {l:Nat} (h:J7h back l=true):back[posF back l]?=some l∧Jaf back l=some (posF back l):=by
 unfold J7h at h; unfold posF
 cases hp:Jaf back l with
 | none=>rw [hp] at h; cases h
 | some k=>exact ⟨Jff hp,rfl⟩
def Jox:List Nat→Bool
 | []=>true
 | b::r=>!J7h r b && Jox r
theorem J7r:∀ {back:List Nat} {l k:Nat},Jox back=true→back[k]?=some l→Jaf back l=some k
 | [],_,_,_,h=>by simp at h
 | b::r,l,k,ho,h=>by
  simp only [Jox,Bool.and_eq_true,Bool.not_eq_true'] at ho
  unfold Jaf
  cases k with
  | zero=>simp at h; subst h; simp
  | succ k=>
   have h':r[k]?=some l:=by simpa using h
   have hr:=J7r ho.2 h'
   have e:b≠l:=by
    rintro rfl
    have:J7h r b=true:=by unfold J7h; rw [hr]
    rw [this] at ho; cases ho.1
   have:Nat.beq b l=false:=by rw [← Bool.not_eq_true,Nat.beq_eq]; exact e
   rw [this,cond_false,hr]
def J6q (h:List AObj) (l:Nat):AObj:=h.getD l .dead
def lent (h:List AObj) (back:List Nat):List AObj:=back.map fun l=>(J6q h l).ren (posF back)
def J8g (h:List AObj) (back:List Nat):Bool:=
 Jox back && back.all fun l=>Nat.blt l h.length && (J6q h l).ids.all (J7h back)
def unl (n:Nat) (back:List Nat) (k:Nat):Nat:=match back[k]? with | some l=>l | none=>n+(k - back.length)
def Jri (n:Nat) (back snap:List Nat) (fl:Bool) (objs':List AObj) (l:Nat) (o:AObj):AObj:=
 match Jaf back l with
 | some k=>(J6q objs' k).ren (unl n back)
 | none=>bif !fl && J7h snap l then o.freeze else o
def Jbo (n:Nat) (back snap:List Nat) (fl:Bool) (objs':List AObj):List AObj→Nat→List AObj
 | [],_=>[]
 | o::r,l=>Jri n back snap fl objs' l o::Jbo n back snap fl objs' r (l+1)
def J7e (h:List AObj) (back snap:List Nat) (fl:Bool) (objs':List AObj):List AObj:=
 Jbo h.length back snap fl objs' h 0++(objs'.drop back.length).map (AObj.ren (unl h.length back))
theorem J8x (n:Nat) (back snap:List Nat) (fl:Bool) (objs':List AObj):∀ (h:List AObj) (l:Nat),(Jbo n back snap fl objs' h l).length=h.length
 | [],_=>rfl
 | _::r,l=>by simp [Jbo,J8x n back snap fl objs' r (l+1)]
theorem Jcn (n:Nat) (back snap:List Nat) (fl:Bool) (objs':List AObj):∀ (h:List AObj) (l i:Nat),
  (Jbo n back snap fl objs' h l)[i]?=(h[i]?).map (Jri n back snap fl objs' (l+i))
 | [],_,_=>rfl
 | o::r,l,0=>rfl
 | o::r,l,i+1=>by
  simp only [Jbo,List.getElem?_cons_succ]
  rw [Jcn n back snap fl objs' r (l+1) i,show l+1+i=l+(i+1) by omega]
def J7t (c:Ctx) (G:List GE) (h:List AObj) (w:World) (back snap:List Nat):Ctx where
 A b:=okB c G h w b∨∃ (l:Nat) (o:AObj) (g:GE),(l ∈ back∨l ∈ snap)∧h[l]?=some o∧G[l]?=some g∧o.isDead=false∧g.blk=some b
 E b:=∃ (l:Nat) (o:AObj) (g:GE),l ∈ back∧h[l]?=some o∧G[l]?=some g∧o.isDead=false∧g.blk=some b
 L b:=∃ (l:Nat) (o:AObj) (g:GE),l ∈ back∧h[l]?=some o∧G[l]?=some g∧o.live=true∧g.blk=some b
 w0:=w
 G0:=back.map fun l=>G.getD l default
theorem Jby {o:AObj} (h:o.live=true):o.isDead=false:=by cases o <;> simp_all [AObj.live,AObj.isDead]
section
variable {c : Ctx} {G : List GE} {h : List AObj} {w : World} {back snap : List Nat}
theorem J8p (hb:J8g h back=true) {k:Nat} {o':AObj} {g:GE} (ho:(lent h back)[k]?=some o') (hlen:G.length=h.length)
  (hg:(back.map fun l=>G.getD l default)[k]?=some g):∃ l o,back[k]?=some l∧h[l]?=some o∧G[l]?=some g∧o'=o.ren (posF back)∧∀ i ∈ o.ids,J7h back i=true:=by
 simp only [J8g,Bool.and_eq_true,List.all_eq_true,Nat.blt_eq] at hb
 rw [lent,List.getElem?_map] at ho
 rw [List.getElem?_map] at hg
 cases hk:back[k]? with
 | none=>rw [hk] at ho; cases ho
 | some l=>
  rw [hk] at ho hg
  simp only [Option.map_some,Option.some.injEq] at ho hg
  obtain ⟨hl,hids⟩:=hb.2 l (List.mem_of_getElem? hk)
  have e1:h[l]?=some (J6q h l):=by simp [J6q,List.getElem?_eq_getElem hl]
  have e2:G[l]?=some g:=by
   have:l < G.length:=by omega
   rw [List.getD_eq_getElem?_getD,List.getElem?_eq_getElem this] at hg
   rw [List.getElem?_eq_getElem this]; exact congrArg some hg
  exact ⟨l,_,rfl,e1,e2,ho.symm,hids⟩
theorem Jdn (hb:Jox back=true) (hlen:G.length=h.length) {ids:List Nat} (hi:∀ i ∈ ids,J7h back i=true) :
  Jcj G (back.map fun l=>G.getD l default) (posF back) ids:=by
 intro l hl g hg
 have:=(Jcr (hi l hl)).1
 rw [List.getElem?_map,this]
 simp [hg]
theorem Jbc (hh:HRG c G h w) (hb:J8g h back=true) :
  J76 w w (okB c G h w) (okB (J7t c G h w back snap) (back.map fun l=>G.getD l default) (lent h back) w):=by
 refine ⟨fun b hok=>⟨hok.1,fun _=>.inl hok,?_⟩,fun _ _ _ _ h=>h⟩
 rintro ⟨k,o',g,h1,h2,h3,h4⟩
 obtain ⟨l,o,e1,e2,e3,rfl,_⟩:=J8p hb h1 hh.len h2
 rw [AObj.live_ren] at h3
 exact hok.2.2 ⟨l,o,g,e2,e3,h3,h4⟩
theorem Jf6 (hh:HRG c G h w) (hb:J8g h back=true) :
  HRG (J7t c G h w back snap) (back.map fun l=>G.getD l default) (lent h back) w:=by
 have hb':=hb
 simp only [J8g,Bool.and_eq_true] at hb'
 refine { EA:=?_,len:=by simp [lent],inj:=?_,inE:=?_,inL:=?_,frame:=fun _ _ _=>rfl,big:=Nat.le_refl _,os:=rfl,tape:=rfl,output:=rfl,objs:=?_ }
 ·rintro b ⟨l,o,g,h1,h2⟩
  exact .inr ⟨l,o,g,.inl h1,h2⟩
 ·intro k1 k2 g1 g2 o1 o2 b hg1 hg2 ho1 ho2 hd1 hd2 hb1 hb2
  obtain ⟨l1,x1,e1,e2,e3,rfl,_⟩:=J8p hb ho1 hh.len hg1
  obtain ⟨l2,x2,f1,f2,f3,rfl,_⟩:=J8p hb ho2 hh.len hg2
  rw [AObj.isDead_ren] at hd1 hd2
  have:=hh.inj l1 l2 g1 g2 x1 x2 b e3 f3 e2 f2 hd1 hd2 hb1 hb2
  subst this
  have h1:=J7r hb'.1 e1
  have h2:=J7r hb'.1 f1
  rw [h1] at h2; injection h2
 ·intro k o' g b ho hg hd hbk
  obtain ⟨l,o,e1,e2,e3,rfl,_⟩:=J8p hb ho hh.len hg
  rw [AObj.isDead_ren] at hd
  exact ⟨(hh.inE l o g b e2 e3 hd hbk).1,.inl ⟨l,o,g,List.mem_of_getElem? e1,e2,e3,hd,hbk⟩⟩
 ·rintro b ⟨k,o',g,h1,h2,h3,h4⟩
  obtain ⟨l,o,e1,e2,e3,rfl,_⟩:=J8p hb h1 hh.len h2
  rw [AObj.live_ren] at h3
  exact .inl ⟨l,o,g,List.mem_of_getElem? e1,e2,e3,h3,h4⟩
 ·intro k o' g ho hg
  obtain ⟨l,o,e1,e2,e3,rfl,hids⟩:=J8p hb ho hh.len hg
  refine ORel.ren o (Jdn hb'.1 hh.len hids) ?_
  have:=hh.objs l o g e2 e3
  cases o with
  | row e xs lv=>
   obtain ⟨a1,a2,a3,a4,a5⟩:=this
   refine ⟨a1,a2,a3,a4,?_⟩
   rcases a5 with a5 | ⟨b,cs,U,a5,a6,a7,a8⟩
   ·exact .inl a5
   ·exact .inr ⟨b,cs,U,a5,a6,a7,RepC.mono (Jbc hh hb) _ a8⟩
  | box t s lv=>
   obtain ⟨a1,a2,b,cs,U,a3,a4,a5⟩:=this
   exact ⟨a1,a2,b,cs,U,a3,a4,J6y.mono (Ext.refl G) (Jbc hh hb) s a5⟩
  | map k v es lv=>
   obtain ⟨a1,b,es',q,a2,a3,a4⟩:=this
   exact ⟨a1,b,es',q,a2,a3,MapB.mono (Jbc hh hb) a4⟩
  | dead=>trivial
theorem Jzd {n:Nat} {k l:Nat} (hk:back[k]?=some l):unl n back k=l:=by unfold unl; rw [hk]
theorem Jzc {n:Nat} {k:Nat} (hk:back.length≤k):unl n back k=n+(k - back.length):=by unfold unl; rw [List.getElem?_eq_none hk]
variable {G2 : List GE} {objs' : List AObj} {w' : World} {fl : Bool}
theorem Jzt (hh:HRG c G h w) (hb:J8g h back=true) (hl2:G2.length=objs'.length) (hx:Ext (back.map fun l=>G.getD l default) G2) (hle:back.length≤objs'.length)
  {l:Nat} {o:AObj} {g:GE} (ho:(J7e h back snap fl objs')[l]?=some o) (hg:(G++G2.drop back.length)[l]?=some g) :
  (l ∉ back∧G[l]?=some g∧∃ o0,h[l]?=some o0∧((o=o0∧(fl=false→J7h snap l=false))∨o=o0.freeze))∨
  (∃ k o',unl h.length back k=l∧objs'[k]?=some o'∧G2[k]?=some g∧o=o'.ren (unl h.length back)):=by
 have hb':=hb
 simp only [J8g,Bool.and_eq_true,List.all_eq_true,Nat.blt_eq] at hb'
 rcases Nat.lt_or_ge l h.length with hl | hl
 ·rw [J7e,List.getElem?_append_left (by rw [J8x]; exact hl),Jcn,Nat.zero_add,List.getElem?_eq_getElem hl] at ho
  rw [List.getElem?_append_left (by rw [hh.len]; exact hl)] at hg
  simp only [Option.map_some,Option.some.injEq] at ho
  unfold Jri at ho
  cases hp:Jaf back l with
  | some k=>
   rw [hp] at ho
   have hk:=Jff hp
   have hkl:k < back.length:=by
    rcases Nat.lt_or_ge k back.length with x | x
    ·exact x
    ·rw [List.getElem?_eq_none x] at hk; cases hk
   right
   refine ⟨k,J6q objs' k,Jzd hk,by simp [J6q,List.getElem?_eq_getElem (show k < objs'.length by omega)],?_,ho.symm⟩
   refine hx k g ?_
   rw [List.getElem?_map,hk]; simp [hg]
  | none=>
   rw [hp] at ho
   left
   refine ⟨?_,hg,_,List.getElem?_eq_getElem hl,?_⟩
   ·intro hm
    obtain ⟨k,hk⟩:=List.getElem?_of_mem hm
    rw [J7r hb'.1 hk] at hp; cases hp
   ·cases fl with
    | true=>left; exact ⟨ho.symm,fun h=>by cases h⟩
    | false=>
     cases hs:J7h snap l with
     | true=>right; rw [hs] at ho; exact ho.symm
     | false=>left; rw [hs] at ho; exact ⟨ho.symm,fun _=>rfl⟩
 ·right
  rw [J7e,List.getElem?_append_right (by rw [J8x]; exact hl),J8x,List.getElem?_map,List.getElem?_drop] at ho
  rw [List.getElem?_append_right (by rw [hh.len]; exact hl),hh.len,List.getElem?_drop] at hg
  cases hk:objs'[back.length+(l - h.length)]? with
  | none=>rw [hk] at ho; cases ho
  | some o'=>
   rw [hk] at ho
   simp only [Option.map_some,Option.some.injEq] at ho
   exact ⟨_,o',by rw [Jzc (by omega)]; omega,hk,hg,ho.symm⟩
theorem Jpp (hh:HRG c G h w) (hb:J8g h back=true) (hx:Ext (back.map fun l=>G.getD l default) G2) (ids:List Nat) :
  Jcj G2 (G++G2.drop back.length) (unl h.length back) ids:=by
 have hb':=hb
 simp only [J8g,Bool.and_eq_true,List.all_eq_true,Nat.blt_eq] at hb'
 intro k _ g hg
 cases hk:back[k]? with
 | some l=>
  rw [Jzd hk]
  have hl:=(hb'.2 l (List.mem_of_getElem? hk)).1
  have hlG:l < G.length:=by rw [hh.len]; exact hl
  rw [List.getElem?_append_left hlG]
  have:=hx k (G.getD l default) (by rw [List.getElem?_map,hk]; rfl)
  rw [hg] at this
  rw [List.getElem?_eq_getElem hlG,this]
  simp [List.getD_eq_getElem?_getD,List.getElem?_eq_getElem hlG]
 | none=>
  have hge:back.length≤k:=by
   rcases Nat.lt_or_ge k back.length with x | x
   ·rw [List.getElem?_eq_getElem x] at hk; cases hk
   ·exact x
  rw [Jzc hge,List.getElem?_append_right (by rw [hh.len]; omega),hh.len,List.getElem?_drop]
  rw [show back.length+(h.length+(k - back.length) - h.length)=k by omega]; exact hg
theorem Jco (hh : HRG c G h w) (hb : J8g h back = true) (hdis : ∀ l ∈ snap, J7h back l = false)
    (hle : back.length ≤ objs'.length) (hfl : fl = true → ∀ o ∈ objs', o.flat = true)
    (h2 : HRG (J7t c G h w back snap) G2 objs' w') (hx : Ext (back.map fun l => G.getD l default) G2) :
    HRG c (G ++ G2.drop back.length) (J7e h back snap fl objs') w' ∧ Ext G (G ++ G2.drop back.length) ∧
    J76 w w' (okB c G h w) (okB c (G ++ G2.drop back.length) (J7e h back snap fl objs') w') ∧
    ∀ (s : Slot) (v : Value), (fl = true → s.flat = true) → TRel G2 w' (okB (J7t c G h w back snap) G2 objs' w') s v →
      TRel (G ++ G2.drop back.length) w' (okB c (G ++ G2.drop back.length) (J7e h back snap fl objs') w') (s.ren (unl h.length back)) v := by
  have hb' := hb
  simp only [J8g, Bool.and_eq_true, List.all_eq_true, Nat.blt_eq] at hb'
  have hl2 := h2.len
  have bg : ∀ {l : Nat} {o : AObj} {g : GE}, (J7e h back snap fl objs')[l]? = some o → (G ++ G2.drop back.length)[l]? = some g → _ :=
    fun ho hg => Jzt (snap := snap) (fl := fl) hh hb hl2 hx hle ho hg
  have hbig : w.heap.size ≤ w'.heap.size := h2.big
  -- the state of the elder objects
  have eld : ∀ {l : Nat} {o o0 : AObj} {g : GE} {b : Nat}, l ∉ back → G[l]? = some g → h[l]? = some o0 → (o = o0 ∨ o = o0.freeze) → o.isDead = false → g.blk = some b →
      o0.isDead = false ∧ b < w.heap.size ∧ ¬ (J7t c G h w back snap).E b := by
    intro l o o0 g b hnb hg ho0 hoo hd hbk
    have hd0 : o0.isDead = false := by
      rcases hoo with rfl | rfl
      · exact hd
      · rwa [AObj.isDead_freeze] at hd
    refine ⟨hd0, (hh.inE l o0 g b ho0 hg hd0 hbk).1, ?_⟩
    rintro ⟨l', o', g', h1, h3, h4, h5, h6⟩
    exact hnb (hh.inj l l' g g' o0 o' b hg h4 ho0 h3 hd0 h5 hbk h6 ▸ h1)
  have LE : ∀ b, (J7t c G h w back snap).L b → (J7t c G h w back snap).E b := by
    rintro b ⟨l, o, g, h1, h3, h4, h5, h6⟩
    exact ⟨l, o, g, h1, h3, h4, Jby h5, h6⟩
  have LO : ∀ b, (J7t c G h w back snap).L b → Jch G h b := by
    rintro b ⟨l, o, g, h1, h3, h4, h5, h6⟩
    exact ⟨l, o, g, h3, h4, h5, h6⟩
  have fr : ∀ b, b < w.heap.size → ¬ (J7t c G h w back snap).L b → w'.heap[b]? = w.heap[b]? := fun b h1 h3 => h2.frame b h1 h3
  have k : J76 w w' (okB c G h w) (okB c (G ++ G2.drop back.length) (J7e h back snap fl objs') w') := by
    refine ⟨fun b hok => ⟨by have := hok.1; omega, hok.2.1, ?_⟩, fun b o v hok hv => ?_⟩
    · rintro ⟨l, o, g, h1, h3, h4, h5⟩
      rcases bg h1 h3 with ⟨hnb, hg, o0, ho0, hoo⟩ | ⟨k, o', hk, ho', hg, rfl⟩
      · rcases hoo with ⟨rfl, _⟩ | rfl
        · exact hok.2.2 ⟨l, o, g, ho0, hg, h4, h5⟩
        · rw [AObj.live_freeze] at h4; cases h4
      · rw [AObj.live_ren] at h4
        rcases h2.inL b ⟨k, o', g, ho', hg, h4, h5⟩ with h6 | h6
        · exact hok.2.2 (LO b h6)
        · have h7 := hok.1
          have h8 : w.heap.size ≤ b := h6
          omega
    · rw [cell?_of_heap (fr b hok.1 fun h6 => hok.2.2 (LO b h6))]; exact hv
  have sub2 : fl = false → J76 w' w' (okB (J7t c G h w back snap) G2 objs' w') (okB c (G ++ G2.drop back.length) (J7e h back snap fl objs') w') := by
    intro hf
    refine ⟨fun b hok => ⟨hok.1, ?_, ?_⟩, fun _ _ _ _ h => h⟩
    · intro hb0
      have hlt : b < w.heap.size := Nat.lt_of_lt_of_le hb0 hh.big
      rcases hok.2.1 hlt with h1 | ⟨l, o, g, _, h3, h4, h5, h6⟩
      · exact h1.2.1 hb0
      · rcases (hh.inE l o g b h3 h4 h5 h6).2 with h7 | h7
        · exact hh.EA b h7
        · omega
    · rintro ⟨l, o, g, h1, h3, h4, h5⟩
      rcases bg h1 h3 with ⟨hnb, hg, o0, ho0, hoo⟩ | ⟨k, o', hk, ho', hg, rfl⟩
      · rcases hoo with ⟨rfl, hs⟩ | rfl
        · have hlt := (hh.inE l o g b ho0 hg (Jby h4) h5).1
          rcases hok.2.1 hlt with h6 | ⟨l', o', g', h6, h7, h8, h9, h10⟩
          · exact h6.2.2 ⟨l, o, g, ho0, hg, h4, h5⟩
          · have := hh.inj l l' g g' o o' b hg h8 ho0 h7 (Jby h4) h9 h5 h10
            subst this
            rcases h6 with h6 | h6
            · exact hnb h6
            · have := hs hf
              obtain ⟨j, hj⟩ := List.getElem?_of_mem h6
              unfold J7h at this
              cases hp : Jaf snap l with
              | none =>
                have hin : ∀ (s : List Nat), l ∈ s → Jaf s l ≠ none := by
                  intro s
                  induction s with
                  | nil => intro h; cases h
                  | cons x r ih =>
                    intro hm
                    unfold Jaf
                    by_cases e : x = l
                    · subst e; simp
                    · have e2 : Nat.beq x l = false := by rw [← Bool.not_eq_true, Nat.beq_eq]; exact e
                      rw [e2, cond_false]
                      have := ih (by rcases List.mem_cons.1 hm with h | h; exact absurd h.symm e; exact h)
                      cases hr : Jaf r l with
                      | none => exact absurd hr this
                      | some _ => simp
                exact hin snap h6 hp
              | some z => rw [hp] at this; cases this
        · rw [AObj.live_freeze] at h4; cases h4
      · rw [AObj.live_ren] at h4
        exact hok.2.2 ⟨k, o', g, ho', hg, h4, h5⟩
  have ab : ∀ {l : Nat} {o o0 : AObj} {g g' : GE} {b k : Nat} {o' : AObj}, l ∉ back → G[l]? = some g → h[l]? = some o0 → (o = o0 ∨ o = o0.freeze) → o.isDead = false → g.blk = some b →
      objs'[k]? = some o' → G2[k]? = some g' → o'.isDead = false → g'.blk = some b → False := by
    intro l o o0 g g' b k o' hnb hg ho0 hoo hd hbk ho' hg' hd' hbk'
    obtain ⟨_, hlt, hnE⟩ := eld hnb hg ho0 hoo hd hbk
    rcases (h2.inE k o' g' b ho' hg' hd' hbk').2 with h6 | h6
    · exact hnE h6
    · have h8 : w.heap.size ≤ b := h6
      omega
  have weak : ∀ {o o0 : AObj} {l : Nat}, ((o = o0 ∧ (fl = false → J7h snap l = false)) ∨ o = o0.freeze) → (o = o0 ∨ o = o0.freeze) := by
    intro o o0 l hoo; rcases hoo with ⟨e, _⟩ | e
    · exact .inl e
    · exact .inr e
  have rel2 : ∀ (s : Slot) (v : Value), (fl = true → s.flat = true) → TRel G2 w' (okB (J7t c G h w back snap) G2 objs' w') s v →
      TRel (G ++ G2.drop back.length) w' (okB c (G ++ G2.drop back.length) (J7e h back snap fl objs') w') (s.ren (unl h.length back)) v := by
    intro s v hf hv
    refine TRel.ren s (Jpp hh hb hx _) ?_
    cases hfl' : fl with
    | true => exact TRel.flat s (hf hfl') hv
    | false =>
      have := TRel.mono (Ext.refl G2) (sub2 hfl') s hv
      rwa [hfl'] at this
  refine ⟨?_, ?_, k, rel2⟩
  · refine { EA := hh.EA, len := ?_, inj := ?_, inE := ?_, inL := ?_, frame := ?_, big := Nat.le_trans hh.big hbig,
             os := h2.os.trans hh.os, tape := h2.tape.trans hh.tape, output := h2.output.trans hh.output, objs := ?_ }
    · simp [J7e, J8x, hh.len, hl2]
    · intro l1 l2 g1 g2 o1 o2 b hg1 hg2 ho1 ho2 hd1 hd2 hb1 hb2
      rcases bg ho1 hg1 with ⟨n1, q1, x1, p1, r1⟩ | ⟨k1, x1, u1, p1, q1, rfl⟩
      · rcases bg ho2 hg2 with ⟨n2, q2, x2, p2, r2⟩ | ⟨k2, x2, u2, p2, q2, rfl⟩
        · exact hh.inj l1 l2 g1 g2 x1 x2 b q1 q2 p1 p2 (eld n1 q1 p1 (weak r1) hd1 hb1).1 (eld n2 q2 p2 (weak r2) hd2 hb2).1 hb1 hb2
        · rw [AObj.isDead_ren] at hd2
          exact (ab n1 q1 p1 (weak r1) hd1 hb1 p2 q2 hd2 hb2).elim
      · rw [AObj.isDead_ren] at hd1
        rcases bg ho2 hg2 with ⟨n2, q2, x2, p2, r2⟩ | ⟨k2, x2, u2, p2, q2, rfl⟩
        · exact (ab n2 q2 p2 (weak r2) hd2 hb2 p1 q1 hd1 hb1).elim
        · rw [AObj.isDead_ren] at hd2
          have := h2.inj k1 k2 g1 g2 x1 x2 b q1 q2 p1 p2 hd1 hd2 hb1 hb2
          subst this; exact u1.symm.trans u2
    · intro l o g b ho hg hd hbk
      rcases bg ho hg with ⟨n1, q1, x1, p1, r1⟩ | ⟨k1, x1, u1, p1, q1, rfl⟩
      · obtain ⟨e1, e2, _⟩ := eld n1 q1 p1 (weak r1) hd hbk
        exact ⟨by omega, (hh.inE l x1 g b p1 q1 e1 hbk).2⟩
      · rw [AObj.isDead_ren] at hd
        obtain ⟨e1, e2⟩ := h2.inE k1 x1 g b p1 q1 hd hbk
        refine ⟨e1, ?_⟩
        rcases e2 with ⟨l', o', g', _, h3, h4, h5, h6⟩ | e2
        · exact (hh.inE l' o' g' b h3 h4 h5 h6).2
        · have h8 : w.heap.size ≤ b := e2
          have := hh.big
          exact .inr (by omega)
    · rintro b ⟨l, o, g, ho, hg, hlv, hbk⟩
      rcases bg ho hg with ⟨n1, q1, x1, p1, r1⟩ | ⟨k1, x1, u1, p1, q1, rfl⟩
      · rcases r1 with ⟨rfl, _⟩ | rfl
        · exact hh.inL b ⟨l, o, g, p1, q1, hlv, hbk⟩
        · rw [AObj.live_freeze] at hlv; cases hlv
      · rw [AObj.live_ren] at hlv
        rcases h2.inL b ⟨k1, x1, g, p1, q1, hlv, hbk⟩ with h6 | h6
        · exact hh.inL b (LO b h6)
        · have h8 : w.heap.size ≤ b := h6
          have := hh.big
          exact .inr (by omega)
    · intro b hb0 hL
      have hlt : b < w.heap.size := Nat.lt_of_lt_of_le hb0 hh.big
      rw [fr b hlt, hh.frame b hb0 hL]
      intro h6
      rcases hh.inL b (LO b h6) with h7 | h7
      · exact hL h7
      · omega
    · intro l o g ho hg
      rcases bg ho hg with ⟨n1, q1, x1, p1, r1⟩ | ⟨k1, x1, u1, p1, q1, rfl⟩
      · cases hd : o.isDead with
        | true => cases o <;> simp [AObj.isDead] at hd; trivial
        | false =>
          have hblk : ∀ b, g.blk = some b → w'.heap[b]? = w.heap[b]? := by
            intro b hbk
            obtain ⟨e1, e2, e3⟩ := eld n1 q1 p1 (weak r1) hd hbk
            exact fr b e2 fun h6 => e3 (LE b h6)
          have := ORel.mono (Ext.refl G) k hblk x1 (hh.objs l x1 g p1 q1)
          have hG : Ext G (G ++ G2.drop back.length) := fun l g hl => by
            have hlt : l < G.length := by
              rcases Nat.lt_or_ge l G.length with x | x
              · exact x
              · rw [List.getElem?_eq_none x] at hl; cases hl
            rw [List.getElem?_append_left hlt]; exact hl
          have := ORel.mono hG ⟨fun _ h => h, fun _ _ _ _ h => h⟩ (fun _ _ => rfl) x1 this
          rcases weak r1 with rfl | rfl
          · exact this
          · exact ORel.freeze _ this
      · refine ORel.ren x1 (Jpp hh hb hx _) ?_
        have hobj := h2.objs k1 x1 g p1 q1
        cases hfl' : fl with
        | true => exact ORel.flat x1 (hfl hfl' x1 (List.mem_of_getElem? p1)) hobj
        | false =>
          have := ORel.mono (Ext.refl G2) (sub2 hfl') (fun _ _ => rfl) x1 hobj
          rwa [hfl'] at this
  · intro l g hl
    have hlt : l < G.length := by
      rcases Nat.lt_or_ge l G.length with x | x
      · exact x
      · rw [List.getElem?_eq_none x] at hl; cases hl
    rw [List.getElem?_append_left hlt]; exact hl
end
end Go.Ax

namespace Go.Ax
set_option linter.unusedVariables false
set_option linter.unusedSimpArgs false
variable {P : Program} {T : Tab}
structure Row where
 e:Ty
 xs:List e.den
def J74:AObj→List Step→Option Row
 | .row e xs _,[]=>some ⟨e,xs⟩
 | .box _ s _,p=>match s.get p with
  | .v (.arr _ e) xs=>some ⟨e,xs⟩
  | _=>none
 | _,_=>none
theorem Jbj {w:World} {b o:Nat} {c:Array Value} {U:TypeId} {f:Nat×Nat} {α:Type} {R:List Value→α→Prop} {sz:Nat} {xs:List α}
  (hb:w.heap[b]?=some (.cells c U f)) (hl:∀ cs x,R cs x→cs.length=sz) (h:Cat R ((c.toList.drop o).take (xs.length * sz)) xs):Jk0 w sz R b o xs:=by
 intro i x hx
 have hi:i < xs.length:=by
  rcases Nat.lt_or_ge i xs.length with y | y
  ·exact y
  ·rw [List.getElem?_eq_none y] at hx; cases hx
 have h1:=Cat.at hl x h hi
 have h3:xs.getD i x=x:=by rw [List.getD_eq_getElem?_getD,hx]; rfl
 rw [h3] at h1
 have hle:i * sz+sz≤xs.length * sz:=by
  have:=Nat.mul_le_mul_right sz (show i+1≤xs.length from hi)
  rw [Nat.add_mul,Nat.one_mul] at this; exact this
 rw [Jgq _ _ _ _ _ hle] at h1
 refine ⟨_,h1,fun j hj=>?_⟩
 rw [cell?_here hb]
 rw [List.length_take] at hj
 rw [List.getElem?_take,if_pos (by omega),List.getElem?_drop,← Array.getElem?_toList,Nat.add_assoc]
theorem Jy0 {G:List GE} {w:World} {ok ok':Nat→Prop} {g:GE} {l:Nat} {p:List Step} {o:AObj} {r:Row} {v:Value}
  (hg:G[l]?=some g) (ho:ORel G w ok g o) (hd:J74 o p=some r) (k:J76 w w ok ok') (hb:∀ b,g.blk=some b→ok' b)
  (hv:TRel G w ok (.own l p) v) (G':List GE):TRel G' w ok' (.v (.slice r.e) r.xs) v:=by
 obtain ⟨t,cs,⟨g',u,hg',rfl,hu⟩,rfl⟩:=hv
 rw [hg] at hg'; injection hg' with hg'; subst hg'
 cases o with
 | row e xs lv=>
  cases p with
  | cons _ _=>simp [J74] at hd
  | nil=>
   simp only [J74,Option.some.injEq] at hd
   subst hd
   obtain ⟨h1,h2,h3,h4,h5⟩:=ho
   rcases hu with ⟨_,_,rfl,rfl⟩ | ⟨hk,_⟩
   ·refine ⟨.slice g.ty,_,⟨by rw [h2],?_⟩,rfl⟩
    refine ⟨_,g.cap,by rw [h3],by rw [← h3]; exact h4,?_⟩
    rcases h5 with ⟨h5,h6⟩ | ⟨b,c,U,h5,h6,h7,h8⟩
    ·left; exact List.eq_nil_of_length_eq_zero (show xs.length=0 by omega)
    ·right
     refine ⟨b,0,by rw [h5]; rfl,hb b h5,?_⟩
     refine Jbj h6 (fun cs x=>RepC.len e) ?_
     rw [List.drop_zero,← h3]
     exact (RepC.mono k (.arr g.n e) h8).2
   ·rw [h1] at hk; cases hk
 | box t s lv=>
  simp only [J74] at hd
  split at hd
  ·rename_i n e xs hs
   injection hd with hd; subst hd
   obtain ⟨h1,h2,b,c,U,h3,h4,h5⟩:=ho
   rcases hu with ⟨_,hk,_⟩ | ⟨_,b',o',n',e',hb',hp,rfl,rfl⟩
   ·rw [h1] at hk; cases hk
   ·rw [h3] at hb'; injection hb' with hb'; subst hb'
    have h6:=Slot.get_ok h5 (by rw [← h2]; exact hp)
    rw [hs] at h6
    obtain ⟨he,h7,h8⟩:=h6
    injection he with he1 he2
    subst he1; subst he2
    refine ⟨.slice e,_,⟨rfl,some ⟨b,o',none⟩,n,by rw [h7],by rw [h7]; exact Nat.le_refl _,.inr ⟨b,o',rfl,hb b h3,?_⟩⟩,rfl⟩
    refine Jbj h4 (fun cs x=>RepC.len e) ?_
    rw [h7]
    exact Cat.mono (fun _ _=>RepC.mono k e) h8
  ·cases hd
 | map _ _ _ _=>simp [J74] at hd
 | dead=>simp [J74] at hd
theorem K3j {G G':List GE} {w:World} {ok ok':Nat→Prop} {v:Value} (e:Ty) (h:TRel G w ok .nil v):TRel G' w ok' (.v (.slice e) []) v:=by
 obtain ⟨t,cs,⟨⟨e',rfl⟩,rfl⟩,rfl⟩:=h
 exact ⟨.slice e,[.slice none 0 0],⟨rfl,none,0,rfl,Nat.le_refl _,.inl rfl⟩,rfl⟩
def J9w:Slot→List Slot
 | .tup a r=>a::J9w r
 | _=>[]
theorem Jca {G:List GE} {w:World} {ok:Nat→Prop}:∀ (s:Slot) {vs:List Value},LRel G w ok s vs→ARel G w ok (J9w s) vs
 | .tnil,_,h=>by simp only [LRel] at h; subst h; exact ⟨rfl,fun i s v h=>by simp [J9w] at h⟩
 | .tup a r,_,h=>by
  obtain ⟨v,vs',rfl,⟨t,cs,h1,rfl⟩,h3⟩:=h
  obtain ⟨e,h4⟩:=Jca r h3
  refine ⟨by simp [J9w,e],fun i s v hs hv=>?_⟩
  cases i with
  | zero=>simp [J9w] at hs hv; subst hs; subst hv; exact TRel.of h1
  | succ i=>exact h4 i s v (by simpa [J9w] using hs) (by simpa using hv)
 | .undef,_,h=>h.elim
 | .v _ _,_,h=>h.elim
 | .nil,_,h=>h.elim
 | .nilp,_,h=>h.elim
 | .own _ _,_,h=>h.elim
 | .ptr _ _,_,h=>h.elim
 | .ref _ _,_,h=>h.elim
 | .fn _ _,_,h=>h.elim
 | .mp _,_,h=>h.elim
 | .anyb,_,h=>h.elim
 | .node _ _,_,h=>h.elim
def Jzn (h:List AObj) (back snap:List Nat) (s s':Slot):Prop:=
 (s'=s.ren (posF back)∧∀ i ∈ s.ids,J7h back i=true)∨
 (s=.nil∧∃ e,s'=.v (.slice e) [])∨
 (∃ l p o r,s=.own l p∧h[l]?=some o∧o.isDead=false∧J74 o p=some r∧s'=.v (.slice r.e) r.xs∧l ∈ snap)
def Jnf (h:List AObj) (back snap:List Nat):List Slot→List Slot→Prop
 | [],[]=>True
 | s::r,s'::r'=>Jzn h back snap s s'∧Jnf h back snap r r'
 | _,_=>False
theorem Jnf.get {h:List AObj} {back snap:List Nat}:∀ {az as':List Slot},Jnf h back snap az as'→az.length=as'.length∧
  ∀ (i:Nat) (s':Slot),as'[i]?=some s'→∃ s,az[i]?=some s∧Jzn h back snap s s'
 | [],[],_=>⟨rfl,fun i s' h=>by simp at h⟩
 | s::r,s'::r',h=>by
  obtain ⟨h1,h2⟩:=h
  obtain ⟨e,h3⟩:=Jnf.get h2
  refine ⟨by simp [e],fun i x hx=>?_⟩
  cases i with
  | zero=>simp at hx; subst hx; exact ⟨s,rfl,h1⟩
  | succ i=>simpa using h3 i x (by simpa using hx)
 | [],_::_,h=>h.elim
 | _::_,[],h=>h.elim
theorem Jmj {c:Ctx} {G:List GE} {h:List AObj} {w:World} {back snap:List Nat} (hh:HRG c G h w) (hb:J8g h back=true)
  (hdis:∀ l ∈ snap,J7h back l=false) {s s':Slot} {v:Value} (hp:Jzn h back snap s s') (hv:TRel G w (okB c G h w) s v) :
  TRel (back.map fun l=>G.getD l default) w (okB (J7t c G h w back snap) (back.map fun l=>G.getD l default) (lent h back) w) s' v:=by
 have hb':=hb
 simp only [J8g,Bool.and_eq_true] at hb'
 have k:=Jbc (snap:=snap) hh hb
 rcases hp with ⟨rfl,hi⟩ | ⟨rfl,e,rfl⟩ | ⟨l,p,o,r,rfl,ho,hd,hr,rfl,hs⟩
 ·exact TRel.ren s (Jdn hb'.1 hh.len hi) (TRel.mono (Ext.refl G) k s hv)
 ·exact K3j e hv
 ·have hlt:l < G.length:=by
   rw [hh.len]
   rcases Nat.lt_or_ge l h.length with x | x
   ·exact x
   ·rw [List.getElem?_eq_none x] at ho; cases ho
  have hg:G[l]?=some G[l]:=List.getElem?_eq_getElem hlt
  refine Jy0 hg (hh.objs l o _ ho hg) hr k (fun b hbk=>?_) hv _
  refine ⟨(hh.inE l o _ b ho hg hd hbk).1,fun _=>.inr ⟨l,o,_,.inr hs,ho,hg,hd,hbk⟩,?_⟩
  rintro ⟨k1,o',g',h1,h2,h3,h4⟩
  obtain ⟨l',o1,e1,e2,e3,rfl,_⟩:=J8p hb h1 hh.len h2
  rw [AObj.live_ren] at h3
  have:=hh.inj l l' _ g' o o1 b hg e3 ho e2 hd (Jby h3) hbk h4
  subst this
  have h5:=hdis l hs
  unfold J7h at h5
  rw [J7r hb'.1 e1] at h5; cases h5
theorem OpOK.call {o:Oper} {cl:Call} {f0:Operand} {f:FuncId} {cap:Slot} {fn:Func} {st:St} {as':List Slot} {back snap:List Nat} {fl:Bool} {ret:Slot}
  {objs':List AObj} (hop:o.op=.call cl) (hcl:cl.callee=.value f0) (hf0:opnd st.slots f0=.fn f cap) (hfn:P.funcs[f]?=some fn)
  (hnm : (fn.name == "runtime.NumGoroutine") = false) (hbody : fn.body.isNone = false)
  (hp:Jnf st.heap back snap (cl.args.toList.map (opnd st.slots)++J9w cap) as') (hb:J8g st.heap back=true)
  (hdis:∀ l ∈ snap,J7h back l=false) (hcall:Jhn P f as' (lent st.heap back) ret objs') (hle:back.length≤objs'.length)
  (hfl:fl=true→ret.flat=true∧∀ o ∈ objs',o.flat=true) (hd:∀ d,o.dst=some d→d < st.n) :
  OpOK P o st (putS o (ret.ren (unl st.heap.length back)) st (J7e st.heap back snap fl objs')):=by
 intro c a w hs next Q hn
 obtain ⟨G,hs⟩:=hs
 have hfv:=J6v hs f0
 rw [hf0] at hfv
 obtain ⟨t,cs,⟨_,caps,rfl,hcap⟩,hpk⟩:=hfv
 rename_i ht
 subst ht
 have hpk:a.eval f0=.func (.func f) #[] caps.toArray:=by rw [hpk]; rfl
 have hcaps:=Jca _ hcap
 -- the values handed over
 have hrel:ARel (back.map fun l=>G.getD l default) w (okB (J7t c G st.heap w back snap) (back.map fun l=>G.getD l default) (lent st.heap back) w) as'
   ((cl.args.toList.map a.eval)++caps):=by
  obtain ⟨e,hget⟩:=hp.get
  refine ⟨by rw [← e]; simp [hcaps.1],fun i s' v hs' hv=>?_⟩
  obtain ⟨s,hs1,hs2⟩:=hget i s' hs'
  refine Jmj hs.toHRG hb hdis hs2 ?_
  rcases Nat.lt_or_ge i cl.args.toList.length with hi | hi
  ·rw [List.getElem?_append_left (by simpa using hi),List.getElem?_map] at hs1 hv
   cases hx:cl.args.toList[i]? with
   | none=>rw [hx] at hs1; cases hs1
   | some x=>
    rw [hx] at hs1 hv
    simp only [Option.map_some,Option.some.injEq] at hs1 hv
    subst hs1; subst hv
    exact J6v hs x
  ·rw [List.getElem?_append_right (by simpa using hi)] at hs1 hv
   simp only [List.length_map] at hs1 hv
   exact hcaps.2 _ s v hs1 hv
 have hrun:(execOp a.eval o).run P w=.ok (.enter f ((cl.args.toList.map a.eval)++caps).toArray) w:=by
  have:(#[]++cl.args.map a.eval++caps.toArray)=((cl.args.toList.map a.eval)++caps).toArray:=by
   apply Array.toList_inj.1; simp
  have hnm' : ¬ fn.name = "runtime.NumGoroutine" := by simpa using hnm
  have hbody':¬ fn.body=none:=by intro h; rw [h] at hbody; cases hbody
  simp [execOp,hop,resolve,hcl,hpk,Deferred.ofValue,invoke,callFunc,hfn,hnm',hbody',← this]
 simp only [Oper.wp,hrun,Oper.upon]
 refine Calls.mono (hcall (J7t c G st.heap w back snap) _ _ (Jf6 hs.toHRG hb) rfl hrel) ?_
 rintro e w' ⟨v,G2,rfl,h2,hv,hx⟩
 obtain ⟨r1,r2,r3,r4⟩:=Jco hs.toHRG hb hdis hle (fun h=>(hfl h).2) h2 hx
 have hon:=hs.on r1 r2 r3
 show next (a.put o.dst v) w'
 refine hn (a.put o.dst v) w' ⟨G++G2.drop back.length,?_⟩
 unfold putS
 cases hdst:o.dst with
 | none=>exact hon
 | some d=>exact hon.put (hd d hdst) (r4 ret v (fun h=>(hfl h).1) hv)
end Go.Ax

namespace Go.Ax
set_option linter.unusedVariables false
set_option linter.unusedSimpArgs false
variable {P : Program} {T : Tab}
def Ja6 (ids:List Nat):List AObj→Nat→List AObj
 | [],_=>[]
 | o::r,l=>(bif J7h ids l then o.freeze else o)::Ja6 ids r (l+1)
def freezeIds (h:List AObj) (ids:List Nat):List AObj:=match ids with | []=>h | ids=>Ja6 ids h 0
theorem Jdv (ids:List Nat):∀ (h:List AObj) (l i:Nat),(Ja6 ids h l)[i]?=(h[i]?).map (fun o=>bif J7h ids (l+i) then o.freeze else o)
 | [],_,_=>rfl
 | o::r,l,0=>rfl
 | o::r,l,i+1=>by
  simp only [Ja6,List.getElem?_cons_succ]
  rw [Jdv ids r (l+1) i,show l+1+i=l+(i+1) by omega]
theorem Jdw (ids:List Nat):∀ (h:List AObj) (l:Nat),(Ja6 ids h l).length=h.length
 | [],_=>rfl
 | _::r,l=>by simp [Ja6,Jdw ids r (l+1)]
theorem J8y {s:List Nat} {l:Nat} (hm:l ∈ s):J7h s l=true:=by
 induction s with
 | nil=>cases hm
 | cons x r ih=>
  unfold J7h Jaf
  by_cases e:x=l
  ·subst e; simp
  ·have e2:Nat.beq x l=false:=by rw [← Bool.not_eq_true,Nat.beq_eq]; exact e
   rw [e2,cond_false]
   have:=ih (by rcases List.mem_cons.1 hm with h | h; exact absurd h.symm e; exact h)
   unfold J7h at this
   cases hr:Jaf r l with
   | none=>rw [hr] at this; cases this
   | some _=>rfl
theorem J95 (h:List AObj) (ids:List Nat) (i:Nat):(freezeIds h ids)[i]?=(h[i]?).map (fun o=>bif J7h ids i then o.freeze else o):=by
 unfold freezeIds
 split
 ·simp [J7h,Jaf]
 ·rw [Jdv,Nat.zero_add]
theorem Jev (h:List AObj) (ids:List Nat):(freezeIds h ids).length=h.length:=by
 unfold freezeIds; split
 ·rfl
 ·exact Jdw _ _ _
theorem HRG.freezeIds {c:Ctx} {G:List GE} {h:List AObj} {w:World} (hh:HRG c G h w) (ids:List Nat) :
  HRG c G (freezeIds h ids) w∧J76 w w (okB c G h w) (okB c G (Ax.freezeIds h ids) w):=by
 refine hh.shrink (Jev h ids) fun l o o' ho ho'=>?_
 rw [J95,ho] at ho'
 simp only [Option.map_some,Option.some.injEq] at ho'
 cases hi:J7h ids l with
 | true=>rw [hi] at ho'; exact .inr (.inl ho'.symm)
 | false=>rw [hi] at ho'; exact .inl ho'.symm
def J7o (h:List AObj):(t:Ty)→Slot→Option t.den
 | t,.v t' x=>cast? t' t x
 | .slice _,.nil=>some []
 | .slice e,.own l p=>match J74 (J6q h l) p with
  | some r=>cast? (.slice r.e) (.slice e) r.xs
  | none=>none
 | .fld a r,.node s1 s2=>match J7o h a s1,J7o h r s2 with
  | some x,some y=>some (x,y)
  | _,_=>none
 | _,_=>none
theorem J9o {t t':Ty} {x:t.den} {y:t'.den} (h:cast? t t' x=some y):∃ e:t=t',e ▸ x=y:=by
 unfold cast? at h
 split at h
 ·rename_i e; injection h with h; exact ⟨e,h⟩
 ·cases h
theorem Jo7 {c:Ctx} {G:List GE} {h:List AObj} {w:World} (hh:HRG c G h w) {ids:List Nat} {l:Nat} {o:AObj} {g:GE} {b:Nat} (ho:h[l]?=some o)
  (hg:G[l]?=some g) (hd:o.isDead=false) (hb:g.blk=some b) (hl:l ∈ ids):okB c G (freezeIds h ids) w b:=by
 obtain ⟨h1,h2⟩:=hh.inE l o g b ho hg hd hb
 refine ⟨h1,fun h3=>?_,?_⟩
 ·rcases h2 with h2 | h2
  ·exact hh.EA b h2
  ·omega
 ·rintro ⟨l',o',g',e1,e2,e3,e4⟩
  rw [J95] at e1
  cases ho':h[l']? with
  | none=>rw [ho'] at e1; cases e1
  | some o2=>
   rw [ho'] at e1
   simp only [Option.map_some,Option.some.injEq] at e1
   have hlv:o2.live=true∧J7h ids l'=false:=by
    cases hi:J7h ids l' with
    | true=>rw [hi] at e1; simp only [cond_true] at e1; rw [← e1,AObj.live_freeze] at e3; cases e3
    | false=>rw [hi] at e1; simp only [cond_false] at e1; rw [← e1] at e3; exact ⟨e3,rfl⟩
   have:=hh.inj l l' g g' o o2 b hg e2 ho ho' hd (Jby hlv.1) hb e4
   subst this
   rw [J8y hl] at hlv; cases hlv.2
theorem Jf8 {h:List AObj} {l:Nat} {r:Row} {p:List Step} (hd:J74 (J6q h l) p=some r):h[l]?=some (J6q h l)∧(J6q h l).isDead=false:=by
 unfold J6q at *
 rw [List.getD_eq_getElem?_getD] at *
 cases hh:h[l]? with
 | none=>rw [hh] at hd; simp [J74] at hd
 | some o=>rw [hh] at hd; simp only [Option.getD_some] at *; exact ⟨trivial,by cases o <;> simp_all [J74,AObj.isDead]⟩
theorem K3m {G:List GE} {w:World} {ok:Nat→Prop} {l:Nat} {p:List Step} {t:Ty} {cs:List Value} (h:J6y G w ok (.own l p) t cs) :
  TRel G w ok (.own l p) (pack t cs):=⟨t,cs,h,rfl⟩
theorem Jcm {c:Ctx} {G:List GE} {h:List AObj} {w:World} (hh:HRG c G h w) {ids:List Nat} :
  ∀ (t:Ty) (s:Slot) {t2:Ty} {x:t.den} {cs:List Value},(∀ l ∈ s.ids,l ∈ ids)→J7o h t s=some x→J6y G w (okB c G h w) s t2 cs→
   RepC w (okB c G (freezeIds h ids) w) t cs x∧t.isAgg=t2.isAgg:=by
 intro t s
 have k:=(hh.freezeIds ids).2
 fun_induction J7o h t s with
 | case1 t t' x=>
  intro t2 y cs _ hx hs
  obtain ⟨e,hx⟩:=J9o hx
  subst e; subst hx
  obtain ⟨e2,hs⟩:=hs
  exact ⟨RepC.mono k _ hs,by rw [e2]⟩
 | case2 e=>
  intro t2 y cs _ hx hs
  injection hx with hx; subst hx
  obtain ⟨⟨e',rfl⟩,rfl⟩:=hs
  exact ⟨⟨none,0,rfl,Nat.le_refl _,.inl rfl⟩,rfl⟩
 | case3 e l p r hr=>
  intro t2 y cs hi hx hs
  obtain ⟨he,hx⟩:=J9o hx
  injection he with he; subst he; subst hx
  obtain ⟨ho,hd⟩:=Jf8 hr
  obtain ⟨g,v,hg,rfl,hv⟩:=id hs
  have hv2:=Jy0 (ok':=okB c G (freezeIds h ids) w) hg (hh.objs l _ g ho hg) hr k
   (fun b hb=>Jo7 hh ho hg hd hb (hi l (by simp [Slot.ids]))) (K3m hs) G
  have ha:t2.isAgg=false:=by rcases hv with ⟨_,_,rfl,_⟩ | ⟨_,_,_,_,_,_,_,rfl,_⟩ <;> rfl
  obtain ⟨t,cs,⟨rfl,h2⟩,h3⟩:=hv2
  have h4:v=pack (.slice r.e) cs:=by rw [← h3]; simp [pack,ha]
  obtain ⟨a,n,rfl,h5⟩:=h2
  have h4:v=.slice a (List.length r.xs) n:=h4
  subst h4
  exact ⟨⟨a,n,rfl,h5⟩,by rw [ha]; rfl⟩
 | case4=>intro t2 y cs _ hx _; cases hx
 | case5 a r s1 s2 x y hx hy ih1 ih2=>
  intro t2 z cs hi hz hs
  injection hz with hz; subst hz
  obtain ⟨ta,tr,rfl,c1,c2,rfl,h1,h2⟩:=hs
  exact ⟨⟨c1,c2,rfl,(ih1 (fun l hl=>hi l (by simp [Slot.ids,hl])) hy h1).1,(ih2 (fun l hl=>hi l (by simp [Slot.ids,hl])) hx h2).1⟩,rfl⟩
 | case6=>intro t2 y cs _ hx _; cases hx
 | case7=>intro t2 y cs _ hx _; cases hx
theorem Jmh {t t2:Ty} {cs:List Value} (h:t.isAgg=t2.isAgg):pack t cs=pack t2 cs:=by simp [pack,h]
theorem J8w {c:Ctx} {G:List GE} {h:List AObj} {w:World} (hh:HRG c G h w) {ids:List Nat} {t:Ty} {s:Slot} {x:t.den} {v:Value}
  (hi:∀ l ∈ s.ids,l ∈ ids) (hx:J7o h t s=some x) (hv:TRel G w (okB c G h w) s v) :
  ∃ cs,RepC w (okB c G (freezeIds h ids) w) t cs x∧v=pack t cs:=by
 have:∃ t2 cs,J6y G w (okB c G h w) s t2 cs∧v=pack t2 cs:=by
  cases s <;> first
   | exact hv
   | (cases t <;> cases hx)
 obtain ⟨t2,cs,h1,rfl⟩:=this
 obtain ⟨h2,h3⟩:=Jcm hh t s hi hx h1
 exact ⟨cs,h2,(Jmh h3).symm⟩
theorem Weak.val {st:St} {i:Nat} {t:Ty} {x:t.den} (hx:J7o st.heap t (look st.slots i)=some x) :
  Weak st { st with slots:=(i,.v t x)::st.slots,heap:=freezeIds st.heap (look st.slots i).ids }:=by
 rintro c a w ⟨G,hs⟩
 obtain ⟨h1,k⟩:=hs.toHRG.freezeIds (look st.slots i).ids
 obtain ⟨cs,h4,h3⟩:=J8w hs.toHRG (fun l hl=>hl) hx (hs.slots i)
 refine ⟨G,h1,fun j=>?_,hs.ent,hs.em,hs.sz,hs.nodef⟩
 show TRel _ _ _ (look ((i,.v t x)::st.slots) j) _
 rw [J7s]
 split
 ·rename_i e; subst e; exact ⟨t,cs,⟨rfl,h4⟩,h3⟩
 ·exact TRel.mono (Ext.refl G) k _ (hs.slots j)
def Jao:List Nat→Nat→Nat→Bool
 | _,_,0=>true
 | [],_,_+1=>false
 | k::r,i,n+1=>Nat.beq k i && Jao r (i+1) n
theorem Jgk:∀ {ks:List Nat} {i n j:Nat},Jao ks i n=true→j < n→ks[j]?=some (i+j)
 | [],_,n+1,_,h,_=>by simp [Jao] at h
 | k::r,i,n+1,0,h,_=>by simp [Jao] at h; simp [h.1]
 | k::r,i,n+1,j+1,h,hj=>by
  simp only [Jao,Bool.and_eq_true] at h
  rw [List.getElem?_cons_succ,Jgk h.2 (by omega)]; congr 1; omega
 | _,_,0,_,_,hj=>by omega
theorem Jyo {c : Ctx} {G : List GE} {h : List AObj} {w : World} {ks : List Nat} (hh : HRG c G h w) (hb : J8g h ks = true) :
    HRG c (ks.map fun l => G.getD l default) (lent h ks) w ∧ J76 w w (okB c G h w) (okB c (ks.map fun l => G.getD l default) (lent h ks) w) := by
  have hb' := hb
  simp only [J8g, Bool.and_eq_true] at hb'
  have own : ∀ b, Jch (ks.map fun l => G.getD l default) (lent h ks) b → Jch G h b := by
    rintro b ⟨k, o', g, h1, h2, h3, h4⟩
    obtain ⟨l, o, e1, e2, e3, rfl, _⟩ := J8p hb h1 hh.len h2
    rw [AObj.live_ren] at h3
    exact ⟨l, o, g, e2, e3, h3, h4⟩
  have k : J76 w w (okB c G h w) (okB c (ks.map fun l => G.getD l default) (lent h ks) w) :=
    ⟨fun b hb => ⟨hb.1, hb.2.1, fun ho => hb.2.2 (own b ho)⟩, fun _ _ _ _ h => h⟩
  refine ⟨?_, k⟩
  refine { EA := hh.EA, len := by simp [lent], inj := ?_, inE := ?_, inL := fun b hb => hh.inL b (own b hb), frame := hh.frame, big := hh.big, os := hh.os, tape := hh.tape,
           output := hh.output, objs := ?_ }
  · intro k1 k2 g1 g2 o1 o2 b hg1 hg2 ho1 ho2 hd1 hd2 hb1 hb2
    obtain ⟨l1, x1, e1, e2, e3, rfl, _⟩ := J8p hb ho1 hh.len hg1
    obtain ⟨l2, x2, f1, f2, f3, rfl, _⟩ := J8p hb ho2 hh.len hg2
    rw [AObj.isDead_ren] at hd1 hd2
    have := hh.inj l1 l2 g1 g2 x1 x2 b e3 f3 e2 f2 hd1 hd2 hb1 hb2
    subst this
    have h1 := J7r hb'.1 e1
    have h2 := J7r hb'.1 f1
    rw [h1] at h2; injection h2
  · intro k o' g b ho hg hd hbk
    obtain ⟨l, o, e1, e2, e3, rfl, _⟩ := J8p hb ho hh.len hg
    rw [AObj.isDead_ren] at hd
    exact hh.inE l o g b e2 e3 hd hbk
  · intro k1 o' g ho hg
    obtain ⟨l, o, e1, e2, e3, rfl, hids⟩ := J8p hb ho hh.len hg
    have := hh.objs l o g e2 e3
    exact ORel.ren o (Jdn hb'.1 hh.len hids) (ORel.mono (Ext.refl G) k (fun _ _ => rfl) o this)
def J8b (ks:List Nat) (ss:List (Nat×Slot)):List Nat→List (Nat×Slot)
 | []=>[]
 | i::r=>(i,(look ss i).ren (posF ks))::J8b ks ss r
theorem Jse (ks:List Nat) (ss:List (Nat×Slot)):∀ (is:List Nat) (j:Nat),look (J8b ks ss is) j=.undef∨(j ∈ is∧look (J8b ks ss is) j=(look ss j).ren (posF ks))
 | [],_=>.inl rfl
 | i::r,j=>by
  rw [J8b,J7s]
  split
  ·rename_i e; subst e; right; exact ⟨List.mem_cons_self ..,rfl⟩
  ·rcases Jse ks ss r j with h | ⟨h1,h2⟩
   ·exact .inl h
   ·exact .inr ⟨List.mem_cons_of_mem _ h1,h2⟩
def Kt (ks:List Nat) (ss:List (Nat×Slot)) (is:List Nat):Bool:=is.all fun i=>(look ss i).ids.all (J7h ks)
theorem Weak.sel {st:St} {is ks:List Nat} (hb:J8g st.heap ks=true) (hs:Jao ks 0 st.m=true) (hi:Kt ks st.slots is=true) :
  Weak st { st with slots:=J8b ks st.slots is,heap:=lent st.heap ks }:=by
 rintro c a w ⟨G,hr⟩
 have hb':=hb
 simp only [J8g,Bool.and_eq_true] at hb'
 obtain ⟨h1,k⟩:=Jyo hr.toHRG hb
 refine ⟨_,h1,fun j=>?_,?_,hr.em,hr.sz,hr.nodef⟩
 ·rcases Jse ks st.slots is j with h | ⟨h2,h3⟩
  ·show TRel _ _ _ (look (J8b ks st.slots is) j) _
   rw [h]; trivial
  ·show TRel _ _ _ (look (J8b ks st.slots is) j) _
   rw [h3]
   simp only [Kt,List.all_eq_true] at hi
   exact TRel.ren _ (Jdn hb'.1 hr.len (hi j h2)) (TRel.mono (Ext.refl G) k _ (hr.slots j))
 ·intro l g hl
  have hlt:l < st.m:=by
   rw [← hr.em]
   rcases Nat.lt_or_ge l c.G0.length with x | x
   ·exact x
   ·rw [List.getElem?_eq_none x] at hl; cases hl
  have h2:=Jgk hs hlt
  rw [Nat.zero_add] at h2
  rw [List.getElem?_map,h2]
  have:=hr.ent l g hl
  simp [this]
theorem Weak.promote {st:St} {i:Nat} {e:Ty} (h:look st.slots i=.nil) :
  Weak st { st with slots:=(i,.own st.heap.length [])::st.slots,heap:=st.heap++[.row e [] true] }:=by
 rintro c a w ⟨G,hr⟩
 obtain ⟨h1,k⟩:=hr.toHRG.fresh (o:=.row e [] true) (g:=⟨.row,none,e,0,0⟩) rfl (fun ok'=>⟨rfl,rfl,rfl,Nat.le_refl _,.inl ⟨rfl,rfl⟩⟩)
 have hon:=hr.on h1 (Ext.snoc _ _) k
 refine ⟨_,h1,fun j=>?_,hon.ent,hr.em,hr.sz,hr.nodef⟩
 show TRel _ _ _ (look ((i,.own st.heap.length [])::st.slots) j) _
 rw [J7s]
 split
 ·rename_i e1; subst e1
  have:=hr.slots i
  rw [h] at this
  obtain ⟨t,cs,⟨⟨e',rfl⟩,rfl⟩,h3⟩:=this
  refine ⟨.slice e,[.slice none 0 0],⟨⟨.row,none,e,0,0⟩,_,?_,rfl,.inl ⟨rfl,rfl,rfl,rfl⟩⟩,h3⟩
  rw [← hr.len]; simp
 ·exact hon.slots j
theorem J6x.sel {m:Nat} {r:Slot} {h:List AObj} {ks:List Nat} (hb:J8g h ks=true) (hs:Jao ks 0 m=true) (hi:r.ids.all (J7h ks)=true) :
  J6x m r h (r.ren (posF ks)) (lent h ks):=by
 intro c G w v hh hv
 have hb':=hb
 simp only [J8g,Bool.and_eq_true] at hb'
 obtain ⟨h1,k⟩:=Jyo hh hb
 simp only [List.all_eq_true] at hi
 refine ⟨_,h1,TRel.ren r (Jdn hb'.1 hh.len hi) (TRel.mono (Ext.refl G) k r hv),fun l g hl hg=>?_⟩
 have h2:=Jgk hs hl
 rw [Nat.zero_add] at h2
 rw [List.getElem?_map,h2]; simp [hg]
def valTup (h:List AObj):List Ty→Slot→Option Slot
 | [],.tnil=>some .tnil
 | t::ts,.tup a r=>match J7o h t a,valTup h ts r with
  | some x,some s=>some (.tup (.v t x) s)
  | _,_=>none
 | _,_=>none
theorem Jv7 {c:Ctx} {G:List GE} {h:List AObj} {w:World} (hh:HRG c G h w) {ids:List Nat}:∀ (ts:List Ty) (s:Slot) {s':Slot} {vs:List Value},
  (∀ l ∈ s.ids,l ∈ ids)→valTup h ts s=some s'→LRel G w (okB c G h w) s vs→LRel G w (okB c G (freezeIds h ids) w) s' vs:=by
 intro ts s
 fun_induction valTup h ts s with
 | case1=>intro s' vs _ hx hs; injection hx with hx; subst hx; exact hs
 | case2 t ts a r x s hx hs ih=>
  intro s' vs hi hx' hv
  injection hx' with hx'; subst hx'
  obtain ⟨v,vs',rfl,⟨t2,cs,h1,rfl⟩,h3⟩:=hv
  obtain ⟨h4,h5⟩:=Jcm hh t a (fun l hl=>hi l (by simp [Slot.ids,hl])) hs h1
  exact ⟨_,vs',rfl,⟨t,cs,⟨rfl,h4⟩,(Jmh h5).symm⟩,ih (fun l hl=>hi l (by simp [Slot.ids,hl])) hx h3⟩
 | case3=>intro s' vs _ hx _; cases hx
 | case4=>intro s' vs _ hx _; cases hx
theorem J6x.val {m:Nat} {r:Slot} {h:List AObj} {t:Ty} {x:t.den} (hx:J7o h t r=some x):J6x m r h (.v t x) (freezeIds h r.ids):=by
 intro c G w v hh hv
 obtain ⟨cs,h4,h3⟩:=J8w hh (fun l hl=>hl) hx hv
 exact ⟨G,(hh.freezeIds r.ids).1,⟨t,cs,⟨rfl,h4⟩,h3⟩,fun _ _ _ h=>h⟩
theorem J6x.valTup {m:Nat} {r r':Slot} {h:List AObj} {t:Ty} {ts:List Ty} (hx:Ax.valTup h (t::ts) r=some r'):J6x m r h r' (freezeIds h r.ids):=by
 intro c G w v hh hv
 cases r with
 | tup a r=>
  obtain ⟨vs,rfl,h1⟩:=hv
  have h2:=Jv7 hh (t::ts) (.tup a r) (fun l hl=>hl) hx h1
  refine ⟨G,(hh.freezeIds _).1,?_,fun _ _ _ h=>h⟩
  cases r' with
  | tup a' r'=>exact ⟨vs,rfl,h2⟩
  | tnil=>simp only [LRel] at h2; subst h2; rfl
  | _=>exact h2.elim
 | _=>simp [Ax.valTup] at hx
end Go.Ax

namespace Go.Ax
set_option linter.unusedVariables false
set_option linter.unusedSimpArgs false
open Ieee
theorem Jro (neg:Bool) (n:Nat):Toward.even.cut neg n 0=n:=by
 simp [Toward.cut,Nat.mod_one]
theorem Ji3:Ieee.double.leastPlace=-1074:=by decide +kernel
theorem Jg0:Ieee.double.binade=4503599627370496:=by decide +kernel
theorem Jq2:Ieee.double.infRung=9218868437227405312:=by decide +kernel
theorem Jln:Ieee.double.signWeight=9223372036854775808:=by decide +kernel
theorem Jrp:Ieee.double.fractionBits=52:=rfl
theorem mant (mag:Nat) (h0:mag≠0) (h:mag < 9007199254740992) :
  mag.log2≤52∧4503599627370496≤mag * 2 ^ (52 - mag.log2)∧mag * 2 ^ (52 - mag.log2) < 9007199254740992:=by
 have hl:mag.log2 < 53:=(Nat.log2_lt h0).2 (by rw [show 2 ^ 53=9007199254740992 by decide +kernel]; exact h)
 have h1:2 ^ mag.log2≤mag:=Nat.log2_self_le h0
 have h2:mag < 2 ^ (mag.log2+1):=Nat.lt_log2_self
 have e1:2 ^ mag.log2 * 2 ^ (52 - mag.log2)=4503599627370496:=by
  rw [← Nat.pow_add,show mag.log2+(52 - mag.log2)=52 by omega]
 have e2:2 ^ (mag.log2+1) * 2 ^ (52 - mag.log2)=9007199254740992:=by
  rw [← Nat.pow_add,show mag.log2+1+(52 - mag.log2)=53 by omega]
 refine ⟨by omega,?_,?_⟩
 ·rw [← e1]; exact Nat.mul_le_mul_right _ h1
 ·rw [← e2]; exact Nat.mul_lt_mul_of_pos_right h2 (Nat.two_pow_pos _)
theorem Jkx (neg:Bool) (mag:Nat) (h0:mag≠0) (h:mag < 9007199254740992) :
  Ieee.double.nearest neg mag 0=Ieee.double.word neg ((mag.log2+1022) * 4503599627370496+mag * 2 ^ (52 - mag.log2)):=by
 obtain ⟨hl,a1,a2⟩:=mant mag h0 h
 unfold Format.nearest
 rw [if_neg h0,Ji3,Jrp,Jg0,Jq2]
 generalize hlg:mag.log2=L at *
 have hlast:max (0+(L:Int) - (52:Nat)) (-1074)=(L:Int) - 52:=by omega
 rw [hlast]
 have d1:((0:Int) - ((L:Int) - 52)).toNat=52 - L:=by omega
 have d2:((L:Int) - 52 - 0).toNat=0:=by omega
 have d3:((L:Int) - 52 - (-1074)).toNat=L+1022:=by omega
 dsimp only
 rw [d1,d2,d3,Jro,Nat.shiftLeft_eq]
 generalize mag * 2 ^ (52 - L)=K at *
 rw [Nat.min_eq_left (by omega)]
theorem Jzi (p:Nat):0=(0:Int).natAbs * 2 ^ p:=by simp
theorem Jfe (L:Nat) (h:L≤52):(-1074+((L+1022+1 - 1:Nat):Int))=-((52 - L:Nat):Int):=by omega
theorem J8m (n:Int) (h:n.natAbs < 9007199254740992):∃ (m:Nat) (p:Nat),FloatKind.f64.decode (FloatKind.f64.nearest n)=.number (decide (n < 0)) m (-(p:Int))∧
  m=n.natAbs * 2 ^ p:=by
 by_cases h0:n=0
 ·subst h0
  have hz:FloatKind.f64.decode (FloatKind.f64.nearest 0)=.number (decide ((0:Int) < 0)) 0 (-((1074:Nat):Int)):=by decide +kernel
  generalize (1074:Nat)=p at hz
  exact ⟨0,p,hz,Jzi p⟩
 ·have h0':n.natAbs≠0:=by omega
  obtain ⟨hl,a1,a2⟩:=mant n.natAbs h0' h
  have e:=Jkx (decide (n < 0)) n.natAbs h0' h
  refine ⟨n.natAbs * 2 ^ (52 - n.natAbs.log2),52 - n.natAbs.log2,?_,rfl⟩
  show Ieee.double.read (Ieee.double.nearest (decide (n < 0)) n.natAbs 0)=_
  rw [e]
  generalize n.natAbs.log2=L at *
  generalize n.natAbs * 2 ^ (52 - L)=K at *
  generalize hr:(L+1022) * 4503599627370496+K=rung
  have r1:rung < 9218868437227405312:=by omega
  have q1:Ieee.double.word (decide (n < 0)) rung / 9223372036854775808 % 2=(decide (n < 0)).toNat:=by
   unfold Format.word; rw [Jln]
   cases decide (n < 0)
   ·rw [if_neg (by simp)]; simp only [Bool.toNat_false]; omega
   ·rw [if_pos rfl]; simp only [Bool.toNat_true]; omega
  have q2:Ieee.double.word (decide (n < 0)) rung % 9223372036854775808=rung:=by
   unfold Format.word; rw [Jln]
   cases decide (n < 0)
   ·rw [if_neg (by simp)]; omega
   ·rw [if_pos rfl]; omega
  unfold Format.read
  rw [Jln,Jg0,Jq2,Ji3,q1,q2]
  rw [if_neg (by omega),if_pos r1]
  have s1:rung / 4503599627370496=L+1022+1:=by omega
  have s2:rung % 4503599627370496=K - 4503599627370496:=by omega
  have t1:((decide (n < 0)).toNat == 1)=decide (n < 0):=by cases decide (n < 0) <;> rfl
  rw [s1,s2,t1,Nat.add_sub_of_le a1,Jfe L hl]
theorem Jfl (n:Int) (m p:Nat) (q:Int) (hm:m=n.natAbs * 2 ^ p) (hq:q≤-(p:Int)):signed (decide (n < 0)) m ((-(p:Int) - q).toNat)=n * 2 ^ ((-q).toNat):=by
 have e:p+(-(p:Int) - q).toNat=(-q).toNat:=by omega
 unfold signed
 rw [Nat.shiftLeft_eq,hm,Nat.mul_assoc,← Nat.pow_add,e]
 generalize (-q).toNat=k
 by_cases hn:n < 0
 ·simp only [hn,decide_true,if_true]
  rw [Int.natCast_mul,Int.natCast_pow,← Int.neg_mul,show (-(n.natAbs:Int))=n by omega]; rfl
 ·simp only [hn,decide_false,Bool.false_eq_true,if_false]
  rw [Int.natCast_mul,Int.natCast_pow,show (n.natAbs:Int)=n by omega]; rfl
theorem Jc1 (a b:Int) (ha:a.natAbs < 9007199254740992) (hb:b.natAbs < 9007199254740992) :
  FloatKind.f64.format.order (FloatKind.f64.nearest a) (FloatKind.f64.nearest b)=some (compare a b):=by
 obtain ⟨m,p,e1,e2⟩:=J8m a ha
 obtain ⟨m',p',f1,f2⟩:=J8m b hb
 have e1':FloatKind.f64.format.read (FloatKind.f64.nearest a)=_:=e1
 have f1':FloatKind.f64.format.read (FloatKind.f64.nearest b)=_:=f1
 unfold Format.order
 rw [e1',f1']
 simp only [Datum.order]
 rw [Jfl a m p _ e2 (by omega),Jfl b m' p' _ f2 (by omega)]
 generalize (-min (-(p:Int)) (-(p':Int))).toNat=k
 have hk:(0:Int) < 2 ^ k:=Int.pow_pos (by decide)
 have e:compare (a * 2 ^ k) (b * 2 ^ k)=compare a b:=by
  show compareOfLessAndEq _ _=compareOfLessAndEq _ _
  unfold compareOfLessAndEq
  have c1:(a * 2 ^ k < b * 2 ^ k)↔a < b:=⟨fun h=>Int.lt_of_mul_lt_mul_right h (Int.le_of_lt hk),fun h=>Int.mul_lt_mul_of_pos_right h hk⟩
  have c2:(a * 2 ^ k=b * 2 ^ k)↔a=b:=⟨fun h=>Int.eq_of_mul_eq_mul_right (Int.ne_of_gt hk) h,fun h=>by rw [h]⟩
  simp only [c1,c2]
 rw [e]
theorem Jn8 (a:Int) (ha:a.natAbs < 9007199254740992):(FloatKind.f64.decode (FloatKind.f64.nearest a)).toInt .zero=some a:=by
 obtain ⟨m,p,e1,e2⟩:=J8m a ha
 rw [e1]
 simp only [Datum.toInt,Datum.integral]
 have h1:(-(p:Int)).toNat=0:=by omega
 have h2:(- -(p:Int)).toNat=p:=by omega
 rw [h1,h2,Nat.shiftLeft_zero]
 have hc:Toward.zero.cut (decide (a < 0)) m p=a.natAbs:=by
  unfold Toward.cut
  simp only [Bool.toNat_false,Nat.add_zero,Nat.shiftLeft_eq,Nat.one_mul]
  by_cases hm:a.natAbs=0
  ·rw [e2,hm,Nat.zero_mul,Nat.zero_div]
  ·have hle:p≤m.log2+2:=by
    have:2 ^ p≤m:=by rw [e2]; exact Nat.le_mul_of_pos_left _ (by omega)
    have:=(Nat.le_log2 (by intro h; rw [h] at this; have:=Nat.two_pow_pos p; omega)).2 this
    omega
   rw [Nat.min_eq_left hle,e2,Nat.mul_div_cancel _ (Nat.two_pow_pos p)]
 rw [hc]
 unfold signed
 rw [Nat.shiftLeft_zero]
 by_cases hn:a < 0
 ·simp only [hn,decide_true,if_true]; congr 1; omega
 ·simp only [hn,decide_false,Bool.false_eq_true,if_false]; congr 1; omega
theorem Jw7 (neg:Bool) (q d:Nat) (hq:q≠0):Toward.even.cut neg (q * 2 ^ d) d=q:=by
 have hle:d≤(q * 2 ^ d).log2:=by
  have h1:2 ^ d≤q * 2 ^ d:=Nat.le_mul_of_pos_left _ (by omega)
  exact (Nat.le_log2 (by have:=Nat.two_pow_pos d; omega)).2 h1
 unfold Toward.cut
 have hg:1 <<< min d ((q * 2 ^ d).log2+2)=2 ^ d:=by rw [Nat.min_eq_left (by omega),Nat.shiftLeft_eq,Nat.one_mul]
 simp only [hg]
 have hp:=Nat.two_pow_pos d
 rw [Nat.mul_div_cancel _ hp,Nat.mul_mod_left]
 simp
theorem K3g (m k:Nat) (h:m≠0):(m * 2 ^ k).log2=m.log2+k:=by
 have hp:=Nat.two_pow_pos k
 have h1:2 ^ m.log2≤m:=Nat.log2_self_le h
 have h2:m < 2 ^ (m.log2+1):=Nat.lt_log2_self
 have hn:m * 2 ^ k≠0:=by have:=Nat.mul_pos (Nat.pos_of_ne_zero h) hp; omega
 refine Nat.le_antisymm ?_ ((Nat.le_log2 hn).2 (by rw [Nat.pow_add]; exact Nat.mul_le_mul_right _ h1))
 refine Nat.le_of_lt_succ ((Nat.log2_lt hn).2 ?_)
 show m * 2 ^ k < 2 ^ (m.log2+k+1)
 rw [show m.log2+k+1=(m.log2+1)+k by omega,Nat.pow_add]
 exact Nat.mul_lt_mul_of_pos_right h2 hp
theorem Juk (neg:Bool) (m k:Nat) (h0:m≠0) (h:m < 9007199254740992):Ieee.double.nearest neg (m * 2 ^ k) (-(k:Int))=Ieee.double.nearest neg m 0:=by
 rw [Jkx neg m h0 h]
 obtain ⟨hl,a1,a2⟩:=mant m h0 h
 have hp:=Nat.two_pow_pos k
 unfold Format.nearest
 rw [if_neg (by have:=Nat.mul_pos (Nat.pos_of_ne_zero h0) hp; omega),Ji3,Jrp,Jg0,Jq2,K3g m k h0]
 generalize hlg:m.log2=L at *
 have hlast:max (-(k:Int)+((L+k:Nat):Int) - (52:Nat)) (-1074)=(L:Int) - 52:=by omega
 rw [hlast]
 have hc:Toward.even.cut neg ((m * 2 ^ k) <<< (-(k:Int) - ((L:Int) - 52)).toNat) (((L:Int) - 52) - -(k:Int)).toNat=m * 2 ^ (52 - L):=by
  by_cases c:k≤52 - L
  ·rw [show (((L:Int) - 52) - -(k:Int)).toNat=0 by omega,Jro,Nat.shiftLeft_eq,Nat.mul_assoc,← Nat.pow_add,show k+(-(k:Int) - ((L:Int) - 52)).toNat=52 - L by omega]
  ·rw [show (-(k:Int) - ((L:Int) - 52)).toNat=0 by omega,Nat.shiftLeft_zero]
   generalize hd:(((L:Int) - 52) - -(k:Int)).toNat=d
   have e:m * 2 ^ k=m * 2 ^ (52 - L) * 2 ^ d:=by rw [Nat.mul_assoc,← Nat.pow_add,show 52 - L+d=k by omega]
   rw [e,Jw7 _ _ _ (by omega)]
 dsimp only
 rw [hc]
 have d3:((L:Int) - 52 - (-1074)).toNat=L+1022:=by omega
 rw [d3,Nat.min_eq_left (by omega)]
theorem Jpw (a b:Int) (ha:a.natAbs < 9007199254740992) (hb:b.natAbs < 9007199254740992) (hc:(a+b).natAbs < 9007199254740992) :
  FloatKind.f64.format.add (FloatKind.f64.nearest a) (FloatKind.f64.nearest b)=some (FloatKind.f64.nearest (a+b)):=by
 obtain ⟨m,p,e1,e2⟩:=J8m a ha
 obtain ⟨m',p',f1,f2⟩:=J8m b hb
 have e1':FloatKind.f64.format.read (FloatKind.f64.nearest a)=_:=e1
 have f1':FloatKind.f64.format.read (FloatKind.f64.nearest b)=_:=f1
 unfold Format.add
 rw [e1',f1']
 simp only [Datum.sum,Option.map_some]
 rw [Jfl a m p _ e2 (by omega),Jfl b m' p' _ f2 (by omega)]
 have hbase:min (-(p:Int)) (-(p':Int))=-(((-min (-(p:Int)) (-(p':Int))).toNat:Nat):Int):=by omega
 rw [hbase]
 generalize hk:(-min (-(p:Int)) (-(p':Int))).toNat=k
 rw [show (- -(k:Int)).toNat=k by omega,← Int.add_mul]
 have hp:(0:Int) < 2 ^ k:=Int.pow_pos (by decide)
 show some (Ieee.double.nearest _ _ _)=some (Ieee.double.nearest _ _ _)
 by_cases h0:a+b=0
 ·rw [h0,Int.zero_mul,if_pos rfl]
  have hs:(decide (a < 0) && decide (b < 0))=false:=by
   by_cases h1:a < 0
   ·have h2:¬ b < 0:=by omega
    simp [h1,h2]
   ·simp [h1]
  rw [hs,show decide ((0:Int) < 0)=false from rfl,show (0:Int).natAbs=0 from rfl]
  unfold Format.nearest
  rw [if_pos rfl,if_pos rfl]
 ·have hne:(a+b) * 2 ^ k≠0:=Int.mul_ne_zero h0 (by omega)
  rw [if_neg hne]
  have hn:((a+b) * 2 ^ k).natAbs=(a+b).natAbs * 2 ^ k:=by rw [Int.natAbs_mul]; rw [Int.natAbs_pow]; rfl
  have hd:decide ((a+b) * 2 ^ k < 0)=decide (a+b < 0):=by
   rw [decide_eq_decide]
   exact ⟨fun h=>Int.not_le.1 fun c=>by have:=Int.mul_nonneg c (Int.le_of_lt hp); omega,fun h=>Int.mul_neg_of_neg_of_pos h hp⟩
  rw [hn,hd,Juk _ _ _ (by omega) hc]
end Go.Ax

namespace Go.Ax
set_option linter.unusedVariables false
set_option linter.unusedSimpArgs false
variable {P : Program} {T : Tab}
abbrev Res:=Option (List Prop×Slot)
def AllP:List Prop→Prop
 | []=>True
 | p::r=>p∧AllP r
theorem AllP.append:∀ {a b:List Prop},AllP (a++b)→AllP a∧AllP b
 | [],_,h=>⟨trivial,h⟩
 | _::_,_,h=>⟨⟨h.1,(AllP.append h.2).1⟩,(AllP.append h.2).2⟩
def w64 (n:Int):Int:=IntKind.i64.wrap n
def band (x y:Int):Int:=IntKind.i64.wrap (BitVec.ofInt 64 x &&& BitVec.ofInt 64 y).toNat
def bor (x y:Int):Int:=IntKind.i64.wrap (BitVec.ofInt 64 x ||| BitVec.ofInt 64 y).toNat
def bxor (x y:Int):Int:=IntKind.i64.wrap (BitVec.ofInt 64 x ^^^ BitVec.ofInt 64 y).toNat
def ishl (x:Int) (n:Nat):Int:=w64 (x * 2 ^ min n 64)
def ishr (x:Int) (n:Nat):Int:=x.fdiv (2 ^ min n 64)
theorem J6k {n:Int} (h1:-9223372036854775808≤n) (h2:n≤9223372036854775807):w64 n=n:=by
 have:IntKind.i64.wrap n=if n % 18446744073709551616≥9223372036854775808 then n % 18446744073709551616 - 18446744073709551616 else n % 18446744073709551616:=by
  simp [IntKind.wrap,IntKind.bits,IntKind.signed]
 unfold w64
 rw [this]
 split <;> omega
section
variable {G : List GE} {w : World} {ok : Nat → Prop}
theorem Jci {k:IntKind} {x:IK k} {v:Value} (h:TRel G w ok (.v (.int k) x) v):v=.int k (IK.toInt k x):=by
 obtain ⟨t,cs,⟨rfl,rfl⟩,rfl⟩:=h; rfl
theorem Jhr {x:Bool} {v:Value} (h:TRel G w ok (.v .bool x) v):v=.bool x:=by
 obtain ⟨t,cs,⟨rfl,rfl⟩,rfl⟩:=h; rfl
theorem Jh1 {x:List UInt8} {v:Value} (h:TRel G w ok (.v .str x) v):v=.string ⟨x.toArray⟩:=by
 obtain ⟨t,cs,⟨rfl,rfl⟩,rfl⟩:=h; rfl
theorem Jve {x:Int} {v:Value} (h:TRel G w ok (.v .flt x) v):x.natAbs < 9007199254740992∧v=.float .f64 (FloatKind.f64.nearest x):=by
 obtain ⟨t,cs,⟨rfl,h1,rfl⟩,rfl⟩:=h; exact ⟨h1,rfl⟩
theorem Jrf {x:Int×Int} {v:Value} (h:TRel G w ok (.v .cplx x) v) :
  (x.1.natAbs < 9007199254740992∧x.2.natAbs < 9007199254740992)∧v=.complex .f64 (FloatKind.f64.nearest x.1) (FloatKind.f64.nearest x.2):=by
 obtain ⟨t,cs,⟨rfl,h1,rfl⟩,rfl⟩:=h; exact ⟨h1,rfl⟩
theorem J7q (k:IntKind) (x:IK k):TRel G w ok (.v (.int k) x) (.int k (IK.toInt k x)):=⟨.int k,_,⟨rfl,rfl⟩,rfl⟩
theorem J9d (x:Bool):TRel G w ok (.v .bool x) (.bool x):=⟨.bool,_,⟨rfl,rfl⟩,rfl⟩
theorem Jto (x:List UInt8):TRel G w ok (.v .str x) (.string ⟨x.toArray⟩):=⟨.str,_,⟨rfl,rfl⟩,rfl⟩
theorem Jzm {x:Int} (h:x.natAbs < 9007199254740992):TRel G w ok (.v .flt x) (.float .f64 (FloatKind.f64.nearest x)):=⟨.flt,_,⟨rfl,h,rfl⟩,rfl⟩
theorem M_cplx {x:Int×Int} (h:x.1.natAbs < 9007199254740992∧x.2.natAbs < 9007199254740992) :
  TRel G w ok (.v .cplx x) (.complex .f64 (FloatKind.f64.nearest x.1) (FloatKind.f64.nearest x.2)):=⟨.cplx,_,⟨rfl,h,rfl⟩,rfl⟩
end
def Jvn (op:BinOp) (x y:Int):Res:=
 match op with
 | .add=>some ([],.v (.int .i64) (w64 (x+y)))
 | .sub=>some ([],.v (.int .i64) (w64 (x - y)))
 | .mul=>some ([],.v (.int .i64) (w64 (x * y)))
 | .quo=>some ([y≠0],.v (.int .i64) (w64 (x.tdiv y)))
 | .rem=>some ([y≠0],.v (.int .i64) (x.tmod y))
 | .and=>some ([],.v (.int .i64) (band x y))
 | .or=>some ([],.v (.int .i64) (bor x y))
 | .xor=>some ([],.v (.int .i64) (bxor x y))
 | .eql=>some ([],.v .bool (decide (x=y)))
 | .neq=>some ([],.v .bool (!decide (x=y)))
 | .lss=>some ([],.v .bool (decide (x < y)))
 | .leq=>some ([],.v .bool (decide (x≤y)))
 | .gtr=>some ([],.v .bool (decide (y < x)))
 | .geq=>some ([],.v .bool (decide (y≤x)))
 | _=>none
def K2n (op:BinOp) (x y:UInt8):Res:=
 match op with
 | .add=>some ([],.v (.int .u8) (x+y))
 | .sub=>some ([],.v (.int .u8) (x - y))
 | .and=>some ([],.v (.int .u8) (x &&& y))
 | .or=>some ([],.v (.int .u8) (x ||| y))
 | .xor=>some ([],.v (.int .u8) (x ^^^ y))
 | .eql=>some ([],.v .bool (decide (x=y)))
 | .neq=>some ([],.v .bool (!decide (x=y)))
 | .lss=>some ([],.v .bool (decide (x < y)))
 | .leq=>some ([],.v .bool (decide (x≤y)))
 | .gtr=>some ([],.v .bool (decide (y < x)))
 | .geq=>some ([],.v .bool (decide (y≤x)))
 | _=>none
def Jvp (op:BinOp) (x y:UInt32):Res:=
 match op with
 | .add=>some ([],.v (.int .u32) (x+y))
 | .sub=>some ([],.v (.int .u32) (x - y))
 | .and=>some ([],.v (.int .u32) (x &&& y))
 | .or=>some ([],.v (.int .u32) (x ||| y))
 | .xor=>some ([],.v (.int .u32) (x ^^^ y))
 | .eql=>some ([],.v .bool (decide (x=y)))
 | .neq=>some ([],.v .bool (!decide (x=y)))
 | _=>none
def Jvr (op:BinOp) (x y:UInt64):Res:=
 match op with
 | .add=>some ([],.v (.int .u64) (x+y))
 | .sub=>some ([],.v (.int .u64) (x - y))
 | .mul=>some ([],.v (.int .u64) (x * y))
 | .and=>some ([],.v (.int .u64) (x &&& y))
 | .or=>some ([],.v (.int .u64) (x ||| y))
 | .xor=>some ([],.v (.int .u64) (x ^^^ y))
 | .eql=>some ([],.v .bool (decide (x=y)))
 | .neq=>some ([],.v .bool (!decide (x=y)))
 | .geq=>some ([],.v .bool (decide (y≤x)))
 | _=>none
def K1e (op:BinOp):(k k':IntKind)→IK k→IK k'→Res
 | .i64,.i64,x,y=>Jvn op x y
 | .u8,.u8,x,y=>K2n op x y
 | .u32,.u32,x,y=>Jvp op x y
 | .u64,.u64,x,y=>Jvr op x y
 | _,_,_,_=>none
def K4j (op:BinOp) (n:Nat):(k:IntKind)→IK k→Option Slot
 | .i64,x=>match op with
  | .shl=>some (.v (.int .i64) (ishl x n))
  | .shr=>some (.v (.int .i64) (ishr x n))
  | _=>none
 | .u8,x=>match op with
  | .shl=>some (.v (.int .u8) (UInt8.ofNat (UInt8.toNat x <<< n)))
  | .shr=>some (.v (.int .u8) (UInt8.ofNat (UInt8.toNat x >>> n)))
  | _=>none
 | .u32,x=>match op with
  | .shl=>some (.v (.int .u32) (UInt32.ofNat (UInt32.toNat x <<< n)))
  | .shr=>some (.v (.int .u32) (UInt32.ofNat (UInt32.toNat x >>> n)))
  | _=>none
 | .u64,x=>match op with
  | .shl=>some (.v (.int .u64) (UInt64.ofNat (UInt64.toNat x <<< n)))
  | .shr=>some (.v (.int .u64) (UInt64.ofNat (UInt64.toNat x >>> n)))
  | _=>none
 | _,_=>none
def Jx6:BinOp→Bool
 | .shl=>true
 | .shr=>true
 | _=>false
def J6z:List UInt8→List UInt8→Bool
 | _,[]=>false
 | [],_::_=>true
 | a::x,b::y=>a < b || (a == b && J6z x y)
theorem Jtb:∀ (x y:List UInt8),Op.bytesLess x y=J6z x y
 | [],[]=>rfl
 | _::_,[]=>rfl
 | [],_::_=>rfl
 | a::x,b::y=>by rw [Op.bytesLess,J6z,Jtb x y]
def Jvo (op:BinOp) (x y:List UInt8):Res:=
 match op with
 | .add=>some ([((x.length+y.length:Nat):Int)≤9223372036854775807],.v .str (x++y))
 | .eql=>some ([],.v .bool (decide (x=y)))
 | .neq=>some ([],.v .bool (!decide (x=y)))
 | .lss=>some ([],.v .bool (J6z x y))
 | .geq=>some ([],.v .bool (!J6z x y))
 | .leq=>some ([],.v .bool (J6z x y || decide (x=y)))
 | .gtr=>some ([],.v .bool (!(J6z x y || decide (x=y))))
 | _=>none
def Jvl (op:BinOp) (x y:Int):Res:=
 match op with
 | .eql=>some ([],.v .bool (decide (x=y)))
 | .neq=>some ([],.v .bool (!decide (x=y)))
 | .lss=>some ([],.v .bool (decide (x < y)))
 | .leq=>some ([],.v .bool (decide (x≤y)))
 | .gtr=>some ([],.v .bool (decide (y < x)))
 | .geq=>some ([],.v .bool (decide (y≤x)))
 | .add=>some ([(x+y).natAbs < 9007199254740992],.v .flt (x+y))
 | _=>none
def bin (T:Tab) (ty:Nat) (op:BinOp) (s t:Slot):Res:=
 match s,t with
 | .v (.int k) x,.v (.int k') y=>
  if Jx6 op then match K4j op (IK.toInt k' y).toNat k x with
   | some r=>some ([0≤IK.toInt k' y],r)
   | none=>none
  else K1e op k k' x y
 | .v .bool x,.v .bool y=>match T.ty ty,op with
  | some .bool,.eql=>some ([],.v .bool (x == y))
  | some .bool,.neq=>some ([],.v .bool (!(x == y)))
  | _,_=>none
 | .v .str x,.v .str y=>Jvo op x y
 | .v .flt x,.v .flt y=>Jvl op x y
 | .v .cplx x,.v .cplx y=>match op with
  | .eql=>some ([],.v .bool (decide (x=y)))
  | .neq=>some ([],.v .bool (!decide (x=y)))
  | _=>none
 | _,_=>none
def Jtl (P:Program) (op:BinOp) (a b:Value) (u:Slot):Prop:=
 ∀ (t:TypeId) (w:World),∃ v,(binOp op t a b).run P w=.ok v w∧∀ (G:List GE) (ok:Nat→Prop),TRel G w ok u v
theorem Jnl {op:BinOp} {x y:Int} {ps:List Prop} {u:Slot} (h:Jvn op x y=some (ps,u)) (hp:AllP ps):Jtl P op (.int .i64 x) (.int .i64 y) u:=by
  intro t w
  unfold Jvn at h
  split at h <;> first
    | (cases h; done)
    | (injection h with h; injection h with h1 h2; subst h1; subst h2
       first
         | exact ⟨_,rfl,fun _ _=>J7q .i64 _⟩
         | (refine ⟨_,rfl,fun _ _=>?_⟩; exact J9d _)
         | (refine ⟨_,?_,fun _ _=>J7q .i64 _⟩
            simp [binOp,Op.intDiv,hp.1,w64])
         | (refine ⟨_,rfl,fun _ _=>?_⟩
            rw [show ((x == y)=decide (x=y)) from rfl]; exact J9d _))
theorem Jj5 (x:UInt8):BitVec.ofInt 8 (x.toNat:Int)=x.toBitVec:=by
 rw [BitVec.ofInt_natCast]; apply BitVec.eq_of_toNat_eq; rw [BitVec.toNat_ofNat]; exact Nat.mod_eq_of_lt x.toNat_lt
theorem Jzh (x:UInt8):IntKind.u8.wrap (x.toNat:Int)=(x.toNat:Int):=by
 have:=x.toNat_lt; rw [IntKind.wrap_u8']; omega
theorem Jzv {op:BinOp} {x y:UInt8} {ps:List Prop} {u:Slot} (h:K2n op x y=some (ps,u)) (hp:AllP ps):Jtl P op (.int .u8 x.toNat) (.int .u8 y.toNat) u:=by
 intro t w
 have hx:=x.toNat_lt
 have hy:=y.toNat_lt
 have ret:∀ (n:Int) (z:UInt8),n=(z.toNat:Int)→∃ v,(Result.ok (Value.int .u8 n) w:Result Value)=.ok v w∧∀ (G:List GE) (ok:Nat→Prop),TRel G w ok (.v (.int .u8) z) v:=
  fun n z e=>⟨_,rfl,fun _ _=>by rw [e]; exact J7q .u8 z⟩
 have retb:∀ (b c:Bool),b=c→∃ v,(Result.ok (Value.bool b) w:Result Value)=.ok v w∧∀ (G:List GE) (ok:Nat→Prop),TRel G w ok (.v .bool c) v:=
  fun b c e=>⟨_,rfl,fun _ _=>by rw [e]; exact J9d c⟩
 unfold K2n at h
 split at h <;> first
  | (cases h; done)
  | (injection h with h; injection h with h1 h2; subst h1; subst h2)
 ·exact ret (IntKind.u8.wrap _) _ (by rw [IntKind.wrap_u8',UInt8.toNat_add]; omega)
 ·exact ret (IntKind.u8.wrap _) _ (by rw [IntKind.wrap_u8',UInt8.toNat_sub]; omega)
 ·exact ret (IntKind.u8.wrap _) _ (by rw [← Jzh (x &&& y)]; congr 2; rw [show IntKind.u8.bits=8 from rfl,Jj5,Jj5]; rfl)
 ·exact ret (IntKind.u8.wrap _) _ (by rw [← Jzh (x ||| y)]; congr 2; rw [show IntKind.u8.bits=8 from rfl,Jj5,Jj5]; rfl)
 ·exact ret (IntKind.u8.wrap _) _ (by rw [← Jzh (x ^^^ y)]; congr 2; rw [show IntKind.u8.bits=8 from rfl,Jj5,Jj5]; rfl)
 ·exact retb _ _ (by rw [Bool.eq_iff_iff]; simp [← UInt8.toNat_inj]; omega)
 ·exact retb _ _ (by rw [Bool.eq_iff_iff]; simp [← UInt8.toNat_inj]; omega)
 ·exact retb _ _ (by rw [Bool.eq_iff_iff]; simp [UInt8.lt_iff_toNat_lt])
 ·exact retb _ _ (by rw [Bool.eq_iff_iff]; simp [UInt8.le_iff_toNat_le])
 ·exact retb _ _ (by rw [Bool.eq_iff_iff]; simp [UInt8.lt_iff_toNat_lt])
 ·exact retb _ _ (by rw [Bool.eq_iff_iff]; simp [UInt8.le_iff_toNat_le])
theorem ofInt32 (x:UInt32):BitVec.ofInt 32 (x.toNat:Int)=x.toBitVec:=by
 rw [BitVec.ofInt_natCast]; apply BitVec.eq_of_toNat_eq; rw [BitVec.toNat_ofNat]; exact Nat.mod_eq_of_lt x.toNat_lt
theorem wrap32 (x:UInt32):IntKind.u32.wrap (x.toNat:Int)=(x.toNat:Int):=by
 have:=x.toNat_lt; rw [IntKind.wrap_u32']; omega
theorem Jvq {op:BinOp} {x y:UInt32} {ps:List Prop} {u:Slot} (h:Jvp op x y=some (ps,u)) (hp:AllP ps):Jtl P op (.int .u32 x.toNat) (.int .u32 y.toNat) u:=by
 intro t w
 have hx:=x.toNat_lt
 have hy:=y.toNat_lt
 have ret:∀ (n:Int) (z:UInt32),n=(z.toNat:Int)→∃ v,(Result.ok (Value.int .u32 n) w:Result Value)=.ok v w∧∀ (G:List GE) (ok:Nat→Prop),TRel G w ok (.v (.int .u32) z) v:=
  fun n z e=>⟨_,rfl,fun _ _=>by rw [e]; exact J7q .u32 z⟩
 have retb:∀ (b c:Bool),b=c→∃ v,(Result.ok (Value.bool b) w:Result Value)=.ok v w∧∀ (G:List GE) (ok:Nat→Prop),TRel G w ok (.v .bool c) v:=
  fun b c e=>⟨_,rfl,fun _ _=>by rw [e]; exact J9d c⟩
 unfold Jvp at h
 split at h <;> first
  | (cases h; done)
  | (injection h with h; injection h with h1 h2; subst h1; subst h2)
 ·exact ret (IntKind.u32.wrap _) _ (by rw [IntKind.wrap_u32',UInt32.toNat_add]; omega)
 ·exact ret (IntKind.u32.wrap _) _ (by rw [IntKind.wrap_u32',UInt32.toNat_sub]; omega)
 ·exact ret (IntKind.u32.wrap _) _ (by rw [← wrap32 (x &&& y)]; congr 2; rw [show IntKind.u32.bits=32 from rfl,ofInt32,ofInt32]; rfl)
 ·exact ret (IntKind.u32.wrap _) _ (by rw [← wrap32 (x ||| y)]; congr 2; rw [show IntKind.u32.bits=32 from rfl,ofInt32,ofInt32]; rfl)
 ·exact ret (IntKind.u32.wrap _) _ (by rw [← wrap32 (x ^^^ y)]; congr 2; rw [show IntKind.u32.bits=32 from rfl,ofInt32,ofInt32]; rfl)
 ·exact retb _ _ (by rw [Bool.eq_iff_iff]; simp [← UInt32.toNat_inj]; omega)
 ·exact retb _ _ (by rw [Bool.eq_iff_iff]; simp [← UInt32.toNat_inj]; omega)
theorem Jej (n:Int):_root_.Go.IntKind.u64.wrap n=n % 18446744073709551616:=by simp [_root_.Go.IntKind.wrap,_root_.Go.IntKind.bits,_root_.Go.IntKind.signed]
theorem Jec (x:UInt64):BitVec.ofInt 64 (x.toNat:Int)=x.toBitVec:=by
 rw [BitVec.ofInt_natCast]; apply BitVec.eq_of_toNat_eq; rw [BitVec.toNat_ofNat]; exact Nat.mod_eq_of_lt x.toNat_lt
theorem wrap64 (x:UInt64):IntKind.u64.wrap (x.toNat:Int)=(x.toNat:Int):=by
 have:=x.toNat_lt; rw [Jej]; omega
theorem Jvs {op:BinOp} {x y:UInt64} {ps:List Prop} {u:Slot} (h:Jvr op x y=some (ps,u)) (hp:AllP ps):Jtl P op (.int .u64 x.toNat) (.int .u64 y.toNat) u:=by
 intro t w
 have hx:=x.toNat_lt
 have hy:=y.toNat_lt
 have ret:∀ (n:Int) (z:UInt64),n=(z.toNat:Int)→∃ v,(Result.ok (Value.int .u64 n) w:Result Value)=.ok v w∧∀ (G:List GE) (ok:Nat→Prop),TRel G w ok (.v (.int .u64) z) v:=
  fun n z e=>⟨_,rfl,fun _ _=>by rw [e]; exact J7q .u64 z⟩
 have retb:∀ (b c:Bool),b=c→∃ v,(Result.ok (Value.bool b) w:Result Value)=.ok v w∧∀ (G:List GE) (ok:Nat→Prop),TRel G w ok (.v .bool c) v:=
  fun b c e=>⟨_,rfl,fun _ _=>by rw [e]; exact J9d c⟩
 unfold Jvr at h
 split at h <;> first
  | (cases h; done)
  | (injection h with h; injection h with h1 h2; subst h1; subst h2)
 ·exact ret (IntKind.u64.wrap _) _ (by rw [Jej,UInt64.toNat_add]; omega)
 ·exact ret (IntKind.u64.wrap _) _ (by rw [Jej,UInt64.toNat_sub]; omega)
 ·exact ret (IntKind.u64.wrap _) _ (by rw [Jej,UInt64.toNat_mul,Int.natCast_emod,Int.natCast_mul]; rfl)
 ·exact ret (IntKind.u64.wrap _) _ (by rw [← wrap64 (x &&& y)]; congr 2; rw [show IntKind.u64.bits=64 from rfl,Jec,Jec]; rfl)
 ·exact ret (IntKind.u64.wrap _) _ (by rw [← wrap64 (x ||| y)]; congr 2; rw [show IntKind.u64.bits=64 from rfl,Jec,Jec]; rfl)
 ·exact ret (IntKind.u64.wrap _) _ (by rw [← wrap64 (x ^^^ y)]; congr 2; rw [show IntKind.u64.bits=64 from rfl,Jec,Jec]; rfl)
 ·exact retb _ _ (by rw [Bool.eq_iff_iff]; simp [← UInt64.toNat_inj]; omega)
 ·exact retb _ _ (by rw [Bool.eq_iff_iff]; simp [← UInt64.toNat_inj]; omega)
 ·exact retb _ _ (by rw [Bool.eq_iff_iff]; simp [UInt64.le_iff_toNat_le])
theorem Jjb (x m b:Nat):x * 2 ^ min m b % 2 ^ b=x * 2 ^ m % 2 ^ b:=by
 rcases Nat.le_total m b with h | h
 ·rw [Nat.min_eq_left h]
 ·rw [Nat.min_eq_right h,Nat.mul_mod_left]
  obtain ⟨d,rfl⟩:=Nat.exists_eq_add_of_le h
  rw [Nat.pow_add,← Nat.mul_assoc,Nat.mul_right_comm,Nat.mul_mod_left]
theorem Jys (x m b:Nat) (h:x < 2 ^ b):x / 2 ^ min m b=x / 2 ^ m:=by
 rcases Nat.le_total m b with h1 | h1
 ·rw [Nat.min_eq_left h1]
 ·rw [Nat.min_eq_right h1,Nat.div_eq_of_lt h,Nat.div_eq_of_lt (Nat.lt_of_lt_of_le h (Nat.pow_le_pow_right (by decide) h1))]
theorem Jm1 (x m b:Nat) (h:x < 2 ^ b):(x:Int).fdiv (2 ^ min m b)=((x >>> m:Nat):Int):=by
 rw [Nat.shiftRight_eq_div_pow,← Jys x m b h,Int.fdiv_eq_ediv_of_nonneg _ (by exact Int.le_of_lt (Int.pow_pos (by decide)))]
 rw [Int.natCast_ediv,Int.natCast_pow]; rfl
theorem Jcu (x m b:Nat):((x:Int) * 2 ^ min m b)=((x * 2 ^ min m b:Nat):Int):=by
 rw [Int.natCast_mul,Int.natCast_pow]; rfl
theorem K0w {op:BinOp} {n:Nat} {k:IntKind} {x:IK k} {r:Slot} (h:K4j op n k x=some r) (yk:IntKind) (y:Int) (hy:0≤y) (hn:n=y.toNat) (w:World) :
  ∃ v,(Op.shift op k (IK.toInt k x) yk y).run P w=.ok v w∧∀ (G:List GE) (ok:Nat→Prop),TRel G w ok r v:=by
 subst hn
 have hy':¬ y < 0:=by omega
 have e1:∀ (k:IntKind) (x:Int),(Op.shift .shl k x yk y).run P w=.ok (.int k (k.wrap (x * 2 ^ min y.toNat k.bits))) w:=by
  intro k x; simp [Op.shift,hy']
 have e2:∀ (k:IntKind) (x:Int),(Op.shift .shr k x yk y).run P w=.ok (.int k (x.fdiv (2 ^ min y.toNat k.bits))) w:=by
  intro k x; simp [Op.shift,hy']
 unfold K4j at h
 split at h
 ·split at h <;> first | (cases h; done) | (injection h with h; subst h)
  ·exact ⟨_,e1 _ _,fun _ _=>J7q .i64 _⟩
  ·exact ⟨_,e2 _ _,fun _ _=>J7q .i64 _⟩
 ·rename_i x
  have hx:=UInt8.toNat_lt x
  split at h <;> first | (cases h; done) | (injection h with h; subst h)
  ·refine ⟨_,e1 _ _,fun _ _=>?_⟩
   have:IntKind.u8.wrap ((UInt8.toNat x:Int) * 2 ^ min y.toNat 8)=((UInt8.ofNat (UInt8.toNat x <<< y.toNat)).toNat:Int):=by
    rw [IntKind.wrap_u8',Jcu,UInt8.toNat_ofNat',Nat.shiftLeft_eq,← Jjb _ _ 8,Int.natCast_emod]; rfl
   show TRel _ _ _ _ (.int .u8 (IntKind.u8.wrap ((UInt8.toNat x:Int) * 2 ^ min y.toNat 8)))
   rw [this]; exact J7q .u8 _
  ·refine ⟨_,e2 _ _,fun _ _=>?_⟩
   have:((UInt8.toNat x:Nat):Int).fdiv (2 ^ min y.toNat 8)=((UInt8.ofNat (UInt8.toNat x >>> y.toNat)).toNat:Int):=by
    rw [Jm1 _ _ _ hx,UInt8.toNat_ofNat',Nat.mod_eq_of_lt (Nat.lt_of_le_of_lt (Nat.shiftRight_le _ _) hx)]
   show TRel _ _ _ _ (.int .u8 (((UInt8.toNat x:Nat):Int).fdiv (2 ^ min y.toNat 8)))
   rw [this]; exact J7q .u8 _
 ·rename_i x
  have hx:=UInt32.toNat_lt x
  split at h <;> first | (cases h; done) | (injection h with h; subst h)
  ·refine ⟨_,e1 _ _,fun _ _=>?_⟩
   have:IntKind.u32.wrap ((UInt32.toNat x:Int) * 2 ^ min y.toNat 32)=((UInt32.ofNat (UInt32.toNat x <<< y.toNat)).toNat:Int):=by
    rw [IntKind.wrap_u32',Jcu,UInt32.toNat_ofNat',Nat.shiftLeft_eq,← Jjb _ _ 32,Int.natCast_emod]; rfl
   show TRel _ _ _ _ (.int .u32 (IntKind.u32.wrap ((UInt32.toNat x:Int) * 2 ^ min y.toNat 32)))
   rw [this]; exact J7q .u32 _
  ·refine ⟨_,e2 _ _,fun _ _=>?_⟩
   have:((UInt32.toNat x:Nat):Int).fdiv (2 ^ min y.toNat 32)=((UInt32.ofNat (UInt32.toNat x >>> y.toNat)).toNat:Int):=by
    rw [Jm1 _ _ _ hx,UInt32.toNat_ofNat',Nat.mod_eq_of_lt (Nat.lt_of_le_of_lt (Nat.shiftRight_le _ _) hx)]
   show TRel _ _ _ _ (.int .u32 (((UInt32.toNat x:Nat):Int).fdiv (2 ^ min y.toNat 32)))
   rw [this]; exact J7q .u32 _
 ·rename_i x
  have hx:=UInt64.toNat_lt x
  split at h <;> first | (cases h; done) | (injection h with h; subst h)
  ·refine ⟨_,e1 _ _,fun _ _=>?_⟩
   have:IntKind.u64.wrap ((UInt64.toNat x:Int) * 2 ^ min y.toNat 64)=((UInt64.ofNat (UInt64.toNat x <<< y.toNat)).toNat:Int):=by
    rw [Jej,Jcu,UInt64.toNat_ofNat',Nat.shiftLeft_eq,← Jjb _ _ 64,Int.natCast_emod]; rfl
   show TRel _ _ _ _ (.int .u64 (IntKind.u64.wrap ((UInt64.toNat x:Int) * 2 ^ min y.toNat 64)))
   rw [this]; exact J7q .u64 _
  ·refine ⟨_,e2 _ _,fun _ _=>?_⟩
   have:((UInt64.toNat x:Nat):Int).fdiv (2 ^ min y.toNat 64)=((UInt64.ofNat (UInt64.toNat x >>> y.toNat)).toNat:Int):=by
    rw [Jm1 _ _ _ hx,UInt64.toNat_ofNat',Nat.mod_eq_of_lt (Nat.lt_of_le_of_lt (Nat.shiftRight_le _ _) hx)]
   show TRel _ _ _ _ (.int .u64 (((UInt64.toNat x:Nat):Int).fdiv (2 ^ min y.toNat 64)))
   rw [this]; exact J7q .u64 _
 ·cases h
theorem Jn7 (x:List UInt8):(⟨x.toArray⟩:ByteArray).toList=x:=by
 rw [ByteArray.toList_eq]
theorem Jhv {op:BinOp} {x y:List UInt8} {ps:List Prop} {u:Slot} (h:Jvo op x y=some (ps,u)) (hp:AllP ps) :
  Jtl P op (.string ⟨x.toArray⟩) (.string ⟨y.toArray⟩) u:=by
 intro t w
 have e:∀ op,(binOp op t (.string ⟨x.toArray⟩) (.string ⟨y.toArray⟩)).run P w=(Op.stringOp op ⟨x.toArray⟩ ⟨y.toArray⟩).run P w:=fun op=>by cases op <;> rfl
 have retb:∀ (b c:Bool),b=c→∃ v,(Result.ok (Value.bool b) w:Result Value)=.ok v w∧∀ (G:List GE) (ok:Nat→Prop),TRel G w ok (.v .bool c) v:=
  fun b c e=>⟨_,rfl,fun _ _=>by rw [e]; exact J9d c⟩
 have heq:(x == y)=decide (x=y):=by rw [Bool.eq_iff_iff]; simp
 unfold Jvo at h
 split at h <;> first
  | (cases h; done)
  | (injection h with h; injection h with h1 h2; subst h1; subst h2; rw [e]; simp only [Op.stringOp,Jn7,Jtb,heq,Sem.run_pure]; exact retb _ _ rfl)
  | skip
 injection h with h; injection h with h1 h2; subst h1; subst h2
 rw [e]
 have hs:¬ (((⟨x.toArray⟩:ByteArray).size+(⟨y.toArray⟩:ByteArray).size:Nat):Int) > IntKind.i64.max:=by
  have h1:(⟨x.toArray⟩:ByteArray).size=x.length:=by simp [ByteArray.size]
  have h2:(⟨y.toArray⟩:ByteArray).size=y.length:=by simp [ByteArray.size]
  have h3:IntKind.i64.max=9223372036854775807:=by decide
  rw [h1,h2,h3]; have:=hp.1; omega
 simp only [Op.stringOp,hs,if_false,Sem.run_pure]
 refine ⟨_,rfl,fun _ _=>?_⟩
 have:(⟨x.toArray⟩:ByteArray)++⟨y.toArray⟩=⟨(x++y).toArray⟩:=by
  apply ByteArray.ext; simp
 rw [this]; exact Jto _
theorem Jvm {op:BinOp} {x y:Int} {ps:List Prop} {u:Slot} (h:Jvl op x y=some (ps,u)) (hp:AllP ps) (hx:x.natAbs < 9007199254740992) (hy:y.natAbs < 9007199254740992) :
    Jtl P op (.float .f64 (FloatKind.f64.nearest x)) (.float .f64 (FloatKind.f64.nearest y)) u:=by
  intro t w
  have e:∀ op,op≠.add→op≠.sub→op≠.mul→op≠.quo→(binOp op t (.float .f64 (FloatKind.f64.nearest x)) (.float .f64 (FloatKind.f64.nearest y))).run P w =
      (Op.floatCmp op .f64 (FloatKind.f64.nearest x) (FloatKind.f64.nearest y)).run P w:=by
    intro op h1 h2 h3 h4; cases op <;> simp_all [binOp]
  have retb:∀ (b c:Bool),b=c→∃ v,(Result.ok (Value.bool b) w:Result Value)=.ok v w∧∀ (G:List GE) (ok:Nat→Prop),TRel G w ok (.v .bool c) v:=
    fun b c e=>⟨_,rfl,fun _ _=>by rw [e]; exact J9d c⟩
  have o:FloatKind.f64.format.order (FloatKind.f64.nearest x) (FloatKind.f64.nearest y)=some (compare x y):=Jc1 x y hx hy
  have cc:compare x y=if x < y then .lt else if x=y then .eq else .gt:=rfl
  unfold Jvl at h
  split at h
  case h_7=>
    injection h with h; injection h with h1 h2; subst h1; subst h2
    have ea:=Jpw x y hx hy hp.1
    refine ⟨.float .f64 (FloatKind.f64.nearest (x+y)),?_,fun _ _=>Jzm hp.1⟩
    show (Op.floatArith .add .f64 (FloatKind.f64.nearest x) (FloatKind.f64.nearest y)).run P w=_
    unfold Op.floatArith
    simp only [ea,Sem.run_bind,Sem.run_pure,Result.andThen_ok]
  all_goals first
    | (cases h; done)
    | (injection h with h; injection h with h1 h2; subst h1; subst h2
       rw [e _ (by simp) (by simp) (by simp) (by simp)]
       simp only [Op.floatCmp,o,cc,Sem.run_pure]
       apply retb
       rcases Int.lt_trichotomy x y with h | h | h
       · have h1:¬ x=y:=by omega
         have h2:¬ y < x:=by omega
         have h3:x≤y:=by omega
         have h4:¬ y≤x:=by omega
         simp [h,h1,h2,h3,h4]
       · subst h; simp
       · have h1:¬ x=y:=by omega
         have h2:¬ x < y:=by omega
         have h3:y≤x:=by omega
         have h4:¬ x≤y:=by omega
         simp [h,h1,h2,h3,h4])
theorem Jk9 {t:Nat} {w:World} (hu:(underlying t).run P w=.ok .bool w) (x y:Bool):(Op.equal t (.bool x) (.bool y)).run P w=.ok (x == y) w:=by
 show (Op.equalIn (9999+1) t (.bool x) (.bool y)).run P w=_
 generalize 9999=d
 rw [Op.equalIn]
 simp only [Sem.run_bind,hu,Result.andThen_ok,Sem.run_pure]
theorem bin_ok (hT:J78 P T) {t:Nat} {op:BinOp} {s1 s2 u:Slot} {ps:List Prop} (h:bin T t op s1 s2=some (ps,u)) (hp:AllP ps) {G:List GE} {w:World}
  {ok:Nat→Prop} {a b:Value} (ha:TRel G w ok s1 a) (hb:TRel G w ok s2 b) :
  (∃ v,(binOp op t a b).run P w=.ok v w∧TRel G w ok u v)∧(∀ x y,(eqGuard op t x y a b).run P w=.ok () w):=by
 unfold bin at h
 split at h
 ·rename_i k x k' y
  rw [Jci ha,Jci hb]
  refine ⟨?_,fun x y=>by cases op <;> rfl⟩
  split at h
  ·rename_i hsh
   split at h
   ·rename_i r hr
    injection h with h; injection h with h1 h2; subst h1; subst h2
    obtain ⟨v,h1,h2⟩:=K0w (P:=P) hr k' (IK.toInt k' y) hp.1 rfl w
    refine ⟨v,?_,h2 _ _⟩
    cases op <;> simp [Jx6] at hsh <;> exact h1
   ·cases h
  ·unfold K1e at h
   split at h
   ·obtain ⟨v,h1,h2⟩:=Jnl (P:=P) h hp t w; exact ⟨v,h1,h2 _ _⟩
   ·obtain ⟨v,h1,h2⟩:=Jzv (P:=P) h hp t w; exact ⟨v,h1,h2 _ _⟩
   ·obtain ⟨v,h1,h2⟩:=Jvq (P:=P) h hp t w; exact ⟨v,h1,h2 _ _⟩
   ·obtain ⟨v,h1,h2⟩:=Jvs (P:=P) h hp t w; exact ⟨v,h1,h2 _ _⟩
   ·cases h
 ·rename_i x y
  rw [Jhr ha,Jhr hb]
  refine ⟨?_,fun x y=>by cases op <;> rfl⟩
  have hu:T.ty t=some .bool→(underlying t).run P w=.ok .bool w:=by
   intro ht
   obtain ⟨by_,hg⟩:=Tab.ty_get ht
   obtain ⟨d,h1,h2⟩:=(hT _ _ _ hg).run_under w
   simp only [J7k] at h2; rw [h1,h2]
  split at h <;> first | (cases h; done) | (injection h with h; injection h with h1 h2; subst h1; subst h2)
  ·rename_i ht
   exact ⟨.bool (x == y),by simp [binOp,Jk9 (hu ht)],J9d _⟩
  ·rename_i ht
   exact ⟨.bool (!(x == y)),by simp [binOp,Jk9 (hu ht)],J9d _⟩
 ·rename_i x y
  rw [Jh1 ha,Jh1 hb]
  obtain ⟨v,h1,h2⟩:=Jhv (P:=P) h hp t w
  exact ⟨⟨v,h1,h2 _ _⟩,fun x y=>by cases op <;> rfl⟩
 ·rename_i x y
  obtain ⟨hx,rfl⟩:=Jve ha
  obtain ⟨hy,rfl⟩:=Jve hb
  obtain ⟨v,h1,h2⟩:=Jvm (P:=P) h hp hx hy t w
  exact ⟨⟨v,h1,h2 _ _⟩,fun x y=>by cases op <;> rfl⟩
 ·rename_i x y
  obtain ⟨hx,rfl⟩:=Jrf ha
  obtain ⟨hy,rfl⟩:=Jrf hb
  refine ⟨?_,fun x y=>by cases op <;> rfl⟩
  have o1:=Jc1 x.1 y.1 hx.1 hy.1
  have o2:=Jc1 x.2 y.2 hx.2 hy.2
  have c1:∀ (a b:Int),((some (compare a b):Option Ordering) == some .eq)=decide (a=b):=by
   intro a b
   have cc:compare a b=if a < b then .lt else if a=b then .eq else .gt:=rfl
   rw [cc]
   rcases Int.lt_trichotomy a b with h | h | h
   ·have h1:¬ a=b:=by omega
    simp [h,h1]
   ·subst h; simp
   ·have h1:¬ a=b:=by omega
    have h2:¬ a < b:=by omega
    simp [h1,h2]
  have c2:(decide (x.1=y.1) && decide (x.2=y.2))=decide (x=y):=by
   rw [Bool.eq_iff_iff]; simp [Prod.ext_iff]
  split at h <;> first | (cases h; done) | (injection h with h; injection h with h1 h2; subst h1; subst h2)
  ·refine ⟨.bool (decide (x=y)),?_,J9d _⟩
   rw [← c2]
   simp [binOp,Op.complexOp,Op.Complex.cmp,Op.floatCmp,o1,o2,c1,asBool]
  ·refine ⟨.bool (!decide (x=y)),?_,J9d _⟩
   rw [← c2]
   simp [binOp,Op.complexOp,Op.Complex.cmp,Op.floatCmp,o1,o2,c1,asBool]
 ·cases h
end Go.Ax

namespace Go.Ax
set_option linter.unusedVariables false
set_option linter.unusedSimpArgs false
variable {P : Program} {T : Tab}
def Jmf {α:Type} (f:α→α→Bool):List α→List α→Bool
 | [],[]=>true
 | x::xs,y::ys=>f x y && Jmf f xs ys
 | _,_=>false
def Ty.beq:(t:Ty)→t.den→t.den→Bool
 | .int k,x,y=>decide (IK.toInt k x=IK.toInt k y)
 | .bool,x,y=>decide ((x:Bool)=y)
 | .str,x,y=>decide ((x:List UInt8)=y)
 | .flt,x,y=>decide ((x:Int)=y)
 | .cplx,x,y=>decide ((x:Int×Int)=y)
 | .arr _ e,x,y=>Jmf e.beq x y
 | .unit,_,_=>true
 | .fld a r,x,y=>a.beq x.1 y.1 && r.beq x.2 y.2
 | _,_,_=>false
def Ty.comp:Ty→Bool
 | .int _=>true
 | .bool=>true
 | .str=>true
 | .arr _ e=>e.comp
 | .unit=>true
 | .fld a r=>a.comp && r.comp
 | _=>false
theorem IK.toInt_inj {k:IntKind} {x y:IK k} (h:IK.toInt k x=IK.toInt k y):x=y:=by
 cases k <;> first
  | exact h
  | exact UInt8.toNat_inj.1 (Int.ofNat.inj h)
  | exact UInt32.toNat_inj.1 (Int.ofNat.inj h)
  | exact UInt64.toNat_inj.1 (Int.ofNat.inj h)
theorem Jsc {α:Type} {f:α→α→Bool} (h:∀ x y,f x y=true↔x=y):∀ (xs ys:List α),Jmf f xs ys=true↔xs=ys
 | [],[]=>by simp [Jmf]
 | x::xs,y::ys=>by simp [Jmf,h,Jsc h xs ys]
 | [],_::_=>by simp [Jmf]
 | _::_,[]=>by simp [Jmf]
theorem Ty.beq_iff:∀ (t:Ty),t.comp=true→∀ (x y:t.den),t.beq x y=true↔x=y
 | .int k,_,x,y=>by simp only [Ty.beq,decide_eq_true_eq]; exact ⟨IK.toInt_inj,fun h=>by rw [h]⟩
 | .bool,_,x,y=>by simp [Ty.beq]
 | .str,_,x,y=>by simp [Ty.beq]
 | .arr _ e,q,x,y=>Jsc (Ty.beq_iff e q) x y
 | .unit,_,x,y=>by simp [Ty.beq]
 | .fld a r,q,x,y=>by
  simp only [Ty.comp,Bool.and_eq_true] at q
  simp only [Ty.beq,Bool.and_eq_true,Ty.beq_iff a q.1,Ty.beq_iff r q.2,Prod.ext_iff]
 | .flt,q,_,_=>by cases q
 | .cplx,q,_,_=>by cases q
 | .ptr,q,_,_=>by cases q
 | .mp,q,_,_=>by cases q
 | .fn,q,_,_=>by cases q
 | .slice _,q,_,_=>by cases q
theorem Ty.beq_eq (t:Ty) (q:t.comp=true) (x y:t.den) [Decidable (x=y)]:t.beq x y=decide (x=y):=by
 rw [Bool.eq_iff_iff,Ty.beq_iff t q,decide_eq_true_eq]
theorem TyI.run_part {t:Nat} {ty:Ty} {b:Nat} (h:TyI P T t ty b) {cs:Array Value} {o:Nat} (hl:o+ty.size≤cs.size) (w:World) :
  (part t cs o).run P w=.ok (pack ty ((cs.toList.drop o).take ty.size)) w:=by
 unfold part
 simp only [Sem.run_bind,h.run_isAgg w,Result.andThen_ok,pack]
 cases ha:ty.isAgg with
 | true=>
  simp only [if_true,Sem.run_bind,h.run_size w,Result.andThen_ok,Sem.run_pure]
  congr 2
  apply Array.toList_inj.1
  rw [Array.toList_extract]
  simp [List.extract]
 | false=>
  have h1:ty.size=1:=by cases ty <;> simp_all [Ty.isAgg,Ty.size]
  have h2:o < cs.size:=by omega
  simp only [Bool.false_eq_true,if_false,Array.getElem?_eq_getElem h2,Sem.run_pure]
  rw [h1,List.drop_eq_getElem_cons (by simpa using h2)]
  simp
def J72 (P:Program) (f:Nat→Ty→Bool):List Field→Ty→Bool
 | [],.unit=>true
 | x :: fs, .fld a r => decide (x.name ≠ "_") && f x.type a && J72 P f fs r
 | _,_=>false
def eqB (P:Program) (T:Tab):Nat→Nat→Ty→Bool
 | 0,_,_=>false
 | f+1,t,ty=>decide (T.ty t=some ty) && ty.comp && match ty with
  | .arr _ _=>(match P.underlying t,ty with | some (.array _ te),.arr _ e=>eqB P T f te e | _,_=>false)
  | .unit=>!P.stoodInHeld t
  | .fld a r=>!P.stoodInHeld t && (match P.underlying t with | some (.struct fs)=>J72 P (eqB P T f) fs.toList (.fld a r) | _=>false)
  | _=>true
theorem Jo6 {w:World} {B:Nat→(Option Bool×Unit)→Sem (ForInStep (Option Bool×Unit))} {K:(Option Bool×Unit)→Sem Bool} (f:Nat→Bool) :
  ∀ (l:List Nat),(∀ i ∈ l,∀ s,(B i s).run P w=.ok (if f i then .yield (none,()) else .done (some false,())) w)→
   (K (some false,())).run P w=.ok false w→(K (none,())).run P w=.ok true w→
   ((forIn l ((none,()):Option Bool×Unit) B).run P w).andThen (fun a w'=>(K a).run P w')=.ok (l.all f) w
 | [],_,_,h2=>by simpa using h2
 | i::l,hB,h1,h2=>by
  rw [List.forIn_cons]
  simp only [Sem.run_bind,hB i (List.mem_cons_self ..),Result.andThen_ok,List.all_cons]
  cases f i with
  | false=>simpa using h1
  | true=>
   have:=Jo6 (B:=B) (K:=K) f l (fun j hj=>hB j (List.mem_cons_of_mem _ hj)) h1 h2
   simpa using this
theorem run_equalIn_array {d:Nat} {t te:TypeId} {n s:Nat} {w:World} (xs ys:Array Value) (hu:(underlying t).run P w=.ok (.array n te) w) (hs:(sizeOf te).run P w=.ok s w)
  (f:Nat→Bool) (hf:∀ i,i < n→∃ a b,(part te xs (i * s)).run P w=.ok a w∧(part te ys (i * s)).run P w=.ok b w∧(Op.equalIn d te a b).run P w=.ok (f i) w) :
  (Op.equalIn (d+1) t (.agg xs) (.agg ys)).run P w=.ok ((List.range n).all f) w:=by
 simp only [Op.equalIn,Sem.run_bind,hu,Result.andThen_ok,hs]
 rw [Std.Legacy.Range.forIn_eq_forIn_range']
 have e:List.range' [:n].start [:n].size [:n].step=List.range' 0 n 1:=by simp [Std.Legacy.Range.size]
 rw [e]
 rw [List.range_eq_range']
 refine Jo6 f (List.range' 0 n 1) (fun i hi s'=>?_) ?_ ?_
 ·obtain ⟨a,b,h1,h2,h3⟩:=hf i (by have:=List.mem_range'.1 hi; omega)
  simp only [Sem.run_bind,h1,h2,h3,Result.andThen_ok]
  cases f i <;> simp
 ·rfl
 ·rfl
def EqI (P:Program) (t:Nat) (ty:Ty) (d:Nat):Prop:=
 ∀ (w:World) (ok:Nat→Prop) (x y:ty.den) (c1 c2:List Value),RepC w ok ty c1 x→RepC w ok ty c2 y→
  (Op.equalIn d t (pack ty c1) (pack ty c2)).run P w=.ok (ty.beq x y) w
theorem Jiq {α:Type} (f:α→α→Bool) (d:α):∀ (xs ys:List α),xs.length=ys.length→(List.range xs.length).all (fun i=>f (xs.getD i d) (ys.getD i d))=Jmf f xs ys
 | [],[],_=>rfl
 | x::xs,y::ys,h=>by
  have:=Jiq f d xs ys (by simpa using h)
  rw [List.length_cons,List.range_succ_eq_map,List.all_cons,List.all_map]
  simp only [Jmf,← this]
  rfl
 | [],_::_,h=>by simp at h
 | _::_,[],h=>by simp at h
theorem Jnw (hT:J78 P T) {d:Nat} {f:Nat→Ty→Bool} (hf:∀ t ty,f t ty=true→T.ty t=some ty∧EqI P t ty d) (w:World) (ok:Nat→Prop) (xs ys:Array Value) :
  ∀ (fs:List Field) (ty:Ty) (o:Nat) (x y:ty.den) (c1 c2:List Value),J72 P f fs ty=true→J9l T fs ty o→RepC w ok ty c1 x→RepC w ok ty c2 y→
   xs.toList.drop o=c1→ys.toList.drop o=c2→o≤xs.size→o≤ys.size→(Op.eqFields d xs ys fs).run P w=.ok (ty.beq x y) w
 | [],.unit,o,x,y,c1,c2,_,_,_,_,_,_,_,_=>rfl
 | f0::fs,.fld a r,o,x,y,c1,c2,hb,hF,h1,h2,e1,e2,l1,l2=>by
  simp only [J72,Bool.and_eq_true,decide_eq_true_eq] at hb
  obtain ⟨⟨hn,hfa⟩,hfr⟩:=hb
  obtain ⟨hta,ho,hF⟩:=hF
  obtain ⟨a1,a2,rfl,h3,h4⟩:=h1
  obtain ⟨b1,b2,rfl,h5,h6⟩:=h2
  have la:=RepC.len _ h3
  have lb:=RepC.len _ h5
  obtain ⟨by_,hg⟩:=Tab.ty_get hta
  have hI:=hT _ _ _ hg
  have s1:o+a.size≤xs.size:=by
   have:(xs.toList.drop o).length=a1.length+a2.length:=by rw [e1,List.length_append]
   rw [List.length_drop,Array.length_toList] at this; omega
  have s2:o+a.size≤ys.size:=by
   have:(ys.toList.drop o).length=b1.length+b2.length:=by rw [e2,List.length_append]
   rw [List.length_drop,Array.length_toList] at this; omega
  have p1:(part f0.type xs f0.offset).run P w=.ok (pack a a1) w:=by
   rw [ho,hI.run_part s1,e1,← la,List.take_left' rfl]
  have p2:(part f0.type ys f0.offset).run P w=.ok (pack a b1) w:=by
   rw [ho,hI.run_part s2,e2,← lb,List.take_left' rfl]
  have hq:=(hf _ _ hfa).2 w ok x.1 y.1 a1 b1 h3 h5
  have ih:=Jnw hT hf w ok xs ys fs r (o+a.size) x.2 y.2 a2 b2 hfr hF h4 h6 (by rw [← List.drop_drop,e1,← la,List.drop_left' rfl])
   (by rw [← List.drop_drop,e2,← lb,List.drop_left' rfl]) s1 s2
  simp only [Op.eqFields,hn,ne_eq,not_false_eq_true,if_true,Sem.run_bind,p1,p2,hq,Result.andThen_ok,Ty.beq]
  cases a.beq x.1 y.1 with
  | false=>simp
  | true=>simpa using ih
 | [],.fld _ _,_,_,_,_,_,hb,_,_,_,_,_,_,_=>by simp [J72] at hb
 | _::_,.unit,_,_,_,_,_,hb,_,_,_,_,_,_,_=>by simp [J72] at hb
 | [],.int _,_,_,_,_,_,hb,_,_,_,_,_,_,_=>by simp [J72] at hb
 | [],.bool,_,_,_,_,_,hb,_,_,_,_,_,_,_=>by simp [J72] at hb
 | [],.str,_,_,_,_,_,hb,_,_,_,_,_,_,_=>by simp [J72] at hb
 | [],.flt,_,_,_,_,_,hb,_,_,_,_,_,_,_=>by simp [J72] at hb
 | [],.cplx,_,_,_,_,_,hb,_,_,_,_,_,_,_=>by simp [J72] at hb
 | [],.ptr,_,_,_,_,_,hb,_,_,_,_,_,_,_=>by simp [J72] at hb
 | [],.mp,_,_,_,_,_,hb,_,_,_,_,_,_,_=>by simp [J72] at hb
 | [],.fn,_,_,_,_,_,hb,_,_,_,_,_,_,_=>by simp [J72] at hb
 | [],.arr _ _,_,_,_,_,_,hb,_,_,_,_,_,_,_=>by simp [J72] at hb
 | [],.slice _,_,_,_,_,_,hb,_,_,_,_,_,_,_=>by simp [J72] at hb
 | _::_,.int _,_,_,_,_,_,hb,_,_,_,_,_,_,_=>by simp [J72] at hb
 | _::_,.bool,_,_,_,_,_,hb,_,_,_,_,_,_,_=>by simp [J72] at hb
 | _::_,.str,_,_,_,_,_,hb,_,_,_,_,_,_,_=>by simp [J72] at hb
 | _::_,.flt,_,_,_,_,_,hb,_,_,_,_,_,_,_=>by simp [J72] at hb
 | _::_,.cplx,_,_,_,_,_,hb,_,_,_,_,_,_,_=>by simp [J72] at hb
 | _::_,.ptr,_,_,_,_,_,hb,_,_,_,_,_,_,_=>by simp [J72] at hb
 | _::_,.mp,_,_,_,_,_,hb,_,_,_,_,_,_,_=>by simp [J72] at hb
 | _::_,.fn,_,_,_,_,_,hb,_,_,_,_,_,_,_=>by simp [J72] at hb
 | _::_,.arr _ _,_,_,_,_,_,hb,_,_,_,_,_,_,_=>by simp [J72] at hb
 | _::_,.slice _,_,_,_,_,_,hb,_,_,_,_,_,_,_=>by simp [J72] at hb
theorem K1m (hT:J78 P T):∀ (f:Nat) (t:Nat) (ty:Ty) (d:Nat),f≤d→eqB P T f t ty=true→T.ty t=some ty∧EqI P t ty d:=by
 intro f
 induction f with
 | zero=>intro t ty d _ h; simp [eqB] at h
 | succ f ih=>
  intro t ty d hd h
  obtain ⟨d,rfl⟩:∃ d',d=d'+1:=⟨d - 1,by omega⟩
  simp only [eqB,Bool.and_eq_true,decide_eq_true_eq] at h
  obtain ⟨⟨ht,hc⟩,h⟩:=h
  refine ⟨ht,?_⟩
  obtain ⟨by_,hg⟩:=Tab.ty_get ht
  have hI:=hT _ _ _ hg
  intro w ok x y c1 c2 h1 h2
  obtain ⟨dd,hu,hD⟩:=hI.desc
  cases ty with
  | int k=>simp only [J7k] at hD; subst hD; simp only [RepC] at h1 h2; subst h1; subst h2; exact run_equalIn_int w d t k k _ _ hu
  | bool=>
   simp only [J7k] at hD; subst hD; simp only [RepC] at h1 h2; subst h1; subst h2
   exact run_equalIn_bool' w d t _ _ hu
  | str=>
   simp only [J7k] at hD; subst hD; simp only [RepC] at h1 h2; subst h1; subst h2
   have:=run_equalIn_string w d t ⟨List.toArray x⟩ ⟨List.toArray y⟩ hu
   rw [Jn7,Jn7] at this
   refine this.trans ?_
   have:(x == y)=Ty.str.beq x y:=by rw [Bool.eq_iff_iff]; simp [Ty.beq]
   rw [this]
  | unit=>
   obtain ⟨fs,rfl,hF⟩:=hD
   simp only [RepC] at h1 h2; subst h1; subst h2
   have hfo:P.underlying t=some (.struct (P.fieldsOf t)):=by simp [Program.fieldsOf,hu]
   simp only [Bool.not_eq_true'] at h
   have:=run_equalIn_struct w d t #[] #[] hfo h
   refine this.trans ?_
   have:P.fieldsOf t=fs:=by simp [Program.fieldsOf,hu]
   rw [this]
   cases hfs:fs.toList with
   | nil=>rfl
   | cons _ _=>rw [hfs] at hF; exact hF.elim
  | fld a r=>
   obtain ⟨fs,rfl,hF⟩:=hD
   simp only [Bool.and_eq_true,Bool.not_eq_true',hu] at h
   have hfo:P.underlying t=some (.struct (P.fieldsOf t)):=by simp [Program.fieldsOf,hu]
   have e:P.fieldsOf t=fs:=by simp [Program.fieldsOf,hu]
   have:=run_equalIn_struct w d t c1.toArray c2.toArray hfo h.1
   rw [e] at this
   refine this.trans ?_
   exact Jnw hT (fun t' ty' h'=>ih t' ty' d (by omega) h') w ok _ _ fs.toList (.fld a r) 0 x y c1 c2 h.2 hF h1 h2 rfl rfl (Nat.zero_le _) (Nat.zero_le _)
  | arr n e=>
   obtain ⟨te,rfl,hte⟩:=hD
   simp only [hu] at h
   obtain ⟨by2,hg2⟩:=Tab.ty_get hte
   have hI2:=hT _ _ _ hg2
   obtain ⟨_,hE⟩:=ih te e d (by omega) h
   obtain ⟨l1,k1⟩:=h1
   obtain ⟨l2,k2⟩:=h2
   have n1:=Cat.len (fun cs x=>RepC.len e) k1
   have n2:=Cat.len (fun cs x=>RepC.len e) k2
   have hu':(underlying t).run P w=.ok (.array n te) w:=by simp [underlying,hu]
   have hb:∀ i,i < n→i * e.size+e.size≤n * e.size:=by
    intro i hi
    have:=Nat.mul_le_mul_right e.size (show i+1≤n from hi)
    rw [Nat.add_mul,Nat.one_mul] at this; exact this
   have:=run_equalIn_array (d:=d) c1.toArray c2.toArray hu' (hI2.run_size w) (fun i=>e.beq (List.getD x i e.zero) (List.getD y i e.zero)) (by
    intro i hi
    refine ⟨_,_,hI2.run_part (by simp [n1,l1]; exact hb i hi) w,hI2.run_part (by simp [n2,l2]; exact hb i hi) w,?_⟩
    exact hE w ok _ _ _ _ (Cat.at (R:=RepC w ok e) (fun cs x=>RepC.len e) e.zero k1 (by rw [l1]; exact hi)) (Cat.at (R:=RepC w ok e) (fun cs x=>RepC.len e) e.zero k2 (by rw [l2]; exact hi)))
   refine this.trans ?_
   have:=Jiq e.beq e.zero x y (by rw [l1,l2])
   rw [l1] at this
   rw [this]; rfl
  | flt=>cases hc
  | cplx=>cases hc
  | ptr=>cases hc
  | mp=>cases hc
  | fn=>cases hc
  | slice _=>cases hc
end Go.Ax

namespace Go.Ax
set_option linter.unusedVariables false
set_option linter.unusedSimpArgs false
variable {P : Program} {T : Tab}
def Ty.pure:Ty→Bool
 | .ptr=>false
 | .mp=>false
 | .fn=>false
 | .slice e=>e.pure
 | .arr _ e=>e.pure
 | .fld a r=>a.pure && r.pure
 | _=>true
theorem Jaq (w:World) (ok:Nat→Prop):∀ (t:Ty),t.pure=true→RepC w ok t (J77 t) t.zero
 | .int k,_=>by simp only [RepC,J77,Ty.zero,IK.toInt_zero]
 | .bool,_=>rfl
 | .str,_=>rfl
 | .flt,_=>J8s w ok .flt rfl
 | .cplx,_=>J8s w ok .cplx rfl
 | .ptr,q=>by cases q
 | .mp,q=>by cases q
 | .fn,q=>by cases q
 | .slice _,_=>⟨none,0,rfl,Nat.le_refl _,.inl rfl⟩
 | .unit,_=>rfl
 | .fld a r,q=>by
  simp only [Ty.pure,Bool.and_eq_true] at q
  exact ⟨_,_,rfl,Jaq w ok a q.1,Jaq w ok r q.2⟩
 | .arr n e,q=>⟨by simp [Ty.zero],J88 (Jaq w ok e q) n⟩
def fits (h:List AObj):Slot→Ty→Bool
 | .v t _,ty=>decide (t=ty)
 | .nil,.slice _=>true
 | .nilp,.ptr=>true
 | .ptr _ _,.ptr=>true
 | .ref _ _,.ptr=>true
 | .fn _ _,.fn=>true
 | .mp _,.mp=>true
 | .anyb,.bool=>true
 | .own l p,.slice e=>match J74 (J6q h l) p with
  | some r=>decide (r.e=e)
  | none=>false
 | .node a r,.fld ta tr=>fits h a ta && fits h r tr
 | _,_=>false
theorem K07 {c:Ctx} {G:List GE} {h:List AObj} {w:World} (hh:HRG c G h w) {ok:Nat→Prop} {l:Nat} {p:List Step} {t:Ty} {cs:List Value} {r:Row}
  (hs:J6y G w ok (.own l p) t cs) (hr:J74 (J6q h l) p=some r):t=.slice r.e:=by
 obtain ⟨ho,hd⟩:=Jf8 hr
 obtain ⟨g,v,hg,rfl,hv⟩:=hs
 have:=hh.objs l _ g ho hg
 generalize J6q h l=o at *
 cases o with
 | row e xs lv=>
  cases p with
  | cons _ _=>simp [J74] at hr
  | nil=>
   simp only [J74,Option.some.injEq] at hr; subst hr
   obtain ⟨h1,h2,_⟩:=this
   rcases hv with ⟨_,_,rfl,_⟩ | ⟨hk,_⟩
   ·rw [h2]
   ·rw [h1] at hk; cases hk
 | box t s lv=>
  simp only [J74] at hr
  split at hr
  ·rename_i n e xs hs
   injection hr with hr; subst hr
   obtain ⟨h1,h2,b,c,U,h3,h4,h5⟩:=this
   rcases hv with ⟨_,hk,_⟩ | ⟨_,b',o',n',e',hb',hp,rfl,_⟩
   ·rw [h1] at hk; cases hk
   ·have h6:=Slot.get_ok h5 (by rw [← h2]; exact hp)
    rw [hs] at h6
    obtain ⟨he,_⟩:=h6
    injection he with _ he2
    subst he2; rfl
  ·cases hr
 | map _ _ _ _=>simp [J74] at hr
 | dead=>simp [J74] at hr
theorem Kl {c:Ctx} {G:List GE} {h:List AObj} {w:World} (hh:HRG c G h w) {ok:Nat→Prop}:∀ (s:Slot) (ty:Ty) {t2:Ty} {cs:List Value},
  fits h s ty=true→J6y G w ok s t2 cs→J6y G w ok s ty cs∧ty.isAgg=t2.isAgg∧s.solid=true:=by
 intro s ty
 fun_induction fits h s ty with
 | case1 t x ty=>intro t2 cs hf hs; obtain ⟨rfl,hs⟩:=hs; have:=of_decide_eq_true hf; subst this; exact ⟨⟨rfl,hs⟩,rfl,rfl⟩
 | case2 e=>intro t2 cs hf hs; obtain ⟨⟨e',rfl⟩,rfl⟩:=hs; exact ⟨⟨⟨e,rfl⟩,rfl⟩,rfl,rfl⟩
 | case3=>intro t2 cs hf hs; obtain ⟨rfl,rfl⟩:=hs; exact ⟨⟨rfl,rfl⟩,rfl,rfl⟩
 | case4 l p=>intro t2 cs hf hs; have:=hs.1; subst this; exact ⟨hs,rfl,rfl⟩
 | case5 t x=>intro t2 cs hf hs; have:=hs.1; subst this; exact ⟨hs,rfl,rfl⟩
 | case6 f cap=>intro t2 cs hf hs; have:=hs.1; subst this; exact ⟨hs,rfl,rfl⟩
 | case7 l=>intro t2 cs hf hs; have:=hs.1; subst this; exact ⟨hs,rfl,rfl⟩
 | case8=>intro t2 cs hf hs; have:=hs.1; subst this; exact ⟨hs,rfl,rfl⟩
 | case9 l p e r hr=>
  intro t2 cs hf hs
  have:=K07 hh hs hr
  have h2:=of_decide_eq_true hf
  subst this; subst h2; exact ⟨hs,rfl,rfl⟩
 | case10=>intro t2 cs hf _; cases hf
 | case11 a r ta tr ih1 ih2=>
  intro t2 cs hf hs
  simp only [Bool.and_eq_true] at hf
  obtain ⟨ta',tr',rfl,c1,c2,rfl,h1,h2⟩:=hs
  obtain ⟨x1,_,x3⟩:=ih1 hf.1 h1
  obtain ⟨y1,_,y3⟩:=ih2 hf.2 h2
  exact ⟨⟨ta,tr,rfl,c1,c2,rfl,x1,y1⟩,rfl,by simp [Slot.solid,x3,y3]⟩
 | case12=>intro t2 cs hf _; cases hf
theorem Jm7 {c:Ctx} {G:List GE} {h:List AObj} {w:World} (hh:HRG c G h w) {ok:Nat→Prop} {s:Slot} {ty:Ty} {v:Value}
  (hf:fits h s ty=true) (hv:TRel G w ok s v):∃ cs,J6y G w ok s ty cs∧v=pack ty cs∧s.solid=true:=by
 have:∃ t2 cs,J6y G w ok s t2 cs∧v=pack t2 cs:=by
  cases s <;> first
   | exact hv
   | (cases ty <;> cases hf)
 obtain ⟨t2,cs,h1,rfl⟩:=this
 obtain ⟨h2,h3,h4⟩:=Kl hh s ty hf h1
 exact ⟨cs,h2,(Jmh h3).symm,h4⟩
def AObj.lay:AObj→Ty
 | .row e xs _=>.arr (List.length xs) e
 | .box t _ _=>t
 | _=>.unit
def AObj.slot:AObj→Slot
 | .row e xs _=>.v (.arr (List.length xs) e) xs
 | .box _ s _=>s
 | _=>.undef
def Ty.at:Ty→List Step→Option Ty
 | t,[]=>some t
 | .fld a _,.fld 0::p=>a.at p
 | .fld _ r,.fld (k+1)::p=>r.at (.fld k::p)
 | .arr _ e,.idx _::p=>e.at p
 | _,_=>none
theorem POff.at_eq:∀ {t:Ty} {p:List Step} {o:Nat} {t':Ty},POff t p o t'→t.at p=some t'
 | t,[],o,t',h=>by obtain ⟨_,rfl⟩:=h; cases t' <;> rfl
 | t,.idx i::p,o,t',h=>by obtain ⟨n,e,o2,rfl,_,h,_⟩:=h; rw [Ty.at]; exact POff.at_eq h
 | .fld a r,.fld 0::p,o,t',h=>by
  rcases POff.fld_inv h with ⟨_,h⟩ | ⟨_,_,hk,_⟩
  ·rw [Ty.at]; exact POff.at_eq h
  ·cases hk
 | .fld a r,.fld (k+1)::p,o,t',h=>by
  rcases POff.fld_inv h with ⟨hk,_⟩ | ⟨j,o',hk,_,h⟩
  ·cases hk
  ·injection hk with hk; subst hk; rw [Ty.at]; exact POff.at_eq h
 | .int _,.fld k::p,_,_,h=>by obtain ⟨_,_,_,hf,_⟩:=h; cases k <;> simp [Ty.field] at hf
 | .bool,.fld k::p,_,_,h=>by obtain ⟨_,_,_,hf,_⟩:=h; cases k <;> simp [Ty.field] at hf
 | .str,.fld k::p,_,_,h=>by obtain ⟨_,_,_,hf,_⟩:=h; cases k <;> simp [Ty.field] at hf
 | .flt,.fld k::p,_,_,h=>by obtain ⟨_,_,_,hf,_⟩:=h; cases k <;> simp [Ty.field] at hf
 | .cplx,.fld k::p,_,_,h=>by obtain ⟨_,_,_,hf,_⟩:=h; cases k <;> simp [Ty.field] at hf
 | .ptr,.fld k::p,_,_,h=>by obtain ⟨_,_,_,hf,_⟩:=h; cases k <;> simp [Ty.field] at hf
 | .mp,.fld k::p,_,_,h=>by obtain ⟨_,_,_,hf,_⟩:=h; cases k <;> simp [Ty.field] at hf
 | .fn,.fld k::p,_,_,h=>by obtain ⟨_,_,_,hf,_⟩:=h; cases k <;> simp [Ty.field] at hf
 | .arr _ _,.fld k::p,_,_,h=>by obtain ⟨_,_,_,hf,_⟩:=h; cases k <;> simp [Ty.field] at hf
 | .slice _,.fld k::p,_,_,h=>by obtain ⟨_,_,_,hf,_⟩:=h; cases k <;> simp [Ty.field] at hf
 | .unit,.fld k::p,_,_,h=>by obtain ⟨_,_,_,hf,_⟩:=h; cases k <;> simp [Ty.field] at hf
termination_by t p=>(p.length,SizeOf.sizeOf t)
theorem J9r {c:Ctx} {G:List GE} {h:List AObj} {w:World} (hh:HRG c G h w) {l:Nat} {p:List Step} {o:AObj} {v:Value} {ty:Ty}
  (ho:h[l]?=some o) (hat:o.lay.at p=some ty) (hd:o.isDead=false) (hv:TRel G w (okB c G h w) (.ptr l p) v) :
  ∃ g b off cs U,G[l]?=some g∧g.blk=some b∧v=.pointer (some ⟨b,off,none⟩)∧w.heap[b]?=some (.cells cs U (0,0))∧POff o.lay p off ty∧
   J6y G w (okB c G h w) o.slot o.lay (cs.toList.take o.lay.size)∧o.lay.size≤cs.size∧g.lay=o.lay∧
   (∀ e xs lv,o=.row e xs lv→g.cap * e.size≤cs.size∧g.n=List.length xs∧g.n≤g.cap)∧(∀ t s lv,o=.box t s lv→cs.size=t.size):=by
 obtain ⟨t,cs0,⟨rfl,g,u,hg,rfl,hk,b,off,t',hb,hp,rfl⟩,hpk⟩:=hv
 have hobj:=hh.objs l o g ho hg
 have hpk:v=.pointer (some ⟨b,off,none⟩):=hpk
 cases o with
 | row e xs lv=>
  obtain ⟨h1,h2,h3,h4,h5⟩:=hobj
  rcases h5 with ⟨h5,_⟩ | ⟨b',cs,U,h5,h6,h7,h8⟩
  ·rw [h5] at hb; cases hb
  ·rw [h5] at hb; injection hb with hb; subst hb
   have hlay:g.lay=(AObj.row e xs lv).lay:=by simp [GE.lay,h1,h2,h3,AObj.lay]
   rw [hlay] at hp
   have:=POff.at_eq hp
   rw [hat] at this; injection this with this; subst this
   have hle:g.n * e.size≤cs.size:=Nat.le_trans (Nat.mul_le_mul_right _ h4) h7
   refine ⟨g,b',off,cs,U,hg,h5,hpk,h6,hp,?_,?_,hlay,?_,fun _ _ _ h=>by cases h⟩
   ·refine ⟨by rw [h3] at h8; rfl,?_⟩
    rw [h3] at h8; exact h8
   ·show List.length xs * e.size≤cs.size; rw [← h3]; exact hle
   ·intro e' xs' lv' heq; injection heq with e1 e2 e3; subst e1; cases e2; exact ⟨h7,h3,h4⟩
 | box t s lv=>
  obtain ⟨h1,h2,b',cs,U,h3,h4,h5⟩:=hobj
  rw [h3] at hb; injection hb with hb; subst hb
  have hlay:g.lay=(AObj.box t s lv).lay:=by simp [GE.lay,h1,h2,AObj.lay]
  rw [hlay] at hp
  have:=POff.at_eq hp
  rw [hat] at this; injection this with this; subst this
  have hl:=J6y.len _ h5
  refine ⟨g,b',off,cs,U,hg,h3,hpk,h4,hp,?_,?_,hlay,(fun _ _ _ h=>by cases h),fun t' s' lv' heq=>by injection heq with e1; subst e1; simpa using hl⟩
  ·show J6y G w _ s t (cs.toList.take t.size)
   rw [← hl,List.take_length]; exact h5
  ·show t.size≤cs.size; rw [← hl]; simp
 | map _ _ _ _=>exact absurd hobj.1 hk
 | dead=>cases hd
theorem J9n {cs:List Value} {n o s:Nat} (h:o+s≤n):(((cs.take n).drop o).take s)=(cs.drop o).take s:=by
 rw [List.drop_take,List.take_take,Nat.min_eq_left (by omega)]
theorem Jen {w:World} {b o n:Nat} {cs:Array Value} {U:TypeId} {f:Nat×Nat} (hb:w.heap[b]?=some (.cells cs U f)) :
  ∀ j,j < ((cs.toList.drop o).take n).length→w.cell? ⟨b,o+j,none⟩=((cs.toList.drop o).take n)[j]?:=by
 intro j hj
 rw [List.length_take] at hj
 rw [cell?_here hb,List.getElem?_take,if_pos (by omega),List.getElem?_drop,Array.getElem?_toList]
theorem VOp.val {o:Oper} {st:St} {s:Slot} {h:List AObj} {t:Ty} {x:t.den} (hv:VOp P o st s h) (hx:J7o h t s=some x):VOp P o st (.v t x) (freezeIds h s.ids):=by
 intro c G a w hs
 obtain ⟨v,w',G',hr,hh,hG,k,hrel⟩:=hv c G a w hs
 obtain ⟨h1,k1⟩:=hh.freezeIds s.ids
 obtain ⟨cs,h2,h3⟩:=J8w hh (fun l hl=>hl) hx hrel
 refine ⟨v,w',G',?_,h1,hG,⟨fun b hb=>k1.sub b (k.sub b hb),fun b o v hb hv=>k1.cell b o v (k.sub b hb) (k.cell b o v hb hv)⟩,⟨t,cs,⟨rfl,h2⟩,h3⟩⟩
 rcases hr with hr | ⟨hr,hu⟩
 ·exact .inl hr
 ·subst hu; cases t <;> cases hx
def told (h:List AObj) (t:Ty) (s:Slot):Slot×List AObj:=
 match s with
 | .node a r=>match J7o h t (.node a r) with
  | some x=>(.v t x,freezeIds h (Slot.node a r).ids)
  | none=>(.node a r,h)
 | s=>(s,h)
theorem VOp.told {o:Oper} {st:St} {s:Slot} {h:List AObj} (t:Ty) (hv:VOp P o st s h):VOp P o st (Ax.told h t s).1 (Ax.told h t s).2:=by
 unfold Ax.told
 split
 ·split
  ·rename_i hx; exact hv.val hx
  ·exact hv
 ·exact hv
def Jrv (T:Tab) (h:List AObj) (t:Nat) (s:Slot):Option (Slot×List AObj):=
 match T.ty t with
 | none=>none
 | some ty=>match s with
  | .ref t' x=>if t'=ty then some (.v t' x,h) else none
  | .ptr l p=>if (J6q h l).lay.at p=some ty∧(J6q h l).isDead=false then some (told h ty ((J6q h l).slot.get p)) else none
  | _=>none
theorem Ja1 {h:List AObj} {l:Nat} (hd:(J6q h l).isDead=false):h[l]?=some (J6q h l):=by
 unfold J6q at *
 rw [List.getD_eq_getElem?_getD] at *
 cases hh:h[l]? with
 | none=>rw [hh] at hd; cases hd
 | some o=>rfl
theorem Jo0 (hT:J78 P T) {o:Oper} {st:St} {t:Nat} {x:Operand} {s:Slot} {h':List AObj} (hop:o.op=.load t x)
  (he:Jrv T st.heap t (opnd st.slots x)=some (s,h')):VOp P o st s h':=by
 unfold Jrv at he
 split at he
 ·cases he
 ·rename_i ty hty
  obtain ⟨by_,hg⟩:=Tab.ty_get hty
  have hI:=hT _ _ _ hg
  split at he
  ·rename_i t' y hx
   split at he
   ·rename_i ht; subst ht
    injection he with he; injection he with e1 e2; subst e1; subst e2
    refine VOp.pure fun c G a w hs=>?_
    have hv:=J6v hs x
    rw [hx] at hv
    obtain ⟨t2,cs,⟨rfl,b,off,cs',rfl,hok,hrep,hcell⟩,hpk⟩:=hv
    have hpk:a.eval x=.pointer (some ⟨b,off,none⟩):=hpk
    refine ⟨pack t' cs',?_,⟨t',cs',⟨rfl,hrep⟩,rfl⟩⟩
    simp [execOp,hop,Instr.loadAt,Instr.sureAddr,hpk,Jc8 hI (RepC.len _ hrep) hcell]
   ·cases he
  ·rename_i l p hx
   split at he
   ·rename_i hc
    injection he with he
    have hold:VOp P o st ((J6q st.heap l).slot.get p) st.heap:=by
     refine VOp.pure fun c G a w hs=>?_
     have hv:=J6v hs x
     rw [hx] at hv
     obtain ⟨g,b,off,cs,U,hg,hb,hpk,hheap,hp,hrel,hle,_⟩:=J9r hs.toHRG (Ja1 hc.2) hc.1 hc.2 hv
     have h1:=Slot.get_ok hrel hp
     rw [J9n (POff.le hp)] at h1
     refine ⟨pack ty ((cs.toList.drop off).take ty.size),?_,TRel.of h1⟩
     simp [execOp,hop,Instr.loadAt,Instr.sureAddr,hpk,Jc8 hI (J6y.len _ h1) (Jen hheap)]
    have:=hold.told ty
    rw [he] at this; exact this
   ·cases he
  ·cases he
def AObj.put (o:AObj) (p:List Step) (n:Slot):Option AObj:=
 match o with
 | .row e xs true=>match p,n with
  | [],.v (.arr _ e') ys=>match cast? (.slice e') (.slice e) ys with
   | some zs=>some (.row e zs true)
   | none=>none
  | .idx i::p,.v t y=>match vset e (List.getD xs i e.zero) p t y with
   | some z=>some (.row e (List.set xs i z) true)
   | none=>none
  | _,_=>none
 | .box t s true=>some (.box t (s.set p n) true)
 | _=>none
def Jib (T:Tab) (h:List AObj) (t:Nat) (s n:Slot):Option (List AObj):=
 match T.ty t with
 | none=>none
 | some ty=>match s with
  | .ptr l p=>if (J6q h l).lay.at p=some ty∧fits h n ty=true then match (J6q h l).put p n with
    | some o'=>some (h.set l o')
    | none=>none
   else none
  | _=>none
theorem AObj.put_live {o o':AObj} {p:List Step} {n:Slot} (h:o.put p n=some o'):o.live=true∧o'.live=true∧o.isDead=false∧o'.isDead=false:=by
 unfold AObj.put at h
 split at h
 ·split at h
  ·split at h
   ·injection h with h; subst h; exact ⟨rfl,rfl,rfl,rfl⟩
   ·cases h
  ·split at h
   ·injection h with h; subst h; exact ⟨rfl,rfl,rfl,rfl⟩
   ·cases h
  ·cases h
 ·injection h with h; subst h; exact ⟨rfl,rfl,rfl,rfl⟩
 ·cases h
theorem Jp5 {c:Ctx} {G:List GE} {h:List AObj} {w w':World} (hh:HRG c G h w) {l:Nat} {p:List Step} {o o':AObj} {ty:Ty} {n:Slot} {cs:List Value}
  (ho:h[l]?=some o) (hput:o.put p n=some o') (hn:J6y G w (okB c G h w) n ty cs) {g:GE} {b off:Nat} {arr arr':Array Value} {U:TypeId}
  (hg:G[l]?=some g) (hb:g.blk=some b) (hp:POff o.lay p off ty) (hrel:J6y G w (okB c G h w) o.slot o.lay (arr.toList.take o.lay.size)) (hle:o.lay.size≤arr.size)
  (hrow:∀ e xs lv,o=.row e xs lv→g.cap * e.size≤arr.size∧g.n=List.length xs∧g.n≤g.cap) (hbox:∀ t s lv,o=.box t s lv→arr.size=t.size)
  (hw:Wrote w w' b arr' U) (hsp:arr'.toList=splice arr.toList off cs) :
  HRG c G (h.set l o') w'∧okB c G (h.set l o') w'=okB c G h w∧J76 w w' (okB c G h w) (okB c G h w):=by
 obtain ⟨hl1,hl2,hd1,hd2⟩:=AObj.put_live hput
 have hlen:=J6y.len _ hn
 have hpl:=POff.le hp
 have hobj:=hh.objs l o g ho hg
 refine hh.wrote ho hg hl1 hb hw hl2 hd2 fun k=>?_
 have hset:=Slot.set_ok hrel hp hn
 have hset':=J6y.mono (Ext.refl G) k _ hset
 have hsz:arr'.toList.take o.lay.size=splice (arr.toList.take o.lay.size) off cs:=by
  rw [hsp]
  have e1:arr.toList=arr.toList.take o.lay.size++arr.toList.drop o.lay.size:=(List.take_append_drop _ _).symm
  have l1:(arr.toList.take o.lay.size).length=o.lay.size:=by rw [List.length_take,Array.length_toList]; omega
  conv=>lhs; rw [e1]
  rw [Jam (by rw [l1,hlen]; exact hpl),List.take_append_of_le_length (by rw [Jbn (by rw [l1,hlen]; exact hpl),l1]; exact Nat.le_refl _)]
  rw [List.take_of_length_le (by rw [Jbn (by rw [l1,hlen]; exact hpl),l1]; exact Nat.le_refl _)]
 have hsize:arr'.size=arr.size:=by
  have:arr'.toList.length=arr.toList.length:=by rw [hsp,Jbn (by rw [hlen,Array.length_toList]; omega)]
  simpa using this
 rw [← hsz] at hset'
 unfold AObj.put at hput
 split at hput
 ·rename_i e xs
  obtain ⟨h1,h2,h3,h4,h5⟩:=hobj
  have fin:∀ (zs:List e.den),RepC w' (okB c G h w) (.arr (List.length xs) e) (arr'.toList.take (List.length xs * e.size)) zs→ORel G w' (okB c G h w) g (.row e zs true):=by
   intro zs hz
   obtain ⟨c1,c2,c3⟩:=hrow _ _ _ rfl
   refine ⟨h1,h2,by rw [h3]; exact hz.1.symm,h4,.inr ⟨b,arr',U,hb,hw.here,by rw [hsize]; exact c1,?_⟩⟩
   rw [h3]; exact hz
  have hset'':J6y G w' (okB c G h w) (Slot.set (.v (.arr (List.length xs) e) xs) p n) (.arr (List.length xs) e) (arr'.toList.take (List.length xs * e.size)):=hset'
  split at hput
  ·rename_i m e' ys
   split at hput
   ·rename_i zs hzs
    injection hput with hput; subst hput
    obtain ⟨heq,hzs⟩:=J9o hzs
    injection heq with heq
    subst heq; subst hzs
    obtain ⟨q1,r1,r2⟩:=hset''
    injection q1 with q1 _
    subst q1
    exact fin ys ⟨r1,r2⟩
   ·cases hput
  ·rename_i i p' t' y
   split at hput
   ·rename_i z hz
    injection hput with hput; subst hput
    have e1:Slot.set (.v (.arr (List.length xs) e) xs) (.idx i::p') (.v t' y)=.v (.arr (List.length xs) e) (List.set xs i z):=by
     simp only [Slot.set,vset,hz]
    rw [e1] at hset''
    exact fin _ hset''.2
   ·cases hput
  ·cases hput
 ·rename_i t0 s0
  injection hput with hput; subst hput
  obtain ⟨h1,h2,_⟩:=hobj
  refine ⟨h1,h2,b,arr',U,hb,hw.here,?_⟩
  have hs:=hbox _ _ _ rfl
  have hset'':J6y G w' (okB c G h w) (s0.set p n) t0 (arr'.toList.take t0.size):=hset'
  have:arr'.toList.take t0.size=arr'.toList:=List.take_of_length_le (by rw [Array.length_toList,hsize,hs]; exact Nat.le_refl _)
  rwa [this] at hset''
 ·cases hput
theorem K3p {c:Ctx} {G:List GE} {h:List AObj} {w:World} (hh:HRG c G h w) {l:Nat} {p:List Step} {o o':AObj} {v:Value} {ty:Ty} {n:Slot} {cs:List Value}
  (ho:h[l]?=some o) (hat:o.lay.at p=some ty) (hv:TRel G w (okB c G h w) (.ptr l p) v) (hput:o.put p n=some o')
  (hn:J6y G w (okB c G h w) n ty cs) (hsol:n.solid=true) {t by_:Nat} (hI:TyI P T t ty by_) :
  ∃ b off w',v=.pointer (some ⟨b,off,none⟩)∧(storeVar t ⟨b,off,none⟩ (pack ty cs)).run P w=.ok () w'∧HRG c G (h.set l o') w'∧
   okB c G (h.set l o') w'=okB c G h w∧J76 w w' (okB c G h w) (okB c G h w):=by
 obtain ⟨hl1,hl2,hd1,hd2⟩:=AObj.put_live hput
 obtain ⟨g,b,off,arr,U,hg,hb,hpk,hheap,hp,hrel,hle,hlay,hrow,hbox⟩:=J9r hh ho hat hd1 hv
 have hlen:=J6y.len _ hn
 have hpl:=POff.le hp
 obtain ⟨w',arr',hrun,hw,hsp⟩:=Jpg (o:=off) hI hlen (J6y.cells n hsol hn) hheap (by omega)
 refine ⟨b,off,w',hpk,hrun,?_⟩
 exact Jp5 hh ho hput hn hg hb hp hrel hle hrow hbox hw hsp
theorem Jld (hT:J78 P T) {o:Oper} {st:St} {t:Nat} {x y:Operand} {n:Slot} {h':List AObj} (hop:o.op=.store t x y) (he:Jib T st.heap t (opnd st.slots x) n=some h')
  {c:Ctx} {G:List GE} {a:Act} {w:World} (hs:SRG c G st a w) (hy:TRel G w (okB c G st.heap w) n (a.eval y)) :
  ∃ w',(execOp a.eval o).run P w=.ok .skip w'∧HRG c G h' w'∧J76 w w' (okB c G st.heap w) (okB c G h' w'):=by
 unfold Jib at he
 split at he
 ·cases he
 ·rename_i ty hty
  obtain ⟨by_,hgt⟩:=Tab.ty_get hty
  have hI:=hT _ _ _ hgt
  split at he
  ·rename_i l p hx
   split at he
   ·rename_i hc
    split at he
    ·rename_i o' hput
     injection he with he; subst he
     have hv:=J6v hs x
     rw [hx] at hv
     obtain ⟨cs,hn,hpk,hsol⟩:=Jm7 hs.toHRG hc.2 hy
     obtain ⟨b,off,w',h1,h2,h3,h4,h5⟩:=K3p hs.toHRG (Ja1 (AObj.put_live hput).2.2.1) hc.1 hv hput hn hsol hI
     refine ⟨w',?_,h3,by rw [h4]; exact h5⟩
     simp [execOp,hop,Instr.storeAt,Instr.sureAddr,h1,hpk,h2]
    ·cases he
   ·cases he
  ·cases he
theorem Ju3 (hT:J78 P T) {o:Oper} {st:St} {t:Nat} {x y:Operand} {h':List AObj} (hop:o.op=.store t x y)
  (he:Jib T st.heap t (opnd st.slots x) (opnd st.slots y)=some h'):VOp P o st .undef h':=by
 intro c G a w hs
 obtain ⟨w',h1,h2,h3⟩:=Jld hT hop he hs (J6v hs y)
 exact ⟨undef,w',G,.inr ⟨h1,rfl⟩,h2,Ext.refl G,h3,trivial⟩
def Jlz (T:Tab) (h:List AObj) (t:Nat) (s n:Slot):Option (List AObj):=
 match T.ty t with
 | some ty=>match J7o h ty n with
  | some x=>Jib T (freezeIds h n.ids) t s (.v ty x)
  | none=>none
 | none=>none
theorem Jqa (hT:J78 P T) {o:Oper} {st:St} {t:Nat} {x y:Operand} {h':List AObj} (hop:o.op=.store t x y)
  (he:Jlz T st.heap t (opnd st.slots x) (opnd st.slots y)=some h'):VOp P o st .undef h':=by
 unfold Jlz at he
 split at he
 ·rename_i ty hty
  split at he
  ·rename_i z hz
   intro c G a w hs
   obtain ⟨h1,k⟩:=hs.toHRG.freezeIds (opnd st.slots y).ids
   obtain ⟨cs,h4,h3⟩:=J8w hs.toHRG (fun l hl=>hl) hz (J6v hs y)
   have hs2:SRG c G { st with heap:=freezeIds st.heap (opnd st.slots y).ids } a w:=hs.on h1 (Ext.refl G) k
   obtain ⟨w',e1,e2,e3⟩:=Jld (n:=.v ty z) hT hop he hs2 ⟨ty,cs,⟨rfl,h4⟩,h3⟩
   exact ⟨undef,w',G,.inr ⟨e1,rfl⟩,e2,Ext.refl G,⟨fun b hb=>e3.sub b (k.sub b hb),fun b o v hb hv=>e3.cell b o v (k.sub b hb) (k.cell b o v hb hv)⟩,trivial⟩
  ·cases he
 ·cases he
theorem Jxp {c:Ctx} {G:List GE} {h:List AObj} {w:World} (hh:HRG c G h w) {ty:Ty} {s:Slot} {cs:List Value} (U:TypeId) (hs:J6y G w (okB c G h w) s ty cs) :
  HRG c (G++[⟨.box,some w.heap.size,ty,0,0⟩]) (h++[.box ty s true]) (w.alloc (.cells cs.toArray U))∧
  J76 w (w.alloc (.cells cs.toArray U)) (okB c G h w) (okB c (G++[⟨.box,some w.heap.size,ty,0,0⟩]) (h++[.box ty s true]) (w.alloc (.cells cs.toArray U)))∧
  ∀ ok',TRel (G++[⟨.box,some w.heap.size,ty,0,0⟩]) (w.alloc (.cells cs.toArray U)) ok' (.ptr h.length []) (.pointer (some ⟨w.heap.size,0,none⟩)):=by
 obtain ⟨h1,h2⟩:=hh.alloc (o:=.box ty s true) (g:=⟨.box,some w.heap.size,ty,0,0⟩) (cs:=cs.toArray) (U:=U) rfl (fun ok' k=>by
  refine ⟨rfl,rfl,w.heap.size,cs.toArray,U,rfl,?_,?_⟩
  ·show (w.heap.push _)[w.heap.size]?=_; simp
  ·exact J6y.mono (Ext.snoc _ _) k s hs)
 refine ⟨h1,h2,fun ok'=>⟨.ptr,_,⟨rfl,⟨.box,some w.heap.size,ty,0,0⟩,.pointer (some ⟨w.heap.size,0,none⟩),?_,rfl,?_⟩,rfl⟩⟩
 ·rw [← hh.len]; simp
 ·exact ⟨by simp,w.heap.size,0,ty,rfl,⟨rfl,rfl⟩,rfl⟩
theorem J87:∀ (t:Ty),∀ v ∈ J77 t,v.oneCell'=true
 | .int _,v,hv=>by simp [J77] at hv; subst hv; rfl
 | .bool,v,hv=>by simp [J77] at hv; subst hv; rfl
 | .str,v,hv=>by simp [J77] at hv; subst hv; rfl
 | .flt,v,hv=>by simp [J77] at hv; subst hv; rfl
 | .cplx,v,hv=>by simp [J77] at hv; subst hv; rfl
 | .ptr,v,hv=>by simp [J77] at hv; subst hv; rfl
 | .mp,v,hv=>by simp [J77] at hv; subst hv; rfl
 | .fn,v,hv=>by simp [J77] at hv; subst hv; rfl
 | .slice _,v,hv=>by simp [J77] at hv; subst hv; rfl
 | .unit,v,hv=>by cases hv
 | .fld a r,v,hv=>by
  rcases List.mem_append.1 hv with hv | hv
  ·exact J87 a v hv
  ·exact J87 r v hv
 | .arr n e,v,hv=>by
  simp only [J77,List.mem_flatten] at hv
  obtain ⟨l,hl,hv⟩:=hv
  rw [List.eq_of_mem_replicate hl] at hv
  exact J87 e v hv
def Jq3 (T:Tab) (h:List AObj) (t:Nat):Option (Slot×List AObj):=
 match T.ty t with
 | none=>none
 | some .mp=>none
 | some .fn=>none
 | some ty=>some (.ptr h.length [],h++[.box ty (Jfs ty) true])
theorem Ju0 (hT:J78 P T) {o:Oper} {st:St} {t:Nat} {s:Slot} {h':List AObj} (hop:o.op=.alloc t)
  (he:Jq3 T st.heap t=some (s,h')):VOp P o st s h':=by
 unfold Jq3 at he
 split at he
 ·cases he
 ·cases he
 ·cases he
 ·rename_i ty h1 h2 hty
  injection he with he; injection he with e1 e2; subst e1; subst e2
  obtain ⟨by_,hgt⟩:=Tab.ty_get hty
  have hI:=hT _ _ _ hgt
  intro c G a w hs
  obtain ⟨r1,r2,r3⟩:=Jxp hs.toHRG t (Jd9 G w (okB c G st.heap w) ty)
  refine ⟨_,_,_,.inl ?_,r1,Ext.snoc _ _,r2,r3 _⟩
  have hz:=hI.run_zero h1 h2 w
  have hc:(pack ty (J77 ty)).cells=(J77 ty).toArray:=by
   apply Array.toList_inj.1
   rw [pack_cells (J7p ty) (J87 ty)]
  simp [execOp,hop,Instr.alloc,hz,newVar,newRow,hc]
end Go.Ax

namespace Go.Ax
set_option linter.unusedVariables false
set_option linter.unusedSimpArgs false
variable {P : Program} {T : Tab}
theorem Jo2 {T:Tab}:∀ {fs:List Field} {ty:Ty} {o k o1:Nat} {t1:Ty},J9l T fs ty o→ty.field k=some (o1,t1)→
  ∃ f,fs[k]?=some f∧f.offset=o+o1∧T.ty f.type=some t1
 | [],.unit,_,k,_,_,_,h=>by cases k <;> simp [Ty.field] at h
 | f::fs,.fld a r,o,0,_,_,hF,h=>by
  simp only [Ty.field,Option.some.injEq,Prod.mk.injEq] at h
  obtain ⟨rfl,rfl⟩:=h
  exact ⟨f,rfl,by rw [hF.2.1]; rfl,hF.1⟩
 | f::fs,.fld a r,o,k+1,o1,t1,hF,h=>by
  simp only [Ty.field] at h
  cases hr:r.field k with
  | none=>rw [hr] at h; cases h
  | some z=>
   obtain ⟨z1,z2⟩:=z
   rw [hr] at h
   simp only [Option.some.injEq,Prod.mk.injEq] at h
   obtain ⟨rfl,rfl⟩:=h
   obtain ⟨f',h1,h2,h3⟩:=Jo2 hF.2.2 hr
   exact ⟨f',h1,by rw [h2]; omega,h3⟩
 | [],.int _,_,_,_,_,hF,_=>hF.elim
 | [],.bool,_,_,_,_,hF,_=>hF.elim
 | [],.str,_,_,_,_,hF,_=>hF.elim
 | [],.flt,_,_,_,_,hF,_=>hF.elim
 | [],.cplx,_,_,_,_,hF,_=>hF.elim
 | [],.ptr,_,_,_,_,hF,_=>hF.elim
 | [],.mp,_,_,_,_,hF,_=>hF.elim
 | [],.fn,_,_,_,_,hF,_=>hF.elim
 | [],.arr _ _,_,_,_,_,hF,_=>hF.elim
 | [],.slice _,_,_,_,_,hF,_=>hF.elim
 | [],.fld _ _,_,_,_,_,hF,_=>hF.elim
 | _::_,.unit,_,_,_,_,hF,_=>hF.elim
 | _::_,.int _,_,_,_,_,hF,_=>hF.elim
 | _::_,.bool,_,_,_,_,hF,_=>hF.elim
 | _::_,.str,_,_,_,_,hF,_=>hF.elim
 | _::_,.flt,_,_,_,_,hF,_=>hF.elim
 | _::_,.cplx,_,_,_,_,hF,_=>hF.elim
 | _::_,.ptr,_,_,_,_,hF,_=>hF.elim
 | _::_,.mp,_,_,_,_,hF,_=>hF.elim
 | _::_,.fn,_,_,_,_,hF,_=>hF.elim
 | _::_,.arr _ _,_,_,_,_,hF,_=>hF.elim
 | _::_,.slice _,_,_,_,_,hF,_=>hF.elim
theorem POff.snoc:∀ {p:List Step} {t:Ty} {o:Nat} {t1:Ty} {q:List Step} {o2:Nat} {t2:Ty},POff t p o t1→POff t1 q o2 t2→POff t (p++q) (o+o2) t2
 | [],t,o,t1,q,o2,t2,h,h'=>by obtain ⟨rfl,rfl⟩:=h; rw [Nat.zero_add]; exact h'
 | .fld k::p,t,o,t1,q,o2,t2,h,h'=>by
  obtain ⟨a,b,c,h1,h2,rfl⟩:=h
  exact ⟨a,b,c+o2,h1,POff.snoc h2 h',by omega⟩
 | .idx i::p,t,o,t1,q,o2,t2,h,h'=>by
  obtain ⟨n,e,c,h1,h2,h3,rfl⟩:=h
  exact ⟨n,e,c+o2,h1,h2,POff.snoc h3 h',by omega⟩
theorem Jjs (hT:J78 P T) {t:Nat} {ty t1:Ty} {k o1:Nat} (ht:T.ty t=some ty) (hf:ty.field k=some (o1,t1)) (w:World) :
  ∃ fs f by_,(underlying t).run P w=.ok (.struct fs) w∧fs[k]?=some f∧f.offset=o1∧TyI P T f.type t1 by_:=by
 obtain ⟨by_,hg⟩:=Tab.ty_get ht
 obtain ⟨d,hd,hD⟩:=(hT _ _ _ hg).run_under w
 have:∃ a r,ty=.fld a r:=by cases ty <;> first | exact ⟨_,_,rfl⟩ | (cases k <;> simp [Ty.field] at hf)
 obtain ⟨a,r,rfl⟩:=this
 obtain ⟨fs,rfl,hF⟩:=hD
 obtain ⟨f,h1,h2,h3⟩:=Jo2 hF hf
 obtain ⟨b2,hg2⟩:=Tab.ty_get h3
 exact ⟨fs,f,b2,hd,by rw [← Array.getElem?_toList]; exact h1,by omega,hT _ _ _ hg2⟩
def refOf:Slot→Option Slot
 | .v t x=>some (.ref t x)
 | _=>none
def J7l (T:Tab) (h:List AObj) (t:Nat) (s:Slot) (k:Nat):Option Slot:=
 match T.ty t with
 | none=>none
 | some ty=>match ty.field k with
  | none=>none
  | some (_,t1)=>if t1.size=0 then none else match s with
   | .ptr l p=>if (J6q h l).lay.at p=some ty∧(J6q h l).isDead=false then some (.ptr l (p++[.fld k])) else none
   | .ref t' x=>if t'=ty then refOf (vget t' x [.fld k]) else none
   | _=>none
theorem Jdy {f:Field} {t1:Ty} {by_:Nat} (hI:TyI P T f.type t1 by_) (h0:t1.size≠0) (b o:Nat) (w:World) :
  (fieldPlace ⟨b,o,none⟩ f).run P w=.ok ⟨b,o+f.offset,none⟩ w:=by
 simp [fieldPlace,hI.run_size w,h0,add_plain]
theorem Jsz {G:List GE} {w:World} {ok:Nat→Prop} {t t1 t':Ty} {x:t.den} {y:t'.den} {p:List Step} {o b off:Nat} {cs:List Value}
  (hrep:RepC w ok t cs x) (hp:POff t p o t1) (hy:vget t x p=.v t' y) (hok:ok b) (hc:∀ j,j < cs.length→w.cell? ⟨b,off+j,none⟩=cs[j]?) :
  t'=t1∧TRel G w ok (.ref t' y) (.pointer (some ⟨b,off+o,none⟩)):=by
 have h1:=Jna (G:=G) hrep hp
 rw [hy] at h1
 obtain ⟨rfl,h2⟩:=h1
 refine ⟨rfl,⟨.ptr,_,⟨rfl,b,off+o,_,rfl,hok,h2,fun j hj=>?_⟩,rfl⟩⟩
 have hle:=POff.le hp
 have hl:=RepC.len _ hrep
 rw [List.length_take] at hj
 rw [List.getElem?_take,if_pos (by omega),List.getElem?_drop,← hc (o+j) (by rw [List.length_drop] at hj; omega),Nat.add_assoc]
theorem Jb2 (hT:J78 P T) {o:Oper} {st:St} {t k:Nat} {x:Operand} {s:Slot} (hop:o.op=.fieldAddr t x k)
  (he:J7l T st.heap t (opnd st.slots x) k=some s):VOp P o st s st.heap:=by
 unfold J7l at he
 split at he
 ·cases he
 ·rename_i ty hty
  split at he
  ·cases he
  ·rename_i o1 t1 hf
   split at he
   ·cases he
   ·rename_i h0
    have hpo:∀ {t':Ty},t'=ty→POff t' [.fld k] o1 t1:=by
     rintro _ rfl; exact ⟨o1,t1,0,hf,⟨rfl,rfl⟩,rfl⟩
    split at he
    ·rename_i l p hx
     split at he
     ·rename_i hc
      injection he with he; subst he
      refine VOp.pure fun c G a w hs=>?_
      obtain ⟨fs,f,by_,hu,hfk,hoff,hI⟩:=Jjs hT hty hf w
      have hv:=J6v hs x
      rw [hx] at hv
      obtain ⟨g,b,off,cs,U,hg,hb,hpk,hheap,hp,hrel,hle,hlay,_⟩:=J9r hs.toHRG (Ja1 hc.2) hc.1 hc.2 hv
      refine ⟨.pointer (some ⟨b,off+f.offset,none⟩),?_,?_⟩
      ·simp [execOp,hop,Instr.fieldAt,Instr.sureAddr,hpk,hu,hfk,Jdy hI h0]
      ·obtain ⟨_,_,⟨_,g',_,hg',_,hk,_⟩,_⟩:=hv
       rw [hg] at hg'; injection hg' with hg'; subst hg'
       exact ⟨.ptr,_,⟨rfl,g,_,hg,rfl,hk,b,_,t1,hb,by rw [hlay,hoff]; exact POff.snoc hp (hpo rfl),rfl⟩,rfl⟩
     ·cases he
    ·rename_i t' y hx
     split at he
     ·rename_i hc
      unfold refOf at he
      split at he
      ·rename_i t2 z hz
       injection he with he; subst he
       refine VOp.pure fun c G a w hs=>?_
       obtain ⟨fs,f,by_,hu,hfk,hoff,hI⟩:=Jjs hT hty hf w
       have hv:=J6v hs x
       rw [hx] at hv
       obtain ⟨tt,cs,⟨rfl,b,off,cs',rfl,hok,hrep,hcell⟩,hpk⟩:=hv
       have hpk:a.eval x=.pointer (some ⟨b,off,none⟩):=hpk
       obtain ⟨_,hr⟩:=Jsz (G:=G) hrep (hpo hc) hz hok hcell
       refine ⟨.pointer (some ⟨b,off+f.offset,none⟩),?_,by rw [hoff]; exact hr⟩
       simp [execOp,hop,Instr.fieldAt,Instr.sureAddr,hpk,hu,hfk,Jdy hI h0]
      ·cases he
     ·cases he
    ·cases he
def Jlt (T:Tab) (t:Nat) (s:Slot) (k:Nat):Option Slot:=
 match T.ty t,s with
 | some ty,.v t' x=>if t'=ty then match ty.field k with
   | some _=>match vget t' x [.fld k] with
    | .v t2 y=>some (.v t2 y)
    | _=>none
   | none=>none
  else none
 | _,_=>none
theorem Jkd (hT:J78 P T) {o:Oper} {st:St} {t k:Nat} {x:Operand} {s:Slot} (hop:o.op=.field t x k)
  (he:Jlt T t (opnd st.slots x) k=some s):VOp P o st s st.heap:=by
 unfold Jlt at he
 split at he
 ·rename_i ty t' y hty hx
  split at he
  ·rename_i hc
   subst hc
   split at he
   ·rename_i z hf
    obtain ⟨o1,t1⟩:=z
    split at he
    ·rename_i t2 q hq
     injection he with he; subst he
     refine VOp.pure fun c G a w hs=>?_
     obtain ⟨fs,f,by_,hu,hfk,hoff,hI⟩:=Jjs hT hty hf w
     have hv:=J6v hs x
     rw [hx] at hv
     obtain ⟨tt,cs,⟨rfl,hrep⟩,hpk⟩:=hv
     have hag:t'.isAgg=true:=by cases t' <;> first | rfl | (cases k <;> simp [Ty.field] at hf)
     have hpk:a.eval x=.agg cs.toArray:=by rw [hpk,pack,if_pos hag]
     have hp:POff t' [.fld k] o1 t1:=⟨o1,t1,0,hf,⟨rfl,rfl⟩,rfl⟩
     have h1:=Jna (G:=G) hrep hp
     have hle:=POff.le hp
     rw [hq] at h1
     have hrun:=hI.run_part (cs:=cs.toArray) (o:=o1) (by simp [RepC.len _ hrep]; exact hle) w
     refine ⟨_,?_,TRel.of h1⟩
     simp [execOp,hop,Instr.field,asAgg,hpk,hu,hfk,hoff,hrun]
    ·cases he
   ·cases he
  ·cases he
 ·cases he
def Jbu (T:Tab) (h:List AObj) (t:Nat) (s i:Slot):Option (List Prop×Slot):=
 match i with
 | .v (.int k) i=>let i:=IK.toInt k i
  match T.ty t with
  | some (.arr n e)=>match s with
   | .ptr l p=>if (J6q h l).lay.at p=some (.arr n e)∧(J6q h l).isDead=false then some ([0≤i∧i < (n:Int)],.ptr l (p++[.idx i.toNat])) else none
   | .ref t' x=>if t'=.arr n e then match vget t' x [.idx i.toNat] with
     | .v t2 y=>some ([0≤i∧i < (n:Int)],.ref t2 y)
     | _=>none
    else none
   | _=>none
  | some (.slice e)=>match s with
   | .v (.slice e') xs=>if e'=e then some ([0≤i∧i < (List.length xs:Int)],.ref e' (List.getD xs i.toNat e'.zero)) else none
   | .own l p=>match J74 (J6q h l) p with
    | some r=>if r.e=e then some ([0≤i∧i < (List.length r.xs:Int)],.ptr l (p++[.idx i.toNat])) else none
    | none=>none
   | _=>none
  | _=>none
 | _=>none
theorem Jrg (hT:J78 P T) {t n:Nat} {e:Ty} (ht:T.ty t=some (.arr n e)) (w:World):∃ te by_,(underlying t).run P w=.ok (.array n te) w∧TyI P T te e by_:=by
 obtain ⟨by_,hg⟩:=Tab.ty_get ht
 obtain ⟨d,hd,te,rfl,hte⟩:=(hT _ _ _ hg).run_under w
 obtain ⟨b2,hg2⟩:=Tab.ty_get hte
 exact ⟨te,b2,hd,hT _ _ _ hg2⟩
theorem Ja5 (hT:J78 P T) {t:Nat} {e:Ty} (ht:T.ty t=some (.slice e)) (w:World):∃ te by_,(underlying t).run P w=.ok (.slice te) w∧T.get te=some (e,by_)∧TyI P T te e by_:=by
 obtain ⟨by_,hg⟩:=Tab.ty_get ht
 obtain ⟨d,hd,te,rfl,hte⟩:=(hT _ _ _ hg).run_under w
 obtain ⟨b2,hg2⟩:=Tab.ty_get hte
 exact ⟨te,b2,hd,hg2,hT _ _ _ hg2⟩
theorem Jae {c:Ctx} {G:List GE} {h:List AObj} {w:World} (hh:HRG c G h w) {l:Nat} {p:List Step} {r:Row} {v:Value}
    (hr:J74 (J6q h l) p=some r) (hv:TRel G w (okB c G h w) (.own l p) v) :
    ∃ g,G[l]?=some g∧(J6q h l).isDead=false∧h[l]?=some (J6q h l)∧
      ((g.blk=none∧r.xs=[]∧v=.slice none 0 0∧g.kind=.row)∨
       ∃ b o cs U cap,g.blk=some b∧v=.slice (some ⟨b,o,none⟩) (List.length r.xs) cap∧List.length r.xs≤cap∧w.heap[b]?=some (.cells cs U (0,0))∧
         POff g.lay p o (.arr (List.length r.xs) r.e)∧g.kind≠.map∧RepC w (okB c G h w) (.arr (List.length r.xs) r.e) ((cs.toList.drop o).take (List.length r.xs * r.e.size)) r.xs):=by
  obtain ⟨ho,hd⟩:=Jf8 hr
  obtain ⟨t,cs0,⟨g,u,hg,rfl,hu⟩,hpk⟩:=hv
  have hobj:=hh.objs l _ g ho hg
  refine ⟨g,hg,hd,ho,?_⟩
  generalize J6q h l=ob at *
  cases ob with
  | row e xs lv=>
    cases p with
    | cons _ _=>simp [J74] at hr
    | nil=>
      simp only [J74,Option.some.injEq] at hr; subst hr
      obtain ⟨h1,h2,h3,h4,h5⟩:=hobj
      rcases hu with ⟨_,_,rfl,rfl⟩ | ⟨hk,_⟩
      · have hpk:v=.slice (g.blk.map fun b=>⟨b,0,none⟩) g.n g.cap:=hpk
        rcases h5 with ⟨h5,h6⟩ | ⟨b,cs,U,h5,h6,h7,h8⟩
        · left
          have hx:xs=[]:=List.eq_nil_of_length_eq_zero (by omega)
          refine ⟨h5,hx,?_,h1⟩
          rw [hpk,h5,h6,show g.n=0 by omega]; rfl
        · right
          refine ⟨b,0,cs,U,g.cap,h5,by rw [hpk,h5,h3]; rfl,by show List.length xs≤g.cap; omega,h6,?_,by rw [h1]; simp,?_⟩
          · simp only [GE.lay,h1,h2,h3]; exact ⟨rfl,rfl⟩
          · rw [List.drop_zero]; rw [h3] at h8; exact h8
      · rw [h1] at hk; cases hk
  | box t s lv=>
    simp only [J74] at hr
    split at hr
    · rename_i n e xs hs
      injection hr with hr; subst hr
      obtain ⟨h1,h2,b,c,U,h3,h4,h5⟩:=hobj
      rcases hu with ⟨_,hk,_⟩ | ⟨_,b',o',n',e',hb',hp,rfl,rfl⟩
      · rw [h1] at hk; cases hk
      · rw [h3] at hb'; injection hb' with hb'; subst hb'
        have h6:=Slot.get_ok h5 (by rw [← h2]; exact hp)
        rw [hs] at h6
        obtain ⟨he,h7⟩:=h6
        injection he with he1 he2
        subst he1; subst he2
        have hn:List.length xs=n:=h7.1
        have hpk:v=.slice (some ⟨b,o',none⟩) n n:=hpk
        right
        refine ⟨b,o',c,U,n,h3,by rw [hpk,hn],by rw [hn]; exact Nat.le_refl _,h4,?_,by rw [h1]; simp,?_⟩
        · simp only [GE.lay,h1,hn]; exact hp
        · rw [hn]; exact h7
    · cases hr
  | map _ _ _ _=>simp [J74] at hr
  | dead=>simp [J74] at hr
theorem Jdu (hT:J78 P T) {o:Oper} {st:St} {t:Nat} {x y:Operand} {s:Slot} {ps:List Prop} (hop:o.op=.indexAddr t x y)
  (he:Jbu T st.heap t (opnd st.slots x) (opnd st.slots y)=some (ps,s)) (hps:AllP ps):VOp P o st s st.heap:=by
 unfold Jbu at he
 split at he
 ·rename_i k i hy
  dsimp only at he
  refine VOp.pure fun c G a w hs=>?_
  have hyv:=J6v hs y
  rw [hy] at hyv
  have hyv:=Jci hyv
  have hv:=J6v hs x
  generalize hI:IK.toInt k i=z at *
  split at he
  ·rename_i n e hty
   obtain ⟨te,by_,hu,hIe⟩:=Jrg hT hty w
   split at he
   ·rename_i l p hx
    split at he
    ·rename_i hc
     injection he with he; injection he with h1 h2; subst h1; subst h2
     obtain ⟨hz,_⟩:=hps
     rw [hx] at hv
     obtain ⟨g,b,off,cs,U,hg,hb,hpk,hheap,hp,hrel,hle,hlay,_⟩:=J9r hs.toHRG (Ja1 hc.2) hc.1 hc.2 hv
     refine ⟨.pointer (some ⟨b,off+z.toNat * e.size,none⟩),?_,?_⟩
     ·simp [execOp,hop,Instr.indexAt,Instr.sureAddr,hpk,hyv,asIntOf,hu,hz,hIe.run_size,add_plain]
     ·obtain ⟨_,_,⟨_,g',_,hg',_,hk,_⟩,_⟩:=hv
      rw [hg] at hg'; injection hg' with hg'; subst hg'
      refine ⟨.ptr,_,⟨rfl,g,_,hg,rfl,hk,b,_,e,hb,?_,rfl⟩,rfl⟩
      rw [hlay]; exact POff.snoc hp ⟨n,e,0,rfl,by omega,⟨rfl,rfl⟩,by omega⟩
    ·cases he
   ·rename_i t' q hx
    split at he
    ·rename_i hc
     subst hc
     split at he
     ·rename_i t2 yy hq
      injection he with he; injection he with h1 h2; subst h1; subst h2
      obtain ⟨hz,_⟩:=hps
      rw [hx] at hv
      obtain ⟨tt,cs,⟨rfl,b,off,cs',rfl,hok,hrep,hcell⟩,hpk⟩:=hv
      have hpk:a.eval x=.pointer (some ⟨b,off,none⟩):=hpk
      obtain ⟨_,hr⟩:=Jsz (G:=G) hrep (p:=[.idx z.toNat]) (o:=z.toNat * e.size) (t1:=e) ⟨n,e,0,rfl,by omega,⟨rfl,rfl⟩,by omega⟩ hq hok hcell
      refine ⟨.pointer (some ⟨b,off+z.toNat * e.size,none⟩),?_,hr⟩
      simp [execOp,hop,Instr.indexAt,Instr.sureAddr,hpk,hyv,asIntOf,hu,hz,hIe.run_size,add_plain]
     ·cases he
    ·cases he
   ·cases he
  ·rename_i e hty
   obtain ⟨te,by_,hu,_,hIe⟩:=Ja5 hT hty w
   split at he
   ·rename_i e' xs hx
    split at he
    ·rename_i hc
     subst hc
     injection he with he; injection he with h1 h2; subst h1; subst h2
     obtain ⟨hz,_⟩:=hps
     rw [hx] at hv
     obtain ⟨tt,cs,⟨rfl,ad,cap,rfl,hcap,hrow⟩,hpk⟩:=hv
     have hlt:z.toNat < List.length xs:=by omega
     rcases hrow with rfl | ⟨b,off,rfl,hok,hrow⟩
     ·simp at hlt
     ·have hpk:a.eval x=.slice (some ⟨b,off,none⟩) (List.length xs) cap:=hpk
      refine ⟨.pointer (some ⟨b,off+z.toNat * e'.size,none⟩),?_,?_⟩
      ·simp [execOp,hop,Instr.indexAt,hpk,hyv,asIntOf,hu,hz,hIe.run_size,add_plain]
      ·have hget:List.getD xs z.toNat e'.zero=xs[z.toNat]:=by rw [List.getD_eq_getElem?_getD,List.getElem?_eq_getElem hlt]; rfl
       obtain ⟨cs,h3,h4⟩:=hrow z.toNat _ (List.getElem?_eq_getElem hlt)
       rw [hget]
       exact ⟨.ptr,_,⟨rfl,b,_,cs,rfl,hok,h3,h4⟩,rfl⟩
    ·cases he
   ·rename_i l p hx
    split at he
    ·rename_i r hr
     split at he
     ·rename_i hc
      subst hc
      injection he with he; injection he with h1 h2; subst h1; subst h2
      obtain ⟨hz,_⟩:=hps
      rw [hx] at hv
      obtain ⟨g,hg,hd,ho,hcase⟩:=Jae hs.toHRG hr hv
      rcases hcase with ⟨_,hnil,_⟩ | ⟨b,off,cs,U,cap,hb,hpk,hcap,hheap,hp,hk,hrep⟩
      ·rw [hnil] at hz; simp at hz; omega
      ·refine ⟨.pointer (some ⟨b,off+z.toNat * r.e.size,none⟩),?_,?_⟩
       ·simp [execOp,hop,Instr.indexAt,hpk,hyv,asIntOf,hu,hz,hIe.run_size,add_plain]
       ·refine ⟨.ptr,_,⟨rfl,g,_,hg,rfl,hk,b,_,r.e,hb,?_,rfl⟩,rfl⟩
        exact POff.snoc hp ⟨_,r.e,0,rfl,by omega,⟨rfl,rfl⟩,by omega⟩
     ·cases he
    ·cases he
   ·cases he
  ·cases he
 ·cases he
def Jlu (T:Tab) (t:Nat) (s i:Slot):Option (List Prop×Slot):=
 match i with
 | .v (.int k) i=>let i:=IK.toInt k i
  match T.ty t,s with
  | some (.arr n e),.v t' x=>if t'=.arr n e then match vget t' x [.idx i.toNat] with
    | .v t2 y=>some ([0≤i∧i < (n:Int)],.v t2 y)
    | _=>none
   else none
  | some .str,.v .str x=>some ([0≤i∧i < (List.length x:Int)],.v (.int .u8) (List.getD x i.toNat 0))
  | _,_=>none
 | _=>none
theorem Jke (hT:J78 P T) {o:Oper} {st:St} {t:Nat} {x y:Operand} {s:Slot} {ps:List Prop} (hop:o.op=.index t x y)
  (he:Jlu T t (opnd st.slots x) (opnd st.slots y)=some (ps,s)) (hps:AllP ps):VOp P o st s st.heap:=by
 unfold Jlu at he
 split at he
 ·rename_i k i hy
  dsimp only at he
  refine VOp.pure fun c G a w hs=>?_
  have hyv:=J6v hs y
  rw [hy] at hyv
  have hyv:=Jci hyv
  have hv:=J6v hs x
  generalize hI:IK.toInt k i=z at *
  split at he
  ·rename_i n e t' q hty hx
   obtain ⟨te,by_,hu,hIe⟩:=Jrg hT hty w
   split at he
   ·rename_i hc
    subst hc
    split at he
    ·rename_i t2 yy hq
     injection he with he; injection he with h1 h2; subst h1; subst h2
     obtain ⟨hz,_⟩:=hps
     rw [hx] at hv
     obtain ⟨tt,cs,⟨rfl,hrep⟩,hpk⟩:=hv
     have hpk:a.eval x=.agg cs.toArray:=hpk
     have hp:POff (.arr n e) [.idx z.toNat] (z.toNat * e.size) e:=⟨n,e,0,rfl,by omega,⟨rfl,rfl⟩,by omega⟩
     have h1:=Jna (G:=G) hrep hp
     rw [hq] at h1
     have hle:=POff.le hp
     have hrun:=hIe.run_part (cs:=cs.toArray) (o:=z.toNat * e.size) (by simp [RepC.len _ hrep]; exact hle) w
     refine ⟨_,?_,TRel.of h1⟩
     simp [execOp,hop,Instr.index,hpk,hyv,asIntOf,hu,hz,hIe.run_size,hrun]
    ·cases he
   ·cases he
  ·rename_i q hty hx
   injection he with he; injection he with h1 h2; subst h1; subst h2
   obtain ⟨hz,_⟩:=hps
   rw [hx] at hv
   have hv:=Jh1 hv
   obtain ⟨by_,hg⟩:=Tab.ty_get hty
   obtain ⟨d,hd,hD⟩:=(hT _ _ _ hg).run_under w
   simp only [J7k] at hD; subst hD
   have hlt:z.toNat < List.length q:=by omega
   have hget:List.getD q z.toNat 0=q[z.toNat]:=by rw [List.getD_eq_getElem?_getD,List.getElem?_eq_getElem hlt]; rfl
   have hb:(⟨List.toArray q⟩:ByteArray)[z.toNat]?=some q[z.toNat]:=by
    have hsz:z.toNat < (⟨List.toArray q⟩:ByteArray).size:=by simpa [ByteArray.size] using hlt
    exact getElem?_pos (⟨List.toArray q⟩:ByteArray) z.toNat hsz
   refine ⟨.int .u8 (UInt8.toNat q[z.toNat]:Nat),?_,?_⟩
   ·simp [execOp,hop,Instr.index,hv,hyv,asIntOf,hd,hz.1,hb]
   ·rw [hget]; exact J7q .u8 q[z.toNat]
  ·cases he
 ·cases he
end Go.Ax

namespace Go.Ax
set_option linter.unusedVariables false
set_option linter.unusedSimpArgs false
theorem Jjp {cs:List Value} {o s:Nat} (h:o+s≤cs.length):splice cs o ((cs.drop o).take s)=cs:=by
 unfold splice
 rw [List.length_take,List.length_drop,Nat.min_eq_left (by omega),List.append_assoc,← List.drop_drop,List.take_append_drop,List.take_append_drop]
def Jqt:Ty→List Step→Option (Nat×Ty)
 | t,[]=>some (0,t)
 | t,.fld k::p=>match t.field k with
  | some (o1,t1)=>match Jqt t1 p with
   | some (o2,t2)=>some (o1+o2,t2)
   | none=>none
  | none=>none
 | _,_=>none
theorem Jmg:∀ {p:List Step} {t:Ty} {o:Nat} {t':Ty},Jqt t p=some (o,t')→POff t p o t'
 | [],t,o,t',h=>by simp only [Jqt,Option.some.injEq,Prod.mk.injEq] at h; exact ⟨h.1.symm,h.2.symm⟩
 | .fld k::p,t,o,t',h=>by
  simp only [Jqt] at h
  split at h
  ·rename_i o1 t1 h1
   split at h
   ·rename_i o2 t2 h2
    injection h with h; injection h with e1 e2; subst e1; subst e2
    exact ⟨o1,t1,o2,h1,Jmg h2,rfl⟩
   ·cases h
  ·cases h
 | .idx i::p,t,o,t',h=>by simp [Jqt] at h
theorem Jr7 (G:List GE) (g:GE):Ext G (G++[g]):=Ext.snoc G g
theorem HRG.freshRow {c:Ctx} {G:List GE} {h:List AObj} {w:World} (hh:HRG c G h w) (e:Ty) :
  HRG c (G++[(⟨.row,none,e,0,0⟩:GE)]) (h++[.row e [] true]) w∧J76 w w (okB c G h w) (okB c (G++[(⟨.row,none,e,0,0⟩:GE)]) (h++[.row e [] true]) w):=
 hh.fresh (o:=.row e [] true) (g:=⟨.row,none,e,0,0⟩) rfl (fun ok'=>⟨rfl,rfl,rfl,Nat.le_refl _,.inl ⟨rfl,rfl⟩⟩)
theorem Jxz {G:List GE} {w:World} {ok:Nat→Prop} (e:Ty) {l:Nat} (hl:G.length=l):J6y (G++[(⟨.row,none,e,0,0⟩:GE)]) w ok (.own l []) (.slice e) [.slice none 0 0]:=by
 refine ⟨⟨.row,none,e,0,0⟩,_,?_,rfl,.inl ⟨rfl,rfl,rfl,rfl⟩⟩
 rw [← hl]; simp
theorem J6x.promote {m:Nat} {h:List AObj} (e:Ty):J6x m .nil h (.own h.length []) (h++[.row e [] true]):=by
 intro c G w v hh hv
 obtain ⟨h1,k⟩:=hh.freshRow e
 refine ⟨_,h1,?_,fun l g _ hg=>Jr7 G _ _ _ hg⟩
 obtain ⟨t,cs,⟨⟨e',rfl⟩,rfl⟩,rfl⟩:=hv
 exact ⟨.slice e,_,Jxz e hh.len,rfl⟩
def promoteObj (h:List AObj) (l:Nat) (p:List Step):Option (List AObj):=
 match h[l]? with
 | some (.box t s true)=>match s.get p,Jqt t p with
  | .nil,some (_,.slice e)=>some ((h++[AObj.row e [] true]).set l (.box t (s.set p (.own h.length [])) true))
  | _,_=>none
 | _=>none
theorem HRG.promoteObj {c:Ctx} {G:List GE} {h h':List AObj} {w:World} {l:Nat} {p:List Step} (hh:HRG c G h w) (hp:promoteObj h l p=some h') :
  ∃ G',HRG c G' h' w∧Ext G G'∧J76 w w (okB c G h w) (okB c G' h' w):=by
 unfold Ax.promoteObj at hp
 split at hp
 ·rename_i t s hl
  split at hp
  ·rename_i o e hn ho
   injection hp with hp; subst hp
   obtain ⟨h1,k⟩:=hh.freshRow e
   have hpo:=Jmg ho
   have hll:l < h.length:=by
    rcases Nat.lt_or_ge l h.length with x | x
    ·exact x
    ·rw [List.getElem?_eq_none x] at hl; cases hl
   have hl1:(h++[AObj.row e [] true])[l]?=some (.box t s true):=by rw [List.getElem?_append_left hll]; exact hl
   have hgl:G[l]?=some (G[l]'(by rw [hh.len]; exact hll)):=List.getElem?_eq_getElem _
   generalize G[l]'(by rw [hh.len]; exact hll)=g at hgl
   have hg1:(G++[(⟨.row,none,e,0,0⟩:GE)])[l]?=some g:=Jr7 G _ _ _ hgl
   obtain ⟨hk,hty,b,cs,U,hb,hheap,hrel⟩:=h1.objs l _ g hl1 hg1
   have hle:=POff.le hpo
   have hlen:=J6y.len _ hrel
   have hget:=Slot.get_ok hrel hpo
   rw [hn] at hget
   have hnew:=Jxz (w:=w) (ok:=okB c (G++[(⟨.row,none,e,0,0⟩:GE)]) (h++[.row e [] true]) w) e hh.len
   rw [← hget.2] at hnew
   have hset:=Slot.set_ok hrel hpo hnew
   rw [Jjp (by rw [hlen]; exact hle)] at hset
   obtain ⟨h2,hok,k2⟩:=h1.wrote (w':=w) (b:=b) (cs:=cs) (U:=U) (o':=.box t (s.set p (.own h.length [])) true) hl1 hg1 rfl hb ⟨hheap,fun _ _=>rfl,rfl,rfl,rfl,rfl⟩ rfl rfl (fun _=>⟨hk,hty,b,cs,U,hb,hheap,hset⟩)
   refine ⟨_,h2,Jr7 G _,?_⟩
   rw [hok]; exact k
  ·cases hp
 ·cases hp
theorem Weak.promoteObj {st:St} {l:Nat} {p:List Step} {h':List AObj} (hp:Ax.promoteObj st.heap l p=some h'):Weak st { st with heap:=h' }:=by
 rintro c a w ⟨G,hr⟩
 obtain ⟨G',h1,hx,k⟩:=hr.toHRG.promoteObj hp
 exact ⟨G',hr.on h1 hx k⟩
theorem Weak.freeze {st:St} (ids:List Nat):Weak st { st with heap:=freezeIds st.heap ids }:=by
 rintro c a w ⟨G,hr⟩
 obtain ⟨h1,k⟩:=hr.toHRG.freezeIds ids
 exact ⟨G,hr.on h1 (Ext.refl G) k⟩
theorem J6x.freeze {m:Nat} {r:Slot} {h:List AObj} (ids:List Nat):J6x m r h r (freezeIds h ids):=by
 intro c G w v hh hv
 obtain ⟨h1,k⟩:=hh.freezeIds ids
 exact ⟨G,h1,TRel.mono (Ext.refl G) k _ hv,fun l g _ hg=>hg⟩
theorem J6x.promoteObj {m:Nat} {r:Slot} {h h':List AObj} {l:Nat} {p:List Step} (hp:Ax.promoteObj h l p=some h'):J6x m r h r h':=by
 intro c G w v hh hv
 obtain ⟨G',h1,hx,k⟩:=hh.promoteObj hp
 exact ⟨G',h1,TRel.mono hx k _ hv,fun l g _ hg=>hx _ _ hg⟩
def valObj (h:List AObj) (l:Nat) (p:List Step):Option (List AObj):=
 match h[l]? with
 | some (.box t s true)=>match Jqt t p with
  | some (_,t')=>match J7o h t' (s.get p),J7h (s.get p).ids l with
   | some x,false=>some ((freezeIds h (s.get p).ids).set l (.box t (s.set p (.v t' x)) true))
   | _,_=>none
  | none=>none
 | _=>none
theorem HRG.valObj {c:Ctx} {G:List GE} {h h':List AObj} {w:World} {l:Nat} {p:List Step} (hh:HRG c G h w) (hp:valObj h l p=some h') :
  HRG c G h' w∧J76 w w (okB c G h w) (okB c G h' w):=by
 unfold Ax.valObj at hp
 split at hp
 ·rename_i t s hl
  split at hp
  ·rename_i o t' ho
   split at hp
   ·rename_i x hx hn
    injection hp with hp; subst hp
    obtain ⟨h1,k⟩:=hh.freezeIds (s.get p).ids
    have hpo:=Jmg ho
    have hll:l < h.length:=by
     rcases Nat.lt_or_ge l h.length with x | x
     ·exact x
     ·rw [List.getElem?_eq_none x] at hl; cases hl
    have hl1:(Ax.freezeIds h (s.get p).ids)[l]?=some (.box t s true):=by
     rw [J95,hl]
     simp [hn]
    have hgl:G[l]?=some (G[l]'(by rw [hh.len]; exact hll)):=List.getElem?_eq_getElem _
    generalize G[l]'(by rw [hh.len]; exact hll)=g at hgl
    obtain ⟨hk,hty,b,cs,U,hb,hheap,hrel⟩:=hh.objs l _ g hl hgl
    obtain ⟨_,_,b2,cs2,U2,hb2,hheap2,hrel2⟩:=h1.objs l _ g hl1 hgl
    rw [hb] at hb2; injection hb2 with hb2; subst hb2
    rw [hheap] at hheap2; injection hheap2 with hheap2; injection hheap2 with e1 e2; subst e1
    have hle:=POff.le hpo
    have hlen:=J6y.len _ hrel
    have hget:=Slot.get_ok hrel hpo
    have hrep:=(Jcm hh t' (s.get p) (fun _ h=>h) hx hget).1
    have hnew:J6y G w (okB c G (Ax.freezeIds h (s.get p).ids) w) (.v t' x) t' ((cs.toList.drop o).take t'.size):=⟨rfl,hrep⟩
    have hset:=Slot.set_ok hrel2 hpo hnew
    rw [Jjp (by rw [hlen]; exact hle)] at hset
    obtain ⟨h2,hok,k2⟩:=h1.wrote (w':=w) (b:=b) (cs:=cs) (U:=U) (o':=.box t (s.set p (.v t' x)) true) hl1 hgl rfl hb ⟨hheap,fun _ _=>rfl,rfl,rfl,rfl,rfl⟩ rfl rfl (fun _=>⟨hk,hty,b,cs,U,hb,hheap,hset⟩)
    refine ⟨h2,?_⟩
    rw [hok]; exact k
   ·cases hp
  ·cases hp
 ·cases hp
theorem Weak.valObj {st:St} {l:Nat} {p:List Step} {h':List AObj} (hp:Ax.valObj st.heap l p=some h'):Weak st { st with heap:=h' }:=by
 rintro c a w ⟨G,hr⟩
 obtain ⟨h1,k⟩:=hr.toHRG.valObj hp
 exact ⟨G,hr.on h1 (Ext.refl G) k⟩
theorem J6x.valObj {m:Nat} {r:Slot} {h h':List AObj} {l:Nat} {p:List Step} (hp:Ax.valObj h l p=some h'):J6x m r h r h':=by
 intro c G w v hh hv
 obtain ⟨h1,k⟩:=hh.valObj hp
 exact ⟨G,h1,TRel.mono (Ext.refl G) k _ hv,fun l g _ hg=>hg⟩
def killIds:List AObj→List Nat→List AObj
 | h,[]=>h
 | h,l::r=>killIds (h.set l .dead) r
theorem HRG.killIds {c:Ctx} {G:List GE} {w:World}:∀ {ids:List Nat} {h:List AObj},HRG c G h w→HRG c G (Ax.killIds h ids) w∧J76 w w (okB c G h w) (okB c G (Ax.killIds h ids) w)
 | [],h,hh=>⟨hh,fun _ h=>h,fun _ _ _ _ h=>h⟩
 | l::r,h,hh=>by
  obtain ⟨h1,k1⟩:=hh.shrink (h':=h.set l .dead) (by simp) fun k x x' hx hx'=>by
   rw [List.getElem?_set] at hx'
   split at hx'
   ·split at hx'
    ·injection hx' with hx'; exact .inr (.inr hx'.symm)
    ·cases hx'
   ·rw [hx] at hx'; injection hx' with hx'; exact .inl hx'.symm
  obtain ⟨h2,k2⟩:=HRG.killIds (ids:=r) h1
  exact ⟨h2,fun b hb=>k2.sub b (k1.sub b hb),fun b o v hb hv=>k2.cell b o v (k1.sub b hb) (k1.cell b o v hb hv)⟩
theorem Weak.kill {st:St} (ids:List Nat):Weak st { st with heap:=killIds st.heap ids }:=by
 rintro c a w ⟨G,hr⟩
 obtain ⟨h1,k⟩:=hr.toHRG.killIds (ids:=ids)
 exact ⟨G,hr.on h1 (Ext.refl G) k⟩
theorem J6x.kill {m:Nat} {r:Slot} {h:List AObj} (ids:List Nat):J6x m r h r (killIds h ids):=by
 intro c G w v hh hv
 obtain ⟨h1,k⟩:=hh.killIds (ids:=ids)
 exact ⟨G,h1,TRel.mono (Ext.refl G) k _ hv,fun l g _ hg=>hg⟩
def Jbe (n l k:Nat):Nat:=bif Nat.beq k l then n else k
def moveObj (h:List AObj) (l:Nat):Option (List AObj):=
 match J6q h l with
 | .row e xs lv=>some ((h.map (AObj.ren (Jbe h.length l))).set l .dead++[.row e xs lv])
 | _=>none
def Jct (n l:Nat) (ss:List (Nat×Slot)):List (Nat×Slot):=ss.map fun p=>(p.1,p.2.ren (Jbe n l))
theorem Jor (n l:Nat):∀ (ss:List (Nat×Slot)) (j:Nat),look (Jct n l ss) j=(look ss j).ren (Jbe n l)
 | [],j=>rfl
 | p::r,j=>by
  show (bif Nat.beq p.1 j then p.2.ren (Jbe n l) else look (Jct n l r) j)=_
  rw [Jor n l r j]
  show _=(bif Nat.beq p.1 j then p.2 else look r j).ren (Jbe n l)
  cases Nat.beq p.1 j <;> rfl
theorem Jeb (n l:Nat):Jbe n l l=n:=by unfold Jbe; rw [Nat.beq_refl]; rfl
theorem Jix {n l k:Nat} (h:k≠l):Jbe n l k=k:=by
 unfold Jbe
 cases hb:Nat.beq k l with
 | true=>exact absurd (Nat.eq_of_beq_eq_true hb) h
 | false=>rfl
theorem Jg8 {G:List GE} {n l:Nat} {g0:GE} (hn:G.length=n) (hg:G[l]?=some g0) (ids:List Nat):Jcj G (G++[g0]) (Jbe n l) ids:=by
 intro k _ g hk
 by_cases e:k=l
 ·subst e
  rw [Jeb,List.getElem?_append_right (by omega),hn,Nat.sub_self,← hk,hg]; rfl
 ·rw [Jix e,List.getElem?_append_left (List.getElem?_eq_some_iff.1 hk).1]
  exact hk
theorem HRG.moveObj {c:Ctx} {G:List GE} {h h':List AObj} {w:World} {l:Nat} (hh:HRG c G h w) (hm:Ax.moveObj h l=some h') :
  ∃ g0,G[l]?=some g0∧HRG c (G++[g0]) h' w∧okB c (G++[g0]) h' w=okB c G h w:=by
 unfold Ax.moveObj at hm
 split at hm
 ·rename_i e xs lv ho
  injection hm with hm; subst hm
  have hl:h[l]?=some (.row e xs lv):=by
   unfold J6q at ho
   rw [List.getD_eq_getElem?_getD] at ho
   cases hx:h[l]? with
   | none=>rw [hx] at ho; cases ho
   | some o=>rw [hx] at ho; simp only [Option.getD_some] at ho; rw [ho]
  have hlt:l < h.length:=(List.getElem?_eq_some_iff.1 hl).1
  have hlen:=hh.len
  obtain ⟨g0,hg0⟩:∃ g0,G[l]?=some g0:=⟨_,List.getElem?_eq_getElem (by omega)⟩
  refine ⟨g0,hg0,?_⟩
  generalize hf:Jbe h.length l=f
  have T:∀ ids,Jcj G (G++[g0]) f ids:=fun ids=>hf ▸ Jg8 hlen hg0 ids
  -- where an object came from
  have from_:∀ (k:Nat) (o':AObj) (g':GE),((h.map (AObj.ren f)).set l .dead++[.row e xs lv])[k]?=some o'→(G++[g0])[k]?=some g'→
    o'=.dead∨∃ k0 o0,h[k0]?=some o0∧G[k0]?=some g'∧o'=o0.ren f∧k=f k0:=by
   intro k o' g' h1 h2
   rcases Nat.lt_trichotomy k h.length with q | q | q
   ·rw [List.getElem?_append_left (by simpa using q)] at h1
    rw [List.getElem?_append_left (by omega)] at h2
    rw [List.getElem?_set] at h1
    split at h1
    ·rename_i q2; rw [if_pos (by simpa [q2] using q)] at h1; injection h1 with h1; exact .inl h1.symm
    ·rename_i q2
     rw [List.getElem?_map] at h1
     cases hx:h[k]? with
     | none=>rw [hx] at h1; cases h1
     | some o0=>
      rw [hx] at h1; injection h1 with h1
      refine .inr ⟨k,o0,hx,h2,h1.symm,?_⟩
      rw [← hf,Jix (Ne.symm q2)]
   ·subst q
    rw [List.getElem?_append_right (by simp)] at h1
    rw [List.getElem?_append_right (by omega),hlen] at h2
    simp at h1 h2
    refine .inr ⟨l,_,hl,by rw [hg0,h2],by rw [← h1]; rfl,?_⟩
    rw [← hf,Jeb]
   ·rw [List.getElem?_eq_none (by simp; omega)] at h1; cases h1
  -- and where it is now
  have to_:∀ (k0:Nat) (o0:AObj) (g:GE),h[k0]?=some o0→G[k0]?=some g→((h.map (AObj.ren f)).set l .dead++[.row e xs lv])[f k0]?=some (o0.ren f)∧(G++[g0])[f k0]?=some g:=by
   intro k0 o0 g h1 h2
   refine ⟨?_,T [k0] k0 (by simp) g h2⟩
   have hk:k0 < h.length:=(List.getElem?_eq_some_iff.1 h1).1
   by_cases q:k0=l
   ·subst q
    have e1:f k0=h.length:=by rw [← hf,Jeb]
    rw [e1,List.getElem?_append_right (by simp)]
    rw [hl] at h1; injection h1 with h1; subst h1
    simp; rfl
   ·have e1:f k0=k0:=by rw [← hf,Jix q]
    rw [e1,List.getElem?_append_left (by simpa using hk),List.getElem?_set,if_neg (Ne.symm q),List.getElem?_map,h1]
    rfl
  have own:∀ b,Jch (G++[g0]) ((h.map (AObj.ren f)).set l .dead++[.row e xs lv]) b↔Jch G h b:=by
   intro b
   constructor
   ·rintro ⟨k,o',g',h1,h2,h3,h4⟩
    rcases from_ k o' g' h1 h2 with rfl | ⟨k0,o0,q1,q2,rfl,q3⟩
    ·cases h3
    ·exact ⟨k0,o0,g',q1,q2,by rw [AObj.live_ren] at h3; exact h3,h4⟩
   ·rintro ⟨k,o,g,h1,h2,h3,h4⟩
    obtain ⟨q1,q2⟩:=to_ k o g h1 h2
    exact ⟨f k,_,g,q1,q2,by rw [AObj.live_ren]; exact h3,h4⟩
  have hok:okB c (G++[g0]) ((h.map (AObj.ren f)).set l .dead++[.row e xs lv]) w=okB c G h w:=by
   funext b; unfold okB; rw [own b]
  refine ⟨?_,hok⟩
  refine { EA:=hh.EA,len:=by simp [hlen],inj:=?_,inE:=?_,inL:=fun b hb=>hh.inL b ((own b).1 hb),frame:=hh.frame,big:=hh.big,os:=hh.os,tape:=hh.tape,output:=hh.output,objs:=?_ }
  ·intro k1 k2 g1 g2 o1 o2 b e1 e2 e3 e4 d1 d2 b1 b2
   rcases from_ k1 o1 g1 e3 e1 with rfl | ⟨j1,p1,q1,q2,rfl,q3⟩
   ·cases d1
   ·rcases from_ k2 o2 g2 e4 e2 with rfl | ⟨j2,p2,r1,r2,rfl,r3⟩
    ·cases d2
    ·rw [AObj.isDead_ren] at d1 d2
     rw [q3,r3,hh.inj j1 j2 g1 g2 p1 p2 b q2 r2 q1 r1 d1 d2 b1 b2]
  ·intro k o g b e1 e2 d1 b1
   rcases from_ k o g e1 e2 with rfl | ⟨j1,p1,q1,q2,rfl,q3⟩
   ·cases d1
   ·rw [AObj.isDead_ren] at d1
    exact hh.inE j1 p1 g b q1 q2 d1 b1
  ·intro k o g e1 e2
   rcases from_ k o g e1 e2 with rfl | ⟨j1,p1,q1,q2,rfl,q3⟩
   ·trivial
   ·rw [hok]; exact ORel.ren p1 (T _) (hh.objs j1 p1 g q1 q2)
 ·cases hm
theorem Weak.move {st:St} {l:Nat} {h':List AObj} (hm:moveObj st.heap l=some h'):Weak st { st with slots:=Jct st.heap.length l st.slots,heap:=h' }:=by
 rintro c a w ⟨G,hr⟩
 obtain ⟨g0,hg,h1,hok⟩:=hr.toHRG.moveObj hm
 refine ⟨G++[g0],h1,fun j=>?_,fun k g hk=>Ext.snoc _ _ k g (hr.ent k g hk),hr.em,hr.sz,hr.nodef⟩
 show TRel _ _ (okB c (G++[g0]) h' w) (look (Jct st.heap.length l st.slots) j) _
 rw [Jor,hok]
 exact TRel.ren _ (Jg8 hr.len hg _) (hr.slots j)
theorem J6x.move {m:Nat} {r:Slot} {h h':List AObj} {l:Nat} (hm:moveObj h l=some h'):J6x m r h (r.ren (Jbe h.length l)) h':=by
 intro c G w v hh hv
 obtain ⟨g0,hg,h1,hok⟩:=hh.moveObj hm
 exact ⟨G++[g0],h1,by rw [hok]; exact TRel.ren _ (Jg8 hh.len hg _) hv,fun k g _ hk=>Ext.snoc _ _ k g hk⟩
end Go.Ax

namespace Go.Ax
set_option linter.unusedVariables false
set_option linter.unusedSimpArgs false
variable {P : Program} {T : Tab}
def un (op:UnOp) (s:Slot):Option Slot:=
 match op,s with
 | .not,.v .bool b=>some (.v .bool (!b))
 | .neg,.v (.int .i64) n=>some (.v (.int .i64) (w64 (0 - n)))
 | .xor,.v (.int .u8) n=>some (.v (.int .u8) (~~~n))
 | .xor,.v (.int .u32) n=>some (.v (.int .u32) (~~~n))
 | .xor,.v (.int .u64) n=>some (.v (.int .u64) (~~~n))
 | _,_=>none
theorem un_ok {o:Oper} {st:St} {op:UnOp} {t:Nat} {x:Operand} {s:Slot} (hop:o.op=.unOp op t x) (he:un op (opnd st.slots x)=some s):VOp P o st s st.heap:=by
 refine VOp.pure fun c G a w hs=>?_
 have hv:=J6v hs x
 unfold un at he
 split at he <;> first | (cases he; done) | (injection he with he; subst he; rename_i n hx; rw [hx] at hv)
 ·exact ⟨_,by simp [execOp,hop,Jhr hv,Op.unary],J9d _⟩
 ·exact ⟨_,by simp [execOp,hop,Jci hv,Op.unary,Op.intArith]; rfl,J7q .i64 _⟩
 ·have hv:=Jci hv
  have e:IntKind.u8.wrap ((BitVec.ofInt 8 (255:Int) ^^^ BitVec.ofInt 8 (UInt8.toNat n:Int)).toNat)=((~~~n:UInt8).toNat:Int):=by
   rw [← Jzh (~~~n)]; congr 2
   rw [Jj5,show BitVec.ofInt 8 (255:Int)=BitVec.allOnes 8 by decide,BitVec.allOnes_xor]; rfl
  refine ⟨.int .u8 (IntKind.u8.wrap ((BitVec.ofInt 8 (255:Int) ^^^ BitVec.ofInt 8 (UInt8.toNat n:Int)).toNat)),?_,by rw [e]; exact J7q .u8 _⟩
  simp only [execOp,hop,hv]; rfl
 ·have hv:=Jci hv
  have e:IntKind.u32.wrap ((BitVec.ofInt 32 (4294967295:Int) ^^^ BitVec.ofInt 32 (UInt32.toNat n:Int)).toNat)=((~~~n:UInt32).toNat:Int):=by
   rw [← wrap32 (~~~n)]; congr 2
   rw [ofInt32,show BitVec.ofInt 32 (4294967295:Int)=BitVec.allOnes 32 by decide,BitVec.allOnes_xor]; rfl
  refine ⟨.int .u32 (IntKind.u32.wrap ((BitVec.ofInt 32 (4294967295:Int) ^^^ BitVec.ofInt 32 (UInt32.toNat n:Int)).toNat)),?_,by rw [e]; exact J7q .u32 _⟩
  simp only [execOp,hop,hv]; rfl
 ·have hv:=Jci hv
  have e:IntKind.u64.wrap ((BitVec.ofInt 64 (18446744073709551615:Int) ^^^ BitVec.ofInt 64 (UInt64.toNat n:Int)).toNat)=((~~~n:UInt64).toNat:Int):=by
   rw [← wrap64 (~~~n)]; congr 2
   rw [Jec,show BitVec.ofInt 64 (18446744073709551615:Int)=BitVec.allOnes 64 by decide,BitVec.allOnes_xor]; rfl
  refine ⟨.int .u64 (IntKind.u64.wrap ((BitVec.ofInt 64 (18446744073709551615:Int) ^^^ BitVec.ofInt 64 (UInt64.toNat n:Int)).toNat)),?_,by rw [e]; exact J7q .u64 _⟩
  simp only [execOp,hop,hv]; rfl
def K2s:(k k':IntKind)→IK k→Option Slot
 | .i64,.i64,x=>some (.v (.int .i64) (w64 x))
 | .i64,.u8,x=>some (.v (.int .u8) (UInt8.ofNat (Int.toNat (x % 256))))
 | .i64,.u32,x=>some (.v (.int .u32) (UInt32.ofNat (Int.toNat (x % 4294967296))))
 | .i64,.u64,x=>some (.v (.int .u64) (UInt64.ofNat (Int.toNat (x % 18446744073709551616))))
 | .u8,.i64,x=>some (.v (.int .i64) (UInt8.toNat x:Int))
 | .u8,.u8,x=>some (.v (.int .u8) x)
 | .u8,.u32,x=>some (.v (.int .u32) (UInt32.ofNat (UInt8.toNat x)))
 | .u8,.u64,x=>some (.v (.int .u64) (UInt64.ofNat (UInt8.toNat x)))
 | .u32,.u8,x=>some (.v (.int .u8) (UInt8.ofNat (UInt32.toNat x)))
 | .u32,.i64,x=>some (.v (.int .i64) (UInt32.toNat x:Int))
 | .u32,.u32,x=>some (.v (.int .u32) x)
 | .u64,.u8,x=>some (.v (.int .u8) (UInt8.ofNat (UInt64.toNat x)))
 | .u64,.i64,x=>some (.v (.int .i64) (w64 (UInt64.toNat x:Int)))
 | .u64,.u64,x=>some (.v (.int .u64) x)
 | _,_,_=>none
theorem Jzy {k k':IntKind} {x:IK k} {s:Slot} (h:K2s k k' x=some s) {G:List GE} {w:World} {ok:Nat→Prop}:TRel G w ok s (.int k' (k'.wrap (IK.toInt k x))):=by
 unfold K2s at h
 split at h <;> first | (cases h; done) | (injection h with h; subst h)
 ·exact J7q .i64 _
 ·rename_i x
  have:IntKind.u8.wrap x=((UInt8.ofNat (Int.toNat (x % 256))).toNat:Int):=by rw [IntKind.wrap_u8',UInt8.toNat_ofNat']; omega
  show TRel _ _ _ _ (.int .u8 (IntKind.u8.wrap x)); rw [this]; exact J7q .u8 _
 ·rename_i x
  have:IntKind.u32.wrap x=((UInt32.ofNat (Int.toNat (x % 4294967296))).toNat:Int):=by rw [IntKind.wrap_u32',UInt32.toNat_ofNat']; omega
  show TRel _ _ _ _ (.int .u32 (IntKind.u32.wrap x)); rw [this]; exact J7q .u32 _
 ·rename_i x
  have:IntKind.u64.wrap x=((UInt64.ofNat (Int.toNat (x % 18446744073709551616))).toNat:Int):=by rw [Jej,UInt64.toNat_ofNat']; omega
  show TRel _ _ _ _ (.int .u64 (IntKind.u64.wrap x)); rw [this]; exact J7q .u64 _
 ·rename_i x
  have hx:=UInt8.toNat_lt x
  have:IntKind.i64.wrap (UInt8.toNat x:Int)=(UInt8.toNat x:Int):=J6k (by omega) (by omega)
  show TRel _ _ _ _ (.int .i64 (IntKind.i64.wrap (UInt8.toNat x:Int))); rw [this]; exact J7q .i64 _
 ·rename_i x
  show TRel _ _ _ _ (.int .u8 (IntKind.u8.wrap (UInt8.toNat x:Int))); rw [Jzh]; exact J7q .u8 _
 ·rename_i x
  have hx:=UInt8.toNat_lt x
  have:IntKind.u32.wrap (UInt8.toNat x:Int)=((UInt32.ofNat (UInt8.toNat x)).toNat:Int):=by rw [IntKind.wrap_u32',UInt32.toNat_ofNat']; omega
  show TRel _ _ _ _ (.int .u32 (IntKind.u32.wrap (UInt8.toNat x:Int))); rw [this]; exact J7q .u32 _
 ·rename_i x
  have hx:=UInt8.toNat_lt x
  have:IntKind.u64.wrap (UInt8.toNat x:Int)=((UInt64.ofNat (UInt8.toNat x)).toNat:Int):=by rw [Jej,UInt64.toNat_ofNat']; omega
  show TRel _ _ _ _ (.int .u64 (IntKind.u64.wrap (UInt8.toNat x:Int))); rw [this]; exact J7q .u64 _
 ·rename_i x
  have hx:=UInt32.toNat_lt x
  have:IntKind.u8.wrap (UInt32.toNat x:Int)=((UInt8.ofNat (UInt32.toNat x)).toNat:Int):=by rw [IntKind.wrap_u8',UInt8.toNat_ofNat']; omega
  show TRel _ _ _ _ (.int .u8 (IntKind.u8.wrap (UInt32.toNat x:Int))); rw [this]; exact J7q .u8 _
 ·rename_i x
  have hx:=UInt32.toNat_lt x
  have:IntKind.i64.wrap (UInt32.toNat x:Int)=(UInt32.toNat x:Int):=J6k (by omega) (by omega)
  show TRel _ _ _ _ (.int .i64 (IntKind.i64.wrap (UInt32.toNat x:Int))); rw [this]; exact J7q .i64 _
 ·rename_i x
  show TRel _ _ _ _ (.int .u32 (IntKind.u32.wrap (UInt32.toNat x:Int))); rw [wrap32]; exact J7q .u32 _
 ·rename_i x
  have hx:=UInt64.toNat_lt x
  have:IntKind.u8.wrap (UInt64.toNat x:Int)=((UInt8.ofNat (UInt64.toNat x)).toNat:Int):=by rw [IntKind.wrap_u8',UInt8.toNat_ofNat']; omega
  show TRel _ _ _ _ (.int .u8 (IntKind.u8.wrap (UInt64.toNat x:Int))); rw [this]; exact J7q .u8 _
 ·exact J7q .i64 _
 ·rename_i x
  show TRel _ _ _ _ (.int .u64 (IntKind.u64.wrap (UInt64.toNat x:Int))); rw [wrap64]; exact J7q .u64 _
theorem HRG.junk {c : Ctx} {G : List GE} {h : List AObj} {w w' : World} (hh : HRG c G h w) (hold : ∀ b, b < w.heap.size → w'.heap[b]? = w.heap[b]?) (hsz : w.heap.size ≤ w'.heap.size)
    (h1 : w'.os = w.os) (h2 : w'.tape = w.tape) (h3 : w'.output = w.output) :
    HRG c G h w' ∧ J76 w w' (okB c G h w) (okB c G h w') ∧ ∀ b, w.heap.size ≤ b → b < w'.heap.size → okB c G h w' b := by
  have k : J76 w w' (okB c G h w) (okB c G h w') := ⟨fun b hb => ⟨by have := hb.1; omega, hb.2.1, hb.2.2⟩, fun b o v hb hv => by rw [cell?_of_heap (hold b hb.1)]; exact hv⟩
  refine ⟨?_, k, fun b hb1 hb2 => ⟨hb2, fun h => ?_, ?_⟩⟩
  · refine { EA := hh.EA, len := hh.len, inj := hh.inj, inE := fun l o g b a1 a2 a3 a4 => ?_, inL := hh.inL, frame := fun b x y => ?_, big := Nat.le_trans hh.big hsz, os := h1.trans hh.os,
             tape := h2.trans hh.tape, output := h3.trans hh.output, objs := fun l o g a1 a2 => ?_ }
    · obtain ⟨x, y⟩ := hh.inE l o g b a1 a2 a3 a4; exact ⟨by omega, y⟩
    · rw [hold b (Nat.lt_of_lt_of_le x hh.big)]; exact hh.frame b x y
    · cases hd : o.isDead with
      | true => cases o <;> simp [AObj.isDead] at hd; trivial
      | false => exact ORel.mono (Ext.refl G) k (fun b hb => hold b (hh.inE l o g b a1 a2 hd hb).1) o (hh.objs l o g a1 a2)
  · have := hh.big; omega
  · rintro ⟨l, o, g, e1, e2, e3, e4⟩
    have := (hh.inE l o g b e1 e2 (Jby e3) e4).1; omega
def Jrb:Slot→Nat→Option Slot
 | .tup a _,0=>some a
 | .tup _ r,k+1=>Jrb r k
 | _,_=>none
theorem Jtf {G:List GE} {w:World} {ok:Nat→Prop}:∀ {s:Slot} {k:Nat} {u:Slot} {vs:List Value},Jrb s k=some u→LRel G w ok s vs→∃ v,vs[k]?=some v∧TRel G w ok u v
 | .tup a r,0,u,_,h,hl=>by
  obtain ⟨v,vs',rfl,⟨t,cs,h1,rfl⟩,_⟩:=hl
  injection h with h; subst h
  exact ⟨_,rfl,TRel.of h1⟩
 | .tup a r,k+1,u,_,h,hl=>by
  obtain ⟨v,vs',rfl,_,h3⟩:=hl
  have h':Jrb r k=some u:=h
  obtain ⟨v',e1,e2⟩:=Jtf h' h3
  exact ⟨v',by simpa using e1,e2⟩
 | .undef,_,_,_,h,_=>by cases h
 | .v _ _,_,_,_,h,_=>by cases h
 | .nil,_,_,_,h,_=>by cases h
 | .nilp,_,_,_,h,_=>by cases h
 | .own _ _,_,_,_,h,_=>by cases h
 | .ptr _ _,_,_,_,h,_=>by cases h
 | .ref _ _,_,_,_,h,_=>by cases h
 | .fn _ _,_,_,_,h,_=>by cases h
 | .mp _,_,_,_,h,_=>by cases h
 | .anyb,_,_,_,h,_=>by cases h
 | .node _ _,_,_,_,h,_=>by cases h
 | .tnil,_,_,_,h,_=>by cases h
theorem Jkj {o:Oper} {st:St} {x:Operand} {k:Nat} {s:Slot} (hop:o.op=.extract x k) (he:Jrb (opnd st.slots x) k=some s):VOp P o st s st.heap:=by
 refine VOp.pure fun c G a w hs=>?_
 have hv:=J6v hs x
 generalize opnd st.slots x=u at *
 cases u with
 | tup a r=>
  obtain ⟨vs,hvs,hl⟩:=hv
  obtain ⟨v,h1,h2⟩:=Jtf he hl
  refine ⟨v,?_,h2⟩
  simp [execOp,hop,hvs,Instr.extract,h1]
 | _=>simp [Jrb] at he
def tups:List Slot→Slot
 | []=>.tnil
 | s::r=>.tup s (tups r)
def Kv:Slot→Bool
 | .tup _ _=>true
 | .tnil=>true
 | _=>false
theorem Jzb {G:List GE} {w:World} {ok:Nat→Prop} {s:Slot} {v:Value} (hs:Kv s=false) (h:TRel G w ok s v):∃ t cs,J6y G w ok s t cs∧v=pack t cs:=by
  cases s <;> first
    | exact h
    | (cases hs; done)
    | (cases v with
       | agg cs=>exact ⟨.arr cs.size .bool,cs.toList,by simp [J6y,Ty.size],by simp [pack,Ty.isAgg]⟩
       | _=>exact ⟨.bool,[_],rfl,rfl⟩)
theorem Jn9 {G:List GE} {w:World} {ok:Nat→Prop}:∀ {l:List Slot} {vs:List Value},l.all (fun s=>!Kv s)=true→ARel G w ok l vs→LRel G w ok (tups l) vs
 | [],vs,_,h=>List.eq_nil_of_length_eq_zero h.1.symm
 | s::r,[],_,h=>by have:=h.1; simp at this
 | s::r,v::vs,hn,h=>by
  simp only [List.all_cons,Bool.and_eq_true,Bool.not_eq_true'] at hn
  exact ⟨v,vs,rfl,Jzb hn.1 (h.2 0 s v rfl rfl),Jn9 hn.2 ⟨by have:=h.1; simpa using this,fun i s' v' h1 h2=>h.2 (i+1) s' v' (by simpa using h1) (by simpa using h2)⟩⟩
def Jde (ss:List (Nat×Slot)) (f:Fn) (first cap:Array Operand):Option Slot:=
 match f,first.toList with
 | .func f,[]=>if (cap.toList.map (opnd ss)).all (fun s=>!Kv s) then some (.fn f (tups (cap.toList.map (opnd ss)))) else none
 | _,_=>none
theorem Jis {o:Oper} {st:St} {f:Fn} {first cap:Array Operand} {s:Slot} (hop:o.op=.makeFunc f first cap) (he:Jde st.slots f first cap=some s):VOp P o st s st.heap:=by
 refine VOp.pure fun c G a w hs=>?_
 unfold Jde at he
 split at he
 ·rename_i f hfirst
  have hf:first=#[]:=by apply Array.toList_inj.1; rw [hfirst]
  subst hf
  split at he
  ·rename_i hall
   injection he with he; subst he
   have:ARel G w (okB c G st.heap w) (cap.toList.map (opnd st.slots)) (cap.toList.map a.eval):=by
    refine ⟨by simp,fun i s v h1 h2=>?_⟩
    rw [List.getElem?_map] at h1 h2
    cases hx:cap.toList[i]? with
    | none=>rw [hx] at h1; cases h1
    | some x=>rw [hx] at h1 h2; injection h1 with h1; injection h2 with h2; subst h1; subst h2; exact J6v hs x
   refine ⟨.func (.func f) #[] (cap.map a.eval),by simp [execOp,hop,Instr.makeFunc],⟨.fn,_,⟨rfl,cap.toList.map a.eval,rfl,Jn9 hall this⟩,?_⟩⟩
   simp only [pack,Ty.isAgg,List.headD,Bool.false_eq_true,if_false]
   congr 1
   apply Array.toList_inj.1; simp
  ·cases he
 ·cases he
def K2y (T:Tab) (h:List AObj) (t:Nat) (s:Slot):Option (Slot×List AObj):=
 match T.ty t with
 | none=>none
 | some ty=>if fits h s ty then some (.ptr h.length [],h++[.box ty s true]) else none
theorem K9 (hT:J78 P T) {o:Oper} {st:St} {t:Nat} {x:Operand} {s:Slot} {h':List AObj} (hop:o.op=.box t x)
  (he:K2y T st.heap t (opnd st.slots x)=some (s,h')):VOp P o st s h':=by
 unfold K2y at he
 split at he
 ·cases he
 ·rename_i ty hty
  split at he
  ·rename_i hf
   injection he with he; injection he with e1 e2; subst e1; subst e2
   intro c G a w hs
   obtain ⟨cs,h1,h2,h3⟩:=Jm7 hs.toHRG hf (J6v hs x)
   obtain ⟨r1,r2,r3⟩:=Jxp hs.toHRG t h1
   refine ⟨_,_,_,.inl ?_,r1,Ext.snoc _ _,r2,r3 _⟩
   have hc:(pack ty cs).cells=cs.toArray:=by
    apply Array.toList_inj.1
    rw [pack_cells (J6y.len _ h1) (J6y.cells _ h3 h1)]
   simp [execOp,hop,Instr.box,newVar,newRow,h2,hc]
  ·cases he
def Jdg (s:Slot):Option Slot:=
 match s with
 | .ptr l p=>some (.ptr l p)
 | .ref t x=>some (.ref t x)
 | _=>none
theorem Jes {o:Oper} {st:St} {x:Operand} {s:Slot} (hop:o.op=.nilCheck x) (he:Jdg (opnd st.slots x)=some s):VOp P o st s st.heap:=by
 refine VOp.pure fun c G a w hs=>?_
 have hv:=J6v hs x
 unfold Jdg at he
 split at he
 ·rename_i l p hx
  injection he with he; subst he
  rw [hx] at hv
  refine ⟨_,?_,hv⟩
  obtain ⟨t,cs,⟨rfl,g,u,_,rfl,_,b,o',t',_,_,rfl⟩,hpk⟩:=hv
  have hpk:a.eval x=.pointer (some ⟨b,o',none⟩):=hpk
  simp [execOp,hop,hpk]
 ·rename_i t y hx
  injection he with he; subst he
  rw [hx] at hv
  refine ⟨_,?_,hv⟩
  obtain ⟨t,cs,⟨rfl,b,off,cs',rfl,_⟩,hpk⟩:=hv
  have hpk:a.eval x=.pointer (some ⟨b,off,none⟩):=hpk
  simp [execOp,hop,hpk]
 ·cases he
def K30 (T:Tab) (h:List AObj) (t:Nat) (s:Slot):Option Slot:=
 match T.ty t with
 | some .str=>match s with
  | .v .str x=>some (.v (.int .i64) (List.length x:Int))
  | _=>none
 | some (.slice e)=>match s with
  | .v (.slice e') xs=>some (.v (.int .i64) (List.length xs:Int))
  | .nil=>some (.v (.int .i64) (0:Int))
  | .own l p=>match J74 (J6q h l) p with
   | some r=>some (.v (.int .i64) (List.length r.xs:Int))
   | none=>none
  | _=>none
 | some (.arr n e)=>some (.v (.int .i64) (n:Int))
 | _=>none
theorem Kb (hT:J78 P T) {o:Oper} {st:St} {t:Nat} {x:Operand} {cl:Call} {s:Slot} (hop:o.op=.call cl) (hc:cl.callee=.builtin .len) (ha:cl.args=#[x])
  (ht:cl.argTypes[0]?=some t) (he:K30 T st.heap t (opnd st.slots x)=some s):VOp P o st s st.heap:=by
 refine VOp.pure fun c G a w hs=>?_
 have hv:=J6v hs x
 have run:∀ v,(Builtin.len_ cl.argTypes o.type #[a.eval x]).run P w=.ok v w→(execOp a.eval o).run P w=.ok (.value v) w:=by
  intro v hr
  simp [execOp,hop,resolve,hc,ha,invoke,builtin,hr]
 unfold K30 at he
 split at he
 ·rename_i hty
  obtain ⟨by_,hg⟩:=Tab.ty_get hty
  obtain ⟨d,hd,hD⟩:=(hT _ _ _ hg).run_under w
  simp only [J7k] at hD; subst hD
  split at he
  ·rename_i y hx
   injection he with he; subst he
   rw [hx] at hv
   refine ⟨.int .i64 (List.length y:Int),run _ ?_,J7q .i64 _⟩
   have hsz:(⟨y.toArray⟩:ByteArray).size=y.length:=by show y.toArray.size=_; simp
   simp [Builtin.len_,ht,hd,Jh1 hv,goInt,hsz,-ByteArray.size_data]
  ·cases he
 ·rename_i e hty
  obtain ⟨te,by_,hu,_,_⟩:=Ja5 hT hty w
  split at he
  ·rename_i e' xs hx
   injection he with he; subst he
   rw [hx] at hv
   obtain ⟨tt,cs,⟨rfl,ad,cap,rfl,hcap,hrow⟩,hpk⟩:=hv
   have hpk:a.eval x=.slice ad (List.length xs) cap:=hpk
   refine ⟨.int .i64 (List.length xs:Int),run _ ?_,J7q .i64 _⟩
   simp [Builtin.len_,ht,hu,hpk,goInt]
  ·rename_i hx
   injection he with he; subst he
   rw [hx] at hv
   obtain ⟨tt,cs,⟨⟨e',rfl⟩,rfl⟩,hpk⟩:=hv
   have hpk:a.eval x=.slice none 0 0:=hpk
   refine ⟨.int .i64 0,run _ ?_,J7q .i64 _⟩
   simp [Builtin.len_,ht,hu,hpk,goInt]
  ·rename_i l p hx
   split at he
   ·rename_i r hr
    injection he with he; subst he
    rw [hx] at hv
    obtain ⟨g,hg,hd,ho,hcase⟩:=Jae hs.toHRG hr hv
    refine ⟨.int .i64 (List.length r.xs:Int),run _ ?_,J7q .i64 _⟩
    rcases hcase with ⟨_,hnil,hpk,_⟩ | ⟨b,off,cs,U,cap,hb,hpk,_⟩
    ·simp [Builtin.len_,ht,hu,hpk,goInt,hnil]
    ·simp [Builtin.len_,ht,hu,hpk,goInt]
   ·cases he
  ·cases he
 ·rename_i n e hty
  obtain ⟨te,by_,hu,_⟩:=Jrg hT hty w
  injection he with he; subst he
  refine ⟨.int .i64 (n:Int),run _ ?_,J7q .i64 _⟩
  simp [Builtin.len_,ht,hu,goInt]
 ·cases he
end Go.Ax
