/-
  A semantics by value over the model: data, calls, code (part B).
-/
import Derived.Test.YthhioanidhkdeaaGreatCTopManyAxA
import Derived.Laws.Append
import Derived.Laws.MakeOwn
import Derived.Laws.IdiomStrings
import Derived.Laws.StructEq
import Derived.Lib.Bytealg
import Derived.Laws.Externs
import Derived.MapKept
namespace Go.Ax
set_option linter.unusedVariables false
set_option linter.unusedSimpArgs false
variable {P : Program} {T : Tab}
theorem Cat.append {α:Type} {R:List Value→α→Prop} {b:List Value} {ys:List α} (hb:Cat R b ys):∀ {a:List Value} {xs:List α},Cat R a xs→Cat R (a++b) (xs++ys):=by
 intro a xs
 induction xs generalizing a with
 | nil=>intro h; simp only [Cat] at h; subst h; simpa using hb
 | cons x xs ih=>
  rintro ⟨c1,c2,rfl,h1,h2⟩
  exact ⟨c1,c2++b,by simp,h1,ih h2⟩
theorem Jyk {α:Type} {w:World} {sz:Nat} {R:List Value→α→Prop} {b:Nat} (hl:∀ cs x,R cs x→cs.length=sz) :
  ∀ {xs:List α} {o:Nat},Jk0 w sz R b o xs→∃ cs,Cat R cs xs∧∀ j,j < cs.length→w.cell? ⟨b,o+j,none⟩=cs[j]?
 | [],o,_=>⟨[],rfl,fun j hj=>by simp at hj⟩
 | x::xs,o,h=>by
  obtain ⟨c1,h1,h2⟩:=h 0 x rfl
  have hl1:=hl _ _ h1
  obtain ⟨c2,h3,h4⟩:=Jyk (xs:=xs) (o:=o+sz) hl (fun i y hy=>by
   obtain ⟨cs,e1,e2⟩:=h (i+1) y (by simpa using hy)
   refine ⟨cs,e1,fun j hj=>?_⟩
   have:=e2 j hj
   rwa [show o+(i+1) * sz+j=o+sz+i * sz+j by rw [Nat.add_mul]; omega] at this)
  refine ⟨c1++c2,⟨c1,c2,rfl,h1,h3⟩,fun j hj=>?_⟩
  by_cases hj1:j < c1.length
  ·have:=h2 j hj1
   rw [List.getElem?_append_left hj1]
   rwa [Nat.zero_mul,Nat.add_zero] at this
  ·have h5:=h4 (j - c1.length) (by simp at hj; omega)
   rw [List.getElem?_append_right (by omega)]
   rwa [show o+sz+(j - c1.length)=o+j by omega] at h5
structure Jdo (P:Program) (w:World) (size:Nat) (v:Value) (m:Nat) (ns:List Value):Prop where
 len:∀ w',(Builtin.lenOf v).run P w'=.ok m w'
 cells:∀ w',w'.heap=w.heap→(Builtin.firstCells size m v).run P w'=.ok ns.toArray w'
 pre:∀ k,k≤m→(Builtin.firstCells size k v).run P w=.ok (ns.take (k * size)).toArray w
def Jz5 (e:Ty) (ys:List UInt8):Option (List e.den):=
 match e with
 | .int .u8=>some ys
 | _=>none
def Jly (h:List AObj) (e:Ty) (x:Slot):Option (List e.den):=
 match x with
 | .v (.slice e') ys=>cast? (.slice e') (.slice e) ys
 | .nil=>some []
 | .own l p=>match J74 (J6q h l) p with
  | some r=>cast? (.slice r.e) (.slice e) r.xs
  | none=>none
 | .v .str ys=>Jz5 e ys
 | _=>none
theorem Jvz {w w':World} (h:w'.heap=w.heap) (a:Addr):w'.cell? a=w.cell? a:=by unfold World.cell?; rw [h]
theorem Jz3 {w w':World} (hw:w'.heap=w.heap) {b o:Nat} {cs:List Value} (h:∀ j,j < cs.length→w.cell? ⟨b,o+j,none⟩=cs[j]?) {n:Nat} (hn:n=cs.length) :
  (loadCells ⟨b,o,none⟩ n).run P w'=.ok cs.toArray w':=run_loadCells (fun j hj=>by rw [Jvz hw]; exact h j hj) hn
theorem Jn5 {w:World} {b o cap m size:Nat} {cs:List Value} (h:∀ j,j < cs.length→w.cell? ⟨b,o+j,none⟩=cs[j]?) (hl:cs.length=m * size) :
  Jdo P w size (.slice (some ⟨b,o,none⟩) m cap) m cs:=by
 refine ⟨fun w'=>by simp [Builtin.lenOf],fun w' hw=>?_,fun k hk=>?_⟩
 ·simp only [Builtin.firstCells]
  exact Jz3 hw h hl.symm
 ·simp only [Builtin.firstCells]
  have hle:k * size≤m * size:=Nat.mul_le_mul_right _ hk
  refine run_loadCells (fun j hj=>?_) (by rw [List.length_take,hl]; omega)
  rw [List.length_take,hl] at hj
  rw [List.getElem?_take,if_pos (by omega)]
  exact h j (by omega)
theorem Jfo {w:World} {ad:Option Addr} {cap size:Nat}:Jdo P w size (.slice ad 0 cap) 0 []:=by
 refine ⟨fun w'=>by simp [Builtin.lenOf],fun w' hw=>?_,fun k hk=>?_⟩
 ·cases ad with
  | none=>simp [Builtin.firstCells]
  | some a=>simp [Builtin.firstCells,loadCells,loadCellsFrom]
 ·have:k=0:=by omega
  subst this
  cases ad with
  | none=>simp [Builtin.firstCells]
  | some a=>simp [Builtin.firstCells,loadCells,loadCellsFrom]
theorem Je4 {c:Ctx} {G:List GE} {h:List AObj} {w:World} (hh:HRG c G h w) {e:Ty} {x:Slot} {ys:List e.den} {v:Value}
  (hx:Jly h e x=some ys) (hs:∀ z,x≠.v .str z) (hv:TRel G w (okB c G h w) x v) :
  ∃ ns a cap,Jdo P w e.size v (List.length ys) ns∧RepC w (okB c G h w) (.arr (List.length ys) e) ns ys∧v=.slice a (List.length ys) cap∧List.length ys≤cap:=by
 unfold Jly at hx
 split at hx
 ·rename_i e' ys'
  obtain ⟨he,hx⟩:=J9o hx
  injection he with he; subst he; subst hx
  obtain ⟨tt,cs,⟨rfl,ad,cap,rfl,hcap,hrow⟩,hpk⟩:=hv
  have hpk:v=.slice ad (List.length ys') cap:=hpk
  subst hpk
  rcases hrow with rfl | ⟨b,off,rfl,hok,hrow⟩
  ·exact ⟨[],ad,cap,Jfo,⟨rfl,rfl⟩,rfl,hcap⟩
  ·obtain ⟨ns,h1,h2⟩:=Jyk (fun cs x=>RepC.len e') hrow
   have hl:=Cat.len (fun cs x=>RepC.len e') h1
   exact ⟨ns,_,cap,Jn5 h2 hl,⟨rfl,h1⟩,rfl,hcap⟩
 ·injection hx with hx; subst hx
  obtain ⟨tt,cs,⟨⟨e',rfl⟩,rfl⟩,hpk⟩:=hv
  have hpk:v=.slice none 0 0:=hpk
  subst hpk
  exact ⟨[],none,0,Jfo,⟨rfl,rfl⟩,rfl,Nat.le_refl _⟩
 ·rename_i l p
  split at hx
  ·rename_i r hr
   obtain ⟨he,hx⟩:=J9o hx
   injection he with he; subst he
   have hx:r.xs=ys:=hx
   subst hx
   obtain ⟨g,hg,hd,ho,hcase⟩:=Jae hh hr hv
   rcases hcase with ⟨_,hnil,rfl,_⟩ | ⟨b,off,cs,U,cap,hb,rfl,hcap,hheap,hp,hk,hrep⟩
   ·have hl0:List.length r.xs=0:=by rw [hnil]; rfl
    exact ⟨[],none,0,by rw [hl0]; exact Jfo,⟨rfl,by rw [hnil]; rfl⟩,by rw [hl0],by rw [hl0]; exact Nat.le_refl _⟩
   ·have hl:=RepC.len _ hrep
    exact ⟨_,_,cap,Jn5 (Jen hheap) (by rw [hl]; rfl),hrep,rfl,hcap⟩
  ·cases hx
 ·rename_i z; exact absurd rfl (hs z)
 ·cases hx
theorem Jfv (w:World) (ok:Nat→Prop):∀ (ys:List UInt8),Cat (RepC w ok (.int .u8)) (ys.map fun b=>Value.int .u8 (b.toNat:Int)) ys
 | []=>rfl
 | y::ys=>⟨[_],_,rfl,rfl,Jfv w ok ys⟩
theorem size_mk (y:List UInt8):(⟨y.toArray⟩:ByteArray).size=y.length:=by show y.toArray.size=_; simp
theorem Jo1 {G:List GE} {w:World} {ok:Nat→Prop} {z:List UInt8} {v:Value} (hv:TRel G w ok (.v .str z) v) :
  ∃ ns,Jdo P w 1 v (List.length z) ns∧RepC w ok (.arr (List.length z) (.int .u8)) ns z:=by
 have hv:=Jh1 hv
 subst hv
 refine ⟨_,⟨fun w'=>by simp [Builtin.lenOf,size_mk,-ByteArray.size_data],fun w' hw=>?_,fun k hk=>?_⟩,⟨rfl,Jfv w ok z⟩⟩
 ·have e:(⟨z.toArray⟩:ByteArray).extract 0 (List.length z)=⟨z.toArray⟩:=by
   rw [← size_mk z,ByteArray.extract_zero_size]
  simp only [Builtin.firstCells,e,Sem.run_pure]
  simp
 ·have e:(⟨z.toArray⟩:ByteArray).extract 0 k=⟨(z.take k).toArray⟩:=by
   apply ByteArray.ext
   rw [ByteArray.data_extract]
   simp
  simp only [Builtin.firstCells,e,Sem.run_pure]
  simp [List.map_take]
section
variable {w w' : World} {t0 t1 ty te : TypeId} {i : TypeInfo} {d : TypeDesc} {v z : Value} {m : Nat} {ns : List Value} {size : Nat}
theorem K2m (hu:∀ w,(underlying t0).run P w=.ok (.slice te) w) (hi:P.info? te=some i) (hd:∀ w,(underlying t1).run P w=.ok d w) (hni:∀ k,d≠.int k)
  (hs:Jdo P w i.size v m ns) {b n cap:Nat} (hroom:n+m≤cap) (hst:(storeCells ⟨b,n * i.size,none⟩ ns).run P w=.ok () w') :
  (Builtin.append_ #[t0,t1] ty #[.slice (some ⟨b,0,none⟩) n cap,v]).run P w=.ok (.slice (some ⟨b,0,none⟩) (n+m) cap) w':=by
 have hz:(match d with | .int _=>true | _=>false)=false:=by cases d <;> first | rfl | exact absurd rfl (hni _)
 simp [Builtin.append_,hu,hd,sizeOf,typeInfo,hi,hz,hs.len,hroom,hs.cells w rfl,add_plain,hst]
theorem Jzr (hu:∀ w,(underlying t0).run P w=.ok (.slice te) w) (hi:P.info? te=some i) (hd:∀ w,(underlying t1).run P w=.ok d w) (hni:∀ k,d≠.int k)
  (hs:Jdo P w i.size v 0 ns):(Builtin.append_ #[t0,t1] ty #[.slice none 0 0,v]).run P w=.ok (.slice none 0 0) w:=by
 have hz:(match d with | .int _=>true | _=>false)=false:=by cases d <;> first | rfl | exact absurd rfl (hni _)
 simp [Builtin.append_,hu,hd,sizeOf,typeInfo,hi,hz,hs.len,hs.cells w rfl]
theorem Jzq (hu:∀ w,(underlying t0).run P w=.ok (.slice te) w) (hi:P.info? te=some i) (hz0:i.zero=some z) (hd:∀ w,(underlying t1).run P w=.ok d w) (hni:∀ k,d≠.int k)
  (hs:Jdo P w i.size v m ns) {a:Option Addr} {n cap:Nat} {os:List Value} (ho:Jdo P w i.size (.slice a n cap) n os) (hroom:¬ n+m≤cap)
  (h63:n+m≤9223372036854775807) (hb:(n+m) * i.bytes≤140737488355328) :
  (Builtin.append_ #[t0,t1] ty #[.slice a n cap,v]).run P w=.ok (.slice (some ⟨w.heap.size,0,none⟩) (n+m) (grownCap w (n+m) cap te))
   (w.drew.alloc (.cells (os.toArray++ns.toArray++Builtin.zeroCells z.cells (grownCap w (n+m) cap te - (n+m))) te)):=by
 have hz:(match d with | .int _=>true | _=>false)=false:=by cases d <;> first | rfl | exact absurd rfl (hni _)
 have h63':¬ (9223372036854775807 < ((n:Int)+(m:Int))):=by omega
 have h48':¬ (281474976710656 < Builtin.nextslicecap (n+m) cap * i.bytes):=by have:=growslice_fits (by omega:cap < n+m) hb; omega
 simp [Builtin.append_,hu,hd,sizeOf,typeInfo,zeroValue,hi,hz0,hz,hs.len,hroom,h63',h48',Question.forced,hs.cells w.drew rfl,ho.cells w.drew rfl,newRow,grownCap]
 congr 2
 apply Array.ext'
 simp [List.append_assoc]
theorem J9p (w:World) (need old:Nat) (e:TypeId):need≤grownCap w need old e:=by
 simp [grownCap,Question.cut]
theorem Jdl (f:Nat→Value) (sz:Nat):∀ n,(List.range (n * sz)).map (fun i=>f (i % sz))=(List.replicate n ((List.range sz).map f)).flatten
 | 0=>by simp
 | n+1=>by
  rw [List.replicate_succ',List.flatten_append,← Jdl f sz n,Nat.add_mul,Nat.one_mul,List.range_add,List.map_append,List.map_map]
  congr 1
  simp only [List.flatten_cons,List.flatten_nil,List.append_nil]
  apply List.map_congr_left
  intro i hi
  have:i < sz:=List.mem_range.1 hi
  show f ((n * sz+i) % sz)=f i
  rw [Nat.mul_comm,Nat.mul_add_mod,Nat.mod_eq_of_lt this]
theorem Jcg (z:Array Value) (n:Nat):(Builtin.zeroCells z n).toList=(List.replicate n z.toList).flatten:=by
 have:=Jdl (fun i=>z[i]!) z.size n
 have e:(List.range z.size).map (fun i=>z[i]!)=z.toList:=by
  apply List.ext_getElem
  ·simp
  ·intro i h1 h2
   simp at h1 h2
   simp [h1]
 rw [e] at this
 rw [← this]
 simp [Builtin.zeroCells]
theorem Jzs {k:IntKind} (hu:∀ w,(underlying t0).run P w=.ok (.slice te) w) (hi:P.info? te=some i) (hz0:i.zero=some z) (hd:∀ w,(underlying t1).run P w=.ok (.int k) w)
  (hm:m≤9223372036854775807) (hb:m * i.bytes≤140737488355328) (hzs:z.cells.size=i.size) {b n cap:Nat} (hroom:n+m≤cap)
  (hst:(storeCells ⟨b,n * i.size,none⟩ (Builtin.zeroCells z.cells m).toList).run P w=.ok () w') :
  (Builtin.append_ #[t0,t1] ty #[.slice (some ⟨b,0,none⟩) n cap,.int .i64 m]).run P w=.ok (.slice (some ⟨b,0,none⟩) (n+m) cap) w':=by
 have wl:IntKind.i64.wrap (m:Int)=m:=by rw [show IntKind.i64.wrap (m:Int)=w64 m from rfl,J6k (by omega) (by omega)]
 have h48:¬ (281474976710656 < (m:Int) * (i.bytes:Int)):=by
  have:((m * i.bytes:Nat):Int)≤140737488355328:=by omega
  rw [Int.natCast_mul] at this; omega
 have hneg:¬ ((m:Int) < 0):=by omega
 by_cases h0:m * i.size=0
 ·have hsz:Builtin.zeroCells z.cells m=#[]:=by
   apply Array.eq_empty_of_size_eq_zero
   simp [Builtin.zeroCells,hzs,h0]
  simp [hsz,storeCells] at hst
  subst hst
  simp [Builtin.append_,hu,hd,sizeOf,typeInfo,zeroValue,hi,hz0,asInt,asIntOf,wl,hneg,h48,hroom,h0,add_plain,storeCells]
 ·simp [Builtin.append_,hu,hd,sizeOf,typeInfo,zeroValue,hi,hz0,asInt,asIntOf,wl,hneg,h48,hroom,h0,add_plain,hst]
theorem Jvj {k:IntKind} (hu:∀ w,(underlying t0).run P w=.ok (.slice te) w) (hi:P.info? te=some i) (hd:∀ w,(underlying t1).run P w=.ok (.int k) w) :
  (Builtin.append_ #[t0,t1] ty #[.slice none 0 0,.int .i64 0]).run P w=.ok (.slice none 0 0) w:=by
 have wl:IntKind.i64.wrap 0=0:=by decide
 simp [Builtin.append_,hu,hd,sizeOf,typeInfo,hi,asInt,asIntOf,wl]
theorem Jvi {k:IntKind} (hu:∀ w,(underlying t0).run P w=.ok (.slice te) w) (hi:P.info? te=some i) (hz0:i.zero=some z) (hd:∀ w,(underlying t1).run P w=.ok (.int k) w)
  (hzs:z.cells.size=i.size) {a:Option Addr} {n cap:Nat} {os:List Value} (ho:Jdo P w i.size (.slice a n cap) n os) (hroom:¬ n+m≤cap)
  (h63:n+m≤9223372036854775807) (hb:(n+m) * i.bytes≤140737488355328) :
  (Builtin.append_ #[t0,t1] ty #[.slice a n cap,.int .i64 m]).run P w=.ok (.slice (some ⟨w.heap.size,0,none⟩) (n+m) (grownCap w (n+m) cap te))
   (w.drew.alloc (.cells (os.toArray++(Builtin.zeroCells z.cells m)++Builtin.zeroCells z.cells (grownCap w (n+m) cap te - (n+m))) te)):=by
 have wl:IntKind.i64.wrap (m:Int)=m:=by rw [show IntKind.i64.wrap (m:Int)=w64 m from rfl,J6k (by omega) (by omega)]
 have h48:¬ (281474976710656 < (m:Int) * (i.bytes:Int)):=by
  have:((m * i.bytes:Nat):Int)≤140737488355328:=by
   have:m * i.bytes≤(n+m) * i.bytes:=Nat.mul_le_mul_right _ (by omega)
   omega
  rw [Int.natCast_mul] at this; omega
 have hneg:¬ ((m:Int) < 0):=by omega
 have h63':¬ (9223372036854775807 < ((n:Int)+(m:Int))):=by omega
 have h48':¬ (281474976710656 < Builtin.nextslicecap (n+m) cap * i.bytes):=by have:=growslice_fits (by omega:cap < n+m) hb; omega
 by_cases h0:m * i.size=0
 ·have hsz:Builtin.zeroCells z.cells m=#[]:=by
   apply Array.eq_empty_of_size_eq_zero
   simp [Builtin.zeroCells,hzs,h0]
  simp [Builtin.append_,hu,hd,sizeOf,typeInfo,zeroValue,hi,hz0,asInt,asIntOf,wl,hneg,h48,hroom,h0,hsz,h63',h48',Question.forced,ho.cells w.drew rfl,newRow,grownCap]
 ·simp [Builtin.append_,hu,hd,sizeOf,typeInfo,zeroValue,hi,hz0,asInt,asIntOf,wl,hneg,h48,hroom,h0,h63',h48',Question.forced,ho.cells w.drew rfl,newRow,grownCap]
end
theorem Jqs {c:Ctx} {G:List GE} {h:List AObj} {w w1:World} (hh:HRG c G h w) (e1:w1.heap=w.heap) (e2:w1.os=w.os) (e3:w1.tape=w.tape) (e4:w1.output=w.output)
  {e:Ty} {zs:List e.den} {C:Array Value} (U:TypeId) {cap:Nat} (hcap:List.length zs≤cap) (hC:cap * e.size≤C.size)
  (hr:RepC w (okB c G h w) (.arr (List.length zs) e) (C.toList.take (List.length zs * e.size)) zs) :
  HRG c (G++[⟨.row,some w.heap.size,e,List.length zs,cap⟩]) (h++[.row e zs true]) (w1.alloc (.cells C U))∧
  J76 w (w1.alloc (.cells C U)) (okB c G h w) (okB c (G++[⟨.row,some w.heap.size,e,List.length zs,cap⟩]) (h++[.row e zs true]) (w1.alloc (.cells C U)))∧
  ∀ ok',TRel (G++[⟨.row,some w.heap.size,e,List.length zs,cap⟩]) (w1.alloc (.cells C U)) ok' (.own h.length []) (.slice (some ⟨w.heap.size,0,none⟩) (List.length zs) cap):=by
 obtain ⟨h1,h2,k1⟩:=hh.same e1 e2 e3 e4
 have hsz:w1.heap.size=w.heap.size:=by rw [e1]
 obtain ⟨h3,k3⟩:=h1.alloc (cs:=C) (U:=U) (o:=.row e zs true) (g:=⟨.row,some w.heap.size,e,List.length zs,cap⟩) (by rw [hsz]) (fun ok' k=>by
  refine ⟨rfl,rfl,rfl,hcap,.inr ⟨w.heap.size,C,U,rfl,?_,hC,?_⟩⟩
  ·rw [← hsz]; exact heap_alloc_new w1 _
  ·rw [h2] at k
   exact RepC.mono k _ (RepC.mono k1 _ hr))
 refine ⟨h3,?_,fun ok'=>?_⟩
 ·rw [h2] at k3
  exact ⟨fun b hb=>k3.sub b (k1.sub b hb),fun b o v hb hv=>k3.cell b o v (k1.sub b hb) (k1.cell b o v hb hv)⟩
 ·refine ⟨.slice e,_,⟨⟨.row,some w.heap.size,e,List.length zs,cap⟩,_,?_,rfl,.inl ⟨rfl,rfl,rfl,rfl⟩⟩,rfl⟩
  rw [← hh.len]; simp
theorem HRG.kill {c:Ctx} {G:List GE} {h:List AObj} {w:World} (hh:HRG c G h w) {l:Nat} {o:AObj} (hl:h[l]?=some o) :
  HRG c G (h.set l .dead) w∧J76 w w (okB c G h w) (okB c G (h.set l .dead) w):=by
 refine hh.shrink (by simp) fun k x x' hx hx'=>?_
 rw [Jb3 hl] at hx'
 split at hx'
 ·injection hx' with hx'; exact .inr (.inr hx'.symm)
 ·rw [hx] at hx'; injection hx' with hx'; exact .inl hx'.symm
theorem J76.trans {w w1 w2:World} {a b c:Nat→Prop} (h:J76 w w1 a b) (k:J76 w1 w2 b c):J76 w w2 a c:=
 ⟨fun x hx=>k.sub x (h.sub x hx),fun x o v hx hv=>k.cell x o v (h.sub x hx) (h.cell x o v hx hv)⟩
theorem J76.refl (w:World) (a:Nat→Prop):J76 w w a a:=⟨fun _ h=>h,fun _ _ _ _ h=>h⟩
def K2x (T:Tab) (h:List AObj) (t1:Nat) (e:Ty) (x:Slot):Option (List Prop×List e.den):=
 match T.ty t1 with
 | some (.int _)=>match x with
  | .v (.int .i64) n=>if e.pure then some ([(0:Int)≤n∧n≤(1073741824:Int)],List.replicate (Int.toNat n) e.zero) else none
  | _=>none
 | some _=>match Jly h e x with
  | some ys=>some ([],ys)
  | none=>none
 | none=>none
def Jlp (T:Tab) (h:List AObj) (t0 t1:Nat) (s x:Slot):Option (List Prop×Slot×List AObj):=
 match T.ty t0 with
 | some (.slice e)=>match e.pure,K2x T h t1 e x with
  | true,some (ps,ys)=>match s with
   | .nil=>some ((List.length ys≤2147483648)::ps,.own h.length [],h++[.row e ys true])
   | .own l []=>match J6q h l with
    | .row e' xs true=>match cast? (.slice e') (.slice e) xs with
     | some xs=>some ((List.length xs+List.length ys≤2147483648)::ps,.own h.length [],h.set l .dead++[.row e (xs++ys) true])
     | none=>none
    | _=>none
   | _=>none
  | _,_=>none
 | _=>none
structure AppOK (P:Program) (w:World) (e:Ty) (t0 t1 ty te:TypeId) (v:Value) (m:Nat) (ns:List Value):Prop where
 none_:m=0→(Builtin.append_ #[t0,t1] ty #[.slice none 0 0,v]).run P w=.ok (.slice none 0 0) w
 fit:∀ (b n cap:Nat) (w':World),n+m≤cap→(storeCells ⟨b,n * e.size,none⟩ ns).run P w=.ok () w'→
  (Builtin.append_ #[t0,t1] ty #[.slice (some ⟨b,0,none⟩) n cap,v]).run P w=.ok (.slice (some ⟨b,0,none⟩) (n+m) cap) w'
 grow:∀ (a:Option Addr) (n cap:Nat) (os:List Value),Jdo P w e.size (.slice a n cap) n os→os.length=n * e.size→¬ n+m≤cap→n+m≤2147483648→
  ∃ (cap':Nat) (C:Array Value) (w1:World),n+m≤cap'∧w1.heap=w.heap∧w1.os=w.os∧w1.tape=w.tape∧w1.output=w.output∧
  (Builtin.append_ #[t0,t1] ty #[.slice a n cap,v]).run P w=.ok (.slice (some ⟨w.heap.size,0,none⟩) (n+m) cap') (w1.alloc (.cells C te))∧
  C.toList.take ((n+m) * e.size)=os++ns∧cap' * e.size≤C.size
theorem TyI.zero_cells {t:Nat} {ty:Ty} {b:Nat} (h:TyI P T t ty b) (hp:ty.pure=true):∃ i z,P.info? t=some i∧i.size=ty.size∧i.bytes=b∧i.zero=some z∧z.cells.toList=J77 ty:=by
 obtain ⟨i,hi,h1,h2,h3⟩:=h.info
 rcases h3 with h3 | h3 | h3
 ·subst h3; cases hp
 ·subst h3; cases hp
 ·exact ⟨i,_,hi,h1,h2,h3,pack_cells (J7p ty) (J87 ty)⟩
theorem Jek {k b:Nat} (h:k≤2147483648) (hb:b≤65536):k * b≤140737488355328:=Nat.le_trans (Nat.mul_le_mul h hb) (by decide)
theorem Jrt (hT:J78 P T) {c:Ctx} {G:List GE} {h:List AObj} {w:World} (hh:HRG c G h w) {t0 t1 ty:TypeId} {e:Ty} (h0:T.ty t0=some (.slice e)) {x:Slot}
  {ps:List Prop} {ys:List e.den} (he:K2x T h t1 e x=some (ps,ys)) (hps:AllP ps) {v:Value} (hv:TRel G w (okB c G h w) x v) (hp:e.pure=true) :
  ∃ te ns,AppOK P w e t0 t1 ty te v (List.length ys) ns∧RepC w (okB c G h w) (.arr (List.length ys) e) ns ys:=by
 obtain ⟨te,by_,hu,hg2,hI⟩:=Ja5 hT h0 w
 have hu:∀ w,(underlying t0).run P w=.ok (.slice te) w:=by
  intro w'
  obtain ⟨te',by_',hu',_⟩:=Ja5 hT h0 w'
  have:te'=te:=by
   simp only [underlying,Sem.run_bind] at hu hu'
   cases hd:P.underlying t0 with
   | none=>simp [hd] at hu
   | some d=>simp [hd] at hu hu'; rw [hu] at hu'; injection hu' with hu'; exact hu'.symm
  rw [this] at hu'; exact hu'
 obtain ⟨i,z,hi,hsz,hby,hz,hzc⟩:=hI.zero_cells hp
 have hzs:z.cells.size=i.size:=by rw [← Array.length_toList,hzc,J7p,hsz]
 have hbb:i.bytes≤65536:=by rw [hby]; exact hI.small
 have hzl:∀ n,(Builtin.zeroCells z.cells n).toList=(List.replicate n (J77 e)).flatten:=fun n=>by rw [Jcg,hzc]
 have hzsz:∀ n,(Builtin.zeroCells z.cells n).size=n * e.size:=fun n=>by simp [Builtin.zeroCells,hzs,hsz]
 refine ⟨te,?_⟩
 unfold K2x at he
 split at he
 ·rename_i k hty
  obtain ⟨b1,hg⟩:=Tab.ty_get hty
  have hd:∀ w,(underlying t1).run P w=.ok (.int k) w:=fun w'=>by
   obtain ⟨d,hd,hD⟩:=(hT _ _ _ hg).run_under w'
   simp only [J7k] at hD; subst hD; exact hd
  split at he
  ·rename_i n
   rw [if_pos hp] at he
   ·injection he with he; injection he with e1 e2; subst e1; subst e2
    obtain ⟨⟨hn0,hn1⟩,_⟩:=hps
    have hv:=Jci hv
    obtain ⟨m,rfl⟩:=Int.eq_ofNat_of_zero_le hn0
    have hn1:(m:Int)≤(1073741824:Int):=hn1
    have hv:v=.int .i64 (m:Int):=hv
    subst hv
    have hm:m≤1073741824:=by omega
    have hlen:List.length (List.replicate (Int.toNat (m:Int)) e.zero)=m:=by simp
    refine ⟨(Builtin.zeroCells z.cells m).toList,⟨?_,?_,?_⟩,?_⟩
    ·rw [hlen]; rintro rfl; exact Jvj hu hi hd
    ·rw [hlen]; intro b n cap w' hroom hst
     exact Jzs hu hi hz hd (by omega) (Jek (by omega) hbb) hzs hroom (by rw [hsz]; exact hst)
    ·rw [hlen]; intro a n cap os hso hol hroom hnm
     have:=Jvi (P:=P) (w:=w) (ty:=ty) hu hi hz hd hzs (by rw [hsz]; exact hso) hroom (by omega) (Jek hnm hbb)
     refine ⟨_,_,_,J9p w _ _ _,?_,?_,?_,?_,this,?_,?_⟩
     ·rfl
     ·rfl
     ·rfl
     ·rfl
     ·simp only [Array.toList_append]
      rw [List.take_append_of_le_length]
      ·rw [List.take_of_length_le]; simp [hzsz,hol,Nat.add_mul]
      ·simp [hzsz,hol,Nat.add_mul]
     ·simp only [Array.size_append,hzsz,List.size_toArray,hol]
      have:=J9p w (n+m) cap te
      rw [← Nat.add_mul,← Nat.add_mul]
      exact Nat.mul_le_mul_right _ (by omega)
    ·rw [hlen]; exact ⟨by simp,by rw [hzl]; simp only [Int.toNat_natCast]; exact J88 (Jaq w _ e hp) m⟩
  ·cases he
 ·rename_i t1' hni hty
  split at he
  ·rename_i ys' hx
   injection he with he; injection he with e1 e2; subst e1; subst e2
   obtain ⟨b1,hg⟩:=Tab.ty_get hty
   obtain ⟨d,hd0,hD⟩:=(hT _ _ _ hg).desc
   have hd:∀ w,(underlying t1).run P w=.ok d w:=fun w'=>by simp [underlying,hd0]
   have hnd:∀ k,d≠.int k:=by
    rintro k rfl
    cases t1' with
    | int k'=>exact hni k' rfl
    | arr n e=>obtain ⟨_,h,_⟩:=hD; cases h
    | slice e=>obtain ⟨_,h,_⟩:=hD; cases h
    | unit=>obtain ⟨_,h,_⟩:=hD; cases h
    | fld a r=>obtain ⟨_,h,_⟩:=hD; cases h
    | ptr=>obtain ⟨_,h⟩:=hD; cases h
    | mp=>obtain ⟨_,_,h⟩:=hD; cases h
    | fn=>obtain ⟨_,_,_,h⟩:=hD; cases h
    | bool=>cases hD
    | str=>cases hD
    | flt=>cases hD
    | cplx=>cases hD
   have hsrc:∃ ns,Jdo P w e.size v (List.length ys') ns∧RepC w (okB c G h w) (.arr (List.length ys') e) ns ys':=by
    by_cases hs:∃ z,x=.v .str z
    ·obtain ⟨z,rfl⟩:=hs
     simp only [Jly,Jz5] at hx
     split at hx
     ·injection hx with hx; subst hx; exact Jo1 hv
     ·cases hx
    ·obtain ⟨ns,_,_,h1,h2,_⟩:=Je4 hh hx (fun z hz=>hs ⟨z,hz⟩) hv
     exact ⟨ns,h1,h2⟩
   obtain ⟨ns,hs,hr⟩:=hsrc
   have hnl:=RepC.len _ hr
   simp only [Ty.size] at hnl
   have hs':Jdo P w i.size v (List.length ys') ns:=by rw [hsz]; exact hs
   refine ⟨ns,⟨?_,?_,?_⟩,hr⟩
   ·intro h0; rw [h0] at hs'; exact Jzr hu hi hd hnd hs'
   ·intro b n cap w' hroom hst
    exact K2m hu hi hd hnd hs' hroom (by rw [hsz]; exact hst)
   ·intro a n cap os hso hol hroom hnm
    have:=Jzq (P:=P) (w:=w) (ty:=ty) hu hi hz hd hnd hs' (by rw [hsz]; exact hso) hroom (by omega) (Jek hnm hbb)
    refine ⟨_,_,_,J9p w _ _ _,?_,?_,?_,?_,this,?_,?_⟩
    ·rfl
    ·rfl
    ·rfl
    ·rfl
    ·simp only [Array.toList_append]
     rw [List.take_append_of_le_length]
     ·rw [List.take_of_length_le]; simp [hnl,hol,Nat.add_mul]
     ·simp [hnl,hol,Nat.add_mul]
    ·simp only [Array.size_append,hzsz,List.size_toArray,hol,hnl]
     have:=J9p w (n+List.length ys') cap te
     rw [← Nat.add_mul,← Nat.add_mul]
     exact Nat.mul_le_mul_right _ (by omega)
  ·cases he
 ·cases he
theorem RepC.arr_append {w:World} {ok:Nat→Prop} {e:Ty} {n m:Nat} {a b:List Value} {xs ys:List e.den} (h1:RepC w ok (.arr n e) a xs) (h2:RepC w ok (.arr m e) b ys) :
  RepC w ok (.arr (n+m) e) (a++b) (xs++ys):=
 ⟨by rw [List.length_append,h1.1,h2.1],Cat.append h2.2 h1.2⟩
theorem Jmy {c:Ctx} {G:List GE} {h:List AObj} {w:World} (hh:HRG c G h w) {e:Ty} {t0 t1 ty te:TypeId} {v:Value} {ys:List e.den} {ns:List Value}
  (ha:AppOK P w e t0 t1 ty te v (List.length ys) ns) (hr:RepC w (okB c G h w) (.arr (List.length ys) e) ns ys) {a:Option Addr} {n cap:Nat} {os:List Value} {xs:List e.den}
  (hso:Jdo P w e.size (.slice a n cap) n os) (hro:RepC w (okB c G h w) (.arr n e) os xs) (hroom:¬ n+List.length ys≤cap) (hnm:n+List.length ys≤2147483648) :
  ∃ v' w' g,(Builtin.append_ #[t0,t1] ty #[.slice a n cap,v]).run P w=.ok v' w'∧HRG c (G++[g]) (h++[.row e (xs++ys) true]) w'∧
   J76 w w' (okB c G h w) (okB c (G++[g]) (h++[.row e (xs++ys) true]) w')∧∀ ok',TRel (G++[g]) w' ok' (.own h.length []) v':=by
 have hol:=RepC.len _ hro
 have hnl:=RepC.len _ hr
 have hx:List.length xs=n:=hro.1
 simp only [Ty.size] at hol hnl
 obtain ⟨cap',C,w1,h1,e1,e2,e3,e4,hrun,htake,hC⟩:=ha.grow a n cap os hso hol hroom hnm
 have hlen:List.length (xs++ys)=n+List.length ys:=by rw [List.length_append,hx]
 obtain ⟨r1,r2,r3⟩:=Jqs hh e1 e2 e3 e4 (zs:=xs++ys) (C:=C) te (cap:=cap') (by rw [hlen]; exact h1) hC (by rw [hlen,htake]; exact RepC.arr_append hro hr)
 rw [hlen] at r1 r2 r3
 exact ⟨_,_,_,hrun,r1,r2,r3⟩
theorem Jj3 {c:Ctx} {G:List GE} {h:List AObj} {w:World} (hh:HRG c G h w) (e:Ty) :
  HRG c (G++[⟨.row,none,e,0,0⟩]) (h++[.row e [] true]) w∧J76 w w (okB c G h w) (okB c (G++[⟨.row,none,e,0,0⟩]) (h++[.row e [] true]) w)∧
  ∀ ok',TRel (G++[⟨.row,none,e,0,0⟩]) w ok' (.own h.length []) (.slice none 0 0):=by
 obtain ⟨h1,k⟩:=hh.fresh (o:=.row e [] true) (g:=⟨.row,none,e,0,0⟩) rfl (fun ok'=>⟨rfl,rfl,rfl,Nat.le_refl _,.inl ⟨rfl,rfl⟩⟩)
 refine ⟨h1,k,fun ok'=>⟨.slice e,[.slice none 0 0],⟨⟨.row,none,e,0,0⟩,_,?_,rfl,.inl ⟨rfl,rfl,rfl,rfl⟩⟩,rfl⟩⟩
 rw [← hh.len]; simp
theorem Jq4 (hT:J78 P T) {o:Oper} {st:St} {t0 t1:Nat} {x y:Operand} {cl:Call} {s:Slot} {h':List AObj} {ps:List Prop} (hop:o.op=.call cl) (hc:cl.callee=.builtin .append)
  (hargs:cl.args=#[x,y]) (ht:cl.argTypes=#[t0,t1]) (he:Jlp T st.heap t0 t1 (opnd st.slots x) (opnd st.slots y)=some (ps,s,h')) (hps:AllP ps):VOp P o st s h':=by
 have run:∀ (a:Act) (w:World) v w',(Builtin.append_ #[t0,t1] o.type #[a.eval x,a.eval y]).run P w=.ok v w'→(execOp a.eval o).run P w=.ok (.value v) w':=by
  intro a w v w' hr
  simp [execOp,hop,resolve,hc,hargs,ht,invoke,builtin,hr]
 intro c G a w hs
 have hv:=J6v hs x
 have hy:=J6v hs y
 unfold Jlp at he
 split at he
 ·rename_i e hty
  split at he
  ·rename_i ps' ys hpure hadd
   have hh:=hs.toHRG
   split at he
   ·rename_i hx
    injection he with he; injection he with e1 e2; injection e2 with e2 e3; subst e1; subst e2; subst e3
    obtain ⟨te,ns,ha,hr⟩:=Jrt (ty:=o.type) hT hh hty hadd hps.2 hy hpure
    rw [hx] at hv
    obtain ⟨tt,cs,⟨⟨e',rfl⟩,rfl⟩,hpk⟩:=hv
    have hpk:a.eval x=.slice none 0 0:=hpk
    by_cases hm:List.length ys=0
    ·have hys:ys=[]:=List.eq_nil_of_length_eq_zero hm
     subst hys
     obtain ⟨r1,r2,r3⟩:=Jj3 hh e
     exact ⟨_,_,_,.inl (run a w _ _ (by rw [hpk]; exact ha.none_ rfl)),r1,Ext.snoc _ _,r2,r3 _⟩
    ·have hle:0+List.length ys≤2147483648:=by rw [Nat.zero_add]; exact hps.1
     obtain ⟨v',w',g,hrun,r1,r2,r3⟩:=Jmy hh ha hr (a:=none) (n:=0) (cap:=0) (os:=[]) (xs:=[])
      Jfo ⟨rfl,rfl⟩ (by omega) hle
     exact ⟨_,_,_,.inl (run a w _ _ (by rw [hpk]; exact hrun)),r1,Ext.snoc _ _,r2,r3 _⟩
   ·rename_i l hx
    split at he
    ·rename_i e' xs hob
     split at he
     ·rename_i xs' hcast
      obtain ⟨hee,hxx⟩:=J9o hcast
      injection hee with hee; subst hee
      have hxx:xs=xs':=hxx
      subst hxx
      injection he with he; injection he with e1 e2; injection e2 with e2 e3; subst e1; subst e2; subst e3
      obtain ⟨te,ns,ha,hr⟩:=Jrt (ty:=o.type) hT hh hty hadd hps.2 hy hpure
      rw [hx] at hv
      have hod:J74 (J6q st.heap l) []=some ⟨e',xs⟩:=by rw [hob]; rfl
      obtain ⟨g,hg,hd,ho,hcase⟩:=Jae hh hod hv
      obtain ⟨hk1,kk1⟩:=hh.kill ho
      have hlive:(J6q st.heap l).live=true:=by rw [hob]; rfl
      have hle:List.length xs+List.length ys≤2147483648:=hps.1
      have hset:(st.heap.set l .dead).length=st.heap.length:=by simp
      rcases hcase with ⟨hb0,hnil,hpk,hgk⟩ | ⟨b,off,cs,U,cap,hb,hpk,hcap,hheap,hp,hkk,hrep⟩
      ·have hnil:xs=[]:=hnil
       subst hnil
       by_cases hm:List.length ys=0
       ·have hys:ys=[]:=List.eq_nil_of_length_eq_zero hm
        subst hys
        obtain ⟨r1,r2,r3⟩:=Jj3 hk1 e'
        refine ⟨_,_,_,.inl (run a w _ _ (by rw [hpk]; exact ha.none_ rfl)),r1,Ext.snoc _ _,J76.trans kk1 r2,?_⟩
        rw [hset] at r3; exact r3 _
       ·have hr':=RepC.mono kk1 _ hr
        obtain ⟨v',w',g,hrun,r1,r2,r3⟩:=Jmy hk1 ha hr' (a:=none) (n:=0) (cap:=0) (os:=[]) (xs:=[])
         Jfo ⟨rfl,rfl⟩ (by omega) (by simpa using hle)
        refine ⟨_,_,_,.inl (run a w _ _ (by rw [hpk]; exact hrun)),r1,Ext.snoc _ _,J76.trans kk1 r2,?_⟩
        rw [hset] at r3; exact r3 _
      ·have hpk:a.eval x=.slice (some ⟨b,off,none⟩) (List.length xs) cap:=hpk
       have hcap:List.length xs≤cap:=hcap
       have hrep:RepC w (okB c G st.heap w) (.arr (List.length xs) e') ((cs.toList.drop off).take (List.length xs * e'.size)) xs:=hrep
       have hobj:=hh.objs l _ g ho hg
       rw [hob] at hobj
       obtain ⟨q1,q2,q3,q4,q5⟩:=hobj
       have hval:a.eval x=.slice (g.blk.map fun b=>⟨b,0,none⟩) g.n g.cap:=by
        obtain ⟨t,cs0,⟨g',u,hg',rfl,hu⟩,hpk2⟩:=hv
        rw [hg] at hg'; injection hg' with hg'; subst hg'
        rcases hu with ⟨_,_,rfl,rfl⟩ | ⟨hk,_⟩
        ·exact hpk2
        ·rw [q1] at hk; cases hk
       rw [hb] at hval
       rw [hpk] at hval
       injection hval with v1 v2 v3
       simp only [Option.map_some,Option.some.injEq,Addr.mk.injEq,true_and] at v1
       obtain ⟨rfl,_⟩:=v1
       subst v3
       have hsrc:Jdo P w e'.size (.slice (some ⟨b,0,none⟩) (List.length xs) g.cap) (List.length xs) ((cs.toList.drop 0).take (List.length xs * e'.size)):=
        Jn5 (Jen hheap) (by rw [RepC.len _ hrep]; rfl)
       by_cases hroom:List.length xs+List.length ys≤g.cap
       ·have hnl:=RepC.len _ hr
        simp only [Ty.size] at hnl
        rcases q5 with ⟨q5,_⟩ | ⟨b',C,U',q5,q6,q7,q8⟩
        ·rw [q5] at hb; cases hb
        ·rw [q5] at hb; injection hb with hb; subst hb
         rw [hheap] at q6; injection q6 with q6; injection q6 with q6 q6'; subst q6; subst q6'
         have hfit:List.length xs * e'.size+List.length ys * e'.size≤cs.size:=by
          rw [← Nat.add_mul]; exact Nat.le_trans (Nat.mul_le_mul_right _ hroom) q7
         have hone:∀ u ∈ ns,u.oneCell'=true:=RepC.cells _ hr
         obtain ⟨w',c',hst,hwr,hc'⟩:=J9m (P:=P) b' (List.length xs * e'.size) ns 0 w cs hheap (by rw [hnl]; omega) hone
         have hrun:=ha.fit b' (List.length xs) g.cap w' hroom hst
         have hcsz:c'.size=cs.size:=by
          rw [← Array.length_toList,hc',Jbn]
          ·simp
          ·rw [hnl]; simp; omega
         obtain ⟨r1,r2⟩:=hh.heir (o':=.row e' (xs++ys) true) (g':=⟨.row,some b',e',List.length xs+List.length ys,g.cap⟩) ho hg hlive q5 rfl hwr (fun ok' k=>by
          refine ⟨rfl,rfl,by simp,hroom,.inr ⟨b',c',U,rfl,hwr.here,by rw [hcsz]; exact q7,?_⟩⟩
          have h1:=RepC.mono k _ hrep
          have h2:=RepC.mono k _ hr
          have h3:=RepC.arr_append h1 h2
          have:c'.toList.take ((List.length xs+List.length ys) * e'.size)=(cs.toList.drop 0).take (List.length xs * e'.size)++ns:=by
           rw [hc',Nat.add_zero,splice,List.drop_zero,List.take_append_of_le_length]
           ·rw [List.take_of_length_le]
            simp [hnl,Nat.add_mul]; omega
           ·simp [hnl,Nat.add_mul]; omega
          rw [this]; exact h3) rfl
         refine ⟨_,_,_,.inl (run a w _ _ (by rw [hpk]; exact hrun)),r1,Ext.snoc _ _,r2,?_⟩
         refine ⟨.slice e',_,⟨⟨.row,some b',e',List.length xs+List.length ys,g.cap⟩,_,?_,rfl,.inl ⟨rfl,rfl,rfl,rfl⟩⟩,rfl⟩
         rw [← hh.len]; simp
       ·have hr':=RepC.mono kk1 _ hr
        have hrep':=RepC.mono kk1 _ hrep
        obtain ⟨v',w',g',hrun,r1,r2,r3⟩:=Jmy hk1 ha hr' hsrc hrep' hroom hle
        refine ⟨_,_,_,.inl (run a w _ _ (by rw [hpk]; exact hrun)),r1,Ext.snoc _ _,J76.trans kk1 r2,?_⟩
        rw [hset] at r3; exact r3 _
     ·cases he
    ·cases he
   ·cases he
  ·cases he
 ·cases he
end Go.Ax

namespace Go.Ax
set_option linter.unusedVariables false
set_option linter.unusedSimpArgs false
variable {P : Program} {T : Tab}
def J8t (ss:List (Nat×Slot)) (o:Option Operand) (d:Int):Option Int:=
 match o with
 | none=>some d
 | some x=>match opnd ss x with
  | .v (.int k) n=>some (IK.toInt k n)
  | _=>none
theorem Jka {c:Ctx} {G:List GE} {st:St} {a:Act} {w:World} (hs:SRG c G st a w) {o:Option Operand} {d z:Int} (h:J8t st.slots o d=some z) :
  (o=none∧z=d)∨∃ x k,o=some x∧a.eval x=.int k z:=by
 unfold J8t at h
 split at h
 ·injection h with h; exact .inl ⟨rfl,h.symm⟩
 ·rename_i x
  split at h
  ·rename_i k n hx
   injection h with h; subst h
   have hv:=J6v hs x
   rw [hx] at hv
   exact .inr ⟨x,k,rfl,Jci hv⟩
  ·cases h
theorem Jl8 {c:Ctx} {G:List GE} {st:St} {a:Act} {w:World} (hs:SRG c G st a w) {lo hi:Option Operand} {l h:Int} {len cap:Nat} {sl:Bool}
  (h1:J8t st.slots lo 0=some l) (h2:J8t st.slots hi len=some h) (h3:0≤l∧l≤h∧h≤cap) :
  (Instr.sliceBounds sl len cap (lo.map a.eval) (hi.map a.eval) none).run P w=.ok (l.toNat,h.toNat,cap) w:=by
 obtain ⟨e1,e2,e3⟩:=h3
 have hh:0≤h∧h≤(cap:Int):=⟨by omega,e3⟩
 have hl:0≤l∧l≤((h.toNat:Nat):Int):=⟨e1,by omega⟩
 rcases Jka hs h1 with ⟨rfl,rfl⟩ | ⟨x,k,rfl,hx⟩ <;> rcases Jka hs h2 with ⟨rfl,rfl⟩ | ⟨y,k',rfl,hy⟩
 ·simp [Instr.sliceBounds]
 ·simp [Instr.sliceBounds,Instr.sliceBound,hy,asIntOf,hh]
 ·have hl':0≤l∧l≤(len:Int):=⟨e1,by omega⟩
  simp [Instr.sliceBounds,Instr.sliceBound,hx,asIntOf,hl']
 ·have hl':l≤max h 0:=by omega
  simp [Instr.sliceBounds,Instr.sliceBound,hx,hy,asIntOf,hh,e1,hl']
theorem Cat.take {α:Type} {R:List Value→α→Prop} {sz:Nat} (hl:∀ cs x,R cs x→cs.length=sz):∀ (n:Nat) {cs:List Value} {xs:List α},Cat R cs xs→Cat R (cs.take (n * sz)) (xs.take n)
 | 0,cs,xs,h=>by simp [Cat]
 | n+1,cs,[],h=>by simp only [Cat] at h; subst h; simp [Cat]
 | n+1,cs,x::xs,h=>by
  obtain ⟨c1,c2,rfl,h1,h2⟩:=h
  rw [List.take_succ_cons]
  refine ⟨c1,_,?_,h1,Cat.take hl n h2⟩
  rw [Nat.add_mul,Nat.one_mul,Nat.add_comm,← hl _ _ h1,List.take_length_add_append]
def cutL {α:Type} (xs:List α) (l u:Int):List α:=(xs.take u.toNat).drop l.toNat
theorem Jw8 {w:World} {ok:Nat→Prop} {e:Ty} {xs:List e.den} {ad:Option Addr} {cap:Nat} {l u:Int} (h:RepC w ok (.slice e) [.slice ad (List.length xs) cap] xs)
  (hb:0≤l∧l≤u∧u≤(List.length xs:Int)) :
  RepC w ok (.slice e) [.slice (if cap=l.toNat then ad else ad.map (·.add (l.toNat * e.size))) (u.toNat - l.toNat) (cap - l.toNat)] (cutL xs l u):=by
 obtain ⟨ad',cap',hpk,hcap,hrow⟩:=h
 injection hpk with hpk _; injection hpk with q1 q2 q3; subst q1; subst q3
 have hlen:(cutL xs l u).length=u.toNat - l.toNat:=by
  unfold cutL; rw [List.length_drop,List.length_take]; omega
 refine ⟨_,_,by rw [hlen],by rw [hlen]; omega,?_⟩
 by_cases he:cutL xs l u=[]
 ·exact .inl he
 ·right
  have hpos:0 < (cutL xs l u).length:=List.length_pos_iff.2 he
  rcases hrow with rfl | ⟨b,o,rfl,hok,hrow⟩
  ·simp [cutL] at he
  ·have hne:¬ cap=l.toNat:=by omega
   rw [if_neg hne]
   refine ⟨b,o+l.toNat * e.size,by simp [add_plain],hok,fun i x hx=>?_⟩
   have hx':xs[l.toNat+i]?=some x:=by
    unfold cutL at hx
    rw [List.getElem?_drop,List.getElem?_take] at hx
    split at hx
    ·exact hx
    ·cases hx
   obtain ⟨cs,h1,h2⟩:=hrow _ _ hx'
   refine ⟨cs,h1,fun j hj=>?_⟩
   have:=h2 j hj
   rwa [show o+(l.toNat+i) * e.size+j=o+l.toNat * e.size+i * e.size+j by rw [Nat.add_mul]; omega] at this
theorem Jpe {α:Type} {w:World} {b o:Nat} {cs:List Value} {R:List Value→α→Prop} {sz:Nat} {xs:List α} (hl:∀ cs x,R cs x→cs.length=sz) (h:Cat R cs xs)
  (hc:∀ j,j < cs.length→w.cell? ⟨b,o+j,none⟩=cs[j]?):Jk0 w sz R b o xs:=by
 intro i x hx
 have hi:i < xs.length:=by
  rcases Nat.lt_or_ge i xs.length with y | y
  ·exact y
  ·rw [List.getElem?_eq_none y] at hx; cases hx
 have h1:=Cat.at hl x h hi
 have h3:xs.getD i x=x:=by rw [List.getD_eq_getElem?_getD,hx]; rfl
 rw [h3] at h1
 have hlen:=Cat.len hl h
 have hle:i * sz+sz≤xs.length * sz:=by
  have:=Nat.mul_le_mul_right sz (show i+1≤xs.length from hi)
  rw [Nat.add_mul,Nat.one_mul] at this; exact this
 refine ⟨_,h1,fun j hj=>?_⟩
 rw [List.length_take,List.length_drop] at hj
 rw [List.getElem?_take,if_pos (by omega),List.getElem?_drop,Nat.add_assoc]
 exact hc _ (by omega)
def Jac (T:Tab) (ss:List (Nat×Slot)) (h:List AObj) (tr:Bool) (t:Nat) (s:Slot) (lo hi:Option Operand):Option (List Prop×Slot×List AObj):=
 match T.ty t with
 | some .str=>match s with
  | .v .str x=>match J8t ss lo 0,J8t ss hi (List.length x:Int) with
   | some l,some u=>some ([0≤l∧l≤u∧u≤(List.length x:Int)],.v .str (cutL x l u),h)
   | _,_=>none
  | _=>none
 | some (.arr n e)=>match lo,hi with
  | none,none=>match s with
   | .ptr l p=>if (J6q h l).lay.at p=some (.arr n e)∧(J6q h l).isDead=false then
     match tr,J6q h l with
     | true,.box _ _ _=>some ([],.own l p,h)
     | _,_=>match (J6q h l).slot.get p with
      | .v (.arr n' e') x=>if n'=n∧e'=e then some ([],.v (.slice e') x,freezeIds h [l]) else none
      | _=>none
    else none
   | .ref (.arr n' e') x=>if n'=n∧e'=e then some ([],.v (.slice e') x,h) else none
   | _=>none
  | _,_=>none
 | some (.slice e)=>match s with
  | .nil=>match J8t ss lo 0,J8t ss hi 0 with
   | some l,some u=>some ([l=0∧u=0],.nil,h)
   | _,_=>none
  | .v (.slice e') xs=>if e'=e then match J8t ss lo 0,J8t ss hi (List.length xs:Int) with
    | some l,some u=>some ([0≤l∧l≤u∧u≤(List.length xs:Int)],.v (.slice e') (cutL xs l u),h)
    | _,_=>none
   else none
  | .own l p=>match J74 (J6q h l) p with
   | some r=>if r.e=e then match J8t ss lo 0,J8t ss hi (List.length r.xs:Int) with
     | some z,some u=>match tr with
      | false=>some ([0≤z∧z≤u∧u≤(List.length r.xs:Int)],.v (.slice r.e) (cutL r.xs z u),freezeIds h [l])
      | true=>match p,J6q h l with
       | [],.row e2 xs true=>some ([z=0∧0≤u∧u≤(List.length xs:Int)],.own h.length [],h.set l .dead++[.row e2 (xs.take u.toNat) true])
       | _,_=>none
     | _,_=>none
    else none
   | none=>none
  | _=>none
 | _=>none
theorem Jfi (hT:J78 P T) {t n:Nat} {e:Ty} (ht:T.ty t=some (.arr n e)) (w:World) {v:Value} {a:Addr} (hv:v=.pointer (some a)) (hp:a.spot=none) :
  (Instr.sliceAt t v none none none).run P w=.ok (.slice (some a) n n) w:=by
 obtain ⟨te,by_,hu,hI⟩:=Jrg hT ht w
 subst hv
 have:a.add 0=a:=by obtain ⟨b,o,sp⟩:=a; simp at hp; subst hp; rw [add_plain,Nat.add_zero]
 simp [Instr.sliceAt,hu,Instr.sureAddr,Instr.sliceBounds,hI.run_size,this]
theorem J9a (hT:J78 P T) {t:Nat} {e:Ty} (ht:T.ty t=some (.slice e)) {c:Ctx} {G:List GE} {st:St} {a:Act} {w:World} (hs:SRG c G st a w) {lo hi:Option Operand}
  {l u:Int} {ad:Option Addr} {len cap:Nat} (h1:J8t st.slots lo 0=some l) (h2:J8t st.slots hi (len:Int)=some u) (hb:0≤l∧l≤u∧u≤(cap:Int)) {v:Value}
  (hv:v=.slice ad len cap) :
  (Instr.sliceAt t v (lo.map a.eval) (hi.map a.eval) none).run P w =
   .ok (.slice (if cap=l.toNat then ad else ad.map (·.add (l.toNat * e.size))) (u.toNat - l.toNat) (cap - l.toNat)) w:=by
 obtain ⟨te,by_,hu,_,hI⟩:=Ja5 hT ht w
 subst hv
 simp only [Instr.sliceAt,Sem.run_bind,hu,Result.andThen_ok,Instr.slice,Jl8 hs h1 h2 hb,hI.run_size,Sem.run_pure]
theorem Jg1 (hT:J78 P T) {o:Oper} {st:St} {t:Nat} {x:Operand} {lo hi:Option Operand} {tr:Bool} {s:Slot} {h':List AObj} {ps:List Prop} (hop:o.op=.slice t x lo hi none)
  (he:Jac T st.slots st.heap tr t (opnd st.slots x) lo hi=some (ps,s,h')) (hps:AllP ps):VOp P o st s h':=by
 intro c G a w hs
 have hv:=J6v hs x
 have hh:=hs.toHRG
 have run:∀ v,(Instr.sliceAt t (a.eval x) (lo.map a.eval) (hi.map a.eval) none).run P w=.ok v w→(execOp a.eval o).run P w=.ok (.value v) w:=by
  intro v hr; simp [execOp,hop,hr]
 have same:∀ v s',(execOp a.eval o).run P w=.ok (.value v) w→TRel G w (okB c G st.heap w) s' v→
   ∃ v w' G',((execOp a.eval o).run P w=.ok (.value v) w'∨((execOp a.eval o).run P w=.ok .skip w'∧s'=.undef))∧
   HRG c G' st.heap w'∧Ext G G'∧J76 w w' (okB c G st.heap w) (okB c G' st.heap w')∧TRel G' w' (okB c G' st.heap w') s' v:=
  fun v s' h1 h2=>⟨v,w,G,.inl h1,hh,Ext.refl G,J76.refl _ _,h2⟩
 unfold Jac at he
 split at he
 ·rename_i hty
  split at he
  ·rename_i y hx
   split at he
   ·rename_i l u hl hu
    injection he with he; injection he with e1 e2; injection e2 with e2 e3; subst e1; subst e2; subst e3
    obtain ⟨hb,_⟩:=hps
    rw [hx] at hv
    have hv:=Jh1 hv
    obtain ⟨by_,hg⟩:=Tab.ty_get hty
    obtain ⟨d,hd,hD⟩:=(hT _ _ _ hg).run_under w
    simp only [J7k] at hD; subst hD
    refine same _ _ (run (.string ⟨(cutL y l u).toArray⟩) ?_) (Jto _)
    have hsz:=size_mk y
    have hb2:=Jl8 (P:=P) (sl:=false) (len:=List.length y) (cap:=List.length y) hs hl hu hb
    simp only [Instr.sliceAt,Sem.run_bind,hd,Result.andThen_ok,Instr.slice,hv,Option.isSome_none,Bool.false_eq_true,if_false,Sem.run_pure,hsz,hb2]
    have hex:(⟨y.toArray⟩:ByteArray).extract l.toNat u.toNat=⟨(cutL y l u).toArray⟩:=by
     apply ByteArray.ext
     rw [ByteArray.data_extract]
     simp [cutL,List.drop_take]
    rw [hex]
   ·cases he
  ·cases he
 ·rename_i n e hty
  split at he
  ·split at he
   ·rename_i l p hx
    split at he
    ·rename_i hc
     rw [hx] at hv
     obtain ⟨g,b,off,cs,U,hg,hb,hpk,hheap,hp,hrel,hle,hlay,_⟩:=J9r hh (Ja1 hc.2) hc.1 hc.2 hv
     have hr:=run _ (Jfi hT hty w hpk rfl)
     split at he
     ·rename_i t0 s0 lv hob
      injection he with he; injection he with e1 e2; injection e2 with e2 e3; subst e1; subst e2; subst e3
      refine same _ _ hr ?_
      have hobj:=hh.objs l _ g (Ja1 hc.2) hg
      rw [hob] at hobj
      have hk:=hobj.1
      refine ⟨.slice e,_,⟨g,_,hg,rfl,.inr ⟨hk,b,off,n,e,hb,?_,rfl,rfl⟩⟩,rfl⟩
      rw [← hlay] at hp
      simpa [GE.lay,hk] using hp
     ·split at he
      ·rename_i n' e' y hy
       split at he
       ·rename_i hne
        obtain ⟨rfl,rfl⟩:=hne
        injection he with he; injection he with e1 e2; injection e2 with e2 e3; subst e1; subst e2; subst e3
        obtain ⟨h1,k⟩:=hh.freezeIds [l]
        refine ⟨_,w,G,.inl hr,h1,Ext.refl G,k,?_⟩
        have h6:=Slot.get_ok hrel hp
        rw [hy] at h6
        obtain ⟨_,h7⟩:=h6
        have hn:List.length y=n':=h7.1
        have hle2:=POff.le hp
        rw [J9n hle2] at h7
        have hcat:Cat (RepC w (okB c G st.heap w) e') ((cs.toList.drop off).take (List.length y * e'.size)) y:=by rw [hn]; exact h7.2
        have hrow:=Jbj hheap (fun cs x=>RepC.len e') hcat
        have hokb:okB c G (freezeIds st.heap [l]) w b:=Jo7 hh (Ja1 hc.2) hg hc.2 hb (List.mem_cons_self ..)
        have:=Jk0.mono (ok:=fun z=>z=b) (ok':=okB c G (freezeIds st.heap [l]) w) (w:=w) (w':=w) ⟨fun z hz=>by rw [hz]; exact hokb,fun _ _ _ _ h=>h⟩ (fun cs x h=>RepC.mono k e' h) rfl hrow
        exact ⟨.slice e',_,⟨rfl,_,n',by rw [hn],by rw [hn]; exact Nat.le_refl _,.inr ⟨b,off,rfl,hokb,this⟩⟩,rfl⟩
       ·cases he
      ·cases he
    ·cases he
   ·rename_i n' e' y hx
    split at he
    ·rename_i hne
     obtain ⟨rfl,rfl⟩:=hne
     injection he with he; injection he with e1 e2; injection e2 with e2 e3; subst e1; subst e2; subst e3
     rw [hx] at hv
     obtain ⟨tt,cs,⟨rfl,b,off,cs',rfl,hok,hrep,hcell⟩,hpk⟩:=hv
     have hpk:a.eval x=.pointer (some ⟨b,off,none⟩):=hpk
     refine same _ _ (run _ (Jfi hT hty w hpk rfl)) ?_
     obtain ⟨hn,hcat⟩:=hrep
     refine ⟨.slice e',_,⟨rfl,_,n',by rw [hn],by rw [hn]; exact Nat.le_refl _,.inr ⟨b,off,rfl,hok,?_⟩⟩,rfl⟩
     exact Jpe (fun cs x=>RepC.len e') hcat hcell
    ·cases he
   ·cases he
  ·cases he
 ·rename_i e hty
  split at he
  ·rename_i hx
   split at he
   ·rename_i l u hl hu
    injection he with he; injection he with e1 e2; injection e2 with e2 e3; subst e1; subst e2; subst e3
    obtain ⟨⟨hl0,hu0⟩,_⟩:=hps
    subst hl0; subst hu0
    rw [hx] at hv
    obtain ⟨tt,cs,⟨⟨e',rfl⟩,rfl⟩,hpk⟩:=hv
    have hpk:a.eval x=.slice none 0 0:=hpk
    have:=J9a (P:=P) (len:=0) (cap:=0) hT hty hs hl hu (by omega) hpk
    exact same _ _ (run _ this) ⟨.slice e',_,⟨⟨e',rfl⟩,rfl⟩,rfl⟩
   ·cases he
  ·rename_i e' xs hx
   split at he
   ·rename_i hee
    subst hee
    split at he
    ·rename_i l u hl hu
     injection he with he; injection he with e1 e2; injection e2 with e2 e3; subst e1; subst e2; subst e3
     obtain ⟨hb,_⟩:=hps
     rw [hx] at hv
     obtain ⟨tt,cs,⟨rfl,hrep⟩,hpk⟩:=hv
     obtain ⟨ad,cap,rfl,hcap,hrow⟩:=hrep
     have hpk:a.eval x=.slice ad (List.length xs) cap:=hpk
     have:=J9a (P:=P) hT hty hs hl hu ⟨hb.1,hb.2.1,by omega⟩ hpk
     exact same _ _ (run _ this) ⟨.slice e',_,⟨rfl,Jw8 ⟨ad,cap,rfl,hcap,hrow⟩ hb⟩,rfl⟩
    ·cases he
   ·cases he
  ·rename_i l p hx
   split at he
   ·rename_i r hr
    split at he
    ·rename_i hee
     subst hee
     split at he
     ·rename_i z u hl hu
      rw [hx] at hv
      split at he
      ·injection he with he; injection he with e1 e2; injection e2 with e2 e3; subst e1; subst e2; subst e3
       obtain ⟨hb,_⟩:=hps
       obtain ⟨h1,k⟩:=hh.freezeIds [l]
       have has:J7o st.heap (.slice r.e) (.own l p)=some r.xs:=by simp [J7o,hr,cast?]
       obtain ⟨cs,hrep,hpk⟩:=J8w (ids:=[l]) hh (by simp [Slot.ids]) has hv
       obtain ⟨ad,cap,rfl,hcap,hrow⟩:=hrep
       have hpk:a.eval x=.slice ad (List.length r.xs) cap:=hpk
       have:=J9a (P:=P) hT hty hs hl hu ⟨hb.1,hb.2.1,by omega⟩ hpk
       exact ⟨_,w,G,.inl (run _ this),h1,Ext.refl G,k,⟨.slice r.e,_,⟨rfl,Jw8 ⟨ad,cap,rfl,hcap,hrow⟩ hb⟩,rfl⟩⟩
      ·split at he
       ·rename_i e2 xs hob
        injection he with he; injection he with e1 e2; injection e2 with e2 e3; subst e1; subst e2; subst e3
        obtain ⟨⟨hz,hu0,hul⟩,_⟩:=hps
        subst hz
        have hmax:r=⟨e2,xs⟩:=by
         rw [hob] at hr; simp only [J74,Option.some.injEq] at hr; exact hr.symm
        subst hmax
        have hlive:(J6q st.heap l).live=true:=by rw [hob]; rfl
        obtain ⟨g,hg,hd,ho,hcase⟩:=Jae hh hr hv
        have hobj:=hh.objs l _ g ho hg
        rw [hob] at hobj
        obtain ⟨q1,q2,q3,q4,q5⟩:=hobj
        have hval:a.eval x=.slice (g.blk.map fun b=>⟨b,0,none⟩) g.n g.cap:=by
         obtain ⟨t,cs0,⟨g',u',hg',rfl,hu'⟩,hpk2⟩:=hv
         rw [hg] at hg'; injection hg' with hg'; subst hg'
         rcases hu' with ⟨_,_,rfl,rfl⟩ | ⟨hk,_⟩
         ·exact hpk2
         ·rw [q1] at hk; cases hk
        have hu':J8t st.slots hi (g.n:Int)=some u:=by rw [q3]; exact hu
        have hrun:=run _ (J9a (P:=P) hT hty hs hl hu' ⟨by omega,hu0,by omega⟩ hval)
        have hlen:List.length (xs.take u.toNat)=u.toNat:=by rw [List.length_take]; omega
        simp only [Int.toNat_zero,Nat.zero_mul,Nat.sub_zero] at hrun
        rcases q5 with ⟨hb0,hc0⟩ | ⟨b,cs,U,hb,hheap,hsz,hrep⟩
        ·obtain ⟨hk1,kk1⟩:=hh.kill ho
         have hu00:u.toNat=0:=by omega
         obtain ⟨r1,r2,r3⟩:=Jj3 hk1 e2
         rw [hu00,List.take_zero]
         rw [hb0,hc0,hu00] at hrun
         refine ⟨_,_,_,.inl hrun,r1,Ext.snoc _ _,J76.trans kk1 r2,?_⟩
         rw [List.length_set] at r3; exact r3 _
        ·have hwr:Wrote w w b cs U:=⟨hheap,fun _ _=>rfl,rfl,rfl,rfl,rfl⟩
         have hrw:(if g.cap=0 then g.blk.map (fun b=>(⟨b,0,none⟩:Addr)) else (g.blk.map fun b=>(⟨b,0,none⟩:Addr)).map (·.add 0))=some ⟨b,0,none⟩:=by
          rw [hb]; split <;> simp [add_plain]
         rw [hrw] at hrun
         obtain ⟨r1,r2⟩:=hh.heir (o':=.row e2 (xs.take u.toNat) true) (g':=⟨.row,some b,e2,u.toNat,g.cap⟩) ho hg hlive hb rfl hwr (fun ok' k=>by
          refine ⟨rfl,rfl,hlen.symm,(show u.toNat≤g.cap by omega),.inr ⟨b,cs,U,rfl,hheap,hsz,?_⟩⟩
          refine ⟨hlen,?_⟩
          have h1:=Cat.mono (fun _ _=>RepC.mono k e2) hrep.2
          have h2:=Cat.take (fun cs x=>RepC.len e2) u.toNat h1
          rw [List.take_take,Nat.min_eq_left (Nat.mul_le_mul_right _ (by omega))] at h2
          exact h2) rfl
         refine ⟨_,_,_,.inl hrun,r1,Ext.snoc _ _,r2,?_⟩
         refine ⟨.slice e2,_,⟨⟨.row,some b,e2,u.toNat,g.cap⟩,_,?_,rfl,.inl ⟨rfl,rfl,rfl,rfl⟩⟩,rfl⟩
         rw [← hh.len]; simp
       ·cases he
     ·cases he
    ·cases he
   ·cases he
  ·cases he
 ·cases he
def Je2 (T:Tab) (h:List AObj) (t:Nat) (l c:Slot):Option (List Prop×Slot×List AObj):=
 match T.ty t with
 | some (.slice e)=>match e.pure,l,c with
  | true,.v (.int .i64) l,.v (.int .i64) c=>some ([(0:Int)≤l∧l≤c∧c≤(2147483648:Int)],.own h.length [],h++[.row e (List.replicate (Int.toNat l) e.zero) true])
  | _,_,_=>none
 | _=>none
theorem Jcd (z:Array Value) (n:Nat):(madeCells z (n * z.size)).toList=(List.replicate n z.toList).flatten:=by
 have:madeCells z (n * z.size)=Builtin.zeroCells z n:=rfl
 rw [this,Jcg]
theorem Jz7 {cs:List Value} {n m:Nat} (h:n≤m):((List.replicate m cs).flatten).take (n * cs.length)=(List.replicate n cs).flatten:=by
 obtain ⟨k,rfl⟩:=Nat.exists_eq_add_of_le h
 rw [← List.replicate_append_replicate,List.flatten_append,List.take_append_of_le_length (by simp),List.take_of_length_le (by simp)]
theorem Jk2 (hT:J78 P T) {o:Oper} {st:St} {t:Nat} {x y:Operand} {s:Slot} {h':List AObj} {ps:List Prop} (hop:o.op=.makeSlice t x y)
  (he:Je2 T st.heap t (opnd st.slots x) (opnd st.slots y)=some (ps,s,h')) (hps:AllP ps):VOp P o st s h':=by
 intro c G a w hs
 have hx:=J6v hs x
 have hy:=J6v hs y
 have hh:=hs.toHRG
 unfold Je2 at he
 split at he
 ·rename_i e hty
  split at he
  ·rename_i ts tl tc l cc hp hl hc
   injection he with he; injection he with e1 e2; injection e2 with e2 e3; subst e1; subst e2; subst e3
   obtain ⟨⟨h0,h1,h2⟩,_⟩:=hps
   rw [hl] at hx; rw [hc] at hy
   have hx:=Jci hx
   have hy:=Jci hy
   obtain ⟨te,by_,hu,hg2,hI⟩:=Ja5 hT hty w
   obtain ⟨b0,hg⟩:=Tab.ty_get hty
   obtain ⟨d,hd,te',hdd,hte'⟩:=(hT _ _ _ hg).desc
   have hte:te'=te:=by
    subst hdd
    simp [underlying,hd] at hu; exact hu
   subst hte; subst hdd
   obtain ⟨i,z,hi,hsz,hby,hz,hzc⟩:=hI.zero_cells hp
   have hzs:z.cells.size=i.size:=by rw [← Array.length_toList,hzc,J7p,hsz]
   have hbb:i.bytes≤65536:=by rw [hby]; exact hI.small
   obtain ⟨m,rfl⟩:=Int.eq_ofNat_of_zero_le h0
   obtain ⟨n,rfl⟩:=Int.eq_ofNat_of_zero_le (show (0:Int)≤cc from Int.le_trans h0 h1)
   have h1:(m:Int)≤(n:Int):=h1
   have h2:(n:Int)≤(2147483648:Int):=h2
   have hb3:((i.bytes:Nat):Int) * (n:Int)≤281474976710656:=by
    have:=Jek (show n≤2147483648 by omega) hbb
    rw [Nat.mul_comm] at this
    have h3:((i.bytes * n:Nat):Int)≤281474976710656:=by omega
    rwa [Int.natCast_mul] at h3
   have hr:=run_make (P:=P) w t te' i z hd hi hz .i64 .i64 (m:Int) (n:Int) (by omega) h1 hb3 (by omega)
   simp only [Int.toNat_natCast] at hr ⊢
   have hlen:List.length (List.replicate m e.zero)=m:=by simp
   have hC:(madeCells z.cells (n * i.size)).toList=(List.replicate n (J77 e)).flatten:=by rw [← hzs,Jcd,hzc]
   obtain ⟨r1,r2,r3⟩:=Jqs hh rfl rfl rfl rfl (zs:=List.replicate m e.zero) (C:=madeCells z.cells (n * i.size)) te' (cap:=n) (by rw [hlen]; omega)
    (by rw [size_madeCells,hsz]; exact Nat.le_refl _)
    (by rw [hlen,hC,← J7p e,Jz7 (by omega)]; exact ⟨by simp,J88 (Jaq w _ e hp) m⟩)
   rw [hlen] at r1 r2 r3
   refine ⟨_,_,_,.inl ?_,r1,Ext.snoc _ _,r2,r3 _⟩
   simp only [execOp,hop]
   have hx:a.eval x=.int .i64 (m:Int):=hx
   have hy:a.eval y=.int .i64 (n:Int):=hy
   rw [hx,hy]
   simp [hr]
  ·cases he
 ·cases he
end Go.Ax

namespace Go.Ax
set_option linter.unusedVariables false
set_option linter.unusedSimpArgs false
variable {P : Program} {T : Tab}
def Jwk (T:Tab) (h:List AObj) (t:Nat) (s x:Slot):Option (Slot×List AObj):=
 match T.ty t with
 | some (.slice e)=>match s with
  | .own l p=>match J74 (J6q h l) p with
   | some r=>if r.e=e then match Jly h r.e x with
     | some ys=>match (J6q h l).put p (.v (.arr (List.length r.xs) r.e) (ys.take (List.length r.xs)++r.xs.drop (List.length ys))) with
      | some o'=>some (.v (.int .i64) ((Nat.min (List.length ys) (List.length r.xs):Nat):Int),h.set l o')
      | none=>none
     | none=>none
    else none
   | none=>none
  | _=>none
 | _=>none
theorem Jwp {c:Ctx} {G:List GE} {h:List AObj} {w:World} (hh:HRG c G h w) {e:Ty} {x:Slot} {ys:List e.den} {v:Value}
  (hx:Jly h e x=some ys) (hv:TRel G w (okB c G h w) x v):∃ ns,Jdo P w e.size v (List.length ys) ns∧RepC w (okB c G h w) (.arr (List.length ys) e) ns ys:=by
 by_cases hs:∃ z,x=.v .str z
 ·obtain ⟨z,rfl⟩:=hs
  simp only [Jly,Jz5] at hx
  split at hx
  ·injection hx with hx; subst hx; exact Jo1 hv
  ·cases hx
 ·obtain ⟨ns,_,_,h1,h2,_⟩:=Je4 hh hx (fun z hz=>hs ⟨z,hz⟩) hv
  exact ⟨ns,h1,h2⟩
theorem Jxy {c:Ctx} {G:List GE} {h:List AObj} {w:World} (hh:HRG c G h w) {l:Nat} {p:List Step} {r:Row} {v:Value}
  (hr:J74 (J6q h l) p=some r) (hv:TRel G w (okB c G h w) (.own l p) v) :
  ∃ g,G[l]?=some g∧h[l]?=some (J6q h l)∧((g.blk=none∧r.xs=[]∧v=.slice none 0 0)∨
   ∃ b off cs U cap,g.blk=some b∧v=.slice (some ⟨b,off,none⟩) (List.length r.xs) cap∧w.heap[b]?=some (.cells cs U (0,0))∧
    POff (J6q h l).lay p off (.arr (List.length r.xs) r.e)∧J6y G w (okB c G h w) (J6q h l).slot (J6q h l).lay (cs.toList.take (J6q h l).lay.size)∧(J6q h l).lay.size≤cs.size∧
    (∀ e xs lv,J6q h l=.row e xs lv→g.cap * e.size≤cs.size∧g.n=List.length xs∧g.n≤g.cap)∧(∀ t s lv,J6q h l=.box t s lv→cs.size=t.size)∧
    RepC w (okB c G h w) (.arr (List.length r.xs) r.e) ((cs.toList.drop off).take (List.length r.xs * r.e.size)) r.xs):=by
 obtain ⟨g,hg,hd,ho,hcase⟩:=Jae hh hr hv
 refine ⟨g,hg,ho,?_⟩
 rcases hcase with ⟨h1,h2,h3,_⟩ | ⟨b,off,cs,U,cap,hb,hpk,hcap,hheap,hp,hk,hrep⟩
 ·exact .inl ⟨h1,h2,h3⟩
 ·right
  have hptr:TRel G w (okB c G h w) (.ptr l p) (.pointer (some ⟨b,off,none⟩)):=⟨.ptr,_,⟨rfl,g,_,hg,rfl,hk,b,off,_,hb,hp,rfl⟩,rfl⟩
  have hlay:g.lay=(J6q h l).lay:=by
   have hobj:=hh.objs l _ g ho hg
   generalize J6q h l=o at *
   cases o with
   | row e xs lv=>simp [GE.lay,AObj.lay,hobj.1,hobj.2.1,hobj.2.2.1]
   | box t s lv=>simp [GE.lay,AObj.lay,hobj.1,hobj.2.1]
   | map _ _ _ _=>exact absurd hobj.1 hk
   | dead=>cases hd
  rw [hlay] at hp
  obtain ⟨g',b',off',cs',U',hg',hb',hpk',hheap',hp',hrel,hle,hlay',hrow,hbox⟩:=J9r hh ho (POff.at_eq hp) hd hptr
  rw [hg] at hg'; injection hg' with hg'; subst hg'
  rw [hb] at hb'; injection hb' with hb'; subst hb'
  rw [hheap] at hheap'; injection hheap' with hheap'; injection hheap' with q1 q2; subst q1; subst q2
  exact ⟨b,off,cs,U,cap,hb,hpk,hheap,hp,hrel,hle,hrow,hbox,hrep⟩
theorem Cat.drop {α:Type} {R:List Value→α→Prop} {sz:Nat} (hl:∀ cs x,R cs x→cs.length=sz):∀ (n:Nat) {cs:List Value} {xs:List α},Cat R cs xs→Cat R (cs.drop (n * sz)) (xs.drop n)
 | 0,cs,xs,h=>by simpa using h
 | n+1,cs,[],h=>by simp only [Cat] at h; subst h; simp [Cat]
 | n+1,cs,x::xs,h=>by
  obtain ⟨c1,c2,rfl,h1,h2⟩:=h
  rw [List.drop_succ_cons,Nat.add_mul,Nat.one_mul,Nat.add_comm,← hl _ _ h1,List.drop_length_add_append]
  rw [hl _ _ h1]
  exact Cat.drop hl n h2
theorem Jn4 {cs a:List Value} {o n:Nat} (h:a.length≤n) (hn:o+n≤cs.length):splice cs o (a++((cs.drop o).take n).drop a.length)=splice cs o a:=by
 have hl:(a++((cs.drop o).take n).drop a.length).length=n:=by
  rw [List.length_append,List.length_drop,List.length_take,List.length_drop]; omega
 unfold splice
 rw [hl]
 simp only [List.append_assoc]
 congr 2
 have:cs.drop (o+a.length)=(cs.drop o).drop a.length:=by rw [List.drop_drop]
 rw [this]
 conv=>rhs; rw [← List.take_append_drop n (cs.drop o)]
 rw [List.drop_append_of_le_length (by rw [List.length_take,List.length_drop]; omega),List.drop_drop]
theorem Jw5 {w:World} {t te:TypeId} {at_:Array TypeId} {ty:TypeId} {v:Value} {m size:Nat} {ns:List Value} (hs:Jdo P w size v m ns) (ht:at_[0]?=some t)
  (hu:(underlying t).run P w=.ok (.slice te) w) (hz:(sizeOf te).run P w=.ok size w):(Builtin.copy_ at_ ty #[.slice none 0 0,v]).run P w=.ok (.int .i64 0) w:=by
 have h0:Nat.min m 0=0:=Nat.min_zero m
 have:=hs.pre 0 (Nat.zero_le _)
 simp [Builtin.copy_,ht,hu,hs.len,hz,h0,this,goInt]
theorem Jwl (hT:J78 P T) {o:Oper} {st:St} {t:Nat} {x y:Operand} {cl:Call} {s:Slot} {h':List AObj} (hop:o.op=.call cl) (hc:cl.callee=.builtin .copy)
  (hargs:cl.args=#[x,y]) (ht:cl.argTypes[0]?=some t) (he:Jwk T st.heap t (opnd st.slots x) (opnd st.slots y)=some (s,h')):VOp P o st s h':=by
 have run:∀ (a:Act) (w:World) v w',(Builtin.copy_ cl.argTypes o.type #[a.eval x,a.eval y]).run P w=.ok v w'→(execOp a.eval o).run P w=.ok (.value v) w':=by
  intro a w v w' hr
  simp [execOp,hop,resolve,hc,hargs,invoke,builtin,hr]
 intro c G a w hs
 have hv:=J6v hs x
 have hy:=J6v hs y
 have hh:=hs.toHRG
 unfold Jwk at he
 split at he
 ·rename_i e hty
  obtain ⟨te,by_,hu,_,hI⟩:=Ja5 hT hty w
  split at he
  ·rename_i l p hx
   split at he
   ·rename_i r hr
    split at he
    ·rename_i hee
     subst hee
     split at he
     ·rename_i ys hys
      split at he
      ·rename_i o' hput
       injection he with he; injection he with e1 e2; subst e1; subst e2
       rw [hx] at hv
       obtain ⟨ns,hsrc,hrep⟩:=Jwp (P:=P) hh hys hy
       obtain ⟨g,hg,ho,hcase⟩:=Jxy hh hr hv
       have hlive:=(AObj.put_live hput).1
       rcases hcase with ⟨hb0,hnil,hpk⟩ | ⟨b,off,cs,U,cap,hb,hpk,hheap,hp,hrel,hle,hrow,hbox,hrep2⟩
       ·have hobj:=hh.objs l _ g ho hg
        have hsame:o'=J6q st.heap l:=by
         generalize J6q st.heap l=ob at *
         cases ob with
         | row e xs lv=>
          cases p with
          | cons _ _=>simp [J74] at hr
          | nil=>
           simp only [J74,Option.some.injEq] at hr; subst hr
           have hnil:xs=[]:=hnil
           subst hnil
           simp only [AObj.live] at hlive; subst hlive
           simp only [AObj.put,Slot.set,List.length_nil,List.take_zero,List.drop_nil,List.append_nil] at hput
           simp [cast?] at hput
           exact hput.symm
         | box t s lv=>obtain ⟨_,_,b,_,_,hb,_⟩:=hobj; rw [hb0] at hb; cases hb
         | map _ _ _ _=>simp [J74] at hr
         | dead=>simp [J74] at hr
        have hset:st.heap.set l o'=st.heap:=by
         rw [hsame]; apply List.ext_getElem?; intro k; rw [Jb3 ho]; split
         ·rename_i h; rw [h]; exact ho.symm
         ·rfl
        have hmin:Nat.min (List.length ys) (List.length r.xs)=0:=by rw [hnil]; exact Nat.min_zero _
        rw [hset,hmin]
        refine ⟨_,w,G,.inl (run a w _ _ (by rw [hpk]; exact Jw5 hsrc ht hu (hI.run_size w))),hh,Ext.refl G,J76.refl _ _,J7q .i64 (0:Int)⟩
       ·have hnl:=RepC.len _ hrep
        simp only [Ty.size] at hnl
        have hol:=RepC.len _ hrep2
        simp only [Ty.size] at hol
        have hn:Nat.min (List.length ys) (List.length r.xs)≤List.length ys:=Nat.min_le_left _ _
        have hn2:Nat.min (List.length ys) (List.length r.xs)≤List.length r.xs:=Nat.min_le_right _ _
        have hfc:=hsrc.pre (Nat.min (List.length ys) (List.length r.xs)) hn
        have hple:=POff.le hp
        simp only [Ty.size] at hple
        have hmin:Nat.min (List.length ys) (List.length r.xs)=min (List.length ys) (List.length r.xs):=rfl
        generalize hk:Nat.min (List.length ys) (List.length r.xs)=k at *
        have hkl:(ns.take (k * r.e.size)).length=k * r.e.size:=by
         rw [List.length_take,hnl]
         have:=Nat.mul_le_mul_right r.e.size hn
         omega
        have hkx:k * r.e.size≤List.length r.xs * r.e.size:=Nat.mul_le_mul_right _ hn2
        have hone:∀ u ∈ ns.take (k * r.e.size),u.oneCell'=true:=fun u hu=>RepC.cells _ hrep u (List.mem_of_mem_take hu)
        obtain ⟨w',arr',hst,hwr,hsp⟩:=J9m (P:=P) b off (ns.take (k * r.e.size)) 0 w cs hheap (by rw [hkl]; omega) hone
        have hzs:ys.take (List.length r.xs)++r.xs.drop (List.length ys)=ys.take k++r.xs.drop k:=by
         rcases Nat.le_total (List.length ys) (List.length r.xs) with h | h
         ·have:k=List.length ys:=by omega
          rw [this,List.take_of_length_le h,List.take_length]
         ·have:k=List.length r.xs:=by omega
          rw [this,List.drop_of_length_le h,List.drop_length]
        have hzl:(ys.take (List.length r.xs)++r.xs.drop (List.length ys)).length=List.length r.xs:=by
         rw [List.length_append,List.length_take,List.length_drop]; omega
        have hnew:J6y G w (okB c G st.heap w) (.v (.arr (List.length r.xs) r.e) (ys.take (List.length r.xs)++r.xs.drop (List.length ys))) (.arr (List.length r.xs) r.e)
          (ns.take (k * r.e.size)++((cs.toList.drop off).take (List.length r.xs * r.e.size)).drop (ns.take (k * r.e.size)).length):=by
         refine ⟨rfl,hzl,?_⟩
         rw [hzs,hkl]
         exact Cat.append (Cat.drop (fun cs x=>RepC.len r.e) k hrep2.2) (Cat.take (fun cs x=>RepC.len r.e) k hrep.2)
        obtain ⟨r1,r2,r3⟩:=Jp5 hh ho hput hnew hg hb hp hrel hle hrow hbox hwr (by rw [Nat.add_zero] at hsp; rw [hsp,Jn4 (by rw [hkl]; exact hkx) (by simp; omega)])
        refine ⟨.int .i64 (k:Int),w',G,.inl (run a w _ _ ?_),r1,Ext.refl G,by rw [r2]; exact r3,J7q .i64 (k:Int)⟩
        rw [hpk]
        have hst':(storeCells ⟨b,off,none⟩ (ns.take (k * r.e.size))).run P w=.ok () w':=hst
        simp [Builtin.copy_,ht,hu,hsrc.len,hI.run_size,hk,hfc,hst',goInt]
      ·cases he
     ·cases he
    ·cases he
   ·cases he
  ·cases he
 ·cases he
end Go.Ax

namespace Go.Ax
set_option linter.unusedVariables false
set_option linter.unusedSimpArgs false
variable {P : Program} {T : Tab}
theorem Jif (off:Nat):∀ (vs:List Value) (k:Nat) (cells:Array Value),off+k+vs.length≤cells.size→
  ((vs.zipIdx k).foldl (fun (cs:Array Value) (x:Value×Nat)=>cs.setIfInBounds (off+x.2) x.1) cells).toList=splice cells.toList (off+k) vs
 | [],k,cells,_=>by simp [splice]
 | v::vs,k,cells,h=>by
  simp only [List.length_cons] at h
  rw [List.zipIdx_cons,List.foldl_cons,Jif off vs (k+1) _ (by rw [Array.size_setIfInBounds]; omega),Jlc _ _ _ (by omega),← Nat.add_assoc off k 1,Jfn]
  simp; omega
theorem Jry (off:Nat) (v:Value) (vs:List Value) (hv:v.cells.toList=vs) (cells:Array Value) (h:off+vs.length≤cells.size) :
  (v.cells.zipIdx.foldl (fun (cs:Array Value) (x:Value×Nat)=>cs.setIfInBounds (off+x.2) x.1) cells).toList=splice cells.toList off vs:=by
 have:=Jif off vs 0 cells (by omega)
 rw [Nat.add_zero] at this
 rw [← this,← Array.foldl_toList,Array.toList_zipIdx,hv]
def stepOf:Ty→Nat→Option (Step×Ty)
 | .arr n e,i=>if i < n then some (.idx i,e) else none
 | .fld a r,i=>match (Ty.fld a r).field i with
  | some (_,t)=>some (.fld i,t)
  | none=>none
 | _,_=>none
def Ju4 (h:List AObj) (ss:List (Nat×Slot)) (ty:Ty):List (Nat×Operand)→Slot→Option Slot
 | [],s=>some s
 | (i,x)::r,s=>match stepOf ty i with
  | some (st,t)=>if fits h (opnd ss x) t=true then Ju4 h ss ty r (s.set [st] (opnd ss x)) else none
  | none=>none
theorem Jm4 {c:Ctx} {G:List GE} {st:St} {a:Act} {w:World} (hs:SRG c G st a w) {ty:Ty} {place:Nat→Option (Nat×Nat)}
  (hpl:∀ i sp t,stepOf ty i=some (sp,t)→∃ off,place i=some (off,t.size)∧POff ty [sp] off t) :
  ∀ (parts:List (Nat×Operand)) (s s':Slot) (cells:Array Value),J6y G w (okB c G st.heap w) s ty cells.toList→Ju4 st.heap st.slots ty parts s=some s'→
   ∃ cells',Instr.fill place cells (parts.map fun x=>(x.1,a.eval x.2))=some cells'∧J6y G w (okB c G st.heap w) s' ty cells'.toList
 | [],s,s',cells,h,he=>by injection he with he; subst he; exact ⟨cells,rfl,h⟩
 | (i,x)::r,s,s',cells,h,he=>by
  unfold Ju4 at he
  split at he
  ·rename_i sp t hst
   split at he
   ·rename_i hf
    obtain ⟨off,h1,h2⟩:=hpl i sp t hst
    obtain ⟨cs,h3,h4,h5⟩:=Jm7 hs.toHRG hf (J6v hs x)
    have hl:=J6y.len _ h3
    have hcl:=J6y.len _ h
    rw [Array.length_toList] at hcl
    have hv:(a.eval x).cells.toList=cs:=by rw [h4]; exact pack_cells hl (J6y.cells _ h5 h3)
    have hvs:(a.eval x).cells.size=t.size:=by rw [← Array.length_toList,hv,hl]
    have hle:=POff.le h2
    have hfo:=Jry off (a.eval x) cs hv cells (by rw [hl]; omega)
    obtain ⟨cells',h6,h7⟩:=Jm4 hs hpl r (s.set [sp] (opnd st.slots x)) s' _ (by rw [hfo]; exact Slot.set_ok h h2 h3) he
    refine ⟨cells',?_,h7⟩
    simp only [List.map_cons,Instr.fill,h1]
    rw [if_neg (by simp [hvs]; omega)]
    exact h6
   ·cases he
  ·cases he
def Jlq (T:Tab) (ss:List (Nat×Slot)) (h:List AObj) (t:Nat) (parts:Array (Nat×Operand)):Option (Slot×List AObj):=
 match T.ty t with
 | some ty=>if ty.isAgg then match Ju4 h ss ty parts.toList (Jfs ty) with
   | some s=>some (told h ty s)
   | none=>none
  else none
 | none=>none
def Jh9 (T:Tab) (ss:List (Nat×Slot)) (h:List AObj) (t:Nat) (parts:Array (Nat×Operand)):Option Slot:=
 match T.ty t with
 | some ty=>if ty.isAgg then Ju4 h ss ty parts.toList (Jfs ty) else none
 | none=>none
theorem run_places (hT:J78 P T) (w:World):∀ {fs:List Field} {ty:Ty} {o:Nat},J9l T fs ty o→
  ∃ places,(fs.mapM fun f=>Prod.mk f.offset <$> sizeOf f.type).run P w=.ok places w∧
   ∀ (i o1:Nat) (t:Ty),ty.field i=some (o1,t)→places[i]?=some (o+o1,t.size)
 | [],.unit,o,_=>⟨[],by simp,fun i o1 t h=>by cases i <;> simp [Ty.field] at h⟩
 | f::fs,.fld a r,o,hF=>by
  obtain ⟨h1,h2,h3⟩:=hF
  obtain ⟨places,h4,h5⟩:=run_places hT w h3
  obtain ⟨by_,hg⟩:=Tab.ty_get h1
  have hsz:=(hT _ _ _ hg).run_size w
  refine ⟨(o,a.size)::places,by simp [List.mapM_cons,hsz,h4,h2],fun i o1 t h=>?_⟩
  cases i with
  | zero=>
   simp only [Ty.field,Option.some.injEq,Prod.mk.injEq] at h
   obtain ⟨rfl,rfl⟩:=h; rfl
  | succ i=>
   simp only [Ty.field] at h
   cases hr:r.field i with
   | none=>rw [hr] at h; cases h
   | some z=>
    obtain ⟨z1,z2⟩:=z
    rw [hr] at h
    simp only [Option.some.injEq,Prod.mk.injEq] at h
    obtain ⟨rfl,rfl⟩:=h
    rw [List.getElem?_cons_succ,h5 i z1 z2 hr,Nat.add_assoc]
 | [],.int _,_,hF=>hF.elim
 | [],.bool,_,hF=>hF.elim
 | [],.str,_,hF=>hF.elim
 | [],.flt,_,hF=>hF.elim
 | [],.cplx,_,hF=>hF.elim
 | [],.ptr,_,hF=>hF.elim
 | [],.mp,_,hF=>hF.elim
 | [],.fn,_,hF=>hF.elim
 | [],.arr _ _,_,hF=>hF.elim
 | [],.slice _,_,hF=>hF.elim
 | [],.fld _ _,_,hF=>hF.elim
 | _::_,.unit,_,hF=>hF.elim
 | _::_,.int _,_,hF=>hF.elim
 | _::_,.bool,_,hF=>hF.elim
 | _::_,.str,_,hF=>hF.elim
 | _::_,.flt,_,hF=>hF.elim
 | _::_,.cplx,_,hF=>hF.elim
 | _::_,.ptr,_,hF=>hF.elim
 | _::_,.mp,_,hF=>hF.elim
 | _::_,.fn,_,hF=>hF.elim
 | _::_,.arr _ _,_,hF=>hF.elim
 | _::_,.slice _,_,hF=>hF.elim
theorem Ji5 (hT:J78 P T) {o:Oper} {st:St} {t:Nat} {parts:Array (Nat×Operand)} {s:Slot} (hop:o.op=.build t parts)
  (he:Jh9 T st.slots st.heap t parts=some s):VOp P o st s st.heap:=by
 unfold Jh9 at he
 split at he
 ·rename_i ty hty
  split at he
  ·rename_i hag
   have hfill:=he
   ·refine VOp.pure fun c G a w hs=>?_
    obtain ⟨by_,hg⟩:=Tab.ty_get hty
    have hI:=hT _ _ _ hg
    have hz:=hI.run_zero (by rintro rfl; cases hag) (by rintro rfl; cases hag) w
    have hzc:(pack ty (J77 ty)).cells.toList=J77 ty:=pack_cells (J7p ty) (J87 ty)
    obtain ⟨d,hd,hD⟩:=hI.run_under w
    have hstart:J6y G w (okB c G st.heap w) (Jfs ty) ty (pack ty (J77 ty)).cells.toList:=by rw [hzc]; exact Jd9 G w _ ty
    have fin:∀ cells',J6y G w (okB c G st.heap w) s ty cells'.toList→TRel G w (okB c G st.heap w) s (.agg cells'):=by
     intro cells' h
     have:=TRel.of h
     rwa [pack,if_pos hag] at this
    cases ty with
    | arr n e=>
     obtain ⟨te,rfl,hte⟩:=hD
     obtain ⟨b2,hg2⟩:=Tab.ty_get hte
     have hse:=(hT _ _ _ hg2).run_size w
     obtain ⟨cells',h1,h2⟩:=Jm4 hs (place:=fun i=>some (i * e.size,e.size)) (fun i sp t h=>by
      simp only [stepOf] at h
      split at h
      ·rename_i hi
       injection h with h; injection h with q1 q2; subst q1; subst q2
       exact ⟨_,rfl,n,e,0,rfl,hi,⟨rfl,rfl⟩,by omega⟩
      ·cases h) parts.toList (Jfs (.arr n e)) s _ hstart hfill
     refine ⟨_,?_,fin _ h2⟩
     have h1':Instr.fill (fun i=>some (i * e.size,e.size)) (pack (.arr n e) (J77 (.arr n e))).cells ((parts.map fun x=>(x.1,a.eval x.2)).toList)=some cells':=by
      rw [Array.toList_map]; exact h1
     simp only [execOp,hop,Instr.build,Sem.run_bind,hz,hd,Result.andThen_ok,hse,h1',Sem.run_pure]
    | fld a' r'=>
     obtain ⟨fs,rfl,hF⟩:=hD
     obtain ⟨places,hp1,hp2⟩:=run_places hT w hF
     have hpl:(Array.mapM (fun f=>do pure (f.offset,← sizeOf f.type)) fs:Sem (Array (Nat×Nat))).run P w=.ok places.toArray w:=by
      have:(fun f:Field=>(do pure (f.offset,← sizeOf f.type):Sem (Nat×Nat)))=fun f=>Prod.mk f.offset <$> sizeOf f.type:=by
       funext f; rw [map_eq_pure_bind]
      rw [this,Array.mapM_eq_mapM_toList]
      simp [hp1]
     obtain ⟨cells',h1,h2⟩:=Jm4 hs (place:=fun i=>places.toArray[i]?) (fun i sp t h=>by
      simp only [stepOf] at h
      cases hf:(Ty.fld a' r').field i with
      | none=>rw [hf] at h; cases h
      | some z=>
       obtain ⟨z1,z2⟩:=z
       rw [hf] at h
       injection h with h; injection h with q1 q2; subst q1; subst q2
       exact ⟨0+z1,by simp only [List.getElem?_toArray]; exact hp2 i z1 z2 hf,z1,z2,0,hf,⟨rfl,rfl⟩,by omega⟩) parts.toList (Jfs (.fld a' r')) s _ hstart hfill
     refine ⟨_,?_,fin _ h2⟩
     have h1':Instr.fill (fun i=>places.toArray[i]?) (pack (.fld a' r') (J77 (.fld a' r'))).cells ((parts.map fun x=>(x.1,a.eval x.2)).toList)=some cells':=by
      rw [Array.toList_map]; exact h1
     simp only [execOp,hop,Instr.build,Sem.run_bind,hz,hd,Result.andThen_ok,hpl,h1',Sem.run_pure]
    | unit=>
     obtain ⟨fs,rfl,hF⟩:=hD
     obtain ⟨places,hp1,hp2⟩:=run_places hT w hF
     have hpl:(Array.mapM (fun f=>do pure (f.offset,← sizeOf f.type)) fs:Sem (Array (Nat×Nat))).run P w=.ok places.toArray w:=by
      have:(fun f:Field=>(do pure (f.offset,← sizeOf f.type):Sem (Nat×Nat)))=fun f=>Prod.mk f.offset <$> sizeOf f.type:=by
       funext f; rw [map_eq_pure_bind]
      rw [this,Array.mapM_eq_mapM_toList]
      simp [hp1]
     obtain ⟨cells',h1,h2⟩:=Jm4 hs (ty:=.unit) (place:=fun i=>places.toArray[i]?) (fun i sp t h=>by cases h) parts.toList (Jfs .unit) s _ hstart hfill
     refine ⟨_,?_,fin _ h2⟩
     have h1':Instr.fill (fun i=>places.toArray[i]?) (pack .unit (J77 .unit)).cells ((parts.map fun x=>(x.1,a.eval x.2)).toList)=some cells':=by
      rw [Array.toList_map]; exact h1
     simp only [execOp,hop,Instr.build,Sem.run_bind,hz,hd,Result.andThen_ok,hpl,h1',Sem.run_pure]
    | _=>cases hag
  ·cases he
 ·cases he
theorem Jkb (hT:J78 P T) {o:Oper} {st:St} {t:Nat} {parts:Array (Nat×Operand)} {s:Slot} {h':List AObj} (hop:o.op=.build t parts)
  (he:Jlq T st.slots st.heap t parts=some (s,h')):VOp P o st s h':=by
 have hr:=fun s0=>Ji5 (P:=P) (st:=st) hT (s:=s0) hop
 unfold Jh9 at hr
 unfold Jlq at he
 split at he
 ·rename_i ty hty
  simp only [hty] at hr
  split at he
  ·rename_i hag
   split at he
   ·rename_i s0 hfill
    injection he with he
    have e1:s=(told st.heap ty s0).1:=by rw [he]
    have e2:h'=(told st.heap ty s0).2:=by rw [he]
    subst e1; subst e2
    exact VOp.told ty (hr s0 (by rw [if_pos hag]; exact hfill))
   ·cases he
  ·cases he
 ·cases he
def Ki (h:List AObj) (ss:List (Nat×Slot)) (e:Ty) (n:Nat):List (Nat×Operand)→List e.den→Option (List e.den)
 | [],xs=>some xs
 | (i,x)::r,xs=>if i < n then match J7o h e (opnd ss x) with
   | some y=>Ki h ss e n r (xs.set i y)
   | none=>none
  else none
def Jd0 (ss:List (Nat×Slot)):List (Nat×Operand)→List Nat
 | []=>[]
 | (_,x)::r=>(opnd ss x).ids++Jd0 ss r
theorem Jrx {c:Ctx} {G:List GE} {st:St} {a:Act} {w:World} (hs:SRG c G st a w) {e:Ty} {n:Nat} {ids:List Nat} :
  ∀ (parts:List (Nat×Operand)) (xs ys:List e.den) (cells:Array Value),(∀ l ∈ Jd0 st.slots parts,l ∈ ids)→
   RepC w (okB c G (freezeIds st.heap ids) w) (.arr n e) cells.toList xs→Ki st.heap st.slots e n parts xs=some ys→
   ∃ cells',Instr.fill (fun i=>some (i * e.size,e.size)) cells (parts.map fun x=>(x.1,a.eval x.2))=some cells'∧
    RepC w (okB c G (freezeIds st.heap ids) w) (.arr n e) cells'.toList ys
 | [],xs,ys,cells,_,h,he=>by injection he with he; subst he; exact ⟨cells,rfl,h⟩
 | (i,x)::r,xs,ys,cells,hi,h,he=>by
  unfold Ki at he
  split at he
  ·rename_i hin
   split at he
   ·rename_i y hy
    obtain ⟨cs,h3,h4⟩:=J8w (ids:=ids) hs.toHRG (fun l hl=>hi l (by simp [Jd0,hl])) hy (J6v hs x)
    have hl:=RepC.len _ h3
    have hcl:=RepC.len _ h
    rw [Array.length_toList] at hcl
    simp only [Ty.size] at hcl
    have hv:(a.eval x).cells.toList=cs:=by rw [h4]; exact pack_cells hl (RepC.cells _ h3)
    have hvs:(a.eval x).cells.size=e.size:=by rw [← Array.length_toList,hv,hl]
    have hle:(i+1) * e.size≤n * e.size:=Nat.mul_le_mul_right _ hin
    rw [Nat.add_mul,Nat.one_mul] at hle
    have hfo:=Jry (i * e.size) (a.eval x) cs hv cells (by rw [hl]; omega)
    have hput:RepC w (okB c G (freezeIds st.heap ids) w) (.arr n e) (splice cells.toList (i * e.size) cs) (xs.set i y):=by
     refine ⟨by rw [List.length_set]; exact h.1,?_⟩
     have:=Cat.put (R:=RepC w (okB c G (freezeIds st.heap ids) w) e) (fun cs x=>RepC.len e) h3 h.2 (by rw [h.1]; exact hin)
     rw [splice,hl]; exact this
    obtain ⟨cells',h6,h7⟩:=Jrx hs r (xs.set i y) ys _ (fun l hl=>hi l (by simp [Jd0,hl])) (by rw [hfo]; exact hput) he
    refine ⟨cells',?_,h7⟩
    simp only [List.map_cons,Instr.fill]
    rw [if_neg (by simp [hvs]; omega)]
    exact h6
   ·cases he
  ·cases he
def Jcq (T:Tab) (ss:List (Nat×Slot)) (h:List AObj) (t n:Nat) (parts:Array (Nat×Operand)):Option (Slot×List AObj):=
 match T.ty t with
 | some (.slice e)=>if e.pure=true∧n * e.size≤16777216 then match Ki h ss e n parts.toList (List.replicate n e.zero) with
   | some xs=>some (.own h.length [],freezeIds h (Jd0 ss parts.toList)++[.row e xs true])
   | none=>none
  else none
 | _=>none
theorem Ji6 (hT:J78 P T) {o:Oper} {st:St} {t n:Nat} {parts:Array (Nat×Operand)} {s:Slot} {h':List AObj} (hop:o.op=.buildSlice t n parts)
  (he:Jcq T st.slots st.heap t n parts=some (s,h')):VOp P o st s h':=by
 intro c G a w hs
 have hh:=hs.toHRG
 unfold Jcq at he
 split at he
 ·rename_i e hty
  split at he
  ·rename_i hc
   obtain ⟨hp,hlim⟩:=hc
   split at he
   ·rename_i xs hfill
    injection he with he; injection he with e1 e2; subst e1; subst e2
    obtain ⟨te,by_,hu,hg2,hI⟩:=Ja5 hT hty w
    have hne1:e≠.mp:=by rintro rfl; cases hp
    have hne2:e≠.fn:=by rintro rfl; cases hp
    have hz:=hI.run_zero hne1 hne2 w
    have hzc:(pack e (J77 e)).cells.toList=J77 e:=pack_cells (J7p e) (J87 e)
    have hzs:(pack e (J77 e)).cells.size=e.size:=by rw [← Array.length_toList,hzc,J7p]
    have hmade:(madeCells (pack e (J77 e)).cells (n * e.size)).toList=(List.replicate n (J77 e)).flatten:=by
     have:=Jcd (pack e (J77 e)).cells n
     rw [hzs,hzc] at this; exact this
    have hfr:=hh.freezeIds (Jd0 st.slots parts.toList)
    obtain ⟨cells',h1,h2⟩:=Jrx hs (ids:=Jd0 st.slots parts.toList) parts.toList (List.replicate n e.zero) xs (madeCells (pack e (J77 e)).cells (n * e.size)) (fun l hl=>hl)
     ⟨by simp,by rw [hmade]; exact J88 (Jaq w _ e hp) n⟩ hfill
    have hxl:List.length xs=n:=h2.1
    have hcl:=RepC.len _ h2
    rw [Array.length_toList] at hcl
    simp only [Ty.size] at hcl
    obtain ⟨r1,r2,r3⟩:=Jqs hfr.1 rfl rfl rfl rfl (zs:=xs) (C:=cells') te (cap:=n) (by rw [hxl]; exact Nat.le_refl _) (by rw [hcl]; exact Nat.le_refl _)
     (by rw [hxl,List.take_of_length_le (by rw [Array.length_toList,hcl]; exact Nat.le_refl _)]; exact h2)
    have hsz:(freezeIds st.heap (Jd0 st.slots parts.toList)).length=st.heap.length:=Jev _ _
    rw [hsz,hxl] at r3
    rw [hxl] at r1 r2
    refine ⟨_,_,_,.inl ?_,r1,Ext.snoc _ _,J76.trans hfr.2 r2,r3 _⟩
    have hnl:¬ (16777216 < n * e.size):=by omega
    by_cases h0:n * e.size=0
    ·have hm:madeCells (pack e (J77 e)).cells (n * e.size)=#[]:=by
      apply Array.eq_empty_of_size_eq_zero; rw [size_madeCells,h0]
     rw [hm] at h1
     simp only [execOp,hop,Instr.buildSlice,Sem.run_bind,hu,hI.run_size,Result.andThen_ok,gt_iff_lt]
     simp only [h0]
     simp [h1,newRow,Array.range_zero']
    ·simp only [execOp,hop,Instr.buildSlice,Sem.run_bind,hu,hI.run_size,Result.andThen_ok,gt_iff_lt]
     simp only [madeCells] at h1
     simp [hnl,h0,hz,newRow]
     simp [h1]
   ·cases he
  ·cases he
 ·cases he
end Go.Ax

namespace Go.Ax
set_option linter.unusedVariables false
set_option linter.unusedSimpArgs false
variable {P : Program} {T : Tab}
theorem TyI.under {t:Nat} {ty:Ty} {b:Nat} (h:TyI P T t ty b):∃ d,P.underlying t=some d∧J7k T d ty∧∀ w,(underlying t).run P w=.ok d w:=by
 obtain ⟨d,hd,h1⟩:=h.desc
 exact ⟨d,hd,h1,fun w=>by simp [underlying,hd]⟩
def Jkc (T:Tab) (h:List AObj) (src dst:Nat) (s:Slot):Option (List Prop×Slot×List AObj):=
 match T.ty src,T.ty dst with
 | some .str,some .str=>match s with
  | .v .str x=>some ([],.v .str x,h)
  | _=>none
 | some .str,some (.slice (.int .u8))=>match s with
  | .v .str x=>some ([],.v (.slice (.int .u8)) x,h)
  | _=>none
 | some (.slice (.int .u8)),some .str=>match s with
  | .v .str _=>none
  | s=>match Jly h (.int .u8) s with
   | some ys=>some ([],.v .str ys,h)
   | none=>none
 | some (.slice (.int .u8)),some (.slice (.int .u8))=>if src=dst then match s with
   | .own l []=>match J6q h l with
    | .row (.int .u8) (x::xs) true=>some ([],.v (.slice (.int .u8)) (x::xs),h.set l .dead)
    | _=>none
   | _=>none
  else none
 | some (.int _),some (.int k')=>match s with
  | .v (.int k) x=>match K2s k k' x with
   | some s=>some ([],s,h)
   | none=>none
  | _=>none
 | some (.int _),some .flt=>match s with
  | .v (.int .i64) n=>some ([Int.natAbs n < 9007199254740992],.v .flt n,h)
  | _=>none
 | some .flt,some (.int .i64)=>match s with
  | .v .flt n=>some ([],.v (.int .i64) n,h)
  | _=>none
 | _,_=>none
theorem marked {w:World} {b n:Nat} {cs:Array Value} {U:TypeId} (h:w.heap[b]?=some (.cells cs U (0,0))) :
  (∀ k o,(w.freeze ⟨b,n,none⟩ 1).cell? ⟨k,o,none⟩=w.cell? ⟨k,o,none⟩)∧(∀ k,k≠b→(w.freeze ⟨b,n,none⟩ 1).heap[k]?=w.heap[k]?)∧
  (w.freeze ⟨b,n,none⟩ 1).heap.size=w.heap.size∧(w.freeze ⟨b,n,none⟩ 1).os=w.os∧(w.freeze ⟨b,n,none⟩ 1).tape=w.tape∧(w.freeze ⟨b,n,none⟩ 1).output=w.output:=by
 have hb:(w.freeze ⟨b,n,none⟩ 1).heap[b]?=some (.cells cs U (n,n+1)):=by
  simp [World.freeze,Array.getElem?_modify,h]
 have ho:∀ k,k≠b→(w.freeze ⟨b,n,none⟩ 1).heap[k]?=w.heap[k]?:=by
  intro k hk
  simp [World.freeze,Array.getElem?_modify,Ne.symm hk]
 refine ⟨fun k o=>?_,ho,by simp [World.freeze],rfl,rfl,rfl⟩
 by_cases hk:k=b
 ·subst hk; rw [cell?_here hb,cell?_here h]
 ·exact cell?_of_heap (ho k hk) o
theorem HRG.mark {c : Ctx} {G : List GE} {h : List AObj} {w w' : World} {b l : Nat} {o : AObj} {g : GE} (hh : HRG c G h w) (hl : h[l]? = some o) (hg : G[l]? = some g) (hlive : o.live = true)
    (hb : g.blk = some b) (hcell : ∀ k o, w'.cell? ⟨k, o, none⟩ = w.cell? ⟨k, o, none⟩) (hother : ∀ k, k ≠ b → w'.heap[k]? = w.heap[k]?) (hsz : w'.heap.size = w.heap.size)
    (h1 : w'.os = w.os) (h2 : w'.tape = w.tape) (h3 : w'.output = w.output) :
    HRG c G (h.set l .dead) w' ∧ J76 w w' (okB c G h w) (okB c G (h.set l .dead) w') ∧ okB c G (h.set l .dead) w' b := by
  obtain ⟨hk, kk⟩ := hh.kill hl
  have hown : Jch G h b := ⟨l, o, g, hl, hg, hlive, hb⟩
  have hnd : ∀ (k : Nat) (o' : AObj) (g' : GE), (h.set l .dead)[k]? = some o' → G[k]? = some g' → o'.isDead = false → g'.blk ≠ some b := by
    intro k o' g' e1 e2 e3 e4
    rw [Jb3 hl] at e1
    split at e1
    · injection e1 with e1; subst e1; cases e3
    · rename_i hne
      exact hne (hh.inj k l g' g o' o b e2 hg e1 hl e3 (Jby hlive) e4 hb)
  have k : J76 w w' (okB c G h w) (okB c G (h.set l .dead) w') :=
    ⟨fun x hx => ⟨by rw [hsz]; exact (kk.sub x hx).1, (kk.sub x hx).2⟩, fun x o v hx hv => by rw [hcell]; exact hv⟩
  have k2 : J76 w w' (okB c G (h.set l .dead) w) (okB c G (h.set l .dead) w') := ⟨fun x hx => ⟨by rw [hsz]; exact hx.1, hx.2⟩, fun x o v hx hv => by rw [hcell]; exact hv⟩
  refine ⟨?_, k, ?_⟩
  · refine { EA := hk.EA, len := hk.len, inj := hk.inj, inE := fun l o g b a1 a2 a3 a4 => by rw [hsz]; exact hk.inE l o g b a1 a2 a3 a4, inL := hk.inL, frame := fun x y z => ?_, big := by rw [hsz]; exact hk.big,
             os := h1.trans hk.os, tape := h2.trans hk.tape, output := h3.trans hk.output, objs := fun l' o' g' a1 a2 => ?_ }
    · have hne : x ≠ b := by
        rintro rfl
        rcases hh.inL _ hown with q | q
        · exact z q
        · omega
      rw [hother x hne]; exact hk.frame x y z
    · cases hd : o'.isDead with
      | true => cases o' <;> simp [AObj.isDead] at hd; trivial
      | false => exact ORel.mono (Ext.refl G) k2 (fun x hx => hother x (fun e => hnd l' o' g' a1 a2 hd (by rw [hx, e]))) o' (hk.objs l' o' g' a1 a2)
  · obtain ⟨q1, q2⟩ := hh.inE l o g b hl hg (Jby hlive) hb
    refine ⟨by rw [hsz]; exact q1, fun q3 => ?_, ?_⟩
    · rcases q2 with q2 | q2
      · exact hh.EA b q2
      · omega
    · rintro ⟨l', o', g', e1, e2, e3, e4⟩
      exact hnd l' o' g' e1 e2 (Jby e3) e4
theorem J9c (hT:J78 P T) {t:Nat} {k:IntKind} (ht:T.ty t=some (.int k)):P.underlying t=some (.int k):=by
 obtain ⟨b,hg⟩:=Tab.ty_get ht
 obtain ⟨d,hd,hD,_⟩:=(hT _ _ _ hg).under
 rw [hd,show d=.int k from hD]
theorem Jd7 (hT:J78 P T) {t:Nat} (ht:T.ty t=some .str):P.underlying t=some .string:=by
 obtain ⟨b,hg⟩:=Tab.ty_get ht
 obtain ⟨d,hd,hD,_⟩:=(hT _ _ _ hg).under
 rw [hd,show d=.string from hD]
theorem Jpq (hT:J78 P T) {t:Nat} (ht:T.ty t=some .flt):P.underlying t=some (.float .f64):=by
 obtain ⟨b,hg⟩:=Tab.ty_get ht
 obtain ⟨d,hd,hD,_⟩:=(hT _ _ _ hg).under
 rw [hd,show d=.float .f64 from hD]
theorem J9j (hT:J78 P T) {t:Nat} {e:Ty} (ht:T.ty t=some (.slice e)):∃ te by_,P.underlying t=some (.slice te)∧T.get te=some (e,by_):=by
 obtain ⟨b,hg⟩:=Tab.ty_get ht
 obtain ⟨d,hd,⟨te,rfl,hte⟩,_⟩:=(hT _ _ _ hg).under
 obtain ⟨b2,hg2⟩:=Tab.ty_get hte
 exact ⟨te,b2,hd,hg2⟩
theorem Jwv {t:Nat} {ty:Ty} {b:Nat} (h:T.get t=some (ty,b)):T.ty t=some ty:=by unfold Tab.ty; rw [h]
theorem Jws {n:Int} (h:n.natAbs < 9007199254740992):IntKind.i64.min≤n∧n≤IntKind.i64.max:=by
 have e1:IntKind.i64.min=-9223372036854775808:=by decide
 have e2:IntKind.i64.max=9223372036854775807:=by decide
 rw [e1,e2]; omega
theorem Jnz (hT:J78 P T) {o:Oper} {st:St} {src dst:Nat} {x:Operand} {s:Slot} {h':List AObj} {ps:List Prop} (hop:o.op=.convert src dst x)
  (he:Jkc T st.heap src dst (opnd st.slots x)=some (ps,s,h')) (hps:AllP ps):VOp P o st s h':=by
 intro c G a w hs
 have hv:=J6v hs x
 have hh:=hs.toHRG
 have run:∀ v w',(convert src dst (a.eval x)).run P w=.ok v w'→(execOp a.eval o).run P w=.ok (.value v) w':=by
  intro v w' hr; simp [execOp,hop,hr]
 have same:∀ v s',(execOp a.eval o).run P w=.ok (.value v) w→TRel G w (okB c G st.heap w) s' v→
   ∃ v w' G',((execOp a.eval o).run P w=.ok (.value v) w'∨((execOp a.eval o).run P w=.ok .skip w'∧s'=.undef))∧
   HRG c G' st.heap w'∧Ext G G'∧J76 w w' (okB c G st.heap w) (okB c G' st.heap w')∧TRel G' w' (okB c G' st.heap w') s' v:=
  fun v s' h1 h2=>⟨v,w,G,.inl h1,hh,Ext.refl G,J76.refl _ _,h2⟩
 unfold Jkc at he
 split at he
 ·rename_i h1 h2
  split at he
  ·rename_i y hx
   injection he with he; injection he with e1 e2; injection e2 with e2 e3; subst e1; subst e2; subst e3
   rw [hx] at hv
   have hv:=Jh1 hv
   refine same _ _ (run _ _ ?_) (Jto y)
   simp [convert,run_underlying (Jd7 hT h1),run_underlying (Jd7 hT h2),hv]
  ·cases he
 ·rename_i h1 h2
  split at he
  ·rename_i y hx
   injection he with he; injection he with e1 e2; injection e2 with e2 e3; subst e1; subst e2; subst e3
   rw [hx] at hv
   have hv:=Jh1 hv
   obtain ⟨te,by_,hu,hg⟩:=J9j hT h2
   have hr:=run_bytes_of_string w src dst te ⟨y.toArray⟩ (Jd7 hT h1) hu (J9c hT (Jwv hg))
   rw [← hv] at hr
   have hold:∀ (O:Obj) (b:Nat),b < w.heap.size→(w.drew.alloc O).heap[b]?=w.heap[b]?:=fun O b hb=>heap_alloc_old w.drew O b hb
   obtain ⟨r1,r2,r3⟩:=hh.junk (w':=w.drew.alloc (.cells (bytesRow ⟨y.toArray⟩ (grownCap w (⟨y.toArray⟩:ByteArray).size 0 te)) te
    ((bytesRow ⟨y.toArray⟩ (grownCap w (⟨y.toArray⟩:ByteArray).size 0 te)).size,(bytesRow ⟨y.toArray⟩ (grownCap w (⟨y.toArray⟩:ByteArray).size 0 te)).size+1))) (hold _) (by simp) rfl rfl rfl
   refine ⟨_,_,G,.inl (run _ _ hr),r1,Ext.refl G,r2,?_⟩
   rw [size_mk]
   refine ⟨.slice (.int .u8),_,⟨rfl,_,_,rfl,J9p w _ _ _,?_⟩,rfl⟩
   right
   refine ⟨w.heap.size,0,rfl,r3 _ (Nat.le_refl _) (by simp),?_⟩
   refine Jbj (c:=bytesRow ⟨y.toArray⟩ (grownCap w (List.length y) 0 te)) (U:=te) (f:=((bytesRow ⟨y.toArray⟩ (grownCap w (List.length y) 0 te)).size,(bytesRow ⟨y.toArray⟩ (grownCap w (List.length y) 0 te)).size+1)) ?_ (fun cs x=>RepC.len (.int .u8)) ?_
   ·exact heap_alloc_new w.drew _
   ·rw [List.drop_zero]
    simp only [bytesRow,Array.toList_append,Array.toList_map]
    rw [List.take_append_of_le_length (by simp [Ty.size]),List.take_of_length_le (by simp [Ty.size])]
    exact Jfv _ _ y
  ·cases he
 ·rename_i h1 h2
  have hcv:∀ s',(∀ z,s'≠.v .str z)→opnd st.slots x=s'→(match Jly st.heap (.int .u8) s' with | some ys=>some (([]:List Prop),Slot.v .str ys,st.heap) | none=>none)=some (ps,s,h')→
    ∃ v w' G',((execOp a.eval o).run P w=.ok (.value v) w'∨((execOp a.eval o).run P w=.ok .skip w'∧s=.undef))∧
   HRG c G' h' w'∧Ext G G'∧J76 w w' (okB c G st.heap w) (okB c G' h' w')∧TRel G' w' (okB c G' h' w') s v:=by
   intro s' hns hx he
   split at he
   ·rename_i ys hys
    injection he with he; injection he with e1 e2; injection e2 with e2 e3; subst e1; subst e2; subst e3
    rw [hx] at hv
    obtain ⟨ns,ad,cap,hsrc,hrep,hpk,hcap⟩:=Je4 (P:=P) hh hys hns hv
    obtain ⟨te,by_,hu,hg⟩:=J9j hT h1
    have hte:=J9c hT (Jwv hg)
    have hds:=Jd7 hT h2
    have hnl:=RepC.len _ hrep
    refine same _ _ (run (.string ⟨List.toArray ys⟩) w ?_) (Jto ys)
    rw [hpk]
    have hcells:=hsrc.cells w rfl
    rw [hpk] at hcells
    have hnseq:ns=(List.map (fun b:UInt8=>(b.toNat:Int)) ys).map (Value.int .u8):=by
     have:∀ (ns:List Value) (ys:List UInt8),Cat (RepC w (okB c G st.heap w) (.int .u8)) ns ys→ns=(List.map (fun b:UInt8=>(b.toNat:Int)) ys).map (Value.int .u8):=by
      intro ns ys
      induction ys generalizing ns with
      | nil=>intro h; simpa [Cat] using h
      | cons y ys ih=>
       rintro ⟨c1,c2,rfl,q1,q2⟩
       simp only [RepC] at q1
       rw [ih _ q2,q1]; rfl
     exact this _ _ hrep.2
    cases ad with
    | none=>
     have:(Builtin.firstCells (Ty.int IntKind.u8).size (List.length ys) (.slice none (List.length ys) cap)).run P w=.ok #[] w:=by simp [Builtin.firstCells]
     rw [this] at hcells
     injection hcells with hcells _
     have hn0:ns=[]:=by have:=congrArg Array.toList hcells; simpa using this.symm
     have:ys=[]:=by
      rw [hn0] at hnseq
      have:=congrArg List.length hnseq
      simp at this
      exact List.eq_nil_of_length_eq_zero this.symm
     rw [this]
     rw [run_convert_bytes_string w src dst te _ _ _ hu hte hds]
     simp [Conv.bytesToString]; rfl
    | some ad=>
     simp only [Builtin.firstCells,Ty.size,Nat.mul_one] at hcells
     rw [run_convert_bytes_string w src dst te _ _ _ hu hte hds,run_bytesToString w ad _ cap (List.map (fun b:UInt8=>(b.toNat:Int)) ys) (by rw [hcells,hnseq]),foldl_push_byteCells]
     have he0:ByteArray.empty.data=#[]:=rfl
     rw [he0]; simp
   ·cases he
  split at he
  ·cases he
  ·rename_i s' hns
   exact hcv _ (fun z hz=>hns z hz) rfl he
 ·rename_i h1 h2
  split at he
  ·rename_i hsd
   subst hsd
   split at he
   ·rename_i l hx
    split at he
    ·rename_i y ys hob
     injection he with he; injection he with e1 e2; injection e2 with e2 e3; subst e1; subst e2; subst e3
     rw [hx] at hv
     have hr:J74 (J6q st.heap l) []=some ⟨.int .u8,y::ys⟩:=by rw [hob]; rfl
     obtain ⟨g,hg,hd,ho,hcase⟩:=Jae hh hr hv
     rcases hcase with ⟨_,hnil,_⟩ | ⟨b,off,cs,U,cap,hb,hpk,hcap,hheap,hp,hk,hrep⟩
     ·cases hnil
     ·have hpk:a.eval x=.slice (some ⟨b,off,none⟩) (List.length (y::ys)) cap:=hpk
      have hcap:List.length (y::ys)≤cap:=hcap
      have hrep:RepC w (okB c G st.heap w) (.arr (List.length (y::ys)) (.int .u8)) ((cs.toList.drop off).take (List.length (y::ys) * 1)) (y::ys):=hrep
      obtain ⟨te,by_,hu,hg2⟩:=J9j hT h1
      have hte:=J9c hT (Jwv hg2)
      obtain ⟨m1,m2,m3,m4,m5,m6⟩:=marked (n:=cs.size) hheap
      obtain ⟨r1,r2,r3⟩:=hh.mark ho hg (by rw [hob]; rfl) hb m1 m2 m3 m4 m5 m6
      refine ⟨_,_,G,.inl (run (a.eval x) _ ?_),r1,Ext.refl G,r2,?_⟩
      ·have hsh:w.shape? b=some (U,cs.size):=by simp [World.shape?,hheap]
       rw [hpk]
       simp [convert,run_underlying hu,run_underlying hte,markStringish,hsh]
      ·rw [hpk]
       refine ⟨.slice (.int .u8),_,⟨rfl,_,cap,rfl,hcap,.inr ⟨b,off,rfl,r3,?_⟩⟩,rfl⟩
       have hrow:=Jbj (R:=RepC w (okB c G st.heap w) (.int .u8)) hheap (fun cs x=>RepC.len (.int .u8)) hrep.2
       refine Jk0.mono (ok:=fun z=>z=b) ⟨fun z hz=>hz ▸ r3,fun b o v _ hv=>by rw [m1]; exact hv⟩ (fun cs x h=>RepC.mono r2 (.int .u8) h) rfl hrow
    ·cases he
   ·cases he
  ·cases he
 ·rename_i k0 k' h1 h2
  split at he
  ·rename_i k y hx
   split at he
   ·rename_i s0 hc
    injection he with he; injection he with e1 e2; injection e2 with e2 e3; subst e1; subst e2; subst e3
    rw [hx] at hv
    have hv:=Jci hv
    refine same _ _ (run _ w ?_) (Jzy hc)
    rw [hv]
    simp [convert,run_underlying (J9c hT h1),run_underlying (J9c hT h2),Conv.intToInt]
   ·cases he
  ·cases he
 ·rename_i k0 h1 h2
  split at he
  ·rename_i n hx
   injection he with he; injection he with e1 e2; injection e2 with e2 e3; subst e1; subst e2; subst e3
   rw [hx] at hv
   have hv:=Jci hv
   refine same _ _ (run _ w ?_) (Jzm hps.1)
   rw [hv]
   simp [convert,run_underlying (J9c hT h1),run_underlying (Jpq hT h2),Conv.intToFloat]
  ·cases he
 ·rename_i h1 h2
  split at he
  ·rename_i n hx
   injection he with he; injection he with e1 e2; injection e2 with e2 e3; subst e1; subst e2; subst e3
   rw [hx] at hv
   obtain ⟨hn,hv⟩:=Jve hv
   refine same _ _ (run _ w ?_) (J7q .i64 n)
   rw [hv]
   have hmm:=Jws hn
   simp only [convert,Sem.run_bind,run_underlying (Jpq hT h1),run_underlying (J9c hT h2),Result.andThen_ok,Conv.floatToInt,Jn8 n hn]
   rw [if_pos hmm,Sem.run_pure]
  ·cases he
 ·cases he
end Go.Ax

namespace Go.Ax
set_option linter.unusedVariables false
set_option linter.unusedSimpArgs false
variable {P : Program} {T : Tab}
def J83 (P:Program) (T:Tab):List Nat→Bool
 | []=>true
 | t::r=>(match T.ty t with
  | some ty=>ty.isAgg && eqB P T 20 t ty && !P.eqGuardType P.depth t
  | none=>false) && J83 P T r
theorem Jty {E:List Nat} (h:J83 P T E=true) {t:Nat} (ht:t ∈ E):∃ ty,T.ty t=some ty∧ty.isAgg=true∧eqB P T 20 t ty=true∧P.eqGuardType P.depth t=false:=by
 induction E with
 | nil=>cases ht
 | cons t' r ih=>
  simp only [J83,Bool.and_eq_true] at h
  rcases List.mem_cons.1 ht with rfl | ht
  ·have h1:=h.1
   split at h1
   ·rename_i ty hty
    simp only [Bool.and_eq_true,Bool.not_eq_true'] at h1
    exact ⟨ty,hty,h1.1.1,h1.1.2,h1.2⟩
   ·cases h1
  ·exact ih h.2 ht
def eqOp (op:BinOp) (b:Bool):Option Bool:=
 match op with
 | .eql=>some b
 | .neq=>some (!b)
 | _=>none
theorem Jbt (d:Nat) {t te:TypeId} {w:World} (hu:P.underlying t=some (.slice te)) {ad:Option Addr} {n m:Nat} :
  (Op.equalIn (d+1) t (.slice ad n m) (.slice none 0 0)).run P w=.ok ad.isNone w:=by
 cases ad <;> simp [Op.equalIn,run_underlying hu]
theorem Je1 (d:Nat) {t te:TypeId} {w:World} (hu:P.underlying t=some (.pointer te)) {ad:Option Addr} :
  (Op.equalIn (d+1) t (.pointer ad) (.pointer none)).run P w=.ok ad.isNone w:=by
 cases ad <;> simp [Op.equalIn,run_underlying hu]
def K1r {α:Type}:List α→Bool
 | []=>true
 | _::_=>false
def K8 (T:Tab) (E:List Nat) (t:Nat) (op:BinOp) (s1 s2:Slot):Res:=
 match bin T t op s1 s2 with
 | some r=>some r
 | none=>match s1,s2 with
  | .v t1 x,.v t2 y=>if h:t1=t2 then (if T.ty t=some t1∧E.contains t=true then
    match eqOp op (t1.beq x (h ▸ y)) with
    | some b=>some ([],.v .bool b)
    | none=>none
   else none) else none
  | .nil,.nil=>match T.ty t,eqOp op true with | some (.slice _),some b=>some ([],.v .bool b) | _,_=>none
  | .v (.slice _) xs,.nil=>match T.ty t,eqOp op true with
   | some (.slice _),some _=>(match K1r xs with
    | true=>some ([],.anyb)
    | false=>match eqOp op false with
     | some b=>some ([],.v .bool b)
     | none=>none)
   | _,_=>none
  | .own _ _,.nil=>match T.ty t,eqOp op true with | some (.slice _),some _=>some ([],.anyb) | _,_=>none
  | .ptr _ _,.nilp=>match T.ty t,eqOp op false with | some .ptr,some b=>some ([],.v .bool b) | _,_=>none
  | .ref _ _,.nilp=>match T.ty t,eqOp op false with | some .ptr,some b=>some ([],.v .bool b) | _,_=>none
  | .nilp,.nilp=>match T.ty t,eqOp op true with | some .ptr,some b=>some ([],.v .bool b) | _,_=>none
  | _,_=>none
theorem Jgp {op:BinOp} {t:Nat} {u v:Value} {w:World} {z b:Bool} (h:eqOp op b=some z) (hr:(Op.equal t u v).run P w=.ok b w)
  (hk:∀ op,op=.eql∨op=.neq→binOp op t u v=match op with | .eql=>(do pure (.bool (← Op.equal t u v))) | _=>(do pure (.bool (!(← Op.equal t u v))))) :
  (binOp op t u v).run P w=.ok (.bool z) w:=by
 unfold eqOp at h
 split at h
 ·injection h with h; subst h; rw [hk .eql (.inl rfl)]; simp [hr]
 ·injection h with h; subst h; rw [hk .neq (.inr rfl)]; simp [hr]
 ·cases h
theorem Jbw {op:BinOp} {t:Nat} {x y:Operand} {ad:Option Addr} {n m:Nat} {v:Value} (w:World):(eqGuard op t x y (.slice ad n m) v).run P w=.ok () w:=by
 cases op <;> simp [eqGuard]
theorem Jig {op:BinOp} {t:Nat} {x y:Operand} {ad:Option Addr} {v:Value} (w:World):(eqGuard op t x y (.pointer ad) v).run P w=.ok () w:=by
 cases op <;> simp [eqGuard]
theorem Jjw (hT:J78 P T) {t:Nat} (ht:T.ty t=some .ptr):∃ e,P.underlying t=some (.pointer e):=by
 obtain ⟨b,hg⟩:=Tab.ty_get ht
 obtain ⟨d,hd,⟨e,rfl⟩,_⟩:=(hT _ _ _ hg).under
 exact ⟨e,hd⟩
theorem Jru (hT:J78 P T) {E:List Nat} (hE:J83 P T E=true) {o:Oper} {st:St} {op:BinOp} {t yt:Nat} {x y:Operand} {s:Slot} {ps:List Prop} (hop:o.op=.binOp op t x y yt)
  (he:K8 T E t op (opnd st.slots x) (opnd st.slots y)=some (ps,s)) (hps:AllP ps):VOp P o st s st.heap:=by
 refine VOp.pure fun c G a w hs=>?_
 have hx:=J6v hs x
 have hy:=J6v hs y
 have run:∀ v,(eqGuard op t x y (a.eval x) (a.eval y)).run P w=.ok () w→(binOp op t (a.eval x) (a.eval y)).run P w=.ok v w→(execOp a.eval o).run P w=.ok (.value v) w:=by
  intro v h1 h2; simp [execOp,hop,h1,h2]
 unfold K8 at he
 split at he
 ·rename_i r hr
  injection he with he
  subst he
  obtain ⟨⟨v,h1,h2⟩,h3⟩:=bin_ok hT hr hps hx hy
  exact ⟨v,run v (h3 x y) h1,h2⟩
 ·split at he
  ·rename_i t1 x1 t2 y1 hx1 hy1
   split at he
   ·rename_i h12
    subst h12
    split at he
    ·rename_i hc
     split at he
     ·rename_i b hb
      injection he with he; injection he with e1 e2; subst e1; subst e2
      obtain ⟨ty,hty,hag,heq,hgd⟩:=Jty hE (List.elem_iff.1 hc.2)
      have:ty=t1:=by have:=hc.1; rw [hty] at this; injection this
      subst this
      rw [hx1] at hx; rw [hy1] at hy
      obtain ⟨tt,c1,⟨rfl,h1⟩,e1⟩:=hx
      obtain ⟨tt,c2,⟨rfl,h2⟩,e2⟩:=hy
      have hE2:=(K1m hT 20 t _ 10000 (by decide) heq).2 w _ x1 y1 c1 c2 h1 h2
      have p1:∀ c1,pack ty c1=.agg c1.toArray:=fun c1=>by rw [pack,if_pos hag]
      rw [p1] at e1; rw [p1] at e2; rw [p1,p1] at hE2
      refine ⟨_,run (.bool b) ?_ ?_,J9d b⟩
      ·rw [e1,e2]; exact run_eqGuard_agg w op t x y _ _ hgd
      ·rw [e1,e2]
       refine Jgp hb ?_ ?_
       ·exact hE2
       ·rintro op (rfl | rfl) <;> rfl
     ·cases he
    ·cases he
   ·cases he
  ·rename_i h1 h2
   split at he
   ·rename_i e b hty hb
    injection he with he; injection he with e1 e2; subst e1; subst e2
    obtain ⟨te,by_,hu,_⟩:=J9j hT hty
    rw [h1] at hx; rw [h2] at hy
    obtain ⟨tt,cs,⟨⟨e',rfl⟩,rfl⟩,q1⟩:=hx
    obtain ⟨tt,cs,⟨⟨e',rfl⟩,rfl⟩,q2⟩:=hy
    have q1:a.eval x=.slice none 0 0:=q1
    have q2:a.eval y=.slice none 0 0:=q2
    refine ⟨_,run (.bool b) ?_ ?_,J9d b⟩
    ·rw [q1,q2]; exact Jbw w
    ·rw [q1,q2]
     refine Jgp hb ?_ ?_
     ·exact Jbt 9999 hu
     ·rintro op (rfl | rfl) <;> rfl
   ·cases he
  ·rename_i t1 x1 h1 h2
   split at he
   ·rename_i e b hty hb
    obtain ⟨te,by_,hu,_⟩:=J9j hT hty
    rw [h1] at hx; rw [h2] at hy
    obtain ⟨tt,cs,⟨rfl,ad,cap,rfl,_,hne⟩,q1⟩:=hx
    obtain ⟨tt,cs,⟨⟨e',rfl⟩,rfl⟩,q2⟩:=hy
    have q1:a.eval x=.slice ad (List.length x1) cap:=q1
    have q2:a.eval y=.slice none 0 0:=q2
    have hr:(Op.equal t (a.eval x) (a.eval y)).run P w=.ok ad.isNone w:=by
     rw [q1,q2]
     exact Jbt 9999 hu
    split at he
    ·injection he with he; injection he with e1 e2; subst e1; subst e2
     obtain ⟨z,hz⟩:∃ z,eqOp op ad.isNone=some z:=by
      unfold eqOp at hb ⊢; cases op <;> first | exact ⟨_,rfl⟩ | cases hb
     refine ⟨_,run (.bool z) ?_ ?_,⟨.bool,_,⟨rfl,z,rfl⟩,rfl⟩⟩
     ·rw [q1,q2]; exact Jbw w
     ·refine Jgp hz hr ?_
      rw [q1,q2]; rintro op (rfl | rfl) <;> rfl
    ·rename_i hnil
     split at he
     ·rename_i z hz
      injection he with he; injection he with e1 e2; subst e1; subst e2
      have hn:ad.isNone=false:=by
       rcases hne with rfl | ⟨b',o',rfl,_⟩
       ·exact absurd hnil (by simp [K1r])
       ·rfl
      rw [hn] at hr
      refine ⟨_,run (.bool z) ?_ ?_,J9d z⟩
      ·rw [q1,q2]; exact Jbw w
      ·refine Jgp hz hr ?_
       rw [q1,q2]; rintro op (rfl | rfl) <;> rfl
     ·cases he
   ·cases he
  ·rename_i l p h1 h2
   split at he
   ·rename_i e b hty hb
    injection he with he; injection he with e1 e2; subst e1; subst e2
    obtain ⟨te,by_,hu,_⟩:=J9j hT hty
    rw [h1] at hx; rw [h2] at hy
    obtain ⟨ad,n,cap,q1⟩:∃ ad n cap,a.eval x=.slice ad n cap:=by
     obtain ⟨tt,cs,⟨g,v,_,rfl,hv⟩,q1⟩:=hx
     rcases hv with ⟨_,_,rfl,rfl⟩ | ⟨_,b,o,n,e,_,_,rfl,rfl⟩ <;> exact ⟨_,_,_,q1⟩
    obtain ⟨tt,cs,⟨⟨e',rfl⟩,rfl⟩,q2⟩:=hy
    have q2:a.eval y=.slice none 0 0:=q2
    have hr:(Op.equal t (a.eval x) (a.eval y)).run P w=.ok ad.isNone w:=by
     rw [q1,q2]
     exact Jbt 9999 hu
    obtain ⟨z,hz⟩:∃ z,eqOp op ad.isNone=some z:=by
     unfold eqOp at hb ⊢; cases op <;> first | exact ⟨_,rfl⟩ | cases hb
    refine ⟨_,run (.bool z) ?_ ?_,⟨.bool,_,⟨rfl,z,rfl⟩,rfl⟩⟩
    ·rw [q1,q2]; exact Jbw w
    ·refine Jgp hz hr ?_
     rw [q1,q2]; rintro op (rfl | rfl) <;> rfl
   ·cases he
  ·rename_i l p h1 h2
   split at he
   ·rename_i b hty hb
    injection he with he; injection he with e1 e2; subst e1; subst e2
    obtain ⟨el,hu⟩:=Jjw hT hty
    rw [h1] at hx; rw [h2] at hy
    obtain ⟨tt,cs,⟨rfl,g,u,_,rfl,_,b',o',t',_,_,rfl⟩,q1⟩:=hx
    obtain ⟨tt,cs,⟨rfl,rfl⟩,q2⟩:=hy
    have q1:a.eval x=.pointer (some ⟨b',o',none⟩):=q1
    have q2:a.eval y=.pointer none:=q2
    refine ⟨_,run (.bool b) ?_ ?_,J9d b⟩
    ·rw [q1,q2]; exact Jig w
    ·rw [q1,q2]
     refine Jgp hb ?_ ?_
     ·exact Je1 9999 hu
     ·rintro op (rfl | rfl) <;> rfl
   ·cases he
  ·rename_i t1 z h1 h2
   split at he
   ·rename_i b hty hb
    injection he with he; injection he with e1 e2; subst e1; subst e2
    obtain ⟨el,hu⟩:=Jjw hT hty
    rw [h1] at hx; rw [h2] at hy
    obtain ⟨tt,cs,⟨rfl,b',o',cs',rfl,_⟩,q1⟩:=hx
    obtain ⟨tt,cs,⟨rfl,rfl⟩,q2⟩:=hy
    have q1:a.eval x=.pointer (some ⟨b',o',none⟩):=q1
    have q2:a.eval y=.pointer none:=q2
    refine ⟨_,run (.bool b) ?_ ?_,J9d b⟩
    ·rw [q1,q2]; exact Jig w
    ·rw [q1,q2]
     refine Jgp hb ?_ ?_
     ·exact Je1 9999 hu
     ·rintro op (rfl | rfl) <;> rfl
   ·cases he
  ·rename_i h1 h2
   split at he
   ·rename_i b hty hb
    injection he with he; injection he with e1 e2; subst e1; subst e2
    obtain ⟨el,hu⟩:=Jjw hT hty
    rw [h1] at hx; rw [h2] at hy
    obtain ⟨tt,cs,⟨rfl,rfl⟩,q1⟩:=hx
    obtain ⟨tt,cs,⟨rfl,rfl⟩,q2⟩:=hy
    have q1:a.eval x=.pointer none:=q1
    have q2:a.eval y=.pointer none:=q2
    refine ⟨_,run (.bool b) ?_ ?_,J9d b⟩
    ·rw [q1,q2]; exact Jig w
    ·rw [q1,q2]
     refine Jgp hb ?_ ?_
     ·exact Je1 9999 hu
     ·rintro op (rfl | rfl) <;> rfl
   ·cases he
  ·cases he
def maxS (x y:List UInt8):List UInt8:=bif J6z x y then y else x
def minS (x y:List UInt8):List UInt8:=bif (J6z x y || decide (x=y)) then x else y
theorem Jpn (x y:List UInt8) (w:World):(Op.stringOp .geq ⟨x.toArray⟩ ⟨y.toArray⟩).run P w=.ok (.bool (!J6z x y)) w:=by
 obtain ⟨v,h1,h2⟩:=Jhv (P:=P) (op:=.geq) (x:=x) (y:=y) rfl trivial 0 w
 have h3:=Jhr (h2 [] (fun _=>True))
 rw [h3] at h1
 exact h1
theorem Jpo (x y:List UInt8) (w:World):(Op.stringOp .leq ⟨x.toArray⟩ ⟨y.toArray⟩).run P w=.ok (.bool (J6z x y || decide (x=y))) w:=by
 obtain ⟨v,h1,h2⟩:=Jhv (P:=P) (op:=.leq) (x:=x) (y:=y) rfl trivial 0 w
 have h3:=Jhr (h2 [] (fun _=>True))
 rw [h3] at h1
 exact h1
def Jdf (gt:Bool) (s1 s2:Slot):Option Slot:=
 match s1,s2 with
 | .v (.int .i64) x,.v (.int .i64) y=>some (.v (.int .i64) (match gt with | false=>min (x:Int) y | true=>max (x:Int) y))
 | .v .str x,.v .str y=>some (.v .str (match gt with | false=>minS x y | true=>maxS x y))
 | _,_=>none
theorem Kg {o:Oper} {st:St} {x y:Operand} {cl:Call} {s:Slot} (hop:o.op=.call cl) (hc:cl.callee=.builtin .min) (ha:cl.args=#[x,y])
  (he:Jdf false (opnd st.slots x) (opnd st.slots y)=some s):VOp P o st s st.heap:=by
 refine VOp.pure fun c G a w hs=>?_
 have hx:=J6v hs x
 have hy:=J6v hs y
 unfold Jdf at he
 split at he
 ·rename_i n m h1 h2
  injection he with he; subst he
  rw [h1] at hx; rw [h2] at hy
  have hx:a.eval x=.int .i64 n:=Jci hx
  have hy:a.eval y=.int .i64 m:=Jci hy
  have e:(min (n:Int) (m:Int))=if (m:Int) < n then m else n:=by
   have e2:∀ n m:Int,min n m=if m < n then m else n:=by intro n m; split <;> omega
   exact e2 n m
  refine ⟨.int .i64 (if (m:Int) < n then m else n),?_,by have:=J7q (G:=G) (w:=w) (ok:=okB c G st.heap w) .i64 (min (n:Int) (m:Int)); rw [e] at this ⊢; exact this⟩
  simp [execOp,hop,resolve,hc,ha,invoke,builtin,hx,hy,Builtin.min_,Builtin.min2]
 ·rename_i x1 y1 h1 h2
  injection he with he; subst he
  rw [h1] at hx; rw [h2] at hy
  have hx:=Jh1 hx
  have hy:=Jh1 hy
  refine ⟨.string ⟨List.toArray (minS x1 y1)⟩,?_,Jto _⟩
  have hr:=Jpo (P:=P) x1 y1 w
  cases hq:J6z x1 y1 <;> cases hz:decide (x1=y1) <;>
   simp [execOp,hop,resolve,hc,ha,invoke,builtin,hx,hy,Builtin.min_,Builtin.min2,hr,asBool,hq,hz,minS]
 ·cases he
theorem Ke {o:Oper} {st:St} {x y:Operand} {cl:Call} {s:Slot} (hop:o.op=.call cl) (hc:cl.callee=.builtin .max) (ha:cl.args=#[x,y])
  (he:Jdf true (opnd st.slots x) (opnd st.slots y)=some s):VOp P o st s st.heap:=by
 refine VOp.pure fun c G a w hs=>?_
 have hx:=J6v hs x
 have hy:=J6v hs y
 unfold Jdf at he
 split at he
 ·rename_i n m h1 h2
  injection he with he; subst he
  rw [h1] at hx; rw [h2] at hy
  have hx:a.eval x=.int .i64 n:=Jci hx
  have hy:a.eval y=.int .i64 m:=Jci hy
  have e:(max (n:Int) (m:Int))=if (n:Int) < m then m else n:=by
   have e2:∀ n m:Int,max n m=if n < m then m else n:=by intro n m; split <;> omega
   exact e2 n m
  refine ⟨.int .i64 (if (n:Int) < m then m else n),?_,by have:=J7q (G:=G) (w:=w) (ok:=okB c G st.heap w) .i64 (max (n:Int) (m:Int)); rw [e] at this ⊢; exact this⟩
  simp [execOp,hop,resolve,hc,ha,invoke,builtin,hx,hy,Builtin.max_,Builtin.max2]
 ·rename_i x1 y1 h1 h2
  injection he with he; subst he
  rw [h1] at hx; rw [h2] at hy
  have hx:=Jh1 hx
  have hy:=Jh1 hy
  refine ⟨.string ⟨List.toArray (maxS x1 y1)⟩,?_,Jto _⟩
  have hr:=Jpn (P:=P) x1 y1 w
  cases hq:J6z x1 y1 <;> cases hz:decide (x1=y1) <;>
   simp [execOp,hop,resolve,hc,ha,invoke,builtin,hx,hy,Builtin.max_,Builtin.max2,hr,asBool,hq,hz,maxS]
 ·cases he
def Ji7 (s1 s2:Slot):Option Slot:=
 match s1,s2 with
 | .v .flt x,.v .flt y=>some (.v .cplx (x,y))
 | _,_=>none
theorem Jny {o:Oper} {st:St} {x y:Operand} {cl:Call} {s:Slot} (hop:o.op=.call cl) (hc:cl.callee=.builtin .complex) (ha:cl.args=#[x,y])
  (he:Ji7 (opnd st.slots x) (opnd st.slots y)=some s):VOp P o st s st.heap:=by
 refine VOp.pure fun c G a w hs=>?_
 have hx:=J6v hs x
 have hy:=J6v hs y
 unfold Ji7 at he
 split at he
 ·rename_i n m h1 h2
  injection he with he; subst he
  rw [h1] at hx; rw [h2] at hy
  obtain ⟨q1,hx⟩:=Jve hx
  obtain ⟨q2,hy⟩:=Jve hy
  refine ⟨_,?_,M_cplx (x:=(n,m)) ⟨q1,q2⟩⟩
  have:(Builtin.complex_ cl.argTypes o.type #[.float .f64 (FloatKind.f64.nearest n),.float .f64 (FloatKind.f64.nearest m)]).run P w=.ok (.complex .f64 (FloatKind.f64.nearest n) (FloatKind.f64.nearest m)) w:=rfl
  simp [execOp,hop,resolve,hc,ha,invoke,builtin,hx,hy,this]
 ·cases he
def Jkg (im:Bool) (s:Slot):Option Slot:=
 match s with
 | .v .cplx x=>some (.v .flt (match im with | false=>Prod.fst x | true=>Prod.snd x))
 | _=>none
theorem Jwo {o:Oper} {st:St} {x:Operand} {cl:Call} {s:Slot} (hop:o.op=.call cl) (hc:cl.callee=.builtin .real) (ha:cl.args=#[x])
  (he:Jkg false (opnd st.slots x)=some s):VOp P o st s st.heap:=by
 refine VOp.pure fun c G a w hs=>?_
 have hx:=J6v hs x
 unfold Jkg at he
 split at he
 ·rename_i n h1
  injection he with he; subst he
  rw [h1] at hx
  obtain ⟨q1,hx⟩:=Jrf hx
  refine ⟨_,?_,Jzm q1.1⟩
  have:(Builtin.real_ cl.argTypes o.type #[.complex .f64 (FloatKind.f64.nearest n.1) (FloatKind.f64.nearest n.2)]).run P w=.ok (.float .f64 (FloatKind.f64.nearest n.1)) w:=rfl
  simp [execOp,hop,resolve,hc,ha,invoke,builtin,hx,this]
 ·cases he
theorem Jwm {o:Oper} {st:St} {x:Operand} {cl:Call} {s:Slot} (hop:o.op=.call cl) (hc:cl.callee=.builtin .imag) (ha:cl.args=#[x])
  (he:Jkg true (opnd st.slots x)=some s):VOp P o st s st.heap:=by
 refine VOp.pure fun c G a w hs=>?_
 have hx:=J6v hs x
 unfold Jkg at he
 split at he
 ·rename_i n h1
  injection he with he; subst he
  rw [h1] at hx
  obtain ⟨q1,hx⟩:=Jrf hx
  refine ⟨_,?_,Jzm q1.2⟩
  have:(Builtin.imag_ cl.argTypes o.type #[.complex .f64 (FloatKind.f64.nearest n.1) (FloatKind.f64.nearest n.2)]).run P w=.ok (.float .f64 (FloatKind.f64.nearest n.2)) w:=rfl
  simp [execOp,hop,resolve,hc,ha,invoke,builtin,hx,this]
 ·cases he
def K2z (T:Tab) (t:Nat) (s:Slot):Option Slot:=
 match T.ty t,s with
 | some (.slice _),.nil=>some (.v (.int .i64) (0:Int))
 | _,_=>none
theorem Ka (hT:J78 P T) {o:Oper} {st:St} {t:Nat} {x:Operand} {cl:Call} {s:Slot} (hop:o.op=.call cl) (hc:cl.callee=.builtin .cap) (ha:cl.args=#[x])
  (ht:cl.argTypes[0]?=some t) (he:K2z T t (opnd st.slots x)=some s):VOp P o st s st.heap:=by
 refine VOp.pure fun c G a w hs=>?_
 have hx:=J6v hs x
 unfold K2z at he
 split at he
 ·rename_i e hty h1
  injection he with he; subst he
  rw [h1] at hx
  obtain ⟨te,by_,hu,_⟩:=Ja5 hT hty w
  obtain ⟨tt,cs,⟨⟨e',rfl⟩,rfl⟩,q1⟩:=hx
  have q1:a.eval x=.slice none 0 0:=q1
  refine ⟨.int .i64 0,?_,J7q .i64 (0:Int)⟩
  simp [execOp,hop,resolve,hc,ha,invoke,builtin,q1,Builtin.cap_,ht,hu,goInt]
 ·cases he
end Go.Ax

namespace Go.Ax
set_option linter.unusedVariables false
set_option linter.unusedSimpArgs false
variable {P : Program} {T : Tab}
def OpW (P:Program) (o:Oper) (st:St) (s:Slot) (h':List AObj):Prop:=
 ∀ (c:Ctx) (G:List GE) (a:Act) (w:World),SRG c G st a w→∀ (next:Act→World→Prop) (Q:Exit→Act→World→Prop),
  (∀ v w' G',HRG c G' h' w'→Ext G G'→J76 w w' (okB c G st.heap w) (okB c G' h' w')→TRel G' w' (okB c G' h' w') s v→next (a.put o.dst v) w')→o.wp P a w next Q
theorem VOp.w {o:Oper} {st:St} {s:Slot} {h':List AObj} (h:VOp P o st s h'):OpW P o st s h':=by
 intro c G a w hs next Q hn
 obtain ⟨v,w',G',hr,hh,hG,k,hv⟩:=h c G a w hs
 rcases hr with hr | ⟨hr,hu⟩
 ·simp only [Oper.wp,hr,Oper.upon]
  exact hn v w' G' hh hG k hv
 ·subst hu
  simp only [Oper.wp,hr,Oper.upon]
  exact hn undef w' G' hh hG k trivial
theorem OpW.ok {o:Oper} {st:St} {s:Slot} {h':List AObj} (hd:∀ d,o.dst=some d→d < st.n) (h:OpW P o st s h'):OpOK P o st (putS o s st h'):=by
 intro c a w hs next Q hn
 obtain ⟨G,hs⟩:=hs
 refine h c G a w hs next Q fun v w' G' hh hG k hv=>hn _ _ ⟨G',?_⟩
 have hon:=hs.on hh hG k
 unfold putS
 cases hdst:o.dst with
 | none=>exact hon
 | some d=>exact hon.put (hd d hdst) hv
def Ja0 (P : Program) (f : FuncId) : Prop := ∃ fn, P.funcs[f]? = some fn ∧ (fn.name == "runtime.NumGoroutine") = false ∧ fn.body.isNone = false
structure Entry (P:Program) (f:FuncId) (fn:Func) (e:Array Value→Sem Value):Prop where
 at_:P.funcs[f]?=some fn
 nm : (fn.name == "runtime.NumGoroutine") = false
 no:fn.body.isNone=true
 next:Extern.findNext fn=none
 found:Extern.find fn=some e
inductive CallC (P:Program) (f:FuncId) (az:List Slot) (objs:List AObj) (ret:Slot) (objs':List AObj):Prop where
 | mk (fn:Ja0 P f) (ok:Jhn P f az objs ret objs')
 | ext (fn:Func) (e:Array Value→Sem Value) (he:Entry P f fn e) (ho:objs'=objs)
   (ok:∀ (G:List GE) (w:World) (ok:Nat→Prop) (vs:List Value),ARel G w ok az vs→∃ v,(e vs.toArray).run P w=.ok v w∧TRel G w ok ret v)
def cmpS (a b:List UInt8):Int:=Lib.compareBytes a b
theorem K2b {G:List GE} {w:World} {ok:Nat→Prop} {x:List UInt8} {v:Value} (h:TRel G w ok (.v .str x) v):v=.string ⟨x.toArray⟩:=by
 obtain ⟨t,cs,⟨rfl,h2⟩,e⟩:=h
 simp only [RepC] at h2
 subst h2
 exact e
theorem CallC.cmp {f:FuncId} {fn:Func} (he:Entry P f fn Extern.BytealgCompare.compare) (a b:List UInt8):CallC P f [.v .str a,.v .str b] [] (.v (.int .i64) (cmpS a b)) []:=by
 refine .ext fn _ he rfl fun G w ok vs h=>?_
 obtain ⟨hl,hv⟩:=h
 match vs,hl,hv with
 | [x,y],_,hv=>
  have h0:=K2b (hv 0 _ _ rfl rfl)
  have h1:=K2b (hv 1 _ _ rfl rfl)
  subst h0; subst h1
  refine ⟨_,Lib.run_compareString _ _ w,_,_,⟨rfl,rfl⟩,rfl⟩
theorem OpW.call {o:Oper} {cl:Call} {f0:Operand} {f:FuncId} {cap:Slot} {st:St} {as':List Slot} {back snap:List Nat} {fl:Bool} {ret:Slot}
  {objs':List AObj} (hop:o.op=.call cl) (hcl:cl.callee=.value f0) (hf0:opnd st.slots f0=.fn f cap)
  (hp:Jnf st.heap back snap (cl.args.toList.map (opnd st.slots)++J9w cap) as') (hb:J8g st.heap back=true)
  (hdis:∀ l ∈ snap,J7h back l=false) (hcall:CallC P f as' (lent st.heap back) ret objs') (hle:back.length≤objs'.length)
  (hfl:fl=true→ret.flat=true∧∀ o ∈ objs',o.flat=true) :
  OpW P o st (ret.ren (unl st.heap.length back)) (J7e st.heap back snap fl objs'):=by
 intro c G a w hs next Q hn
 have hfv:=J6v hs f0
 rw [hf0] at hfv
 obtain ⟨t,cs,⟨_,caps,rfl,hcap⟩,hpk⟩:=hfv
 rename_i ht
 subst ht
 have hpk:a.eval f0=.func (.func f) #[] caps.toArray:=by rw [hpk]; rfl
 have hcaps:=Jca _ hcap
 have hrel:ARel (back.map fun l=>G.getD l default) w (okB (J7t c G st.heap w back snap) (back.map fun l=>G.getD l default) (lent st.heap back) w) as'
   ((cl.args.toList.map a.eval)++caps):=by
  obtain ⟨e,hget⟩:=hp.get
  refine ⟨by rw [← e]; simp [hcaps.1],fun i s' v hs' hv=>?_⟩
  obtain ⟨s,hs1,hs2⟩:=hget i s' hs'
  refine Jmj hs.toHRG hb hdis hs2 ?_
  rcases Nat.lt_or_ge i cl.args.toList.length with hi | hi
  ·rw [List.getElem?_append_left (by simpa using hi),List.getElem?_map] at hs1 hv
   cases hx:cl.args.toList[i]? with
   | none=>rw [hx] at hs1; cases hs1
   | some x=>
    rw [hx] at hs1 hv
    simp only [Option.map_some,Option.some.injEq] at hs1 hv
    subst hs1; subst hv
    exact J6v hs x
  ·rw [List.getElem?_append_right (by simpa using hi)] at hs1 hv
   simp only [List.length_map] at hs1 hv
   exact hcaps.2 _ s v hs1 hv
 have harr:(#[]++cl.args.map a.eval++caps.toArray)=((cl.args.toList.map a.eval)++caps).toArray:=by
  apply Array.toList_inj.1; simp
 rcases hcall with ⟨⟨fn,hfn,hnm,hbody⟩,hcall⟩ | ⟨fn,e,he,ho,hext⟩
 case ext=>
  subst ho
  obtain ⟨v,hv,hrel2⟩:=hext _ _ _ _ hrel
  have hrun:(execOp a.eval o).run P w=.ok (.value v) w:=by
   have hc:=run_callFunc_extern he.at_ he.nm he.no he.next he.found ((cl.args.toList.map a.eval)++caps).toArray w
   rw [hv] at hc
   simp only [Result.andThen] at hc
   rw [show ((cl.args.toList.map a.eval)++caps).toArray=cl.args.map a.eval++caps.toArray from by apply Array.toList_inj.1; simp] at hc
   simp [execOp,hop,resolve,hcl,hpk,Deferred.ofValue,invoke,hc]
  simp only [Oper.wp,hrun,Oper.upon]
  obtain ⟨r1,r2,r3,r4⟩:=Jco hs.toHRG hb hdis hle (fun h=>(hfl h).2) (Jf6 hs.toHRG hb) (Ext.refl _)
  exact hn v w _ r1 r2 r3 (r4 ret v (fun h=>(hfl h).1) hrel2)
 have hrun:(execOp a.eval o).run P w=.ok (.enter f ((cl.args.toList.map a.eval)++caps).toArray) w:=by
  have:=harr
  have hnm' : ¬ fn.name = "runtime.NumGoroutine" := by simpa using hnm
  have hbody':¬ fn.body=none:=by intro h; rw [h] at hbody; cases hbody
  simp [execOp,hop,resolve,hcl,hpk,Deferred.ofValue,invoke,callFunc,hfn,hnm',hbody',← this]
 simp only [Oper.wp,hrun,Oper.upon]
 refine Calls.mono (hcall (J7t c G st.heap w back snap) _ _ (Jf6 hs.toHRG hb) rfl hrel) ?_
 rintro e w' ⟨v,G2,rfl,h2,hv,hx⟩
 obtain ⟨r1,r2,r3,r4⟩:=Jco hs.toHRG hb hdis hle (fun h=>(hfl h).2) h2 hx
 exact hn v w' _ r1 r2 r3 (r4 ret v (fun h=>(hfl h).1) hv)
theorem OpW.frame {o:Oper} {st:St} {ks:List Nat} {mini:List (Nat×Slot)} {s:Slot} {h1:List AObj} (hw:OpW P o ⟨mini,lent st.heap ks,st.n,ks.length⟩ s h1)
  (hm:∀ t,look mini t=.undef∨(look mini t=(look st.slots t).ren (posF ks)∧∀ i ∈ (look st.slots t).ids,J7h ks i=true)) (hb:J8g st.heap ks=true)
  (hle:ks.length≤h1.length):OpW P o st (s.ren (unl st.heap.length ks)) (J7e st.heap ks [] false h1):=by
 intro c G a w hs next Q hn
 have hb':=hb
 simp only [J8g,Bool.and_eq_true] at hb'
 have hmini:SRG (J7t c G st.heap w ks []) (ks.map fun l=>G.getD l default) ⟨mini,lent st.heap ks,st.n,ks.length⟩ a w:=by
  refine ⟨Jf6 hs.toHRG hb,fun t=>?_,Ext.refl _,by simp [J7t],hs.sz,hs.nodef⟩
  rcases hm t with h | ⟨h,hi⟩
  ·show TRel _ _ _ (look mini t) _
   rw [h]; trivial
  ·show TRel _ _ _ (look mini t) _
   rw [h]
   exact TRel.ren _ (Jdn hb'.1 hs.len hi) (TRel.mono (Ext.refl G) (Jbc hs.toHRG hb) _ (hs.slots t))
 refine hw _ _ a w hmini next Q fun v w' G2 h2 hx _ hv=>?_
 obtain ⟨r1,r2,r3,r4⟩:=Jco (fl:=false) hs.toHRG hb (by simp) hle (by simp) h2 hx
 exact hn v w' _ r1 r2 r3 (r4 s v (by simp) hv)
end Go.Ax

namespace Go.Ax
set_option linter.unusedVariables false
set_option linter.unusedSimpArgs false
variable {P : Program} {T : Tab}
abbrev OpR:=Option (List Prop×Slot×List AObj)
def Jdr (h:List AObj):Option Slot→OpR
 | some s=>some ([],s,h)
 | none=>none
def Jus (h:List AObj):Res→OpR
 | some (ps,s)=>some (ps,s,h)
 | none=>none
def Jps:Option (Slot×List AObj)→OpR
 | some (s,h)=>some ([],s,h)
 | none=>none
def J7u (T:Tab) (ss:List (Nat×Slot)) (h:List AObj) (b:Builtin) (args:List Operand) (ts:List Nat):OpR:=
 match b,args,ts with
 | .append,[x,y],[t0,t1]=>Jlp T h t0 t1 (opnd ss x) (opnd ss y)
 | .len,[x],[t]=>Jdr h (K30 T h t (opnd ss x))
 | .cap,[x],[t]=>Jdr h (K2z T t (opnd ss x))
 | .copy,[x,y],[t,_]=>Jps (Jwk T h t (opnd ss x) (opnd ss y))
 | .min,[x,y],_=>Jdr h (Jdf false (opnd ss x) (opnd ss y))
 | .max,[x,y],_=>Jdr h (Jdf true (opnd ss x) (opnd ss y))
 | .complex,[x,y],_=>Jdr h (Ji7 (opnd ss x) (opnd ss y))
 | .real,[x],_=>Jdr h (Jkg false (opnd ss x))
 | .imag,[x],_=>Jdr h (Jkg true (opnd ss x))
 | _,_,_=>none
def Jrw (fl:Bool) (ss:List (Nat×Slot)) (c x y:Operand):Res:=
 match opnd ss c with
 | .v .bool z=>some ([(z:Bool)=fl],match fl with | true=>opnd ss x | false=>opnd ss y)
 | _=>none
def exOp (T:Tab) (E:List Nat) (fl:Bool) (ss:List (Nat×Slot)) (h:List AObj) (o:Op):OpR:=
 match o with
 | .move x=>some ([],opnd ss x,h)
 | .assign x=>some ([],opnd ss x,h)
 | .pick c x y=>Jus h (Jrw fl ss c x y)
 | .alloc t=>Jps (Jq3 T h t)
 | .box t x=>Jps (K2y T h t (opnd ss x))
 | .build t parts=>match fl with
  | true=>Jdr h (Jh9 T ss h t parts)
  | false=>Jps (Jlq T ss h t parts)
 | .buildSlice t n parts=>Jps (Jcq T ss h t n parts)
 | .load t x=>Jps (Jrv T h t (opnd ss x))
 | .store t x y=>match Jib T h t (opnd ss x) (opnd ss y) with
  | some h'=>some ([],.undef,h')
  | none=>match Jlz T h t (opnd ss x) (opnd ss y) with
   | some h'=>some ([],.undef,h')
   | none=>none
 | .nilCheck x=>Jdr h (Jdg (opnd ss x))
 | .binOp op t x y _=>Jus h (K8 T E t op (opnd ss x) (opnd ss y))
 | .unOp op _ x=>Jdr h (un op (opnd ss x))
 | .convert src dst x=>Jkc T h src dst (opnd ss x)
 | .makeFunc f first cap=>Jdr h (Jde ss f first cap)
 | .makeSlice t l c=>Je2 T h t (opnd ss l) (opnd ss c)
 | .slice t x lo hi none=>Jac T ss h fl t (opnd ss x) lo hi
 | .fieldAddr t x k=>Jdr h (J7l T h t (opnd ss x) k)
 | .field t x k=>Jdr h (Jlt T t (opnd ss x) k)
 | .indexAddr t x y=>Jus h (Jbu T h t (opnd ss x) (opnd ss y))
 | .index t x y=>Jus h (Jlu T t (opnd ss x) (opnd ss y))
 | .extract x k=>Jdr h (Jrb (opnd ss x) k)
 | .call c=>match c.callee with
  | .builtin b=>J7u T ss h b c.args.toList c.argTypes.toList
  | _=>none
 | _=>none
theorem J75 {h h':List AObj} {r:Option Slot} {ps:List Prop} {s:Slot} (he:Jdr h r=some (ps,s,h')):r=some s∧h'=h:=by
 unfold Jdr at he
 split at he
 ·injection he with he; injection he with e1 e2; injection e2 with e2 e3; subst e2; subst e3; exact ⟨rfl,rfl⟩
 ·cases he
theorem Jdk {h h':List AObj} {r:Res} {ps:List Prop} {s:Slot} (he:Jus h r=some (ps,s,h')):r=some (ps,s)∧h'=h:=by
 unfold Jus at he
 split at he
 ·injection he with he; injection he with e1 e2; injection e2 with e2 e3; subst e1; subst e2; subst e3; exact ⟨rfl,rfl⟩
 ·cases he
theorem Jaa {h':List AObj} {r:Option (Slot×List AObj)} {ps:List Prop} {s:Slot} (he:Jps r=some (ps,s,h')):r=some (s,h'):=by
 unfold Jps at he
 split at he
 ·injection he with he; injection he with e1 e2; injection e2 with e2 e3; subst e2; subst e3; rfl
 ·cases he
theorem Jy5 {o:Oper} {st:St} {fl:Bool} {c x y:Operand} {s:Slot} {ps:List Prop} (hop:o.op=.pick c x y) (he:Jrw fl st.slots c x y=some (ps,s)) (hps:AllP ps):VOp P o st s st.heap:=by
 refine VOp.pure fun cc G a w hs=>?_
 have hc:=J6v hs c
 unfold Jrw at he
 split at he
 ·rename_i z hz
  injection he with he; injection he with e1 e2; subst e1
  rw [hz] at hc
  have hc:=Jhr hc
  have hzf:=hps.1
  subst hzf
  subst e2
  cases z with
  | true=>exact ⟨a.eval x,by simp [execOp,hop,hc,asBool],J6v hs x⟩
  | false=>exact ⟨a.eval y,by simp [execOp,hop,hc,asBool],J6v hs y⟩
 ·cases he
theorem Jiy {o:Oper} {st:St} {x:Operand} (hop:o.op=.move x∨o.op=.assign x):VOp P o st (opnd st.slots x) st.heap:=by
 refine VOp.pure fun cc G a w hs=>⟨a.eval x,?_,J6v hs x⟩
 rcases hop with h | h <;> simp [execOp,h]
theorem Jrh {α:Type} {a:Array α} {l:List α} (h:a.toList=l):a=l.toArray:=by rw [← h]
theorem Jgr (hT:J78 P T) {o:Oper} {st:St} {cl:Call} {b:Builtin} {ps:List Prop} {s:Slot} {h':List AObj} (hop:o.op=.call cl) (hc:cl.callee=.builtin b)
  (he:J7u T st.slots st.heap b cl.args.toList cl.argTypes.toList=some (ps,s,h')) (hps:AllP ps):VOp P o st s h':=by
 generalize ha:cl.args.toList=args at he
 generalize ht:cl.argTypes.toList=ts at he
 have ha:=Jrh ha
 have ht:=Jrh ht
 unfold J7u at he
 split at he
 ·exact Jq4 hT hop hc ha ht he hps
 ·obtain ⟨h1,rfl⟩:=J75 he; exact Kb hT hop hc ha (by rw [ht]; rfl) h1
 ·obtain ⟨h1,rfl⟩:=J75 he; exact Ka hT hop hc ha (by rw [ht]; rfl) h1
 ·exact Jwl hT hop hc ha (by rw [ht]; rfl) (Jaa he)
 ·obtain ⟨h1,rfl⟩:=J75 he; exact Kg hop hc ha h1
 ·obtain ⟨h1,rfl⟩:=J75 he; exact Ke hop hc ha h1
 ·obtain ⟨h1,rfl⟩:=J75 he; exact Jny hop hc ha h1
 ·obtain ⟨h1,rfl⟩:=J75 he; exact Jwo hop hc ha h1
 ·obtain ⟨h1,rfl⟩:=J75 he; exact Jwm hop hc ha h1
 ·cases he
theorem Jwn (hT:J78 P T) {E:List Nat} (hE:J83 P T E=true) {o:Oper} {st:St} {fl:Bool} {ps:List Prop} {s:Slot} {h':List AObj}
  (he:exOp T E fl st.slots st.heap o.op=some (ps,s,h')) (hps:AllP ps):VOp P o st s h':=by
 generalize hop:o.op=op at he
 unfold exOp at he
 split at he
 ·injection he with he; injection he with e1 e2; injection e2 with e2 e3; subst e2; subst e3; exact Jiy (.inl hop)
 ·injection he with he; injection he with e1 e2; injection e2 with e2 e3; subst e2; subst e3; exact Jiy (.inr hop)
 ·obtain ⟨h1,rfl⟩:=Jdk he; exact Jy5 hop h1 hps
 ·exact Ju0 hT hop (Jaa he)
 ·exact K9 hT hop (Jaa he)
 ·split at he
  ·obtain ⟨h1,rfl⟩:=J75 he; exact Ji5 hT hop h1
  ·exact Jkb hT hop (Jaa he)
 ·exact Ji6 hT hop (Jaa he)
 ·exact Jo0 hT hop (Jaa he)
 ·split at he
  ·rename_i h2 h3
   injection he with he; injection he with e1 e2; injection e2 with e2 e3; subst e2; subst e3
   exact Ju3 hT hop h3
  ·split at he
   ·rename_i h3
    injection he with he; injection he with e1 e2; injection e2 with e2 e3; subst e2; subst e3
    exact Jqa hT hop h3
   ·cases he
 ·obtain ⟨h1,rfl⟩:=J75 he; exact Jes hop h1
 ·obtain ⟨h1,rfl⟩:=Jdk he; exact Jru hT hE hop h1 hps
 ·obtain ⟨h1,rfl⟩:=J75 he; exact un_ok hop h1
 ·exact Jnz hT hop he hps
 ·obtain ⟨h1,rfl⟩:=J75 he; exact Jis hop h1
 ·exact Jk2 hT hop he hps
 ·exact Jg1 hT hop he hps
 ·obtain ⟨h1,rfl⟩:=J75 he; exact Jb2 hT hop h1
 ·obtain ⟨h1,rfl⟩:=J75 he; exact Jkd hT hop h1
 ·obtain ⟨h1,rfl⟩:=Jdk he; exact Jdu hT hop h1 hps
 ·obtain ⟨h1,rfl⟩:=Jdk he; exact Jke hT hop h1 hps
 ·obtain ⟨h1,rfl⟩:=J75 he; exact Jkj hop h1
 ·rename_i cl
  split at he
  ·rename_i b hb
   exact Jgr hT hop hb he hps
  ·cases he
 ·cases he
end Go.Ax

namespace Go.Ax
set_option linter.unusedVariables false
set_option linter.unusedSimpArgs false
variable {P : Program} {T : Tab}
def Jdx {α:Type} (x:List UInt8):List (List UInt8×α)→Option α
 | []=>none
 | p::r=>bif decide (x=p.1) then some p.2 else Jdx x r
def Jgu {α:Type} (x:List UInt8) (y:α):List (List UInt8×α)→List (List UInt8×α)
 | []=>[(x,y)]
 | p::r=>bif decide (x=p.1) then (p.1,y)::r else p::Jgu x y r
def J6o {κ α:Type} (f:κ→κ→Bool) (x:κ):List (κ×α)→Option α
 | []=>none
 | p::r=>bif f x p.1 then some p.2 else J6o f x r
def J6w {κ α:Type} (f:κ→κ→Bool) (x:κ) (y:α):List (κ×α)→List (κ×α)
 | []=>[(x,y)]
 | p::r=>bif f x p.1 then (p.1,y)::r else p::J6w f x y r
def Jc0 {κ α:Type} (f:κ→κ→Bool) (x:κ):List (κ×α)→List (κ×α)
 | []=>[]
 | p::r=>bif f x p.1 then r else p::Jc0 f x r
def mget {α:Type}:(k:Ty)→k.den→List (k.den×α)→Option α
 | .str,x,l=>Jdx x l
 | k,x,l=>J6o k.beq x l
def mput {α:Type}:(k:Ty)→k.den→α→List (k.den×α)→List (k.den×α)
 | .str,x,y,l=>Jgu x y l
 | k,x,y,l=>J6w k.beq x y l
theorem K3h {α:Type} (k:Ty) (x:k.den) (l:List (k.den×α)):mget k x l=J6o k.beq x l:=by
 cases k <;> first | rfl | skip
 show Jdx x l=_
 induction l with
 | nil=>rfl
 | cons p r ih=>rw [Jdx,J6o,ih]; rfl
theorem Jxn {α:Type} (k:Ty) (x:k.den) (y:α) (l:List (k.den×α)):mput k x y l=J6w k.beq x y l:=by
 cases k <;> first | rfl | skip
 show Jgu x y l=_
 induction l with
 | nil=>rfl
 | cons p r ih=>rw [Jgu,J6w,ih]; rfl
def keyB (P:Program) (T:Tab) (kt:Nat) (k:Ty):Bool:=
 match k with
 | .str=>decide (T.ty kt=some .str)
 | .int i=>decide (T.ty kt=some (.int i))
 | .arr n (.int .u8)=>eqB P T 20 kt (.arr n (.int .u8))
 | _=>false
def Jia (P:Program) (T:Tab) (h:List AObj) (t:Nat) (v:Ty):OpR:=
 match P.underlying t with
 | some (.map kt _)=>match T.ty kt with
  | some k=>some ([],.mp h.length,h++[.map k v [] true])
  | none=>none
 | _=>none
def Je3 (P:Program) (T:Tab) (h:List AObj) (t:Nat) (m k x:Slot):OpR:=
 match P.underlying t,m,k,x with
 | some (.map kt _),.mp l,.v k' key,.v v' y=>match J6q h l with
  | .map k v es true=>match keyB P T kt k,cast? k' k key,cast? v' v y with
   | true,some key,some y=>some ([],.undef,h.set l (.map k v (mput k key y es) true))
   | _,_,_=>none
  | _=>none
 | _,_,_,_=>none
def zOf (v:Ty):Option v.den:=
 match Jfs v with
 | .v v' z=>cast? v' v z
 | _=>match v.pure with
  | true=>some v.zero
  | false=>none
def Jlv (P:Program) (T:Tab) (h:List AObj) (t:Nat) (m k:Slot) (ok:Bool):OpR:=
 match P.underlying t,m,k with
 | some (.map kt et),.mp l,.v k' key=>match J6q h l with
  | .map k v es _=>match keyB P T kt k,cast? k' k key,decide (T.ty et=some v),zOf v with
   | true,some key,true,some z=>some ([],(match ok with
     | true=>.tup (.v v ((mget k key es).getD z)) (.tup (.v .bool (mget k key es).isSome) .tnil)
     | false=>.v v ((mget k key es).getD z)),h)
   | _,_,_,_=>none
  | _=>none
 | _,_,_=>none
def Jls (P:Program) (T:Tab) (h:List AObj) (ts:List Nat) (az:List Slot):OpR:=
 match ts,az with
 | t::_,[.mp l,.v k' key]=>match P.underlying t,J6q h l with
  | some (.map kt _),.map k v es true=>match keyB P T kt k,cast? k' k key with
   | true,some key=>some ([],.tnil,h.set l (.map k v (Jc0 k.beq key es) true))
   | _,_=>none
  | _,_=>none
 | _,_=>none
def Jlw (P:Program) (h:List AObj) (ts:List Nat) (az:List Slot):OpR:=
 match ts,az with
 | t::_,[.mp l]=>match P.underlying t,J6q h l with
  | some (.map _ _),.map k v es _=>some ([],.v (.int .i64) ((List.length es:Nat):Int),h)
  | _,_=>none
 | _,_=>none
def Jq7 (P:Program) (T:Tab) (ss:List (Nat×Slot)) (h:List AObj) (v:Option Ty) (o:Op):OpR:=
 match o with
 | .makeMap t none=>match v with
  | some v=>Jia P T h t v
  | none=>none
 | .mapUpdate t m k x=>Je3 P T h t (opnd ss m) (opnd ss k) (opnd ss x)
 | .lookup t m k ok=>Jlv P T h t (opnd ss m) (opnd ss k) ok
 | .call c=>match c.callee with
  | .builtin .delete=>Jls P T h c.argTypes.toList (c.args.toList.map (opnd ss))
  | .builtin .len=>Jlw P h c.argTypes.toList (c.args.toList.map (opnd ss))
  | _=>none
 | _=>none
theorem J8d.push {es:Array MapEntry} {q:Nat} (h:J8d es q) (a b:Value):J8d (es.push { key:=a,val:=b,born:=q }) (q+1):=by
 obtain ⟨h1,h2⟩:=h
 refine ⟨fun x hx=>?_,?_⟩
 ·simp only [Array.toList_push,List.mem_append,List.mem_singleton] at hx
  rcases hx with hx | rfl
  ·exact Nat.lt_succ_of_lt (h1 x hx)
  ·exact Nat.lt_succ_self _
 ·simp only [Array.toList_push,List.map_append,List.map_cons,List.map_nil]
  refine List.nodup_append.2 ⟨h2,by simp,fun a ha b hb=>?_⟩
  simp only [List.mem_singleton] at hb
  subst hb
  obtain ⟨x,hx,rfl⟩:=List.mem_map.1 ha
  exact Nat.ne_of_lt (h1 x hx)
theorem J8d.of_map {es es':Array MapEntry} {q:Nat} (h:J8d es q) (e:es'.toList.map (·.born)=es.toList.map (·.born)):J8d es' q:=by
 refine ⟨fun x hx=>?_,e ▸ h.2⟩
 have:x.born ∈ es'.toList.map (·.born):=List.mem_map.2 ⟨x,hx,rfl⟩
 rw [e] at this
 obtain ⟨y,hy,e⟩:=List.mem_map.1 this
 rw [← e]; exact h.1 y hy
theorem J8d.modify {es:Array MapEntry} {q:Nat} (h:J8d es q) (i:Nat) (f:MapEntry→MapEntry) (hf:∀ x,(f x).born=x.born):J8d (es.modify i f) q:=by
 refine h.of_map (List.ext_getElem? fun j=>?_)
 simp only [List.getElem?_map,Array.getElem?_toList,Array.getElem?_modify]
 split
 ·cases es[j]? with
  | none=>rfl
  | some x=>simp [hf]
 ·rfl
theorem J8d.erase {es:Array MapEntry} {q:Nat} (h:J8d es q) (i:Nat):J8d (es.eraseIdxIfInBounds i) q:=by
 have:(es.eraseIdxIfInBounds i).toList=es.toList.eraseIdx i:=by simp
 refine ⟨fun x hx=>h.1 x ?_,?_⟩
 ·rw [this] at hx; exact (List.eraseIdx_sublist _ _).subset hx
 ·rw [this]; exact ((List.eraseIdx_sublist _ _).map _).nodup h.2
theorem Jz6 (x y:List UInt8):((⟨x.toArray⟩:ByteArray) == ⟨y.toArray⟩)=decide (x=y):=by
 have:((⟨x.toArray⟩:ByteArray) == ⟨y.toArray⟩)=(x.toArray == y.toArray):=rfl
 rw [this,Bool.eq_iff_iff]; simp
theorem Jtw (x:ByteArray):(x == x)=true:=by
 have:=Jz6 x.data.toList x.data.toList
 rw [decide_eq_true rfl] at this
 exact this
def idxB {κ α:Type} (f:κ→κ→Bool) (x:κ):List (κ×α)→Option Nat
 | []=>none
 | p::r=>bif f x p.1 then some 0 else (idxB f x r).map (·+1)
def atOf (es:List MapEntry) (i:Nat):Option Nat→Option (Nat×Value)
 | none=>none
 | some j=>es[j]?.map fun e=>(i+j,e.val)
theorem Jnj (e:MapEntry) (es:List MapEntry) (i:Nat) (o:Option Nat):atOf (e::es) i (o.map (·+1))=atOf es (i+1) o:=by
 cases o with
 | none=>rfl
 | some j=>simp only [Option.map_some,atOf,List.getElem?_cons_succ,Nat.add_assoc,Nat.add_comm 1 j]
theorem Jit {w:World} {ok:Nat→Prop} {k v:Ty} (hc:k.comp=true) (hu:∀ (x:k.den) (c c':List Value),RepC w ok k c x→RepC w ok k c' x→c=c') {x:k.den} {c:List Value} (hx:RepC w ok k c x) :
  ∀ {ps:List (k.den×v.den)} {es:List MapEntry},MapR w ok k v ps es→
  (J6o k.beq x ps=none∧idxB k.beq x ps=none∧(∀ y,J6w k.beq x y ps=ps++[(x,y)])∧Jc0 k.beq x ps=ps)∨
  (∃ j e z c2,J6o k.beq x ps=some z∧idxB k.beq x ps=some j∧es[j]?=some e∧e.key=pack k c∧RepC w ok v c2 z∧e.val=pack v c2∧
   (∀ y c3,RepC w ok v c3 y→MapR w ok k v (J6w k.beq x y ps) (es.modify j fun e=>{ e with key:=pack k c,val:=pack v c3 }))∧MapR w ok k v (Jc0 k.beq x ps) (es.eraseIdx j))
 | [],[],_=>.inl ⟨rfl,rfl,fun _=>rfl,rfl⟩
 | p::ps,e::es,⟨⟨⟨c1,h1,h2⟩,c2,h3,h4⟩,h5⟩=>by
  by_cases q:k.beq x p.1=true
  ·have e1:=(Ty.beq_iff k hc x p.1).1 q
   have e2:c1=c:=hu p.1 c1 c h1 (e1 ▸ hx)
   subst e2
   refine .inr ⟨0,e,p.2,c2,by rw [J6o,q]; rfl,by rw [idxB,q]; rfl,rfl,h2,h3,h4,fun y c3 hy=>?_,?_⟩
   ·rw [J6w,q]
    exact ⟨⟨⟨c1,h1,rfl⟩,c3,hy,rfl⟩,h5⟩
   ·rw [Jc0,q]; exact h5
  ·rw [Bool.not_eq_true] at q
   rcases Jit hc hu hx h5 with ⟨q1,q2,q3,q8⟩ | ⟨j,e',z,c',q1,q2,q3,q4,q5,q6,q7,q8⟩
   ·exact .inl ⟨by rw [J6o,q]; exact q1,by rw [idxB,q,q2]; rfl,fun y=>by rw [J6w,q,q3 y]; rfl,by rw [Jc0,q,q8]; rfl⟩
   ·refine .inr ⟨j+1,e',z,c',by rw [J6o,q]; exact q1,by rw [idxB,q,q2]; rfl,q3,q4,q5,q6,fun y c3 hy=>?_,?_⟩
    ·rw [J6w,q]
     exact ⟨⟨⟨c1,h1,h2⟩,c2,h3,h4⟩,q7 y c3 hy⟩
    ·rw [Jc0,q]
     exact ⟨⟨⟨c1,h1,h2⟩,c2,h3,h4⟩,q8⟩
 | [],_::_,h=>h.elim
 | _::_,[],h=>h.elim
theorem Jot {w:World} {ok:Nat→Prop} {k v:Ty} {a:k.den} {y:v.den} {e:MapEntry} (he:(∃ c1,RepC w ok k c1 a∧e.key=pack k c1)∧∃ c2,RepC w ok v c2 y∧e.val=pack v c2) :
  ∀ {ps:List (k.den×v.den)} {es:List MapEntry},MapR w ok k v ps es→MapR w ok k v (ps++[(a,y)]) (es++[e])
 | [],[],_=>⟨he,trivial⟩
 | _::_,_::_,⟨h,h5⟩=>⟨h,Jot he h5⟩
 | [],_::_,h=>h.elim
 | _::_,[],h=>h.elim
theorem Jhe {w:World} {ok:Nat→Prop} {k v:Ty}:∀ {ps:List (k.den×v.den)} {es:List MapEntry},MapR w ok k v ps es→es.length=ps.length
 | [],[],_=>rfl
 | _::_,_::_,⟨_,h⟩=>by rw [List.length_cons,List.length_cons,Jhe h]
 | [],_::_,h=>h.elim
 | _::_,[],h=>h.elim
theorem Je6 {w:World} {ok:Nat→Prop} {k v:Ty} {d:TypeDesc} {x:k.den} {kv:Value} (hs:∀ (y:k.den) (c:List Value),RepC w ok k c y→Instr.sameNow d kv (pack k c)=some (k.beq x y)) :
  ∀ {ps:List (k.den×v.den)} {es:List MapEntry} (i:Nat),MapR w ok k v ps es→Instr.findNow d kv es i=some (atOf es i (idxB k.beq x ps))
 | [],[],_,_=>rfl
 | p::ps,e::es,i,⟨⟨⟨c1,h1,h2⟩,_⟩,h5⟩=>by
  rw [Instr.findNow,h2,hs p.1 c1 h1,idxB]
  cases k.beq x p.1 with
  | true=>rfl
  | false=>dsimp only; rw [Je6 hs (i+1) h5]; exact congrArg some (Jnj e es i _).symm
 | [],_::_,_,h=>h.elim
 | _::_,[],_,h=>h.elim
theorem Jid {w:World} {ok:Nat→Prop} {k v:Ty} {kt:Nat} {x:k.den} {kv:Value} (hs:∀ (y:k.den) (c:List Value),RepC w ok k c y→(Op.equal kt kv (pack k c)).run P w=.ok (k.beq x y) w) :
  ∀ {ps:List (k.den×v.den)} {es:List MapEntry} (i:Nat),MapR w ok k v ps es→(Instr.findAsking kt kv es i).run P w=.ok (atOf es i (idxB k.beq x ps)) w
 | [],[],_,_=>rfl
 | p::ps,e::es,i,⟨⟨⟨c1,h1,h2⟩,_⟩,h5⟩=>by
  rw [Instr.findAsking,h2]
  simp only [Sem.run_bind,hs p.1 c1 h1,Result.andThen_ok,idxB]
  cases k.beq x p.1 with
  | true=>rfl
  | false=>
   simp only [Bool.false_eq_true,if_false,cond_false]
   rw [Jid hs (i+1) h5,Jnj]
 | [],_::_,_,h=>h.elim
 | _::_,[],_,h=>h.elim
theorem Jkk {w:World} {B:Nat→Unit→Sem (ForInStep Unit)}:∀ (l:List Nat),(∀ i ∈ l,(B i ()).run P w=.ok (.yield ()) w)→(forIn l () B).run P w=.ok () w
 | [],_=>rfl
 | i::l,h=>by
  rw [List.forIn_cons]
  simp only [Sem.run_bind,h i (List.mem_cons_self ..),Result.andThen_ok]
  exact Jkk l fun j hj=>h j (List.mem_cons_of_mem _ hj)
structure KeyOK (P:Program) (kt:Nat) (k:Ty):Prop where
 comp:k.comp=true
 flat:k.flat=true
 uniq:∀ (w:World) (ok:Nat→Prop) (x:k.den) (c c':List Value),RepC w ok k c x→RepC w ok k c' x→c=c'
 check:∀ (e:Bool) (w:World) (ok:Nat→Prop) (x:k.den) (c:List Value),RepC w ok k c x→(Instr.checkKey e 10000 kt (pack k c)).run P w=.ok () w
 stays:∀ (w:World) (ok:Nat→Prop) (x:k.den) (c:List Value),RepC w ok k c x→(Instr.keyThatStays (pack k c) (pack k c)).run P w=.ok (pack k c) w
 find:∀ (w:World) (ok:Nat→Prop) (v:Ty) (x:k.den) (c:List Value) (ps:List (k.den×v.den)) (es:List MapEntry),RepC w ok k c x→MapR w ok k v ps es→(Instr.findKey kt (pack k c) es).run P w=.ok (atOf es 0 (idxB k.beq x ps)) w
theorem Jn1 {v:Value} (h:Instr.sameBits 10000 v v=true) (w:World):(Instr.keyThatStays v v).run P w=.ok v w:=by
 unfold Instr.keyThatStays
 simp [h]
theorem run_findKey {t:Nat} {d:TypeDesc} (hu:P.underlying t=some d) {x:Value} {es:List MapEntry} {r:Option (Nat×Value)} (h:Instr.findNow d x es 0=some r) (w:World) :
  (Instr.findKey t x es).run P w=.ok r w:=by
 unfold Instr.findKey
 simp [run_underlying hu,h]
theorem Jfp {w:World} {ok:Nat→Prop}:∀ {xs:List UInt8} {cs:List Value},Cat (RepC w ok (.int .u8)) cs xs→cs=xs.map fun x=>Value.int .u8 (IK.toInt .u8 x)
 | [],cs,h=>h
 | x::xs,cs,h=>by
  obtain ⟨c1,c2,rfl,h1,h2⟩:=h
  have h1:c1=[.int .u8 (IK.toInt .u8 x)]:=h1
  rw [h1,Jfp h2]; rfl
theorem Jtk:∀ (xs:List UInt8),((xs.map fun x=>Value.int .u8 (IK.toInt .u8 x)).zip (xs.map fun x=>Value.int .u8 (IK.toInt .u8 x))).all (fun (x,y)=>Instr.sameBits 9999 x y)=true
 | []=>rfl
 | x::xs=>by
  have:=Jtk xs
  simp only [List.map_cons,List.zip_cons_cons,List.all_cons,Bool.and_eq_true]
  exact ⟨by simp [Instr.sameBits],this⟩
theorem Js7 (hT:J78 P T) {kt:Nat} {k:Ty} (hk:keyB P T kt k=true):KeyOK P kt k:=by
 unfold keyB at hk
 split at hk
 ·have hk:=Jd7 hT (of_decide_eq_true hk)
  refine ⟨rfl,rfl,fun w ok x c c' h h'=>?_,fun e w ok x c h=>?_,fun w ok x c h=>?_,fun w ok v x c ps es h hm=>?_⟩
  ·simp only [RepC] at h h'; rw [h,h']
  ·simp only [RepC] at h; subst h
   show (Instr.checkKey e (9999+1) kt (.string _)).run P w=_
   unfold Instr.checkKey
   simp [run_underlying hk]
  ·simp only [RepC] at h; subst h
   refine Jn1 ?_ w
   show Instr.sameBits (9999+1) (.string _) (.string _)=true
   simp only [Instr.sameBits]
   exact Jtw _
  ·simp only [RepC] at h; subst h
   refine run_findKey hk (Je6 (ok:=ok) (fun y c hc=>?_) 0 hm) w
   simp only [RepC] at hc; subst hc
   show Instr.sameNow .string (.string _) (.string _)=_
   simp only [Instr.sameNow,Jz6]
   rfl
 ·rename_i i
  have hk:=J9c hT (of_decide_eq_true hk)
  refine ⟨rfl,rfl,fun w ok x c c' h h'=>?_,fun e w ok x c h=>?_,fun w ok x c h=>?_,fun w ok v x c ps es h hm=>?_⟩
  ·simp only [RepC] at h h'; rw [h,h']
  ·simp only [RepC] at h; subst h
   show (Instr.checkKey e (9999+1) kt (.int i _)).run P w=_
   unfold Instr.checkKey
   simp [run_underlying hk]
  ·simp only [RepC] at h; subst h
   refine Jn1 ?_ w
   show Instr.sameBits (9999+1) (.int i _) (.int i _)=true
   simp [Instr.sameBits]
  ·simp only [RepC] at h; subst h
   refine run_findKey hk (Je6 (ok:=ok) (fun y c hc=>?_) 0 hm) w
   simp only [RepC] at hc; subst hc
   show Instr.sameNow (.int i) (.int i _) (.int i _)=_
   simp only [Instr.sameNow,if_true,Ty.beq]
   rw [show (IK.toInt i x == IK.toInt i y)=decide (IK.toInt i x=IK.toInt i y) from by rw [Bool.eq_iff_iff]; simp]
 ·rename_i n
  obtain ⟨hty,hE⟩:=K1m hT 20 kt _ 10000 (by decide) hk
  obtain ⟨by_,hg⟩:=Tab.ty_get hty
  obtain ⟨dd,hu,hD⟩:=(hT _ _ _ hg).desc
  obtain ⟨te,rfl,hte⟩:=hD
  have hue:=J9c hT hte
  obtain ⟨by2,hg2⟩:=Tab.ty_get hte
  have hI2:=hT _ _ _ hg2
  have hpk:∀ c,pack (.arr n (.int .u8)) c=.agg c.toArray:=fun c=>rfl
  refine ⟨rfl,rfl,fun w ok x c c' h h'=>?_,fun e w ok x c h=>?_,fun w ok x c h=>?_,fun w ok v x c ps es h hm=>?_⟩
  ·rw [Jfp h.2,Jfp h'.2]
  ·rw [hpk]
   show (Instr.checkKey e (9999+1) kt (.agg _)).run P w=_
   unfold Instr.checkKey
   simp only [Sem.run_bind,run_underlying hu,Result.andThen_ok]
   rw [Std.Legacy.Range.forIn_eq_forIn_range']
   have e1:List.range' [:n].start [:n].size [:n].step=List.range' 0 n 1:=by simp [Std.Legacy.Range.size]
   rw [e1]
   have hl:c.length=n:=by rw [Jfp h.2,List.length_map]; exact h.1
   have hf:=Jkk (P:=P) (w:=w) (B:=fun i _=>do
    let __do_lift ← sizeOf te
    let __do_lift ← part te c.toArray (i * __do_lift)
    Instr.checkKey e 9999 te __do_lift
    pure (ForInStep.yield PUnit.unit)) (List.range' 0 n) fun i hi=>?_
   ·rw [hf]; rfl
   have hi:=List.mem_range'.1 hi
   have hp:=hI2.run_part (cs:=c.toArray) (o:=i * 1) (by simp [Ty.size,hl]; omega) w
   have hsz:=hI2.run_size w
   have hsz:(sizeOf te).run P w=.ok 1 w:=hsz
   have hun:=run_underlying hue (w:=w)
   simp only [Sem.run_bind,hsz,Result.andThen_ok,hp]
   rw [show (9999:Nat)=9998+1 from rfl]
   unfold Instr.checkKey
   simp [hun]
  ·rw [hpk]
   refine Jn1 ?_ w
   show Instr.sameBits (9999+1) (.agg _) (.agg _)=true
   simp only [Instr.sameBits,beq_self_eq_true,Bool.true_and]
   rw [Jfp h.2]
   exact Jtk x
  ·rw [hpk]
   unfold Instr.findKey
   simp only [Sem.run_bind,run_underlying hu,Result.andThen_ok]
   cases es with
   | nil=>
    cases ps with
    | nil=>rfl
    | cons _ _=>exact hm.elim
   | cons e es=>
    cases ps with
    | nil=>exact hm.elim
    | cons p ps=>
     have hn:Instr.findNow (.array n te) (.agg c.toArray) (e::es) 0=none:=by
      rw [Instr.findNow]
      simp [Instr.sameNow]
     rw [hn]
     exact Jid (ok:=ok) (fun y c2 h2=>hE w ok x y c c2 h h2) 0 hm
 ·cases hk
theorem Jiv {c:Ctx} {G:List GE} {h:List AObj} {w:World} (hh:HRG c G h w) {l:Nat} {k v:Ty} {es:List (k.den×v.den)} {lv:Bool} {m:Value} {ok:Nat→Prop} (ho:J6q h l=.map k v es lv) (hm:TRel G w ok (.mp l) m) :
  h[l]?=some (.map k v es lv)∧∃ g b es' q,G[l]?=some g∧g.blk=some b∧m=.map (some b)∧w.heap[b]?=some (.map es' q)∧g.kind=.map∧MapR w (okB c G h w) k v es es'.toList∧J8d es' q:=by
 obtain ⟨t,cs,⟨rfl,g,b,h1,h2,h3,rfl⟩,rfl⟩:=hm
 have hl:h[l]?=some (.map k v es lv):=by
  unfold J6q at ho
  rw [List.getD_eq_getElem?_getD] at ho
  cases hx:h[l]? with
  | none=>rw [hx] at ho; cases ho
  | some o=>rw [hx] at ho; simp only [Option.getD_some] at ho; rw [ho]
 obtain ⟨q1,b',es',q,q2,q3,q4⟩:=hh.objs l _ g hl h1
 rw [h3] at q2; injection q2 with q2; subst q2
 exact ⟨hl,g,b,es',q,h1,h3,rfl,q3,h2,q4⟩
theorem Juh {o:Oper} {st:St} {t:Nat} {v:Ty} {ps:List Prop} {s:Slot} {h':List AObj} (hop:o.op=.makeMap t none) (he:Jia P T st.heap t v=some (ps,s,h')):VOp P o st s h':=by
 unfold Jia at he
 split at he
 ·split at he
  ·rename_i k hk
   injection he with he; injection he with e1 e2; injection e2 with e2 e3; subst e2; subst e3
   intro c G a w hs
   have hh:=hs.toHRG
   obtain ⟨h1,h2⟩:=hh.alloc0 (x:=.map #[] 0) (o:=.map k v [] true) (g:=⟨.map,some w.heap.size,.unit,0,0⟩) rfl (fun ok' k=>by
    refine ⟨rfl,w.heap.size,#[],0,rfl,?_,trivial,by simp [J8d]⟩
    show (w.heap.push _)[w.heap.size]?=_; simp)
   refine ⟨.map (some w.heap.size),_,_,.inl ?_,h1,Ext.snoc _ _,h2,⟨.mp,_,⟨rfl,⟨.map,some w.heap.size,.unit,0,0⟩,w.heap.size,?_,rfl,rfl,rfl⟩,rfl⟩⟩
   ·simp [execOp,hop,Instr.makeMap,newObj,Sem.run,World.alloc,-World.alloc_eq]
   ·rw [← hh.len]; simp
  ·cases he
 ·cases he
theorem Jfr {w:World} {b:Nat} {es:Array MapEntry} {q:Nat} (h:w.heap[b]?=some (.map es q)) (x:Obj):Jvf w { w with heap:=w.heap.setIfInBounds b x } b:=by
 refine ⟨fun k hk=>?_,by simp,rfl,rfl,rfl⟩
 show (w.heap.setIfInBounds b x)[k]?=_
 rw [Array.getElem?_setIfInBounds,if_neg (Ne.symm hk)]
theorem Jhc {w:World} {b:Nat} {es:Array MapEntry} {q:Nat} (h:w.heap[b]?=some (.map es q)) (x:Obj):({ w with heap:=w.heap.setIfInBounds b x }:World).heap[b]?=some x:=by
 show (w.heap.setIfInBounds b x)[b]?=_
 have:b < w.heap.size:=by
  rcases Nat.lt_or_ge b w.heap.size with h' | h'
  ·exact h'
  ·rw [Array.getElem?_eq_none h'] at h; cases h
 rw [Array.getElem?_setIfInBounds,if_pos rfl,if_pos this]
theorem Jhj {G:List GE} {w:World} {ok:Nat→Prop} {t t':Ty} {x:t.den} {y:t'.den} (hc:cast? t t' x=some y) {v:Value} (h:TRel G w ok (.v t x) v):∃ cs,RepC w ok t' cs y∧v=pack t' cs:=by
 obtain ⟨rfl,hc⟩:=J9o hc
 have hc:x=y:=hc
 subst hc
 obtain ⟨tt,cs,⟨rfl,hr⟩,hp⟩:=h
 exact ⟨cs,hr,hp⟩
theorem Jou (hT:J78 P T) {o:Oper} {st:St} {t:Nat} {m k x:Operand} {ps:List Prop} {s:Slot} {h':List AObj} (hop:o.op=.mapUpdate t m k x)
  (he:Je3 P T st.heap t (opnd st.slots m) (opnd st.slots k) (opnd st.slots x)=some (ps,s,h')):VOp P o st s h':=by
 unfold Je3 at he
 split at he
 ·rename_i kt et l k' key0 v' y0 hu hm hk hx
  split at he
  ·rename_i kk v es ho
   split at he
   ·rename_i key y hkb hck hcv
    injection he with he; injection he with e1 e2; injection e2 with e2 e3; subst e2; subst e3
    intro c G a w hs
    have hmv:=J6v hs m
    have hkv:=J6v hs k
    have hxv:=J6v hs x
    rw [hm] at hmv; rw [hk] at hkv; rw [hx] at hxv
    obtain ⟨ck,hkr,hke⟩:=Jhj hck hkv
    obtain ⟨cs,hrep,hxe⟩:=Jhj hcv hxv
    have K:=Js7 hT hkb
    obtain ⟨hl,g,b,es',q,hg,hb,hme,hheap,hkind,hR,hB⟩:=Jiv hs.toHRG ho hmv
    have hfind:=K.find w _ v key ck es es'.toList hkr hR
    have hcheck:=K.check false w _ key ck hkr
    rcases Jit K.comp (K.uniq w _) hkr hR with ⟨q1,q2,q3,_⟩ | ⟨j,e,z,c2,q1,q2,q3,q4,q5,q6,q7,_⟩
    ·rw [q2] at hfind
     obtain ⟨r1,r2,r3⟩:=hs.toHRG.wrote0 (o':=.map kk v (mput kk key y es) true) hl hg rfl hb (Jfr hheap (.map (es'.push { key:=pack kk ck,val:=a.eval x,born:=q }) (q+1))) rfl rfl (fun kp=>by
      refine ⟨hkind,b,_,_,hb,Jhc hheap _,?_,hB.push _ _⟩
      rw [Jxn,q3 y,Array.toList_push]
      exact Jot ⟨⟨ck,RepC.mono kp _ hkr,rfl⟩,cs,RepC.mono kp _ hrep,hxe⟩ (MapR.mono kp hR))
     refine ⟨undef,_,G,.inr ⟨?_,rfl⟩,r1,Ext.refl G,by rw [r2]; exact r3,trivial⟩
     have hfind:(Instr.findKey kt (pack kk ck) es'.toList).run P w=.ok none w:=hfind
     simp [execOp,hop,hme,hke,Instr.mapUpdate,run_underlying hu,MapKept.run_getObj_map hheap,hcheck,hfind,MapKept.run_setObj_map _ hheap]
    ·have hat:atOf es'.toList 0 (some j)=some (j,e.val):=by
      show (es'.toList[j]?).map _=_
      rw [q3,Option.map_some,Nat.zero_add]
     rw [q2,hat] at hfind
     obtain ⟨r1,r2,r3⟩:=hs.toHRG.wrote0 (o':=.map kk v (mput kk key y es) true) hl hg rfl hb (Jfr hheap (.map (es'.modify j fun e=>{ e with key:=pack kk ck,val:=a.eval x }) q)) rfl rfl (fun kp=>by
      refine ⟨hkind,b,_,_,hb,Jhc hheap _,?_,hB.modify _ _ fun _=>rfl⟩
      rw [Jxn,Array.toList_modify]
      have q8:=q7 y cs hrep
      rw [← hxe] at q8
      exact MapR.mono kp q8)
     refine ⟨undef,_,G,.inr ⟨?_,rfl⟩,r1,Ext.refl G,by rw [r2]; exact r3,trivial⟩
     have hkey:((es'[j]?).map (·.key)).getD (pack kk ck)=pack kk ck:=by
      rw [← Array.getElem?_toList,q3]; exact q4
     have hst:=K.stays w _ key ck hkr
     simp [execOp,hop,hme,hke,Instr.mapUpdate,run_underlying hu,MapKept.run_getObj_map hheap,hcheck,hfind,hkey,hst,MapKept.run_setObj_map _ hheap]
   ·cases he
  ·cases he
 ·cases he
theorem K2e {v:Ty} {z:v.den} (h:zOf v=some z) (G:List GE) (w:World) (ok:Nat→Prop):v≠.mp∧v≠.fn∧RepC w ok v (J77 v) z:=by
 have h1:v≠.mp:=by intro e; subst e; cases h
 have h2:v≠.fn:=by intro e; subst e; cases h
 have hz:=Jd9 G w ok v
 unfold zOf at h
 split at h
 ·rename_i v' z0 hs
  obtain ⟨rfl,hc⟩:=J9o h
  have hc:z0=z:=hc
  subst hc
  rw [hs] at hz
  exact ⟨h1,h2,hz.2⟩
 ·split at h
  ·rename_i hp
   injection h with h; subst h
   exact ⟨h1,h2,Jaq w ok v hp⟩
  ·cases h
theorem Jxh (hT:J78 P T) {o:Oper} {st:St} {t:Nat} {m k:Operand} {cm:Bool} {ps:List Prop} {s:Slot} {h':List AObj} (hop:o.op=.lookup t m k cm)
  (he:Jlv P T st.heap t (opnd st.slots m) (opnd st.slots k) cm=some (ps,s,h')):VOp P o st s h':=by
 unfold Jlv at he
 split at he
 ·rename_i kt et l k' key0 hu hm hk
  split at he
  ·rename_i kk v es lv ho
   split at he
   ·rename_i key z hkb hck het hz
    injection he with he; injection he with e1 e2; injection e2 with e2 e3; subst e2; subst e3
    have het:T.ty et=some v:=of_decide_eq_true het
    obtain ⟨by_,hget⟩:=Tab.ty_get het
    have hI:=hT _ _ _ hget
    refine VOp.pure fun c G a w hs=>?_
    have hmv:=J6v hs m
    have hkv:=J6v hs k
    rw [hm] at hmv; rw [hk] at hkv
    obtain ⟨ck,hkr,hke⟩:=Jhj hck hkv
    have K:=Js7 hT hkb
    obtain ⟨hl,g,b,es',q,hg,hb,hme,hheap,hkind,hR,hB⟩:=Jiv hs.toHRG ho hmv
    have hfind:=K.find w _ v key ck es es'.toList hkr hR
    have hcheck:=fun e=>K.check e w _ key ck hkr
    obtain ⟨z1,z2,z3⟩:=K2e hz G w (okB c G st.heap w)
    have hzr:=hI.run_zero z1 z2 w
    have fin:∀ (cm:Bool) (y:v.den) (cs:List Value) (bb:Bool),RepC w (okB c G st.heap w) v cs y→TRel G w (okB c G st.heap w) (match cm with
     | true=>.tup (.v v y) (.tup (.v .bool bb) .tnil)
     | false=>.v v y) (if cm then .tuple #[pack v cs,.bool bb] else pack v cs):=by
     intro cm y cs bb hr
     cases cm with
     | true=>exact ⟨[pack v cs,.bool bb],rfl,pack v cs,[.bool bb],rfl,⟨v,cs,⟨rfl,hr⟩,rfl⟩,.bool bb,[],rfl,⟨.bool,[.bool bb],⟨rfl,rfl⟩,rfl⟩,rfl⟩
     | false=>exact ⟨v,cs,⟨rfl,hr⟩,rfl⟩
    rw [K3h]
    rcases Jit K.comp (K.uniq w _) hkr hR with ⟨q1,q2,q3,_⟩ | ⟨j,e,y,c2,q1,q2,q3,q4,q5,q6,q7,_⟩
    ·rw [q1]
     refine ⟨_,?_,fin cm z (J77 v) false z3⟩
     rw [q2] at hfind
     have hfind:(Instr.findKey kt (pack kk ck) es'.toList).run P w=.ok none w:=hfind
     simp [execOp,hop,hme,hke,Instr.lookup,run_underlying hu,MapKept.run_getObj_map hheap,hcheck,hfind,hzr]
    ·rw [q1]
     have hat:atOf es'.toList 0 (some j)=some (j,e.val):=by
      show (es'.toList[j]?).map _=_
      rw [q3,Option.map_some,Nat.zero_add]
     rw [q2,hat] at hfind
     refine ⟨_,?_,fin cm y c2 true q5⟩
     simp [execOp,hop,hme,hke,Instr.lookup,run_underlying hu,MapKept.run_getObj_map hheap,hcheck,hfind,q6]
   ·cases he
  ·cases he
 ·cases he
theorem Jwb (hT:J78 P T) {o:Oper} {st:St} {cl:Call} {ps:List Prop} {s:Slot} {h':List AObj} (hop:o.op=.call cl) (hc:cl.callee=.builtin .delete)
  (he:Jls P T st.heap cl.argTypes.toList (cl.args.toList.map (opnd st.slots))=some (ps,s,h')):VOp P o st s h':=by
 unfold Jls at he
 split at he
 ·rename_i t ts l k' key0 hts has
  split at he
  ·rename_i kt et kk v es hu ho
   split at he
   ·rename_i key hkb hck
    injection he with he; injection he with e1 e2; injection e2 with e2 e3; subst e2; subst e3
    obtain ⟨m,k,hargs,hm,hk⟩:∃ m k,cl.args.toList=[m,k]∧opnd st.slots m=.mp l∧opnd st.slots k=.v k' key0:=by
     match hh:cl.args.toList with
     | [m,k]=>
      rw [hh] at has
      simp only [List.map_cons,List.map_nil,List.cons.injEq,and_true] at has
      exact ⟨m,k,rfl,has.1,has.2⟩
     | []=>rw [hh] at has; simp at has
     | [_]=>rw [hh] at has; simp at has
     | _::_::_::_=>rw [hh] at has; simp at has
    intro c G a w hs
    have hmv:=J6v hs m
    have hkv:=J6v hs k
    rw [hm] at hmv; rw [hk] at hkv
    obtain ⟨ck,hkr,hke⟩:=Jhj hck hkv
    have K:=Js7 hT hkb
    obtain ⟨hl,g,b,es',q,hg,hb,hme,hheap,hkind,hR,hB⟩:=Jiv hs.toHRG ho hmv
    have hfind:=K.find w _ v key ck es es'.toList hkr hR
    have hcheck:=fun e=>K.check e w _ key ck hkr
    have ha:=Jrh hargs
    have ht:cl.argTypes[0]?=some t:=by rw [← Array.getElem?_toList,hts]; rfl
    have hlk:TRel G w (okB c G st.heap w) .tnil (.tuple #[]):=rfl
    rcases Jit K.comp (K.uniq w _) hkr hR with ⟨q1,q2,q3,q8⟩ | ⟨j,e,y,c2,q1,q2,q3,q4,q5,q6,q7,q8⟩
    ·obtain ⟨r1,r2,r3⟩:=hs.toHRG.wrote0 (o':=.map kk v (Jc0 kk.beq key es) true) hl hg rfl hb (Jfr hheap (.map es' q)) rfl rfl (fun kp=>by
      refine ⟨hkind,b,_,_,hb,Jhc hheap _,?_,hB⟩
      rw [q8]; exact MapR.mono kp hR)
     refine ⟨.tuple #[],_,G,.inl ?_,r1,Ext.refl G,by rw [r2]; exact r3,rfl⟩
     rw [q2] at hfind
     have hfind:(Instr.findKey kt (pack kk ck) es'.toList).run P w=.ok none w:=hfind
     simp [execOp,hop,resolve,hc,ha,hme,hke,ht,invoke,builtin,Builtin.delete_,run_underlying hu,MapKept.run_getObj_map hheap,hcheck,hfind,MapKept.run_setObj_map _ hheap]
    ·have hat:atOf es'.toList 0 (some j)=some (j,e.val):=by
      show (es'.toList[j]?).map _=_
      rw [q3,Option.map_some,Nat.zero_add]
     rw [q2,hat] at hfind
     obtain ⟨r1,r2,r3⟩:=hs.toHRG.wrote0 (o':=.map kk v (Jc0 kk.beq key es) true) hl hg rfl hb (Jfr hheap (.map (es'.eraseIdxIfInBounds j) q)) rfl rfl (fun kp=>by
      refine ⟨hkind,b,_,_,hb,Jhc hheap _,?_,hB.erase j⟩
      have:(es'.eraseIdxIfInBounds j).toList=es'.toList.eraseIdx j:=by simp
      rw [this]; exact MapR.mono kp q8)
     refine ⟨.tuple #[],_,G,.inl ?_,r1,Ext.refl G,by rw [r2]; exact r3,rfl⟩
     simp [execOp,hop,resolve,hc,ha,hme,hke,ht,invoke,builtin,Builtin.delete_,run_underlying hu,MapKept.run_getObj_map hheap,hcheck,hfind,MapKept.run_setObj_map _ hheap]
   ·cases he
  ·cases he
 ·cases he
theorem Jxj {o:Oper} {st:St} {cl:Call} {ps:List Prop} {s:Slot} {h':List AObj} (hop:o.op=.call cl) (hc:cl.callee=.builtin .len)
  (he:Jlw P st.heap cl.argTypes.toList (cl.args.toList.map (opnd st.slots))=some (ps,s,h')):VOp P o st s h':=by
 unfold Jlw at he
 split at he
 ·rename_i t ts l hts has
  split at he
  ·rename_i kt et kk v es lv hu ho
   injection he with he; injection he with e1 e2; injection e2 with e2 e3; subst e2; subst e3
   obtain ⟨m,hargs,hm⟩:∃ m,cl.args.toList=[m]∧opnd st.slots m=.mp l:=by
    match hh:cl.args.toList with
    | [m]=>
     rw [hh] at has
     simp only [List.map_cons,List.map_nil,List.cons.injEq,and_true] at has
     exact ⟨m,rfl,has⟩
    | []=>rw [hh] at has; simp at has
    | _::_::_=>rw [hh] at has; simp at has
   refine VOp.pure fun c G a w hs=>?_
   have hmv:=J6v hs m
   rw [hm] at hmv
   obtain ⟨hl,g,b,es',q,hg,hb,hme,hheap,hkind,hR,hB⟩:=Jiv hs.toHRG ho hmv
   have ha:=Jrh hargs
   have ht:cl.argTypes[0]?=some t:=by rw [← Array.getElem?_toList,hts]; rfl
   have hsz:es'.size=List.length es:=by have:=Jhe hR; simpa using this
   refine ⟨.int .i64 ((List.length es:Nat):Int),?_,J7q .i64 _⟩
   simp [execOp,hop,resolve,hc,ha,invoke,builtin,hme,ht,Builtin.len_,run_underlying hu,MapKept.run_getObj_map hheap,goInt,hsz]
  ·cases he
 ·cases he
theorem Kc (hT:J78 P T) {o:Oper} {st:St} {v:Option Ty} {ps:List Prop} {s:Slot} {h':List AObj} (he:Jq7 P T st.slots st.heap v o.op=some (ps,s,h')):VOp P o st s h':=by
 generalize hop:o.op=op at he
 unfold Jq7 at he
 split at he
 ·split at he
  ·exact Juh hop he
  ·cases he
 ·exact Jou hT hop he
 ·exact Jxh hT hop he
 ·split at he
  ·rename_i hc; exact Jwb hT hop hc he
  ·rename_i hc; exact Jxj hop hc he
  ·cases he
 ·cases he
end Go.Ax

namespace Go.Ax
set_option linter.unusedVariables false
set_option linter.unusedSimpArgs false
variable {P : Program} {T : Tab}
inductive It where
 | br (b:Bool)
 | call (modes:List (Option Ty)) (back snap:List Nat) (fl:Bool) (ret:Slot) (objs':List AObj)
 | part (o:Exit) (st':St)
 | val (i:Nat) (t:Ty)
 | sel (is ks:List Nat)
 | promote (i:Nat) (e:Ty)
 | promoteObj (l:Nat) (p:List Step)
 | valObj (l:Nat) (p:List Step)
 | freeze (ids:List Nat)
 | kill (ids:List Nat)
 | move (l:Nat)
 | asis
 | pre (pt:List (List Nat))
 | kept (ids:List Nat)
 | dive
theorem AllP.c {p:Prop} {ps:List Prop} (h:p) (hs:AllP ps):AllP (p::ps):=⟨h,hs⟩
theorem AllP.n:AllP []:=trivial
theorem AllP.app:∀ {a b:List Prop},AllP a→AllP b→AllP (a++b)
 | [],_,_,h=>h
 | _::_,_,h,h'=>⟨h.1,AllP.app h.2 h'⟩
def Jmi (h:List AObj) (back snap:List Nat) (m:Option Ty) (s:Slot):Option Slot:=
 match s with
 | .own l p=>match J7h snap l with
  | true=>match J74 (J6q h l) p with
   | some r=>some (.v (.slice r.e) r.xs)
   | none=>none
  | false=>match J7h back l with
   | true=>some (.own (posF back l) p)
   | false=>none
 | .nil=>match m with
  | some e=>some (.v (.slice e) [])
  | none=>some .nil
 | s=>match s.ids.all (J7h back) with
  | true=>some (s.ren (posF back))
  | false=>none
def Ja2 (h:List AObj) (back snap:List Nat):List (Option Ty)→List Slot→Option (List Slot)
 | _,[]=>some []
 | m::ms,s::r=>match Jmi h back snap m s,Ja2 h back snap ms r with
  | some s',some r'=>some (s'::r')
  | _,_=>none
 | [],s::r=>match Jmi h back snap none s,Ja2 h back snap [] r with
  | some s',some r'=>some (s'::r')
  | _,_=>none
theorem J8z {l:Nat} {back:List Nat} (h:J7h back l=true):l ∈ back:=List.mem_of_getElem? (Jcr h).1
theorem Jl0 {h:List AObj} {back snap:List Nat} {m:Option Ty} {s s':Slot} (he:Jmi h back snap m s=some s'):Jzn h back snap s s':=by
 unfold Jmi at he
 split at he
 ·rename_i l p
  split at he
  ·rename_i hs
   split at he
   ·rename_i r hr
    injection he with he; subst he
    obtain ⟨h1,h2⟩:=Jf8 hr
    exact .inr (.inr ⟨l,p,_,r,rfl,h1,h2,hr,rfl,J8z hs⟩)
   ·cases he
  ·split at he
   ·rename_i hb
    injection he with he; subst he
    exact .inl ⟨rfl,by simp [Slot.ids,hb]⟩
   ·cases he
 ·split at he
  ·injection he with he; subst he; exact .inr (.inl ⟨rfl,_,rfl⟩)
  ·injection he with he; subst he; exact .inl ⟨rfl,by simp [Slot.ids]⟩
 ·split at he
  ·rename_i hb
   injection he with he; subst he
   exact .inl ⟨rfl,fun i hi=>List.all_eq_true.1 hb i hi⟩
  ·cases he
theorem Jc2 {h:List AObj} {back snap:List Nat}:∀ {ms:List (Option Ty)} {az as':List Slot},Ja2 h back snap ms az=some as'→Jnf h back snap az as'
 | _,[],as',he=>by
  have:as'=[]:=by cases ‹List (Option Ty)› <;> (simp only [Ja2] at he; injection he with he; exact he.symm)
  subst this; trivial
 | m::ms,s::r,as',he=>by
  simp only [Ja2] at he
  split at he
  ·rename_i s' r' h1 h2
   injection he with he; subst he
   exact ⟨Jl0 h1,Jc2 h2⟩
  ·cases he
 | [],s::r,as',he=>by
  simp only [Ja2] at he
  split at he
  ·rename_i s' r' h1 h2
   injection he with he; subst he
   exact ⟨Jl0 h1,Jc2 h2⟩
  ·cases he
def callB (h:List AObj) (back snap:List Nat) (fl:Bool) (ret:Slot) (objs':List AObj):Bool:=
 J8g h back && snap.all (fun l=>!J7h back l) && Nat.ble back.length objs'.length && (!fl || (ret.flat && objs'.all AObj.flat))
def Jwj (P:Program) (ss:List (Nat×Slot)) (h:List AObj) (f0:Operand) (args:List Operand) (modes:List (Option Ty)) (back snap:List Nat) (fl:Bool) (ret:Slot) (objs':List AObj):OpR:=
 match opnd ss f0 with
 | .fn f cap=>match Ja2 h back snap modes (args.map (opnd ss)++J9w cap),callB h back snap fl ret objs' with
  | some as',true=>some ([CallC P f as' (lent h back) ret objs'],ret.ren (unl h.length back),J7e h back snap fl objs')
  | _,_=>none
 | _=>none
def Jet (P:Program) (T:Tab) (E:List Nat) (ss:List (Nat×Slot)) (h:List AObj) (its:List It) (o:Op):Option (List Prop×Slot×List AObj×List It):=
 match o with
 | .pick _ _ _=>match its with
  | .br b::its=>match exOp T E b ss h o with | some (ps,s,h')=>some (ps,s,h',its) | none=>none
  | _=>none
 | .slice _ _ _ _ _=>match its with
  | .br b::its=>match exOp T E b ss h o with | some (ps,s,h')=>some (ps,s,h',its) | none=>none
  | _=>none
 | .build _ _=>match its with
  | .asis::its=>match exOp T E true ss h o with | some (ps,s,h')=>some (ps,s,h',its) | none=>none
  | its=>match exOp T E false ss h o with | some (ps,s,h')=>some (ps,s,h',its) | none=>none
 | .call cl=>match cl.callee with
  | .value f0=>match its with
   | .call modes back snap fl ret objs'::its=>match Jwj P ss h f0 cl.args.toList modes back snap fl ret objs' with | some (ps,s,h')=>some (ps,s,h',its) | none=>none
   | _=>none
  | _=>match exOp T E false ss h o with
   | some (ps,s,h')=>some (ps,s,h',its)
   | none=>match Jq7 P T ss h none o with | some (ps,s,h')=>some (ps,s,h',its) | none=>none
 | .makeMap _ none=>match its with
  | .val _ v::its=>match Jq7 P T ss h (some v) o with | some (ps,s,h')=>some (ps,s,h',its) | none=>none
  | _=>none
 | .mapUpdate _ _ _ _=>match Jq7 P T ss h none o with | some (ps,s,h')=>some (ps,s,h',its) | none=>none
 | .lookup _ _ _ _=>match Jq7 P T ss h none o with | some (ps,s,h')=>some (ps,s,h',its) | none=>none
 | _=>match exOp T E false ss h o with | some (ps,s,h')=>some (ps,s,h',its) | none=>none
theorem Jb8 (hT:J78 P T) {E:List Nat} (hE:J83 P T E=true) {o:Oper} {st:St} {its its':List It} {ps:List Prop} {s:Slot} {h':List AObj}
  (he:Jet P T E st.slots st.heap its o.op=some (ps,s,h',its')) (hps:AllP ps):OpW P o st s h':=by
 have other:∀ {b:Bool} {its:List It},(match exOp T E b st.slots st.heap o.op with | some (ps,s,h')=>some (ps,s,h',its) | none=>none)=some (ps,s,h',its')→OpW P o st s h':=by
  intro b its he
  split at he
  ·rename_i ps1 s1 h1 hx
   injection he with he; injection he with e1 e2; injection e2 with e2 e3; injection e3 with e3 e4
   subst e1; subst e2; subst e3
   exact (Jwn hT hE hx hps).w
  ·cases he
 have maps:∀ {v:Option Ty} {its:List It},(match Jq7 P T st.slots st.heap v o.op with | some (ps,s,h')=>some (ps,s,h',its) | none=>none)=some (ps,s,h',its')→OpW P o st s h':=by
  intro v its he
  split at he
  ·rename_i ps1 s1 h1 hx
   injection he with he; injection he with e1 e2; injection e2 with e2 e3; injection e3 with e3 e4
   subst e1; subst e2; subst e3
   exact (Kc hT hx).w
  ·cases he
 unfold Jet at he
 split at he
 ·rename_i c x y hop
  split at he
  ·rename_i b its0
   exact other (b:=b) (its:=its0) he
  ·cases he
 ·rename_i hop
  split at he
  ·rename_i b its0
   exact other (b:=b) (its:=its0) he
  ·cases he
 ·split at he
  ·rename_i its0
   exact other (b:=true) (its:=its0) he
  ·exact other (b:=false) he
 ·rename_i cl hop
  split at he
  ·rename_i f0 hcl
   split at he
   ·rename_i modes back snap fl ret objs' its0
    split at he
    ·rename_i ps1 s1 h1 hx
     injection he with he; injection he with e1 e2; injection e2 with e2 e3; injection e3 with e3 e4
     subst e1; subst e2; subst e3
     unfold Jwj at hx
     split at hx
     ·rename_i f cap hf0
      split at hx
      ·rename_i as' has hcb
       injection hx with hx; injection hx with e1 e2; injection e2 with e2 e3
       subst e1; subst e2; subst e3
       simp only [callB,Bool.and_eq_true] at hcb
       obtain ⟨⟨⟨q1,q2⟩,q3⟩,q4⟩:=hcb
       refine OpW.call hop hcl hf0 (Jc2 has) q1 (fun l hl=>by have:=List.all_eq_true.1 q2 l hl; simpa using this) hps.1 (Nat.le_of_ble_eq_true q3) (fun hfl=>?_)
       subst hfl
       simp only [Bool.not_true,Bool.false_or,Bool.and_eq_true,List.all_eq_true] at q4
       exact q4
      ·cases hx
     ·cases hx
    ·cases he
   ·cases he
  ·split at he
   ·rename_i ps1 s1 h1 hx
    injection he with he; injection he with e1 e2; injection e2 with e2 e3; injection e3 with e3 e4
    subst e1; subst e2; subst e3
    exact (Jwn hT hE hx hps).w
   ·exact maps (its:=its) he
 ·rename_i t0 hop
  split at he
  ·rename_i i0 v0 its0
   exact maps (its:=its0) he
  ·cases he
 ·rename_i t0 m0 k0 x0 hop
  exact maps (its:=its) he
 ·rename_i t0 m0 k0 ok0 hop
  exact maps (its:=its) he
 ·exact other (b:=false) (its:=its) he
def dstB (o:Oper) (n:Nat):Bool:=match o.dst with | some d=>Nat.blt d n | none=>true
theorem Jcp {o:Oper} {n:Nat} (h:dstB o n=true):∀ d,o.dst=some d→d < n:=by
 intro d hd
 unfold dstB at h
 rw [hd] at h
 simpa using h
def Jqg (ops:Array Oper) (ss:List (Nat×Slot)) (j:Nat):Option Bool:=
 match ops[j]? with
 | some oj=>match oj.dst with
  | some d=>match look ss d with
   | .v .bool x=>some x
   | _=>none
  | none=>none
 | none=>none
def Jww (ops:Array Oper) (ss:List (Nat×Slot)) (j:Nat):Bool:=
 match ops[j]? with
 | some oj=>match oj.dst with
  | some d=>match look ss d with
   | .tnil=>true
   | _=>false
  | none=>false
 | none=>false
def Ji4 (P:Program) (T:Tab) (E:List Nat) (ops:Array Oper):List Oper→List It→St→Option (List Prop×List It×St)
  | [],its,st=>some ([],its,st)
  | o::r,its,st=>match o.guard with
    | none=>match Jet P T E st.slots st.heap its o.op,dstB o st.n with
      | some (ps,s,h',its'),true=>match Ji4 P T E ops r its' (putS o s st h') with
        | some (qs,its2,st2)=>some (ps++qs,its2,st2)
        | none=>none
      | _,_=>none
    | some (j,want)=>match Jww ops st.slots j with
     | true=>match dstB o st.n with
      | true=>Ji4 P T E ops r its (putS o .tnil st st.heap)
      | false=>none
     | false=>match its with
      | .br b::its=>match Jqg ops st.slots j with
        | some x=>match decide (b=want) with
          | true=>match Jet P T E st.slots st.heap its o.op,dstB o st.n with
            | some (ps,s,h',its'),true=>match Ji4 P T E ops r its' (putS o s st h') with
              | some (qs,its2,st2)=>some ((x=b)::(ps++qs),its2,st2)
              | none=>none
            | _,_=>none
          | false=>match dstB o st.n,Ji4 P T E ops r its (putS o .tnil st st.heap) with
            | true,some (qs,its2,st2)=>some ((x=b)::qs,its2,st2)
            | _,_=>none
        | none=>none
      | _=>none
theorem Jo8 {ops:Array Oper} {ss:List (Nat×Slot)} {j:Nat} {x:Bool} (h:Jqg ops ss j=some x):∃ oj d,ops[j]?=some oj∧oj.dst=some d∧look ss d=.v .bool x:=by
 unfold Jqg at h
 split at h
 ·rename_i oj hj
  split at h
  ·rename_i d hd
   split at h
   ·rename_i y hy
    injection h with h; subst h; exact ⟨oj,d,hj,hd,hy⟩
   ·cases h
  ·cases h
 ·cases h
theorem Jyv {o:Oper} {st:St} (hd:∀ d,o.dst=some d→d < st.n):∀ (c:Ctx) (a:Act) (w:World),SR c st a w→SR c (putS o .tnil st st.heap) (a.put o.dst undef) w:=by
 rintro c a w ⟨G,hs⟩
 refine ⟨G,?_⟩
 unfold putS
 cases hdst:o.dst with
 | none=>exact hs
 | some d=>exact hs.put (hd d hdst) rfl
theorem Jwx {ops:Array Oper} {ss:List (Nat×Slot)} {j:Nat} (h:Jww ops ss j=true):∃ oj d,ops[j]?=some oj∧oj.dst=some d∧look ss d=.tnil:=by
 unfold Jww at h
 split at h
 ·rename_i oj hj
  split at h
  ·rename_i d hd
   split at h
   ·rename_i hy; exact ⟨oj,d,hj,hd,hy⟩
   ·cases h
  ·cases h
 ·cases h
theorem Jkm {c:Ctx} {G:List GE} {st:St} {a:Act} {w:World} (hs:SRG c G st a w) {ops:Array Oper} {j:Nat} {oj:Oper} {d:Nat} (hj:ops[j]?=some oj) (hd:oj.dst=some d)
  (h:look st.slots d=.tnil):yielded ops a.tmps j=none:=by
 have:=hs.slots d
 rw [h] at this
 have this:a.tmps.getD d undef=.tuple #[]:=this
 rw [Array.getD_eq_getD_getElem?] at this
 cases hh:a.tmps[d]? with
 | none=>simp [yielded,hj,hd,hh]
 | some v=>rw [hh] at this; simp only [Option.getD_some] at this; subst this; simp [yielded,hj,hd,hh]
theorem Jdd (hT:J78 P T) {E:List Nat} (hE:J83 P T E=true) {ops:Array Oper}:∀ (l:List Oper) (its its':List It) (st st':St) (ps:List Prop),
  Ji4 P T E ops l its st=some (ps,its',st')→AllP ps→Jb0 P ops l st st'
 | [],its,its',st,st',ps,he,_=>by
  simp only [Ji4] at he
  injection he with he; injection he with e1 e2; injection e2 with e2 e3
  subst e3; exact Jb0.nil ops st
 | o::r,its,its',st,st',ps,he,hps=>by
  unfold Ji4 at he
  split at he
  ·rename_i hg
   split at he
   ·rename_i ps1 s h' its1 hx hd
    split at he
    ·rename_i qs its2 st2 hr
     injection he with he; injection he with e1 e2; injection e2 with e2 e3
     subst e1; subst e3
     obtain ⟨p1,p2⟩:=AllP.append hps
     exact Jb0.cons hg ((Jb8 hT hE hx p1).ok (Jcp hd)) (Jdd hT hE r _ _ _ _ _ hr p2)
    ·cases he
   ·cases he
  ·rename_i j want hg
   split at he
   ·rename_i hgone
    split at he
    ·rename_i hdb
     obtain ⟨oj,d,hj,hd0,hlk⟩:=Jwx hgone
     have hrest:=Jdd hT hE r _ _ _ _ _ he hps
     intro c a w hs Q hq
     obtain ⟨G,hs'⟩:=id hs
     have hy:=Jkm hs' hj hd0 hlk
     refine wpList_step fun K hK=>?_
     rw [if_neg (by simp [Region.wanted,hg,hy])]
     exact hK _ _ (hrest c _ w (Jyv (Jcp hdb) c a w hs) Q hq)
    ·cases he
   split at he
   ·rename_i b its0
    split at he
    ·rename_i x hx0
     obtain ⟨oj,d,hj,hd0,hlk⟩:=Jo8 hx0
     split at he
     ·rename_i hbw
      have hbw:=of_decide_eq_true hbw
      split at he
      ·rename_i ps1 s h' its1 hx hd
       split at he
       ·rename_i qs its2 st2 hr
        injection he with he; injection he with e1 e2; injection e2 with e2 e3
        subst e1; subst e3
        obtain ⟨hxb,hps⟩:=hps
        obtain ⟨p1,p2⟩:=AllP.append hps
        subst hxb; subst hbw
        exact Jb0.cons_wanted hg hj hd0 hlk ((Jb8 hT hE hx p1).ok (Jcp hd)) (Jdd hT hE r _ _ _ _ _ hr p2)
       ·cases he
      ·cases he
     ·rename_i hbw
      have hbw:=of_decide_eq_false hbw
      split at he
      ·rename_i qs its2 st2 hdb hr
       injection he with he; injection he with e1 e2; injection e2 with e2 e3
       subst e1; subst e3
       obtain ⟨hxb,hps⟩:=hps
       subst hxb
       exact Jb0.cons_skip hg hj hd0 hlk hbw (Jyv (Jcp hdb)) (Jdd hT hE r _ _ _ _ _ hr hps)
      ·cases he
    ·cases he
   ·cases he
end Go.Ax

namespace Go.Ax
set_option linter.unusedVariables false
set_option linter.unusedSimpArgs false
variable {P : Program} {T : Tab}
theorem Jqc {o:AObj} (h:o.live=false):o.freeze=o:=by
 cases o <;> first | rfl | (simp only [AObj.live] at h; subst h; rfl)
def Jnh (h:List AObj) (ids:List Nat):Bool:=ids.all fun i=>!(J6q h i).live
theorem Jkl {h:List AObj} {ids:List Nat} (hf:Jnh h ids=true):freezeIds h ids=h:=by
 apply List.ext_getElem?
 intro i
 rw [J95]
 cases hi:h[i]? with
 | none=>rfl
 | some o=>
  cases hp:J7h ids i with
  | false=>rfl
  | true=>
   have hm:=List.mem_of_getElem? (Jcr hp).1
   have:=List.all_eq_true.1 hf i hm
   have ho:J6q h i=o:=by unfold J6q; rw [List.getD_eq_getElem?_getD,hi]; rfl
   rw [ho] at this
   have hl:o.live=false:=by simpa using this
   show some (o.freeze)=some o
   rw [Jqc hl]
def Jv5 (h:List AObj) (t:Ty) (s:Slot):Option Slot:=
 match s with
 | .node a r=>match J7o h t (.node a r) with
  | some x=>match Jnh h (Slot.node a r).ids with
   | true=>some (.v t x)
   | false=>none
  | none=>some (.node a r)
 | s=>some s
theorem K13 {o:Oper} {st:St} {t:Ty} {s s':Slot} (hv:VOp P o st s st.heap) (h:Jv5 st.heap t s=some s'):VOp P o st s' st.heap:=by
 unfold Jv5 at h
 split at h
 ·rename_i a r
  split at h
  ·rename_i x hx
   split at h
   ·rename_i hf
    injection h with h; subst h
    have:=VOp.val hv hx
    rw [Jkl hf] at this
    exact this
   ·cases h
  ·injection h with h; subst h; exact hv
 ·injection h with h; subst h; exact hv
def Ji9 (T:Tab) (h:List AObj) (t:Nat) (s:Slot):Option Slot:=
 match T.ty t with
 | none=>none
 | some ty=>match s with
  | .ref t' x=>if t'=ty then some (.v t' x) else none
  | .ptr l p=>if (J6q h l).lay.at p=some ty∧(J6q h l).isDead=false then Jv5 h ty ((J6q h l).slot.get p) else none
  | _=>none
theorem Jkf (hT:J78 P T) {o:Oper} {st:St} {t:Nat} {x:Operand} {s:Slot} (hop:o.op=.load t x)
  (he:Ji9 T st.heap t (opnd st.slots x)=some s):VOp P o st s st.heap:=by
 unfold Ji9 at he
 split at he
 ·cases he
 ·rename_i ty hty
  split at he
  ·rename_i t' y hx
   split at he
   ·rename_i hc
    injection he with he; subst he
    refine Jo0 hT hop ?_
    simp [Jrv,hty,hx,hc]
   ·cases he
  ·rename_i l p hx
   split at he
   ·rename_i hc
    refine K13 ?_ he
    refine VOp.pure fun c G a w hs=>?_
    have hv:=J6v hs x
    rw [hx] at hv
    obtain ⟨by_,hg⟩:=Tab.ty_get hty
    obtain ⟨g,b,off,cs,U,hgg,hb,hpk,hheap,hp,hrel,hle,hlay,_⟩:=J9r hs.toHRG (Ja1 hc.2) hc.1 hc.2 hv
    have hpl:=POff.le hp
    have h1:=Slot.get_ok hrel hp
    rw [J9n hpl] at h1
    have hrun:=Jc8 (P:=P) (hT _ _ _ hg) (J6y.len _ h1) (Jen (o:=off) hheap)
    refine ⟨_,?_,TRel.of h1⟩
    simp [execOp,hop,Instr.loadAt,Instr.sureAddr,hpk,hrun]
   ·cases he
  ·cases he
def Jlr (T:Tab) (ss:List (Nat×Slot)) (h:List AObj) (t:Nat) (parts:Array (Nat×Operand)):Option Slot:=
 match T.ty t with
 | some ty=>if ty.isAgg then match Ju4 h ss ty parts.toList (Jfs ty) with
   | some s=>Jv5 h ty s
   | none=>none
  else none
 | none=>none
theorem told_q {h:List AObj} {t:Ty} {s s':Slot} (hq:Jv5 h t s=some s'):told h t s=(s',h):=by
 unfold Jv5 at hq
 split at hq
 ·rename_i a r
  split at hq
  ·rename_i x hx
   split at hq
   ·rename_i hf
    injection hq with hq; subst hq
    simp only [told,hx]
    rw [Jkl hf]
   ·cases hq
  ·rename_i hx
   injection hq with hq; subst hq
   simp only [told,hx]
 ·rename_i hn
  injection hq with hq; subst hq
  cases s <;> first | rfl | exact absurd rfl (hn _ _)
theorem Jq5 (hT:J78 P T) {o:Oper} {st:St} {t:Nat} {parts:Array (Nat×Operand)} {s:Slot} (hop:o.op=.build t parts)
  (he:Jlr T st.slots st.heap t parts=some s):VOp P o st s st.heap:=by
 unfold Jlr at he
 split at he
 ·rename_i ty hty
  split at he
  ·rename_i hag
   split at he
   ·rename_i s0 hs0
    refine Jkb hT hop ?_
    simp only [Jlq,hty,hag,if_true,hs0,told_q he]
   ·cases he
  ·cases he
 ·cases he
def Jq6 (T:Tab) (h:List AObj) (src dst:Nat) (s:Slot):Res:=
 match T.ty src,T.ty dst with
 | some (.slice _),some (.slice _)=>none
 | _,_=>match Jkc T h src dst s with
  | some (ps,s,_)=>some (ps,s)
  | none=>none
theorem Jw4 {h h':List AObj} {src dst:Nat} {s s':Slot} {ps:List Prop} (hn:∀ a b,¬ (T.ty src=some (.slice a)∧T.ty dst=some (.slice b))) (he:Jkc T h src dst s=some (ps,s',h')):h'=h:=by
 unfold Jkc at he
 split at he
 ·split at he
  ·injection he with he; injection he with e1 e2; injection e2 with e2 e3; exact e3.symm
  ·cases he
 ·split at he
  ·injection he with he; injection he with e1 e2; injection e2 with e2 e3; exact e3.symm
  ·cases he
 ·split at he
  ·cases he
  ·split at he
   ·injection he with he; injection he with e1 e2; injection e2 with e2 e3; exact e3.symm
   ·cases he
 ·rename_i h1 h2; exact absurd ⟨h1,h2⟩ (hn _ _)
 ·split at he
  ·split at he
   ·injection he with he; injection he with e1 e2; injection e2 with e2 e3; exact e3.symm
   ·cases he
  ·cases he
 ·split at he
  ·injection he with he; injection he with e1 e2; injection e2 with e2 e3; exact e3.symm
  ·cases he
 ·split at he
  ·injection he with he; injection he with e1 e2; injection e2 with e2 e3; exact e3.symm
  ·cases he
 ·cases he
theorem Ju1 (hT:J78 P T) {o:Oper} {st:St} {src dst:Nat} {x:Operand} {s:Slot} {ps:List Prop} (hop:o.op=.convert src dst x)
  (he:Jq6 T st.heap src dst (opnd st.slots x)=some (ps,s)) (hps:AllP ps):VOp P o st s st.heap:=by
 unfold Jq6 at he
 split at he
 ·cases he
 ·rename_i hn
  split at he
  ·rename_i ps1 s1 h1 hx
   injection he with he; injection he with e1 e2; subst e1; subst e2
   have:=Jw4 (fun a b hab=>hn a b hab.1 hab.2) hx
   subst this
   exact Jnz hT hop hx hps
  ·cases he
def Jlx (T:Tab) (fl:Bool) (ss:List (Nat×Slot)) (h:List AObj) (t:Nat) (s:Slot) (lo hi:Option Operand):Res:=
 match s with
 | .own _ _=>none
 | .ptr l _=>match J6q h l with
  | .box _ _ lv=>match fl || lv with
   | true=>match Jac T ss h true t s lo hi with
    | some (ps,s,_)=>some (ps,s)
    | none=>none
   | false=>match Jac T ss h false t s lo hi with
    | some (ps,s,_)=>some (ps,s)
    | none=>none
  | _=>none
 | _=>match Jac T ss h true t s lo hi with
  | some (ps,s,_)=>some (ps,s)
  | none=>none
theorem Jv0 {ss:List (Nat×Slot)} {h h':List AObj} {t:Nat} {s s':Slot} {lo hi:Option Operand} {ps:List Prop} (hn:∀ l p,s≠.own l p) (hp:∀ l p,s=.ptr l p→∃ a b c,J6q h l=.box a b c)
  (he:Jac T ss h true t s lo hi=some (ps,s',h')):h'=h:=by
 unfold Jac at he
 split at he
 ·split at he
  ·split at he
   ·injection he with he; injection he with e1 e2; injection e2 with e2 e3; exact e3.symm
   ·cases he
  ·cases he
 ·split at he
  ·split at he
   ·rename_i l p
    split at he
    ·obtain ⟨a,b,c,hb⟩:=hp l p rfl
     rw [hb] at he
     injection he with he; injection he with e1 e2; injection e2 with e2 e3; exact e3.symm
    ·cases he
   ·split at he
    ·injection he with he; injection he with e1 e2; injection e2 with e2 e3; exact e3.symm
    ·cases he
   ·cases he
  ·cases he
 ·split at he
  ·split at he
   ·injection he with he; injection he with e1 e2; injection e2 with e2 e3; exact e3.symm
   ·cases he
  ·split at he
   ·split at he
    ·injection he with he; injection he with e1 e2; injection e2 with e2 e3; exact e3.symm
    ·cases he
   ·cases he
  ·exact absurd rfl (hn _ _)
  ·cases he
 ·cases he
theorem Jqd {h:List AObj} {l:Nat} {a:Ty} {b:Slot} (hb:J6q h l=.box a b false):freezeIds h [l]=h:=by
 apply List.ext_getElem?
 intro i
 rw [J95]
 cases hi:h[i]? with
 | none=>rfl
 | some o=>
  by_cases e:i=l
  ·subst e
   have:o=.box a b false:=by
    unfold J6q at hb
    rw [List.getD_eq_getElem?_getD,hi] at hb
    exact hb
   subst this
   cases J7h [i] i <;> rfl
  ·have:J7h [l] i=false:=by
    cases hp:J7h [l] i with
    | false=>rfl
    | true=>
     have hm:=List.mem_of_getElem? (Jcr hp).1
     simp only [List.mem_singleton] at hm
     exact absurd hm e
   rw [this]; rfl
theorem Jr6 {ss:List (Nat×Slot)} {h h':List AObj} {t:Nat} {s s':Slot} {lo hi:Option Operand} {ps:List Prop} (hs:∃ l p,s=.ptr l p) (hp:∀ l p,s=.ptr l p→∃ a b,J6q h l=.box a b false)
  (he:Jac T ss h false t s lo hi=some (ps,s',h')):h'=h:=by
 unfold Jac at he
 split at he
 ·split at he
  ·obtain ⟨l,p,hs⟩:=hs; cases hs
  ·cases he
 ·split at he
  ·split at he
   ·rename_i l p
    split at he
    ·obtain ⟨a,b,hb⟩:=hp l p rfl
     split at he
     ·injection he with he; injection he with e1 e2; injection e2 with e2 e3; exact e3.symm
     ·split at he
      ·split at he
       ·injection he with he; injection he with e1 e2; injection e2 with e2 e3; rw [← e3]; exact Jqd hb
       ·cases he
      ·cases he
    ·cases he
   ·obtain ⟨l,p,hs⟩:=hs; cases hs
   ·cases he
  ·cases he
 ·obtain ⟨l,p,rfl⟩:=hs
  cases he
 ·cases he
theorem Jq9 (hT : J78 P T) {fl : Bool} {o : Oper} {st : St} {t : Nat} {x : Operand} {lo hi : Option Operand} {s : Slot} {ps : List Prop} (hop : o.op = .slice t x lo hi none)
    (he : Jlx T fl st.slots st.heap t (opnd st.slots x) lo hi = some (ps, s)) (hps : AllP ps) : VOp P o st s st.heap := by
  have fin : (∀ l p, opnd st.slots x ≠ .own l p) → (∀ l p, opnd st.slots x = .ptr l p → ∃ a b c, J6q st.heap l = .box a b c) →
      (match Jac T st.slots st.heap true t (opnd st.slots x) lo hi with | some (ps, s, _) => some (ps, s) | none => none) = some (ps, s) → VOp P o st s st.heap := by
    intro h1 h2 he
    split at he
    · rename_i ps1 s1 h' hx
      injection he with he; injection he with e1 e2; subst e1; subst e2
      have := Jv0 h1 h2 hx
      subst this
      exact Jg1 hT hop hx hps
    · cases he
  unfold Jlx at he
  split at he
  · cases he
  · rename_i l p hx
    split at he
    · rename_i a b c hb
      split at he
      · refine fin (fun l p h => ?_) (fun l' p' h => ?_) he
        · rw [hx] at h; cases h
        · rw [hx] at h; injection h with h1 h2; subst h1; exact ⟨a, b, c, hb⟩
      · rename_i hlv
        have hc : c = false := by cases c; · rfl
                                  · simp at hlv
        subst hc
        split at he
        · rename_i ps1 s1 h' hxx
          injection he with he; injection he with e1 e2; subst e1; subst e2
          have := Jr6 ⟨l, p, hx⟩ (fun l' p' h => by rw [hx] at h; injection h with h1 h2; subst h1; exact ⟨a, b, hb⟩) hxx
          subst this
          exact Jg1 hT hop hxx hps
        · cases he
    · cases he
  · rename_i h1 h2
    exact fin (fun l p h => h1 l p h) (fun l p h => absurd h (h2 l p)) he
def Jq8 (T:Tab) (E:List Nat) (fl:Bool) (ss:List (Nat×Slot)) (h:List AObj) (o:Op):Res:=
 match o with
 | .move x=>some ([],opnd ss x)
 | .assign x=>some ([],opnd ss x)
 | .pick c x y=>Jrw fl ss c x y
 | .build t parts=>match fl with
  | true=>none
  | false=>match Jlr T ss h t parts with | some s=>some ([],s) | none=>none
 | .load t x=>match Ji9 T h t (opnd ss x) with | some s=>some ([],s) | none=>none
 | .nilCheck x=>match Jdg (opnd ss x) with | some s=>some ([],s) | none=>none
 | .binOp op t x y _=>K8 T E t op (opnd ss x) (opnd ss y)
 | .unOp op _ x=>match un op (opnd ss x) with | some s=>some ([],s) | none=>none
 | .convert src dst x=>Jq6 T h src dst (opnd ss x)
 | .makeFunc f first cap=>match Jde ss f first cap with | some s=>some ([],s) | none=>none
 | .slice t x lo hi none=>Jlx T fl ss h t (opnd ss x) lo hi
 | .fieldAddr t x k=>match J7l T h t (opnd ss x) k with | some s=>some ([],s) | none=>none
 | .field t x k=>match Jlt T t (opnd ss x) k with | some s=>some ([],s) | none=>none
 | .indexAddr t x y=>Jbu T h t (opnd ss x) (opnd ss y)
 | .index t x y=>Jlu T t (opnd ss x) (opnd ss y)
 | .extract x k=>match Jrb (opnd ss x) k with | some s=>some ([],s) | none=>none
 | .call c=>match c.callee with
  | .builtin .len=>match J7u T ss h .len c.args.toList c.argTypes.toList with | some (ps,s,_)=>some (ps,s) | none=>none
  | .builtin .cap=>match J7u T ss h .cap c.args.toList c.argTypes.toList with | some (ps,s,_)=>some (ps,s) | none=>none
  | .builtin .min=>match J7u T ss h .min c.args.toList c.argTypes.toList with | some (ps,s,_)=>some (ps,s) | none=>none
  | .builtin .max=>match J7u T ss h .max c.args.toList c.argTypes.toList with | some (ps,s,_)=>some (ps,s) | none=>none
  | .builtin .complex=>match J7u T ss h .complex c.args.toList c.argTypes.toList with | some (ps,s,_)=>some (ps,s) | none=>none
  | .builtin .real=>match J7u T ss h .real c.args.toList c.argTypes.toList with | some (ps,s,_)=>some (ps,s) | none=>none
  | .builtin .imag=>match J7u T ss h .imag c.args.toList c.argTypes.toList with | some (ps,s,_)=>some (ps,s) | none=>none
  | _=>none
 | _=>none
theorem Jaw {r:Option Slot} {ps:List Prop} {s:Slot} (he:(match r with | some s=>some (([]:List Prop),s) | none=>none)=some (ps,s)):r=some s:=by
 cases r with
 | none=>cases he
 | some s0=>injection he with he; injection he with e1 e2; subst e2; rfl
theorem Jno {ss:List (Nat×Slot)} {h:List AObj} {b:Builtin} {args:List Operand} {ts:List Nat} {ps:List Prop} {s:Slot} (hb:b=.len∨b=.cap∨b=.min∨b=.max∨b=.complex∨b=.real∨b=.imag)
  (he:(match J7u T ss h b args ts with | some (ps,s,_)=>some (ps,s) | none=>none)=some (ps,s)):J7u T ss h b args ts=some (ps,s,h):=by
 split at he
 ·rename_i ps1 s1 h1 hx
  injection he with he; injection he with e1 e2; subst e1; subst e2
  have:h1=h:=by
   unfold J7u at hx
   split at hx
   ·simp at hb
   ·exact (J75 hx).2
   ·exact (J75 hx).2
   ·simp at hb
   ·exact (J75 hx).2
   ·exact (J75 hx).2
   ·exact (J75 hx).2
   ·exact (J75 hx).2
   ·exact (J75 hx).2
   ·cases hx
  rw [hx,this]
 ·cases he
theorem Ju2 (hT:J78 P T) {E:List Nat} (hE:J83 P T E=true) {o:Oper} {st:St} {fl:Bool} {ps:List Prop} {s:Slot}
  (he:Jq8 T E fl st.slots st.heap o.op=some (ps,s)) (hps:AllP ps):VOp P o st s st.heap:=by
 generalize hop:o.op=op at he
 unfold Jq8 at he
 split at he
 ·injection he with he; injection he with e1 e2; subst e2; exact Jiy (.inl hop)
 ·injection he with he; injection he with e1 e2; subst e2; exact Jiy (.inr hop)
 ·exact Jy5 hop he hps
 ·split at he
  ·cases he
  ·exact Jq5 hT hop (Jaw he)
 ·exact Jkf hT hop (Jaw he)
 ·exact Jes hop (Jaw he)
 ·exact Jru hT hE hop he hps
 ·exact un_ok hop (Jaw he)
 ·exact Ju1 hT hop he hps
 ·exact Jis hop (Jaw he)
 ·exact Jq9 hT hop he hps
 ·exact Jb2 hT hop (Jaw he)
 ·exact Jkd hT hop (Jaw he)
 ·exact Jdu hT hop he hps
 ·exact Jke hT hop he hps
 ·exact Jkj hop (Jaw he)
 ·split at he
  all_goals first
   | (rename_i hb; exact Jgr hT hop hb (Jno (by simp) he) hps)
   | cases he
 ·cases he
end Go.Ax

namespace Go.Ax
set_option linter.unusedVariables false
set_option linter.unusedSimpArgs false
variable {P : Program} {T : Tab}
def wr {β:Type} (f:Nat→β):List (Nat×β)→Nat→β
 | [],k=>f k
 | (i,v)::r,k=>bif Nat.beq i k then v else wr f r k
def keys {β:Type}:List (Nat×β)→List Nat
 | []=>[]
 | (i,_)::r=>i::keys r
theorem Jap {β:Type} {f:Nat→β}:∀ {ws:List (Nat×β)} {k:Nat},k ∉ keys ws→wr f ws k=f k
 | [],_,_=>rfl
 | (i,v)::r,k,h=>by
  simp only [keys,List.mem_cons,not_or] at h
  have:Nat.beq i k=false:=by rw [← Bool.not_eq_true,Nat.beq_eq]; exact fun e=>h.1 e.symm
  rw [wr,this]; exact Jap h.2
theorem K4z {β:Type} {f g:Nat→β}:∀ {ws:List (Nat×β)} {k:Nat},k ∈ keys ws→wr f ws k=wr g ws k
 | [],_,h=>by simp [keys] at h
 | (i,v)::r,k,h=>by
  rw [wr,wr]
  by_cases e:Nat.beq i k=true
  ·rw [e]; rfl
  ·rw [Bool.not_eq_true] at e
   rw [e]
   simp only [keys,List.mem_cons] at h
   rcases h with h | h
   ·subst h; simp at e
   ·exact K4z h
theorem K2d {β:Type} {f g:Nat→β} {ws:List (Nat×β)} {k:Nat} (h:f k=g k):wr f ws k=wr g ws k:=by
 by_cases hk:k ∈ keys ws
 ·exact K4z hk
 ·rw [Jap hk,Jap hk,h]
def ov {β:Type} (D:Nat→Bool):List (List (Nat×β))→Nat→(Nat→β)→(Nat→β)
 | [],_,f=>f
 | ws::r,i,f=>ov D r (i+1) (bif D i then wr f ws else f)
theorem Jhg {β:Type} {D D':Nat→Bool} {k:Nat}:∀ {r:List (List (Nat×β))} {i:Nat} {f f':Nat→β},f k=f' k→
  (∀ j ws,r[j]?=some ws→D (i+j)≠D' (i+j)→k ∉ keys ws)→ov D r i f k=ov D' r i f' k
 | [],_,_,_,h,_=>h
 | ws::r,i,f,f',h,hd=>by
  rw [ov,ov]
  refine Jhg ?_ fun j ws' hj hne=>hd (j+1) ws' (by simpa using hj) (by rwa [show i+(j+1)=i+1+j by omega])
  by_cases e:D i=D' i
  ·rw [← e]
   cases D i with
   | true=>exact K2d h
   | false=>exact h
  ·have:=hd 0 ws rfl e
   cases D i <;> cases D' i <;> simp [Jap this,h]
theorem Jfa {β:Type}:∀ (r:List (List (Nat×β))) (i:Nat) (f:Nat→β) (D:Nat→Bool),(∀ j,j < r.length→D (i+j)=false)→ov D r i f=f
 | [],_,_,_,_=>rfl
 | ws::r,i,f,D,h=>by
  have h0:=h 0 (by simp)
  rw [Nat.add_zero] at h0
  rw [ov,h0]
  exact Jfa r (i+1) f D fun j hj=>by
   have:=h (j+1) (by simpa using hj)
   rwa [show i+(j+1)=i+1+j by omega] at this
def preB (ops:Array Oper) (PT:List (List Nat)) (i:Nat):Bool:=
 match ops[i]? with
 | some o=>(o.after.toList.all fun e=>!Region.binds .any e || Nat.blt e.on i) &&
  (PT.getD i []).all fun j=>o.after.toList.any fun e=>Region.binds .any e && Nat.blt e.on i && (Nat.beq e.on j || (PT.getD e.on []).elem j)
 | none=>false
def ptB (ops:Array Oper) (PT:List (List Nat)):Bool:=(List.range ops.size).all (preB ops PT)
def Down (ops:Array Oper) (D:Nat→Bool):Prop:=∀ i o,ops[i]?=some o→D i=true→∀ e ∈ o.after.toList,Region.binds .any e=true→D e.on=true
theorem K23 (ops:Array Oper) {PT:List (List Nat)} (hpt:ptB ops PT=true) {i:Nat} (hi:i < ops.size):preB ops PT i=true:=
 List.all_eq_true.1 hpt i (List.mem_range.2 hi)
theorem Jsr {ops:Array Oper} {PT:List (List Nat)} (hpt:ptB ops PT=true) {D:Nat→Bool} (hd:Down ops D):∀ (i:Nat) (o:Oper),ops[i]?=some o→
  (∀ e ∈ o.after.toList,Region.binds .any e=true→D e.on=true)→∀ j ∈ PT.getD i [],D j=true:=by
 intro i
 induction i using Nat.strongRecOn with
 | ind i ih=>
  intro o ho hdone j hj
  have hi:i < ops.size:=by
   rcases Nat.lt_or_ge i ops.size with x | x
   ·exact x
   ·rw [Array.getElem?_eq_none x] at ho; cases ho
  have h:=K23 ops hpt hi
  unfold preB at h
  rw [ho] at h
  simp only [Bool.and_eq_true,List.all_eq_true] at h
  have h2:=h.2 j hj
  simp only [List.any_eq_true,Bool.and_eq_true,Bool.or_eq_true] at h2
  obtain ⟨e,he,⟨hb,hlt⟩,hc⟩:=h2
  have hlt:e.on < i:=by simpa using hlt
  have hon:=hdone e he hb
  rcases hc with hc | hc
  ·have:e.on=j:=by simpa using hc
   rw [← this]; exact hon
  ·have hex:ops[e.on]?=some (ops[e.on]'(by omega)):=Array.getElem?_eq_getElem (by omega)
   exact ih e.on hlt _ hex (fun e' he' hb'=>hd e.on _ hex hon e' he' hb') j (List.elem_iff.1 hc)
theorem ready_nil {ops:Array Oper} {PT:List (List Nat)} (hpt:ptB ops PT=true) {listed:Array Bool} (hs:listed.size=ops.size) (hr:Region.ready .any ops listed=[]) :
  ∀ i,i < ops.size→listed.getD i false=true:=by
 intro i
 induction i using Nat.strongRecOn with
 | ind i ih=>
  intro hi
  cases hl:listed.getD i false with
  | true=>rfl
  | false=>
   exfalso
   have:i ∈ Region.ready .any ops listed:=by
    unfold Region.ready
    rw [List.mem_filter]
    refine ⟨List.mem_range.2 hi,?_⟩
    have h1:listed.getD i true=false:=by
     rw [Array.getD_eq_getD_getElem?] at hl ⊢
     rw [Array.getElem?_eq_getElem (by omega)] at hl ⊢
     exact hl
    rw [h1,Array.getElem?_eq_getElem hi]
    simp only [Bool.not_false,Bool.true_and,Option.map_some,Option.getD_some]
    rw [← Array.all_toList,List.all_eq_true]
    intro e he
    have h:=K23 ops hpt hi
    unfold preB at h
    rw [Array.getElem?_eq_getElem hi] at h
    simp only [Bool.and_eq_true,List.all_eq_true] at h
    have h2:=h.1 e he
    cases hb:Region.binds .any e with
    | false=>rfl
    | true=>
     rw [hb] at h2
     have hlt:e.on < i:=by simpa using h2
     rw [ih e.on hlt (by omega)]; rfl
   rw [hr] at this; cases this
theorem Jp7 {ops:Array Oper} {listed:Array Bool} (hs:listed.size=ops.size) {i:Nat} (h:i ∈ Region.ready .any ops listed) :
  i < ops.size∧listed.getD i false=false∧∃ o,ops[i]?=some o∧∀ e ∈ o.after.toList,Region.binds .any e=true→listed.getD e.on false=true:=by
 unfold Region.ready at h
 rw [List.mem_filter] at h
 obtain ⟨h1,h2⟩:=h
 have hi:=List.mem_range.1 h1
 simp only [Bool.and_eq_true,Bool.not_eq_true'] at h2
 obtain ⟨h2,h3⟩:=h2
 refine ⟨hi,?_,_,Array.getElem?_eq_getElem hi,fun e he hb=>?_⟩
 ·rw [Array.getD_eq_getD_getElem?] at h2 ⊢
  rw [Array.getElem?_eq_getElem (by omega)] at h2 ⊢
  exact h2
 ·rw [Array.getElem?_eq_getElem hi] at h3
  simp only [Option.map_some,Option.getD_some] at h3
  rw [← Array.all_toList,List.all_eq_true] at h3
  have:=h3 e he
  rw [hb] at this
  simpa using this
end Go.Ax

namespace Go.Ax
set_option linter.unusedVariables false
set_option linter.unusedSimpArgs false
variable {P : Program} {T : Tab}
theorem Slot.ren_ren (f g:Nat→Nat):∀ (s:Slot),(s.ren f).ren g=s.ren (fun x=>g (f x))
 | .undef=>rfl | .v _ _=>rfl | .nil=>rfl | .nilp=>rfl | .own _ _=>rfl | .ptr _ _=>rfl | .ref _ _=>rfl | .mp _=>rfl | .anyb=>rfl | .tnil=>rfl
 | .fn _ cap=>by simp [Slot.ren,Slot.ren_ren f g cap]
 | .node a r=>by simp [Slot.ren,Slot.ren_ren f g a,Slot.ren_ren f g r]
 | .tup a r=>by simp [Slot.ren,Slot.ren_ren f g a,Slot.ren_ren f g r]
theorem Slot.ren_congr {f g:Nat→Nat}:∀ (s:Slot),(∀ i ∈ s.ids,f i=g i)→s.ren f=s.ren g
 | .undef,_=>rfl | .v _ _,_=>rfl | .nil,_=>rfl | .nilp,_=>rfl | .ref _ _,_=>rfl | .anyb,_=>rfl | .tnil,_=>rfl
 | .own l p,h=>by simp [Slot.ren,h l (by simp [Slot.ids])]
 | .ptr l p,h=>by simp [Slot.ren,h l (by simp [Slot.ids])]
 | .mp l,h=>by simp [Slot.ren,h l (by simp [Slot.ids])]
 | .fn _ cap,h=>by simp [Slot.ren,Slot.ren_congr cap h]
 | .node a r,h=>by
  simp only [Slot.ids,List.mem_append] at h
  simp [Slot.ren,Slot.ren_congr a (fun i hi=>h i (.inl hi)),Slot.ren_congr r (fun i hi=>h i (.inr hi))]
 | .tup a r,h=>by
  simp only [Slot.ids,List.mem_append] at h
  simp [Slot.ren,Slot.ren_congr a (fun i hi=>h i (.inl hi)),Slot.ren_congr r (fun i hi=>h i (.inr hi))]
theorem Slot.ren_id:∀ (s:Slot),s.ren (fun x=>x)=s
 | .undef=>rfl | .v _ _=>rfl | .nil=>rfl | .nilp=>rfl | .own _ _=>rfl | .ptr _ _=>rfl | .ref _ _=>rfl | .mp _=>rfl | .anyb=>rfl | .tnil=>rfl
 | .fn _ cap=>by simp [Slot.ren,Slot.ren_id cap]
 | .node a r=>by simp [Slot.ren,Slot.ren_id a,Slot.ren_id r]
 | .tup a r=>by simp [Slot.ren,Slot.ren_id a,Slot.ren_id r]
theorem Slot.ids_ren (f:Nat→Nat):∀ (s:Slot),(s.ren f).ids=s.ids.map f
 | .undef=>rfl | .v _ _=>rfl | .nil=>rfl | .nilp=>rfl | .own _ _=>rfl | .ptr _ _=>rfl | .ref _ _=>rfl | .mp _=>rfl | .anyb=>rfl | .tnil=>rfl
 | .fn _ cap=>by simp [Slot.ren,Slot.ids,Slot.ids_ren f cap]
 | .node a r=>by simp [Slot.ren,Slot.ids,Slot.ids_ren f a,Slot.ids_ren f r]
 | .tup a r=>by simp [Slot.ren,Slot.ids,Slot.ids_ren f a,Slot.ids_ren f r]
theorem AObj.ren_ren (f g:Nat→Nat) (o:AObj):(o.ren f).ren g=o.ren (fun x=>g (f x)):=by
 cases o <;> simp [AObj.ren,Slot.ren_ren]
theorem AObj.ren_congr {f g:Nat→Nat} (o:AObj) (h:∀ i ∈ o.ids,f i=g i):o.ren f=o.ren g:=by
 cases o with
 | box t s l=>simp [AObj.ren,Slot.ren_congr s h]
 | _=>rfl
theorem AObj.ren_id (o:AObj):o.ren (fun x=>x)=o:=by cases o <;> simp [AObj.ren,Slot.ren_id]
theorem AObj.ids_ren (f:Nat→Nat) (o:AObj):(o.ren f).ids=o.ids.map f:=by
 cases o <;> simp [AObj.ren,AObj.ids,Slot.ids_ren]
theorem Jcy:∀ {l:List Nat},Jox l=true↔l.Nodup
 | []=>by simp [Jox]
 | b::r=>by
  simp only [Jox,Bool.and_eq_true,Bool.not_eq_true',List.nodup_cons,Jcy]
  refine and_congr_left fun _=>⟨fun h hm=>?_,fun h=>?_⟩
  ·rw [J8y hm] at h; cases h
  ·cases hi:J7h r b with
   | false=>rfl
   | true=>exact absurd (J8z hi) h
theorem J7c {l:List Nat} {x:Nat} (h:x ∈ l):l[posF l x]?=some x:=(Jcr (J8y h)).1
theorem Jc3 {l:List Nat} {x:Nat} (h:x ∈ l):posF l x < l.length:=by
 have:=J7c h
 rcases Nat.lt_or_ge (posF l x) l.length with y | y
 ·exact y
 ·rw [List.getElem?_eq_none y] at this; cases this
theorem J9h {l:List Nat} (hn:l.Nodup) {k x:Nat} (h:l[k]?=some x):posF l x=k:=by
 have:=J7r (Jcy.2 hn) h
 unfold posF; rw [this]
theorem Jed {l r:List Nat} (hn:(l++r).Nodup) {x:Nat} (h:x ∈ l):posF (l++r) x=posF l x:=by
 refine J9h hn ?_
 rw [List.getElem?_append_left (Jc3 h)]
 exact J7c h
def stOf (names:List Nat) (sl:Nat→Slot) (ob:Nat→AObj) (n m:Nat):St:=
 ⟨(List.range n).map fun t=>(t,(sl t).ren (posF names)),names.map fun l=>(ob l).ren (posF names),n,m⟩
theorem Jbz (f:Nat→Slot) (i:Nat):∀ (l:List Nat),look (l.map fun t=>(t,f t)) i=if i ∈ l then f i else .undef
 | []=>rfl
 | t::r=>by
  rw [List.map_cons,J7s]
  by_cases h:t=i
  ·subst h; simp
  ·rw [if_neg h,Jbz f i r]
   simp [Ne.symm h]
theorem J84 (names:List Nat) (sl:Nat→Slot) (ob:Nat→AObj) (n m t:Nat):look (stOf names sl ob n m).slots t=if t < n then (sl t).ren (posF names) else .undef:=by
 rw [stOf,Jbz]; simp
structure WF (names:List Nat) (sl:Nat→Slot) (ob:Nat→AObj):Prop where
 once:names.Nodup
 sl:∀ t,∀ i ∈ (sl t).ids,i ∈ names
 ob:∀ l,l ∈ names→∀ i ∈ (ob l).ids,i ∈ names
def NSR (n m:Nat) (names:List Nat) (sl:Nat→Slot) (ob:Nat→AObj) (c:Ctx) (a:Act) (w:World):Prop:=SR c (stOf names sl ob n m) a w
structure Eff where
 rdS:List (Nat×Slot)
 rdO:List (Nat×AObj)
 wS:List (Nat×Slot)
 wO:List (Nat×AObj)
 nw:List Nat
def Jzk (P:Program) (ops:Array Oper) (n m:Nat) (Q:Exit→Act→World→Prop) (i:Nat) (e:Eff):Prop:=
 ∀ (names:List Nat) (sl:Nat→Slot) (ob:Nat→AObj),WF names sl ob→(∀ t s,(t,s) ∈ e.rdS→sl t=s)→(∀ l o,(l,o) ∈ e.rdO→l ∈ names∧ob l=o)→(∀ l ∈ e.nw,l ∉ names)→
  WF (names++e.nw) (wr sl e.wS) (wr ob e.wO)∧
  ∀ (c:Ctx) (a:Act) (w:World),NSR n m names sl ob c a w→∀ (K:Act→World→Prop),
   (∀ a' w',NSR n m (names++e.nw) (wr sl e.wS) (wr ob e.wO) c a' w'→K a' w')→wpOp P ops Q i K a w
end Go.Ax

namespace Go.Ax
set_option linter.unusedVariables false
set_option linter.unusedSimpArgs false
variable {P : Program} {T : Tab}
def zipN {β:Type}:List Nat→List β→List (Nat×β)
 | k::ks,v::vs=>(k,v)::zipN ks vs
 | _,_=>[]
theorem Jjy {β:Type} {f:Nat→β}:∀ {ks:List Nat} {vs:List β} {k x:Nat} {v:β},ks.Nodup→ks[k]?=some x→vs[k]?=some v→wr f (zipN ks vs) x=v
 | [],_,_,_,_,_,h,_=>by simp at h
 | _::_,[],_,_,_,_,_,h=>by simp at h
 | b::ks,u::vs,0,x,v,hn,h1,h2=>by
  simp at h1 h2; subst h1; subst h2
  simp [zipN,wr]
 | b::ks,u::vs,k+1,x,v,hn,h1,h2=>by
  rw [List.nodup_cons] at hn
  have h1':ks[k]?=some x:=by simpa using h1
  have hne:Nat.beq b x=false:=by
   rw [← Bool.not_eq_true,Nat.beq_eq]; rintro rfl; exact hn.1 (List.mem_of_getElem? h1')
  rw [zipN,wr,hne]
  exact Jjy hn.2 h1' (by simpa using h2)
theorem Jau {β:Type}:∀ {ks:List Nat} {vs:List β} {x:Nat},x ∈ keys (zipN ks vs)→x ∈ ks
 | [],_,_,h=>by simp [zipN,keys] at h
 | _::_,[],_,h=>by simp [zipN,keys] at h
 | b::ks,u::vs,x,h=>by
  simp only [zipN,keys,List.mem_cons] at h ⊢
  rcases h with h | h
  ·exact .inl h
  ·exact .inr (Jau h)
def J7f (ks nw:List Nat) (k:Nat):Nat:=(ks++nw).getD k 0
def dstW (o:Oper) (s:Slot):List (Nat×Slot):=match o.dst with | some d=>[(d,s)] | none=>[]
theorem Jpu (o:Oper) (s:Slot) (sl:Nat→Slot) (t:Nat):wr sl (dstW o s) t=if o.dst=some t then s else sl t:=by
 unfold dstW
 cases hd:o.dst with
 | none=>simp [wr]
 | some d=>
  by_cases h:d=t
  ·subst h; simp [wr]
  ·have:Nat.beq d t=false:=by rw [← Bool.not_eq_true,Nat.beq_eq]; exact h
   simp [wr,this,h]
section
variable {names ks nw : List Nat} {sl : Nat → Slot} {ob : Nat → AObj} {n m : Nat}
theorem Jj2 (hn:names.Nodup) (hnw:nw.Nodup) (hd:∀ l ∈ nw,l ∉ names):(names++nw).Nodup:=by
 rw [List.nodup_append]
 exact ⟨hn,hnw,fun a ha b hb hab=>hd b hb (hab ▸ ha)⟩
theorem Je0 (hk:∀ l ∈ ks,l ∈ names) {k l:Nat} (h:ks[k]?=some l):(ks.map (posF names))[k]?=some (posF names l):=by
 rw [List.getElem?_map,h]; rfl
theorem Jft (hks:ks.Nodup) (hk:∀ l ∈ ks,l ∈ names):(ks.map (posF names)).Nodup:=by
 rw [List.nodup_iff_pairwise_ne,List.pairwise_map]
 refine (List.nodup_iff_pairwise_ne.1 hks).imp_of_mem ?_
 intro a b ha hb hab e
 have h1:=J7c (hk a ha)
 have h2:=J7c (hk b hb)
 rw [e,h2] at h1
 injection h1 with h1; exact hab h1.symm
theorem Jja (hks:ks.Nodup) (hk:∀ l ∈ ks,l ∈ names) {x:Nat} (h:x ∈ ks):posF (ks.map (posF names)) (posF names x)=posF ks x:=
 J9h (Jft hks hk) (Je0 hk (J7c h))
theorem Jbx (p:Nat):(stOf names sl ob n m).heap[p]?=(names[p]?).map fun l=>(ob l).ren (posF names):=by
 simp [stOf]
theorem Jky {l:Nat} (h:l ∈ names):J6q (stOf names sl ob n m).heap (posF names l)=(ob l).ren (posF names):=by
 unfold J6q
 rw [List.getD_eq_getElem?_getD,Jbx,J7c h]; rfl
theorem Jks (hks:ks.Nodup) (hk:∀ l ∈ ks,l ∈ names) (hi:∀ l ∈ ks,∀ i ∈ (ob l).ids,i ∈ ks) :
  lent (stOf names sl ob n m).heap (ks.map (posF names))=ks.map fun l=>(ob l).ren (posF ks):=by
 unfold lent
 rw [List.map_map]
 apply List.map_congr_left
 intro l hl
 simp only [Function.comp]
 rw [Jky (hk l hl),AObj.ren_ren]
 exact AObj.ren_congr _ fun i hi'=>Jja hks hk (hi l hl i hi')
theorem Jip (hks:ks.Nodup) (hk:∀ l ∈ ks,l ∈ names) (hi:∀ l ∈ ks,∀ i ∈ (ob l).ids,i ∈ ks) :
  J8g (stOf names sl ob n m).heap (ks.map (posF names))=true:=by
 unfold J8g
 rw [Bool.and_eq_true,List.all_eq_true]
 refine ⟨Jcy.2 (Jft hks hk),fun p hp=>?_⟩
 obtain ⟨l,hl,rfl⟩:=List.mem_map.1 hp
 rw [Bool.and_eq_true,List.all_eq_true]
 refine ⟨?_,fun i hi'=>?_⟩
 ·have:=Jc3 (hk l hl)
  simp [stOf]; exact this
 ·rw [Jky (hk l hl),AObj.ids_ren] at hi'
  obtain ⟨j,hj,rfl⟩:=List.mem_map.1 hi'
  exact J8y (List.mem_map.2 ⟨j,hi l hl j hj,rfl⟩)
theorem Jpr (hw:names.Nodup) (hnw:nw.Nodup) (hd:∀ l ∈ nw,l ∉ names) (hks:ks.Nodup) (hk:∀ l ∈ ks,l ∈ names) {k:Nat} (h:k < ks.length+nw.length) :
  posF (names++nw) (J7f ks nw k)=unl names.length (ks.map (posF names)) k:=by
 have hnd:=Jj2 hw hnw hd
 unfold J7f
 rcases Nat.lt_or_ge k ks.length with hlt | hge
 ·have hget:ks[k]?=some (ks[k]):=List.getElem?_eq_getElem hlt
  have hm:ks[k] ∈ ks:=List.getElem_mem hlt
  rw [List.getD_eq_getElem?_getD,List.getElem?_append_left hlt,hget,Option.getD_some,Jed hnd (hk _ hm),Jzd (Je0 hk hget)]
 ·have hlt2:k - ks.length < nw.length:=by omega
  rw [List.getD_eq_getElem?_getD,List.getElem?_append_right hge,List.getElem?_eq_getElem hlt2,Option.getD_some,Jzc (by simpa using hge)]
  refine J9h hnd ?_
  rw [List.getElem?_append_right (by simp)]
  simp [hlt2]
theorem Jow {k:Nat} (h:k < ks.length+nw.length):J7f ks nw k ∈ ks++nw:=by
 unfold J7f
 have:k < (ks++nw).length:=by simpa using h
 rw [List.getD_eq_getElem?_getD,List.getElem?_eq_getElem this]
 exact List.getElem_mem this
theorem Jh8 {o:Oper} {mini:List (Nat×Slot)} {s:Slot} {h1:List AObj} (hwf:WF names sl ob) (hnw:nw.Nodup) (hd:∀ l ∈ nw,l ∉ names) (hks:ks.Nodup) (hk:∀ l ∈ ks,l ∈ names)
  (hi:∀ l ∈ ks,∀ i ∈ (ob l).ids,i ∈ ks) (hw:OpW P o ⟨mini,ks.map fun l=>(ob l).ren (posF ks),n,ks.length⟩ s h1)
  (hm:∀ t,look mini t=.undef∨(t < n∧look mini t=(sl t).ren (posF ks)∧∀ i ∈ (sl t).ids,i ∈ ks)) (hlen:h1.length=ks.length+nw.length)
  (hsi:∀ i ∈ s.ids,i < h1.length) (hoi:∀ x ∈ h1,∀ i ∈ AObj.ids x,i < h1.length) (hdst:∀ d,o.dst=some d→d < n) :
  WF (names++nw) (wr sl (dstW o (s.ren (J7f ks nw)))) (wr ob (zipN (ks++nw) (h1.map (AObj.ren (J7f ks nw)))))∧
  OpOK P o (stOf names sl ob n m) (stOf (names++nw) (wr sl (dstW o (s.ren (J7f ks nw)))) (wr ob (zipN (ks++nw) (h1.map (AObj.ren (J7f ks nw))))) n m):=by
 have hnd:=Jj2 hwf.once hnw hd
 have hkn:(ks++nw).Nodup:=Jj2 hks hnw (fun l hl hlk=>hd l hl (hk l hlk))
 have hmem:∀ x ∈ ks++nw,x ∈ names++nw:=by
  intro x hx
  rcases List.mem_append.1 hx with h | h
  ·exact List.mem_append_left _ (hk x h)
  ·exact List.mem_append_right _ h
 have hobj:∀ (k x:Nat),(ks++nw)[k]?=some x→∃ y:AObj,h1[k]?=some y∧wr ob (zipN (ks++nw) (h1.map (AObj.ren (J7f ks nw)))) x=y.ren (J7f ks nw):=by
  intro k x hx
  have hlt:k < h1.length:=by
   rw [hlen,← List.length_append]
   rcases Nat.lt_or_ge k (ks++nw).length with y | y
   ·exact y
   ·rw [List.getElem?_eq_none y] at hx; cases hx
  refine ⟨h1[k],List.getElem?_eq_getElem hlt,?_⟩
  exact Jjy hkn hx (by rw [List.getElem?_map,List.getElem?_eq_getElem hlt]; rfl)
 have hother:∀ x,x ∉ ks++nw→wr ob (zipN (ks++nw) (h1.map (AObj.ren (J7f ks nw)))) x=ob x:=fun x hx=>Jap fun h=>hx (Jau h)
 refine ⟨⟨hnd,fun t i hi'=>?_,fun l hl i hi'=>?_⟩,?_⟩
 ·rw [Jpu] at hi'
  split at hi'
  ·rw [Slot.ids_ren] at hi'
   obtain ⟨j,hj,rfl⟩:=List.mem_map.1 hi'
   exact hmem _ (Jow (by rw [← hlen]; exact hsi j hj))
  ·exact List.mem_append_left _ (hwf.sl t i hi')
 ·by_cases hx:l ∈ ks++nw
  ·obtain ⟨y,hy1,hy2⟩:=hobj _ l (J7c hx)
   rw [hy2,AObj.ids_ren] at hi'
   obtain ⟨j,hj,rfl⟩:=List.mem_map.1 hi'
   exact hmem _ (Jow (by rw [← hlen]; exact hoi y (List.mem_of_getElem? hy1) j hj))
  ·rw [hother l hx] at hi'
   have hln:l ∈ names:=by
    rcases List.mem_append.1 hl with h | h
    ·exact h
    ·exact absurd (List.mem_append_right _ h) hx
   exact List.mem_append_left _ (hwf.ob l hln i hi')
 ·-- the step
  have hlen0:(stOf names sl ob n m).heap.length=names.length:=by simp [stOf]
  have hfr:=OpW.frame (P:=P) (o:=o) (st:=stOf names sl ob n m) (ks:=ks.map (posF names)) (mini:=mini) (s:=s) (h1:=h1)
   (by rw [Jks hks hk hi]; simpa [stOf] using hw)
   (fun t=>by
    rcases hm t with h | ⟨ht,h,hids⟩
    ·exact .inl h
    ·right
     rw [J84,if_pos ht,h,Slot.ren_ren]
     refine ⟨Slot.ren_congr _ fun i hi'=>(Jja hks hk (hids i hi')).symm,fun i hi'=>?_⟩
     rw [Slot.ids_ren] at hi'
     obtain ⟨j,hj,rfl⟩:=List.mem_map.1 hi'
     exact J8y (List.mem_map.2 ⟨j,hids j hj,rfl⟩))
   (Jip hks hk hi) (by simp [hlen])
  rw [hlen0] at hfr
  have hok:=hfr.ok (fun d hd=>hdst d hd)
  -- the same heap
  have hheap:J7e (stOf names sl ob n m).heap (ks.map (posF names)) [] false h1 =
    (names++nw).map fun l=>(wr ob (zipN (ks++nw) (h1.map (AObj.ren (J7f ks nw)))) l).ren (posF (names++nw)):=by
   apply List.ext_getElem?
   intro p
   have hbl:(Jbo names.length (ks.map (posF names)) [] false h1 (stOf names sl ob n m).heap 0).length=names.length:=by rw [J8x,hlen0]
   unfold J7e
   rw [hlen0]
   have hren:∀ (k:Nat) (y:AObj),h1[k]?=some y→(y.ren (J7f ks nw)).ren (posF (names++nw))=y.ren (unl names.length (ks.map (posF names))):=by
    intro k y hy
    rw [AObj.ren_ren]
    exact AObj.ren_congr _ fun i hi'=>Jpr hwf.once hnw hd hks hk (by rw [← hlen]; exact hoi y (List.mem_of_getElem? hy) i hi')
   rcases Nat.lt_or_ge p names.length with hp | hp
   ·rw [List.getElem?_append_left (by rw [hbl]; exact hp),Jcn,Jbx,List.getElem?_map,List.getElem?_append_left hp,List.getElem?_eq_getElem hp,Nat.zero_add]
    simp only [Option.map_some]
    congr 1
    have hln:names[p] ∈ names:=List.getElem_mem hp
    have hpos:posF names names[p]=p:=J9h hwf.once (List.getElem?_eq_getElem hp)
    unfold Jri
    by_cases hx:names[p] ∈ ks
    ·have hk1:=J7c hx
     have hpo:Jaf (ks.map (posF names)) p=some (posF ks names[p]):=by
      refine J7r (Jcy.2 (Jft hks hk)) ?_
      rw [Je0 hk hk1,hpos]
     rw [hpo]
     obtain ⟨y,hy1,hy2⟩:=hobj (posF ks names[p]) names[p] (by rw [List.getElem?_append_left (Jc3 hx)]; exact hk1)
     rw [hy2,hren _ y hy1]
     show (J6q h1 _).ren _=_
     unfold J6q
     rw [List.getD_eq_getElem?_getD,hy1]; rfl
    ·have hpo:Jaf (ks.map (posF names)) p=none:=by
      cases hq:Jaf (ks.map (posF names)) p with
      | none=>rfl
      | some k=>
       have h2:=Jff hq
       rw [List.getElem?_map] at h2
       cases hk2:ks[k]? with
       | none=>rw [hk2] at h2; cases h2
       | some l=>
        rw [hk2] at h2
        simp only [Option.map_some,Option.some.injEq] at h2
        have hl:=hk l (List.mem_of_getElem? hk2)
        have h3:=J7c hl
        rw [h2,List.getElem?_eq_getElem hp] at h3
        injection h3 with h3
        exact absurd (h3 ▸ List.mem_of_getElem? hk2) hx
     rw [hpo]
     have hnx:names[p] ∉ ks++nw:=by
      intro h
      rcases List.mem_append.1 h with h | h
      ·exact hx h
      ·exact hd _ h hln
     rw [hother _ hnx]
     have e0:(bif !false && J7h [] p then AObj.freeze ((ob names[p]).ren (posF names)) else (ob names[p]).ren (posF names))=(ob names[p]).ren (posF names):=by simp [J7h,Jaf]
     show (bif !false && J7h [] p then AObj.freeze ((ob names[p]).ren (posF names)) else (ob names[p]).ren (posF names))=_
     rw [e0]
     exact AObj.ren_congr _ fun i hi'=>(Jed hnd (hwf.ob _ hln i hi')).symm
   ·rw [List.getElem?_append_right (by rw [hbl]; exact hp),hbl,List.getElem?_map,List.getElem?_drop,List.getElem?_map,List.getElem?_append_right hp]
    simp only [List.length_map]
    rcases Nat.lt_or_ge (p - names.length) nw.length with hq | hq
    ·have hx:(ks++nw)[ks.length+(p - names.length)]?=some nw[p - names.length]:=by
      rw [List.getElem?_append_right (by omega),Nat.add_sub_cancel_left]; exact List.getElem?_eq_getElem hq
     obtain ⟨y,hy1,hy2⟩:=hobj _ _ hx
     rw [hy1,List.getElem?_eq_getElem hq]
     simp only [Option.map_some]
     rw [hy2,hren _ y hy1]
    ·rw [List.getElem?_eq_none (by rw [hlen]; omega),List.getElem?_eq_none hq]; rfl
  intro c a w hs next Q hnx
  refine hok c a w hs next Q fun a' w' ⟨G,hs'⟩=>hnx a' w' ⟨G,?_⟩
  have hs2:SRG c G (putS o (s.ren (unl names.length (ks.map (posF names)))) (stOf names sl ob n m) (J7e (stOf names sl ob n m).heap (ks.map (posF names)) [] false h1)) a' w':=hs'
  have hhr:=hs2.toHRG
  have hhe:(putS o (s.ren (unl names.length (ks.map (posF names)))) (stOf names sl ob n m) (J7e (stOf names sl ob n m).heap (ks.map (posF names)) [] false h1)).heap =
    (stOf (names++nw) (wr sl (dstW o (s.ren (J7f ks nw)))) (wr ob (zipN (ks++nw) (h1.map (AObj.ren (J7f ks nw))))) n m).heap:=hheap
  rw [hhe] at hhr
  refine ⟨hhr,fun t=>?_,hs2.ent,hs2.em,hs2.sz,hs2.nodef⟩
  have ht:=hs2.slots t
  rw [hhe] at ht
  rw [J84,Jpu]
  have hlk:look (putS o (s.ren (unl names.length (ks.map (posF names)))) (stOf names sl ob n m) (J7e (stOf names sl ob n m).heap (ks.map (posF names)) [] false h1)).slots t =
    if o.dst=some t then s.ren (unl names.length (ks.map (posF names))) else look (stOf names sl ob n m).slots t:=by
   unfold putS
   cases hd2:o.dst with
   | none=>simp
   | some d=>simp only [J7s,Option.some.injEq]
  rw [hlk] at ht
  by_cases htn:t < n
  ·rw [if_pos htn]
   by_cases hdt:o.dst=some t
   ·rw [if_pos hdt] at ht ⊢
    rw [Slot.ren_ren]
    rw [Slot.ren_congr s (fun i hi'=>Jpr hwf.once hnw hd hks hk (by rw [← hlen]; exact hsi i hi'))]
    exact ht
   ·rw [if_neg hdt] at ht ⊢
    rw [J84,if_pos htn] at ht
    rw [Slot.ren_congr (sl t) (fun i hi'=>Jed hnd (hwf.sl t i hi'))]
    exact ht
  ·rw [if_neg htn]; trivial
end
end Go.Ax

namespace Go.Ax
set_option linter.unusedVariables false
set_option linter.unusedSimpArgs false
variable {P : Program} {T : Tab}
def apart (a b:List Nat):Bool:=a.all fun x=>!b.elem x
theorem J8k {a b:List Nat} (h:apart a b=true) {x:Nat} (ha:x ∈ a):x ∉ b:=by
 have:=List.all_eq_true.1 h x ha
 intro hb
 rw [List.elem_eq_true_of_mem hb] at this; cases this
def Jp0 (PT:List (List Nat)) (i j:Nat) (e f:Eff):Bool:=
 (PT.getD j []).elem i || (apart (keys e.wS) (keys f.rdS) && apart (keys e.wS) (keys f.wS) && apart (keys f.wS) (keys e.rdS) &&
  apart (keys e.wO) (keys f.rdO) && apart (keys e.wO) (keys f.wO) && apart (keys f.wO) (keys e.rdO))
def Jel (R:Nat→Nat→Eff→Eff→Bool) (e:Eff) (i:Nat):List Eff→Nat→Bool
 | [],_=>true
 | f::r,j=>R i j e f && Jel R e i r (j+1)
def Jkz (R:Nat→Nat→Eff→Eff→Bool):List Eff→Nat→Bool
 | [],_=>true
 | e::r,i=>Jel R e i r (i+1) && Jkz R r (i+1)
theorem Jht {R:Nat→Nat→Eff→Eff→Bool} {e:Eff} {i:Nat}:∀ {r:List Eff} {j:Nat},Jel R e i r j=true→∀ k f,r[k]?=some f→R i (j+k) e f=true
 | [],_,_,_,_,h=>by simp at h
 | f::r,j,h,0,g,hg=>by
  simp only [Jel,Bool.and_eq_true] at h
  simp at hg; subst hg; exact h.1
 | f::r,j,h,k+1,g,hg=>by
  simp only [Jel,Bool.and_eq_true] at h
  have:=Jht h.2 k g (by simpa using hg)
  rwa [show j+(k+1)=j+1+k by omega]
theorem Jcz {R:Nat→Nat→Eff→Eff→Bool}:∀ {r:List Eff} {i:Nat},Jkz R r i=true→∀ a b e f,a < b→r[a]?=some e→r[b]?=some f→R (i+a) (i+b) e f=true
 | [],_,_,_,_,_,_,_,h,_=>by simp at h
 | g::r,i,h,0,b+1,e,f,_,he,hf=>by
  simp only [Jkz,Bool.and_eq_true] at h
  simp at he; subst he
  have:=Jht h.1 b f (by simpa using hf)
  rwa [show i+(b+1)=i+1+b by omega]
 | g::r,i,h,a+1,b+1,e,f,hlt,he,hf=>by
  simp only [Jkz,Bool.and_eq_true] at h
  have:=Jcz h.2 a b e f (by omega) (by simpa using he) (by simpa using hf)
  rwa [show i+(b+1)=i+1+b by omega,show i+(a+1)=i+1+a by omega]
 | _::_,_,_,_+1,0,_,_,hlt,_,_=>by omega
 | _::_,_,_,0,0,_,_,hlt,_,_=>by omega
def nwB (i j:Nat) (e f:Eff):Bool:=apart e.nw f.nw
def Joh (PT:List (List Nat)) (effs:List Eff) (N0:Nat):List Eff→Nat→Bool
 | [],_=>true
 | e::r,i=>(keys e.rdO).all (fun l=>Nat.blt l N0 || (PT.getD i []).any fun j=>match effs[j]? with | some f=>f.nw.elem l | none=>false) &&
  e.nw.all (fun l=>Nat.ble N0 l) && Joh PT effs N0 r (i+1)
theorem Joi {PT:List (List Nat)} {effs:List Eff} {N0:Nat}:∀ {r:List Eff} {i:Nat},Joh PT effs N0 r i=true→∀ k e,r[k]?=some e→
  (∀ l ∈ keys e.rdO,l < N0∨∃ j f,j ∈ PT.getD (i+k) []∧effs[j]?=some f∧l ∈ f.nw)∧∀ l ∈ e.nw,N0≤l
 | [],_,_,_,_,h=>by simp at h
 | g::r,i,h,0,e,he=>by
  simp only [Joh,Bool.and_eq_true,List.all_eq_true] at h
  simp at he; subst he
  refine ⟨fun l hl=>?_,fun l hl=>Nat.le_of_ble_eq_true (h.1.2 l hl)⟩
  have h1:=h.1.1 l hl
  simp only [Bool.or_eq_true,List.any_eq_true] at h1
  rcases h1 with h1 | ⟨j,hj,h1⟩
  ·left; simpa using h1
  ·right
   split at h1
   ·rename_i f hf; exact ⟨j,f,hj,hf,List.elem_iff.1 h1⟩
   ·cases h1
 | g::r,i,h,k+1,e,he=>by
  simp only [Joh,Bool.and_eq_true] at h
  have:=Joi h.2 k e (by simpa using he)
  rwa [show i+(k+1)=i+1+k by omega]
def Jwd (ops:Array Oper) (PT:List (List Nat)) (N0:Nat) (effs:List Eff):Bool:=
 ptB ops PT && Nat.beq effs.length ops.size && Jkz (Jp0 PT) effs 0 && Jkz nwB effs 0 && Joh PT effs N0 effs 0
def Jzj:List Eff→(Nat→Slot)→(Nat→AObj)→Prop
 | [],_,_=>True
 | e::r,sl,ob=>(∀ t s,(t,s) ∈ e.rdS→sl t=s)∧(∀ l o,(l,o) ∈ e.rdO→ob l=o)∧Jzj r (wr sl e.wS) (wr ob e.wO)
theorem Jrl:∀ {r:List Eff} {sl:Nat→Slot} {ob:Nat→AObj} {i0:Nat},Jzj r sl ob→∀ k e,r[k]?=some e→
  (∀ t s,(t,s) ∈ e.rdS→ov (fun j=>decide (j < i0+k)) (r.map Eff.wS) i0 sl t=s)∧(∀ l o,(l,o) ∈ e.rdO→ov (fun j=>decide (j < i0+k)) (r.map Eff.wO) i0 ob l=o)
 | [],_,_,_,_,_,_,h=>by simp at h
 | g::r,sl,ob,i0,h,0,e,he=>by
  simp at he; subst he
  refine ⟨fun t s hts=>?_,fun l o hlo=>?_⟩
  ·rw [Jfa _ _ _ _ (fun j _=>by simp)]; exact h.1 t s hts
  ·rw [Jfa _ _ _ _ (fun j _=>by simp)]; exact h.2.1 l o hlo
 | g::r,sl,ob,i0,h,k+1,e,he=>by
  have:=Jrl (i0:=i0+1) h.2.2 k e (by simpa using he)
  rw [show i0+1+k=i0+(k+1) by omega] at this
  have hd:decide (i0 < i0+(k+1))=true:=by simp
  simp only [List.map_cons,ov,hd,cond_true]
  exact this
theorem Jhd {β:Type}:∀ {ws:List (Nat×β)} {t:Nat} {s:β},(t,s) ∈ ws→t ∈ keys ws
 | (i,v)::r,t,s,h=>by
  rcases List.mem_cons.1 h with h | h
  ·injection h with h1 h2; subst h1; simp [keys]
  ·simp [keys,Jhd h]
section
variable {ops : Array Oper} {PT : List (List Nat)} {N0 n m : Nat} {effs : List Eff} {sl0 : Nat → Slot} {ob0 : Nat → AObj}
theorem others {D:Nat→Bool} (hb:Jwd ops PT N0 effs=true) (hd:Down ops D) {i:Nat} {e:Eff} (hi:effs[i]?=some e) (hDi:D i=false)
  (hpre:∀ j ∈ PT.getD i [],D j=true) {j:Nat} {f:Eff} (hj:effs[j]?=some f) (hne:D j≠decide (j < i)) (hji:j≠i) :
  (∀ x ∈ keys e.rdS,x ∉ keys f.wS)∧(∀ x ∈ keys e.wS,x ∉ keys f.wS)∧(∀ x ∈ keys e.rdO,x ∉ keys f.wO)∧(∀ x ∈ keys e.wO,x ∉ keys f.wO):=by
 simp only [Jwd,Bool.and_eq_true] at hb
 obtain ⟨⟨⟨⟨hpt,hlen⟩,hpairs⟩,_⟩,_⟩:=hb
 have hlen:effs.length=ops.size:=by simpa using hlen
 have hjs:j < ops.size:=by
  rw [← hlen]
  rcases Nat.lt_or_ge j effs.length with y | y
  ·exact y
  ·rw [List.getElem?_eq_none y] at hj; cases hj
 rcases Nat.lt_or_ge j i with hlt | hge
 ·have hDj:D j=false:=by
   cases h:D j with
   | false=>rfl
   | true=>rw [h] at hne; simp [hlt] at hne
  have:=Jcz hpairs j i f e hlt hj hi
  rw [Nat.zero_add,Nat.zero_add] at this
  simp only [Jp0,Bool.or_eq_true,Bool.and_eq_true] at this
  rcases this with h | ⟨⟨⟨⟨⟨h1,h2⟩,h3⟩,h4⟩,h5⟩,h6⟩
  ·rw [hpre j (List.elem_iff.1 h)] at hDj; cases hDj
  ·exact ⟨fun x hx hf=>J8k h1 hf hx,fun x hx hf=>J8k h2 hf hx,fun x hx hf=>J8k h4 hf hx,fun x hx hf=>J8k h5 hf hx⟩
 ·have hgt:i < j:=by omega
  have hDj:D j=true:=by
   cases h:D j with
   | true=>rfl
   | false=>rw [h] at hne; simp [Nat.not_lt.2 hge] at hne
  have:=Jcz hpairs i j e f hgt hi hj
  rw [Nat.zero_add,Nat.zero_add] at this
  simp only [Jp0,Bool.or_eq_true,Bool.and_eq_true] at this
  rcases this with h | ⟨⟨⟨⟨⟨h1,h2⟩,h3⟩,h4⟩,h5⟩,h6⟩
  ·have hex:ops[j]?=some (ops[j]'hjs):=Array.getElem?_eq_getElem hjs
   have:=Jsr hpt hd j _ hex (fun e he hb=>hd j _ hex hDj e he hb) i (List.elem_iff.1 h)
   rw [this] at hDi; cases hDi
  ·exact ⟨fun x hx hf=>J8k h3 hf hx,fun x hx hf=>J8k h2 hx hf,fun x hx hf=>J8k h6 hf hx,fun x hx hf=>J8k h5 hx hf⟩
def setD (D:Nat→Bool) (i:Nat) (j:Nat):Bool:=bif Nat.beq i j then true else D j
theorem J90 {D:Nat→Bool} {i j:Nat} (h:i≠j):setD D i j=D j:=by
 have:Nat.beq i j=false:=by rw [← Bool.not_eq_true,Nat.beq_eq]; exact h
 simp [setD,this]
theorem Jbm {D:Nat→Bool} {i:Nat}:setD D i i=true:=by simp [setD]
theorem Jxw {β:Type} (W:Eff→List (Nat×β)) {D:Nat→Bool} {i:Nat} {e:Eff} {f0:Nat→β} (hi:effs[i]?=some e) (hDi:D i=false)
  (hoth:∀ j f,effs[j]?=some f→i < j→D j=true→∀ x ∈ keys (W e),x ∉ keys (W f)) :
  ∀ k,ov (setD D i) (effs.map W) 0 f0 k=wr (ov D (effs.map W) 0 f0) (W e) k:=by
 -- by the list,from place i0 on
 have gen:∀ (r:List Eff) (i0:Nat) (g g':Nat→β),∀ (k:Nat),(∀ (q:Nat) (f:Eff),r[q]?=some f→i < i0+q→D (i0+q)=true→∀ x ∈ keys (W e),x ∉ keys (W f))→
   ((i0≤i→i < i0+r.length→r[i - i0]?=some e∧g=g')∧(i < i0→∀ k,g k=wr g' (W e) k))→(i < i0+r.length)→
   ov (setD D i) (r.map W) i0 g k=wr (ov D (r.map W) i0 g') (W e) k:=by
  intro r
  induction r with
  | nil=>
   intro i0 g g' k _ h hlt
   have:i < i0:=by simpa using hlt
   exact h.2 this k
  | cons f r ih=>
   intro i0 g g' k ho h hlt
   simp only [List.map_cons,ov]
   refine ih (i0+1) _ _ k (fun q f' hq hlt' hD'=>ho (q+1) f' (by simpa using hq) (by omega) (by rwa [show i0+(q+1)=i0+1+q by omega])) ⟨fun h1 h2=>?_,fun h1=>?_⟩ (by simp at hlt; omega)
   ·obtain ⟨q1,q2⟩:=h.1 (by omega) (by simpa using hlt)
    have hne:i≠i0:=by omega
    refine ⟨?_,?_⟩
    ·rw [show i - i0=(i - (i0+1))+1 by omega] at q1; simpa using q1
    ·rw [J90 hne,q2]
   ·rcases Nat.lt_or_ge i i0 with h2 | h2
    ·have hg:=h.2 h2
     have hne:i≠i0:=by omega
     rw [J90 hne]
     intro k
     cases hD0:D i0 with
     | false=>exact hg k
     | true=>
      have hap:=ho 0 f rfl (by omega) (by simpa using hD0)
      show wr g (W f) k=wr (wr g' (W f)) (W e) k
      by_cases hk:k ∈ keys (W e)
      ·rw [Jap (hap k hk),hg k]; exact K4z hk
      ·rw [Jap hk]
       refine K2d ?_
       rw [hg k,Jap hk]
    ·have he0:i=i0:=by omega
     subst he0
     obtain ⟨q1,q2⟩:=h.1 (Nat.le_refl _) (by simp)
     simp at q1; subst q1; subst q2
     rw [Jbm,hDi]
     intro k; rfl
 intro k
 have hlt:i < effs.length:=by
  rcases Nat.lt_or_ge i effs.length with y | y
  ·exact y
  ·rw [List.getElem?_eq_none y] at hi; cases hi
 refine gen effs 0 f0 f0 k (fun q f hq h1 h2=>?_) ⟨fun _ _=>⟨by simpa using hi,rfl⟩,fun h=>by omega⟩ (by omega)
 rw [Nat.zero_add] at h1 h2
 exact hoth q f hq h1 h2
end
end Go.Ax

namespace Go.Ax
set_option linter.unusedVariables false
set_option linter.unusedSimpArgs false
variable {P : Program} {T : Tab}
theorem SR.drew {c:Ctx} {st:St} {a:Act} {w:World} (h:SR c st a w):SR c st a { w with drawn:=w.drawn+1 }:=by
 obtain ⟨G,hs⟩:=h
 obtain ⟨h1,h2,k⟩:=hs.toHRG.same (w':={ w with drawn:=w.drawn+1 }) rfl rfl rfl rfl
 refine ⟨G,h1,fun i=>?_,hs.ent,hs.em,hs.sz,hs.nodef⟩
 have:=TRel.mono (Ext.refl G) k _ (hs.slots i)
 rw [h2]; exact this
section
variable {ops : Array Oper} {PT : List (List Nat)} {N0 n m : Nat} {effs : List Eff} {sl0 : Nat → Slot} {ob0 : Nat → AObj} {Q : Exit → Act → World → Prop}
structure DInv (ops:Array Oper) (N0 n m:Nat) (effs:List Eff) (sl0:Nat→Slot) (ob0:Nat→AObj) (D:Nat→Bool) (names:List Nat) (c:Ctx) (a:Act) (w:World):Prop where
 wf:WF names (ov D (effs.map Eff.wS) 0 sl0) (ov D (effs.map Eff.wO) 0 ob0)
 nms:∀ l,l ∈ names↔(l < N0∨∃ j f,D j=true∧effs[j]?=some f∧l ∈ f.nw)
 pre:∀ k,k < N0→names[k]?=some k
 st:NSR n m names (ov D (effs.map Eff.wS) 0 sl0) (ov D (effs.map Eff.wO) 0 ob0) c a w
 down:Down ops D
def inD (listed:Array Bool) (j:Nat):Bool:=listed.getD j false
theorem Jmc {listed:Array Bool} {i:Nat} (h:i < listed.size):inD (listed.setIfInBounds i true)=setD (inD listed) i:=by
 funext j
 unfold inD
 by_cases e:i=j
 ·subst e; rw [Jbm,Array.getD_eq_getD_getElem?,Array.getElem?_setIfInBounds]; simp [h]
 ·rw [J90 e,Array.getD_eq_getD_getElem?,Array.getD_eq_getD_getElem?,Array.getElem?_setIfInBounds,if_neg e]
theorem K5 (hb:Jwd ops PT N0 effs=true) (hch:Jzj effs sl0 ob0) (heff:∀ i e,effs[i]?=some e→Jzk P ops n m Q i e) {c:Ctx}
  (hfin:∀ names a w,DInv ops N0 n m effs sl0 ob0 (fun _=>true) names c a w→Q .normal a w) :
  ∀ (fuel:Nat) (listed:Array Bool) (names:List Nat) (a:Act) (w:World),listed.size=ops.size→listed.toList.count false≤fuel→
   DInv ops N0 n m effs sl0 ob0 (inD listed) names c a w→wpAny P .any ops Q fuel listed a w:=by
 have hb':=hb
 simp only [Jwd,Bool.and_eq_true] at hb'
 obtain ⟨⟨⟨⟨hpt,hlen⟩,hpairs⟩,hnwp⟩,hknown⟩:=hb'
 have hlen:effs.length=ops.size:=by simpa using hlen
 have hall:∀ {listed:Array Bool} {names:List Nat} {a:Act} {w:World},(∀ i,i < ops.size→listed.getD i false=true)→DInv ops N0 n m effs sl0 ob0 (inD listed) names c a w→Q .normal a w:=by
  intro listed names a w hal hI
  refine hfin names a w ?_
  have ovall:∀ {β:Type} (W:Eff→List (Nat×β)) (f:Nat→β),ov (inD listed) (effs.map W) 0 f=ov (fun _=>true) (effs.map W) 0 f:=by
   intro β W f
   funext k
   refine Jhg rfl fun j ws hj hne=>?_
   exfalso; apply hne
   have hjl:j < ops.size:=by
    rw [← hlen]
    rw [List.getElem?_map] at hj
    rcases Nat.lt_or_ge j effs.length with y | y
    ·exact y
    ·rw [List.getElem?_eq_none y] at hj; cases hj
   show inD listed (0+j)=true
   rw [Nat.zero_add]; exact hal j hjl
  refine ⟨?_,fun l=>?_,hI.pre,?_,fun _ _ _ _ _ _ _=>rfl⟩
  ·have:=hI.wf; rw [ovall,ovall] at this; exact this
  ·rw [hI.nms l]
   constructor
   ·rintro (h | ⟨j,f,h1,h2,h3⟩)
    ·exact .inl h
    ·exact .inr ⟨j,f,rfl,h2,h3⟩
   ·rintro (h | ⟨j,f,h1,h2,h3⟩)
    ·exact .inl h
    ·refine .inr ⟨j,f,hal j ?_,h2,h3⟩
     rw [← hlen]
     rcases Nat.lt_or_ge j effs.length with y | y
     ·exact y
     ·rw [List.getElem?_eq_none y] at h2; cases h2
  ·have:=hI.st; rw [ovall,ovall] at this; exact this
 intro fuel
 induction fuel with
 | zero=>
  intro listed names a w hs hc hI
  have hal:∀ i,i < ops.size→listed.getD i false=true:=by
   intro i hi
   cases hl:listed.getD i false with
   | true=>rfl
   | false=>
    exfalso
    have hi':i < listed.size:=by omega
    rw [Array.getD_eq_getD_getElem?,Array.getElem?_eq_getElem hi',Option.getD_some] at hl
    have hm:false ∈ listed.toList:=by rw [← hl]; simp
    have:=List.count_pos_iff.2 hm
    omega
  refine ⟨?_,hall hal hI⟩
  cases hr:Region.ready .any ops listed with
  | nil=>rfl
  | cons x xs=>
   have hx:x ∈ Region.ready .any ops listed:=by rw [hr]; exact List.mem_cons_self ..
   obtain ⟨h1,h2,_⟩:=Jp7 hs hx
   rw [hal x h1] at h2; cases h2
 | succ fuel ih=>
  intro listed names a w hs hc hI
  refine ⟨fun hr=>hall (ready_nil hpt hs hr) hI,fun i hi=>?_⟩
  obtain ⟨hil,hif,o,ho,hedges⟩:=Jp7 hs hi
  have hie:effs[i]?=some (effs[i]'(by omega)):=List.getElem?_eq_getElem _
  generalize effs[i]'(by omega)=e at hie
  have hDi:inD listed i=false:=hif
  have hpre:=Jsr hpt hI.down i o ho hedges
  have hoth:∀ {j:Nat} {f:Eff},effs[j]?=some f→inD listed j≠decide (j < i)→j≠i:=by
   intro j f _ hne e; subst e; rw [hDi] at hne; simp at hne
  have hread:=Jrl (i0:=0) hch i e hie
  rw [Nat.zero_add] at hread
  have hagS:∀ t,t ∈ keys e.rdS→ov (inD listed) (effs.map Eff.wS) 0 sl0 t=ov (fun j=>decide (j < i)) (effs.map Eff.wS) 0 sl0 t:=by
   intro t ht
   refine Jhg rfl fun j ws hj hne=>?_
   rw [Nat.zero_add] at hne
   rw [List.getElem?_map] at hj
   cases hf:effs[j]? with
   | none=>rw [hf] at hj; cases hj
   | some f=>
    rw [hf] at hj; simp only [Option.map_some,Option.some.injEq] at hj; subst hj
    exact (others hb hI.down hie hDi hpre hf hne (hoth hf hne)).1 t ht
  have hagO:∀ t,t ∈ keys e.rdO→ov (inD listed) (effs.map Eff.wO) 0 ob0 t=ov (fun j=>decide (j < i)) (effs.map Eff.wO) 0 ob0 t:=by
   intro t ht
   refine Jhg rfl fun j ws hj hne=>?_
   rw [Nat.zero_add] at hne
   rw [List.getElem?_map] at hj
   cases hf:effs[j]? with
   | none=>rw [hf] at hj; cases hj
   | some f=>
    rw [hf] at hj; simp only [Option.map_some,Option.some.injEq] at hj; subst hj
    exact (others hb hI.down hie hDi hpre hf hne (hoth hf hne)).2.2.1 t ht
  obtain ⟨hk1,hk2⟩:=Joi hknown i e hie
  rw [Nat.zero_add] at hk1
  have hfresh:∀ l ∈ e.nw,l ∉ names:=by
   intro l hl hln
   rcases (hI.nms l).1 hln with h | ⟨j,f,h1,h2,h3⟩
   ·have:=hk2 l hl; omega
   ·have hne:j≠i:=by rintro rfl; rw [hDi] at h1; cases h1
    rcases Nat.lt_or_ge j i with hlt | hge
    ·have:=Jcz hnwp j i f e hlt h2 hie
     exact J8k this h3 hl
    ·have:=Jcz hnwp i j e f (by omega) hie h2
     exact J8k this hl h3
  obtain ⟨hwf',hstep⟩:=heff i e hie names _ _ hI.wf (fun t s hts=>by rw [hagS t (Jhd hts)]; exact hread.1 t s hts)
   (fun l x hlx=>by
    refine ⟨?_,by rw [hagO l (Jhd hlx)]; exact hread.2 l x hlx⟩
    rcases hk1 l (Jhd hlx) with h | ⟨j,f,h1,h2,h3⟩
    ·exact (hI.nms l).2 (.inl h)
    ·exact (hI.nms l).2 (.inr ⟨j,f,hpre j h1,h2,h3⟩)) hfresh
  have his:i < listed.size:=by omega
  have e1:ov (setD (inD listed) i) (effs.map Eff.wS) 0 sl0=wr (ov (inD listed) (effs.map Eff.wS) 0 sl0) e.wS:=by
   funext t
   refine Jxw Eff.wS hie hDi (fun j f hf hlt hDj x hx=>?_) t
   have hne:inD listed j≠decide (j < i):=by rw [hDj]; simp; omega
   exact (others hb hI.down hie hDi hpre hf hne (by omega)).2.1 x hx
  have e2:ov (setD (inD listed) i) (effs.map Eff.wO) 0 ob0=wr (ov (inD listed) (effs.map Eff.wO) 0 ob0) e.wO:=by
   funext t
   refine Jxw Eff.wO hie hDi (fun j f hf hlt hDj x hx=>?_) t
   have hne:inD listed j≠decide (j < i):=by rw [hDj]; simp; omega
   exact (others hb hI.down hie hDi hpre hf hne (by omega)).2.2.2 x hx
  refine hstep c a w hI.st _ fun a' w' hst'=>ih _ (names++e.nw) a' w' (by simpa using hs) ?_ ⟨?_,?_,?_,?_,?_⟩
  ·have hfl:listed.toList[i]'(by simpa using his)=false:=by
    have:=hif
    rw [Array.getD_eq_getD_getElem?,Array.getElem?_eq_getElem his,Option.getD_some] at this
    simpa using this
   rw [Array.toList_setIfInBounds,List.count_set (by simpa using his),hfl]
   simp only [show (false == false)=true from rfl,show (true == false)=false from rfl,if_true,Bool.false_eq_true,if_false]
   omega
  ·rw [Jmc his,e1,e2]; exact hwf'
  ·intro l
   rw [Jmc his,List.mem_append,hI.nms l]
   constructor
   ·rintro ((h | ⟨j,f,h1,h2,h3⟩) | h)
    ·exact .inl h
    ·refine .inr ⟨j,f,?_,h2,h3⟩
     by_cases hji:i=j
     ·subst hji; exact Jbm
     ·rw [J90 hji]; exact h1
    ·exact .inr ⟨i,e,Jbm,hie,h⟩
   ·rintro (h | ⟨j,f,h1,h2,h3⟩)
    ·exact .inl (.inl h)
    ·by_cases hji:i=j
     ·subst hji; rw [hie] at h2; injection h2 with h2; subst h2; exact .inr h3
     ·rw [J90 hji] at h1; exact .inl (.inr ⟨j,f,h1,h2,h3⟩)
  ·intro k hk
   have:=hI.pre k hk
   rw [List.getElem?_append_left]
   ·exact this
   ·rcases Nat.lt_or_ge k names.length with y | y
    ·exact y
    ·rw [List.getElem?_eq_none y] at this; cases this
  ·rw [Jmc his,e1,e2]; exact hst'
  ·rw [Jmc his]
   intro k ok hok hDk e' he' hbind
   by_cases hki:i=k
   ·subst hki
    rw [ho] at hok; injection hok with hok; subst hok
    have:=hedges e' he' hbind
    by_cases hio:i=e'.on
    ·rw [← hio]; exact Jbm
    ·rw [J90 hio]; exact this
   ·rw [J90 hki] at hDk
    have:=hI.down k ok hok hDk e' he' hbind
    by_cases hio:i=e'.on
    ·rw [← hio]; exact Jbm
    ·rw [J90 hio]; exact this
end
end Go.Ax

namespace Go.Ax
set_option linter.unusedVariables false
set_option linter.unusedSimpArgs false
variable {P : Program} {T : Tab}
def clo (h:List AObj):Nat→List Nat→List Nat→List Nat
 | 0,_,acc=>acc
 | _+1,[],acc=>acc
 | f+1,l::r,acc=>bif acc.elem l then clo h f r acc else clo h f ((J6q h l).ids++r) (acc++[l])
def Jmb (ss:List (Nat×Slot)):List Nat→List Nat
 | []=>[]
 | t::r=>(look ss t).ids++Jmb ss r
theorem Job {ss:List (Nat×Slot)}:∀ {rd:List Nat} {t i:Nat},t ∈ rd→i ∈ (look ss t).ids→i ∈ Jmb ss rd
 | u::r,t,i,h,hi=>by
  rcases List.mem_cons.1 h with h | h
  ·subst h; simp [Jmb,hi]
  ·simp [Jmb,Job h hi]
def Jiw (ss:List (Nat×Slot)) (ks rd:List Nat):List (Nat×Slot):=rd.map fun t=>(t,(look ss t).ren (posF ks))
def Jh4 (ss:List (Nat×Slot)) (rd:List Nat):List (Nat×Slot):=rd.map fun t=>(t,look ss t)
def Juu (h:List AObj) (ks:List Nat):List (Nat×AObj):=ks.map fun l=>(l,J6q h l)
def Jcf (ss:List (Nat×Slot)) (h:List AObj) (ks rd:List Nat) (o:Oper) (n:Nat):Bool:=
 J8g h ks && (Jmb ss rd).all (J7h ks) && rd.all (fun t=>Nat.blt t n) && dstB o n
def flg (o:Op) (its:List It):Bool×List It:=
 match o with
 | .pick _ _ _=>match its with | .br b::its=>(b,its) | its=>(false,its)
 | .slice _ _ _ _ _=>match its with | .br b::its=>(b,its) | its=>(false,its)
 | .build _ _=>match its with | .asis::its=>(true,its) | its=>(false,its)
 | _=>(false,its)
structure D1 where
 ps:List Prop
 its:List It
 e:Eff
 s:Slot
 h:List AObj
def Jqj (s:Slot) (h1:List AObj) (k:Nat):Bool:=
 Nat.ble k h1.length && s.ids.all (fun i=>Nat.blt i h1.length) && h1.all (fun x=>(AObj.ids x).all fun i=>Nat.blt i h1.length)
def Jh2 {β:Type} (kept:List Nat):List (Nat×β)→List (Nat×β)
 | []=>[]
 | p::r=>bif J7h kept p.1 then Jh2 kept r else p::Jh2 kept r
theorem Jf1 {β:Type} {kept:List Nat}:∀ {ws:List (Nat×β)} {x:Nat},x ∈ keys (Jh2 kept ws)→x ∈ keys ws∧J7h kept x=false
 | [],_,h=>by simp [Jh2,keys] at h
 | (i,v)::r,x,h=>by
  rw [Jh2] at h
  cases hp:J7h kept i with
  | true=>rw [hp] at h; have:=Jf1 h; exact ⟨by simp [keys,this.1],this.2⟩
  | false=>
   rw [hp] at h
   simp only [cond_false,keys,List.mem_cons] at h ⊢
   rcases h with rfl | h
   ·exact ⟨.inl rfl,hp⟩
   ·have:=Jf1 h; exact ⟨.inr this.1,this.2⟩
theorem Jgm {β:Type} {f:Nat→β} {kept:List Nat}:∀ {ws:List (Nat×β)} {x:Nat},J7h kept x=false→wr f (Jh2 kept ws) x=wr f ws x
 | [],_,_=>rfl
 | (i,v)::r,x,h=>by
  rw [Jh2]
  cases hp:J7h kept i with
  | true=>
   simp only [cond_true]
   rw [Jgm h,wr]
   have:Nat.beq i x=false:=by
    rw [← Bool.not_eq_true,Nat.beq_eq]
    rintro rfl
    rw [hp] at h; cases h
   rw [this]; rfl
  | false=>
   simp only [cond_false]
   rw [wr,wr,Jgm h]
theorem K4y {β:Type} {f:Nat→β} {kept:List Nat} {ws:List (Nat×β)} (h:∀ x ∈ kept,wr f ws x=f x):wr f (Jh2 kept ws)=wr f ws:=by
 funext x
 cases hp:J7h kept x with
 | false=>exact Jgm hp
 | true=>
  rw [h x (J8z hp),Jap]
  intro hk
  have:=(Jf1 hk).2
  rw [hp] at this; cases this
def keptP (kept ks:List Nat) (h0 h1:List AObj):Prop:=kept.map (fun l=>J6q h1 (posF ks l))=kept.map (fun l=>J6q h0 (posF ks l))
def K2r (P:Program) (ss:List (Nat×Slot)) (h:List AObj) (its:List It) (o:Op):Option (List Prop×Slot×List It):=
 match o with
 | .call cl=>match cl.callee,its with
  | .value f0,.asis::.call modes back snap fl ret objs'::its=>match Jwj P ss h f0 cl.args.toList modes back snap fl ret objs' with
   | some (ps,s,h1)=>some ((h1=h)::ps,s,its)
   | none=>none
  | _,_=>none
 | _=>none
theorem Jzx (hT:J78 P T) {E:List Nat} (hE:J83 P T E=true) {o:Oper} {st:St} {its its':List It} {ps:List Prop} {s:Slot}
  (he:K2r P st.slots st.heap its o.op=some (ps,s,its')) (hps:AllP ps):OpW P o st s st.heap:=by
 generalize hop:o.op=op at he
 unfold K2r at he
 split at he
 ·rename_i cl
  split at he
  ·rename_i f0 modes back snap fl ret objs' its0 hcl
   split at he
   ·rename_i ps1 s1 h1 hx
    injection he with he; injection he with e1 e2; injection e2 with e2 e3
    subst e1; subst e2; subst e3
    obtain ⟨hh,hps⟩:=hps
    subst hh
    refine Jb8 (T:=T) hT hE (its:=.call modes back snap fl ret objs'::its0) (its':=its0) ?_ hps
    rw [hop]
    simp only [Jet,hcl,hx]
   ·cases he
  ·cases he
 ·cases he
def K4d (P:Program) (T:Tab) (E:List Nat) (ss:List (Nat×Slot)) (h:List AObj) (its:List It) (o:Oper) (rd ks:List Nat):Option D1:=
  match Jq8 T E (flg o.op its).1 (Jiw ss ks rd) (lent h ks) o.op with
  | some (ps,s)=>match Jqj s (lent h ks) ks.length with
    | true=>some ⟨ps,(flg o.op its).2,⟨Jh4 ss rd,Juu h ks,dstW o (s.ren (J7f ks [])),[],[]⟩,s.ren (J7f ks []),h⟩
    | false=>none
  | none=>match K2r P (Jiw ss ks rd) (lent h ks) its o.op with
   | some (ps,s,its')=>match Jqj s (lent h ks) ks.length with
    | true=>some ⟨ps,its',⟨Jh4 ss rd,Juu h ks,dstW o (s.ren (J7f ks [])),[],[]⟩,s.ren (J7f ks []),h⟩
    | false=>none
   | none=>match its with
   | .kept kept::its1=>match Jet P T E (Jiw ss ks rd) (lent h ks) its1 o.op with
     | some (ps,s,h1,its')=>match Jqj s h1 ks.length && kept.all (J7h ks) with
       | true=>some ⟨keptP kept ks (lent h ks) h1::ps,its',⟨Jh4 ss rd,Juu h ks,dstW o (s.ren (J7f ks (List.range' h.length (h1.length - ks.length)))),
          Jh2 kept (zipN (ks++List.range' h.length (h1.length - ks.length)) (h1.map (AObj.ren (J7f ks (List.range' h.length (h1.length - ks.length)))))),List.range' h.length (h1.length - ks.length)⟩,
          s.ren (J7f ks (List.range' h.length (h1.length - ks.length))),
          (List.range (h.length+(h1.length - ks.length))).map (wr (J6q h) (Jh2 kept (zipN (ks++List.range' h.length (h1.length - ks.length)) (h1.map (AObj.ren (J7f ks (List.range' h.length (h1.length - ks.length))))))))⟩
       | false=>none
     | none=>none
   | _=>match Jet P T E (Jiw ss ks rd) (lent h ks) its o.op with
    | some (ps,s,h1,its')=>match Jqj s h1 ks.length with
      | true=>some ⟨ps,its',⟨Jh4 ss rd,Juu h ks,dstW o (s.ren (J7f ks (List.range' h.length (h1.length - ks.length)))),
          zipN (ks++List.range' h.length (h1.length - ks.length)) (h1.map (AObj.ren (J7f ks (List.range' h.length (h1.length - ks.length))))),List.range' h.length (h1.length - ks.length)⟩,
          s.ren (J7f ks (List.range' h.length (h1.length - ks.length))),
          (List.range (h.length+(h1.length - ks.length))).map (wr (J6q h) (zipN (ks++List.range' h.length (h1.length - ks.length)) (h1.map (AObj.ren (J7f ks (List.range' h.length (h1.length - ks.length)))))))⟩
      | false=>none
    | none=>none
def Jxm (ss:List (Nat×Slot)) (rd:List Nat) (op:Op):Option Slot:=
 match op with
 | .move (.tmp t)=>match rd.elem t,look ss t with
  | true,.own l p=>some (.own l p)
  | true,.ptr l p=>some (.ptr l p)
  | _,_=>none
 | _=>none
theorem Jqp {ss:List (Nat×Slot)} {rd:List Nat} {op:Op} {s:Slot} (h:Jxm ss rd op=some s):∃ t,op=.move (.tmp t)∧t ∈ rd∧look ss t=s:=by
 unfold Jxm at h
 split at h
 ·rename_i t
  split at h
  ·rename_i l p h1 h2; injection h with h; subst h; exact ⟨t,rfl,List.elem_iff.1 h1,h2⟩
  ·rename_i l p h1 h2; injection h with h; subst h; exact ⟨t,rfl,List.elem_iff.1 h1,h2⟩
  ·cases h
 ·cases h
def Jqm (T:Tab) (ss:List (Nat×Slot)) (h:List AObj) (rd:List Nat) (op:Op):Option (Nat×Slot):=
 match op with
 | .load ty (.tmp t)=>match rd.elem t,look ss t with
  | true,.ptr l p=>match T.ty ty with
   | some y=>if (J6q h l).lay.at p=some y∧(J6q h l).isDead=false then match (J6q h l).slot.get p with
     | .own l2 q=>some (l,.own l2 q)
     | _=>none
    else none
   | none=>none
  | _,_=>none
 | _=>none
theorem Jon {ss:List (Nat×Slot)} {h:List AObj} {rd:List Nat} {op:Op} {l:Nat} {s:Slot} (hm:Jqm T ss h rd op=some (l,s)) :
  ∃ ty t p y l2 q,op=.load ty (.tmp t)∧t ∈ rd∧look ss t=.ptr l p∧T.ty ty=some y∧((J6q h l).lay.at p=some y∧(J6q h l).isDead=false)∧(J6q h l).slot.get p=.own l2 q∧s=.own l2 q:=by
 unfold Jqm at hm
 split at hm
 ·rename_i ty t
  split at hm
  ·rename_i l' p h1 h2
   split at hm
   ·rename_i y hy
    split at hm
    ·rename_i hc
     split at hm
     ·rename_i l2 q hg
      injection hm with hm; injection hm with e1 e2; subst e1; subst e2
      exact ⟨ty,t,p,y,l2,q,rfl,List.elem_iff.1 h1,h2,hy,hc,hg,rfl⟩
     ·cases hm
    ·cases hm
   ·cases hm
  ·cases hm
 ·cases hm
def Jm2 (T:Tab) (ss:List (Nat×Slot)) (h:List AObj) (rd:List Nat) (op:Op):Option (Nat×Slot):=
 match op with
 | .fieldAddr ty (.tmp t) k=>match rd.elem t,look ss t with
  | true,.ptr l p=>match J7l T h ty (.ptr l p) k with
   | some (.ptr _ _)=>some (l,.ptr l (p++[.fld k]))
   | _=>none
  | _,_=>none
 | _=>none
theorem Jm3 {ss:List (Nat×Slot)} {h:List AObj} {rd:List Nat} {op:Op} {l:Nat} {s:Slot} (hm:Jm2 T ss h rd op=some (l,s)) :
  ∃ ty t k p,op=.fieldAddr ty (.tmp t) k∧t ∈ rd∧look ss t=.ptr l p∧(∃ z,J7l T h ty (.ptr l p) k=some z)∧s=.ptr l (p++[.fld k]):=by
 unfold Jm2 at hm
 split at hm
 ·rename_i ty t k
  split at hm
  ·rename_i l' p h1 h2
   split at hm
   ·rename_i z1 z2 hz
    injection hm with hm; injection hm with e1 e2; subst e1; subst e2
    exact ⟨ty,t,k,p,rfl,List.elem_iff.1 h1,h2,⟨_,hz⟩,rfl⟩
   ·cases hm
  ·cases hm
 ·cases hm
theorem Ji8 {h h':List AObj} {ty l l' k:Nat} {p:List Step} {z:Slot} (he:J7l T h ty (.ptr l p) k=some z)
  (h1:(J6q h' l').lay=(J6q h l).lay) (h2:(J6q h' l').isDead=(J6q h l).isDead):J7l T h' ty (.ptr l' p) k=some (.ptr l' (p++[.fld k])):=by
 unfold J7l at he ⊢
 split at he
 ·cases he
 ·rename_i y hy
  split at he
  ·cases he
  ·rename_i o1 t1 hf
   split at he
   ·cases he
   ·rename_i h0
    dsimp only at he ⊢
    split at he
    ·rename_i hc
     rw [if_neg h0,h1,h2,if_pos hc]
    ·cases he
def runD (P:Program) (T:Tab) (E:List Nat) (ss:List (Nat×Slot)) (h:List AObj) (its:List It) (o:Oper) (rd ks:List Nat):Option D1:=
 match Jxm ss rd o.op with
 | some s=>some ⟨[],its,⟨Jh4 ss rd,[],dstW o s,[],[]⟩,s,h⟩
 | none=>match Jqm T ss h rd o.op with
  | some (l,s)=>some ⟨[],its,⟨Jh4 ss rd,[(l,J6q h l)],dstW o s,[],[]⟩,s,h⟩
  | none=>match Jm2 T ss h rd o.op with
   | some (l,s)=>some ⟨[],its,⟨Jh4 ss rd,[(l,J6q h l)],dstW o s,[],[]⟩,s,h⟩
   | none=>K4d P T E ss h its o rd ks
def K35 (ops:Array Oper) (ss:List (Nat×Slot)) (j:Nat):Option Nat:=
 match ops[j]? with
 | some oj=>match oj.dst with
  | some d=>match look ss d with
   | .tnil=>some d
   | _=>none
  | none=>none
 | none=>none
theorem Ju6 {ops:Array Oper} {ss:List (Nat×Slot)} {j d:Nat} (h:K35 ops ss j=some d):∃ oj,ops[j]?=some oj∧oj.dst=some d∧look ss d=.tnil:=by
 unfold K35 at h
 split at h
 ·rename_i oj hj
  split at h
  ·rename_i d hd
   split at h
   ·rename_i hy; injection h with h; subst h; exact ⟨oj,hj,hd,hy⟩
   ·cases h
  ·cases h
 ·cases h
def evD1 (P:Program) (T:Tab) (E:List Nat) (ops:Array Oper) (n:Nat) (ss:List (Nat×Slot)) (h:List AObj) (its:List It) (o:Oper):Option D1:=
  match o.guard with
  | none=>match Jcf ss h (clo h 300 (Jmb ss (o.looksAt ops)) []) (o.looksAt ops) o n with
    | true=>runD P T E ss h its o (o.looksAt ops) (clo h 300 (Jmb ss (o.looksAt ops)) [])
    | false=>none
  | some (j,want)=>match K35 ops ss j with
   | some d=>match dstB o n,Nat.blt d n with
    | true,true=>some ⟨[],its,⟨[(d,look ss d)],[],dstW o .tnil,[],[]⟩,.tnil,h⟩
    | _,_=>none
   | none=>match its with
    | .br b::its=>match ops[j]? with
      | some oj=>match oj.dst with
        | some d=>match look ss d with
          | .v .bool x=>match decide (b=want) with
            | true=>match Jcf ss h (clo h 300 (Jmb ss (d::o.looksAt ops)) []) (d::o.looksAt ops) o n with
              | true=>match runD P T E ss h its o (d::o.looksAt ops) (clo h 300 (Jmb ss (d::o.looksAt ops)) []) with
                | some r=>some { r with ps:=((x:Bool)=b)::r.ps }
                | none=>none
              | false=>none
            | false=>match dstB o n,Nat.blt d n with
              | true,true=>some ⟨[(x:Bool)=b],its,⟨[(d,look ss d)],[],dstW o .tnil,[],[]⟩,.tnil,h⟩
              | _,_=>none
          | _=>none
        | none=>none
      | none=>none
    | _=>none
def putD (o:Oper) (s:Slot) (ss:List (Nat×Slot)):List (Nat×Slot):=match o.dst with | some d=>(d,s)::ss | none=>ss
def evD (P:Program) (T:Tab) (E:List Nat) (ops:Array Oper) (n:Nat):List Oper→List It→List (Nat×Slot)→List AObj→Option (List Prop×List It×List Eff×List (Nat×Slot)×List AObj)
 | [],its,ss,h=>some ([],its,[],ss,h)
 | o::r,its,ss,h=>match evD1 P T E ops n ss h its o with
  | some d=>match evD P T E ops n r d.its (putD o d.s ss) d.h with
   | some (qs,its2,effs,ss2,h2)=>some (d.ps++qs,its2,d.e::effs,ss2,h2)
   | none=>none
  | none=>none
theorem Jad (o:Oper) (s:Slot) (ss:List (Nat×Slot)) (t:Nat):look (putD o s ss) t=wr (look ss) (dstW o s) t:=by
 rw [Jpu]
 unfold putD
 cases hd:o.dst with
 | none=>simp
 | some d=>simp only [J7s,Option.some.injEq]
theorem Jj4 (f:Nat→AObj) (n l:Nat):J6q ((List.range n).map f) l=if l < n then f l else .dead:=by
 unfold J6q
 rw [List.getD_eq_getElem?_getD,List.getElem?_map]
 by_cases h:l < n
 ·rw [List.getElem?_range h,if_pos h]; rfl
 ·rw [List.getElem?_eq_none (by simpa using h),if_neg h]; rfl
theorem Jsl {h:List AObj} {l:Nat} (hl:h.length≤l):J6q h l=.dead:=by
 unfold J6q; rw [List.getD_eq_getElem?_getD,List.getElem?_eq_none hl]; rfl
theorem Jcx (s n:Nat):(List.range' s n).Nodup:=by
 rw [List.nodup_iff_pairwise_ne]
 exact (List.pairwise_lt_range' (s:=s) (n:=n)).imp fun h=>Nat.ne_of_lt h
structure D1OK (P:Program) (ops:Array Oper) (n m i:Nat) (o:Oper) (ss:List (Nat×Slot)) (h:List AObj) (d:D1):Prop where
 eff:∀ Q,Jzk P ops n m Q i d.e
 rdS:∀ t s,(t,s) ∈ d.e.rdS→look ss t=s
 rdO:∀ l x,(l,x) ∈ d.e.rdO→J6q h l=x
 sl:∀ t,look (putD o d.s ss) t=wr (look ss) d.e.wS t
 ob:∀ l,J6q d.h l=wr (J6q h) d.e.wO l
 nw:d.e.nw=List.range' h.length (d.h.length - h.length)∧h.length≤d.h.length
theorem Jio {s:Slot} {h1:List AObj} {k:Nat} (h:Jqj s h1 k=true):k≤h1.length∧(∀ i ∈ s.ids,i < h1.length)∧∀ x ∈ h1,∀ i ∈ AObj.ids x,i < h1.length:=by
 simp only [Jqj,Bool.and_eq_true,List.all_eq_true] at h
 refine ⟨Nat.le_of_ble_eq_true h.1.1,fun i hi=>?_,fun x hx i hi=>?_⟩
 ·simpa using h.1.2 i hi
 ·simpa using h.2 x hx i hi
theorem K0s (hT:J78 P T) {E:List Nat} (hE:J83 P T E=true) {ops:Array Oper} {n m i:Nat} {ss:List (Nat×Slot)} {h:List AObj} {its:List It} {o:Oper} {rd ks:List Nat} {d:D1}
  (hio:ops[i]?=some o) (hok:Jcf ss h ks rd o n=true) (hr:K4d P T E ss h its o rd ks=some d) (hps:AllP d.ps)
  (hg:∀ (c:Ctx) (names:List Nat) (sl:Nat→Slot) (ob:Nat→AObj) (a:Act) (w:World),(∀ t ∈ rd,sl t=look ss t)→NSR n m names sl ob c a w→Region.wanted o (yielded ops a.tmps)=true) :
  D1OK P ops n m i o ss h d:=by
 simp only [Jcf,Bool.and_eq_true,List.all_eq_true] at hok
 obtain ⟨⟨⟨hlb,hids⟩,hrd⟩,hdst⟩:=hok
 have hlb':=hlb
 simp only [J8g,Bool.and_eq_true,List.all_eq_true] at hlb'
 have hks:ks.Nodup:=Jcy.1 hlb'.1
 have hklt:∀ l ∈ ks,l < h.length:=fun l hl=>by simpa using (hlb'.2 l hl).1
 have hkid:∀ l ∈ ks,∀ i ∈ (J6q h l).ids,i ∈ ks:=fun l hl i hi=>J8z ((hlb'.2 l hl).2 i hi)
 -- the effect,for what comes out
 have main:∀ (s:Slot) (h1:List AObj) (nw:List Nat),OpW P o ⟨Jiw ss ks rd,lent h ks,n,ks.length⟩ s h1→nw.Nodup→h1.length=ks.length+nw.length→(∀ i ∈ s.ids,i < h1.length)→
   (∀ x ∈ h1,∀ i ∈ AObj.ids x,i < h1.length)→∀ Q,Jzk P ops n m Q i ⟨Jh4 ss rd,Juu h ks,dstW o (s.ren (J7f ks nw)),zipN (ks++nw) (h1.map (AObj.ren (J7f ks nw))),nw⟩:=by
  intro s h1 nw hw hnw hlen hsi hoi Q names sl ob hwf hS hO hfr
  have hsl:∀ t ∈ rd,sl t=look ss t:=fun t ht=>hS t _ (List.mem_map.2 ⟨t,ht,rfl⟩)
  have hob:∀ l ∈ ks,l ∈ names∧ob l=J6q h l:=fun l hl=>hO l _ (List.mem_map.2 ⟨l,hl,rfl⟩)
  have hminih:lent h ks=ks.map fun l=>(ob l).ren (posF ks):=by
   unfold lent; exact List.map_congr_left fun l hl=>by rw [(hob l hl).2]
  rw [hminih] at hw
  obtain ⟨r1,r2⟩:=Jh8 (m:=m) (sl:=sl) (ob:=ob) hwf hnw hfr hks (fun l hl=>(hob l hl).1) (fun l hl i hi=>hkid l hl i (by rw [← (hob l hl).2]; exact hi)) hw
   (fun t=>by
    unfold Jiw
    rw [Jbz]
    by_cases ht:t ∈ rd
    ·rw [if_pos ht]
     refine .inr ⟨by simpa using hrd t ht,by rw [hsl t ht],fun i hi=>?_⟩
     rw [hsl t ht] at hi
     exact J8z (hids i (Job ht hi))
    ·rw [if_neg ht]; exact .inl rfl) hlen hsi hoi (Jcp hdst)
  refine ⟨r1,fun c a w hst K hK=>?_⟩
  unfold wpOp
  rw [hio]
  show (if Region.wanted o (yielded ops a.tmps) then _ else _)
  rw [if_pos (hg c names sl ob a w hsl hst)]
  exact .inl (r2 c a w hst K Q hK)
 have quietly:∀ (ps:List Prop) (its':List It) (s:Slot),OpW P o ⟨Jiw ss ks rd,lent h ks,n,ks.length⟩ s (lent h ks)→Jqj s (lent h ks) ks.length=true→
   D1OK P ops n m i o ss h ⟨ps,its',⟨Jh4 ss rd,Juu h ks,dstW o (s.ren (J7f ks [])),[],[]⟩,s.ren (J7f ks []),h⟩:=by
  intro ps its' s hv hland
  obtain ⟨l1,l2,l3⟩:=Jio hland
  have hll:(lent h ks).length=ks.length+([]:List Nat).length:=by simp [lent]
  have hm:=main s (lent h ks) [] hv (by simp) hll l2 l3
  refine ⟨fun Q=>?_,fun t s hts=>?_,fun l x hlx=>?_,Jad o _ ss,fun l=>rfl,by simp,Nat.le_refl _⟩
  ·intro names sl ob hwf hS hO hfr
   have:=hm Q names sl ob hwf hS hO hfr
   have hob:∀ l ∈ ks,ob l=J6q h l:=fun l hl=>(hO l _ (List.mem_map.2 ⟨l,hl,rfl⟩)).2
   have e:wr ob (zipN (ks++[]) ((lent h ks).map (AObj.ren (J7f ks []))))=wr ob []:=by
    funext x
    show _=ob x
    by_cases hx:x ∈ ks
    ·have hget:=J7c hx
     have h2:((lent h ks).map (AObj.ren (J7f ks [])))[posF ks x]?=some (((J6q h x).ren (posF ks)).ren (J7f ks [])):=by
      unfold lent; rw [List.getElem?_map,List.getElem?_map,hget]; rfl
     rw [Jjy (by simpa using hks) (by simpa using hget) h2,AObj.ren_ren,hob x hx]
     rw [AObj.ren_congr (g:=fun y=>y) _ (fun i hi=>?_),AObj.ren_id]
     have hik:=hkid x hx i hi
     unfold J7f
     rw [List.append_nil,List.getD_eq_getElem?_getD,J7c hik]; rfl
    ·exact Jap fun hk=>hx (by simpa using Jau hk)
   rw [e] at this
   exact this
  ·obtain ⟨u,_,hu⟩:=List.mem_map.1 hts
   injection hu with h1 h2; subst h1; exact h2
  ·obtain ⟨u,_,hu⟩:=List.mem_map.1 hlx
   injection hu with h1 h2; subst h1; exact h2
 unfold K4d at hr
 split at hr
 ·rename_i ps s hq
  split at hr
  ·rename_i hland
   injection hr with hr; subst hr
   exact quietly _ _ _ (Ju2 hT hE (st:=⟨Jiw ss ks rd,lent h ks,n,ks.length⟩) hq hps).w hland
  ·cases hr
 ·split at hr
  ·rename_i ps s its' hq
   split at hr
   ·rename_i hland
    injection hr with hr; subst hr
    exact quietly _ _ _ (Jzx hT hE (st:=⟨Jiw ss ks rd,lent h ks,n,ks.length⟩) hq hps) hland
   ·cases hr
  ·split at hr
   ·rename_i kept its1 _ _
    split at hr
    ·rename_i ps s h1 its' hx
     split at hr
     ·rename_i hland
      rw [Bool.and_eq_true] at hland
      injection hr with hr; subst hr
      obtain ⟨l1,l2,l3⟩:=Jio hland.1
      obtain ⟨hkept,hps⟩:=hps
      have hv:=Jb8 hT hE (st:=⟨Jiw ss ks rd,lent h ks,n,ks.length⟩) hx hps
      have hnk:∀ x ∈ ks++List.range' h.length (h1.length - ks.length),x < h.length+(h1.length - ks.length):=by
       intro x hx
       rcases List.mem_append.1 hx with hx | hx
       ·have:=hklt x hx; omega
       ·rw [List.mem_range'] at hx; obtain ⟨q,hq,rfl⟩:=hx; omega
      have hnd:(ks++List.range' h.length (h1.length - ks.length)).Nodup:=by
       rw [List.nodup_append]
       refine ⟨hks,Jcx _ _,fun x hx y hy=>?_⟩
       have:=hklt x hx
       rw [List.mem_range'] at hy; obtain ⟨q,hq,rfl⟩:=hy; omega
      have hsame:∀ (f:Nat→AObj),(∀ l ∈ ks,f l=J6q h l)→∀ x ∈ kept,wr f (zipN (ks++List.range' h.length (h1.length - ks.length)) (h1.map (AObj.ren (J7f ks (List.range' h.length (h1.length - ks.length)))))) x=f x:=by
       intro f hf x hxk
       have hx1:x ∈ ks:=J8z (List.all_eq_true.1 hland.2 x hxk)
       have hget:=J7c hx1
       have hlt:posF ks x < ks.length:=by
        rcases Nat.lt_or_ge (posF ks x) ks.length with h' | h'
        ·exact h'
        ·rw [List.getElem?_eq_none h'] at hget; cases hget
       have h0:J6q h1 (posF ks x)=(J6q h x).ren (posF ks):=by
        have e:=List.map_inj_left.1 hkept x hxk
        rw [e]
        unfold lent J6q
        rw [List.getD_eq_getElem?_getD,List.getElem?_map,hget]; rfl
       have h2:(h1.map (AObj.ren (J7f ks (List.range' h.length (h1.length - ks.length)))))[posF ks x]?=some (((J6q h x).ren (posF ks)).ren (J7f ks (List.range' h.length (h1.length - ks.length)))):=by
        rw [List.getElem?_map]
        have:h1[posF ks x]?=some (J6q h1 (posF ks x)):=by
         unfold J6q
         rw [List.getD_eq_getElem?_getD,List.getElem?_eq_getElem (by omega)]; rfl
        rw [this,h0]; rfl
       rw [Jjy hnd (by rw [List.getElem?_append_left hlt]; exact hget) h2,AObj.ren_ren,hf x hx1]
       rw [AObj.ren_congr (g:=fun y=>y) _ (fun i hi=>?_),AObj.ren_id]
       have hik:=hkid x hx1 i hi
       have hgi:=J7c hik
       have hlti:posF ks i < ks.length:=by
        rcases Nat.lt_or_ge (posF ks i) ks.length with h' | h'
        ·exact h'
        ·rw [List.getElem?_eq_none h'] at hgi; cases hgi
       unfold J7f
       rw [List.getD_eq_getElem?_getD,List.getElem?_append_left hlti,hgi]; rfl
      refine ⟨fun Q=>?_,fun t s hts=>?_,fun l x hlx=>?_,Jad o _ ss,fun l=>?_,?_⟩
      ·intro names sl ob hwf hS hO hfr
       have:=main s h1 _ hv (Jcx _ _) (by simp; omega) l2 l3 Q names sl ob hwf hS hO hfr
       have hob:∀ l ∈ ks,ob l=J6q h l:=fun l hl=>(hO l _ (List.mem_map.2 ⟨l,hl,rfl⟩)).2
       have e:=K4y (hsame ob hob)
       show WF _ _ (wr ob (Jh2 kept _))∧∀ (c:Ctx) (a:Act) (w:World),NSR n m names sl ob c a w→∀ (K:Act→World→Prop),(∀ a' w',NSR n m _ _ (wr ob (Jh2 kept _)) c a' w'→K a' w')→wpOp P ops Q i K a w
       rw [e]
       exact this
      ·obtain ⟨u,_,hu⟩:=List.mem_map.1 hts
       injection hu with h1 h2; subst h1; exact h2
      ·obtain ⟨u,_,hu⟩:=List.mem_map.1 hlx
       injection hu with h1 h2; subst h1; exact h2
      ·show J6q ((List.range _).map _) l=_
       rw [Jj4]
       split
       ·rfl
       ·rename_i hnl
        rw [Jap,Jsl (by omega)]
        intro hk
        have:=Jau (Jf1 hk).1
        exact hnl (hnk l this)
      ·simp
     ·cases hr
    ·cases hr
   ·split at hr
    ·rename_i ps s h1 its' hx
     split at hr
     ·rename_i hland
      injection hr with hr; subst hr
      obtain ⟨l1,l2,l3⟩:=Jio hland
      have hv:=Jb8 hT hE (st:=⟨Jiw ss ks rd,lent h ks,n,ks.length⟩) hx hps
      refine ⟨main s h1 _ hv (Jcx _ _) (by simp; omega) l2 l3,fun t s hts=>?_,fun l x hlx=>?_,Jad o _ ss,fun l=>?_,?_⟩
      ·obtain ⟨u,_,hu⟩:=List.mem_map.1 hts
       injection hu with h1 h2; subst h1; exact h2
      ·obtain ⟨u,_,hu⟩:=List.mem_map.1 hlx
       injection hu with h1 h2; subst h1; exact h2
      ·show J6q ((List.range _).map _) l=_
       rw [Jj4]
       split
       ·rfl
       ·rename_i hnl
        rw [Jap,Jsl (by omega)]
        intro hk
        have:=Jau hk
        rcases List.mem_append.1 this with h | h
        ·have:=hklt l h; omega
        ·rw [List.mem_range'] at h; obtain ⟨q,hq,rfl⟩:=h; omega
      ·simp
     ·cases hr
    ·cases hr
theorem K4g {ops:Array Oper} {n m i t:Nat} {ss:List (Nat×Slot)} {h:List AObj} {its:List It} {o:Oper} {rd ks:List Nat} (hio:ops[i]?=some o) (hok:Jcf ss h ks rd o n=true) (hop:o.op=.move (.tmp t)) (ht:t ∈ rd)
  (hg:∀ (c:Ctx) (names:List Nat) (sl:Nat→Slot) (ob:Nat→AObj) (a:Act) (w:World),(∀ t ∈ rd,sl t=look ss t)→NSR n m names sl ob c a w→Region.wanted o (yielded ops a.tmps)=true) :
  D1OK P ops n m i o ss h ⟨[],its,⟨Jh4 ss rd,[],dstW o (look ss t),[],[]⟩,look ss t,h⟩:=by
 simp only [Jcf,Bool.and_eq_true,List.all_eq_true] at hok
 obtain ⟨⟨_,hrd⟩,hdst⟩:=hok
 have htn:t < n:=by simpa using hrd t ht
 refine ⟨fun Q=>?_,fun t s hts=>?_,fun l x hlx=>by simp at hlx,Jad o _ ss,fun l=>rfl,by simp,Nat.le_refl _⟩
 ·intro names sl ob hwf hS hO hfr
  have hsl:∀ t ∈ rd,sl t=look ss t:=fun t ht=>hS t _ (List.mem_map.2 ⟨t,ht,rfl⟩)
  have hw:OpW P o ⟨(List.range n).map fun t=>(t,(sl t).ren (posF names)),names.map fun l=>(ob l).ren (posF names),n,names.length⟩ ((sl t).ren (posF names)) (names.map fun l=>(ob l).ren (posF names)):=by
   have:=(Jiy (P:=P) (o:=o) (st:=⟨(List.range n).map fun t=>(t,(sl t).ren (posF names)),names.map fun l=>(ob l).ren (posF names),n,names.length⟩) (x:=.tmp t) (.inl hop)).w
   have e:opnd ((List.range n).map fun t=>(t,(sl t).ren (posF names))) (.tmp t)=(sl t).ren (posF names):=by
    show look _ t=_
    rw [Jbz]; simp [htn]
   rw [e] at this; exact this
  obtain ⟨r1,r2⟩:=Jh8 (m:=m) (sl:=sl) (ob:=ob) (nw:=[]) hwf List.nodup_nil (fun l hl=>by simp at hl) hwf.once (fun l hl=>hl) (fun l hl i hi=>hwf.ob l hl i hi) hw
   (fun t=>by
    rw [Jbz]
    by_cases ht:t ∈ List.range n
    ·rw [if_pos ht]
     exact .inr ⟨List.mem_range.1 ht,rfl,fun i hi=>hwf.sl t i hi⟩
    ·rw [if_neg ht]; exact .inl rfl) (by simp) (fun i hi=>by
     rw [Slot.ids_ren] at hi
     obtain ⟨j,hj,rfl⟩:=List.mem_map.1 hi
     rw [List.length_map]; exact Jc3 (hwf.sl t j hj)) (fun x hx i hi=>by
     obtain ⟨l,hl,rfl⟩:=List.mem_map.1 hx
     rw [AObj.ids_ren] at hi
     obtain ⟨j,hj,rfl⟩:=List.mem_map.1 hi
     rw [List.length_map]; exact Jc3 (hwf.ob l hl j hj)) (Jcp hdst)
  have es:((sl t).ren (posF names)).ren (J7f names [])=look ss t:=by
   rw [Slot.ren_ren,Slot.ren_congr (g:=fun y=>y) _ (fun i hi=>?_),Slot.ren_id,hsl t ht]
   unfold J7f
   rw [List.append_nil,List.getD_eq_getElem?_getD,J7c (hwf.sl t i hi)]; rfl
  have e:wr ob (zipN (names++[]) ((names.map fun l=>(ob l).ren (posF names)).map (AObj.ren (J7f names []))))=wr ob []:=by
   funext x
   show _=ob x
   by_cases hx:x ∈ names
   ·have hget:=J7c hx
    have h2:((names.map fun l=>(ob l).ren (posF names)).map (AObj.ren (J7f names [])))[posF names x]?=some (((ob x).ren (posF names)).ren (J7f names [])):=by
     rw [List.getElem?_map,List.getElem?_map,hget]; rfl
    rw [Jjy (by simpa using hwf.once) (by simpa using hget) h2,AObj.ren_ren]
    rw [AObj.ren_congr (g:=fun y=>y) _ (fun i hi=>?_),AObj.ren_id]
    unfold J7f
    rw [List.append_nil,List.getD_eq_getElem?_getD,J7c (hwf.ob x hx i hi)]; rfl
   ·exact Jap fun hk=>hx (by simpa using Jau hk)
  rw [es,e] at r1 r2
  refine ⟨r1,fun c a w hst K hK=>?_⟩
  unfold wpOp
  rw [hio]
  show (if Region.wanted o (yielded ops a.tmps) then _ else _)
  rw [if_pos (hg c names sl ob a w hsl hst)]
  exact .inl (r2 c a w hst K Q hK)
 ·obtain ⟨u,_,hu⟩:=List.mem_map.1 hts
  injection hu with h1 h2; subst h1; exact h2
theorem Jti {l:Nat} {q:List Step}:∀ (t:Ty) (x:t.den) (p:List Step),vget t x p≠.own l q:=by
 intro t x p
 fun_induction vget t x p <;> first | assumption | (intro h; cases h)
theorem Jqf {f:Nat→Nat} {l:Nat} {q:List Step}:∀ (s:Slot) (p:List Step),s.get p=.own l q→(s.ren f).get p=.own (f l) q:=by
 intro s p
 fun_induction Slot.get s p
 ·intro h; subst h; rfl
 ·intro h; exact absurd h (Jti _ _ _)
 ·rename_i ih; intro h; exact ih h
 ·rename_i ih; intro h; exact ih h
 ·intro h; cases h
theorem Jqe {l:Nat} {q:List Step}:∀ {p:List Step} (o:AObj),o.slot.get p=.own l q→l ∈ o.ids:=by
 have key:∀ (s:Slot) (p:List Step),s.get p=.own l q→l ∈ s.ids:=by
  intro s p
  fun_induction Slot.get s p
  ·intro h; subst h; simp [Slot.ids]
  ·intro h; exact absurd h (Jti _ _ _)
  ·rename_i ih; intro h; simp [Slot.ids,ih h]
  ·rename_i ih; intro h; simp [Slot.ids,ih h]
  ·intro h; cases h
 intro p o h
 cases o with
 | box t s lv=>exact key s p h
 | row e xs lv=>exact absurd h (by intro h; have:=key _ _ h; simp [AObj.slot,Slot.ids] at this)
 | map k v es lv=>exact absurd h (by intro h; have:=key _ _ h; simp [AObj.slot,Slot.ids] at this)
 | dead=>exact absurd h (by intro h; have:=key _ _ h; simp [AObj.slot,Slot.ids] at this)
theorem AObj.lay_ren (f:Nat→Nat) (o:AObj):(o.ren f).lay=o.lay:=by cases o <;> rfl
theorem AObj.slot_ren (f:Nat→Nat) (o:AObj):(o.ren f).slot=o.slot.ren f:=by cases o <;> rfl
theorem K4f (hT:J78 P T) {ops:Array Oper} {n m i t ty l l2:Nat} {p q:List Step} {y:Ty} {ss:List (Nat×Slot)} {h:List AObj} {its:List It} {o:Oper} {rd ks:List Nat} (hio:ops[i]?=some o) (hok:Jcf ss h ks rd o n=true) (hop:o.op=.load ty (.tmp t)) (ht:t ∈ rd) (hlk:look ss t=.ptr l p) (hy:T.ty ty=some y) (hc:(J6q h l).lay.at p=some y∧(J6q h l).isDead=false) (hget:(J6q h l).slot.get p=.own l2 q)
  (hg:∀ (c:Ctx) (names:List Nat) (sl:Nat→Slot) (ob:Nat→AObj) (a:Act) (w:World),(∀ t ∈ rd,sl t=look ss t)→NSR n m names sl ob c a w→Region.wanted o (yielded ops a.tmps)=true) :
  D1OK P ops n m i o ss h ⟨[],its,⟨Jh4 ss rd,[(l,J6q h l)],dstW o (.own l2 q),[],[]⟩,.own l2 q,h⟩:=by
 simp only [Jcf,Bool.and_eq_true,List.all_eq_true] at hok
 obtain ⟨⟨_,hrd⟩,hdst⟩:=hok
 have htn:t < n:=by simpa using hrd t ht
 have hrdO:∀ l' x,(l',x) ∈ [(l,J6q h l)]→J6q h l'=x:=by
  intro l' x hlx
  have:=List.mem_singleton.1 hlx
  injection this with e1 e2; subst e1; exact e2.symm
 refine ⟨fun Q=>?_,fun t s hts=>?_,hrdO,Jad o _ ss,fun l=>rfl,by simp,Nat.le_refl _⟩
 ·intro names sl ob hwf hS hO hfr
  have hsl:∀ t ∈ rd,sl t=look ss t:=fun t ht=>hS t _ (List.mem_map.2 ⟨t,ht,rfl⟩)
  obtain ⟨hln,hlo⟩:=hO l (J6q h l) (List.mem_cons_self ..)
  have hl2:l2 ∈ names:=by
   have hi:=hwf.ob l hln
   have:l2 ∈ (ob l).ids:=by rw [hlo]; exact Jqe _ hget
   exact hi l2 this
  have hw:OpW P o ⟨(List.range n).map fun t=>(t,(sl t).ren (posF names)),names.map fun l=>(ob l).ren (posF names),n,names.length⟩ ((Slot.own l2 q).ren (posF names)) (names.map fun l=>(ob l).ren (posF names)):=by
   refine (Jkf (P:=P) hT (o:=o) (st:=⟨(List.range n).map fun t=>(t,(sl t).ren (posF names)),names.map fun l=>(ob l).ren (posF names),n,names.length⟩) (x:=.tmp t) hop ?_).w
   have e:opnd ((List.range n).map fun t=>(t,(sl t).ren (posF names))) (.tmp t)=.ptr (posF names l) p:=by
    show look _ t=_
    rw [Jbz,if_pos (by simpa using htn),hsl t ht,hlk]; rfl
   have eo:J6q (names.map fun l=>(ob l).ren (posF names)) (posF names l)=(J6q h l).ren (posF names):=by
    unfold J6q
    rw [List.getD_eq_getElem?_getD,List.getElem?_map,J7c hln]
    show (ob l).ren _=_
    rw [hlo]; rfl
   show Ji9 T (names.map fun l=>(ob l).ren (posF names)) ty (opnd _ (.tmp t))=_
   rw [e]
   unfold Ji9
   rw [hy]
   dsimp only
   rw [eo,AObj.lay_ren,AObj.isDead_ren,if_pos hc,AObj.slot_ren,Jqf _ _ hget]
   rfl
  obtain ⟨r1,r2⟩:=Jh8 (m:=m) (sl:=sl) (ob:=ob) (nw:=[]) hwf List.nodup_nil (fun l hl=>by simp at hl) hwf.once (fun l hl=>hl) (fun l hl i hi=>hwf.ob l hl i hi) hw
   (fun t=>by
    rw [Jbz]
    by_cases ht:t ∈ List.range n
    ·rw [if_pos ht]
     exact .inr ⟨List.mem_range.1 ht,rfl,fun i hi=>hwf.sl t i hi⟩
    ·rw [if_neg ht]; exact .inl rfl) (by simp) (fun i hi=>by
     have:i=posF names l2:=by simpa [Slot.ren,Slot.ids] using hi
     subst this
     rw [List.length_map]; exact Jc3 hl2) (fun x hx i hi=>by
     obtain ⟨l,hl,rfl⟩:=List.mem_map.1 hx
     rw [AObj.ids_ren] at hi
     obtain ⟨j,hj,rfl⟩:=List.mem_map.1 hi
     rw [List.length_map]; exact Jc3 (hwf.ob l hl j hj)) (Jcp hdst)
  have es:((Slot.own l2 q).ren (posF names)).ren (J7f names [])=.own l2 q:=by
   show Slot.own (J7f names [] (posF names l2)) q=_
   unfold J7f
   rw [List.append_nil,List.getD_eq_getElem?_getD,J7c hl2]; rfl
  have e:wr ob (zipN (names++[]) ((names.map fun l=>(ob l).ren (posF names)).map (AObj.ren (J7f names []))))=wr ob []:=by
   funext x
   show _=ob x
   by_cases hx:x ∈ names
   ·have hget:=J7c hx
    have h2:((names.map fun l=>(ob l).ren (posF names)).map (AObj.ren (J7f names [])))[posF names x]?=some (((ob x).ren (posF names)).ren (J7f names [])):=by
     rw [List.getElem?_map,List.getElem?_map,hget]; rfl
    rw [Jjy (by simpa using hwf.once) (by simpa using hget) h2,AObj.ren_ren]
    rw [AObj.ren_congr (g:=fun y=>y) _ (fun i hi=>?_),AObj.ren_id]
    unfold J7f
    rw [List.append_nil,List.getD_eq_getElem?_getD,J7c (hwf.ob x hx i hi)]; rfl
   ·exact Jap fun hk=>hx (by simpa using Jau hk)
  rw [es,e] at r1 r2
  refine ⟨r1,fun c a w hst K hK=>?_⟩
  unfold wpOp
  rw [hio]
  show (if Region.wanted o (yielded ops a.tmps) then _ else _)
  rw [if_pos (hg c names sl ob a w hsl hst)]
  exact .inl (r2 c a w hst K Q hK)
 ·obtain ⟨u,_,hu⟩:=List.mem_map.1 hts
  injection hu with h1 h2; subst h1; exact h2
theorem K4e (hT:J78 P T) {ops:Array Oper} {n m i t ty k l:Nat} {p:List Step} {z:Slot} {ss:List (Nat×Slot)} {h:List AObj} {its:List It} {o:Oper} {rd ks:List Nat} (hio:ops[i]?=some o) (hok:Jcf ss h ks rd o n=true) (hop:o.op=.fieldAddr ty (.tmp t) k) (ht:t ∈ rd) (hlk:look ss t=.ptr l p) (hz:J7l T h ty (.ptr l p) k=some z)
  (hg:∀ (c:Ctx) (names:List Nat) (sl:Nat→Slot) (ob:Nat→AObj) (a:Act) (w:World),(∀ t ∈ rd,sl t=look ss t)→NSR n m names sl ob c a w→Region.wanted o (yielded ops a.tmps)=true) :
  D1OK P ops n m i o ss h ⟨[],its,⟨Jh4 ss rd,[(l,J6q h l)],dstW o (.ptr l (p++[.fld k])),[],[]⟩,.ptr l (p++[.fld k]),h⟩:=by
 simp only [Jcf,Bool.and_eq_true,List.all_eq_true] at hok
 obtain ⟨⟨_,hrd⟩,hdst⟩:=hok
 have htn:t < n:=by simpa using hrd t ht
 have hrdO:∀ l' x,(l',x) ∈ [(l,J6q h l)]→J6q h l'=x:=by
  intro l' x hlx
  have:=List.mem_singleton.1 hlx
  injection this with e1 e2; subst e1; exact e2.symm
 refine ⟨fun Q=>?_,fun t s hts=>?_,hrdO,Jad o _ ss,fun l=>rfl,by simp,Nat.le_refl _⟩
 ·intro names sl ob hwf hS hO hfr
  have hsl:∀ t ∈ rd,sl t=look ss t:=fun t ht=>hS t _ (List.mem_map.2 ⟨t,ht,rfl⟩)
  obtain ⟨hln,hlo⟩:=hO l (J6q h l) (List.mem_cons_self ..)
  have hw:OpW P o ⟨(List.range n).map fun t=>(t,(sl t).ren (posF names)),names.map fun l=>(ob l).ren (posF names),n,names.length⟩ ((Slot.ptr l (p++[.fld k])).ren (posF names)) (names.map fun l=>(ob l).ren (posF names)):=by
   refine (Jb2 (P:=P) hT (o:=o) (st:=⟨(List.range n).map fun t=>(t,(sl t).ren (posF names)),names.map fun l=>(ob l).ren (posF names),n,names.length⟩) (x:=.tmp t) hop ?_).w
   have e:opnd ((List.range n).map fun t=>(t,(sl t).ren (posF names))) (.tmp t)=.ptr (posF names l) p:=by
    show look _ t=_
    rw [Jbz,if_pos (by simpa using htn),hsl t ht,hlk]; rfl
   have eo:J6q (names.map fun l=>(ob l).ren (posF names)) (posF names l)=(J6q h l).ren (posF names):=by
    unfold J6q
    rw [List.getD_eq_getElem?_getD,List.getElem?_map,J7c hln]
    show (ob l).ren _=_
    rw [hlo]; rfl
   show J7l T (names.map fun l=>(ob l).ren (posF names)) ty (opnd _ (.tmp t)) k=_
   rw [e]
   exact Ji8 hz (by rw [eo,AObj.lay_ren]) (by rw [eo,AObj.isDead_ren])
  obtain ⟨r1,r2⟩:=Jh8 (m:=m) (sl:=sl) (ob:=ob) (nw:=[]) hwf List.nodup_nil (fun l hl=>by simp at hl) hwf.once (fun l hl=>hl) (fun l hl i hi=>hwf.ob l hl i hi) hw
   (fun t=>by
    rw [Jbz]
    by_cases ht:t ∈ List.range n
    ·rw [if_pos ht]
     exact .inr ⟨List.mem_range.1 ht,rfl,fun i hi=>hwf.sl t i hi⟩
    ·rw [if_neg ht]; exact .inl rfl) (by simp) (fun i hi=>by
     have:i=posF names l:=by simpa [Slot.ren,Slot.ids] using hi
     subst this
     rw [List.length_map]; exact Jc3 hln) (fun x hx i hi=>by
     obtain ⟨l,hl,rfl⟩:=List.mem_map.1 hx
     rw [AObj.ids_ren] at hi
     obtain ⟨j,hj,rfl⟩:=List.mem_map.1 hi
     rw [List.length_map]; exact Jc3 (hwf.ob l hl j hj)) (Jcp hdst)
  have es:((Slot.ptr l (p++[.fld k])).ren (posF names)).ren (J7f names [])=.ptr l (p++[.fld k]):=by
   show Slot.ptr (J7f names [] (posF names l)) (p++[.fld k])=_
   unfold J7f
   rw [List.append_nil,List.getD_eq_getElem?_getD,J7c hln]; rfl
  have e:wr ob (zipN (names++[]) ((names.map fun l=>(ob l).ren (posF names)).map (AObj.ren (J7f names []))))=wr ob []:=by
   funext x
   show _=ob x
   by_cases hx:x ∈ names
   ·have hget:=J7c hx
    have h2:((names.map fun l=>(ob l).ren (posF names)).map (AObj.ren (J7f names [])))[posF names x]?=some (((ob x).ren (posF names)).ren (J7f names [])):=by
     rw [List.getElem?_map,List.getElem?_map,hget]; rfl
    rw [Jjy (by simpa using hwf.once) (by simpa using hget) h2,AObj.ren_ren]
    rw [AObj.ren_congr (g:=fun y=>y) _ (fun i hi=>?_),AObj.ren_id]
    unfold J7f
    rw [List.append_nil,List.getD_eq_getElem?_getD,J7c (hwf.ob x hx i hi)]; rfl
   ·exact Jap fun hk=>hx (by simpa using Jau hk)
  rw [es,e] at r1 r2
  refine ⟨r1,fun c a w hst K hK=>?_⟩
  unfold wpOp
  rw [hio]
  show (if Region.wanted o (yielded ops a.tmps) then _ else _)
  rw [if_pos (hg c names sl ob a w hsl hst)]
  exact .inl (r2 c a w hst K Q hK)
 ·obtain ⟨u,_,hu⟩:=List.mem_map.1 hts
  injection hu with h1 h2; subst h1; exact h2
theorem Jyn (hT:J78 P T) {E:List Nat} (hE:J83 P T E=true) {ops:Array Oper} {n m i:Nat} {ss:List (Nat×Slot)} {h:List AObj} {its:List It} {o:Oper} {rd ks:List Nat} {d:D1}
  (hio:ops[i]?=some o) (hok:Jcf ss h ks rd o n=true) (hr:runD P T E ss h its o rd ks=some d) (hps:AllP d.ps)
  (hg:∀ (c:Ctx) (names:List Nat) (sl:Nat→Slot) (ob:Nat→AObj) (a:Act) (w:World),(∀ t ∈ rd,sl t=look ss t)→NSR n m names sl ob c a w→Region.wanted o (yielded ops a.tmps)=true) :
  D1OK P ops n m i o ss h d:=by
 unfold runD at hr
 split at hr
 ·rename_i s hm
  injection hr with hr; subst hr
  obtain ⟨t,h1,h2,rfl⟩:=Jqp hm
  exact K4g hio hok h1 h2 hg
 ·split at hr
  ·rename_i l s hm
   injection hr with hr; subst hr
   obtain ⟨ty,t,p,y,l2,q,h1,h2,h3,h4,h5,h6,rfl⟩:=Jon hm
   exact K4f hT hio hok h1 h2 h3 h4 h5 h6 hg
  ·split at hr
   ·rename_i l s hm
    injection hr with hr; subst hr
    obtain ⟨ty,t,k,p,h1,h2,h3,⟨z,h4⟩,rfl⟩:=Jm3 hm
    exact K4e hT hio hok h1 h2 h3 h4 hg
   ·exact K0s hT hE hio hok hr hps hg
theorem Jkn {n m:Nat} {names:List Nat} {sl:Nat→Slot} {ob:Nat→AObj} {c:Ctx} {a:Act} {w:World} (h:NSR n m names sl ob c a w) {ops:Array Oper} {j d:Nat} {oj:Oper} {x:Bool}
  (hj:ops[j]?=some oj) (hd:oj.dst=some d) (hdn:d < n) (hs:sl d=.v .bool x):yielded ops a.tmps j=some x:=by
 obtain ⟨G,hG⟩:=h
 refine Jgn hG hj hd ?_
 rw [J84,if_pos hdn,hs]; rfl
theorem Jsb {ops:Array Oper} {n m i d:Nat} {ss:List (Nat×Slot)} {h:List AObj} {o:Oper} (hio:ops[i]?=some o) (hdst:dstB o n=true) {ps:List Prop} {its:List It}
  (hno:∀ (c:Ctx) (names:List Nat) (sl:Nat→Slot) (ob:Nat→AObj) (a:Act) (w:World),sl d=look ss d→NSR n m names sl ob c a w→Region.wanted o (yielded ops a.tmps)=false) :
  D1OK P ops n m i o ss h ⟨ps,its,⟨[(d,look ss d)],[],dstW o .tnil,[],[]⟩,.tnil,h⟩:=by
 refine ⟨fun Q=>?_,fun t s hts=>?_,fun l x hlx=>by simp at hlx,Jad o _ ss,fun l=>rfl,by simp,Nat.le_refl _⟩
 ·intro names sl ob hwf hS hO hfr
  simp only [List.append_nil]
  have hs:=hS d (look ss d) (List.mem_cons_self ..)
  refine ⟨⟨hwf.once,fun t i hi=>?_,hwf.ob⟩,fun c a w hst K hK=>?_⟩
  ·rw [Jpu] at hi
   split at hi
   ·simp [Slot.ids] at hi
   ·exact hwf.sl t i hi
  ·unfold wpOp
   rw [hio]
   show (if Region.wanted o (yielded ops a.tmps) then _ else _)
   rw [if_neg (by rw [hno c names sl ob a w hs hst]; simp)]
   refine hK _ _ ?_
   obtain ⟨G,hG⟩:=hst
   have hf:SRG c G ⟨match o.dst with | some d=>(d,Slot.tnil)::(stOf names sl ob n m).slots | none=>(stOf names sl ob n m).slots,(stOf names sl ob n m).heap,n,m⟩ (a.put o.dst undef) w:=by
    cases hd:o.dst with
    | none=>exact hG
    | some d2=>exact hG.put (Jcp hdst d2 hd) rfl
   refine ⟨G,hf.toHRG,fun t=>?_,hf.ent,hf.em,hf.sz,hf.nodef⟩
   have ht:=hf.slots t
   have e:look (stOf names (wr sl (dstW o .tnil)) (wr ob []) n m).slots t=.undef∨
     look (stOf names (wr sl (dstW o .tnil)) (wr ob []) n m).slots t=look (match o.dst with | some d=>(d,Slot.tnil)::(stOf names sl ob n m).slots | none=>(stOf names sl ob n m).slots) t:=by
    rw [J84,Jpu]
    by_cases htn:t < n
    ·rw [if_pos htn]
     cases hd2:o.dst with
     | none=>right; simp [J84,htn]
     | some d2=>
      simp only [Option.some.injEq,J7s]
      by_cases h2:d2=t
      ·right; simp [h2,Slot.ren]
      ·right; simp [h2,J84,htn]
    ·left; rw [if_neg htn]
   rcases e with e | e
   ·rw [e]; trivial
   ·rw [e]; exact ht
 ·simp at hts; obtain ⟨rfl,rfl⟩:=hts; rfl
theorem K2w (hT:J78 P T) {E:List Nat} (hE:J83 P T E=true) {ops:Array Oper} {n m i:Nat} {ss:List (Nat×Slot)} {h:List AObj} {its:List It} {o:Oper} {d:D1}
  (hio:ops[i]?=some o) (hr:evD1 P T E ops n ss h its o=some d) (hps:AllP d.ps):D1OK P ops n m i o ss h d:=by
 unfold evD1 at hr
 split at hr
 ·rename_i hgn
  split at hr
  ·rename_i hok
   exact Jyn hT hE hio hok hr hps fun c names sl ob a w _ _=>by simp [Region.wanted,hgn]
  ·cases hr
 ·rename_i j want hgs
  split at hr
  ·rename_i dd hgone
   split at hr
   ·rename_i hdst hdn
    injection hr with hr; subst hr
    obtain ⟨oj,hj,hdd,hlk⟩:=Ju6 hgone
    have hdn:dd < n:=by simpa using hdn
    exact Jsb hio hdst fun c names sl ob a w hs hst=>by
     rw [hlk] at hs
     obtain ⟨G,hG⟩:=hst
     have hy:=Jkm hG hj hdd (by rw [J84,if_pos hdn,hs]; rfl)
     simp [Region.wanted,hgs,hy]
   ·cases hr
  split at hr
  ·rename_i b its0
   split at hr
   ·rename_i oj hj
    split at hr
    ·rename_i dd hdd
     split at hr
     ·rename_i x hx
      split at hr
      ·rename_i hbw
       have hbw:=of_decide_eq_true hbw
       split at hr
       ·rename_i hok
        split at hr
        ·rename_i r hrr
         injection hr with hr; subst hr
         obtain ⟨hxb,hps⟩:=hps
         have hdn:dd < n:=by
          simp only [Jcf,Bool.and_eq_true,List.all_eq_true] at hok
          simpa using hok.1.2 dd (List.mem_cons_self ..)
         have:=Jyn (m:=m) hT hE hio hok hrr hps fun c names sl ob a w hsl hst=>by
          have hs:=hsl dd (List.mem_cons_self ..)
          rw [hx] at hs
          have hy:=Jkn hst hj hdd hdn hs
          subst hxb; subst hbw
          simp [Region.wanted,hgs,hy]
         exact ⟨this.eff,this.rdS,this.rdO,this.sl,this.ob,this.nw⟩
        ·cases hr
       ·cases hr
      ·rename_i hbw
       have hbw:=of_decide_eq_false hbw
       split at hr
       ·rename_i hdst hdn
        injection hr with hr; subst hr
        obtain ⟨hxb,_⟩:=hps
        have hdn:dd < n:=by simpa using hdn
        exact Jsb hio hdst fun c names sl ob a w hs hst=>by
         rw [hx] at hs
         have hy:=Jkn hst hj hdd hdn hs
         subst hxb; simp [Region.wanted,hgs,hy,hbw]
       ·cases hr
     ·cases hr
    ·cases hr
   ·cases hr
  ·cases hr
theorem K1n (hT:J78 P T) {E:List Nat} (hE:J83 P T E=true) {ops:Array Oper} {n m:Nat}:∀ (l:List Oper) (i0:Nat) (its its':List It) (ss ss':List (Nat×Slot)) (h h':List AObj)
  (ps:List Prop) (effs:List Eff),(∀ k o,l[k]?=some o→ops[i0+k]?=some o)→evD P T E ops n l its ss h=some (ps,its',effs,ss',h')→AllP ps→
  effs.length=l.length∧(∀ k e,effs[k]?=some e→∀ Q,Jzk P ops n m Q (i0+k) e)∧Jzj effs (look ss) (J6q h)∧
  (∀ j0 t,look ss' t=ov (fun _=>true) (effs.map Eff.wS) j0 (look ss) t)∧(∀ j0 x,J6q h' x=ov (fun _=>true) (effs.map Eff.wO) j0 (J6q h) x)∧
  h.length≤h'.length∧∀ (x:Nat),(∃ (k:Nat) (e:Eff),effs[k]?=some e∧x ∈ e.nw)↔h.length≤x∧x < h'.length
 | [],i0,its,its',ss,ss',h,h',ps,effs,_,he,_=>by
  simp only [evD] at he
  injection he with he; injection he with e1 e2; injection e2 with e2 e3; injection e3 with e3 e4; injection e4 with e4 e5
  subst e3; subst e4; subst e5
  refine ⟨rfl,by simp,trivial,fun _ _=>rfl,fun _ _=>rfl,Nat.le_refl _,fun x=>⟨fun ⟨k,e,h,_⟩=>by simp at h,fun h=>by omega⟩⟩
 | o::r,i0,its,its',ss,ss',h,h',ps,effs,hl,he,hps=>by
  unfold evD at he
  split at he
  ·rename_i d hd
   split at he
   ·rename_i qs its2 effs2 ss2 h2 hr
    injection he with he; injection he with e1 e2; injection e2 with e2 e3; injection e3 with e3 e4; injection e4 with e4 e5
    subst e1; subst e3; subst e4; subst e5
    obtain ⟨p1,p2⟩:=AllP.append hps
    have h1:=K2w (m:=m) hT hE (by simpa using hl 0 o rfl) hd p1
    obtain ⟨q1,q2,q3,q4,q5,q6,q7⟩:=K1n hT hE (m:=m) r (i0+1) _ _ _ _ _ _ _ _ (fun k o' hk=>by
     have:=hl (k+1) o' (by simpa using hk)
     rwa [show i0+(k+1)=i0+1+k by omega] at this) hr p2
    have eS:look (putD o d.s ss)=wr (look ss) d.e.wS:=funext h1.sl
    have eO:J6q d.h=wr (J6q h) d.e.wO:=funext h1.ob
    rw [eS] at q3 q4
    rw [eO] at q3 q5
    obtain ⟨n1,n2⟩:=h1.nw
    refine ⟨by simp [q1],fun k e hk Q=>?_,⟨h1.rdS,h1.rdO,q3⟩,fun j0 t=>?_,fun j0 x=>?_,by omega,fun x=>?_⟩
    ·cases k with
     | zero=>simp at hk; subst hk; rw [Nat.add_zero]; exact h1.eff Q
     | succ k=>
      have:=q2 k e (by simpa using hk) Q
      rwa [show i0+(k+1)=i0+1+k by omega]
    ·simp only [List.map_cons,ov,cond_true]; exact q4 (j0+1) t
    ·simp only [List.map_cons,ov,cond_true]; exact q5 (j0+1) x
    ·constructor
     ·rintro ⟨k,e,hk,hx⟩
      cases k with
      | zero=>
       simp at hk; subst hk
       rw [n1,List.mem_range'] at hx
       obtain ⟨y,hy,rfl⟩:=hx; omega
      | succ k=>
       have:=(q7 x).1 ⟨k,e,by simpa using hk,hx⟩
       omega
     ·rintro ⟨hx1,hx2⟩
      rcases Nat.lt_or_ge x d.h.length with hlt | hge
      ·refine ⟨0,d.e,rfl,?_⟩
       rw [n1,List.mem_range']
       exact ⟨x - h.length,by omega,by omega⟩
      ·obtain ⟨k,e,hk,hx⟩:=(q7 x).2 ⟨hge,hx2⟩
       exact ⟨k+1,e,by simpa using hk,hx⟩
   ·cases he
  ·cases he
end Go.Ax

namespace Go.Ax
set_option linter.unusedVariables false
set_option linter.unusedSimpArgs false
variable {P : Program} {T : Tab}
def wfB (st:St):Bool:=
 st.slots.all (fun x=>Nat.blt x.1 st.n && x.2.ids.all fun i=>Nat.blt i st.heap.length) && st.heap.all (fun x=>(AObj.ids x).all fun i=>Nat.blt i st.heap.length)
theorem Jsd {n N:Nat}:∀ {ss:List (Nat×Slot)},ss.all (fun x=>Nat.blt x.1 n && x.2.ids.all fun i=>Nat.blt i N)=true→∀ t,(∀ i ∈ (look ss t).ids,i < N)∧(n≤t→look ss t=.undef)
 | [],_,t=>⟨fun i hi=>by simp [look,Slot.ids] at hi,fun _=>rfl⟩
 | (k,s)::r,h,t=>by
  simp only [List.all_cons,Bool.and_eq_true,List.all_eq_true] at h
  have hr:=Jsd (ss:=r) (by rw [List.all_eq_true]; intro x hx; have:=h.2 x hx; rw [Bool.and_eq_true,List.all_eq_true]; exact this) t
  rw [J7s]
  by_cases e:k=t
  ·rw [if_pos e]
   refine ⟨fun i hi=>by simpa using h.1.2 i hi,fun hn=>?_⟩
   have:=h.1.1
   simp at this; omega
  ·rw [if_neg e]; exact hr
theorem Jdj {n x:Nat} (h:x < n):posF (List.range n) x=x:=J9h List.nodup_range (List.getElem?_range h)
theorem K12 {st:St} {c:Ctx} {a:Act} {w:World} (hwf:wfB st=true) (hs:SR c st a w) :
  WF (List.range st.heap.length) (look st.slots) (J6q st.heap)∧NSR st.n st.m (List.range st.heap.length) (look st.slots) (J6q st.heap) c a w:=by
 simp only [wfB,Bool.and_eq_true] at hwf
 obtain ⟨h1,h2⟩:=hwf
 have hlk:=Jsd h1
 have hob:∀ l,l < st.heap.length→∀ i ∈ (J6q st.heap l).ids,i < st.heap.length:=by
  intro l hl i hi
  rw [List.all_eq_true] at h2
  have hget:st.heap[l]?=some (J6q st.heap l):=by
   unfold J6q; rw [List.getD_eq_getElem?_getD,List.getElem?_eq_getElem hl]; rfl
  have:=h2 _ (List.mem_of_getElem? hget)
  rw [List.all_eq_true] at this
  simpa using this i hi
 refine ⟨⟨List.nodup_range,fun t i hi=>List.mem_range.2 ((hlk t).1 i hi),fun l hl i hi=>List.mem_range.2 (hob l (List.mem_range.1 hl) i hi)⟩,?_⟩
 obtain ⟨G,hG⟩:=hs
 have hheap:(stOf (List.range st.heap.length) (look st.slots) (J6q st.heap) st.n st.m).heap=st.heap:=by
  apply List.ext_getElem?
  intro k
  rw [Jbx]
  rcases Nat.lt_or_ge k st.heap.length with hk | hk
  ·rw [List.getElem?_range hk]
   simp only [Option.map_some]
   have hget:st.heap[k]?=some (J6q st.heap k):=by
    unfold J6q; rw [List.getD_eq_getElem?_getD,List.getElem?_eq_getElem hk]; rfl
   rw [hget,AObj.ren_congr (g:=fun y=>y) _ (fun i hi=>Jdj (hob k hk i hi)),AObj.ren_id]
  ·rw [List.getElem?_eq_none (by simpa using hk),List.getElem?_eq_none hk]; rfl
 refine ⟨G,?_⟩
 refine ⟨by rw [hheap]; exact hG.toHRG,fun t=>?_,hG.ent,hG.em,hG.sz,hG.nodef⟩
 rw [hheap,J84]
 by_cases ht:t < st.n
 ·rw [if_pos ht,Slot.ren_congr (g:=fun y=>y) _ (fun i hi=>Jdj ((hlk t).1 i hi)),Slot.ren_id]
  exact hG.slots t
 ·rw [if_neg ht]; trivial
theorem Jpm:∀ {ks:List Nat} {i n:Nat},(∀ k,k < n→ks[k]?=some (i+k))→Jao ks i n=true
 | ks,i,0,_=>by cases ks <;> rfl
 | [],i,n+1,h=>by have:=h 0 (by omega); simp at this
 | k::r,i,n+1,h=>by
  have h0:=h 0 (by omega)
  simp at h0; subst h0
  simp only [Jao,Bool.and_eq_true]
  refine ⟨by simp,Jpm fun k hk=>?_⟩
  have:=h (k+1) (by omega)
  rw [List.getElem?_cons_succ] at this
  rw [this]; congr 1; omega
theorem Jos (ks:List Nat) (ss:List (Nat×Slot)):∀ (is:List Nat) (t:Nat),look (J8b ks ss is) t=if t ∈ is then (look ss t).ren (posF ks) else .undef
 | [],t=>rfl
 | i::r,t=>by
  rw [J8b,J7s]
  by_cases h:i=t
  ·subst h; simp
  ·rw [if_neg h,Jos ks ss r t]; simp [Ne.symm h]
theorem Ju5 {n m M N0:Nat} {names:List Nat} {sl:Nat→Slot} {ob:Nat→AObj} {c:Ctx} {a:Act} {w:World} (hwf:WF names sl ob) (hm:∀ x,x ∈ names↔x < M) (hpre:∀ k,k < N0→names[k]?=some k)
  (hmN:m≤N0) (h:NSR n m names sl ob c a w) {ss:List (Nat×Slot)} {hp:List AObj} (hs:∀ t,look ss t=sl t) (ho:∀ x,J6q hp x=ob x) (hl:hp.length=M) (hn:∀ t,n≤t→sl t=.undef) :
  SR c ⟨ss,hp,n,m⟩ a w:=by
 have hks:(List.range M).Nodup:=List.nodup_range
 have hk:∀ l ∈ List.range M,l ∈ names:=fun l hl=>(hm l).2 (List.mem_range.1 hl)
 have hi:∀ l ∈ List.range M,∀ i ∈ (ob l).ids,i ∈ List.range M:=fun l hl i hi=>List.mem_range.2 ((hm i).1 (hwf.ob l (hk l hl) i hi))
 have hsid:∀ t,∀ i ∈ (sl t).ids,i ∈ List.range M:=fun t i hi=>List.mem_range.2 ((hm i).1 (hwf.sl t i hi))
 have back:=fun {x:Nat} (hx:x ∈ List.range M)=>Jja (names:=names) hks hk hx
 have hsel:=Weak.sel (st:=stOf names sl ob n m) (is:=List.range n) (ks:=(List.range M).map (posF names)) (Jip hks hk hi)
  (Jpm fun k hkm=>by
   have hkm:k < m:=hkm
   have h1:=hpre k (by omega)
   have hkM:k < M:=(hm k).1 (List.mem_of_getElem? h1)
   rw [List.getElem?_map,List.getElem?_range hkM,Option.map_some,J9h hwf.once h1,Nat.zero_add])
  (by
   rw [Kt,List.all_eq_true]
   intro t ht
   rw [J84,if_pos (List.mem_range.1 ht),List.all_eq_true]
   intro i hi'
   rw [Slot.ids_ren] at hi'
   obtain ⟨j,hj,rfl⟩:=List.mem_map.1 hi'
   exact J8y (List.mem_map.2 ⟨j,hsid t j hj,rfl⟩))
 obtain ⟨G,hG⟩:=hsel c a w h
 have hheap:lent (stOf names sl ob n m).heap ((List.range M).map (posF names))=hp:=by
  rw [Jks hks hk hi]
  apply List.ext_getElem?
  intro k
  rw [List.getElem?_map]
  rcases Nat.lt_or_ge k M with hkM | hkM
  ·rw [List.getElem?_range hkM,Option.map_some]
   have hget:hp[k]?=some (J6q hp k):=by
    unfold J6q; rw [List.getD_eq_getElem?_getD,List.getElem?_eq_getElem (by omega)]; rfl
   rw [hget,ho,AObj.ren_congr (g:=fun y=>y) _ (fun i hi'=>Jdj (List.mem_range.1 (hi k (List.mem_range.2 hkM) i hi'))),AObj.ren_id]
  ·rw [List.getElem?_eq_none (by simpa using hkM),List.getElem?_eq_none (by omega)]; rfl
 refine ⟨G,?_⟩
 have hh:=hG.toHRG
 rw [hheap] at hh
 refine ⟨hh,fun t=>?_,hG.ent,hG.em,hG.sz,hG.nodef⟩
 have ht:=hG.slots t
 have hlk:look (J8b ((List.range M).map (posF names)) (stOf names sl ob n m).slots (List.range n)) t=look ss t:=by
  rw [Jos,hs]
  by_cases htn:t < n
  ·rw [if_pos (List.mem_range.2 htn),J84,if_pos htn,Slot.ren_ren]
   rw [Slot.ren_congr (g:=fun y=>y) _ (fun i hi'=>?_),Slot.ren_id]
   rw [back (hsid t i hi')]; exact Jdj (List.mem_range.1 (hsid t i hi'))
  ·rw [if_neg (by simpa using htn),hn t (by omega)]
 have e:look (⟨J8b ((List.range M).map (posF names)) (stOf names sl ob n m).slots (List.range n),lent (stOf names sl ob n m).heap ((List.range M).map (posF names)),n,m⟩:St).slots t=look ss t:=hlk
 have ht':TRel G w (okB c G (lent (stOf names sl ob n m).heap ((List.range M).map (posF names))) w) (look (J8b ((List.range M).map (posF names)) (stOf names sl ob n m).slots (List.range n)) t) (a.tmps.getD t undef):=ht
 rw [hheap,hlk] at ht'
 exact ht'
def Jwg (P:Program) (T:Tab) (E:List Nat) (ops:Array Oper) (PT:List (List Nat)) (its:List It) (st:St):Option (List Prop×List It×St):=
 match wfB st with
 | true=>match evD P T E ops st.n ops.toList its st.slots st.heap with
  | some (ps,its',effs,ss,h)=>match Jwd ops PT st.heap.length effs,ss.all (fun x=>Nat.blt x.1 st.n) with
   | true,true=>some (ps,its',⟨ss,h,st.n,st.m⟩)
   | _,_=>none
  | none=>none
 | false=>none
theorem Jxg {n:Nat}:∀ {ss:List (Nat×Slot)},ss.all (fun x=>Nat.blt x.1 n)=true→∀ t,n≤t→look ss t=.undef
 | [],_,_,_=>rfl
 | (k,s)::r,h,t,hn=>by
  simp only [List.all_cons,Bool.and_eq_true] at h
  have:k < n:=by simpa using h.1
  rw [J7s,if_neg (by omega)]
  exact Jxg h.2 t hn
theorem Jwh (hT:J78 P T) {E:List Nat} (hE:J83 P T E=true) (hM:P.follows .mixedOrders=true) {id:Nat} {ops:Array Oper} {PT:List (List Nat)} {its its':List It} {st st':St} {ps:List Prop}
  (he:Jwg P T E ops PT its st=some (ps,its',st')) (hps:AllP ps):J6i P (.region id ops true) st .normal st':=by
 unfold Jwg at he
 split at he
 ·rename_i hwf
  split at he
  ·rename_i ps1 its1 effs ss h hev
   split at he
   ·rename_i hb hss
    injection he with he; injection he with e1 e2; injection e2 with e2 e3
    subst e1; subst e3
    intro c a w hs
    obtain ⟨q1,q2,q3,q4,q5,q6,q7⟩:=K1n (m:=st.m) hT hE ops.toList 0 its its1 st.slots ss st.heap h ps1 effs (fun k o hk=>by rw [Nat.zero_add,← Array.getElem?_toList]; exact hk) hev hps
    obtain ⟨hw0,hn0⟩:=K12 hwf hs
    have hmN:st.m≤st.heap.length:=by
     obtain ⟨G,hG⟩:=hs
     rw [← hG.em,← hG.len]
     rcases Nat.lt_or_ge G.length c.G0.length with hlt | hge
     ·have h1:c.G0[G.length]?=some (c.G0[G.length]):=List.getElem?_eq_getElem hlt
      have h2:=hG.ent _ _ h1
      rw [List.getElem?_eq_none (Nat.le_refl _)] at h2; cases h2
     ·exact hge
    refine wp_region_any hM ?_
    have hov:∀ {β:Type} (W:Eff→List (Nat×β)) (f:Nat→β),ov (inD (Array.replicate ops.size false)) (effs.map W) 0 f=f:=by
     intro β W f
     refine Jfa _ _ _ _ fun j hj=>?_
     simp only [inD,Array.getD_eq_getD_getElem?,Nat.zero_add]
     by_cases hlt:j < ops.size
     ·simp [Array.getElem?_replicate,hlt]
     ·simp [Array.getElem?_replicate,hlt]
    refine K5 (PT:=PT) (N0:=st.heap.length) (n:=st.n) (m:=st.m) (effs:=effs) (sl0:=look st.slots) (ob0:=J6q st.heap) (c:=c) hb q3
     (fun i e hie=>by have:=q2 i e hie (fun e a' w'=>e=.normal∧SR c ⟨ss,h,st.n,st.m⟩ a' w'); rwa [Nat.zero_add] at this) ?_ ops.size _ (List.range st.heap.length) a _ (by simp) ?_ ?_
    ·intro names a' w' hI
     refine ⟨rfl,?_⟩
     refine Ju5 (M:=h.length) (N0:=st.heap.length) hI.wf (fun x=>?_) hI.pre hmN hI.st (fun t=>q4 0 t) (fun x=>q5 0 x) rfl (fun t ht=>by rw [← q4 0 t]; exact Jxg hss t ht)
     rw [hI.nms x]
     constructor
     ·rintro (h1 | ⟨j,f,_,h2,h3⟩)
      ·omega
      ·exact ((q7 x).1 ⟨j,f,h2,h3⟩).2
     ·intro hx
      rcases Nat.lt_or_ge x st.heap.length with h1 | h1
      ·exact .inl h1
      ·obtain ⟨k,e,hk,hx'⟩:=(q7 x).2 ⟨h1,hx⟩
       exact .inr ⟨k,e,rfl,hk,hx'⟩
    ·simp [Array.toList_replicate,List.count_replicate]
    ·refine ⟨?_,fun l=>?_,fun k hk=>List.getElem?_range hk,?_,fun i o ho hD=>?_⟩
     ·rw [hov,hov]; exact hw0
     ·rw [List.mem_range]
      constructor
      ·exact .inl
      ·rintro (h1 | ⟨j,f,h1,_,_⟩)
       ·exact h1
       ·exfalso
        simp only [inD,Array.getD_eq_getD_getElem?] at h1
        by_cases hlt:j < ops.size
        ·simp [Array.getElem?_replicate,hlt] at h1
        ·simp [Array.getElem?_replicate,hlt] at h1
     ·rw [hov,hov]; exact hn0.drew
     ·exfalso
      simp only [inD,Array.getD_eq_getD_getElem?] at hD
      by_cases hlt:i < ops.size
      ·simp [Array.getElem?_replicate,hlt] at hD
      ·simp [Array.getElem?_replicate,hlt] at hD
   ·cases he
  ·cases he
 ·cases he
end Go.Ax
