/-
  Several queries of all kinds: each is answered as often as it was asked, at rising heights; none is late.
-/
import Derived.Test.YthhioanidhkdeaaGreatCTopManyLA
namespace Go.Ax.V
open Go.Ax
set_option linter.unusedVariables false
set_option linter.unusedSimpArgs false
section
variable {n : Nat} {p : Nat → Int} {f : Nat → Int}
theorem K2t (hp:PwOk p) (h1:1≤n) (hn:n≤4) (hf:0≤f 0∧f 0≤1000000000):Jr (f 0) () (J6n n) (J6t n) (J6m p n) ([],0,[],())=some (1,(),J6n n,J6t n,J6m p n,stR [] [[]],BL n p f [[]]):=by
 have hsm:=Jmv p n hn
 have e0:J8j ((1:Int),f 0,J9s [],List.replicate 32 (0:UInt8),setH (J6m p n),List.replicate 32 (0:UInt8),())=true:=by
  rw [Jc5]; show ((1:Int)≤1∧(1:Int)≤16)∧0≤f 0∧f 0≤1073741824; omega
 have hh:J8v ((1:Int),f 0,J9s [],setH (J6m p n),setH (J6m p n),List.replicate 32 (0:UInt8),()):=⟨J86 _,J8r _,J8r _,by simp⟩
 unfold Jr
 rw [Jhm _ (by simp),J6f,Jjr [] ⟨by simp,by simp⟩,J6f,J9k _ hsm,J6f,Jd1,J6f,e0]
 rw [show (!true)=false from rfl,J6r,J6f,Jfy p hn,J6f,J6f,Jai]
 show andThen (Jr_1 (n:Int) 0 () (J6n n) (J6t n) (J6m p n) ([],0,[],()) _ _ () [] (J6m p n) (J6m p n)) _=_
 rw [hcA n hn p _ hh (Int.le_refl 1) (show (1:Int)≤16 by omega),J6f,Jw0 [] (by simp),J6f,J6g (by simp),Jjq _ Jz4,J6f]
 show some _=some (1,(),J6n n,J6t n,J6m p n,stR [] [[]],blG n (rR [[]]) (fun _=>J6m p n) f 1)
 rfl
theorem K2u (hp:PwOk p) (h1:1≤n) (hn:n≤4) {R:List (List Pr)} (hR:1≤R.length∧R.length < 16) (hrows:∀ l ∈ R,RowB l) {now:List Pr} (hnow:RowB now) (hf:∀ j,j≤R.length→0≤f j∧f j≤1000000000) (hlt:f (R.length - 1) < f R.length) :
  Jd (f R.length) () (J6n n) (J6t n) (J6m p n) (stR now R) (BL n p f R)=some ((R.length:Int)+1,(),J6n n,J6t n,J6m p n,stR now (R++[now]),BL n p f R,BL n p f (R++[now])):=by
 obtain ⟨k,hk⟩:∃ k,R.length=k+1:=⟨R.length - 1,by omega⟩
 have hsm:=Jmv p n hn
 have hkv:=K47 hnow
 have hlen:=Jva n p f R
 have hs:=K29 hnow hrows (by omega)
 have hfk:=hf (k+1) (by omega)
 have hlast:lastB (BL n p f R)=gL n p f R k:=by
  unfold BL gL; rw [hk]; exact K00 _ _ _ _ _
 have e0:J8j (((k+2:Nat):Int),f (k+1),J9s now,List.replicate 32 (0:UInt8),setH (J6m p n),List.replicate 32 (0:UInt8),())=true:=by
  rw [Jc5]; show ((1:Int)≤((k+2:Nat):Int)∧((k+2:Nat):Int)≤16)∧0≤f (k+1)∧f (k+1)≤1073741824; omega
 have e1:w64 (((k+1:Nat):Int)+1)=((k+2:Nat):Int):=by rw [J6k (by omega) (by omega)]; omega
 have e2:w64 (((k+1:Nat):Int) - 1)=((k:Nat):Int):=by rw [J6k (by omega) (by omega)]; omega
 have e3:(BL n p f R).getD k zBlk=gL n p f R k:=BL_at n p f R (by omega)
 have hg:J8v (hL n p f R k):=Jo9 n _ f (K24 R k)
 have hh:J8v (((k+2:Nat):Int),f (k+1),J9s now,setH (J6m p n),setH (J6m p n),sha (72::Jcc (hL n p f R k)),()):=⟨J86 _,J8r _,J8r _,J86 _⟩
 have e5:Jcc (hL n p f R k)=Jfu (hL n p f R k):=by
  unfold Jcc hL
  rw [Jm8 (by omega) (hf k (by omega)).1 (by have:=(hf k (by omega)).2; omega),if_pos rfl]
 have ht:(hL n p f R k).2.1=f k:=hG_t _ _ _ _ _
 rw [hk] at hlt ⊢
 unfold Jd
 rw [Jhm _ (by show now.length≤_; have:=hkv.1; omega),J6f]
 show andThen (J0p now) _=_
 rw [Jjr _ hkv,J6f,J9k _ hsm,J6f,Jd1,J6f,hlen,hk,e1,e0]
 rw [show (!true)=false from rfl,J6r,J6j (by omega),e2,J6g ⟨by omega,by omega⟩,show (Int.toNat ((k:Nat):Int))=k from rfl]
 rw [show ((((0:Int),(0:Int),(List.replicate 32 (0:UInt8)),(List.replicate 32 (0:UInt8)),(List.replicate 32 (0:UInt8)),(List.replicate 32 (0:UInt8)),()),([]:List J7i),([]:List Val),([]:List Val),()):Block)=zBlk from rfl,e3]
 rw [show (gL n p f R k).1=hL n p f R k from rfl,show (gL n p f R k).2.2.2.1=J6m p n from rfl,ht,J6h (by simp only [Nat.add_sub_cancel] at hlt; omega)]
 rw [Jih _ hg,J6f,J9k _ hsm,J6f,Jfy p hn,J6f,J6f,Jai]
 show andThen (Jd_1 (J6m p n) (n:Int) 0 () (J6n n) (J6t n) (J6m p n) (stR now R) (BL n p f R) _ _ () [] (J6m p n) (J6m p n)) _=_
 rw [hcB n hn p _ hh (show (1:Int)≤((k+2:Nat):Int) by omega) (show ((k+2:Nat):Int)≤16 by omega),J6f,Jw0 _ (by rw [hlen]; omega),J6f,J6g (by rw [hlen]; simp; omega),Jjq _ hs,J6f,e5,Jv2 (by omega),hk]
 rw [K2f]
 unfold blkR hdR nowS
 rw [hlen,if_neg (by omega),if_neg (by omega),hlast,hk]
 rw [show (((k+1:Nat):Int)+1)=((k+2:Nat):Int) from by omega]
 rfl
theorem K1g (hn:n≤4) {R:List (List Pr)} (hR:R.length≤16) {j:Nat} (hj:j < R.length) (st:Stt):J15 ((j:Int)+1) () (J6n n) (J6t n) (J6m p n) st (BL n p f R)=some (gL n p f R j,true):=by
 have hlen:=Jva n p f R
 have e2:w64 ((j:Int)+1 - 1)=(j:Int):=by rw [J6k (by omega) (by omega)]; omega
 have hpre:preS (fun _=>J6m p n) j=J6m p n:=by unfold preS; split <;> rfl
 unfold J15
 rw [hlen,J6h (by omega),J6h (by omega),e2,J6g ⟨by omega,by omega⟩,show Int.toNat (j:Int)=j from rfl]
 rw [show ((((0:Int),(0:Int),(List.replicate 32 (0:UInt8)),(List.replicate 32 (0:UInt8)),(List.replicate 32 (0:UInt8)),(List.replicate 32 (0:UInt8)),()),([]:List J7i),([]:List Val),([]:List Val),()):Block)=zBlk from rfl,BL_at n p f R hj]
 rw [show (gL n p f R j).2.1=sgJ (hL n p f R j) (List.range n) from rfl,show (gL n p f R j).2.2.1=J6m p n from hpre,show (gL n p f R j).2.2.2.1=J6m p n from rfl]
 rw [show J2b (sgJ (hL n p f R j) (List.range n))=some (sgJ (hL n p f R j) (List.range n)) from by unfold J2b; rw [J6g (by rw [Jgh,List.length_range]; omega)],J6f,Jfy p hn,J6f,J6f]
 show some ((hL n p f R j,sgJ (hL n p f R j) (List.range n),J6m p n,J6m p n,()),true)=some ((hL n p f R j,sgJ (hL n p f R j) (List.range n),preS (fun _=>J6m p n) j,J6m p n,()),true)
 rw [hpre]
end
def Qm:Qry:=(2,[115,47],[115,48],1,3,())
theorem cmD (n:Nat) (hn:n≤4) (S:List Val) (h:Hdr) (nx:List Val) (hk:w64 ((0:Int)+1)=h.1) (h1:1≤h.1) (h2:h.1≤16) (N:List Pr) (W:List Val) (B:List Block) (R:Rows) :
  J6_2 0 (J6n n) (n:Int) 0 (J6n n,J6t n,J7v n,N,W,B,R,()) h () [] nx (Jjt h)=some (0,(J6n n,J6t n,J7v n,N,W,B,R,()),h,(),sgJ h (List.range n),nx):=by
 have e1:(J6n n).length=n:=J99 _ _
 have e2:(J6t n).length=n:=J99 _ _
 have e3:(J7v n).length=n:=J99 _ _
 unfold J6_2
 have:=J6s (step:=fun (t:Int×List J7i)=>J6_2_step 0 (J6n n) (n:Int) t.1 (J6n n,J6t n,J7v n,N,W,B,R,()) h () t.2 nx (Jjt h)) (fun i (_:Unit)=>((i:Int),sgJ h (List.range i))) (fun _ _=>()) (fun _=>(0,(J6n n,J6t n,J7v n,N,W,B,R,()),h,(),sgJ h (List.range n),nx)) n (fun _ _=>True) (fun i w hi _=>⟨?_,trivial⟩) (fun w _=>?_) n 0 () (by omega) trivial
 ·exact this
 ·show J6_2_step 0 (J6n n) (n:Int) (i:Int) (J6n n,J6t n,J7v n,N,W,B,R,()) h () (sgJ h (List.range i)) nx (Jjt h)=_
  unfold J6_2_step
  have g1:(J6n n).getD i (List.replicate 32 (0:UInt8))=Ja4 i:=J82 _ _ hi
  have g2:(J6t n).getD i []=J96 (Ja4 i):=J82 _ _ hi
  have g3:(J7v n).getD i []=nm i:=J82 _ _ hi
  dsimp only
  rw [J6j (by omega),J6g (by omega),J6g (by omega),J6g (by omega),Int.toNat_natCast,g1,g2,g3,hk,rBy_eq _ (by rw [J8n]; omega) (Je8 _) _ _ (Jfj i) _ h1 h2 (by rw [Jju]; omega),J6f,J6g (by rw [Jgh,List.length_range]; simp only [List.length_cons,List.length_nil]; omega),J6k (n:=(i:Int)+1) (by omega) (by omega),Jn3]
  rfl
 ·show J6_2_step 0 (J6n n) (n:Int) (n:Int) (J6n n,J6t n,J7v n,N,W,B,R,()) h () (sgJ h (List.range n)) nx (Jjt h)=_
  unfold J6_2_step
  rw [J6h (by omega)]
theorem K2v (n:Nat) (hn:n≤4) (S:List Val) (hS:Jpv S):∃ b,J6 1 (J6n n,J6t n,J7v n,[],S,[],[],())=some (1,(J6n n,J6t n,J7v n,[],S,[b],[[]],())):=by
 have e1:(J6n n).length=n:=J99 _ _
 have hSl:=hS.1
 have hnil:([]:List Val)++S=S:=rfl
 have hr:=Jx3 (S:=S) (B:=[]) (t:=1) (by simp) (by omega) (by omega)
 have hh:=Ju9 S [] 1
 have hd1:=hdS_1 S [] 1
 have w1:w64 ((([]:List Block).length:Int)+1)=1:=rfl
 have hh0:((1:Int),(1:Int),Jyj,setH S,setH S,List.replicate 32 (0:UInt8),())=hdS S [] 1:=by unfold hdS; rfl
 unfold J6
 dsimp only
 rw [J6h (by simp),J6h (by omega),J6h (by omega),J6h (by simp),J6g (by simp only [List.length_nil]; omega),Jn6,J6f,hnil,Jr4 S hS,J6f,J6f,w1,hh0,Jpa _ hh,J6f,← Jz8 hr,e1]
 rw [show (([]:List Block).length:Int)=0 from rfl,cmD n hn S _ S (by rw [hd1]; rfl) (by rw [hd1]; simp) (by rw [hd1]; simp),J6f]
 dsimp only
 rw [J6g (by simp),J6g (by simp),J6g (by simp),J6g (by simp)]
 exact ⟨_,rfl⟩
theorem K0l (n:Nat) (hn:n≤4) (S:List Val) (hS:Jpv S) (T:Int):∃ u,J2h T 1 3 () (J6n n) (J6t n) (J7v n) S=some u:=by
 obtain ⟨b,hb⟩:=K2v n hn S hS
 unfold J2h
 rw [hb,J6f]
 dsimp only
 rw [J6g (by simp)]
 unfold J3k Jv Jv_1
 rw [show J3l ((2:Int),([115,47]:List UInt8),([115,48]:List UInt8),1,3,())=some true from rfl,J6f,show (!true)=false from rfl,J6r,J71 (r:=(0,(0,0,[],()),((2:Int),([115,47]:List UInt8),([115,48]:List UInt8),1,3,()))) rfl]
 exact ⟨_,rfl⟩
noncomputable def gM:Nat→Ent:=fun _=>(Qm,1,0,())
section
variable {n : Nat} {p : Nat → Int} {f : Nat → Int}
theorem Jpt (hp:PwOk p) (h1:1≤n) (hn:n≤4) (hf:f 0=1) (T:Int) (hT:0≤T∧T≤1073741824):J5i (J6m p n) (J6n n) T 1 3 =
  some (0,1,1,(),(),J6n n,J6t n,J6m p n,stR [] [[]],BL n p f [[]],(),([hL n p f [[]] 0],J6m p n,T,false,()),(1,0,0,()),regF gM 0 1,(),[],([],()),(0,0,[],false,()),0,0,0,false,(),[]):=by
 have hr:Jhq 1 f:=by
  refine ⟨fun i hi=>?_,fun i hi=>by omega⟩
  obtain rfl:i=0:=by omega
  rw [hf]; omega
 have hl:J5d (hL n p f [[]] 0) (J6m p n) T=some (.inr (0,([hL n p f [[]] 0],J6m p n,T,false,()))):=K3i (r:=rR [[]]) (P:=fun _=>p) (m:=1) h1 hn (fun _=>hp) (by omega) hr hT (j:=0) (by omega)
 have e:J53 (hL n p f [[]] 0) (J6m p n) T 1 3=some (0,(),([hL n p f [[]] 0],J6m p n,T,false,()),(1,0,0,()),regF gM 0 1,(),[],([],()),(0,0,[],false,()),0,0,0,false,(),[]):=by
  unfold J53
  rw [hl]
  rfl
 unfold J5i
 rw [Kr p hp h1 hn,J6f]
 have hc:=K2t (f:=f) hp h1 hn (by rw [hf]; omega)
 rw [hf] at hc
 rw [hc,J6f]
 rw [show J15 1 () (J6n n) (J6t n) (J6m p n) (stR [] [[]]) (BL n p f [[]])=_ from K1g hn (by simp) (j:=0) (by simp) _,J6f]
 rw [show J53 (gL n p f [[]] 0).1 (gL n p f [[]] 0).2.2.2.1 T 1 3=_ from e]
 rfl
end
theorem begunG (ps:List Int) (hps:ps.length≤1000) (f:Nat→Int) (hf:f 0=1) (T:Int) (hT:0≤T∧T≤1073741824):∃ u,J3v ps T 1 3 =
  some (1,1,(),(),J6n (setN ps),J6t (setN ps),Jyf ps,stR [] [[]],BL (setN ps) (pw ps) f [[]],(),([hL (setN ps) (pw ps) f [[]] 0],Jyf ps,T,false,()),(1,0,0,()),regF gM 0 1,(),[],([],()),(0,0,[],false,()),0,0,0,false,(),[],u):=by
 obtain ⟨h1,hn⟩:=Jt6 ps
 obtain ⟨u,hu⟩:=K0l (setN ps) hn (Jyf ps) (Jmv _ _ hn) T
 have hw:=Jpt (f:=f) (K3r ps) h1 hn hf T hT
 unfold J3v
 rw [Jrm ps (by omega),J6f]
 dsimp only
 rw [show Jyf ps=J6m (pw ps) (setN ps) from rfl] at hu ⊢
 rw [hw,J6f]
 dsimp only
 rw [J9v rfl,hu,J6f]
 exact ⟨u,rfl⟩
section
variable (n : Nat) (p : Nat → Int) (f : Nat → Int) (R : List (List Pr))
noncomputable def hdK (j:Nat):List Hdr:=Je9 ((List.range j).map (hL n p f R))
noncomputable def cliG (T:Int) (j:Nat):Cli:=(hdK n p f R j,J6m p n,T,false,())
theorem Jg2 (j:Nat):(hdK n p f R j).length=min j 6:=by unfold hdK; rw [Jf4]; simp
theorem Kn (l:List Pr) {j:Nat} (h:j≤R.length):hdK n p f (R++[l]) j=hdK n p f R j:=by
 unfold hdK
 congr 1
 refine List.map_congr_left fun i hi=>K38 n p f R l ?_
 have:=List.mem_range.1 hi; omega
theorem Jnt (l:List Pr) (T:Int) {j:Nat} (h:j≤R.length):cliG n p f (R++[l]) T j=cliG n p f R T j:=by unfold cliG; rw [Kn n p f R l h]
theorem Js1 (j:Nat):hdK n p f R (j+1)=cut6 (hdK n p f R j++[hL n p f R j]):=by
 unfold hdK
 rw [List.range_succ,List.map_append,List.map_singleton,Jkr]
 unfold cut6
 rw [List.length_append,List.length_singleton]
theorem Jm9 {j:Nat} (h:1≤j) (x:List Val×Int×Bool×Unit):lastH (hdK n p f R j,x)=hL n p f R (j - 1):=by
 obtain ⟨i,rfl⟩:∃ i,j=i+1:=⟨j - 1,by omega⟩
 rw [Js1]
 by_cases c:1≤(hdK n p f R i).length
 ·rw [Jxc _ _ _ c]; rfl
 ·have:hdK n p f R i=[]:=List.eq_nil_of_length_eq_zero (by omega)
  rw [this]; rfl
theorem K1v {j:Nat} (h:1≤j) (T:Int):Knows (J6m p n) T (hL n p f R (j - 1)) (cliG n p f R T j):=
 ⟨by show 1≤(hdK n p f R j).length; rw [Jg2]; omega,by show (hdK n p f R j).length≤1000; rw [Jg2]; omega,Jm9 n p f R h _,rfl,rfl,rfl⟩
end
section
variable {n : Nat} {p : Nat → Int} {f : Nat → Int} {R : List (List Pr)}
theorem K4t (hp:PwOk p) (h1:1≤n) (hn:n≤4) (hR:R.length≤16) (hf:Jhq R.length f) {j:Nat} (hj:1≤j∧j < R.length) (T now:Int) (hnow:0≤now∧now≤1099511627776) (q1:¬ T < now - f (j - 1)) (q2:f j≤now) :
  J26 (gL n p f R j) now (cliG n p f R T j)=some (0,cliG n p f R T (j+1)):=by
 have hk:=K1v n p f R hj.1 T
 rw [show gL n p f R j=sgB n (rR R) (fun _=>p) f j (fun _=>true) from K34 _ _ _ _ _]
 rw [upd_eq _ _ _ (sgB_ok hn (fun _=>p) f (by omega) (K24 R j) _) (K1j (r:=rR R) (P:=fun _=>p) (m:=R.length) hn (fun _=>hp) hR hf (i:=j - 1) (by omega) hk) (by omega)]
 rw [K4u (P:=fun _=>p) (m:=R.length) h1 hn (fun _=>hp) hR hf (i:=j - 1) (by omega) hj.2 hk now (fun _=>true) q1 (by omega)]
 have hw:=K3q (p:=pB (fun _=>p) j) (pB_ok (fun _=>hp) _) _ (K0e h1)
 rw [Jm5,if_neg (by omega),if_neg (by omega)]
 rw [show (cliG n p f R T j).1=hdK n p f R j from rfl]
 rw [show hG n (rR R) (fun k=>J6m p n) f j=hL n p f R j from rfl,← Js1]
 rfl
theorem expG (hp:PwOk p) (hn:n≤4) (hR:R.length≤16) (hf:Jhq R.length f) {j:Nat} (hj:1≤j∧j≤R.length) (T now:Int) (hnow:0≤now∧now≤1099511627776) :
  J0h now (cliG n p f R T j)=some (decide (T < now - f (j - 1))):=by
 rw [Jki _ _ (K1j (r:=rR R) (P:=fun _=>p) (m:=R.length) hn (fun _=>hp) hR hf (i:=j - 1) (by omega) (K1v n p f R hj.1 T)) (by omega)]
 rw [show lastH (cliG n p f R T j)=hL n p f R (j - 1) from Jm9 n p f R hj.1 _,show (hL n p f R (j - 1)).2.1=f (j - 1) from hG_t _ _ _ _ _]
 rfl
theorem latG {j:Nat} (hj:1≤j) (x:Int×Bool×Unit) (v:List Val):J1i x (hdK n p f R j) v=some (hL n p f R (j - 1)):=by
 have hl:=Jg2 n p f R j
 have:=Jm9 n p f R hj (v,x)
 unfold J1i
 rw [J6k (by omega) (by omega),J6g (by omega),show (((hdK n p f R j).length:Int) - 1).toNat=(hdK n p f R j).length - 1 from by omega]
 exact congrArg some this
theorem Jn0 (x0:Int) (x1:List Hdr) (x2:Int) (x3:Int) (x4:(List Hdr)×(List Val)×Int×Bool×Unit) (x5:List UInt8):Js_1_step x0 x1 x2 x3 x4 x5 =
  (fork (decide (x3 < x2)) (need (0≤x3∧x3 < (List.length x1:Int)) (fork (decide ((List.getD x1 (Int.toNat x3) zHdr).1=x0)) (some (.inr (.inl (true,x4,(List.getD x1 (Int.toNat x3) zHdr).2.2.1)))) (some (.inl (w64 (x3+(1:Int))))))) (some (.inr (.inr (x4,x5)))):Option ((Int)⊕((Bool×((List Hdr)×(List Val)×Int×Bool×Unit)×List UInt8)⊕(((List Hdr)×(List Val)×Int×Bool×Unit)×List UInt8)))):=rfl
theorem K45 (x:Int) (l:List Hdr) (y:List Val×Int×Bool×Unit) (hl:l.length≤1000) {k:Nat} (hk:k < l.length) (hx:(l.getD k zHdr).1=x) (hne:∀ i,i < k→(l.getD i zHdr).1≠x) :
  Js x (l,y)=some ((l.getD k zHdr).2.2.1,true,(l,y)):=by
 have m:Js_1 x l (l.length:Int) 0 (l,y) (List.replicate 32 0)=some (scan (fun i=>if (l.getD i zHdr).1=x then some (.inl (true,(l,y),(l.getD i zHdr).2.2.1)) else none) (.inr ((l,y),List.replicate 32 0)) 0 l.length):=by
  unfold Js_1
  refine J97 (step:=fun (s:Int)=>Js_1_step x l (l.length:Int) s (l,y) (List.replicate 32 0)) (fun i=>(i:Int)) _ _ l.length (fun i hi q=>?_) (fun i r hi q=>?_) ?_ l.length 0 (by omega)
  ·rw [Jn0,J6j (by omega),J6g (by omega),Int.toNat_natCast,J6k (by omega) (by omega)]
   by_cases e:(l.getD i zHdr).1=x
   ·rw [if_pos e] at q; cases q
   ·rw [J6h e]; rfl
  ·rw [Jn0,J6j (by omega),J6g (by omega),Int.toNat_natCast]
   by_cases e:(l.getD i zHdr).1=x
   ·rw [if_pos e] at q; injection q with q; subst q; rw [J6j e]
   ·rw [if_neg e] at q; cases q
  ·rw [Jn0,J6h (by omega)]
 unfold Js
 dsimp only
 rw [m,J6f,Jaj (bad:=fun i=>if (l.getD i zHdr).1=x then some (Sum.inl (true,(l,y),(l.getD i zHdr).2.2.1)) else none) l.length 0 k (Nat.zero_le _) (by omega) (fun j _ hj=>if_neg (hne j hj)) (if_pos hx)]
theorem rootG {j:Nat} (T:Int) {h:Nat} (hh:j - 6≤h∧h < j):Js ((h:Int)+1) (cliG n p f R T j)=some (rR R h,true,cliG n p f R T j):=by
 have hl:=Jg2 n p f R j
 have hg:∀ i,i < min j 6→(hdK n p f R j).getD i zHdr=hL n p f R (j - min j 6+i):=fun i hi=>by
  unfold hdK Je9
  rw [List.getD_eq_getElem?_getD,List.getElem?_drop,List.length_map,List.length_range,List.getElem?_map,List.getElem?_range (by omega)]
  show hL n p f R (j - 6+i)=_
  congr 1; omega
 have hone:∀ i,(hL n p f R i).1=(i:Int)+1:=fun i=>hG_1 _ _ _ _ _
 have:=K45 ((h:Int)+1) (hdK n p f R j) (J6m p n,T,false,()) (by omega) (k:=h - (j - min j 6)) (by omega) (by rw [hg _ (by omega),hone]; omega) (fun i hi=>by rw [hg _ (by omega),hone]; omega)
 rw [hg _ (by omega)] at this
 rw [show j - min j 6+(h - (j - min j 6))=h from by omega] at this
 unfold cliG
 rw [this]
 rw [show (hL n p f R h).2.2.1=rR R h from K37 _ _ _ _ _]
end
abbrev Ce:=CalT×Int×Unit
def zCe:Ce:=(zCal,0,())
def Jbb (e:List (Int×Ce)) (id:Int):Int:=((J6o ib id e).getD zCe).1.2.1
theorem clastG (id:Int) (e:List (Int×Ce)):J3z id () e=some (Jbb e id):=rfl
theorem putG (c:CalT) (b:Int) (e:List (Int×Ce)) (h1:1≤c.2.1) (hb:0≤b) (hl:Jbb e c.1 < c.2.1) (hc:Jcl c) (hf:(J6o ib c.1 e).isSome=true∨e.length < 6) :
  J3i c b () e=some (0,J6w ib c.1 (c,b,()) e):=by
 have hcc:J2i c=some c:=by
  unfold J2i Jf
  unfold Jcl at hc
  rw [J6g (by omega)]; rfl
 unfold Jbb at hl
 unfold J3i
 rw [hcc]
 rw [J6h (by omega),J6h (by omega)]
 cases hs:(J6o ib c.1 e).isSome with
 | true=>
  rw [J7m,J6h (by
   have:¬ c.2.1≤((J6o ib c.1 e).getD zCe).1.2.1:=by omega
   exact this)]
  rfl
 | false=>
  have hf:e.length < 6:=by rcases hf with h | h; (rw [hs] at h; cases h); exact h
  rw [J6r,show (!false)=true from rfl,J7m,J6h (by omega)]
  rfl
noncomputable def J93 (id:Int) (q:Qry) (h:Int) (l:List Pr):CalT:=(id,h,(ansS id q h l).2.2.1,())
theorem openG {g:Nat→Ent} {m j:Nat} (hj:j < m) (r:Int×Int×Int×Unit):J0x ((j:Int)+1) r (regF g 0 m)=some (decide (0 < (g j).2.2.1)):=by
 unfold J0x
 rw [show J6o (Ty.beq (.int .i64)) ((j:Int)+1) (regF g 0 m)=some (g j) from Jg9 g j m 0 (Nat.zero_le _) (by omega)]
 rfl
theorem qgetG {g:Nat→Ent} {m j:Nat} (hj:j < m) (r:Int×Int×Int×Unit):J11 ((j:Int)+1) r (regF g 0 m)=some ((g j).1,true):=by
 unfold J11
 rw [show J6o (Ty.beq (.int .i64)) ((j:Int)+1) (regF g 0 m)=some (g j) from Jg9 g j m 0 (Nat.zero_le _) (by omega)]
 rfl
theorem shutG {g:Nat→Ent} {m j:Nat} (hj:j < m) (hu:0 < (g j).2.2.1) (r:Int×Int×Int×Unit):J2s ((j:Int)+1) r (regF g 0 m)=some (true,regF (updG g j ((g j).1,(g j).2.1,0,())) 0 m):=by
 unfold J2s
 rw [show J6o (Ty.beq (.int .i64)) ((j:Int)+1) (regF g 0 m)=some (g j) from Jg9 g j m 0 (Nat.zero_le _) (by omega)]
 simp only [Option.isSome_some,Option.getD_some,Bool.not_true]
 rw [J6r,J6h (by omega)]
 rw [show ∀ y:Ent,J6w (Ty.beq (.int .i64)) ((j:Int)+1) y (regF g 0 m)=regF (updG g j y) 0 m from fun y=>Jjf g j y m 0 (Nat.zero_le _) (by omega)]
theorem K0m {g:Nat→Ent} {m j:Nat} (hj:j < m) (hu:0 < (g j).2.2.1) (hq:(g j).1.1=1∨(g j).1.1=2) {l:List Pr} (hrow:RowG l) {h:Int} (hh:1≤h∧h≤16) {cli:Cli} (hfz:cli.2.2.2.1=false) {now:Int} (hexp:J0h now cli=some false) (hroot:Js h cli=some (J9s l,true,cli))
  {e:List (Int×Ce)} (hlast:Jbb e ((j:Int)+1) < h) (hf:(J6o ib ((j:Int)+1) e).isSome=true∨e.length < 6) {cl:List CalT} (hcl:cl.length < 8) (hco:∀ c ∈ cl,Jcl c) {r:Int×Int×Int×Unit} (hb:0≤r.2.1) (mi:Int×Int×List Pr×Bool×Unit) (x10 x11 x12:Int) (x13:Bool) (x15:List (List UInt8×Int)) :
  J14 (ansS ((j:Int)+1) (g j).1 h l) now () cli r (regF g 0 m) () e (cl,()) mi x10 x11 x12 x13 () x15 =
   some (0,cli,regF (updG g j ((g j).1,(g j).2.1,0,())) 0 m,J6w ib ((j:Int)+1) (J93 ((j:Int)+1) (g j).1 h l,r.2.1,()) e,(),cl++[J93 ((j:Int)+1) (g j).1 h l]):=by
 obtain ⟨a1,a2⟩:=Jtq hrow hq ((j:Int)+1) h hh
 obtain ⟨o1,o2,o3,o4,o5⟩:=Jhu ((j:Int)+1) (g j).1 h l hrow
 have hC:Jcl (J93 ((j:Int)+1) (g j).1 h l):=by unfold Jcl J93; dsimp only; omega
 unfold J14
 rw [a1,J6f,show (!true)=false from rfl,J6r,o4,o5,openG hj,J6f,decide_eq_true hu,show (!true)=false from rfl,J6r]
 rw [show J2r cli=some false from by unfold J2r; rw [hfz],J6f,J6r,hexp,J6f,J6r,clastG,J6f,J6h (by omega),hroot,J6f]
 dsimp only
 rw [show (!true)=false from rfl,J6r,roomG cl (by omega),J6f,J6h (by omega),qgetG hj,J6f]
 dsimp only
 rw [a2,J6f,show (!decide ((0:Int)=0))=false from rfl,J6r,show J1x r (regF g 0 m)=some r.2.1 from rfl,J6f]
 rw [show ((((j:Int)+1),h,(ansS ((j:Int)+1) (g j).1 h l).2.2.1,()):CalT)=J93 ((j:Int)+1) (g j).1 h l from rfl]
 rw [putG (J93 ((j:Int)+1) (g j).1 h l) r.2.1 e hh.1 hb hlast hC hf,J6f]
 dsimp only
 rw [show (!decide ((0:Int)=0))=false from rfl,J6r,pushG _ cl hcl hC hco,J6f,shutG hj hu,J6f]
 rfl
theorem K2l {R:List (List Pr)} {now0:List Pr} {B:List Block} (hn0:RowB now0) (hR:∀ l ∈ R,RowB l) (hlen:R.length≤16) {g:Nat→Ent} {m j:Nat} (hj:j < m) (hu:0 < (g j).2.2.1) (hq:(g j).1.1=1∨(g j).1.1=2) {i:Nat} (hi:R.length - 6≤i∧i < R.length) (hrow:RowG (R.getD i [])) {cli:Cli} (hfz:cli.2.2.2.1=false) {now:Int} (hexp:J0h now cli=some false) (hroot:Js ((i:Int)+1) cli=some (J9s (R.getD i []),true,cli))
  {e:List (Int×Ce)} (hlast:Jbb e ((j:Int)+1) < (i:Int)+1) (hf:(J6o ib ((j:Int)+1) e).isSome=true∨e.length < 6) {cl:List CalT} (hcl:cl.length < 8) (hco:∀ c ∈ cl,Jcl c) {r:Int×Int×Int×Unit} (hb:0≤r.2.1) (q:Int) (D:List (List UInt8)) (K:List (List (List UInt8))) (V:List Val) (mi:Int×Int×List Pr×Bool×Unit) (x10 x11 x12:Int) (x13:Bool) (x15:List (List UInt8×Int)) (ac:List CalT) (hac:ac.length≤1000) :
  J13 ((j:Int)+1) ((i:Int)+1) now q () () D K V (stR now0 R) B () cli r (regF g 0 m) () e (cl,()) mi x10 x11 x12 x13 () x15 ac =
   some (0,cli,regF (updG g j ((g j).1,(g j).2.1,0,())) 0 m,J6w ib ((j:Int)+1) (J93 ((j:Int)+1) (g j).1 ((i:Int)+1) (R.getD i []),r.2.1,()) e,(cl++[J93 ((j:Int)+1) (g j).1 ((i:Int)+1) (R.getD i [])],()),ac++[J93 ((j:Int)+1) (g j).1 ((i:Int)+1) (R.getD i [])]):=by
 obtain ⟨o1,o2,o3,o4,o5⟩:=Jhu ((j:Int)+1) (g j).1 ((i:Int)+1) (R.getD i []) hrow
 have hAt:J2x ((i:Int)+1) () D K V (stR now0 R) B=some (R.getD i [],true):=by
  unfold J2x
  rw [K4o _ (K29 hn0 hR hlen),J6f,stR_at,if_pos (by omega),show ((i:Int)+1 - 1).toNat=i from by omega]
 unfold J13
 rw [show J08 () cli r (regF g 0 m) () e (cl,()) mi x10 x11 x12 x13 () x15=some () from rfl,J6f,qgetG hj,J6f,hAt,J6f]
 dsimp only
 rw [show (!true)=false from rfl,J6r,J6r,K2k hrow hq,J6f]
 unfold J3h
 rw [K0m hj hu hq hrow (by omega) hfz hexp hroot hlast hf hcl hco hb,J6f]
 dsimp only
 rw [J6j rfl]
 unfold Jf
 rw [J6g (by omega),J6f,J6g (by simp only [List.length_singleton]; omega),o4,o5]
 rfl
def recB (t r:Int):List UInt8:=putS [t,r]
def recP (n:List UInt8) (t r:Int):Pr:=([115,47]++n,recB t r,())
def Amt (n:Int):Prop:=0≤n∧n≤1073741824
theorem Jgj {n:Int} (h:Amt n):J2e n=some true:=by
 unfold J2e
 rw [J6j h.1,decide_eq_true h.2]
theorem Jyb {t r:Int} (ht:Amt t) (hr:Amt r):J3q t r=some (recB t r):=by
 unfold J3q
 rw [Jgj ht,J6f,Bool.not_true,J6r,Jgj hr,J6f,Bool.not_true,J6r,put_eq _ (by simp)]
 rfl
theorem Jrc (l:List UInt8) (h:l.length≤1000):J5q l=some (l,false,()):=by
 unfold J5q
 rw [J6g (by rw [List.length_nil]; omega)]; rfl
theorem Jsy (t r:Int):(recB t r).length≤14:=by have:=Jmr [t,r]; unfold recB; simp only [List.length_cons,List.length_nil] at this; omega
theorem K0k {t r:Int} (ht:Amt t) (hr:Amt r):J3b (recB t r)=some (t,r,true):=by
 have e:recB t r=oneS t++(oneS r++[]):=by unfold recB putS; simp
 have hl:=Jsy t r
 unfold J3b
 rw [Jrc _ (by omega),J6f,e,number_eq,Jxr t ht.1 (by have:=ht.2; omega),J6f]
 dsimp only
 rw [number_eq,Jxr r hr.1 (by have:=hr.2; omega),J6f,doneS,J6f]
 dsimp only
 rw [show (!(!false && decide (([]:List UInt8)=[])))=false from rfl,J6r,Jgj ht,J6f,Bool.not_true,J6r,Jgj hr,J6f,Bool.not_true,J6r]
theorem K0j:J3b []=some (0,0,false):=by
 unfold J3b
 rw [show J5q []=some ([],false,()) from rfl,J6f,number_eq,J6f,number_eq,J6f,doneS,J6f]
 rfl
def RecS:List (List UInt8×Int×Int)→Int
 | []=>0
 | x::r=>x.2.1+x.2.2+RecS r
def rowR (l:List (List UInt8×Int×Int)):List Pr:=l.map fun x=>recP x.1 x.2.1 x.2.2
theorem is_key (n:List UInt8):J4a ([115,47]++n)=some true:=by
 unfold J4a J4n J43
 have hl:(([115,47]++n).length:Int)=(n.length:Int)+2:=by simp; omega
 have h2:(([115,47]:List UInt8).length:Int)=2:=rfl
 rw [hl,h2,J6j (by omega),J6g (by omega),show cutL ([115,47]++n) 0 2=[115,47] from rfl]
 rfl
theorem K1s (n:List UInt8) (t r:Int):J4a (recP n t r).1=some true:=is_key n
theorem Jje (x:List UInt8×Int×Int) (r:List (List UInt8×Int×Int)):RecS (x::r)=x.2.1+x.2.2+RecS r:=rfl
theorem Jc4:∀ {l:List (List UInt8×Int×Int)},(∀ x ∈ l,Amt x.2.1∧Amt x.2.2)→0≤RecS l
 | [],_=>Int.le_refl _
 | x::r,h=>by
  have h1:=h x (List.mem_cons_self ..); have h2:=Jc4 (l:=r) fun y hy=>h y (List.mem_cons_of_mem _ hy)
  have:=h1.1.1; have:=h1.2.1; rw [Jje]; omega
theorem Jnk (l:List Pr) (n:Nat) (hn:l.length=n) (hn2:n≤1000):∀ (m:List (List UInt8×Int×Int)) (acc:Int) (i:Nat),i+m.length=n→l.drop i=rowR m→(∀ x ∈ m,Amt x.2.1∧Amt x.2.2)→0≤acc→acc+RecS m≤1073741824→
  J03_1 acc l (n:Int) (i:Int)=some (acc+RecS m)
 | [],acc,i,hi,hd,hm,h0,h1=>by
  unfold J03_1
  refine J71 ?_
  show J03_1_step acc l (n:Int) (i:Int)=_
  unfold J03_1_step
  rw [J6h (by simp at hi; omega)]
  rw [show RecS []=0 from rfl,Int.add_zero]
 | x::m,acc,i,hi,hd,hm,h0,h1=>by
  simp only [List.length_cons] at hi
  have hx:=hm x (List.mem_cons_self ..)
  have hs:=Jc4 (l:=m) fun y hy=>hm y (List.mem_cons_of_mem _ hy)
  have a1:=hx.1.1; have a2:=hx.2.1; have a3:=hx.1.2; have a4:=hx.2.2
  rw [Jje] at h1
  have hg:l.getD i zPr=recP x.1 x.2.1 x.2.2:=by
   have:(l.drop i)[0]?=some (recP x.1 x.2.1 x.2.2):=by rw [hd]; rfl
   rw [List.getElem?_drop,Nat.add_zero] at this
   rw [List.getD_eq_getElem?_getD,this]; rfl
  have hd2:l.drop (i+1)=rowR m:=by
   have:(l.drop i).drop 1=rowR m:=by rw [hd]; rfl
   rw [List.drop_drop] at this; exact this
  have ih:=Jnk l n hn hn2 m (acc+(x.2.1+x.2.2)) (i+1) (by omega) hd2 (fun y hy=>hm y (List.mem_cons_of_mem _ hy)) (by omega) (by omega)
  unfold J03_1 at ih ⊢
  rw [J79 (s':=(acc+(x.2.1+x.2.2),((i+1:Nat):Int))) (by
   show J03_1_step acc l (n:Int) (i:Int)=_
   unfold J03_1_step
   rw [J6j (by omega),J6g (by omega),Int.toNat_natCast,show (([]:List UInt8),([]:List UInt8),())=zPr from rfl,hg,K1s,J6f,Bool.not_true,J6r,show (recP x.1 x.2.1 x.2.2).2.1=recB x.2.1 x.2.2 from rfl,K0k hx.1 hx.2,J6f]
   dsimp only
   rw [Bool.not_true,J6r,J6k (n:=x.2.1+x.2.2) (by omega) (by omega),J6k (n:=acc+(x.2.1+x.2.2)) (by omega) (by omega),J6k (n:=(i:Int)+1) (by omega) (by omega)]
   rfl),ih,Jje]
  congr 1; omega
theorem Jgo (m:List (List UInt8×Int×Int)) (hl:m.length≤1000) (hm:∀ x ∈ m,Amt x.2.1∧Amt x.2.2) (h1:RecS m≤1073741824):J03 (rowR m)=some (RecS m,true):=by
 have hlen:(rowR m).length=m.length:=List.length_map _
 have:=Jnk (rowR m) m.length hlen hl m 0 0 (by omega) rfl hm (Int.le_refl _) (by omega)
 unfold J03
 rw [hlen,show (0:Int)=((0:Nat):Int) from rfl] at *
 rw [this,J6f,Int.natCast_zero,Int.zero_add,Jgj ⟨Jc4 hm,h1⟩,J6f,Bool.not_true,J6r]
theorem K3c (n:List UInt8) (h:n.length≤1000):J1e n=some ([115,47]++n):=by
 unfold J1e
 rw [J6g (by simp; omega)]
theorem K15 (l:List Pr) (hl:RowB l) (n:List UInt8) (hn:n≠[]∧n.length≤14) (hat:isAt l ([115,47]++n)=false) (hlen:l.length < 30) (x:Int) (hx:Amt x) (s:Int) (hb:J03 (putP l (recP n x 0))=some (s,true)) :
  J41 l n x=some (putP l (recP n x 0),0):=by
 have hr:=hl.1
 have z:Amt 0:=⟨by omega,by omega⟩
 have hx1:=hx.1; have hx2:=hx.2
 have hm:mayP (recP n x 0)=true:=by
  have:=Jsy x 0
  unfold mayP recP
  simp only [Bool.and_eq_true,decide_eq_true_eq,Bool.not_eq_true',decide_eq_false_iff_not]
  refine ⟨by simp,by simp; omega,by omega⟩
 have hset:setP l (recP n x 0)=(putP l (recP n x 0),true):=by
  unfold setP; rw [hm,decide_eq_true hlen]; simp
 unfold J41 J1u
 rw [K3c n (by omega),J6f,J6h hn.1,J6h (by simp; omega),Jgj hx,J6f,Bool.not_true,J6r,Jg4 l hr (by have:=hl.2.1; omega),J6f,hat,if_neg (by simp),K0j,J6f]
 dsimp only
 unfold J1u_1
 rw [J6r,Bool.not_false,J7m,Bool.not_true,J6r,J6f]
 dsimp only
 unfold J42
 rw [J6f,Int.zero_add,J6k (by omega) (by omega)]
 dsimp only
 rw [J9v rfl,Jyb hx z,J6f,show (([115,47]++n,recB x 0,()):Pr)=recP n x 0 from rfl,Jxb l hr (by have:=hl.2.1; omega),J6f,hset]
 dsimp only
 rw [Bool.not_true,J6r,hb,J6f]
 rfl
abbrev Um:=List (List UInt8×Int)
def sumM:Um→Int
 | []=>0
 | p::r=>p.2+sumM r
def NonM:Um→Prop
 | []=>True
 | p::r=>0≤p.2∧NonM r
structure Jvb (s p a:Int) (m:Um):Prop where
 s0:0≤s
 p0:0≤p
 top:s+p≤1073741824
 a0:0≤a
 a1:a≤1073741824
 sum:sumM m=a
 non:NonM m
theorem K02 {s p a:Int} {m:Um} (h:Jvb s p a m) (t:Int) (h0:0≤t) (h1:t≤1073741824 - p) (b:Bool) (u:Unit) :
  J3e t s p a b u m=some (0,t,false)∧Jvb t p a m:=by
 have s0:=h.s0; have p0:=h.p0; have tp:=h.top
 unfold J3e
 rw [J6h (by omega),J6k (by omega) (by omega),J6h (by omega)]
 exact ⟨rfl,h0,h.p0,by omega,h.a0,h.a1,h.sum,h.non⟩
abbrev SRec:=List UInt8×Int×Int
abbrev Mir:=Int×Int×List Pr×Bool×Unit
theorem Jmx (m:List SRec):(rowR m).length=m.length:=List.length_map _
theorem K48 (m:List SRec) {i:Nat} (hi:i < m.length):∃ x ∈ m,(rowR m).getD i zPr=recP x.1 x.2.1 x.2.2:=by
 have hm:(rowR m).getD i zPr ∈ rowR m:=J7d (by rw [Jmx]; exact hi)
 obtain ⟨x,hx,e⟩:=List.mem_map.1 hm
 exact ⟨x,hx,e.symm⟩
theorem Jlm (m:List SRec) (hl:m.length≤1000):J16 (rowR m)=some false:=by
 have hlen:=Jmx m
 have e:Ji_1 (rowR m) ((rowR m).length:Int) 0=some (.inr ()):=by
  unfold Ji_1
  refine J6s (step:=fun (s:Int)=>Ji_1_step (rowR m) ((rowR m).length:Int) s) (fun i (_:Unit)=>(i:Int)) (fun _ _=>()) (fun _=>.inr ()) m.length (fun _ _=>True) (fun i w hi _=>⟨?_,trivial⟩) (fun w _=>?_) m.length 0 () (by omega) trivial
  ·show Ji_1_step (rowR m) ((rowR m).length:Int) (i:Int)=_
   unfold Ji_1_step J46
   obtain ⟨x,hx,ex⟩:=K48 m hi
   rw [J6j (by omega),J6g (by omega),Int.toNat_natCast,show (([]:List UInt8),([]:List UInt8),())=zPr from rfl,ex,K1s,J6f]
   rw [show (!true)=false from rfl,J6f,J6r,J6k (by omega) (by omega)]
   rfl
  ·show Ji_1_step (rowR m) ((rowR m).length:Int) (m.length:Int)=_
   unfold Ji_1_step
   rw [J6h (by omega)]
 unfold J16 Ji
 rw [e]
 rfl
theorem takeG (m:List SRec) (hl:m.length≤1000) (hm:∀ x ∈ m,Amt x.2.1∧Amt x.2.2) (h1:RecS m≤1073741824) (hk:J1a (rowR m)=some true) (h:Int) (mi:Mir) (hh:1≤h∧mi.1≤h) :
  J2z (1,h,rowR m,()) mi=some (0,h,RecS m,(false,()),rowR m):=by
 have hlen:=Jmx m
 unfold J2z
 dsimp only
 rw [hk,J6f,show (!true)=false from rfl,J6r,Jlm m hl,J6f,J6r,J6h (by omega),Jgo m hl hm h1,J6f]
 dsimp only
 rw [show (!true)=false from rfl,J6r]
 unfold Jf
 rw [J6g (by omega),J6f]
abbrev Mst3:=Mir×Int×Bool
noncomputable def Jfx (c:CalT) (s:Mst3) (y z:Int) (us:List (List UInt8×Int)):Option (Mir×Int×Bool):=
 J17 c () ([],[],0,false,()) (0,0,0,()) [] () [] ([],()) s.1 s.2.1 y z s.2.2 () us
theorem Jnq (c:CalT) (s:Mst3) (y z:Int) (us:List (List UInt8×Int)) (cli:Cli) (r:Int×Int×Int×Unit) (reg:List (Int×Ent)) (ca:List (Int×Ce)) (cq:List CalT×Unit):J17 c () cli r reg () ca cq s.1 s.2.1 y z s.2.2 () us=Jfx c s y z us:=rfl
theorem Jnr (c:CalT) (hc:c.1≠1) (s:Mst3) (y z:Int) (us:List (List UInt8×Int)):Jfx c s y z us=some s:=by
 unfold Jfx J17
 rw [show (!decide (c.1=1))=true from by rw [decide_eq_false hc]; rfl,J7m]
theorem Jk7 (m:List SRec) (hl:m.length≤1000) (hm:∀ x ∈ m,Amt x.2.1∧Amt x.2.2) (hk:J1a (rowR m)=some true) (h:Int) (s:Mst3) (hh:1≤h∧s.1.1≤h) {y z:Int} {us:List (List UInt8×Int)} (hL:Jvb s.2.1 y z us) (hy:RecS m≤1073741824 - y) :
  Jfx (1,h,rowR m,()) s y z us=some ((h,RecS m,rowR m,false,()),RecS m,false)∧Jvb (RecS m) y z us:=by
 have hp:=hL.p0
 obtain ⟨e,o⟩:=K02 hL (RecS m) (Jc4 hm) hy s.2.2 ()
 refine ⟨?_,o⟩
 unfold Jfx J17
 rw [show (!decide (((1:Int),h,rowR m,()).1=1))=false from rfl,J6r,takeG m hl hm (by omega) hk h s.1 hh,J6f]
 dsimp only
 rw [J6j rfl,show J33 h (RecS m) (false,()) (rowR m)=some () from rfl,J6f,e,J6f]
 rfl
def Jho (y z:Int) (us:List (List UInt8×Int)):List CalT→Mst3→Mst3→Prop
 | [],s,t=>s=t
 | c::l,s,t=>∃ u,Jfx c s y z us=some u∧Jho y z us l u t
theorem Jk8 (cli:Cli) (r:Int×Int×Int×Unit) (reg:List (Int×Ent)) (ca:List (Int×Ce)) (y z:Int) (us:List (List UInt8×Int)) :
  ∀ (l:List CalT) (s t:Mst3) (c:CalT),l.length≤1000→Jho y z us (c::l) s t→
   Jg_1 true () cli r reg () ca (l,()) s.1 s.2.1 y z s.2.2 () us c=some ((),cli,r,reg,(),ca,([],()),t.1,t.2.1,y,z,t.2.2,(),us)
 | [],s,t,c,hl,h=>by
  obtain ⟨u,h1,h2⟩:=h
  have h2:u=t:=h2
  subst h2
  unfold Jg_1
  rw [J79 (s':=(false,([],()),u.1,u.2.1,u.2.2,zCal)) (by
   show Jg_1_step true () cli r reg () ca ([],()) s.1 s.2.1 y z s.2.2 () us c=_
   unfold Jg_1_step
   rw [J7m,Jnq,h1,J6f,popG0]
   rfl)]
  exact J71 rfl
 | d::l,s,t,c,hl,h=>by
  obtain ⟨u,h1,h2⟩:=h
  have ih:=Jk8 cli r reg ca y z us l u t d (by rw [List.length_cons] at hl; omega) h2
  unfold Jg_1 at ih ⊢
  rw [J79 (s':=(true,(l,()),u.1,u.2.1,u.2.2,d)) (by
   show Jg_1_step true () cli r reg () ca (d::l,()) s.1 s.2.1 y z s.2.2 () us c=_
   unfold Jg_1_step
   rw [J7m,Jnq,h1,J6f,popG d l (by rw [List.length_cons] at hl; omega)]
   rfl)]
  exact ih
theorem Jrn (cli:Cli) {g:Nat→Ent} {m:Nat} (hm:m≤12) (hg:∀ j,Jhp (g j)) (a b l:Int) (hb:0≤b∧b < 100000) (hl:0≤l∧l≤100000) (ca:List (Int×Ce)) (cl:List CalT) (hcl:cl.length≤100) (y z:Int) (us:List (List UInt8×Int)) (s t:Mst3) (h:Jho y z us cl s t) :
  Jg () cli (a,b,l,()) (regF g 0 m) () ca (cl,()) s.1 s.2.1 y z s.2.2 () us=some ((),cli,(a,b+1,l+(J8i (fun j=>J7n (b+1) (g j)) m).length,()),regF (fun j=>askG (b+1) (J8f (b+1) (g j))) 0 m,(),ca,([],()),t.1,t.2.1,y,z,t.2.2,(),us,J8i (fun j=>J7n (b+1) (g j)) m,J8i (fun j=>J9q (b+1) (J8f (b+1) (g j))) m):=by
 unfold Jg
 cases cl with
 | nil=>
  cases h
  rw [popG0,J6f]
  dsimp only
  have e:Jg_1 false () cli (a,b,l,()) (regF g 0 m) () ca ([],()) s.1 s.2.1 y z s.2.2 () us zCal=some ((),cli,(a,b,l,()),regF g 0 m,(),ca,([],()),s.1,s.2.1,y,z,s.2.2,(),us):=by
   unfold Jg_1
   exact J71 rfl
  rw [e,J6f]
  dsimp only
  rw [Jza m hm g hg a b l hb hl,J6f]
 | cons c cl=>
  rw [popG c cl (by rw [List.length_cons] at hcl; omega),J6f]
  dsimp only
  rw [Jk8 cli _ _ ca y z us cl s t c (by rw [List.length_cons] at hcl; omega) h,J6f]
  dsimp only
  rw [Jza m hm g hg a b l hb hl,J6f]
abbrev TxT:=Int×List UInt8×List UInt8×Int×Int×Unit
abbrev zTx:TxT:=(0,[],[],0,0,())
abbrev zQy:Qry:=(0,[],[],0,0,())
abbrev WRes:=Int×Int×List Int×List Int×CalT×Unit
abbrev zR (a b:Int) (k l:List Int):WRes:=(a,b,k,l,(0,0,[],()),())
theorem do_tx0 (now q:Int) (D:List (List UInt8)) (K:List (List (List UInt8))) (V:List Val) (s:Stt) (B:List Block) (c:Cli) (r:Int×Int×Int×Unit) (e:List (Int×Ent)) (ca:List (Int×Ce)) (cq:List CalT×Unit) (mi:Mir) (x y z:Int) (hb:Bool) (us:List (List UInt8×Int)) (t:TxT) (er:Int) (s':Stt) (h:J20 t () D K V s B=some (er,s')) :
  J37 (1,0,0,[],t,zQy,[],()) now q () () D K V s B () c r e () ca cq mi x y z hb () us=some (zR er 0 [] [],now,q,(),(),D,K,V,s',(),c,r,e,(),ca,cq,mi,x,y,z,hb,(),us,B,[]):=by
 unfold J37
 rw [J6j (show (1:Int)=1 from rfl)]
 show andThen (J20 t () D K V s B) _=_
 rw [h]
 rfl
theorem Jnv (now q:Int) (D:List (List UInt8)) (K:List (List (List UInt8))) (V:List Val) (s:Stt) (B:List Block) (c:Cli) (r:Int×Int×Int×Unit) (e:List (Int×Ent)) (ca:List (Int×Ce)) (cq:List CalT×Unit) (mi:Mir) (x y z:Int) (hb:Bool) (us:List (List UInt8×Int)) (ac:List CalT) (t k:Int) (hk:k≠0) (s':Stt) (B' X:List Block) (h:Jd t () D K V s B=some (k,(),D,K,V,s',X,B')) :
  Jh (2,t,0,[],zTx,zQy,[],()) now q () () D K V s B () c r e () ca cq mi x y z hb () us ac=some (zR 0 k [] [],now,q,(),(),D,K,V,s',(),c,r,e,(),ca,cq,mi,x,y,z,hb,(),us,B',ac):=by
 unfold Jh
 rw [J6h (show ¬ (2:Int)=1 by decide),J6j (show (2:Int)=2 from rfl)]
 show andThen (Jd t () D K V s B) _=_
 rw [h,J6f,J6h hk]
 try rfl
theorem Jrr (now q:Int) (D:List (List UInt8)) (K:List (List (List UInt8))) (V:List Val) (s:Stt) (B:List Block) (c:Cli) (r:Int×Int×Int×Unit) (e:List (Int×Ent)) (ca:List (Int×Ce)) (cq:List CalT×Unit) (mi:Mir) (x y z:Int) (hb:Bool) (us:List (List UInt8×Int)) (ac:List CalT) (t:Int) (h1:now≤t) (h2:t≤1073741824) :
  Jh (3,t,0,[],zTx,zQy,[],()) now q () () D K V s B () c r e () ca cq mi x y z hb () us ac=some (zR 0 0 [] [],t,q,(),(),D,K,V,s,(),c,r,e,(),ca,cq,mi,x,y,z,hb,(),us,B,ac):=by
 unfold Jh
 rw [J6h (show ¬ (3:Int)=1 by decide),J6h (show ¬ (3:Int)=2 by decide),J6j (show (3:Int)=3 from rfl)]
 rw [show J35 (3,t,0,([]:List UInt8),zTx,zQy,([]:List UInt8),()).2.1 now q () () D K V s B () c r e () ca cq mi x y z hb () us ac=some 0 from by unfold J35; rw [J6h (show ¬ t < now by omega),J6h (show ¬ 1073741824 < t by omega)]]
 try rfl
theorem Jrq (now q:Int) (D:List (List UInt8)) (K:List (List (List UInt8))) (V:List Val) (s:Stt) (B:List Block) (c:Cli) (r:Int×Int×Int×Unit) (e:List (Int×Ent)) (ca:List (Int×Ce)) (cq:List CalT×Unit) (mi:Mir) (x y z:Int) (hb:Bool) (us:List (List UInt8×Int)) (ac:List CalT) (r':Int×Int×Int×Unit) (e':List (Int×Ent)) (t:Mst3) (k l:List Int) (h:Jg () c r e () ca cq mi x y z hb () us=some ((),c,r',e',(),ca,([],()),t.1,t.2.1,y,z,t.2.2,(),us,k,l)) :
  Jh (5,0,0,[],zTx,zQy,[],()) now q () () D K V s B () c r e () ca cq mi x y z hb () us ac=some (zR 0 0 k l,now,q,(),(),D,K,V,s,(),c,r',e',(),ca,([],()),t.1,t.2.1,y,z,t.2.2,(),us,B,ac):=by
 unfold Jh
 rw [J6h (show ¬ (5:Int)=1 by decide),J6h (show ¬ (5:Int)=2 by decide),J6h (show ¬ (5:Int)=3 by decide),J6h (show ¬ (5:Int)=4 by decide),J6j (show (5:Int)=5 from rfl)]
 show andThen (Jg () c r e () ca cq mi x y z hb () us) _=_
 rw [h]
 try rfl
theorem do_add (now q:Int) (D:List (List UInt8)) (K:List (List (List UInt8))) (V:List Val) (s:Stt) (B:List Block) (c:Cli) (r:Int×Int×Int×Unit) (e:List (Int×Ent)) (ca:List (Int×Ce)) (cq:List CalT×Unit) (mi:Mir) (x y z:Int) (hb:Bool) (us:List (List UInt8×Int)) (ac:List CalT) (qy:Qry) (n:Int) (r':Int×Int×Int×Unit) (e':List (Int×Ent)) (h:J0w qy () c r e () ca cq mi x y z hb () us=some (n,0,r',e')) :
  Jh (6,0,0,[],zTx,qy,[],()) now q () () D K V s B () c r e () ca cq mi x y z hb () us ac=some (zR 0 n [] [],now,n,(),(),D,K,V,s,(),c,r',e',(),ca,cq,mi,x,y,z,hb,(),us,B,ac):=by
 unfold Jh
 rw [J6h (show ¬ (6:Int)=1 by decide),J6h (show ¬ (6:Int)=2 by decide),J6h (show ¬ (6:Int)=3 by decide),J6h (show ¬ (6:Int)=4 by decide),J6h (show ¬ (6:Int)=5 by decide),J6j (show (6:Int)=6 from rfl)]
 show andThen (J0w qy () c r e () ca cq mi x y z hb () us) _=_
 rw [h,J6f,J6j rfl]
 try rfl
theorem Jrs (now q:Int) (D:List (List UInt8)) (K:List (List (List UInt8))) (V:List Val) (s:Stt) (B:List Block) (c:Cli) (r:Int×Int×Int×Unit) (e:List (Int×Ent)) (ca:List (Int×Ce)) (cq:List CalT×Unit) (mi:Mir) (x y z:Int) (hb:Bool) (us:List (List UInt8×Int)) (ac:List CalT) (er n a b:Int) (c':Cli) (e':List (Int×Ent)) (ca':List (Int×Ce)) (cq':List CalT×Unit) (ac':List CalT) (h:Ju now q () () D K V s B () c r e () ca cq mi x y z hb () us ac=some (zR er n [] [],now,q,(),(),D,K,V,s,B,(),c',r,e',(),ca',cq',mi,x,y,z,hb,(),us,ac')) :
  Jh (13,0,0,[],zTx,zQy,[],()) now q () () D K V s B () c r e () ca cq mi x y z hb () us ac=some (zR er n [] [],now,q,(),(),D,K,V,s,(),c',r,e',(),ca',cq',mi,x,y,z,hb,(),us,B,ac'):=by
 unfold Jh
 rw [J6h (show ¬ (13:Int)=1 by decide),J6h (show ¬ (13:Int)=2 by decide),J6h (show ¬ (13:Int)=3 by decide),J6h (show ¬ (13:Int)=4 by decide),J6h (show ¬ (13:Int)=5 by decide),J6h (show ¬ (13:Int)=6 by decide),J6h (show ¬ (13:Int)=7 by decide),J6h (show ¬ (13:Int)=8 by decide),J6h (show ¬ (13:Int)=9 by decide),J6h (show ¬ (13:Int)=10 by decide),J6h (show ¬ (13:Int)=11 by decide),J6h (show ¬ (13:Int)=12 by decide),J6j (show (13:Int)=13 from rfl)]
 show andThen (Ju now q () () D K V s B () c r e () ca cq mi x y z hb () us ac) _=_
 rw [h]
 try rfl
theorem getP (k k2:Int) (v:Ce):∀ e:List (Int×Ce),J6o ib k2 (J6w ib k v e)=if k2=k then some v else J6o ib k2 e
 | []=>by
  unfold J6w J6o
  rw [Jat]
  by_cases c:k2=k
  ·rw [decide_eq_true c,cond_true,if_pos c]
  ·rw [decide_eq_false c,cond_false,if_neg c]; rfl
 | p::e=>by
  unfold J6w
  rw [Jat]
  by_cases c:k=p.1
  ·rw [decide_eq_true c,cond_true]
   unfold J6o
   rw [Jat]
   by_cases c2:k2=k
   ·rw [decide_eq_true (show k2=(p.1,v).1 from c2.trans c),cond_true,if_pos c2]
   ·have c3:¬ k2=p.1:=fun h=>c2 (h.trans c.symm)
    rw [decide_eq_false (show ¬ k2=(p.1,v).1 from c3),cond_false,cond_false,if_neg c2]
  ·rw [decide_eq_false c,cond_false]
   unfold J6o
   rw [Jat]
   by_cases c2:k2=p.1
   ·rw [decide_eq_true c2,cond_true,cond_true,if_neg (fun h=>c (by rw [← h,c2]))]
   ·rw [decide_eq_false c2,cond_false,cond_false]; exact getP k k2 v e
theorem lenP (k:Int) (v:Ce):∀ e:List (Int×Ce),(J6w ib k v e).length=if (J6o ib k e).isSome=true then e.length else e.length+1
 | []=>rfl
 | p::e=>by
  unfold J6w J6o
  rw [Jat]
  by_cases c:k=p.1
  ·rw [decide_eq_true c,cond_true,cond_true]; rfl
  ·rw [decide_eq_false c,cond_false,cond_false,List.length_cons,lenP k v e]
   split <;> simp
def cntC (e:List (Int×Ce)):Nat→Nat
 | 0=>0
 | i+1=>cntC e i+if (J6o ib ((i:Int)+1) e).isSome=true then 1 else 0
theorem K1k (e:List (Int×Ce)):∀ i,cntC e i≤i
 | 0=>Nat.le_refl _
 | i+1=>by unfold cntC; have:=K1k e i; split <;> omega
theorem cnt_lt {e:List (Int×Ce)} {j:Nat} (h:(J6o ib ((j:Int)+1) e).isSome=false):∀ i,j < i→cntC e i+1≤i
 | 0,hj=>by omega
 | i+1,hj=>by
  unfold cntC
  by_cases c:j=i
  ·subst c; rw [h]; have:=K1k e j; simp; omega
  ·have:=cnt_lt h i (by omega); split <;> omega
theorem Jw1 {e:List (Int×Ce)} {j:Nat} (v:Ce):∀ i,cntC (J6w ib ((j:Int)+1) v e) i=cntC e i+if j < i∧(J6o ib ((j:Int)+1) e).isSome=false then 1 else 0
 | 0=>by simp [cntC]
 | i+1=>by
  unfold cntC
  rw [Jw1 v i,getP]
  by_cases c:i=j
  ·subst c
   rw [if_pos (show ((i:Int)+1)=(i:Int)+1 from rfl)]
   cases (J6o ib ((i:Int)+1) e).isSome <;> simp
  ·rw [if_neg (show ¬ ((i:Int)+1=(j:Int)+1) by omega)]
   have:(j < i+1∧(J6o ib ((j:Int)+1) e).isSome=false)↔(j < i∧(J6o ib ((j:Int)+1) e).isSome=false):=by constructor <;> (rintro ⟨a,b⟩; exact ⟨by omega,b⟩)
   simp only [this]
   split <;> split <;> omega
def CaOk (m:Nat) (e:List (Int×Ce)):Prop:=e.length=cntC e m
theorem K2q {m:Nat} (hm:m≤6) {e:List (Int×Ce)} (h:CaOk m e) {j:Nat} (hj:j < m):(J6o ib ((j:Int)+1) e).isSome=true∨e.length < 6:=by
 cases c:(J6o ib ((j:Int)+1) e).isSome with
 | true=>exact .inl rfl
 | false=>have:=cnt_lt c m hj; unfold CaOk at h; exact .inr (by omega)
theorem ca_put {m:Nat} {e:List (Int×Ce)} (h:CaOk m e) {j:Nat} (hj:j < m) (v:Ce):CaOk m (J6w ib ((j:Int)+1) v e):=by
 unfold CaOk at h ⊢
 rw [lenP,Jw1,h]
 cases c:(J6o ib ((j:Int)+1) e).isSome with
 | true=>rw [if_pos rfl,if_neg (fun x=>by cases x.2)]; rfl
 | false=>rw [if_neg (by simp),if_pos ⟨hj,rfl⟩]
theorem Jsa (k k2:Int) (v:Ce) (e:List (Int×Ce)):Jbb (J6w ib k v e) k2=if k2=k then v.1.2.1 else Jbb e k2:=by
 unfold Jbb
 rw [getP]
 split <;> rfl
def Jak (y:Ent):Ent:=if 0 < y.2.2.1 then (y.1,y.2.1,0,()) else y
section
variable (g : Nat → Ent) (h : Int) (l : List Pr) (b : Int) (e : List (Int × Ce))
noncomputable def J7a:Nat→List CalT
 | 0=>[]
 | i+1=>J7a i++if 0 < (g i).2.2.1 then [J93 ((i:Int)+1) (g i).1 h l] else []
noncomputable def J9e:Nat→List (Int×Ce)
 | 0=>e
 | i+1=>if 0 < (g i).2.2.1 then J6w ib ((i:Int)+1) (J93 ((i:Int)+1) (g i).1 h l,b,()) (J9e i) else J9e i
theorem Jdm:∀ i,(J7a g h l i).length≤i
 | 0=>Nat.le_refl _
 | i+1=>by unfold J7a; rw [List.length_append]; have:=Jdm i; split <;> simp <;> omega
theorem Jn2 {i:Nat} (c:0 < (g i).2.2.1):J7a g h l (i+1)=J7a g h l i++[J93 ((i:Int)+1) (g i).1 h l]:=by show _++_=_; rw [if_pos c]
theorem Jt5 {i:Nat} (c:¬ 0 < (g i).2.2.1):J7a g h l (i+1)=J7a g h l i:=by show _++_=_; rw [if_neg c,List.append_nil]
theorem Jhy {i:Nat} (c:0 < (g i).2.2.1):J9e g h l b e (i+1)=J6w ib ((i:Int)+1) (J93 ((i:Int)+1) (g i).1 h l,b,()) (J9e g h l b e i):=if_pos c
theorem Jli {i:Nat} (c:¬ 0 < (g i).2.2.1):J9e g h l b e (i+1)=J9e g h l b e i:=if_neg c
end
theorem Jjo (g:Nat→Ent) (h:Int) {l:List Pr} (hrow:RowG l):∀ i,∀ c ∈ J7a g h l i,Jcl c
 | 0,c,hc=>by cases hc
 | i+1,c,hc=>by
  unfold J7a at hc
  rcases List.mem_append.1 hc with hc | hc
  ·exact Jjo g h hrow i c hc
  ·split at hc
   ·rw [List.mem_singleton] at hc
    have:=(Jhu ((i:Int)+1) (g i).1 h l hrow).2.1
    subst hc; unfold Jcl J93; dsimp only; omega
   ·cases hc
theorem Jh7 (g:Nat→Ent) (h:Int) (l:List Pr) (b:Int) {m:Nat} {e:List (Int×Ce)} (he:CaOk m e):∀ i,i≤m→CaOk m (J9e g h l b e i)
 | 0,_=>he
 | i+1,hi=>by
  by_cases c:0 < (g i).2.2.1
  ·rw [Jhy g h l b e c]; exact ca_put (Jh7 g h l b he i (by omega)) (by omega) _
  ·rw [Jli g h l b e c]; exact Jh7 g h l b he i (by omega)
theorem Jbs (g:Nat→Ent) (h:Int) (l:List Pr) (b:Int) (e:List (Int×Ce)) {j:Nat}:∀ i,i≤j→Jbb (J9e g h l b e i) ((j:Int)+1)=Jbb e ((j:Int)+1)
 | 0,_=>rfl
 | i+1,hi=>by
  by_cases c:0 < (g i).2.2.1
  ·rw [Jhy g h l b e c,Jsa,if_neg (by omega),Jbs g h l b e i (by omega)]
  ·rw [Jli g h l b e c,Jbs g h l b e i (by omega)]
theorem Jfw (g:Nat→Ent) (h:Int) (l:List Pr) (b:Int) (e:List (Int×Ce)) {j:Nat}:∀ i,j < i→Jbb (J9e g h l b e i) ((j:Int)+1)=if 0 < (g j).2.2.1 then h else Jbb e ((j:Int)+1)
 | 0,hj=>by omega
 | i+1,hi=>by
  by_cases c:0 < (g i).2.2.1
  ·rw [Jhy g h l b e c,Jsa]
   by_cases d:j=i
   ·subst d; rw [if_pos rfl,if_pos c]; rfl
   ·rw [if_neg (by omega),Jfw g h l b e i (by omega)]
  ·rw [Jli g h l b e c]
   by_cases d:j=i
   ·subst d; rw [if_neg c,Jbs g h l b e j (Nat.le_refl _)]
   ·exact Jfw g h l b e i (by omega)
section
variable {n : Nat} {p f : Nat → Int} {R : List (List Pr)} {now0 : List Pr}
theorem Jyq {B:List Block} (hn0:RowB now0) (hR:∀ l ∈ R,RowB l) (hlen:R.length≤16) {g:Nat→Ent} {m:Nat} (hm:m≤6) (hq:∀ j,j < m→(g j).1.1=1∨(g j).1.1=2) {i:Nat} (hi:R.length - 6≤i∧i < R.length) (hrow:RowG (R.getD i [])) {cli:Cli} (hfz:cli.2.2.2.1=false) {now:Int} (hexp:J0h now cli=some false) (hroot:Js ((i:Int)+1) cli=some (J9s (R.getD i []),true,cli))
  {e:List (Int×Ce)} (he:CaOk m e) (hlast:∀ j,j < m→Jbb e ((j:Int)+1) < (i:Int)+1) {r:Int×Int×Int×Unit} (hb:0≤r.2.1) (D:List (List UInt8)) (K:List (List (List UInt8))) (V:List Val) (mi:Mir) (x10 x11 x12:Int) (x13:Bool) (x15:List (List UInt8×Int)) (ac:List CalT) (hac:ac.length≤900) (a0 a1 a2 a3 a6 a8 a9 a10:Int) (er:Int) :
  Ju_1 ((i:Int)+1) 1 now (m:Int) () () D K V (stR now0 R) B () cli r (regF g 0 m) () e ([],()) mi x10 x11 x12 x13 () x15 ac a0 a1 a2 a3 () () er 0 a8 a9 () () =
   some (now,(m:Int),(),(),D,K,V,stR now0 R,B,(),cli,r,regF (fun j=>Jak (g j)) 0 m,(),J9e g ((i:Int)+1) (R.getD i []) r.2.1 e m,(J7a g ((i:Int)+1) (R.getD i []) m,()),mi,x10,x11,x12,x13,(),x15,ac++J7a g ((i:Int)+1) (R.getD i []) m,a0,a1,a2,a3,(),(),er,((J7a g ((i:Int)+1) (R.getD i []) m).length:Int),a8,a9,(),()):=by
 have hend:regF (part Jak g m) 0 m=regF (fun j=>Jak (g j)) 0 m:=J9i m 0 fun j _ h2=>if_pos (by omega)
 have hst:regF (part Jak g 0) 0 m=regF g 0 m:=Jy2 Jak g m
 rw [← hend,← hst]
 unfold Ju_1
 have:=J6s (step:=fun (s:Int×Cli×List (Int×Ent)×List (Int×Ce)×(List CalT×Unit)×List CalT×Int)=>Ju_1_step ((i:Int)+1) s.1 now (m:Int) () () D K V (stR now0 R) B () s.2.1 r s.2.2.1 () s.2.2.2.1 s.2.2.2.2.1 mi x10 x11 x12 x13 () x15 s.2.2.2.2.2.1 a0 a1 a2 a3 () () er s.2.2.2.2.2.2 a8 a9 () ())
  (fun k (_:Unit)=>((k:Int)+1,cli,regF (part Jak g k) 0 m,J9e g ((i:Int)+1) (R.getD i []) r.2.1 e k,(J7a g ((i:Int)+1) (R.getD i []) k,()),ac++J7a g ((i:Int)+1) (R.getD i []) k,((J7a g ((i:Int)+1) (R.getD i []) k).length:Int))) (fun _ _=>())
  (fun _=>(now,(m:Int),(),(),D,K,V,stR now0 R,B,(),cli,r,regF (part Jak g m) 0 m,(),J9e g ((i:Int)+1) (R.getD i []) r.2.1 e m,(J7a g ((i:Int)+1) (R.getD i []) m,()),mi,x10,x11,x12,x13,(),x15,ac++J7a g ((i:Int)+1) (R.getD i []) m,a0,a1,a2,a3,(),(),er,((J7a g ((i:Int)+1) (R.getD i []) m).length:Int),a8,a9,(),())) m (fun _ _=>True) (fun k w hk _=>⟨?_,trivial⟩) (fun w _=>?_) m 0 () (by omega) trivial
 ·simpa [J7a,J9e] using this
 ·dsimp only
  have hsl:=Jdm g ((i:Int)+1) (R.getD i []) k
  have hgk:part Jak g k k=g k:=if_neg (Nat.lt_irrefl k)
  unfold Ju_1_step
  rw [J6j (by omega),show J08 () cli r (regF (part Jak g k) 0 m) () (J9e g ((i:Int)+1) (R.getD i []) r.2.1 e k) (J7a g ((i:Int)+1) (R.getD i []) k,()) mi x10 x11 x12 x13 () x15=some () from rfl,J6f,openG hk,J6f,hgk,J6k (n:=(k:Int)+1+1) (by omega) (by omega)]
  by_cases c:0 < (g k).2.2.1
  ·rw [decide_eq_true c,show (!true)=false from rfl,J6r]
   rw [K2l hn0 hR hlen hk (by rw [hgk]; exact c) (by rw [hgk]; exact hq k hk) hi hrow hfz hexp hroot (by rw [Jbs _ _ _ _ _ k (Nat.le_refl _)]; exact hlast k hk) (K2q hm (Jh7 _ _ _ _ he k (by omega)) hk) (by omega) (Jjo g _ hrow k) hb _ _ _ _ _ _ _ _ _ _ _ (by rw [List.length_append]; omega),J6f,hgk]
   dsimp only
   rw [J6j rfl,J6k (by omega) (by omega),Jhy _ _ _ _ _ c,Jn2 _ _ _ c]
   have hp:=Jj7 Jak g m k hk
   rw [show Jak (g k)=((g k).1,(g k).2.1,0,()) from if_pos c] at hp
   rw [hp,List.length_append,List.append_assoc]
   rfl
  ·rw [decide_eq_false c,show (!false)=true from rfl,J7m,Jli _ _ _ _ _ c,Jt5 _ _ _ c,Jfb Jak g m k (if_neg c)]
   rfl
 ·dsimp only
  unfold Ju_1_step
  rw [J6h (by omega)]
theorem relayW (hp:PwOk p) (h1:1≤n) (hn:n≤4) (hR:R.length≤16) (hf:Jhq R.length f) {j:Nat} (hj:1≤j∧j < R.length) (T now:Int) (hnow:0≤now∧now≤1099511627776) (q1:¬ T < now - f (j - 1)) (q2:f j≤now) (q:Int) (s:Stt) (r:Int×Int×Int×Unit) (e:List (Int×Ent)) (ca:List (Int×Ce)) (cq:List CalT×Unit) (mi:Mir) (x y z:Int) (hb:Bool) (us:List (List UInt8×Int)) (ac:List CalT) :
  J23 ((j:Int)+1) now q () () (J6n n) (J6t n) (J6m p n) s (BL n p f R) () (cliG n p f R T j) r e () ca cq mi x y z hb () us ac=some (0,cliG n p f R T (j+1)):=by
 unfold J23
 rw [K1g hn hR hj.2,J6f]
 dsimp only
 rw [show (!true)=false from rfl,J6r]
 unfold J1h
 rw [K4t hp h1 hn hR hf hj T now hnow q1 q2]
 rfl
theorem K27 (hp:PwOk p) (h1:1≤n) (hn:n≤4) (hn0:RowB now0) (hR:∀ l ∈ R,RowB l) (hlen:R.length≤16) (hf:Jhq R.length f) {j:Nat} (hj:1≤j∧j+1=R.length) (hrow:RowG (R.getD j [])) {T now:Int} (hnow:0≤now∧now≤1099511627776) (q1:¬ T < now - f (j - 1)) (q2:f j≤now) (q3:¬ T < now - f j) {g:Nat→Ent} {m:Nat} (hm:m≤6) (hq:∀ j,j < m→(g j).1.1=1∨(g j).1.1=2)
  {e:List (Int×Ce)} (he:CaOk m e) (hlast:∀ k,k < m→Jbb e ((k:Int)+1) < (j:Int)+1) {r:Int×Int×Int×Unit} (hb:0≤r.2.1) (mi:Mir) (x y z:Int) (hb2:Bool) (us:List (List UInt8×Int)) (ac:List CalT) (hac:ac.length≤900) :
  Ju now (m:Int) () () (J6n n) (J6t n) (J6m p n) (stR now0 R) (BL n p f R) () (cliG n p f R T j) r (regF g 0 m) () e ([],()) mi x y z hb2 () us ac =
   some (zR 0 ((J7a g ((j:Int)+1) (R.getD j []) m).length:Int) [] [],now,(m:Int),(),(),J6n n,J6t n,J6m p n,stR now0 R,BL n p f R,(),cliG n p f R T (j+1),r,regF (fun k=>Jak (g k)) 0 m,(),J9e g ((j:Int)+1) (R.getD j []) r.2.1 e m,(J7a g ((j:Int)+1) (R.getD j []) m,()),mi,x,y,z,hb2,(),us,ac++J7a g ((j:Int)+1) (R.getD j []) m):=by
 have hBL:=Jva n p f R
 unfold Ju
 rw [show J21 () (J6n n) (J6t n) (J6m p n) (stR now0 R) (BL n p f R)=some ((j:Int)+1) from by unfold J21; rw [hBL,← hj.2]; rfl,J6f]
 unfold J1p J22
 rw [show (cliG n p f R T j).1=hdK n p f R j from rfl,show (cliG n p f R T j).2.1=J6m p n from rfl,Ji0 _ (by rw [Jg2]; omega),J6f,Jfy p hn,J6f,J6f,J6f]
 dsimp only
 rw [latG hj.1,J6f,show (hL n p f R (j - 1)).1=((j - 1:Nat):Int)+1 from hG_1 _ _ _ _ _,J6j (by omega),relayW hp h1 hn hlen hf ⟨hj.1,by omega⟩ T now hnow q1 q2,J6f]
 dsimp only
 rw [Jyq hn0 hR hlen hm hq (i:=j) (by omega) hrow rfl (by rw [expG hp hn hlen hf (by omega) T now hnow,show j+1 - 1=j from rfl,decide_eq_false q3]) (by
  have:=rootG (n:=n) (p:=p) (f:=f) (R:=R) (j:=j+1) T (h:=j) (by omega)
  exact this) he hlast hb _ _ _ _ _ _ _ _ _ _ hac 0 0 0 0 0 0 0 0 0,J6f]
end
def fI (j:Nat):Int:=(j:Int)+1
theorem Jwq (m:Nat) (hm:m≤1000):Jhq m fI:=⟨fun i hi=>by unfold fI; omega,fun i hi=>by unfold fI; omega⟩
def J7x (b:Int) (g:Nat→Ent):Nat→Ent:=fun j=>askG (b+1) (J8f (b+1) (g j))
theorem Jyw (R:List (List Pr)) (l:List Pr):(R++[l]).getD R.length []=l:=by
 rw [List.getD_eq_getElem?_getD,List.getElem?_append_right (Nat.le_refl _)]; simp
theorem K28 {R:List (List Pr)} {l:List Pr} (hR:∀ x ∈ R,RowB x) (hl:RowB l):∀ x ∈ R++[l],RowB x:=fun x hx=>by
 rcases List.mem_append.1 hx with h | h
 ·exact hR x h
 ·rw [List.mem_singleton.1 h]; exact hl
section
variable {n : Nat} {p : Nat → Int} {R : List (List Pr)} {now0 : List Pr}
theorem Jw2 (hp:PwOk p) (h1:1≤n) (hn:n≤4) (hn0:RowB now0) (hR:∀ l ∈ R,RowB l) (hlen:1≤R.length∧R.length < 16) :
  Jd ((R.length:Int)+1) () (J6n n) (J6t n) (J6m p n) (stR now0 R) (BL n p fI R)=some ((R.length:Int)+1,(),J6n n,J6t n,J6m p n,stR now0 (R++[now0]),BL n p fI R,BL n p fI (R++[now0])):=
 K2u (f:=fI) hp h1 hn hlen hR hn0 (fun j hj=>by unfold fI; omega) (by unfold fI; omega)
theorem K25 {b:Int} (hp:PwOk p) (h1:1≤n) (hn:n≤4) (hn0:RowB now0) (hR:∀ l ∈ R,RowB l) (hlen:1≤R.length∧R.length < 16) (hrow:RowG now0) {T:Int} (hT:1≤T) {g:Nat→Ent} {m:Nat} (hm:m≤6) (hg:∀ j,Jhp (g j)) (hq:∀ j,j < m→(J7x b g j).1.1=1∨(J7x b g j).1.1=2)
  {e:List (Int×Ce)} (he:CaOk m e) (hlast:∀ j,j < m→Jbb e ((j:Int)+1) < (R.length:Int)+1) {a l:Int} (hb:0≤b∧b < 100000) (hl:0≤l∧l≤100000) {cl:List CalT} (hcl:cl.length≤100) {y z:Int} {us:List (List UInt8×Int)} {s t:Mst3} (hc:Jho y z us cl s t) (ac:List CalT) (hac:ac.length≤900) {N i c:Int} (hi:i < c) (hi0:0≤i∧i≤1000) (hN:0≤N∧N≤1000) :
  J0e_1_step 1 N c i (R.length:Int) (m:Int) () () (J6n n) (J6t n) (J6m p n) (stR now0 R) () (cliG n p fI R T R.length) (a,b,l,()) (regF g 0 m) () e (cl,()) s.1 s.2.1 y z s.2.2 () us (BL n p fI R) ac =
   some (.inl (N+((J7a (J7x b g) ((R.length:Int)+1) now0 m).length:Int),i+1,(R.length:Int)+1,(m:Int),(),(),J6n n,J6t n,J6m p n,stR now0 (R++[now0]),(),cliG n p fI (R++[now0]) T (R.length+1),(a,b+1,l+(J8i (fun j=>J7n (b+1) (g j)) m).length,()),regF (fun j=>Jak (J7x b g j)) 0 m,(),J9e (J7x b g) ((R.length:Int)+1) now0 (b+1) e m,(J7a (J7x b g) ((R.length:Int)+1) now0 m,()),t.1,t.2.1,y,z,t.2.2,(),us,BL n p fI (R++[now0]),ac++J7a (J7x b g) ((R.length:Int)+1) now0 m)):=by
 have hl2:(R++[now0]).length=R.length+1:=by rw [List.length_append]; rfl
 have hs:=Jdm (J7x b g) ((R.length:Int)+1) now0 m
 have h3:=Jrr (R.length:Int) (m:Int) (J6n n) (J6t n) (J6m p n) (stR now0 R) (BL n p fI R) (cliG n p fI R T R.length) (a,b,l,()) (regF g 0 m) e (cl,()) s.1 s.2.1 y z s.2.2 us ac ((R.length:Int)+1) (by omega) (by omega)
 have h2:=Jnv ((R.length:Int)+1) (m:Int) (J6n n) (J6t n) (J6m p n) (stR now0 R) (BL n p fI R) (cliG n p fI R T R.length) (a,b,l,()) (regF g 0 m) e (cl,()) s.1 s.2.1 y z s.2.2 us ac ((R.length:Int)+1) ((R.length:Int)+1) (by omega) _ _ _ (Jw2 hp h1 hn hn0 hR hlen)
 have hcb:=Jrn (cliG n p fI R T R.length) (m:=m) (by omega) hg a b l hb hl e cl hcl y z us s t hc
 rw [show (fun j=>askG (b+1) (J8f (b+1) (g j)))=J7x b g from rfl] at hcb
 have h5:=Jrq ((R.length:Int)+1) (m:Int) (J6n n) (J6t n) (J6m p n) (stR now0 (R++[now0])) (BL n p fI (R++[now0])) (cliG n p fI R T R.length) (a,b,l,()) (regF g 0 m) e (cl,()) s.1 s.2.1 y z s.2.2 us ac _ _ t _ _ hcb
 have hsv:=K27 (n:=n) (p:=p) (f:=fI) (R:=R++[now0]) (now0:=now0) hp h1 hn hn0 (K28 hR hn0) (by omega) (Jwq _ (by omega)) (j:=R.length) (by omega) (by rw [Jyw]; exact hrow) (T:=T) (now:=(R.length:Int)+1) (by omega) (by unfold fI; omega) (by unfold fI; omega) (by unfold fI; omega) hm hq he hlast (r:=(a,b+1,l+(J8i (fun j=>J7n (b+1) (g j)) m).length,())) (by show 0≤b+1; omega) t.1 t.2.1 y z t.2.2 us ac hac
 rw [Jyw,Jnt n p fI R now0 T (Nat.le_refl _)] at hsv
 have h13:=Jrs ((R.length:Int)+1) (m:Int) (J6n n) (J6t n) (J6m p n) (stR now0 (R++[now0])) (BL n p fI (R++[now0])) (cliG n p fI R T R.length) (a,b+1,l+(J8i (fun j=>J7n (b+1) (g j)) m).length,()) (regF (J7x b g) 0 m) e ([],()) t.1 t.2.1 y z t.2.2 us ac _ _ 0 0 _ _ _ _ _ hsv
 unfold J0e_1_step
 rw [J6j hi]
 simp only [J32,J6f]
 rw [show max (1:Int) 1=1 from rfl,J6k (n:=(R.length:Int)+1) (by omega) (by omega)]
 rw [show Jh _ _ _ _ _ _ _ _ _ _ _ _ _ _ _ _ _ _ _ _ _ _ _ _ _=_ from h3,J6f]
 dsimp only
 rw [show Jh _ _ _ _ _ _ _ _ _ _ _ _ _ _ _ _ _ _ _ _ _ _ _ _ _=_ from h2,J6f]
 dsimp only
 rw [show Jh _ _ _ _ _ _ _ _ _ _ _ _ _ _ _ _ _ _ _ _ _ _ _ _ _=_ from h5,J6f]
 dsimp only
 rw [show Jh _ _ _ _ _ _ _ _ _ _ _ _ _ _ _ _ _ _ _ _ _ _ _ _ _=_ from h13,J6f]
 dsimp only
 rw [J6k (by omega) (by omega),J6k (by omega) (by omega)]
end
def R1:Pr:=([115,47,97],[9,0],())
theorem Jts:J03 [R1]=some (9,true):=Jgo [([97],9,0)] (by simp) (fun x hx=>by rw [List.mem_singleton.1 hx]; exact ⟨⟨by decide,by decide⟩,by decide,by decide⟩) (by decide)
theorem Jyh:J89 [R1]:=by simp [J89]
theorem K26:Jzo [R1]:=⟨Jyh,by decide,by decide,by decide⟩
theorem Jr1:RowB [R1]:=by
 have h:=st_set (Jpl Jz4) ([115,47,97],[9,0],())
 exact h.1
theorem Jpd:∀ l ∈ [([]:List Pr)],RowB l:=fun l h=>by rw [List.mem_singleton.1 h]; exact Jc7
theorem Jwa:J41 [] [97] 9=some ([R1],0):=
 K15 [] Jc7 [97] ⟨by simp,by simp⟩ rfl (by simp) 9 ⟨by decide,by decide⟩ 9 Jts
theorem K39 (D:List (List UInt8)) (K:List (List (List UInt8))) (V:List Val) (B:List Block):J20 (3,[97],[],9,0,()) () D K V (stR [] [[]]) B=some (0,stR [R1] [[]]):=by
 unfold J20
 have e:J0k ([115,47,97],[9,0],()) ([],1,[[]],())=some (true,([R1],1,[[]],())):=by
  rw [K0z _ (by
   have:=Jpl Jz4
   exact this)]
  rfl
 rw [show stR [] [[]]=(([],1,[[]],()):Stt) from rfl,Jhm _ (by simp),J6f]
 show andThen (J41 [] [97] 9) _=_
 rw [Jwa,J6f,J6j (show ((([R1],(0:Int)):List Pr×Int).2=0) from rfl)]
 show andThen (J1e [97]) _=_
 rw [show J1e [97]=some [115,47,97] from rfl,J6f,Jg4 [R1] Jyh (by simp),J6f,J6f]
 show andThen (J0k ([115,47,97],[9,0],()) ([],1,[[]],())) _=_
 rw [e]
 rfl
abbrev zM:Mir:=(0,0,[],false,())
theorem K1i (h:Int) (l:List Pr):J93 1 Qm h l=(1,h,J9y l [115,47] [115,48],()):=by
 unfold J93 ansS
 rw [if_neg (fun h=>by cases h.1)]
 rfl
theorem Jvy (h:Int):J93 1 Qm h [R1]=(1,h,rowR [([97],9,0)],()):=by rw [K1i]; rfl
theorem led0:Jvb 0 0 0 []:=⟨by omega,by omega,by omega,by omega,by omega,rfl,trivial⟩
def gB (b:Int):Nat→Ent:=fun _=>(Qm,b+1,0,())
theorem K33 (b:Int):∀ j,Jhp (gB b j):=fun _=>⟨by show (0:Int)≤1; omega,by show (1:Int)≤1000; omega,by show (0:Int)≤3; omega,by show (3:Int)≤1000; omega⟩
theorem Jcv (b:Int) (h:0≤b):J7x b (gB b)=fun _=>(Qm,b+1+1,b+1+3,()):=by
 funext j
 unfold J7x J8f J7n gB askG J9q
 simp [Qm]
 omega
theorem Jyt (b:Int) (h:0≤b):(fun j=>Jak (J7x b (gB b) j))=gB (b+1):=by
 rw [Jcv b h]
 funext j
 unfold Jak gB
 rw [if_pos (show 0 < b+1+3 by omega)]
theorem Jxe (b:Int) (h:0≤b):J8i (fun j=>J7n (b+1) (gB b j)) 1=[]:=rfl
theorem Jyp (b:Int) (h:0≤b) (t:Int) (l:List Pr):J7a (J7x b (gB b)) t l 1=[J93 1 Qm t l]:=by
 rw [Jn2 _ _ _ (by rw [Jcv b h]; show 0 < b+1+3; omega),Jcv b h]
 rfl
theorem Jvx (b:Int) (h:0≤b) (t u:Int) (l:List Pr) (e:List (Int×Ce)):J9e (J7x b (gB b)) t l u e 1=J6w ib 1 (J93 1 Qm t l,u,()) e:=by
 rw [Jhy _ _ _ _ _ (by rw [Jcv b h]; show 0 < b+1+3; omega),Jcv b h]
 rfl
section
variable {n : Nat} {p : Nat → Int}
theorem K4h (hp:PwOk p) (h1:1≤n) (hn:n≤4):∃ r e ca cq ac,J0e 2 1 1 1 () () (J6n n) (J6t n) (J6m p n) (stR [R1] [[]]) (BL n p fI [[]]) () (cliG n p fI [[]] 50 1) (1,0,0,()) (regF (gB 0) 0 1) () [] ([],()) zM 0 0 0 false () [] [] =
  some (2,3,1,(),(),J6n n,J6t n,J6m p n,stR [R1] [[],[R1],[R1]],(),(cliG n p fI [[],[R1],[R1]] 50 3),r,e,(),ca,([cq],()),(2,9,[R1],false,()),9,0,0,false,(),[],BL n p fI [[],[R1],[R1]],ac)∧Jcl cq:=by
 have A:=K25 (b:=0) (R:=[[]]) (now0:=[R1]) (T:=50) (g:=gB 0) (m:=1) (e:=[]) (a:=1) (l:=0) (cl:=[]) (y:=0) (z:=0) (us:=[]) (s:=(zM,0,false)) (t:=(zM,0,false)) (N:=0) (i:=0) (c:=2) hp h1 hn Jr1 Jpd (by simp) (K49 K26) (by omega) (by omega) (K33 0) (fun j hj=>by rw [Jcv 0 (by omega)]; exact .inr rfl) rfl (fun j hj=>by show (0:Int) < 2; omega) (by omega) (by omega) (by simp) rfl [] (by simp) (by omega) (by omega) (by omega)
 rw [Jyt 0 (by omega),Jxe 0 (by omega),Jyp 0 (by omega),Jvx 0 (by omega)] at A
 have hco:=(Jk7 [([97],9,0)] (by simp) (fun x hx=>by rw [List.mem_singleton.1 hx]; exact ⟨⟨by decide,by decide⟩,by decide,by decide⟩) ((Jf2 _ (by simp [rowR])).trans rfl) 2 ((zM,0,false):Mst3) (by simp) (y:=0) (z:=0) (us:=[]) led0 (by decide)).1
 have Bq:=K25 (b:=0+1) (R:=[[],[R1]]) (now0:=[R1]) (T:=50) (g:=gB (0+1)) (m:=1) (e:=J6w ib 1 (J93 1 Qm 2 [R1],0+1,()) []) (a:=1) (l:=0+0) (cl:=[J93 1 Qm 2 [R1]]) (y:=0) (z:=0) (us:=[]) (s:=(zM,0,false)) (t:=((2,9,[R1],false,()),9,false)) (N:=0+1) (i:=0+1) (c:=2) hp h1 hn Jr1 (K28 Jpd Jr1) (by simp) (K49 K26) (by omega) (by omega) (K33 _) (fun j hj=>by rw [Jcv (0+1) (by omega)]; exact .inr rfl) rfl (fun j hj=>by
  obtain rfl:j=0:=by omega
  show (2:Int) < 3; omega) (by omega) (by omega) (by simp) ⟨_,by rw [Jvy]; exact hco,rfl⟩ [J93 1 Qm 2 [R1]] (by simp) (by omega) (by omega) (by omega)
 rw [Jyt (0+1) (by omega),Jxe (0+1) (by omega),Jyp (0+1) (by omega),Jvx (0+1) (by omega)] at Bq
 refine ⟨(1,2,0,()),regF (gB 2) 0 1,J6w ib 1 (J93 1 Qm 3 [R1],2,()) (J6w ib 1 (J93 1 Qm 2 [R1],1,()) []),J93 1 Qm 3 [R1],[J93 1 Qm 2 [R1],J93 1 Qm 3 [R1]],?_,by rw [Jvy]; show (1:Nat)≤1000; omega⟩
 unfold J0e J0e_1
 rw [show max (2:Int) 0=2 from rfl,J79 (s':=_) A,J79 (s':=_) Bq,J71 rfl]
 rfl
theorem K3 (hn:n≤4) {R:List (List Pr)} (f:Nat→Int) (now q:Int) (s:Stt) (B:List Block) (T:Int) (j:Nat) (r:Int×Int×Int×Unit) (e:List (Int×Ent)) (ca:List (Int×Ce)) (cl:List CalT) (hcl:cl.length≤100) (hc:∀ c ∈ cl,Jcl c) (mh mb:Int) (mr:List Pr) (hmr:mr.length≤1000) (mx:Bool) (x y z:Int) (hb:Bool) (us:List (List UInt8×Int)) (ac:List CalT) :
  J2v now q () () (J6n n) (J6t n) (J6m p n) s B () (cliG n p f R T j) r e () ca (cl,()) (mh,mb,mr,mx,()) x y z hb () us ac =
   some ((),(T,false,()),hdK n p f R j,J6m p n,(),(cl,()),mh,mb,(mx,()),mr):=by
 unfold J2v J38 J22
 rw [show (cliG n p f R T j).1=hdK n p f R j from rfl,show (cliG n p f R T j).2.1=J6m p n from rfl,Ji0 _ (by rw [Jg2]; omega),J6f,Jfy p hn,J6f,J6f]
 unfold J40 J3m J34 Jf
 rw [show J27 r e=some () from rfl,J6f,show J3y () ca=some () from rfl,J6f,Jq1 cl (by omega) hc,J6f,J6f,J6g (by dsimp only; omega),J6f,J6f,show J2t x y z hb () us=some () from rfl,J6f,J6f]
 rfl
theorem awakeN (hp:PwOk p) (h1:1≤n) (hn:n≤4) (hch:Jj [1]=some ((),J6n n,J6t n,J7v n,J6m p n)):J3u=some true:=by
 obtain ⟨r,e,ca,cq,ac,hS,hcq⟩:=K4h (n:=n) (p:=p) hp h1 hn
 have hw:=Jpt (n:=n) (p:=p) (f:=fI) hp h1 hn rfl 50 (by omega)
 rw [show ([hL n p fI [[]] 0],J6m p n,(50:Int),false,())=cliG n p fI [[]] 50 1 from rfl,show regF gM 0 1=regF (gB 0) 0 1 from rfl] at hw
 have hT:=do_tx0 1 1 (J6n n) (J6t n) (J6m p n) (stR [] [[]]) (BL n p fI [[]]) (cliG n p fI [[]] 50 1) (1,0,0,()) (regF (gB 0) 0 1) [] ([],()) zM 0 0 0 false [] (3,[97],[],9,0,()) 0 (stR [R1] [[]]) (K39 _ _ _ _)
 have hC:=K3 (n:=n) (p:=p) hn fI 3 1 (stR [R1] [[],[R1],[R1]]) (BL n p fI [[],[R1],[R1]]) 50 3 (R:=[[],[R1],[R1]]) r e ca [cq] (by simp) (by simpa using hcq) 2 9 [R1] (by simp) false 9 0 0 false [] ac
 unfold J3u
 rw [hch,J6f]
 dsimp only
 rw [hw,J6f]
 dsimp only
 rw [show (!decide ((0:Int)=0))=false from rfl,J6r]
 rw [show J37 _ _ _ _ _ _ _ _ _ _ _ _ _ _ _ _ _ _ _ _ _ _ _ _=_ from hT,J6f]
 dsimp only
 rw [hS,J6f]
 dsimp only
 rw [hC,J6f]
 rfl
end
theorem Jtr:J3u=some true:=by
 obtain ⟨h1,hn⟩:=Jt6 [1]
 exact awakeN (K3r [1]) h1 hn (Jrm [1] (by simp))
def R0 (k:Nat):List (List Pr):=List.replicate k []
theorem K1b (k:Nat):(R0 k).length=k:=List.length_replicate
theorem Jvc (k:Nat):R0 k++[[]]=R0 (k+1):=List.replicate_succ'.symm
theorem R0_b (k:Nat):∀ l ∈ R0 k,RowB l:=fun l h=>by rw [List.eq_of_mem_replicate h]; exact Jc7
theorem R0_at (k i:Nat):(R0 k).getD i []=[]:=by
 rw [List.getD_eq_getElem?_getD,R0,List.getElem?_replicate]
 split <;> rfl
theorem Jyl:RowG []:=K49 ⟨by simp [J89],by simp,by simp,by simp⟩
section
variable {n : Nat} {p : Nat → Int}
end
abbrev MI:=List (Int×Int)
theorem getI (k k2 v:Int):∀ e:MI,J6o ib k2 (J6w ib k v e)=if k2=k then some v else J6o ib k2 e
 | []=>by
  unfold J6w J6o
  rw [Jat]
  by_cases c:k2=k
  ·rw [decide_eq_true c,cond_true,if_pos c]
  ·rw [decide_eq_false c,cond_false,if_neg c]; rfl
 | p::e=>by
  unfold J6w
  rw [Jat]
  by_cases c:k=p.1
  ·rw [decide_eq_true c,cond_true]
   unfold J6o
   rw [Jat]
   by_cases c2:k2=k
   ·rw [decide_eq_true (show k2=(p.1,v).1 from c2.trans c),cond_true,if_pos c2]
   ·have c3:¬ k2=p.1:=fun h=>c2 (h.trans c.symm)
    rw [decide_eq_false (show ¬ k2=(p.1,v).1 from c3),cond_false,cond_false,if_neg c2]
  ·rw [decide_eq_false c,cond_false]
   unfold J6o
   rw [Jat]
   by_cases c2:k2=p.1
   ·rw [decide_eq_true c2,cond_true,cond_true,if_neg (fun h=>c (by rw [← h,c2]))]
   ·rw [decide_eq_false c2,cond_false,cond_false]; exact getI k k2 v e
theorem Jsu {k v:Int}:∀ {e:MI} {x:Int},x ∈ (J6w ib k v e).map (·.1)→x=k∨x ∈ e.map (·.1)
 | [],x,h=>by
  unfold J6w at h
  rw [List.map_singleton,List.mem_singleton] at h
  exact .inl h
 | p::e,x,h=>by
  unfold J6w at h
  cases c:ib k p.1 with
  | true=>rw [c,cond_true] at h; exact .inr h
  | false=>
   rw [c,cond_false,List.map_cons,List.mem_cons] at h
   rcases h with h | h
   ·exact .inr (by rw [List.map_cons,h]; exact List.mem_cons_self ..)
   ·rcases Jsu h with h | h
    ·exact .inl h
    ·exact .inr (List.mem_cons_of_mem _ h)
theorem Jl3 {k v:Int}:∀ {e:MI},(e.map (·.1)).Nodup→((J6w ib k v e).map (·.1)).Nodup
 | [],_=>by unfold J6w; simp
 | p::e,h=>by
  rw [List.map_cons,List.nodup_cons] at h
  unfold J6w
  cases c:ib k p.1 with
  | true=>rw [cond_true,List.map_cons,List.nodup_cons]; exact h
  | false=>
   rw [Jat,decide_eq_false_iff_not] at c
   rw [cond_false,List.map_cons,List.nodup_cons]
   refine ⟨fun hm=>?_,Jl3 h.2⟩
   rcases Jsu hm with h2 | h2
   ·exact c h2.symm
   ·exact h.1 h2
theorem Js0:∀ {e:MI},(e.map (·.1)).Nodup→∀ p ∈ e,J6o ib p.1 e=some p.2
 | [],_,p,h=>by cases h
 | q::e,hn,p,h=>by
  rw [List.map_cons,List.nodup_cons] at hn
  unfold J6o
  rw [Jat]
  rcases List.mem_cons.1 h with rfl | h
  ·rw [decide_eq_true rfl,cond_true]
  ·rw [decide_eq_false (fun e=>hn.1 (by rw [← e]; exact List.mem_map_of_mem h)),cond_false]
   exact Js0 hn.2 p h
def incF (m:MI) (x:Int):MI:=J6w ib x (w64 (Option.getD (J6o ib x m) 0+1)) m
theorem Joe:∀ (l:List Int) {m:MI},(m.map (·.1)).Nodup→((l.foldl incF m).map (·.1)).Nodup
 | [],_,h=>h
 | x::l,m,h=>Joe l (m:=incF m x) (Jl3 h)
theorem Jod (y:Int):∀ (l:List Int) (m:MI),0≤Option.getD (J6o ib y m) 0→Option.getD (J6o ib y m) 0+l.length≤100000→Option.getD (J6o ib y (l.foldl incF m)) 0=Option.getD (J6o ib y m) 0+l.count y
 | [],m,_,_=>by simp
 | x::l,m,h0,h1=>by
  rw [List.length_cons] at h1
  have e:Option.getD (J6o ib y (incF m x)) 0=Option.getD (J6o ib y m) 0+(if x=y then 1 else 0):=by
   unfold incF
   rw [getI]
   by_cases c:y=x
   ·subst c; rw [if_pos rfl,if_pos rfl,Option.getD_some,J6k (by omega) (by omega)]
   ·rw [if_neg c,if_neg (fun e=>c e.symm),Int.add_zero]
  have ih:=Jod y l (incF m x) (by rw [e]; split <;> omega) (by rw [e]; split <;> omega)
  rw [List.foldl_cons,ih,e,List.count_cons]
  by_cases c:x=y
  ·rw [if_pos c,if_pos (by simpa using c)]; omega
  ·rw [if_neg c,if_neg (by simpa using c)]; omega
def QOk (q:Qry):Prop:=J54 q=some true∧(q.1=1∨q.1=2)∧(0≤q.2.2.2.1∧q.2.2.2.1≤5)∧(1≤q.2.2.2.2.1∧q.2.2.2.2.1≤6)
theorem Juz {x y:List UInt8} (h:J6z y x=true):J6z x y=false:=by
 cases c:J6z x y with
 | false=>rfl
 | true=>have:=J7z _ _ _ h c; rw [J9t] at this; cases this
theorem Jsv {q:Qry} (k1:1≤q.2.1.length∧q.2.1.length≤16) (p:0≤q.2.2.2.1∧q.2.2.2.1≤5) (d:1≤q.2.2.2.2.1∧q.2.2.2.2.1≤6) (h:q.1=1∧q.2.2.1=[]∨q.1=2∧q.2.2.1.length≤16∧J6z q.2.2.1 q.2.1=false):J54 q=some true:=by
 unfold J54
 rw [J6h (fun e=>by rw [e] at k1; simp at k1),J6h (by omega),J6h (by omega),J6h (by omega),J6h (by omega),J6h (by omega)]
 rcases h with ⟨e,h⟩ | ⟨e,h,h2⟩
 ·rw [J6j e,h]; rfl
 ·rw [J6h (by omega),J6j e,J6j (by omega),h2]; rfl
theorem Jy7 (k:Int×Int×Int×Int×Int×Unit):∃ q,J2y k=some q∧QOk q:=by
 obtain ⟨a,ha,ea⟩:=Jx9 k.2.1
 obtain ⟨b,hb,eb⟩:=Jx9 k.2.2.1
 have hx:=Js8 _ (J7d (z:=[]) (show a < Jf0.length from ha))
 have hy:=Js8 _ (J7d (z:=[]) (show b < Jf0.length from hb))
 generalize Jf0.getD a []=x at ea hx
 generalize Jf0.getD b []=y at eb hy
 obtain ⟨r,er,r1,r2⟩:=Jd8 k.2.2.2.1 0 5 (by omega) (by omega) (by omega)
 obtain ⟨s,es,s1,s2⟩:=Jd8 k.2.2.2.2.1 1 6 (by omega) (by omega) (by omega)
 have hs:QOk (2,[115,47],[115,48],r,s,()):=⟨Jsv ⟨show 1≤2 by decide,show 2≤16 by decide⟩ ⟨r1,r2⟩ ⟨s1,s2⟩ (.inr ⟨rfl,show 2≤16 by decide,show J6z [115,48] [115,47]=false by decide⟩),.inr rfl,⟨r1,r2⟩,⟨s1,s2⟩⟩
 unfold J2y
 rw [ea,J6f,er,J6f,es,J6f,eb,J6f]
 by_cases c1:band k.1 1=1
 ·rw [J6j c1]
  by_cases c3:Int.tmod k.1 4=3
  ·cases J6z y x with
   | true=>rw [J7m,J6j c3]; exact ⟨_,rfl,hs⟩
   | false=>rw [J6r,J6j c3]; exact ⟨_,rfl,hs⟩
  ·cases c:J6z y x with
   | true=>rw [J7m,J6h c3]; exact ⟨_,rfl,Jsv ⟨hy.1,show y.length≤16 by omega⟩ ⟨r1,r2⟩ ⟨s1,s2⟩ (.inr ⟨rfl,show x.length≤16 by omega,Juz c⟩),.inr rfl,⟨r1,r2⟩,⟨s1,s2⟩⟩
   | false=>rw [J6r,J6h c3]; exact ⟨_,rfl,Jsv ⟨hx.1,show x.length≤16 by omega⟩ ⟨r1,r2⟩ ⟨s1,s2⟩ (.inr ⟨rfl,show y.length≤16 by omega,c⟩),.inr rfl,⟨r1,r2⟩,⟨s1,s2⟩⟩
 ·rw [J6h c1]
  by_cases c3:Int.tmod k.1 4=3
  ·rw [J6j c3]; exact ⟨_,rfl,hs⟩
  ·rw [J6h c3]; exact ⟨_,rfl,Jsv ⟨hx.1,show x.length≤16 by omega⟩ ⟨r1,r2⟩ ⟨s1,s2⟩ (.inl ⟨rfl,rfl⟩),.inl rfl,⟨r1,r2⟩,⟨s1,s2⟩⟩
theorem K1w (x0 x1 x2:Int) (l:List Int) (hl:l.length≤1000) (x6:Int) (x7:Int) (x8:Unit) (x9:Unit) (x10:List (List UInt8)) (x11:List (List (List UInt8))) (x12:List Val) (x13:Stt) (x14:List Block) (x15:Unit) (x16:Cli) (x17:Int×Int×Int×Unit) (x18:List (Int×Ent)) (x19:Unit) (x20:List (Int×Ce)) (x21:List CalT×Unit) (x22:Mir) (x23:Int) (x24:Int) (x25:Int) (x26:Bool) (x27:Unit) (x28:List (List UInt8×Int)) (x29:List CalT) (x31:MI) (x32:WRes):∀ (d:List Int) (i:Nat) (mp:MI),l.drop i=d→i+d.length=l.length→
  J2_2 x0 x1 x2 l (l.length:Int) (i:Int) x6 x7 x8 x9 x10 x11 x12 x13 x14 x15 x16 x17 x18 x19 x20 x21 x22 x23 x24 x25 x26 x27 x28 x29 mp x31 x32=some (x0,x1,x2,x6,x7,x8,x9,x10,x11,x12,x13,x14,x15,x16,x17,x18,x19,x20,x21,x22,x23,x24,x25,x26,x27,x28,x29,d.foldl incF mp,x31,x32)
 | [],i,mp,hd,hi=>by
  unfold J2_2
  refine J71 ?_
  show J2_2_step x0 x1 x2 l (l.length:Int) (i:Int) x6 x7 x8 x9 x10 x11 x12 x13 x14 x15 x16 x17 x18 x19 x20 x21 x22 x23 x24 x25 x26 x27 x28 x29 mp x31 x32=_
  unfold J2_2_step
  rw [J6h (by simp at hi; omega)]
  rfl
 | x::d,i,mp,hd,hi=>by
  rw [List.length_cons] at hi
  have hx:l.getD i 0=x:=by
   have:(l.drop i)[0]?=some x:=by rw [hd]; rfl
   rw [List.getElem?_drop,Nat.add_zero] at this
   rw [List.getD_eq_getElem?_getD,this]; rfl
  have hd2:l.drop (i+1)=d:=by
   have:(l.drop i).drop 1=d:=by rw [hd]; rfl
   rw [List.drop_drop] at this; exact this
  have ih:=K1w x0 x1 x2 l hl x6 x7 x8 x9 x10 x11 x12 x13 x14 x15 x16 x17 x18 x19 x20 x21 x22 x23 x24 x25 x26 x27 x28 x29 x31 x32 d (i+1) (incF mp x) hd2 (by omega)
  rw [List.foldl_cons,← ih]
  unfold J2_2
  rw [J79 (s':=(((i+1:Nat):Int),incF mp x)) (by
   show J2_2_step x0 x1 x2 l (l.length:Int) (i:Int) x6 x7 x8 x9 x10 x11 x12 x13 x14 x15 x16 x17 x18 x19 x20 x21 x22 x23 x24 x25 x26 x27 x28 x29 mp x31 x32=_
   unfold J2_2_step
   rw [J6j (by omega),J6g (by omega),Int.toNat_natCast,hx,J6k (n:=(i:Int)+1) (by omega) (by omega)]
   rfl)]
theorem K1x (x0:Int) (ask:MI) (l:List CalT) (hl:l.length≤1000):∀ (d:List CalT) (i:Nat) (la got:MI),l.drop i=d→i+d.length=l.length→(∀ c ∈ d,Option.getD (J6o ib c.1 la) 0 < c.2.1)→d.Pairwise (fun a b=>a.1=b.1→a.2.1 < b.2.1)→
  J2_4 x0 (l.length:Int) (i:Int) ask la got l=some (x0,ask,(d.map (·.1)).foldl incF got)
 | [],i,la,got,hd,hi,_,_=>by
  unfold J2_4
  refine J71 ?_
  show J2_4_step x0 (l.length:Int) (i:Int) ask la got l=_
  unfold J2_4_step
  rw [J6h (by simp at hi; omega)]
  rfl
 | c::d,i,la,got,hd,hi,hlt,hp=>by
  rw [List.length_cons] at hi
  rw [List.pairwise_cons] at hp
  have hx:l.getD i zCal=c:=by
   have:(l.drop i)[0]?=some c:=by rw [hd]; rfl
   rw [List.getElem?_drop,Nat.add_zero] at this
   rw [List.getD_eq_getElem?_getD,this]; rfl
  have hd2:l.drop (i+1)=d:=by
   have:(l.drop i).drop 1=d:=by rw [hd]; rfl
   rw [List.drop_drop] at this; exact this
  have h0:=hlt c (List.mem_cons_self ..)
  have ih:=K1x x0 ask l hl d (i+1) (J6w ib c.1 c.2.1 la) (incF got c.1) hd2 (by omega) (fun b hb=>by
   rw [getI]
   by_cases e:b.1=c.1
   ·rw [if_pos e]; exact hp.1 b hb e.symm
   ·rw [if_neg e]; exact hlt b (List.mem_cons_of_mem _ hb)) hp.2
  rw [List.map_cons,List.foldl_cons,← ih]
  unfold J2_4
  rw [J79 (s':=(((i+1:Nat):Int),J6w ib c.1 c.2.1 la,incF got c.1)) (by
   show J2_4_step x0 (l.length:Int) (i:Int) ask la got l=_
   unfold J2_4_step
   rw [J6j (by omega),J6g (by omega),Int.toNat_natCast,show ((0:Int),(0:Int),([]:List Pr),())=zCal from rfl,hx,show Ty.beq (.int .i64)=ib from rfl,J6h (by omega),J6k (n:=(i:Int)+1) (by omega) (by omega)]
   rfl)]
theorem Jh0 (x0:Int) (x1:Int) (x2:List CalT):J0o_1_step x0 x1 x2 =
  (fork (decide (x1 < x0)) (need (0≤x1∧x1 < (List.length x2:Int)) (andThen (Jf ((List.getD x2 (Int.toNat x1) zCal).2.2.1)) (fun u6=>some (.inl ((w64 (x1+(1:Int))),(List.set x2 (Int.toNat x1) ((List.getD x2 (Int.toNat x1) zCal).1,(List.getD x2 (Int.toNat x1) zCal).2.1,u6,()))))))) (some (.inr x2)):Option ((Int×List CalT)⊕List CalT)):=rfl
theorem K16 (l:List CalT) (hl:l.length≤1000) (h:∀ c ∈ l,Jcl c):J0o l=some l:=by
 have m:J0o_1 (l.length:Int) 0 l=some l:=by
  unfold J0o_1
  refine J6s (step:=fun (s:Int×List CalT)=>J0o_1_step (l.length:Int) s.1 s.2) (fun i (_:Unit)=>((i:Int),l)) (fun _ _=>()) (fun _=>l) l.length (fun _ _=>True) (fun i w hi _=>⟨?_,trivial⟩) (fun w _=>?_) l.length 0 () (by omega) trivial
  ·show J0o_1_step (l.length:Int) (i:Int) l=_
   have hc:=h _ (J7d (z:=zCal) hi)
   unfold Jcl at hc
   rw [Jh0,J6j (by omega),J6g (by omega),Int.toNat_natCast]
   unfold Jf
   rw [J6g (by omega),J6f,J6k (by omega) (by omega)]
   rw [show ((l.getD i zCal).1,(l.getD i zCal).2.1,(l.getD i zCal).2.2.1,())=l.getD i zCal from rfl,Jt8]
   rfl
  ·show J0o_1_step (l.length:Int) (l.length:Int) l=_
   rw [Jh0,J6h (by omega)]
 unfold J0o J1q
 rw [J6g (by omega),J6f,m]
 rfl
def Jng (m:Nat) (b:Int) (g:Nat→Ent):Prop:=(∀ j,Jhp (g j)∧((g j).1.1=1∨(g j).1.1=2)∧1≤(g j).1.2.2.2.2.1∧(g j).2.2.1=0)∧g 0=(Qm,b+1,0,())
theorem Joj {b:Int} {x:Ent} (h:x.2.2.1=0):J7n b x=false∧J8f b x=x:=by
 have e:J7n b x=false:=by unfold J7n; rw [h]; rfl
 exact ⟨e,by unfold J8f; rw [e]; rfl⟩
theorem Jy4 (m:Nat) {q:Nat→Bool} (h:∀ j,q j=false):J8i q m=[]:=by
 induction m with
 | zero=>rfl
 | succ m ih=>rw [Jl1 (h m),ih]
theorem Jj1 {b:Int} (hb:0≤b) {x:Ent} (h0:x.2.2.1=0) (hd:1≤x.1.2.2.2.2.1):(0 < (askG (b+1) x).2.2.1↔J9q (b+1) x=true)∧(askG (b+1) x).1=x.1:=by
 unfold askG
 cases c:J9q (b+1) x with
 | true=>rw [if_pos rfl]; exact ⟨⟨fun _=>rfl,fun _=>by show 0 < b+1+x.1.2.2.2.2.1; omega⟩,rfl⟩
 | false=>rw [if_neg (by simp)]; exact ⟨⟨fun h=>by omega,fun h=>by cases h⟩,rfl⟩
theorem Jdh {b:Int} (hb:0≤b) {g:Nat→Ent} (hg:∀ j,(g j).2.2.1=0∧1≤(g j).1.2.2.2.2.1) (h:Int) (l:List Pr):∀ m,(J7a (J7x b g) h l m).map (·.1)=J8i (fun j=>J9q (b+1) (J8f (b+1) (g j))) m
 | 0=>rfl
 | m+1=>by
  have hl:=(Joj (b:=b+1) (hg m).1).2
  have hn:J7x b g m=askG (b+1) (g m):=by unfold J7x; rw [hl]
  have ho:=(Jj1 hb (hg m).1 (hg m).2).1
  rw [← hn] at ho
  by_cases c:0 < (J7x b g m).2.2.1
  ·rw [Jn2 _ _ _ c,Jp3 (by rw [hl]; exact ho.1 c),List.map_append,Jdh hb hg h l m]; rfl
  ·rw [Jt5 _ _ _ c,Jl1 (by rw [hl]; rw [← Bool.not_eq_true]; exact fun e=>c (ho.2 e)),Jdh hb hg h l m]
theorem Jgf {g:Nat→Ent} {h:Int} {l:List Pr}:∀ {m:Nat} {c:CalT},c ∈ J7a g h l m→c.2.1=h∧∃ j,j < m∧c=J93 ((j:Int)+1) (g j).1 h l
 | 0,c,hc=>by cases hc
 | m+1,c,hc=>by
  unfold J7a at hc
  rcases List.mem_append.1 hc with hc | hc
  ·obtain ⟨e,j,hj,r⟩:=Jgf hc
   exact ⟨e,j,by omega,r⟩
  ·split at hc
   ·rw [List.mem_singleton] at hc
    exact ⟨by rw [hc]; rfl,m,by omega,hc⟩
   ·cases hc
theorem Jl9 (g:Nat→Ent) (h:Int) (l:List Pr):∀ m,(J7a g h l m).Pairwise (fun a b=>a.1 < b.1)
 | 0=>List.Pairwise.nil
 | m+1=>by
  unfold J7a
  refine List.pairwise_append.2 ⟨Jl9 g h l m,by split <;> simp,fun a ha b hb=>?_⟩
  obtain ⟨_,j,hj,rfl⟩:=Jgf ha
  split at hb
  ·rw [List.mem_singleton] at hb
   subst hb
   show (j:Int)+1 < (m:Int)+1
   omega
  ·cases hb
theorem Jmm {q:Nat→Bool} (h:q 0=true):∀ m,(J8i q (m+1)).count 1=1
 | 0=>by rw [Jp3 h]; rfl
 | m+1=>by
  cases c:q (m+1) with
  | true=>
   rw [Jp3 c,List.count_append,Jmm h m,List.count_singleton]
   rw [if_neg (by simp; omega)]
  | false=>rw [Jl1 c,Jmm h m]
theorem Jhz (h:Int) (hh:1≤h):∀ (cl:List CalT) (mh:Int),(∀ c ∈ cl,c.1≠1∨c=(1,h,[],()))→mh≤h→∃ mh',Jho 0 0 [] cl ((mh,0,[],false,()),0,false) ((mh',0,[],false,()),0,false)∧mh'≤h
 | [],mh,_,hm=>⟨mh,rfl,hm⟩
 | c::cl,mh,hc,hm=>by
  rcases hc c (List.mem_cons_self ..) with e | e
  ·obtain ⟨mh',k,k2⟩:=Jhz h hh cl mh (fun d hd=>hc d (List.mem_cons_of_mem _ hd)) hm
   exact ⟨mh',⟨_,Jnr c e _ 0 0 [],k⟩,k2⟩
  ·obtain ⟨mh',k,k2⟩:=Jhz h hh cl h (fun d hd=>hc d (List.mem_cons_of_mem _ hd)) (Int.le_refl h)
   have hco:=(Jk7 [] (by simp) (by simp) ((Jf2 _ (by simp [rowR])).trans rfl) h (((mh,0,[],false,()),0,false):Mst3) ⟨hh,hm⟩ (y:=0) (z:=0) (us:=[]) led0 (by decide)).1
   exact ⟨mh',⟨_,by rw [e]; exact hco,k⟩,k2⟩
section
variable {n : Nat} {p : Nat → Int}
def AcOk (h:Int) (ac:List CalT):Prop:=(∀ c ∈ ac,Jcl c∧1≤c.2.1∧c.2.1≤h)∧ac.Pairwise (fun a b=>a.1=b.1→a.2.1 < b.2.1)
theorem Jxi (hp:PwOk p) (h1:1≤n) (hn:n≤4) (x0 k:Int) {m i:Nat} (hm:1≤m∧m≤6) (hi:i < 8) (hk:(i:Int) < k) {g:Nat→Ent} (hg:Jng m i g) {l:Int} (hl:l=0) {e:List (Int×Ce)} (he:CaOk m e) (hlast:∀ j,j < m→Jbb e ((j:Int)+1) < (i:Int)+2) {cl ac:List CalT} (hcl:cl.length≤6) (hcm:∀ c ∈ cl,c.1≠1∨c=(1,(i:Int)+1,[],())) {mh:Int} (hmh:mh≤(i:Int)+1) (hac:AcOk ((i:Int)+1) ac) (hal:ac.length≤6 * i) :
  ∃ g' e' cl' mh',J2_3_step x0 k (i:Int) ((i:Int)+1) (m:Int) () () (J6n n) (J6t n) (J6m p n) (stR [] (R0 (i+1))) (BL n p fI (R0 (i+1))) () (cliG n p fI (R0 (i+1)) 80 (i+1)) ((m:Int),(i:Int),l,()) (regF g 0 m) () e (cl,()) (mh,0,[],false,()) 0 0 0 false () [] ac ((ac.map (·.1)).foldl incF []) [] =
   some (.inl (x0,k,(i:Int)+1,(i:Int)+2,(m:Int),(),(),J6n n,J6t n,J6m p n,stR [] (R0 (i+2)),BL n p fI (R0 (i+2)),(),cliG n p fI (R0 (i+2)) 80 (i+2),((m:Int),(i:Int)+1,0,()),regF g' 0 m,(),e',(cl',()),(mh',0,[],false,()),0,0,0,false,(),[],ac++cl',((ac++cl').map (·.1)).foldl incF [],[]))∧
   Jng m ((i:Int)+1) g'∧CaOk m e'∧(∀ j,j < m→Jbb e' ((j:Int)+1) < (i:Int)+3)∧cl'.length≤6∧(∀ c ∈ cl',c.1≠1∨c=(1,(i:Int)+2,[],()))∧mh'≤(i:Int)+2∧AcOk ((i:Int)+2) (ac++cl')∧(cl'.map (·.1)).count 1=1:=by
 subst hl
 have hlen:=K1b (i+1)
 have hlen2:=K1b (i+2)
 have hE:∀ j,Jhp (g j):=fun j=>(hg.1 j).1
 have hg2:∀ j,(g j).2.2.1=0∧1≤(g j).1.2.2.2.2.1:=fun j=>⟨(hg.1 j).2.2.2,(hg.1 j).2.2.1⟩
 have hc:=Jw2 (n:=n) (p:=p) (R:=R0 (i+1)) (now0:=[]) hp h1 hn Jc7 (R0_b _) (by omega)
 rw [Jvc,hlen,show (((i+1:Nat):Int)+1)=(i:Int)+2 from by omega] at hc
 have h2:=Jnv ((i:Int)+1) (m:Int) (J6n n) (J6t n) (J6m p n) (stR [] (R0 (i+1))) (BL n p fI (R0 (i+1))) (cliG n p fI (R0 (i+1)) 80 (i+1)) ((m:Int),(i:Int),0,()) (regF g 0 m) e (cl,()) (mh,0,[],false,()) 0 0 0 false [] ac ((i:Int)+2) ((i:Int)+2) (by omega) _ _ _ hc
 have h3:=Jrr ((i:Int)+1) (m:Int) (J6n n) (J6t n) (J6m p n) (stR [] (R0 (i+2))) (BL n p fI (R0 (i+2))) (cliG n p fI (R0 (i+1)) 80 (i+1)) ((m:Int),(i:Int),0,()) (regF g 0 m) e (cl,()) (mh,0,[],false,()) 0 0 0 false [] ac ((i:Int)+2) (by omega) (by omega)
 obtain ⟨mh',hcall,hmh'⟩:=Jhz ((i:Int)+1) (by omega) cl mh hcm hmh
 have hcb:=Jrn (cliG n p fI (R0 (i+1)) 80 (i+1)) (m:=m) (by omega) hE (m:Int) (i:Int) 0 (by omega) (by omega) e cl (by omega) 0 0 [] _ _ hcall
 rw [show (fun j=>askG ((i:Int)+1) (J8f ((i:Int)+1) (g j)))=J7x (i:Int) g from rfl,Jy4 m (q:=fun j=>J7n ((i:Int)+1) (g j)) (fun j=>(Joj (hg2 j).1).1),← Jdh (b:=(i:Int)) (by omega) hg2 ((i:Int)+2) [] m] at hcb
 rw [show (0:Int)+(([]:List Int).length:Int)=0 from rfl] at hcb
 have hnx:∀ j,(J7x (i:Int) g j).1=(g j).1:=fun j=>by
  show (askG ((i:Int)+1) (J8f ((i:Int)+1) (g j))).1=_
  rw [(Joj (b:=(i:Int)+1) (hg2 j).1).2]
  exact (Jj1 (by omega) (hg2 j).1 (hg2 j).2).2
 have h5:=Jrq ((i:Int)+2) (m:Int) (J6n n) (J6t n) (J6m p n) (stR [] (R0 (i+2))) (BL n p fI (R0 (i+2))) (cliG n p fI (R0 (i+1)) 80 (i+1)) ((m:Int),(i:Int),0,()) (regF g 0 m) e (cl,()) (mh,0,[],false,()) 0 0 0 false [] ac _ _ ((mh',0,[],false,()),0,false) _ _ hcb
 have hrow:(R0 (i+2)).getD (i+1) []=[]:=R0_at _ _
 have hsv:=K27 (n:=n) (p:=p) (f:=fI) (R:=R0 (i+2)) (now0:=[]) hp h1 hn Jc7 (R0_b _) (by omega) (Jwq _ (by omega)) (j:=i+1) (by omega) (by rw [hrow]; exact Jyl) (T:=80) (now:=(i:Int)+2) (by omega) (by unfold fI; omega) (by unfold fI; omega) (by unfold fI; omega) (g:=J7x (i:Int) g) (m:=m) hm.2 (fun j _=>by rw [hnx]; exact (hg.1 j).2.1) he (fun j hj=>by have:=hlast j hj; omega) (r:=((m:Int),(i:Int)+1,0,())) (by show 0≤(i:Int)+1; omega) (mh',0,[],false,()) 0 0 0 false [] ac (by omega)
 rw [hrow,show (((i+1:Nat):Int)+1)=(i:Int)+2 from by omega] at hsv
 have hcs:=Jnt n p fI (R0 (i+1)) [] 80 (j:=i+1) (by omega)
 rw [Jvc] at hcs
 rw [hcs] at hsv
 have hS:=Jdm (J7x (i:Int) g) ((i:Int)+2) [] m
 have hmem:=fun c=>@Jgf (J7x (i:Int) g) ((i:Int)+2) [] m c
 have hinc:=Jl9 (J7x (i:Int) g) ((i:Int)+2) [] m
 have hok:=Jjo (J7x (i:Int) g) ((i:Int)+2) Jyl m
 have hid:=Jdh (b:=(i:Int)) (by omega) hg2 ((i:Int)+2) [] m
 have hca:=Jh7 (J7x (i:Int) g) ((i:Int)+2) [] ((i:Int)+1) he m (Nat.le_refl m)
 have hla:=fun j=>@Jfw (J7x (i:Int) g) ((i:Int)+2) [] ((i:Int)+1) e j m
 dsimp only at hsv
 generalize J7a (J7x (i:Int) g) ((i:Int)+2) [] m=S at *
 generalize J9e (J7x (i:Int) g) ((i:Int)+2) [] ((i:Int)+1) e m=e' at *
 have h13:=Jrs ((i:Int)+2) (m:Int) (J6n n) (J6t n) (J6m p n) (stR [] (R0 (i+2))) (BL n p fI (R0 (i+2))) (cliG n p fI (R0 (i+1)) 80 (i+1)) ((m:Int),(i:Int)+1,0,()) (regF (J7x (i:Int) g) 0 m) e ([],()) (mh',0,[],false,()) 0 0 0 false [] ac _ _ 0 0 _ _ _ _ _ hsv
 have h0:(J7x (i:Int) g) 0=(Qm,(i:Int)+1+1,(i:Int)+1+3,()):=by
  have:=congrFun (Jcv (i:Int) (by omega)) 0
  rw [← this]
  show askG _ (J8f _ (g 0))=askG _ (J8f _ (gB (i:Int) 0))
  rw [hg.2]; rfl
 have hsh:Jng m ((i:Int)+1) (fun j=>Jak (J7x (i:Int) g j)):=by
  refine ⟨fun j=>?_,?_⟩
  ·have e1:(Jak (J7x (i:Int) g j)).1=(g j).1:=by
    unfold Jak
    split
    ·exact hnx j
    ·exact hnx j
   refine ⟨by unfold Jhp; rw [e1]; exact hE j,by rw [e1]; exact (hg.1 j).2.1,by rw [e1]; exact (hg.1 j).2.2.1,?_⟩
   show (Jak (J7x (i:Int) g j)).2.2.1=0
   unfold Jak
   split
   ·rfl
   ·rename_i c
    have hz:=hg2 j
    have:J7x (i:Int) g j=askG ((i:Int)+1) (g j):=by
     show askG ((i:Int)+1) (J8f ((i:Int)+1) (g j))=_
     rw [(Joj (b:=(i:Int)+1) hz.1).2]
    rw [this] at c ⊢
    cases hq:J9q ((i:Int)+1) (g j) with
    | true=>exact absurd ((Jj1 (by omega) hz.1 hz.2).1.2 hq) c
    | false=>
     unfold askG
     rw [hq,if_neg (by simp)]; exact hz.1
  ·show Jak (J7x (i:Int) g 0)=_
   rw [h0]
   unfold Jak
   rw [if_pos (by show 0 < (i:Int)+1+3; omega)]
 have hcallm:∀ c ∈ S,c.1≠1∨c=(1,(i:Int)+2,[],()):=fun c hc=>by
  obtain ⟨_,j,hj,rfl⟩:=hmem c hc
  by_cases ej:j=0
  ·subst ej
   refine .inr ?_
   rw [hnx 0,hg.2]
   show J93 1 Qm ((i:Int)+2) []=_
   rw [K1i]; rfl
  ·exact .inl (by show (j:Int)+1≠1; omega)
 have hone:(S.map (·.1)).count 1=1:=by
  rw [hid]
  obtain ⟨m2,rfl⟩:∃ m2,m=m2+1:=⟨m - 1,by omega⟩
  refine Jmm ?_ m2
  show J9q _ (J8f _ (g 0))=true
  rw [hg.2,(Joj rfl).2]
  unfold J9q
  simp
  omega
 have hacn:AcOk ((i:Int)+2) (ac++S):=by
  refine ⟨fun c hc=>?_,List.pairwise_append.2 ⟨hac.2,hinc.imp (fun h e=>by omega),fun a ha b hb e=>?_⟩⟩
  ·rcases List.mem_append.1 hc with h | h
   ·have:=hac.1 c h; exact ⟨this.1,this.2.1,by omega⟩
   ·have:=(hmem c h).1; exact ⟨hok c h,by omega,by omega⟩
  ·have q1:=(hac.1 a ha).2.2; have q2:=(hmem b hb).1; omega
 have hlx:∀ j,j < m→Jbb e' ((j:Int)+1) < (i:Int)+3:=fun j hj=>by
  rw [hla j hj]
  split
  ·omega
  ·have:=hlast j hj; omega
 refine ⟨_,e',S,mh',?_,hsh,hca,hlx,by omega,hcallm,by omega,hacn,hone⟩
 unfold J2_3_step
 rw [J6j hk,J6k (n:=(2:Int)+(i:Int)) (by omega) (by omega),show (2:Int)+(i:Int)=(i:Int)+2 from by omega]
 rw [show Jh _ _ _ _ _ _ _ _ _ _ _ _ _ _ _ _ _ _ _ _ _ _ _ _ _=_ from h2,J6f]
 dsimp only
 rw [show Jh _ _ _ _ _ _ _ _ _ _ _ _ _ _ _ _ _ _ _ _ _ _ _ _ _=_ from h3,J6f]
 dsimp only
 rw [show Jh _ _ _ _ _ _ _ _ _ _ _ _ _ _ _ _ _ _ _ _ _ _ _ _ _=_ from h5,J6f]
 dsimp only
 have hml:(S.map (·.1)).length≤1000:=by rw [List.length_map]; omega
 rw [show ∀ a b c d,J2_2 x0 k (i:Int) (S.map (·.1)) ((S.map (·.1)).length:Int) 0 a b () () (J6n n) (J6t n) (J6m p n) (stR [] (R0 (i+2))) (BL n p fI (R0 (i+2))) () (cliG n p fI (R0 (i+1)) 80 (i+1)) ((m:Int),(i:Int)+1,0,()) (regF (J7x (i:Int) g) 0 m) () e ([],()) (mh',0,[],false,()) 0 0 0 false () [] ac c [] d=_ from fun a b c d=>K1w x0 k (i:Int) (S.map (·.1)) hml a b () () (J6n n) (J6t n) (J6m p n) (stR [] (R0 (i+2))) (BL n p fI (R0 (i+2))) () (cliG n p fI (R0 (i+1)) 80 (i+1)) ((m:Int),(i:Int)+1,0,()) (regF (J7x (i:Int) g) 0 m) () e ([],()) (mh',0,[],false,()) 0 0 0 false () [] ac [] d (S.map (·.1)) 0 c rfl (by omega),J6f]
 dsimp only
 rw [show Jh _ _ _ _ _ _ _ _ _ _ _ _ _ _ _ _ _ _ _ _ _ _ _ _ _=_ from h13,J6f]
 dsimp only
 rw [List.length_map,decide_eq_true rfl,show (!true)=false from rfl,J6r,show (!decide ((([]:List Int).length:Int)=0))=false from rfl,J6r,J6k (n:=(i:Int)+1) (by omega) (by omega),List.map_append,List.foldl_append]
theorem Jkv (hp:PwOk p) (h1:1≤n) (hn:n≤4) (x0:Int) {m kk:Nat} (hm:1≤m∧m≤6) (hk8:kk≤8):∀ (r i:Nat) (g:Nat→Ent) (e:List (Int×Ce)) (cl ac:List CalT) (mh:Int),i+r=kk→Jng m i g→CaOk m e→(∀ j,j < m→Jbb e ((j:Int)+1) < (i:Int)+2)→cl.length≤6→(∀ c ∈ cl,c.1≠1∨c=(1,(i:Int)+1,[],()))→mh≤(i:Int)+1→AcOk ((i:Int)+1) ac→ac.length≤6 * i→(ac.map (·.1)).count 1=i→
  ∃ g' e' cl' ac' mh',J2_3 x0 (kk:Int) (i:Int) ((i:Int)+1) (m:Int) () () (J6n n) (J6t n) (J6m p n) (stR [] (R0 (i+1))) (BL n p fI (R0 (i+1))) () (cliG n p fI (R0 (i+1)) 80 (i+1)) ((m:Int),(i:Int),0,()) (regF g 0 m) () e (cl,()) (mh,0,[],false,()) 0 0 0 false () [] ac ((ac.map (·.1)).foldl incF []) [] =
   some (x0,(kk:Int)+1,(m:Int),(),(),J6n n,J6t n,J6m p n,stR [] (R0 (kk+1)),BL n p fI (R0 (kk+1)),(),cliG n p fI (R0 (kk+1)) 80 (kk+1),((m:Int),(kk:Int),0,()),regF g' 0 m,(),e',(cl',()),(mh',0,[],false,()),0,0,0,false,(),[],ac',(ac'.map (·.1)).foldl incF [],[])∧AcOk ((kk:Int)+1) ac'∧ac'.length≤48∧(ac'.map (·.1)).count 1=kk
 | 0,i,g,e,cl,ac,mh,hi,hg,he,hla,hcl,hcm,hmh,hac,hal,hct=>by
  obtain rfl:i=kk:=by omega
  refine ⟨g,e,cl,ac,mh,?_,hac,by omega,hct⟩
  unfold J2_3
  refine J71 ?_
  show J2_3_step x0 (i:Int) (i:Int) ((i:Int)+1) (m:Int) () () (J6n n) (J6t n) (J6m p n) (stR [] (R0 (i+1))) (BL n p fI (R0 (i+1))) () (cliG n p fI (R0 (i+1)) 80 (i+1)) ((m:Int),(i:Int),0,()) (regF g 0 m) () e (cl,()) (mh,0,[],false,()) 0 0 0 false () [] ac ((ac.map (·.1)).foldl incF []) []=_
  unfold J2_3_step
  rw [J6h (by omega)]
 | r+1,i,g,e,cl,ac,mh,hi,hg,he,hla,hcl,hcm,hmh,hac,hal,hct=>by
  obtain ⟨g',e',cl',mh',hs,k1,k2,k3,k4,k5,k6,k7,k8⟩:=Jxi (n:=n) (p:=p) hp h1 hn x0 (kk:Int) hm (i:=i) (by omega) (by omega) hg (l:=0) rfl he hla hcl hcm hmh hac hal
  obtain ⟨g2,e2,cl2,ac2,mh2,hl,r2⟩:=Jkv hp h1 hn x0 hm hk8 r (i+1) g' e' cl' (ac++cl') mh' (by omega) (by rw [show (((i+1:Nat):Int))=(i:Int)+1 from by omega]; exact k1) k2 (fun j hj=>by have:=k3 j hj; omega) k4 (fun c hc=>by rw [show (((i+1:Nat):Int))+1=(i:Int)+2 from by omega]; exact k5 c hc) (by omega) (by rw [show (((i+1:Nat):Int))+1=(i:Int)+2 from by omega]; exact k7) (by rw [List.length_append]; omega) (by rw [List.map_append,List.count_append,hct,k8])
  refine ⟨g2,e2,cl2,ac2,mh2,?_,r2⟩
  rw [← hl]
  unfold J2_3
  rw [J79 (s':=_) hs]
  rw [show (((i+1:Nat):Int))=(i:Int)+1 from by omega,show (i:Int)+1+1=(i:Int)+2 from by omega]
theorem Jku (ks:List (Int×Int×Int×Int×Int×Unit)) (y1:Int):∀ (r i:Nat) (g:Nat→Ent),i+r=min ks.length 5→Jng (i+1) 0 g→
  ∃ (m:Nat) (g':Nat→Ent),J2_1 ks y1 (i:Int) 1 ((i:Int)+1) () () (J6n n) (J6t n) (J6m p n) (stR [] (R0 1)) (BL n p fI (R0 1)) () (cliG n p fI (R0 1) 80 1) ((i:Int)+1,0,0,()) (regF g 0 (i+1)) () [] ([],()) zM 0 0 0 false () [] [] =
   some (y1,1,(m:Int),(),(),J6n n,J6t n,J6m p n,stR [] (R0 1),BL n p fI (R0 1),(),cliG n p fI (R0 1) 80 1,((m:Int),0,0,()),regF g' 0 m,(),[],([],()),zM,0,0,0,false,(),[],[])∧Jng m 0 g'∧1≤m∧m≤6
 | 0,i,g,hi,hg=>by
  refine ⟨i+1,g,?_,hg,by omega,by omega⟩
  rw [show (((i+1:Nat):Int))=(i:Int)+1 from by omega]
  unfold J2_1
  refine J71 ?_
  show J2_1_step ks y1 (i:Int) 1 ((i:Int)+1) () () (J6n n) (J6t n) (J6m p n) (stR [] (R0 1)) (BL n p fI (R0 1)) () (cliG n p fI (R0 1) 80 1) ((i:Int)+1,0,0,()) (regF g 0 (i+1)) () [] ([],()) zM 0 0 0 false () [] []=_
  unfold J2_1_step
  by_cases c:(i:Int) < (ks.length:Int)
  ·rw [J6j c,J6h (by omega)]
  ·rw [J6h c]
 | r+1,i,g,hi,hg=>by
  obtain ⟨q,hq,q1,q2,q3,q4⟩:=Jy7 (ks.getD i (0,0,0,0,0,()))
  have hadd:J0w q () (cliG n p fI (R0 1) 80 1) ((i:Int)+1,0,0,()) (regF g 0 (i+1)) () [] ([],()) zM 0 0 0 false () []=some ((i:Int)+2,0,((i:Int)+2,0,0,()),regF (updG g (i+1) (q,1,0,())) 0 (i+2)):=by
   unfold J0w J2g
   rw [q1,J6f,show (!true)=false from rfl,J6r,Jms,J6h (by omega)]
   dsimp only
   rw [J6f,J6k (n:=(i:Int)+1+1) (by omega) (by omega),J6k (n:=(0:Int)+1) (by omega) (by omega)]
   have:=Jyc g (q,1,0,()) (i+1) 0
   rw [show ((0:Nat):Int)+((i+1:Nat):Int)+1=(i:Int)+2 from by omega,Nat.zero_add] at this
   dsimp only
   rw [show (0:Int)+1=1 from rfl,show (i:Int)+1+1=(i:Int)+2 from by omega,show J6w (Ty.beq (.int .i64)) ((i:Int)+2) (q,(1:Int),(0:Int),()) (regF g 0 (i+1))=_ from this]
  have h6:=do_add 1 ((i:Int)+1) (J6n n) (J6t n) (J6m p n) (stR [] (R0 1)) (BL n p fI (R0 1)) (cliG n p fI (R0 1) 80 1) ((i:Int)+1,0,0,()) (regF g 0 (i+1)) [] ([],()) zM 0 0 0 false [] [] q _ _ _ hadd
  have hg2:Jng (i+2) 0 (updG g (i+1) (q,1,0,())):=by
   refine ⟨fun j=>?_,?_⟩
   ·unfold updG
    split
    ·exact ⟨⟨q3.1,by show q.2.2.2.1≤1000; omega,by show 0≤q.2.2.2.2.1; omega,by show q.2.2.2.2.1≤1000; omega⟩,q2,q4.1,rfl⟩
    ·exact hg.1 j
   ·unfold updG
    rw [if_neg (by omega)]; exact hg.2
  obtain ⟨m,g',hl,r1⟩:=Jku ks y1 r (i+1) _ (by omega) hg2
  refine ⟨m,g',?_,r1⟩
  rw [← hl]
  unfold J2_1
  rw [J79 (s':=((i:Int)+1,1,(i:Int)+2,(),(),J6n n,J6t n,J6m p n,stR [] (R0 1),BL n p fI (R0 1),(),cliG n p fI (R0 1) 80 1,((i:Int)+2,0,0,()),regF (updG g (i+1) (q,1,0,())) 0 (i+2),(),[],([],()),zM,0,0,0,false,(),[],[])) (by
   show J2_1_step ks y1 (i:Int) 1 ((i:Int)+1) () () (J6n n) (J6t n) (J6m p n) (stR [] (R0 1)) (BL n p fI (R0 1)) () (cliG n p fI (R0 1) 80 1) ((i:Int)+1,0,0,()) (regF g 0 (i+1)) () [] ([],()) zM 0 0 0 false () [] []=_
   unfold J2_1_step
   rw [J6j (by omega),J6j (by omega),J6g (by omega),Int.toNat_natCast,hq,J6f]
   rw [show Jh _ _ _ _ _ _ _ _ _ _ _ _ _ _ _ _ _ _ _ _ _ _ _ _ _=_ from h6,J6f]
   dsimp only
   rw [J6k (n:=(i:Int)+1) (by omega) (by omega)])]
  rw [show (((i+1:Nat):Int))=(i:Int)+1 from by omega,show (i:Int)+1+1=(i:Int)+2 from by omega]
theorem manyN (hp:PwOk p) (h1:1≤n) (hn:n≤4) (ks:List (Int×Int×Int×Int×Int×Unit)) (y1:Int)
  (hb:∃ u,J3v [2,1] 80 1 3=some (1,1,(),(),J6n n,J6t n,J6m p n,stR [] [[]],BL n p fI [[]],(),cliG n p fI [[]] 80 1,(1,0,0,()),regF (gB 0) 0 1,(),[],([],()),zM,0,0,0,false,(),[],u)):J2 ks y1=some true:=by
 obtain ⟨u,hb⟩:=hb
 obtain ⟨k,hk,k1,k2⟩:=Jd8 y1 1 8 (by omega) (by omega) (by omega)
 obtain ⟨kk,rfl⟩:∃ kk:Nat,k=(kk:Int):=⟨k.toNat,by omega⟩
 have hg0:Jng 1 0 (gB 0):=⟨fun j=>⟨K33 0 j,.inr rfl,by show (1:Int)≤3; omega,rfl⟩,rfl⟩
 obtain ⟨m,g,hl1,hg,m1,m2⟩:=Jku (n:=n) (p:=p) ks y1 (min ks.length 5) 0 (gB 0) (by omega) hg0
 have hla0:∀ j,j < m→Jbb [] ((j:Int)+1) < ((0:Nat):Int)+2:=fun j hj=>by show (0:Int) < ((0:Nat):Int)+2; omega
 have hca0:CaOk m []:=by
  unfold CaOk
  have:∀ i,cntC [] i=0:=fun i=>by
   induction i with
   | zero=>rfl
   | succ i ih=>unfold cntC; rw [ih]; rfl
  rw [this]; rfl
 obtain ⟨g',e',cl',ac',mh',hl3,a1,a2,a3⟩:=Jkv (n:=n) (p:=p) hp h1 hn y1 (m:=m) (kk:=kk) ⟨m1,m2⟩ (by omega) kk 0 g [] [] [] 0 (by omega) hg hca0 hla0 (by simp) (by simp) (by omega) ⟨by simp,List.Pairwise.nil⟩ (by simp) rfl
 have hacc:J0o ac'=some ac':=K16 ac' (by omega) (fun c hc=>(a1.1 c hc).1)
 have h4:=K1x y1 ((ac'.map (·.1)).foldl incF []) ac' (by omega) ac' 0 [] [] rfl (by omega) (fun c hc=>by show (0:Int) < c.2.1; have:=(a1.1 c hc).2.1; omega) a1.2
 have hcnt:=Jod 1 (ac'.map (·.1)) [] (by show (0:Int)≤0; omega) (by show (0:Int)+((ac'.map (·.1)).length:Int)≤100000; rw [List.length_map]; omega)
 rw [a3,show Option.getD (J6o ib 1 ([]:MI)) 0=0 from rfl,Int.zero_add] at hcnt
 have hnd:=Joe (ac'.map (·.1)) (m:=[]) (by simp)
 have h5:J2_5 y1 ((ac'.map (·.1)).foldl incF []) ((ac'.map (·.1)).foldl incF [])=some ():=by
  unfold J2_5 allM
  rw [if_pos]
  rw [List.all_eq_true]
  intro q hq
  rw [decide_eq_true_eq,show Ty.beq (.int .i64)=ib from rfl,Js0 hnd q hq]
  rfl
 rw [show ((0:Nat):Int)+1=1 from rfl] at hl1 hl3
 unfold J2
 rw [hb,J6f]
 dsimp only
 rw [show J2_1 ks y1 0 1 1 () () (J6n n) (J6t n) (J6m p n) (stR [] [[]]) (BL n p fI [[]]) () (cliG n p fI [[]] 80 1) (1,0,0,()) (regF (gB 0) 0 1) () [] ([],()) zM 0 0 0 false () [] []=_ from hl1,J6f]
 dsimp only
 rw [hk,J6f]
 rw [show J2_3 y1 (kk:Int) 0 1 (m:Int) () () (J6n n) (J6t n) (J6m p n) (stR [] (R0 1)) (BL n p fI (R0 1)) () (cliG n p fI (R0 1) 80 1) ((m:Int),0,0,()) (regF g 0 m) () [] ([],()) zM 0 0 0 false () [] [] [] []=_ from hl3,J6f]
 dsimp only
 unfold J3c
 rw [hacc,J6f,J6f]
 rw [show J2_4 y1 (ac'.length:Int) 0 ((ac'.map (·.1)).foldl incF []) [] [] ac'=_ from h4,J6f]
 dsimp only
 rw [h5,J6f,J6j rfl,hk,J6f,show Ty.beq (.int .i64)=ib from rfl,J6j hcnt,Jtr,J6f]
end
theorem law_TopMany (y0:List (Int×Int×Int×Int×Int×Unit)) (y1:Int) (w0:Wf (.slice (.fld (.int .i64) (.fld (.int .i64) (.fld (.int .i64) (.fld (.int .i64) (.fld (.int .i64) .unit)))))) y0) (w1:Wf (.int .i64) y1):J2 y0 y1=some true:=by
 obtain ⟨h1,hn⟩:=Jt6 [2,1]
 exact manyN (K3r [2,1]) h1 hn y0 y1 (begunG [2,1] (by simp) fI rfl 80 (by omega))
end Go.Ax.V
