/-
  A key that is set, taken out, set anew: at each height that is kept the answer is what was there then.
-/
import Derived.Test.YthhioanidhkdeaaGreatCTopAbsentLA
namespace Go.Ax.V
open Go.Ax
set_option linter.unusedVariables false
set_option linter.unusedSimpArgs false
theorem Jx0 {α:Type} {l:List α} {x:α} (h:x ∈ Je7 l):x ∈ l:=List.mem_of_mem_drop h
theorem Jt0 {now:List Pr} {R:List (List Pr)} (hn:RowB now) (hR:∀ l ∈ R,RowB l) (hl:R.length≤16):StOk (stR now R):=by
 refine ⟨hn,by show 0≤(R.length:Int); omega,by show (R.length:Int)≤16; omega,?_,fun l hl=>hR l (Jx0 hl)⟩
 show ((Je7 R).length:Int)=min (R.length:Int) 6
 rw [Jf3]; omega
theorem Jun {now:List Pr} {R:List (List Pr)} (hl:R.length < 16):Jfw (stR now R)=((R.length:Int)+1,stR now (R++[now])):=by
 unfold Jfw
 rw [if_neg (show ¬ (stR now R).2.1=16 by show ¬ (R.length:Int)=16; omega)]
 unfold stR Jo7
 dsimp only
 rw [Jkl,List.length_append,List.length_singleton]
 rfl
theorem stR_at {now:List Pr} {R:List (List Pr)} (h:Int):atS (stR now R) h=if 1≤h∧(R.length:Int) - 6 < h∧h≤(R.length:Int) then (R.getD (h - 1).toNat [],true) else ([],false):=by
 have hk:=Jf3 R
 have hlow:lowS (stR now R)=(R.length:Int) - ((Je7 R).length:Int)+1:=rfl
 unfold atS
 rw [hlow,show (stR now R).2.1=(R.length:Int) from rfl,hk]
 by_cases c:1≤h∧(R.length:Int) - 6 < h∧h≤(R.length:Int)
 ·rw [if_pos c,if_neg (by omega)]
  congr 1
  show (Je7 R).getD _ []=_
  unfold Je7
  rw [List.getD_eq_getElem?_getD,List.getD_eq_getElem?_getD,List.getElem?_drop]
  congr 2; omega
 ·rw [if_neg c,if_pos (by omega)]
section
variable {n : Nat} {p : Nat → Int} {f : Nat → Int}
theorem K2b (hp:PwOk p) (h1:1≤n) (hn:n≤4) (hf:0≤f 0∧f 0≤1000000000):Jr (f 0) () (J6k n) (J6n n) (J6j p n) ([],0,[],())=some (1,(),J6k n,J6n n,J6j p n,stR [] [[]],BL n p f [[]]):=by
 have hsm:=Jmp p n hn
 have e0:J8c ((1:Int),f 0,J9o [],List.replicate 32 (0:UInt8),setH (J6j p n),List.replicate 32 (0:UInt8),())=true:=by
  rw [Jc3]; show ((1:Int)≤1∧(1:Int)≤16)∧0≤f 0∧f 0≤1073741824; omega
 have hh:J8r ((1:Int),f 0,J9o [],setH (J6j p n),setH (J6j p n),List.replicate 32 (0:UInt8),()):=⟨J82 _,J8n _,J8n _,by simp⟩
 unfold Jr
 rw [Jdh _ (by simp),J6d,Jjj [] ⟨by simp,by simp⟩,J6d,J9g _ hsm,J6d,Jcx,J6d,e0]
 rw [show (!true)=false from rfl,J6m,J6d,Jfv p hn,J6d,J6d,Jah]
 show andThen (Jr_1 (n:Int) 0 () (J6k n) (J6n n) (J6j p n) ([],0,[],()) _ _ () [] (J6j p n) (J6j p n)) _=_
 rw [hcA n hn p _ hh (Int.le_refl 1) (show (1:Int)≤16 by omega),J6d,Jvn [] (by simp),J6d,J6e (by simp),Jji _ Jym,J6d]
 show some _=some (1,(),J6k n,J6n n,J6j p n,stR [] [[]],blG n (rR [[]]) (fun _=>J6j p n) f 1)
 rfl
theorem K2c (hp:PwOk p) (h1:1≤n) (hn:n≤4) {R:List (List Pr)} (hR:1≤R.length∧R.length < 16) (hrows:∀ l ∈ R,RowB l) {now:List Pr} (hnow:RowB now) (hf:∀ j,j≤R.length→0≤f j∧f j≤1000000000) (hlt:f (R.length - 1) < f R.length) :
  Jd (f R.length) () (J6k n) (J6n n) (J6j p n) (stR now R) (BL n p f R)=some ((R.length:Int)+1,(),J6k n,J6n n,J6j p n,stR now (R++[now]),BL n p f R,BL n p f (R++[now])):=by
 obtain ⟨k,hk⟩:∃ k,R.length=k+1:=⟨R.length - 1,by omega⟩
 have hsm:=Jmp p n hn
 have hkv:=K3u hnow
 have hlen:=Juv n p f R
 have hs:=Jt0 hnow hrows (by omega)
 have hfk:=hf (k+1) (by omega)
 have hlast:lastB (BL n p f R)=gL n p f R k:=by
  unfold BL gL; rw [hk]; exact Km _ _ _ _ _
 have e0:J8c (((k+2:Nat):Int),f (k+1),J9o now,List.replicate 32 (0:UInt8),setH (J6j p n),List.replicate 32 (0:UInt8),())=true:=by
  rw [Jc3]; show ((1:Int)≤((k+2:Nat):Int)∧((k+2:Nat):Int)≤16)∧0≤f (k+1)∧f (k+1)≤1073741824; omega
 have e1:w64 (((k+1:Nat):Int)+1)=((k+2:Nat):Int):=by rw [J6i (by omega) (by omega)]; omega
 have e2:w64 (((k+1:Nat):Int) - 1)=((k:Nat):Int):=by rw [J6i (by omega) (by omega)]; omega
 have e3:(BL n p f R).getD k zBlk=gL n p f R k:=BL_at n p f R (by omega)
 have hg:J8r (hL n p f R k):=Jo2 n _ f (K1q R k)
 have hh:J8r (((k+2:Nat):Int),f (k+1),J9o now,setH (J6j p n),setH (J6j p n),sha (72::Jc9 (hL n p f R k)),()):=⟨J82 _,J8n _,J8n _,J82 _⟩
 have e5:Jc9 (hL n p f R k)=Jfs (hL n p f R k):=by
  unfold Jc9 hL
  rw [Jly (by omega) (hf k (by omega)).1 (by have:=(hf k (by omega)).2; omega),if_pos rfl]
 have ht:(hL n p f R k).2.1=f k:=hG_t _ _ _ _ _
 rw [hk] at hlt ⊢
 unfold Jd
 rw [Jdh _ (by show now.length≤_; have:=hkv.1; omega),J6d]
 show andThen (J0q now) _=_
 rw [Jjj _ hkv,J6d,J9g _ hsm,J6d,Jcx,J6d,hlen,hk,e1,e0]
 rw [show (!true)=false from rfl,J6m,J6h (by omega),e2,J6e ⟨by omega,by omega⟩,show (Int.toNat ((k:Nat):Int))=k from rfl]
 rw [show ((((0:Int),(0:Int),(List.replicate 32 (0:UInt8)),(List.replicate 32 (0:UInt8)),(List.replicate 32 (0:UInt8)),(List.replicate 32 (0:UInt8)),()),([]:List J7f),([]:List Val),([]:List Val),()):Block)=zBlk from rfl,e3]
 rw [show (gL n p f R k).1=hL n p f R k from rfl,show (gL n p f R k).2.2.2.1=J6j p n from rfl,ht,J6f (by simp only [Nat.add_sub_cancel] at hlt; omega)]
 rw [Jif _ hg,J6d,J9g _ hsm,J6d,Jfv p hn,J6d,J6d,Jah]
 show andThen (Jd_1 (J6j p n) (n:Int) 0 () (J6k n) (J6n n) (J6j p n) (stR now R) (BL n p f R) _ _ () [] (J6j p n) (J6j p n)) _=_
 rw [hcB n hn p _ hh (show (1:Int)≤((k+2:Nat):Int) by omega) (show ((k+2:Nat):Int)≤16 by omega),J6d,Jvn _ (by rw [hlen]; omega),J6d,J6e (by rw [hlen]; simp; omega),Jji _ hs,J6d,e5,Jun (by omega),hk]
 rw [K1y]
 unfold blkR hdR nowS
 rw [hlen,if_neg (by omega),if_neg (by omega),hlast,hk]
 rw [show (((k+1:Nat):Int)+1)=((k+2:Nat):Int) from by omega]
 rfl
theorem K13 (hn:n≤4) {R:List (List Pr)} (hR:R.length≤16) {j:Nat} (hj:j < R.length) (st:Stt):J17 ((j:Int)+1) () (J6k n) (J6n n) (J6j p n) st (BL n p f R)=some (gL n p f R j,true):=by
 have hlen:=Juv n p f R
 have e2:w64 ((j:Int)+1 - 1)=(j:Int):=by rw [J6i (by omega) (by omega)]; omega
 have hpre:preS (fun _=>J6j p n) j=J6j p n:=by unfold preS; split <;> rfl
 unfold J17
 rw [hlen,J6f (by omega),J6f (by omega),e2,J6e ⟨by omega,by omega⟩,show Int.toNat (j:Int)=j from rfl]
 rw [show ((((0:Int),(0:Int),(List.replicate 32 (0:UInt8)),(List.replicate 32 (0:UInt8)),(List.replicate 32 (0:UInt8)),(List.replicate 32 (0:UInt8)),()),([]:List J7f),([]:List Val),([]:List Val),()):Block)=zBlk from rfl,BL_at n p f R hj]
 rw [show (gL n p f R j).2.1=sgJ (hL n p f R j) (List.range n) from rfl,show (gL n p f R j).2.2.1=J6j p n from hpre,show (gL n p f R j).2.2.2.1=J6j p n from rfl]
 rw [show J2c (sgJ (hL n p f R j) (List.range n))=some (sgJ (hL n p f R j) (List.range n)) from by unfold J2c; rw [J6e (by rw [Jge,List.length_range]; omega)],J6d,Jfv p hn,J6d,J6d]
 show some ((hL n p f R j,sgJ (hL n p f R j) (List.range n),J6j p n,J6j p n,()),true)=some ((hL n p f R j,sgJ (hL n p f R j) (List.range n),preS (fun _=>J6j p n) j,J6j p n,()),true)
 rw [hpre]
end
def Qm:Qry:=(2,[115,47],[115,48],1,3,())
theorem cmD (n:Nat) (hn:n≤4) (S:List Val) (h:Hdr) (nx:List Val) (hk:w64 ((0:Int)+1)=h.1) (h1:1≤h.1) (h2:h.1≤16) (N:List Pr) (W:List Val) (B:List Block) (R:Rows) :
  J6_2 0 (J6k n) (n:Int) 0 (J6k n,J6n n,J7s n,N,W,B,R,()) h () [] nx (Jjl h)=some (0,(J6k n,J6n n,J7s n,N,W,B,R,()),h,(),sgJ h (List.range n),nx):=by
 have e1:(J6k n).length=n:=J95 _ _
 have e2:(J6n n).length=n:=J95 _ _
 have e3:(J7s n).length=n:=J95 _ _
 unfold J6_2
 have:=J6p (step:=fun (t:Int×List J7f)=>J6_2_step 0 (J6k n) (n:Int) t.1 (J6k n,J6n n,J7s n,N,W,B,R,()) h () t.2 nx (Jjl h)) (fun i (_:Unit)=>((i:Int),sgJ h (List.range i))) (fun _ _=>()) (fun _=>(0,(J6k n,J6n n,J7s n,N,W,B,R,()),h,(),sgJ h (List.range n),nx)) n (fun _ _=>True) (fun i w hi _=>⟨?_,trivial⟩) (fun w _=>?_) n 0 () (by omega) trivial
 ·exact this
 ·show J6_2_step 0 (J6k n) (n:Int) (i:Int) (J6k n,J6n n,J7s n,N,W,B,R,()) h () (sgJ h (List.range i)) nx (Jjl h)=_
  unfold J6_2_step
  have g1:(J6k n).getD i (List.replicate 32 (0:UInt8))=Ja1 i:=J7y _ _ hi
  have g2:(J6n n).getD i []=J92 (Ja1 i):=J7y _ _ hi
  have g3:(J7s n).getD i []=nm i:=J7y _ _ hi
  dsimp only
  rw [J6h (by omega),J6e (by omega),J6e (by omega),J6e (by omega),Int.toNat_natCast,g1,g2,g3,hk,rBy_eq _ (by rw [J8h]; omega) (Je5 _) _ _ (Jfg i) _ h1 h2 (by rw [Jjm]; omega),J6d,J6e (by rw [Jge,List.length_range]; simp only [List.length_cons,List.length_nil]; omega),J6i (n:=(i:Int)+1) (by omega) (by omega),Jmx]
  rfl
 ·show J6_2_step 0 (J6k n) (n:Int) (n:Int) (J6k n,J6n n,J7s n,N,W,B,R,()) h () (sgJ h (List.range n)) nx (Jjl h)=_
  unfold J6_2_step
  rw [J6f (by omega)]
theorem K2d (n:Nat) (hn:n≤4) (S:List Val) (hS:Jpl S):∃ b,J6 1 (J6k n,J6n n,J7s n,[],S,[],[],())=some (1,(J6k n,J6n n,J7s n,[],S,[b],[[]],())):=by
 have e1:(J6k n).length=n:=J95 _ _
 have hSl:=hS.1
 have hnil:([]:List Val)++S=S:=rfl
 have hr:=Jwp (S:=S) (B:=[]) (t:=1) (by simp) (by omega) (by omega)
 have hh:=Jtz S [] 1
 have hd1:=hdS_1 S [] 1
 have w1:w64 ((([]:List Block).length:Int)+1)=1:=rfl
 have hh0:((1:Int),(1:Int),Jy2,setH S,setH S,List.replicate 32 (0:UInt8),())=hdS S [] 1:=by unfold hdS; rfl
 unfold J6
 dsimp only
 rw [J6f (by simp),J6f (by omega),J6f (by omega),J6f (by simp),J6e (by simp only [List.length_nil]; omega),Jn0,J6d,hnil,Jqu S hS,J6d,J6d,w1,hh0,Joz _ hh,J6d,← Jyq hr,e1]
 rw [show (([]:List Block).length:Int)=0 from rfl,cmD n hn S _ S (by rw [hd1]; rfl) (by rw [hd1]; simp) (by rw [hd1]; simp),J6d]
 dsimp only
 rw [J6e (by simp),J6e (by simp),J6e (by simp),J6e (by simp)]
 exact ⟨_,rfl⟩
theorem K07 (n:Nat) (hn:n≤4) (S:List Val) (hS:Jpl S) (T:Int):∃ u,J2i T 1 3 () (J6k n) (J6n n) (J7s n) S=some u:=by
 obtain ⟨b,hb⟩:=K2d n hn S hS
 unfold J2i
 rw [hb,J6d]
 dsimp only
 rw [J6e (by simp)]
 unfold J3i Jv Jv_1
 rw [show J3j ((2:Int),([115,47]:List UInt8),([115,48]:List UInt8),1,3,())=some true from rfl,J6d,show (!true)=false from rfl,J6m,J6z (r:=(0,(0,0,[],()),((2:Int),([115,47]:List UInt8),([115,48]:List UInt8),1,3,()))) rfl]
 exact ⟨_,rfl⟩
noncomputable def gM:Nat→Ent:=fun _=>(Qm,1,0,())
section
variable {n : Nat} {p : Nat → Int} {f : Nat → Int}
theorem Jpj (hp:PwOk p) (h1:1≤n) (hn:n≤4) (hf:f 0=1) (T:Int) (hT:0≤T∧T≤1073741824):J5g (J6j p n) (J6k n) T 1 3 =
  some (0,1,1,(),(),J6k n,J6n n,J6j p n,stR [] [[]],BL n p f [[]],(),([hL n p f [[]] 0],J6j p n,T,false,()),(1,0,0,()),regF gM 0 1,(),[],([],()),(0,0,[],false,()),0,0,0,false,(),[]):=by
 have hr:Jho 1 f:=by
  refine ⟨fun i hi=>?_,fun i hi=>by omega⟩
  obtain rfl:i=0:=by omega
  rw [hf]; omega
 have hl:J5b (hL n p f [[]] 0) (J6j p n) T=some (.inr (0,([hL n p f [[]] 0],J6j p n,T,false,()))):=K35 (r:=rR [[]]) (P:=fun _=>p) (m:=1) h1 hn (fun _=>hp) (by omega) hr hT (j:=0) (by omega)
 have e:J51 (hL n p f [[]] 0) (J6j p n) T 1 3=some (0,(),([hL n p f [[]] 0],J6j p n,T,false,()),(1,0,0,()),regF gM 0 1,(),[],([],()),(0,0,[],false,()),0,0,0,false,(),[]):=by
  unfold J51
  rw [hl]
  rfl
 unfold J5g
 rw [Ka p hp h1 hn,J6d]
 have hc:=K2b (f:=f) hp h1 hn (by rw [hf]; omega)
 rw [hf] at hc
 rw [hc,J6d]
 rw [show J17 1 () (J6k n) (J6n n) (J6j p n) (stR [] [[]]) (BL n p f [[]])=_ from K13 hn (by simp) (j:=0) (by simp) _,J6d]
 rw [show J51 (gL n p f [[]] 0).1 (gL n p f [[]] 0).2.2.2.1 T 1 3=_ from e]
 rfl
end
theorem begunG (ps:List Int) (hps:ps.length≤1000) (f:Nat→Int) (hf:f 0=1) (T:Int) (hT:0≤T∧T≤1073741824):∃ u,J3t ps T 1 3 =
  some (1,1,(),(),J6k (setN ps),J6n (setN ps),Jxz ps,stR [] [[]],BL (setN ps) (pw ps) f [[]],(),([hL (setN ps) (pw ps) f [[]] 0],Jxz ps,T,false,()),(1,0,0,()),regF gM 0 1,(),[],([],()),(0,0,[],false,()),0,0,0,false,(),[],u):=by
 obtain ⟨h1,hn⟩:=Jss ps
 obtain ⟨u,hu⟩:=K07 (setN ps) hn (Jxz ps) (Jmp _ _ hn) T
 have hw:=Jpj (f:=f) (K3e ps) h1 hn hf T hT
 unfold J3t
 rw [Jrd ps (by omega),J6d]
 dsimp only
 rw [show Jxz ps=J6j (pw ps) (setN ps) from rfl] at hu ⊢
 rw [hw,J6d]
 dsimp only
 rw [J9r rfl,hu,J6d]
 exact ⟨u,rfl⟩
section
variable (n : Nat) (p : Nat → Int) (f : Nat → Int) (R : List (List Pr))
noncomputable def hdK (j:Nat):List Hdr:=Je7 ((List.range j).map (hL n p f R))
noncomputable def cliG (T:Int) (j:Nat):Cli:=(hdK n p f R j,J6j p n,T,false,())
theorem Jfz (j:Nat):(hdK n p f R j).length=min j 6:=by unfold hdK; rw [Jf3]; simp
theorem K7 (l:List Pr) {j:Nat} (h:j≤R.length):hdK n p f (R++[l]) j=hdK n p f R j:=by
 unfold hdK
 congr 1
 refine List.map_congr_left fun i hi=>K2s n p f R l ?_
 have:=List.mem_range.1 hi; omega
theorem Jnl (l:List Pr) (T:Int) {j:Nat} (h:j≤R.length):cliG n p f (R++[l]) T j=cliG n p f R T j:=by unfold cliG; rw [K7 n p f R l h]
theorem Jrr (j:Nat):hdK n p f R (j+1)=cut6 (hdK n p f R j++[hL n p f R j]):=by
 unfold hdK
 rw [List.range_succ,List.map_append,List.map_singleton,Jkl]
 unfold cut6
 rw [List.length_append,List.length_singleton]
theorem Jlz {j:Nat} (h:1≤j) (x:List Val×Int×Bool×Unit):lastH (hdK n p f R j,x)=hL n p f R (j - 1):=by
 obtain ⟨i,rfl⟩:∃ i,j=i+1:=⟨j - 1,by omega⟩
 rw [Jrr]
 by_cases c:1≤(hdK n p f R i).length
 ·rw [Jwz _ _ _ c]; rfl
 ·have:hdK n p f R i=[]:=List.eq_nil_of_length_eq_zero (by omega)
  rw [this]; rfl
theorem K1i {j:Nat} (h:1≤j) (T:Int):Knows (J6j p n) T (hL n p f R (j - 1)) (cliG n p f R T j):=
 ⟨by show 1≤(hdK n p f R j).length; rw [Jfz]; omega,by show (hdK n p f R j).length≤1000; rw [Jfz]; omega,Jlz n p f R h _,rfl,rfl,rfl⟩
end
section
variable {n : Nat} {p : Nat → Int} {f : Nat → Int} {R : List (List Pr)}
theorem K4g (hp:PwOk p) (h1:1≤n) (hn:n≤4) (hR:R.length≤16) (hf:Jho R.length f) {j:Nat} (hj:1≤j∧j < R.length) (T now:Int) (hnow:0≤now∧now≤1099511627776) (q1:¬ T < now - f (j - 1)) (q2:f j≤now) :
  J27 (gL n p f R j) now (cliG n p f R T j)=some (0,cliG n p f R T (j+1)):=by
 have hk:=K1i n p f R hj.1 T
 rw [show gL n p f R j=sgB n (rR R) (fun _=>p) f j (fun _=>true) from K2o _ _ _ _ _]
 rw [upd_eq _ _ _ (sgB_ok hn (fun _=>p) f (by omega) (K1q R j) _) (K16 (r:=rR R) (P:=fun _=>p) (m:=R.length) hn (fun _=>hp) hR hf (i:=j - 1) (by omega) hk) (by omega)]
 rw [K4h (P:=fun _=>p) (m:=R.length) h1 hn (fun _=>hp) hR hf (i:=j - 1) (by omega) hj.2 hk now (fun _=>true) q1 (by omega)]
 have hw:=K3d (p:=pB (fun _=>p) j) (pB_ok (fun _=>hp) _) _ (K00 h1)
 rw [Jlv,if_neg (by omega),if_neg (by omega)]
 rw [show (cliG n p f R T j).1=hdK n p f R j from rfl]
 rw [show hG n (rR R) (fun k=>J6j p n) f j=hL n p f R j from rfl,← Jrr]
 rfl
theorem expG (hp:PwOk p) (hn:n≤4) (hR:R.length≤16) (hf:Jho R.length f) {j:Nat} (hj:1≤j∧j≤R.length) (T now:Int) (hnow:0≤now∧now≤1099511627776) :
  J0g now (cliG n p f R T j)=some (decide (T < now - f (j - 1))):=by
 rw [Jk9 _ _ (K16 (r:=rR R) (P:=fun _=>p) (m:=R.length) hn (fun _=>hp) hR hf (i:=j - 1) (by omega) (K1i n p f R hj.1 T)) (by omega)]
 rw [show lastH (cliG n p f R T j)=hL n p f R (j - 1) from Jlz n p f R hj.1 _,show (hL n p f R (j - 1)).2.1=f (j - 1) from hG_t _ _ _ _ _]
 rfl
theorem latG {j:Nat} (hj:1≤j) (x:Int×Bool×Unit) (v:List Val):J1l x (hdK n p f R j) v=some (hL n p f R (j - 1)):=by
 have hl:=Jfz n p f R j
 have:=Jlz n p f R hj (v,x)
 unfold J1l
 rw [J6i (by omega) (by omega),J6e (by omega),show (((hdK n p f R j).length:Int) - 1).toNat=(hdK n p f R j).length - 1 from by omega]
 exact congrArg some this
theorem Jmv (x0:Int) (x1:List Hdr) (x2:Int) (x3:Int) (x4:(List Hdr)×(List Val)×Int×Bool×Unit) (x5:List UInt8):Js_1_step x0 x1 x2 x3 x4 x5 =
  (fork (decide (x3 < x2)) (need (0≤x3∧x3 < (List.length x1:Int)) (fork (decide ((List.getD x1 (Int.toNat x3) zHdr).1=x0)) (some (.inr (.inl (true,x4,(List.getD x1 (Int.toNat x3) zHdr).2.2.1)))) (some (.inl (w64 (x3+(1:Int))))))) (some (.inr (.inr (x4,x5)))):Option ((Int)⊕((Bool×((List Hdr)×(List Val)×Int×Bool×Unit)×List UInt8)⊕(((List Hdr)×(List Val)×Int×Bool×Unit)×List UInt8)))):=rfl
theorem K3s (x:Int) (l:List Hdr) (y:List Val×Int×Bool×Unit) (hl:l.length≤1000) {k:Nat} (hk:k < l.length) (hx:(l.getD k zHdr).1=x) (hne:∀ i,i < k→(l.getD i zHdr).1≠x) :
  Js x (l,y)=some ((l.getD k zHdr).2.2.1,true,(l,y)):=by
 have m:Js_1 x l (l.length:Int) 0 (l,y) (List.replicate 32 0)=some (scan (fun i=>if (l.getD i zHdr).1=x then some (.inl (true,(l,y),(l.getD i zHdr).2.2.1)) else none) (.inr ((l,y),List.replicate 32 0)) 0 l.length):=by
  unfold Js_1
  refine J93 (step:=fun (s:Int)=>Js_1_step x l (l.length:Int) s (l,y) (List.replicate 32 0)) (fun i=>(i:Int)) _ _ l.length (fun i hi q=>?_) (fun i r hi q=>?_) ?_ l.length 0 (by omega)
  ·rw [Jmv,J6h (by omega),J6e (by omega),Int.toNat_natCast,J6i (by omega) (by omega)]
   by_cases e:(l.getD i zHdr).1=x
   ·rw [if_pos e] at q; cases q
   ·rw [J6f e]; rfl
  ·rw [Jmv,J6h (by omega),J6e (by omega),Int.toNat_natCast]
   by_cases e:(l.getD i zHdr).1=x
   ·rw [if_pos e] at q; injection q with q; subst q; rw [J6h e]
   ·rw [if_neg e] at q; cases q
  ·rw [Jmv,J6f (by omega)]
 unfold Js
 dsimp only
 rw [m,J6d,Jai (bad:=fun i=>if (l.getD i zHdr).1=x then some (Sum.inl (true,(l,y),(l.getD i zHdr).2.2.1)) else none) l.length 0 k (Nat.zero_le _) (by omega) (fun j _ hj=>if_neg (hne j hj)) (if_pos hx)]
theorem rootG {j:Nat} (T:Int) {h:Nat} (hh:j - 6≤h∧h < j):Js ((h:Int)+1) (cliG n p f R T j)=some (rR R h,true,cliG n p f R T j):=by
 have hl:=Jfz n p f R j
 have hg:∀ i,i < min j 6→(hdK n p f R j).getD i zHdr=hL n p f R (j - min j 6+i):=fun i hi=>by
  unfold hdK Je7
  rw [List.getD_eq_getElem?_getD,List.getElem?_drop,List.length_map,List.length_range,List.getElem?_map,List.getElem?_range (by omega)]
  show hL n p f R (j - 6+i)=_
  congr 1; omega
 have hone:∀ i,(hL n p f R i).1=(i:Int)+1:=fun i=>hG_1 _ _ _ _ _
 have:=K3s ((h:Int)+1) (hdK n p f R j) (J6j p n,T,false,()) (by omega) (k:=h - (j - min j 6)) (by omega) (by rw [hg _ (by omega),hone]; omega) (fun i hi=>by rw [hg _ (by omega),hone]; omega)
 rw [hg _ (by omega)] at this
 rw [show j - min j 6+(h - (j - min j 6))=h from by omega] at this
 unfold cliG
 rw [this]
 rw [show (hL n p f R h).2.2.1=rR R h from K2r _ _ _ _ _]
end
abbrev Ce:=CalT×Int×Unit
def zCe:Ce:=(zCal,0,())
def Je6 (e:List (Int×Ce)) (id:Int):Int:=((J6s ib id e).getD zCe).1.2.1
theorem clastG (id:Int) (e:List (Int×Ce)):J3x id () e=some (Je6 e id):=rfl
theorem putG (c:CalT) (b:Int) (e:List (Int×Ce)) (h1:1≤c.2.1) (hb:0≤b) (hl:Je6 e c.1 < c.2.1) (hc:Jel c) (hf:(J6s ib c.1 e).isSome=true∨e.length < 6) :
  J3f c b () e=some (0,J6x ib c.1 (c,b,()) e):=by
 have hcc:J25 c=some c:=by
  unfold J25 Jk
  unfold Jel at hc
  rw [J6e (by omega)]; rfl
 unfold Je6 at hl
 unfold J3f
 rw [hcc]
 rw [J6f (by omega),J6f (by omega)]
 cases hs:(J6s ib c.1 e).isSome with
 | true=>
  rw [J7h,J6f (by
   have:¬ c.2.1≤((J6s ib c.1 e).getD zCe).1.2.1:=by omega
   exact this)]
  rfl
 | false=>
  have hf:e.length < 6:=by rcases hf with h | h; (rw [hs] at h; cases h); exact h
  rw [J6m,show (!false)=true from rfl,J7h,J6f (by omega)]
  rfl
noncomputable def J8y (id:Int) (q:Qry) (h:Int) (l:List Pr):CalT:=(id,h,(ansS id q h l).2.2.1,())
theorem openG {g:Nat→Ent} {m j:Nat} (hj:j < m) (r:Int×Int×Int×Unit):J0z ((j:Int)+1) r (regF g 0 m)=some (decide (0 < (g j).2.2.1)):=by
 unfold J0z
 rw [show J6s (Ty.beq (.int .i64)) ((j:Int)+1) (regF g 0 m)=some (g j) from Jg6 g j m 0 (Nat.zero_le _) (by omega)]
 rfl
theorem qgetG {g:Nat→Ent} {m j:Nat} (hj:j < m) (r:Int×Int×Int×Unit):J14 ((j:Int)+1) r (regF g 0 m)=some ((g j).1,true):=by
 unfold J14
 rw [show J6s (Ty.beq (.int .i64)) ((j:Int)+1) (regF g 0 m)=some (g j) from Jg6 g j m 0 (Nat.zero_le _) (by omega)]
 rfl
theorem shutG {g:Nat→Ent} {m j:Nat} (hj:j < m) (hu:0 < (g j).2.2.1) (r:Int×Int×Int×Unit):J2r ((j:Int)+1) r (regF g 0 m)=some (true,regF (updG g j ((g j).1,(g j).2.1,0,())) 0 m):=by
 unfold J2r
 rw [show J6s (Ty.beq (.int .i64)) ((j:Int)+1) (regF g 0 m)=some (g j) from Jg6 g j m 0 (Nat.zero_le _) (by omega)]
 simp only [Option.isSome_some,Option.getD_some,Bool.not_true]
 rw [J6m,J6f (by omega)]
 rw [show ∀ y:Ent,J6x (Ty.beq (.int .i64)) ((j:Int)+1) y (regF g 0 m)=regF (updG g j y) 0 m from fun y=>Jj9 g j y m 0 (Nat.zero_le _) (by omega)]
theorem K08 {g:Nat→Ent} {m j:Nat} (hj:j < m) (hu:0 < (g j).2.2.1) (hq:(g j).1.1=1∨(g j).1.1=2) {l:List Pr} (hrow:RowG l) {h:Int} (hh:1≤h∧h≤16) {cli:Cli} (hfz:cli.2.2.2.1=false) {now:Int} (hexp:J0g now cli=some false) (hroot:Js h cli=some (J9o l,true,cli))
  {e:List (Int×Ce)} (hlast:Je6 e ((j:Int)+1) < h) (hf:(J6s ib ((j:Int)+1) e).isSome=true∨e.length < 6) {cl:List CalT} (hcl:cl.length < 8) (hco:∀ c ∈ cl,Jel c) {r:Int×Int×Int×Unit} (hb:0≤r.2.1) (mi:Int×Int×List Pr×Bool×Unit) (x10 x11 x12:Int) (x13:Bool) (x15:List (List UInt8×Int)) :
  J16 (ansS ((j:Int)+1) (g j).1 h l) now () cli r (regF g 0 m) () e (cl,()) mi x10 x11 x12 x13 () x15 =
   some (0,cli,regF (updG g j ((g j).1,(g j).2.1,0,())) 0 m,J6x ib ((j:Int)+1) (J8y ((j:Int)+1) (g j).1 h l,r.2.1,()) e,(),cl++[J8y ((j:Int)+1) (g j).1 h l]):=by
 obtain ⟨a1,a2⟩:=Jtf hrow hq ((j:Int)+1) h hh
 obtain ⟨o1,o2,o3,o4,o5⟩:=Jhs ((j:Int)+1) (g j).1 h l hrow
 have hC:Jel (J8y ((j:Int)+1) (g j).1 h l):=by unfold Jel J8y; dsimp only; omega
 unfold J16
 rw [a1,J6d,show (!true)=false from rfl,J6m,o4,o5,openG hj,J6d,decide_eq_true hu,show (!true)=false from rfl,J6m]
 rw [show J2q cli=some false from by unfold J2q; rw [hfz],J6d,J6m,hexp,J6d,J6m,clastG,J6d,J6f (by omega),hroot,J6d]
 dsimp only
 rw [show (!true)=false from rfl,J6m,roomG cl (by omega),J6d,J6f (by omega),qgetG hj,J6d]
 dsimp only
 rw [a2,J6d,show (!decide ((0:Int)=0))=false from rfl,J6m,show J1g r (regF g 0 m)=some r.2.1 from rfl,J6d]
 rw [show ((((j:Int)+1),h,(ansS ((j:Int)+1) (g j).1 h l).2.2.1,()):CalT)=J8y ((j:Int)+1) (g j).1 h l from rfl]
 rw [putG (J8y ((j:Int)+1) (g j).1 h l) r.2.1 e hh.1 hb hlast hC hf,J6d]
 dsimp only
 rw [show (!decide ((0:Int)=0))=false from rfl,J6m,pushG _ cl hcl hC hco,J6d,shutG hj hu,J6d]
 rfl
theorem Jv2 {R:List (List Pr)} {now0:List Pr} {B:List Block} (hn0:RowB now0) (hR:∀ l ∈ R,RowB l) (hlen:R.length≤16) {g:Nat→Ent} {m j:Nat} (hj:j < m) (hu:0 < (g j).2.2.1) (hq:(g j).1.1=1∨(g j).1.1=2) {i:Nat} (hi:R.length - 6≤i∧i < R.length) (hrow:RowG (R.getD i [])) {cli:Cli} (hfz:cli.2.2.2.1=false) {now:Int} (hexp:J0g now cli=some false) (hroot:Js ((i:Int)+1) cli=some (J9o (R.getD i []),true,cli))
  {e:List (Int×Ce)} (hlast:Je6 e ((j:Int)+1) < (i:Int)+1) (hf:(J6s ib ((j:Int)+1) e).isSome=true∨e.length < 6) {cl:List CalT} (hcl:cl.length < 8) (hco:∀ c ∈ cl,Jel c) {r:Int×Int×Int×Unit} (hb:0≤r.2.1) (q:Int) (D:List (List UInt8)) (K:List (List (List UInt8))) (V:List Val) (mi:Int×Int×List Pr×Bool×Unit) (x10 x11 x12:Int) (x13:Bool) (x15:List (List UInt8×Int)) (ac:List CalT) (hac:ac.length≤1000) :
  J0n ((j:Int)+1) ((i:Int)+1) now q () () D K V (stR now0 R) B () cli r (regF g 0 m) () e (cl,()) mi x10 x11 x12 x13 () x15 ac =
   some (0,cli,regF (updG g j ((g j).1,(g j).2.1,0,())) 0 m,J6x ib ((j:Int)+1) (J8y ((j:Int)+1) (g j).1 ((i:Int)+1) (R.getD i []),r.2.1,()) e,(cl++[J8y ((j:Int)+1) (g j).1 ((i:Int)+1) (R.getD i [])],()),ac++[J8y ((j:Int)+1) (g j).1 ((i:Int)+1) (R.getD i [])]):=by
 obtain ⟨o1,o2,o3,o4,o5⟩:=Jhs ((j:Int)+1) (g j).1 ((i:Int)+1) (R.getD i []) hrow
 have hAt:J2w ((i:Int)+1) () D K V (stR now0 R) B=some (R.getD i [],true):=by
  unfold J2w
  rw [K4b _ (Jt0 hn0 hR hlen),J6d,stR_at,if_pos (by omega),show ((i:Int)+1 - 1).toNat=i from by omega]
 unfold J0n
 rw [show J07 () cli r (regF g 0 m) () e (cl,()) mi x10 x11 x12 x13 () x15=some () from rfl,J6d,qgetG hj,J6d,hAt,J6d]
 dsimp only
 rw [show (!true)=false from rfl,J6m,J6m,K23 hrow hq,J6d]
 unfold J3e
 rw [K08 hj hu hq hrow (by omega) hfz hexp hroot hlast hf hcl hco hb,J6d]
 dsimp only
 rw [J6h rfl]
 unfold Jk
 rw [J6e (by omega),J6d,J6e (by simp only [List.length_singleton]; omega),o4,o5]
 rfl
def recB (t r:Int):List UInt8:=putS [t,r]
def recP (n:List UInt8) (t r:Int):Pr:=([115,47]++n,recB t r,())
def Amt (n:Int):Prop:=0≤n∧n≤1073741824
theorem Jgg {n:Int} (h:Amt n):J2f n=some true:=by
 unfold J2f
 rw [J6h h.1,decide_eq_true h.2]
theorem Jxv {t r:Int} (ht:Amt t) (hr:Amt r):J3o t r=some (recB t r):=by
 unfold J3o
 rw [Jgg ht,J6d,Bool.not_true,J6m,Jgg hr,J6d,Bool.not_true,J6m,put_eq _ (by simp)]
 rfl
theorem Jr2 (l:List UInt8) (h:l.length≤1000):J5o l=some (l,false,()):=by
 unfold J5o
 rw [J6e (by rw [List.length_nil]; omega)]; rfl
theorem Jsk (t r:Int):(recB t r).length≤14:=by have:=Jml [t,r]; unfold recB; simp only [List.length_cons,List.length_nil] at this; omega
theorem K06 {t r:Int} (ht:Amt t) (hr:Amt r):J39 (recB t r)=some (t,r,true):=by
 have e:recB t r=oneS t++(oneS r++[]):=by unfold recB putS; simp
 have hl:=Jsk t r
 unfold J39
 rw [Jr2 _ (by omega),J6d,e,number_eq,Jxd t ht.1 (by have:=ht.2; omega),J6d]
 dsimp only
 rw [number_eq,Jxd r hr.1 (by have:=hr.2; omega),J6d,doneS,J6d]
 dsimp only
 rw [show (!(!false && decide (([]:List UInt8)=[])))=false from rfl,J6m,Jgg ht,J6d,Bool.not_true,J6m,Jgg hr,J6d,Bool.not_true,J6m]
theorem K05:J39 []=some (0,0,false):=by
 unfold J39
 rw [show J5o []=some ([],false,()) from rfl,J6d,number_eq,J6d,number_eq,J6d,doneS,J6d]
 rfl
def RecS:List (List UInt8×Int×Int)→Int
 | []=>0
 | x::r=>x.2.1+x.2.2+RecS r
def rowR (l:List (List UInt8×Int×Int)):List Pr:=l.map fun x=>recP x.1 x.2.1 x.2.2
theorem is_key (n:List UInt8):J46 ([115,47]++n)=some true:=by
 unfold J46 J4p J41
 have hl:(([115,47]++n).length:Int)=(n.length:Int)+2:=by simp; omega
 have h2:(([115,47]:List UInt8).length:Int)=2:=rfl
 rw [hl,h2,J6h (by omega),J6e (by omega),show cutL ([115,47]++n) 0 2=[115,47] from rfl]
 rfl
theorem K1g (n:List UInt8) (t r:Int):J46 (recP n t r).1=some true:=is_key n
theorem Jj8 (x:List UInt8×Int×Int) (r:List (List UInt8×Int×Int)):RecS (x::r)=x.2.1+x.2.2+RecS r:=rfl
theorem Jc2:∀ {l:List (List UInt8×Int×Int)},(∀ x ∈ l,Amt x.2.1∧Amt x.2.2)→0≤RecS l
 | [],_=>Int.le_refl _
 | x::r,h=>by
  have h1:=h x (List.mem_cons_self ..); have h2:=Jc2 (l:=r) fun y hy=>h y (List.mem_cons_of_mem _ hy)
  have:=h1.1.1; have:=h1.2.1; rw [Jj8]; omega
theorem Jnd (l:List Pr) (n:Nat) (hn:l.length=n) (hn2:n≤1000):∀ (m:List (List UInt8×Int×Int)) (acc:Int) (i:Nat),i+m.length=n→l.drop i=rowR m→(∀ x ∈ m,Amt x.2.1∧Amt x.2.2)→0≤acc→acc+RecS m≤1073741824→
  J03_1 acc l (n:Int) (i:Int)=some (acc+RecS m)
 | [],acc,i,hi,hd,hm,h0,h1=>by
  unfold J03_1
  refine J6z ?_
  show J03_1_step acc l (n:Int) (i:Int)=_
  unfold J03_1_step
  rw [J6f (by simp at hi; omega)]
  rw [show RecS []=0 from rfl,Int.add_zero]
 | x::m,acc,i,hi,hd,hm,h0,h1=>by
  simp only [List.length_cons] at hi
  have hx:=hm x (List.mem_cons_self ..)
  have hs:=Jc2 (l:=m) fun y hy=>hm y (List.mem_cons_of_mem _ hy)
  have a1:=hx.1.1; have a2:=hx.2.1; have a3:=hx.1.2; have a4:=hx.2.2
  rw [Jj8] at h1
  have hg:l.getD i zPr=recP x.1 x.2.1 x.2.2:=by
   have:(l.drop i)[0]?=some (recP x.1 x.2.1 x.2.2):=by rw [hd]; rfl
   rw [List.getElem?_drop,Nat.add_zero] at this
   rw [List.getD_eq_getElem?_getD,this]; rfl
  have hd2:l.drop (i+1)=rowR m:=by
   have:(l.drop i).drop 1=rowR m:=by rw [hd]; rfl
   rw [List.drop_drop] at this; exact this
  have ih:=Jnd l n hn hn2 m (acc+(x.2.1+x.2.2)) (i+1) (by omega) hd2 (fun y hy=>hm y (List.mem_cons_of_mem _ hy)) (by omega) (by omega)
  unfold J03_1 at ih ⊢
  rw [J77 (s':=(acc+(x.2.1+x.2.2),((i+1:Nat):Int))) (by
   show J03_1_step acc l (n:Int) (i:Int)=_
   unfold J03_1_step
   rw [J6h (by omega),J6e (by omega),Int.toNat_natCast,show (([]:List UInt8),([]:List UInt8),())=zPr from rfl,hg,K1g,J6d,Bool.not_true,J6m,show (recP x.1 x.2.1 x.2.2).2.1=recB x.2.1 x.2.2 from rfl,K06 hx.1 hx.2,J6d]
   dsimp only
   rw [Bool.not_true,J6m,J6i (n:=x.2.1+x.2.2) (by omega) (by omega),J6i (n:=acc+(x.2.1+x.2.2)) (by omega) (by omega),J6i (n:=(i:Int)+1) (by omega) (by omega)]
   rfl),ih,Jj8]
  congr 1; omega
theorem Jgl (m:List (List UInt8×Int×Int)) (hl:m.length≤1000) (hm:∀ x ∈ m,Amt x.2.1∧Amt x.2.2) (h1:RecS m≤1073741824):J03 (rowR m)=some (RecS m,true):=by
 have hlen:(rowR m).length=m.length:=List.length_map _
 have:=Jnd (rowR m) m.length hlen hl m 0 0 (by omega) rfl hm (Int.le_refl _) (by omega)
 unfold J03
 rw [hlen,show (0:Int)=((0:Nat):Int) from rfl] at *
 rw [this,J6d,Int.natCast_zero,Int.zero_add,Jgg ⟨Jc2 hm,h1⟩,J6d,Bool.not_true,J6m]
theorem K2x (n:List UInt8) (h:n.length≤1000):J1h n=some ([115,47]++n):=by
 unfold J1h
 rw [J6e (by simp; omega)]
theorem K0u (l:List Pr) (hl:RowB l) (n:List UInt8) (hn:n≠[]∧n.length≤14) (hat:isAt l ([115,47]++n)=false) (hlen:l.length < 30) (x:Int) (hx:Amt x) (s:Int) (hb:J03 (putP l (recP n x 0))=some (s,true)) :
  J3z l n x=some (putP l (recP n x 0),0):=by
 have hr:=hl.1
 have z:Amt 0:=⟨by omega,by omega⟩
 have hx1:=hx.1; have hx2:=hx.2
 have hm:mayP (recP n x 0)=true:=by
  have:=Jsk x 0
  unfold mayP recP
  simp only [Bool.and_eq_true,decide_eq_true_eq,Bool.not_eq_true',decide_eq_false_iff_not]
  refine ⟨by simp,by simp; omega,by omega⟩
 have hset:setP l (recP n x 0)=(putP l (recP n x 0),true):=by
  unfold setP; rw [hm,decide_eq_true hlen]; simp
 unfold J3z J1w
 rw [K2x n (by omega),J6d,J6f hn.1,J6f (by simp; omega),Jgg hx,J6d,Bool.not_true,J6m,Jg1 l hr (by have:=hl.2.1; omega),J6d,hat,if_neg (by simp),K05,J6d]
 dsimp only
 unfold J1w_1
 rw [J6m,Bool.not_false,J7h,Bool.not_true,J6m,J6d]
 dsimp only
 unfold J40
 rw [J6d,Int.zero_add,J6i (by omega) (by omega)]
 dsimp only
 rw [J9r rfl,Jxv hx z,J6d,show (([115,47]++n,recB x 0,()):Pr)=recP n x 0 from rfl,Jwy l hr (by have:=hl.2.1; omega),J6d,hset]
 dsimp only
 rw [Bool.not_true,J6m,hb,J6d]
 rfl
abbrev Um:=List (List UInt8×Int)
def sumM:Um→Int
 | []=>0
 | p::r=>p.2+sumM r
def NonM:Um→Prop
 | []=>True
 | p::r=>0≤p.2∧NonM r
structure Juw (s p a:Int) (m:Um):Prop where
 s0:0≤s
 p0:0≤p
 top:s+p≤1073741824
 a0:0≤a
 a1:a≤1073741824
 sum:sumM m=a
 non:NonM m
theorem Kn {s p a:Int} {m:Um} (h:Juw s p a m) (t:Int) (h0:0≤t) (h1:t≤1073741824 - p) (b:Bool) (u:Unit) :
  J3b t s p a b u m=some (0,t,false)∧Juw t p a m:=by
 have s0:=h.s0; have p0:=h.p0; have tp:=h.top
 unfold J3b
 rw [J6f (by omega),J6i (by omega) (by omega),J6f (by omega)]
 exact ⟨rfl,h0,h.p0,by omega,h.a0,h.a1,h.sum,h.non⟩
abbrev SRec:=List UInt8×Int×Int
abbrev Mir:=Int×Int×List Pr×Bool×Unit
theorem Jms (m:List SRec):(rowR m).length=m.length:=List.length_map _
theorem K3v (m:List SRec) {i:Nat} (hi:i < m.length):∃ x ∈ m,(rowR m).getD i zPr=recP x.1 x.2.1 x.2.2:=by
 have hm:(rowR m).getD i zPr ∈ rowR m:=J7c (by rw [Jms]; exact hi)
 obtain ⟨x,hx,e⟩:=List.mem_map.1 hm
 exact ⟨x,hx,e.symm⟩
theorem Jld (m:List SRec) (hl:m.length≤1000):J18 (rowR m)=some false:=by
 have hlen:=Jms m
 have e:Jh_1 (rowR m) ((rowR m).length:Int) 0=some (.inr ()):=by
  unfold Jh_1
  refine J6p (step:=fun (s:Int)=>Jh_1_step (rowR m) ((rowR m).length:Int) s) (fun i (_:Unit)=>(i:Int)) (fun _ _=>()) (fun _=>.inr ()) m.length (fun _ _=>True) (fun i w hi _=>⟨?_,trivial⟩) (fun w _=>?_) m.length 0 () (by omega) trivial
  ·show Jh_1_step (rowR m) ((rowR m).length:Int) (i:Int)=_
   unfold Jh_1_step J45
   obtain ⟨x,hx,ex⟩:=K3v m hi
   rw [J6h (by omega),J6e (by omega),Int.toNat_natCast,show (([]:List UInt8),([]:List UInt8),())=zPr from rfl,ex,K1g,J6d]
   rw [show (!true)=false from rfl,J6d,J6m,J6i (by omega) (by omega)]
   rfl
  ·show Jh_1_step (rowR m) ((rowR m).length:Int) (m.length:Int)=_
   unfold Jh_1_step
   rw [J6f (by omega)]
 unfold J18 Jh
 rw [e]
 rfl
theorem takeG (m:List SRec) (hl:m.length≤1000) (hm:∀ x ∈ m,Amt x.2.1∧Amt x.2.2) (h1:RecS m≤1073741824) (hk:J12 (rowR m)=some true) (h:Int) (mi:Mir) (hh:1≤h∧mi.1≤h) :
  J2x (1,h,rowR m,()) mi=some (0,h,RecS m,(false,()),rowR m):=by
 have hlen:=Jms m
 unfold J2x
 dsimp only
 rw [hk,J6d,show (!true)=false from rfl,J6m,Jld m hl,J6d,J6m,J6f (by omega),Jgl m hl hm h1,J6d]
 dsimp only
 rw [show (!true)=false from rfl,J6m]
 unfold Jk
 rw [J6e (by omega),J6d]
abbrev Mst3:=Mir×Int×Bool
noncomputable def Jfu (c:CalT) (s:Mst3) (y z:Int) (us:List (List UInt8×Int)):Option (Mir×Int×Bool):=
 J19 c () ([],[],0,false,()) (0,0,0,()) [] () [] ([],()) s.1 s.2.1 y z s.2.2 () us
theorem Jni (c:CalT) (s:Mst3) (y z:Int) (us:List (List UInt8×Int)) (cli:Cli) (r:Int×Int×Int×Unit) (reg:List (Int×Ent)) (ca:List (Int×Ce)) (cq:List CalT×Unit):J19 c () cli r reg () ca cq s.1 s.2.1 y z s.2.2 () us=Jfu c s y z us:=rfl
theorem Jnj (c:CalT) (hc:c.1≠1) (s:Mst3) (y z:Int) (us:List (List UInt8×Int)):Jfu c s y z us=some s:=by
 unfold Jfu J19
 rw [show (!decide (c.1=1))=true from by rw [decide_eq_false hc]; rfl,J7h]
theorem Jtm (m:List SRec) (hl:m.length≤1000) (hm:∀ x ∈ m,Amt x.2.1∧Amt x.2.2) (hk:J12 (rowR m)=some true) (h:Int) (s:Mst3) (hh:1≤h∧s.1.1≤h) {y z:Int} {us:List (List UInt8×Int)} (hL:Juw s.2.1 y z us) (hy:RecS m≤1073741824 - y) :
  Jfu (1,h,rowR m,()) s y z us=some ((h,RecS m,rowR m,false,()),RecS m,false)∧Juw (RecS m) y z us:=by
 have hp:=hL.p0
 obtain ⟨e,o⟩:=Kn hL (RecS m) (Jc2 hm) hy s.2.2 ()
 refine ⟨?_,o⟩
 unfold Jfu J19
 rw [show (!decide (((1:Int),h,rowR m,()).1=1))=false from rfl,J6m,takeG m hl hm (by omega) hk h s.1 hh,J6d]
 dsimp only
 rw [J6h rfl,show J31 h (RecS m) (false,()) (rowR m)=some () from rfl,J6d,e,J6d]
 rfl
def Jhm (y z:Int) (us:List (List UInt8×Int)):List CalT→Mst3→Mst3→Prop
 | [],s,t=>s=t
 | c::l,s,t=>∃ u,Jfu c s y z us=some u∧Jhm y z us l u t
theorem Jjz (cli:Cli) (r:Int×Int×Int×Unit) (reg:List (Int×Ent)) (ca:List (Int×Ce)) (y z:Int) (us:List (List UInt8×Int)) :
  ∀ (l:List CalT) (s t:Mst3) (c:CalT),l.length≤1000→Jhm y z us (c::l) s t→
   Jg_1 true () cli r reg () ca (l,()) s.1 s.2.1 y z s.2.2 () us c=some ((),cli,r,reg,(),ca,([],()),t.1,t.2.1,y,z,t.2.2,(),us)
 | [],s,t,c,hl,h=>by
  obtain ⟨u,h1,h2⟩:=h
  have h2:u=t:=h2
  subst h2
  unfold Jg_1
  rw [J77 (s':=(false,([],()),u.1,u.2.1,u.2.2,zCal)) (by
   show Jg_1_step true () cli r reg () ca ([],()) s.1 s.2.1 y z s.2.2 () us c=_
   unfold Jg_1_step
   rw [J7h,Jni,h1,J6d,popG0]
   rfl)]
  exact J6z rfl
 | d::l,s,t,c,hl,h=>by
  obtain ⟨u,h1,h2⟩:=h
  have ih:=Jjz cli r reg ca y z us l u t d (by rw [List.length_cons] at hl; omega) h2
  unfold Jg_1 at ih ⊢
  rw [J77 (s':=(true,(l,()),u.1,u.2.1,u.2.2,d)) (by
   show Jg_1_step true () cli r reg () ca (d::l,()) s.1 s.2.1 y z s.2.2 () us c=_
   unfold Jg_1_step
   rw [J7h,Jni,h1,J6d,popG d l (by rw [List.length_cons] at hl; omega)]
   rfl)]
  exact ih
theorem Jre (cli:Cli) {g:Nat→Ent} {m:Nat} (hm:m≤12) (hg:∀ j,Jhn (g j)) (a b l:Int) (hb:0≤b∧b < 100000) (hl:0≤l∧l≤100000) (ca:List (Int×Ce)) (cl:List CalT) (hcl:cl.length≤100) (y z:Int) (us:List (List UInt8×Int)) (s t:Mst3) (h:Jhm y z us cl s t) :
  Jg () cli (a,b,l,()) (regF g 0 m) () ca (cl,()) s.1 s.2.1 y z s.2.2 () us=some ((),cli,(a,b+1,l+(J8i (fun j=>J7l (b+1) (g j)) m).length,()),regF (fun j=>askG (b+1) (J9c (b+1) (g j))) 0 m,(),ca,([],()),t.1,t.2.1,y,z,t.2.2,(),us,J8i (fun j=>J7l (b+1) (g j)) m,J8i (fun j=>Jap (b+1) (J9c (b+1) (g j))) m):=by
 unfold Jg
 cases cl with
 | nil=>
  cases h
  rw [popG0,J6d]
  dsimp only
  have e:Jg_1 false () cli (a,b,l,()) (regF g 0 m) () ca ([],()) s.1 s.2.1 y z s.2.2 () us zCal=some ((),cli,(a,b,l,()),regF g 0 m,(),ca,([],()),s.1,s.2.1,y,z,s.2.2,(),us):=by
   unfold Jg_1
   exact J6z rfl
  rw [e,J6d]
  dsimp only
  rw [Jys m hm g hg a b l hb hl,J6d]
 | cons c cl=>
  rw [popG c cl (by rw [List.length_cons] at hcl; omega),J6d]
  dsimp only
  rw [Jjz cli _ _ ca y z us cl s t c (by rw [List.length_cons] at hcl; omega) h,J6d]
  dsimp only
  rw [Jys m hm g hg a b l hb hl,J6d]
abbrev TxT:=Int×List UInt8×List UInt8×Int×Int×Unit
abbrev zTx:TxT:=(0,[],[],0,0,())
abbrev zQy:Qry:=(0,[],[],0,0,())
abbrev WRes:=Int×Int×List Int×List Int×CalT×Unit
abbrev zR (a b:Int) (k l:List Int):WRes:=(a,b,k,l,(0,0,[],()),())
theorem K2f (now q:Int) (D:List (List UInt8)) (K:List (List (List UInt8))) (V:List Val) (s:Stt) (B:List Block) (c:Cli) (r:Int×Int×Int×Unit) (e:List (Int×Ent)) (ca:List (Int×Ce)) (cq:List CalT×Unit) (mi:Mir) (x y z:Int) (hb:Bool) (us:List (List UInt8×Int)) (ac:List CalT) (t:TxT) (er:Int) (s':Stt) (h:J0k t () D K V s B=some (er,s')) :
  J2 (1,0,0,[],t,zQy,[],()) now q () () D K V s B () c r e () ca cq mi x y z hb () us ac=some (zR er 0 [] [],now,q,(),(),D,K,V,s',(),c,r,e,(),ca,cq,mi,x,y,z,hb,(),us,B,ac):=by
 unfold J2
 rw [J6h (show (1:Int)=1 from rfl)]
 show andThen (J0k t () D K V s B) _=_
 rw [h]
 try rfl
theorem do_tx0 (now q:Int) (D:List (List UInt8)) (K:List (List (List UInt8))) (V:List Val) (s:Stt) (B:List Block) (c:Cli) (r:Int×Int×Int×Unit) (e:List (Int×Ent)) (ca:List (Int×Ce)) (cq:List CalT×Unit) (mi:Mir) (x y z:Int) (hb:Bool) (us:List (List UInt8×Int)) (t:TxT) (er:Int) (s':Stt) (h:J0k t () D K V s B=some (er,s')) :
  J35 (1,0,0,[],t,zQy,[],()) now q () () D K V s B () c r e () ca cq mi x y z hb () us=some (zR er 0 [] [],now,q,(),(),D,K,V,s',(),c,r,e,(),ca,cq,mi,x,y,z,hb,(),us,B,[]):=by
 unfold J35
 rw [J6h (show (1:Int)=1 from rfl)]
 show andThen (J0k t () D K V s B) _=_
 rw [h]
 rfl
theorem Jno (now q:Int) (D:List (List UInt8)) (K:List (List (List UInt8))) (V:List Val) (s:Stt) (B:List Block) (c:Cli) (r:Int×Int×Int×Unit) (e:List (Int×Ent)) (ca:List (Int×Ce)) (cq:List CalT×Unit) (mi:Mir) (x y z:Int) (hb:Bool) (us:List (List UInt8×Int)) (ac:List CalT) (t k:Int) (hk:k≠0) (s':Stt) (B' X:List Block) (h:Jd t () D K V s B=some (k,(),D,K,V,s',X,B')) :
  J2 (2,t,0,[],zTx,zQy,[],()) now q () () D K V s B () c r e () ca cq mi x y z hb () us ac=some (zR 0 k [] [],now,q,(),(),D,K,V,s',(),c,r,e,(),ca,cq,mi,x,y,z,hb,(),us,B',ac):=by
 unfold J2
 rw [J6f (show ¬ (2:Int)=1 by decide),J6h (show (2:Int)=2 from rfl)]
 show andThen (Jd t () D K V s B) _=_
 rw [h,J6d,J6f hk]
 try rfl
theorem Jrj (now q:Int) (D:List (List UInt8)) (K:List (List (List UInt8))) (V:List Val) (s:Stt) (B:List Block) (c:Cli) (r:Int×Int×Int×Unit) (e:List (Int×Ent)) (ca:List (Int×Ce)) (cq:List CalT×Unit) (mi:Mir) (x y z:Int) (hb:Bool) (us:List (List UInt8×Int)) (ac:List CalT) (t:Int) (h1:now≤t) (h2:t≤1073741824) :
  J2 (3,t,0,[],zTx,zQy,[],()) now q () () D K V s B () c r e () ca cq mi x y z hb () us ac=some (zR 0 0 [] [],t,q,(),(),D,K,V,s,(),c,r,e,(),ca,cq,mi,x,y,z,hb,(),us,B,ac):=by
 unfold J2
 rw [J6f (show ¬ (3:Int)=1 by decide),J6f (show ¬ (3:Int)=2 by decide),J6h (show (3:Int)=3 from rfl)]
 rw [show J33 (3,t,0,([]:List UInt8),zTx,zQy,([]:List UInt8),()).2.1 now q () () D K V s B () c r e () ca cq mi x y z hb () us ac=some 0 from by unfold J33; rw [J6f (show ¬ t < now by omega),J6f (show ¬ 1073741824 < t by omega)]]
 try rfl
theorem Jzm (now q:Int) (D:List (List UInt8)) (K:List (List (List UInt8))) (V:List Val) (s:Stt) (B:List Block) (c:Cli) (r:Int×Int×Int×Unit) (e:List (Int×Ent)) (ca:List (Int×Ce)) (cq:List CalT×Unit) (mi:Mir) (x y z:Int) (hb:Bool) (us:List (List UInt8×Int)) (ac:List CalT) (t er:Int) (c':Cli) (h:J1c t now q () () D K V s B () c r e () ca cq mi x y z hb () us ac=some (er,c')) :
  J2 (4,t,0,[],zTx,zQy,[],()) now q () () D K V s B () c r e () ca cq mi x y z hb () us ac=some (zR er 0 [] [],now,q,(),(),D,K,V,s,(),c',r,e,(),ca,cq,mi,x,y,z,hb,(),us,B,ac):=by
 unfold J2
 rw [J6f (show ¬ (4:Int)=1 by decide),J6f (show ¬ (4:Int)=2 by decide),J6f (show ¬ (4:Int)=3 by decide),J6h (show (4:Int)=4 from rfl)]
 show andThen (J1c t now q () () D K V s B () c r e () ca cq mi x y z hb () us ac) _=_
 rw [h]
 try rfl
theorem Jri (now q:Int) (D:List (List UInt8)) (K:List (List (List UInt8))) (V:List Val) (s:Stt) (B:List Block) (c:Cli) (r:Int×Int×Int×Unit) (e:List (Int×Ent)) (ca:List (Int×Ce)) (cq:List CalT×Unit) (mi:Mir) (x y z:Int) (hb:Bool) (us:List (List UInt8×Int)) (ac:List CalT) (r':Int×Int×Int×Unit) (e':List (Int×Ent)) (t:Mst3) (k l:List Int) (h:Jg () c r e () ca cq mi x y z hb () us=some ((),c,r',e',(),ca,([],()),t.1,t.2.1,y,z,t.2.2,(),us,k,l)) :
  J2 (5,0,0,[],zTx,zQy,[],()) now q () () D K V s B () c r e () ca cq mi x y z hb () us ac=some (zR 0 0 k l,now,q,(),(),D,K,V,s,(),c,r',e',(),ca,([],()),t.1,t.2.1,y,z,t.2.2,(),us,B,ac):=by
 unfold J2
 rw [J6f (show ¬ (5:Int)=1 by decide),J6f (show ¬ (5:Int)=2 by decide),J6f (show ¬ (5:Int)=3 by decide),J6f (show ¬ (5:Int)=4 by decide),J6h (show (5:Int)=5 from rfl)]
 show andThen (Jg () c r e () ca cq mi x y z hb () us) _=_
 rw [h]
 try rfl
theorem do_add (now q:Int) (D:List (List UInt8)) (K:List (List (List UInt8))) (V:List Val) (s:Stt) (B:List Block) (c:Cli) (r:Int×Int×Int×Unit) (e:List (Int×Ent)) (ca:List (Int×Ce)) (cq:List CalT×Unit) (mi:Mir) (x y z:Int) (hb:Bool) (us:List (List UInt8×Int)) (ac:List CalT) (qy:Qry) (n:Int) (r':Int×Int×Int×Unit) (e':List (Int×Ent)) (h:J0y qy () c r e () ca cq mi x y z hb () us=some (n,0,r',e')) :
  J2 (6,0,0,[],zTx,qy,[],()) now q () () D K V s B () c r e () ca cq mi x y z hb () us ac=some (zR 0 n [] [],now,n,(),(),D,K,V,s,(),c,r',e',(),ca,cq,mi,x,y,z,hb,(),us,B,ac):=by
 unfold J2
 rw [J6f (show ¬ (6:Int)=1 by decide),J6f (show ¬ (6:Int)=2 by decide),J6f (show ¬ (6:Int)=3 by decide),J6f (show ¬ (6:Int)=4 by decide),J6f (show ¬ (6:Int)=5 by decide),J6h (show (6:Int)=6 from rfl)]
 show andThen (J0y qy () c r e () ca cq mi x y z hb () us) _=_
 rw [h,J6d,J6h rfl]
 try rfl
theorem Jw0 (now q:Int) (D:List (List UInt8)) (K:List (List (List UInt8))) (V:List Val) (s:Stt) (B:List Block) (c:Cli) (r:Int×Int×Int×Unit) (e:List (Int×Ent)) (ca:List (Int×Ce)) (cq:List CalT×Unit) (mi:Mir) (x y z:Int) (hb:Bool) (us:List (List UInt8×Int)) (ac:List CalT) (t u er:Int) (c':Cli) (e':List (Int×Ent)) (ca':List (Int×Ce)) (cq':List CalT×Unit) (ac':List CalT) (h:J0n t u now q () () D K V s B () c r e () ca cq mi x y z hb () us ac=some (er,c',e',ca',cq',ac')) :
  J2 (8,t,u,[],zTx,zQy,[],()) now q () () D K V s B () c r e () ca cq mi x y z hb () us ac=some (zR er 0 [] [],now,q,(),(),D,K,V,s,(),c',r,e',(),ca',cq',mi,x,y,z,hb,(),us,B,ac'):=by
 unfold J2
 rw [J6f (show ¬ (8:Int)=1 by decide),J6f (show ¬ (8:Int)=2 by decide),J6f (show ¬ (8:Int)=3 by decide),J6f (show ¬ (8:Int)=4 by decide),J6f (show ¬ (8:Int)=5 by decide),J6f (show ¬ (8:Int)=6 by decide),J6f (show ¬ (8:Int)=7 by decide),J6h (show (8:Int)=8 from rfl)]
 show andThen (J0n t u now q () () D K V s B () c r e () ca cq mi x y z hb () us ac) _=_
 rw [h]
 try rfl
theorem K2e (now q:Int) (D:List (List UInt8)) (K:List (List (List UInt8))) (V:List Val) (s:Stt) (B:List Block) (c:Cli) (r:Int×Int×Int×Unit) (e:List (Int×Ent)) (ca:List (Int×Ce)) (cq:List CalT×Unit) (mi:Mir) (x y z:Int) (hb:Bool) (us:List (List UInt8×Int)) (ac:List CalT) (t u er:Int) (k:CalT) (h:J0t t u () c r e () ca cq mi x y z hb () us=some (k,er)) :
  J2 (12,t,u,[],zTx,zQy,[],()) now q () () D K V s B () c r e () ca cq mi x y z hb () us ac=some ((er,0,[],[],k,()),now,q,(),(),D,K,V,s,(),c,r,e,(),ca,cq,mi,x,y,z,hb,(),us,B,ac):=by
 unfold J2
 rw [J6f (show ¬ (12:Int)=1 by decide),J6f (show ¬ (12:Int)=2 by decide),J6f (show ¬ (12:Int)=3 by decide),J6f (show ¬ (12:Int)=4 by decide),J6f (show ¬ (12:Int)=5 by decide),J6f (show ¬ (12:Int)=6 by decide),J6f (show ¬ (12:Int)=7 by decide),J6f (show ¬ (12:Int)=8 by decide),J6f (show ¬ (12:Int)=9 by decide),J6f (show ¬ (12:Int)=10 by decide),J6f (show ¬ (12:Int)=11 by decide),J6h (show (12:Int)=12 from rfl)]
 show andThen (J0t t u () c r e () ca cq mi x y z hb () us) _=_
 rw [h]
 try rfl
theorem Jzn (now q:Int) (D:List (List UInt8)) (K:List (List (List UInt8))) (V:List Val) (s:Stt) (B:List Block) (c:Cli) (r:Int×Int×Int×Unit) (e:List (Int×Ent)) (ca:List (Int×Ce)) (cq:List CalT×Unit) (mi:Mir) (x y z:Int) (hb:Bool) (us:List (List UInt8×Int)) (ac:List CalT) (er n a b:Int) (c':Cli) (e':List (Int×Ent)) (ca':List (Int×Ce)) (cq':List CalT×Unit) (ac':List CalT) (h:Ju now q () () D K V s B () c r e () ca cq mi x y z hb () us ac=some (zR er n [] [],now,q,(),(),D,K,V,s,B,(),c',r,e',(),ca',cq',mi,x,y,z,hb,(),us,ac')) :
  J2 (13,0,0,[],zTx,zQy,[],()) now q () () D K V s B () c r e () ca cq mi x y z hb () us ac=some (zR er n [] [],now,q,(),(),D,K,V,s,(),c',r,e',(),ca',cq',mi,x,y,z,hb,(),us,B,ac'):=by
 unfold J2
 rw [J6f (show ¬ (13:Int)=1 by decide),J6f (show ¬ (13:Int)=2 by decide),J6f (show ¬ (13:Int)=3 by decide),J6f (show ¬ (13:Int)=4 by decide),J6f (show ¬ (13:Int)=5 by decide),J6f (show ¬ (13:Int)=6 by decide),J6f (show ¬ (13:Int)=7 by decide),J6f (show ¬ (13:Int)=8 by decide),J6f (show ¬ (13:Int)=9 by decide),J6f (show ¬ (13:Int)=10 by decide),J6f (show ¬ (13:Int)=11 by decide),J6f (show ¬ (13:Int)=12 by decide),J6h (show (13:Int)=13 from rfl)]
 show andThen (Ju now q () () D K V s B () c r e () ca cq mi x y z hb () us ac) _=_
 rw [h]
 try rfl
theorem getP (k k2:Int) (v:Ce):∀ e:List (Int×Ce),J6s ib k2 (J6x ib k v e)=if k2=k then some v else J6s ib k2 e
 | []=>by
  unfold J6x J6s
  rw [Jgq]
  by_cases c:k2=k
  ·rw [decide_eq_true c,cond_true,if_pos c]
  ·rw [decide_eq_false c,cond_false,if_neg c]; rfl
 | p::e=>by
  unfold J6x
  rw [Jgq]
  by_cases c:k=p.1
  ·rw [decide_eq_true c,cond_true]
   unfold J6s
   rw [Jgq]
   by_cases c2:k2=k
   ·rw [decide_eq_true (show k2=(p.1,v).1 from c2.trans c),cond_true,if_pos c2]
   ·have c3:¬ k2=p.1:=fun h=>c2 (h.trans c.symm)
    rw [decide_eq_false (show ¬ k2=(p.1,v).1 from c3),cond_false,cond_false,if_neg c2]
  ·rw [decide_eq_false c,cond_false]
   unfold J6s
   rw [Jgq]
   by_cases c2:k2=p.1
   ·rw [decide_eq_true c2,cond_true,cond_true,if_neg (fun h=>c (by rw [← h,c2]))]
   ·rw [decide_eq_false c2,cond_false,cond_false]; exact getP k k2 v e
theorem lenP (k:Int) (v:Ce):∀ e:List (Int×Ce),(J6x ib k v e).length=if (J6s ib k e).isSome=true then e.length else e.length+1
 | []=>rfl
 | p::e=>by
  unfold J6x J6s
  rw [Jgq]
  by_cases c:k=p.1
  ·rw [decide_eq_true c,cond_true,cond_true]; rfl
  ·rw [decide_eq_false c,cond_false,cond_false,List.length_cons,lenP k v e]
   split <;> simp
def cntC (e:List (Int×Ce)):Nat→Nat
 | 0=>0
 | i+1=>cntC e i+if (J6s ib ((i:Int)+1) e).isSome=true then 1 else 0
theorem K17 (e:List (Int×Ce)):∀ i,cntC e i≤i
 | 0=>Nat.le_refl _
 | i+1=>by unfold cntC; have:=K17 e i; split <;> omega
theorem cnt_lt {e:List (Int×Ce)} {j:Nat} (h:(J6s ib ((j:Int)+1) e).isSome=false):∀ i,j < i→cntC e i+1≤i
 | 0,hj=>by omega
 | i+1,hj=>by
  unfold cntC
  by_cases c:j=i
  ·subst c; rw [h]; have:=K17 e j; simp; omega
  ·have:=cnt_lt h i (by omega); split <;> omega
theorem Jvo {e:List (Int×Ce)} {j:Nat} (v:Ce):∀ i,cntC (J6x ib ((j:Int)+1) v e) i=cntC e i+if j < i∧(J6s ib ((j:Int)+1) e).isSome=false then 1 else 0
 | 0=>by simp [cntC]
 | i+1=>by
  unfold cntC
  rw [Jvo v i,getP]
  by_cases c:i=j
  ·subst c
   rw [if_pos (show ((i:Int)+1)=(i:Int)+1 from rfl)]
   cases (J6s ib ((i:Int)+1) e).isSome <;> simp
  ·rw [if_neg (show ¬ ((i:Int)+1=(j:Int)+1) by omega)]
   have:(j < i+1∧(J6s ib ((j:Int)+1) e).isSome=false)↔(j < i∧(J6s ib ((j:Int)+1) e).isSome=false):=by constructor <;> (rintro ⟨a,b⟩; exact ⟨by omega,b⟩)
   simp only [this]
   split <;> split <;> omega
def CaOk (m:Nat) (e:List (Int×Ce)):Prop:=e.length=cntC e m
theorem Jvj {m:Nat} (hm:m≤6) {e:List (Int×Ce)} (h:CaOk m e) {j:Nat} (hj:j < m):(J6s ib ((j:Int)+1) e).isSome=true∨e.length < 6:=by
 cases c:(J6s ib ((j:Int)+1) e).isSome with
 | true=>exact .inl rfl
 | false=>have:=cnt_lt c m hj; unfold CaOk at h; exact .inr (by omega)
theorem K15 {m:Nat} {e:List (Int×Ce)} (h:CaOk m e) {j:Nat} (hj:j < m) (v:Ce):CaOk m (J6x ib ((j:Int)+1) v e):=by
 unfold CaOk at h ⊢
 rw [lenP,Jvo,h]
 cases c:(J6s ib ((j:Int)+1) e).isSome with
 | true=>rw [if_pos rfl,if_neg (fun x=>by cases x.2)]; rfl
 | false=>rw [if_neg (by simp),if_pos ⟨hj,rfl⟩]
theorem Jry (k k2:Int) (v:Ce) (e:List (Int×Ce)):Je6 (J6x ib k v e) k2=if k2=k then v.1.2.1 else Je6 e k2:=by
 unfold Je6
 rw [getP]
 split <;> rfl
def Jdn (y:Ent):Ent:=if 0 < y.2.2.1 then (y.1,y.2.1,0,()) else y
section
variable (g : Nat → Ent) (h : Int) (l : List Pr) (b : Int) (e : List (Int × Ce))
noncomputable def J7e:Nat→List CalT
 | 0=>[]
 | i+1=>J7e i++if 0 < (g i).2.2.1 then [J8y ((i:Int)+1) (g i).1 h l] else []
noncomputable def J9v:Nat→List (Int×Ce)
 | 0=>e
 | i+1=>if 0 < (g i).2.2.1 then J6x ib ((i:Int)+1) (J8y ((i:Int)+1) (g i).1 h l,b,()) (J9v i) else J9v i
theorem Jgc:∀ i,(J7e g h l i).length≤i
 | 0=>Nat.le_refl _
 | i+1=>by unfold J7e; rw [List.length_append]; have:=Jgc i; split <;> simp <;> omega
theorem Jsr {i:Nat} (c:0 < (g i).2.2.1):J7e g h l (i+1)=J7e g h l i++[J8y ((i:Int)+1) (g i).1 h l]:=by show _++_=_; rw [if_pos c]
theorem K0h {i:Nat} (c:¬ 0 < (g i).2.2.1):J7e g h l (i+1)=J7e g h l i:=by show _++_=_; rw [if_neg c,List.append_nil]
theorem Jl9 {i:Nat} (c:0 < (g i).2.2.1):J9v g h l b e (i+1)=J6x ib ((i:Int)+1) (J8y ((i:Int)+1) (g i).1 h l,b,()) (J9v g h l b e i):=if_pos c
theorem Jpp {i:Nat} (c:¬ 0 < (g i).2.2.1):J9v g h l b e (i+1)=J9v g h l b e i:=if_neg c
end
theorem Jp8 (g:Nat→Ent) (h:Int) {l:List Pr} (hrow:RowG l):∀ i,∀ c ∈ J7e g h l i,Jel c
 | 0,c,hc=>by cases hc
 | i+1,c,hc=>by
  unfold J7e at hc
  rcases List.mem_append.1 hc with hc | hc
  ·exact Jp8 g h hrow i c hc
  ·split at hc
   ·rw [List.mem_singleton] at hc
    have:=(Jhs ((i:Int)+1) (g i).1 h l hrow).2.1
    subst hc; unfold Jel J8y; dsimp only; omega
   ·cases hc
theorem Jl8 (g:Nat→Ent) (h:Int) (l:List Pr) (b:Int) {m:Nat} {e:List (Int×Ce)} (he:CaOk m e):∀ i,i≤m→CaOk m (J9v g h l b e i)
 | 0,_=>he
 | i+1,hi=>by
  by_cases c:0 < (g i).2.2.1
  ·rw [Jl9 g h l b e c]; exact K15 (Jl8 g h l b he i (by omega)) (by omega) _
  ·rw [Jpp g h l b e c]; exact Jl8 g h l b he i (by omega)
theorem Jdy (g:Nat→Ent) (h:Int) (l:List Pr) (b:Int) (e:List (Int×Ce)) {j:Nat}:∀ i,i≤j→Je6 (J9v g h l b e i) ((j:Int)+1)=Je6 e ((j:Int)+1)
 | 0,_=>rfl
 | i+1,hi=>by
  by_cases c:0 < (g i).2.2.1
  ·rw [Jl9 g h l b e c,Jry,if_neg (by omega),Jdy g h l b e i (by omega)]
  ·rw [Jpp g h l b e c,Jdy g h l b e i (by omega)]
section
variable {n : Nat} {p f : Nat → Int} {R : List (List Pr)} {now0 : List Pr}
theorem Jy8 {B:List Block} (hn0:RowB now0) (hR:∀ l ∈ R,RowB l) (hlen:R.length≤16) {g:Nat→Ent} {m:Nat} (hm:m≤6) (hq:∀ j,j < m→(g j).1.1=1∨(g j).1.1=2) {i:Nat} (hi:R.length - 6≤i∧i < R.length) (hrow:RowG (R.getD i [])) {cli:Cli} (hfz:cli.2.2.2.1=false) {now:Int} (hexp:J0g now cli=some false) (hroot:Js ((i:Int)+1) cli=some (J9o (R.getD i []),true,cli))
  {e:List (Int×Ce)} (he:CaOk m e) (hlast:∀ j,j < m→Je6 e ((j:Int)+1) < (i:Int)+1) {r:Int×Int×Int×Unit} (hb:0≤r.2.1) (D:List (List UInt8)) (K:List (List (List UInt8))) (V:List Val) (mi:Mir) (x10 x11 x12:Int) (x13:Bool) (x15:List (List UInt8×Int)) (ac:List CalT) (hac:ac.length≤900) (a0 a1 a2 a3 a6 a8 a9 a10:Int) (er:Int) :
  Ju_1 ((i:Int)+1) 1 now (m:Int) () () D K V (stR now0 R) B () cli r (regF g 0 m) () e ([],()) mi x10 x11 x12 x13 () x15 ac a0 a1 a2 a3 () () er 0 a8 a9 () () =
   some (now,(m:Int),(),(),D,K,V,stR now0 R,B,(),cli,r,regF (fun j=>Jdn (g j)) 0 m,(),J9v g ((i:Int)+1) (R.getD i []) r.2.1 e m,(J7e g ((i:Int)+1) (R.getD i []) m,()),mi,x10,x11,x12,x13,(),x15,ac++J7e g ((i:Int)+1) (R.getD i []) m,a0,a1,a2,a3,(),(),er,((J7e g ((i:Int)+1) (R.getD i []) m).length:Int),a8,a9,(),()):=by
 have hend:regF (part Jdn g m) 0 m=regF (fun j=>Jdn (g j)) 0 m:=J9e m 0 fun j _ h2=>if_pos (by omega)
 have hst:regF (part Jdn g 0) 0 m=regF g 0 m:=Jxo Jdn g m
 rw [← hend,← hst]
 unfold Ju_1
 have:=J6p (step:=fun (s:Int×Cli×List (Int×Ent)×List (Int×Ce)×(List CalT×Unit)×List CalT×Int)=>Ju_1_step ((i:Int)+1) s.1 now (m:Int) () () D K V (stR now0 R) B () s.2.1 r s.2.2.1 () s.2.2.2.1 s.2.2.2.2.1 mi x10 x11 x12 x13 () x15 s.2.2.2.2.2.1 a0 a1 a2 a3 () () er s.2.2.2.2.2.2 a8 a9 () ())
  (fun k (_:Unit)=>((k:Int)+1,cli,regF (part Jdn g k) 0 m,J9v g ((i:Int)+1) (R.getD i []) r.2.1 e k,(J7e g ((i:Int)+1) (R.getD i []) k,()),ac++J7e g ((i:Int)+1) (R.getD i []) k,((J7e g ((i:Int)+1) (R.getD i []) k).length:Int))) (fun _ _=>())
  (fun _=>(now,(m:Int),(),(),D,K,V,stR now0 R,B,(),cli,r,regF (part Jdn g m) 0 m,(),J9v g ((i:Int)+1) (R.getD i []) r.2.1 e m,(J7e g ((i:Int)+1) (R.getD i []) m,()),mi,x10,x11,x12,x13,(),x15,ac++J7e g ((i:Int)+1) (R.getD i []) m,a0,a1,a2,a3,(),(),er,((J7e g ((i:Int)+1) (R.getD i []) m).length:Int),a8,a9,(),())) m (fun _ _=>True) (fun k w hk _=>⟨?_,trivial⟩) (fun w _=>?_) m 0 () (by omega) trivial
 ·simpa [J7e,J9v] using this
 ·dsimp only
  have hsl:=Jgc g ((i:Int)+1) (R.getD i []) k
  have hgk:part Jdn g k k=g k:=if_neg (Nat.lt_irrefl k)
  unfold Ju_1_step
  rw [J6h (by omega),show J07 () cli r (regF (part Jdn g k) 0 m) () (J9v g ((i:Int)+1) (R.getD i []) r.2.1 e k) (J7e g ((i:Int)+1) (R.getD i []) k,()) mi x10 x11 x12 x13 () x15=some () from rfl,J6d,openG hk,J6d,hgk,J6i (n:=(k:Int)+1+1) (by omega) (by omega)]
  by_cases c:0 < (g k).2.2.1
  ·rw [decide_eq_true c,show (!true)=false from rfl,J6m]
   rw [Jv2 hn0 hR hlen hk (by rw [hgk]; exact c) (by rw [hgk]; exact hq k hk) hi hrow hfz hexp hroot (by rw [Jdy _ _ _ _ _ k (Nat.le_refl _)]; exact hlast k hk) (Jvj hm (Jl8 _ _ _ _ he k (by omega)) hk) (by omega) (Jp8 g _ hrow k) hb _ _ _ _ _ _ _ _ _ _ _ (by rw [List.length_append]; omega),J6d,hgk]
   dsimp only
   rw [J6h rfl,J6i (by omega) (by omega),Jl9 _ _ _ _ _ c,Jsr _ _ _ c]
   have hp:=Jj2 Jdn g m k hk
   rw [show Jdn (g k)=((g k).1,(g k).2.1,0,()) from if_pos c] at hp
   rw [hp,List.length_append,List.append_assoc]
   rfl
  ·rw [decide_eq_false c,show (!false)=true from rfl,J7h,Jpp _ _ _ _ _ c,K0h _ _ _ c,Jfa Jdn g m k (if_neg c)]
   rfl
 ·dsimp only
  unfold Ju_1_step
  rw [J6f (by omega)]
theorem K1r (hp:PwOk p) (h1:1≤n) (hn:n≤4) (hR:R.length≤16) (hf:Jho R.length f) {j:Nat} (hj:1≤j∧j < R.length) (T now:Int) (hnow:0≤now∧now≤1099511627776) (q1:¬ T < now - f (j - 1)) (q2:f j≤now) (q:Int) (s:Stt) (r:Int×Int×Int×Unit) (e:List (Int×Ent)) (ca:List (Int×Ce)) (cq:List CalT×Unit) (mi:Mir) (x y z:Int) (hb:Bool) (us:List (List UInt8×Int)) (ac:List CalT) :
  J1c ((j:Int)+1) now q () () (J6k n) (J6n n) (J6j p n) s (BL n p f R) () (cliG n p f R T j) r e () ca cq mi x y z hb () us ac=some (0,cliG n p f R T (j+1)):=by
 unfold J1c
 rw [K13 hn hR hj.2,J6d]
 dsimp only
 rw [show (!true)=false from rfl,J6m]
 unfold J1k
 rw [K4g hp h1 hn hR hf hj T now hnow q1 q2]
 rfl
theorem serveW (hp:PwOk p) (h1:1≤n) (hn:n≤4) (hn0:RowB now0) (hR:∀ l ∈ R,RowB l) (hlen:R.length≤16) (hf:Jho R.length f) {j:Nat} (hj:1≤j∧j+1=R.length) (hrow:RowG (R.getD j [])) {T now:Int} (hnow:0≤now∧now≤1099511627776) (q1:¬ T < now - f (j - 1)) (q2:f j≤now) (q3:¬ T < now - f j) {g:Nat→Ent} {m:Nat} (hm:m≤6) (hq:∀ j,j < m→(g j).1.1=1∨(g j).1.1=2)
  {e:List (Int×Ce)} (he:CaOk m e) (hlast:∀ k,k < m→Je6 e ((k:Int)+1) < (j:Int)+1) {r:Int×Int×Int×Unit} (hb:0≤r.2.1) (mi:Mir) (x y z:Int) (hb2:Bool) (us:List (List UInt8×Int)) (ac:List CalT) (hac:ac.length≤900) :
  Ju now (m:Int) () () (J6k n) (J6n n) (J6j p n) (stR now0 R) (BL n p f R) () (cliG n p f R T j) r (regF g 0 m) () e ([],()) mi x y z hb2 () us ac =
   some (zR 0 ((J7e g ((j:Int)+1) (R.getD j []) m).length:Int) [] [],now,(m:Int),(),(),J6k n,J6n n,J6j p n,stR now0 R,BL n p f R,(),cliG n p f R T (j+1),r,regF (fun k=>Jdn (g k)) 0 m,(),J9v g ((j:Int)+1) (R.getD j []) r.2.1 e m,(J7e g ((j:Int)+1) (R.getD j []) m,()),mi,x,y,z,hb2,(),us,ac++J7e g ((j:Int)+1) (R.getD j []) m):=by
 have hBL:=Juv n p f R
 unfold Ju
 rw [show J21 () (J6k n) (J6n n) (J6j p n) (stR now0 R) (BL n p f R)=some ((j:Int)+1) from by unfold J21; rw [hBL,← hj.2]; rfl,J6d]
 unfold J1s J22
 rw [show (cliG n p f R T j).1=hdK n p f R j from rfl,show (cliG n p f R T j).2.1=J6j p n from rfl,Jhx _ (by rw [Jfz]; omega),J6d,Jfv p hn,J6d,J6d,J6d]
 dsimp only
 rw [latG hj.1,J6d,show (hL n p f R (j - 1)).1=((j - 1:Nat):Int)+1 from hG_1 _ _ _ _ _,J6h (by omega),K1r hp h1 hn hlen hf ⟨hj.1,by omega⟩ T now hnow q1 q2,J6d]
 dsimp only
 rw [Jy8 hn0 hR hlen hm hq (i:=j) (by omega) hrow rfl (by rw [expG hp hn hlen hf (by omega) T now hnow,show j+1 - 1=j from rfl,decide_eq_false q3]) (by
  have:=rootG (n:=n) (p:=p) (f:=f) (R:=R) (j:=j+1) T (h:=j) (by omega)
  exact this) he hlast hb _ _ _ _ _ _ _ _ _ _ hac 0 0 0 0 0 0 0 0 0,J6d]
end
def fI (j:Nat):Int:=(j:Int)+1
theorem Jq2 (m:Nat) (hm:m≤1000):Jho m fI:=⟨fun i hi=>by unfold fI; omega,fun i hi=>by unfold fI; omega⟩
def J9s (b:Int) (g:Nat→Ent):Nat→Ent:=fun j=>askG (b+1) (J9c (b+1) (g j))
theorem Jye (R:List (List Pr)) (l:List Pr):(R++[l]).getD R.length []=l:=by
 rw [List.getD_eq_getElem?_getD,List.getElem?_append_right (Nat.le_refl _)]; simp
theorem K1u {R:List (List Pr)} {l:List Pr} (hR:∀ x ∈ R,RowB x) (hl:RowB l):∀ x ∈ R++[l],RowB x:=fun x hx=>by
 rcases List.mem_append.1 hx with h | h
 ·exact hR x h
 ·rw [List.mem_singleton.1 h]; exact hl
section
variable {n : Nat} {p : Nat → Int} {R : List (List Pr)} {now0 : List Pr}
theorem Jvp (hp:PwOk p) (h1:1≤n) (hn:n≤4) (hn0:RowB now0) (hR:∀ l ∈ R,RowB l) (hlen:1≤R.length∧R.length < 16) :
  Jd ((R.length:Int)+1) () (J6k n) (J6n n) (J6j p n) (stR now0 R) (BL n p fI R)=some ((R.length:Int)+1,(),J6k n,J6n n,J6j p n,stR now0 (R++[now0]),BL n p fI R,BL n p fI (R++[now0])):=
 K2c (f:=fI) hp h1 hn hlen hR hn0 (fun j hj=>by unfold fI; omega) (by unfold fI; omega)
theorem K1s {b:Int} (hp:PwOk p) (h1:1≤n) (hn:n≤4) (hn0:RowB now0) (hR:∀ l ∈ R,RowB l) (hlen:1≤R.length∧R.length < 16) (hrow:RowG now0) {T:Int} (hT:1≤T) {g:Nat→Ent} {m:Nat} (hm:m≤6) (hg:∀ j,Jhn (g j)) (hq:∀ j,j < m→(J9s b g j).1.1=1∨(J9s b g j).1.1=2)
  {e:List (Int×Ce)} (he:CaOk m e) (hlast:∀ j,j < m→Je6 e ((j:Int)+1) < (R.length:Int)+1) {a l:Int} (hb:0≤b∧b < 100000) (hl:0≤l∧l≤100000) {cl:List CalT} (hcl:cl.length≤100) {y z:Int} {us:List (List UInt8×Int)} {s t:Mst3} (hc:Jhm y z us cl s t) (ac:List CalT) (hac:ac.length≤900) {N i c:Int} (hi:i < c) (hi0:0≤i∧i≤1000) (hN:0≤N∧N≤1000) :
  J0d_1_step 1 N c i (R.length:Int) (m:Int) () () (J6k n) (J6n n) (J6j p n) (stR now0 R) () (cliG n p fI R T R.length) (a,b,l,()) (regF g 0 m) () e (cl,()) s.1 s.2.1 y z s.2.2 () us (BL n p fI R) ac =
   some (.inl (N+((J7e (J9s b g) ((R.length:Int)+1) now0 m).length:Int),i+1,(R.length:Int)+1,(m:Int),(),(),J6k n,J6n n,J6j p n,stR now0 (R++[now0]),(),cliG n p fI (R++[now0]) T (R.length+1),(a,b+1,l+(J8i (fun j=>J7l (b+1) (g j)) m).length,()),regF (fun j=>Jdn (J9s b g j)) 0 m,(),J9v (J9s b g) ((R.length:Int)+1) now0 (b+1) e m,(J7e (J9s b g) ((R.length:Int)+1) now0 m,()),t.1,t.2.1,y,z,t.2.2,(),us,BL n p fI (R++[now0]),ac++J7e (J9s b g) ((R.length:Int)+1) now0 m)):=by
 have hl2:(R++[now0]).length=R.length+1:=by rw [List.length_append]; rfl
 have hs:=Jgc (J9s b g) ((R.length:Int)+1) now0 m
 have h3:=Jrj (R.length:Int) (m:Int) (J6k n) (J6n n) (J6j p n) (stR now0 R) (BL n p fI R) (cliG n p fI R T R.length) (a,b,l,()) (regF g 0 m) e (cl,()) s.1 s.2.1 y z s.2.2 us ac ((R.length:Int)+1) (by omega) (by omega)
 have h2:=Jno ((R.length:Int)+1) (m:Int) (J6k n) (J6n n) (J6j p n) (stR now0 R) (BL n p fI R) (cliG n p fI R T R.length) (a,b,l,()) (regF g 0 m) e (cl,()) s.1 s.2.1 y z s.2.2 us ac ((R.length:Int)+1) ((R.length:Int)+1) (by omega) _ _ _ (Jvp hp h1 hn hn0 hR hlen)
 have hcb:=Jre (cliG n p fI R T R.length) (m:=m) (by omega) hg a b l hb hl e cl hcl y z us s t hc
 rw [show (fun j=>askG (b+1) (J9c (b+1) (g j)))=J9s b g from rfl] at hcb
 have h5:=Jri ((R.length:Int)+1) (m:Int) (J6k n) (J6n n) (J6j p n) (stR now0 (R++[now0])) (BL n p fI (R++[now0])) (cliG n p fI R T R.length) (a,b,l,()) (regF g 0 m) e (cl,()) s.1 s.2.1 y z s.2.2 us ac _ _ t _ _ hcb
 have hsv:=serveW (n:=n) (p:=p) (f:=fI) (R:=R++[now0]) (now0:=now0) hp h1 hn hn0 (K1u hR hn0) (by omega) (Jq2 _ (by omega)) (j:=R.length) (by omega) (by rw [Jye]; exact hrow) (T:=T) (now:=(R.length:Int)+1) (by omega) (by unfold fI; omega) (by unfold fI; omega) (by unfold fI; omega) hm hq he hlast (r:=(a,b+1,l+(J8i (fun j=>J7l (b+1) (g j)) m).length,())) (by show 0≤b+1; omega) t.1 t.2.1 y z t.2.2 us ac hac
 rw [Jye,Jnl n p fI R now0 T (Nat.le_refl _)] at hsv
 have h13:=Jzn ((R.length:Int)+1) (m:Int) (J6k n) (J6n n) (J6j p n) (stR now0 (R++[now0])) (BL n p fI (R++[now0])) (cliG n p fI R T R.length) (a,b+1,l+(J8i (fun j=>J7l (b+1) (g j)) m).length,()) (regF (J9s b g) 0 m) e ([],()) t.1 t.2.1 y z t.2.2 us ac _ _ 0 0 _ _ _ _ _ hsv
 unfold J0d_1_step
 rw [J6h hi]
 simp only [J30,J6d]
 rw [show max (1:Int) 1=1 from rfl,J6i (n:=(R.length:Int)+1) (by omega) (by omega)]
 rw [show J2 _ _ _ _ _ _ _ _ _ _ _ _ _ _ _ _ _ _ _ _ _ _ _ _ _=_ from h3,J6d]
 dsimp only
 rw [show J2 _ _ _ _ _ _ _ _ _ _ _ _ _ _ _ _ _ _ _ _ _ _ _ _ _=_ from h2,J6d]
 dsimp only
 rw [show J2 _ _ _ _ _ _ _ _ _ _ _ _ _ _ _ _ _ _ _ _ _ _ _ _ _=_ from h5,J6d]
 dsimp only
 rw [show J2 _ _ _ _ _ _ _ _ _ _ _ _ _ _ _ _ _ _ _ _ _ _ _ _ _=_ from h13,J6d]
 dsimp only
 rw [J6i (by omega) (by omega),J6i (by omega) (by omega)]
end
def R1:Pr:=([115,47,97],[9,0],())
theorem Jth:J03 [R1]=some (9,true):=Jgl [([97],9,0)] (by simp) (fun x hx=>by rw [List.mem_singleton.1 hx]; exact ⟨⟨by decide,by decide⟩,by decide,by decide⟩) (by decide)
theorem Jy1:J7p [R1]:=by simp [J7p]
theorem K1t:Jtd [R1]:=⟨Jy1,by decide,by decide,by decide⟩
theorem Jqr:RowB [R1]:=by
 have h:=st_set (Jpb Jym) ([115,47,97],[9,0],())
 exact h.1
theorem Jp2:∀ l ∈ [([]:List Pr)],RowB l:=fun l h=>by rw [List.mem_singleton.1 h]; exact Jhi
theorem Jvx:J3z [] [97] 9=some ([R1],0):=
 K0u [] Jhi [97] ⟨by simp,by simp⟩ rfl (by simp) 9 ⟨by decide,by decide⟩ 9 Jth
theorem K2t (D:List (List UInt8)) (K:List (List (List UInt8))) (V:List Val) (B:List Block):J0k (3,[97],[],9,0,()) () D K V (stR [] [[]]) B=some (0,stR [R1] [[]]):=by
 unfold J0k
 have e:J0l ([115,47,97],[9,0],()) ([],1,[[]],())=some (true,([R1],1,[[]],())):=by
  rw [Jt1 _ (by
   have:=Jpb Jym
   exact this)]
  rfl
 rw [show stR [] [[]]=(([],1,[[]],()):Stt) from rfl,Jdh _ (by simp),J6d]
 show andThen (J3z [] [97] 9) _=_
 rw [Jvx,J6d,J6h (show ((([R1],(0:Int)):List Pr×Int).2=0) from rfl)]
 show andThen (J1h [97]) _=_
 rw [show J1h [97]=some [115,47,97] from rfl,J6d,Jg1 [R1] Jy1 (by simp),J6d,J6d]
 show andThen (J0l ([115,47,97],[9,0],()) ([],1,[[]],())) _=_
 rw [e]
 rfl
abbrev zM:Mir:=(0,0,[],false,())
theorem call_m (h:Int) (l:List Pr):J8y 1 Qm h l=(1,h,J9n l [115,47] [115,48],()):=by
 unfold J8y ansS
 rw [if_neg (fun h=>by cases h.1)]
 rfl
theorem Jvl (h:Int):J8y 1 Qm h [R1]=(1,h,rowR [([97],9,0)],()):=by rw [call_m]; rfl
theorem led0:Juw 0 0 0 []:=⟨by omega,by omega,by omega,by omega,by omega,rfl,trivial⟩
def gB (b:Int):Nat→Ent:=fun _=>(Qm,b+1,0,())
theorem K2n (b:Int):∀ j,Jhn (gB b j):=fun _=>⟨by show (0:Int)≤1; omega,by show (1:Int)≤1000; omega,by show (0:Int)≤3; omega,by show (3:Int)≤1000; omega⟩
theorem Jea (b:Int) (h:0≤b):J9s b (gB b)=fun _=>(Qm,b+1+1,b+1+3,()):=by
 funext j
 unfold J9s J9c J7l gB askG Jap
 simp [Qm]
 omega
theorem Jyb (b:Int) (h:0≤b):(fun j=>Jdn (J9s b (gB b) j))=gB (b+1):=by
 rw [Jea b h]
 funext j
 unfold Jdn gB
 rw [if_pos (show 0 < b+1+3 by omega)]
theorem Jx1 (b:Int) (h:0≤b):J8i (fun j=>J7l (b+1) (gB b j)) 1=[]:=rfl
theorem Jy7 (b:Int) (h:0≤b) (t:Int) (l:List Pr):J7e (J9s b (gB b)) t l 1=[J8y 1 Qm t l]:=by
 rw [Jsr _ _ _ (by rw [Jea b h]; show 0 < b+1+3; omega),Jea b h]
 rfl
theorem Jvk (b:Int) (h:0≤b) (t u:Int) (l:List Pr) (e:List (Int×Ce)):J9v (J9s b (gB b)) t l u e 1=J6x ib 1 (J8y 1 Qm t l,u,()) e:=by
 rw [Jl9 _ _ _ _ _ (by rw [Jea b h]; show 0 < b+1+3; omega),Jea b h]
 rfl
section
variable {n : Nat} {p : Nat → Int}
theorem K44 (hp:PwOk p) (h1:1≤n) (hn:n≤4):∃ r e ca cq ac,J0d 2 1 1 1 () () (J6k n) (J6n n) (J6j p n) (stR [R1] [[]]) (BL n p fI [[]]) () (cliG n p fI [[]] 50 1) (1,0,0,()) (regF (gB 0) 0 1) () [] ([],()) zM 0 0 0 false () [] [] =
  some (2,3,1,(),(),J6k n,J6n n,J6j p n,stR [R1] [[],[R1],[R1]],(),(cliG n p fI [[],[R1],[R1]] 50 3),r,e,(),ca,([cq],()),(2,9,[R1],false,()),9,0,0,false,(),[],BL n p fI [[],[R1],[R1]],ac)∧Jel cq:=by
 have A:=K1s (b:=0) (R:=[[]]) (now0:=[R1]) (T:=50) (g:=gB 0) (m:=1) (e:=[]) (a:=1) (l:=0) (cl:=[]) (y:=0) (z:=0) (us:=[]) (s:=(zM,0,false)) (t:=(zM,0,false)) (N:=0) (i:=0) (c:=2) hp h1 hn Jqr Jp2 (by simp) (K3w K1t) (by omega) (by omega) (K2n 0) (fun j hj=>by rw [Jea 0 (by omega)]; exact .inr rfl) rfl (fun j hj=>by show (0:Int) < 2; omega) (by omega) (by omega) (by simp) rfl [] (by simp) (by omega) (by omega) (by omega)
 rw [Jyb 0 (by omega),Jx1 0 (by omega),Jy7 0 (by omega),Jvk 0 (by omega)] at A
 have hco:=(Jtm [([97],9,0)] (by simp) (fun x hx=>by rw [List.mem_singleton.1 hx]; exact ⟨⟨by decide,by decide⟩,by decide,by decide⟩) ((Jf1 _ (by simp [rowR])).trans rfl) 2 ((zM,0,false):Mst3) (by simp) (y:=0) (z:=0) (us:=[]) led0 (by decide)).1
 have Bq:=K1s (b:=0+1) (R:=[[],[R1]]) (now0:=[R1]) (T:=50) (g:=gB (0+1)) (m:=1) (e:=J6x ib 1 (J8y 1 Qm 2 [R1],0+1,()) []) (a:=1) (l:=0+0) (cl:=[J8y 1 Qm 2 [R1]]) (y:=0) (z:=0) (us:=[]) (s:=(zM,0,false)) (t:=((2,9,[R1],false,()),9,false)) (N:=0+1) (i:=0+1) (c:=2) hp h1 hn Jqr (K1u Jp2 Jqr) (by simp) (K3w K1t) (by omega) (by omega) (K2n _) (fun j hj=>by rw [Jea (0+1) (by omega)]; exact .inr rfl) rfl (fun j hj=>by
  obtain rfl:j=0:=by omega
  show (2:Int) < 3; omega) (by omega) (by omega) (by simp) ⟨_,by rw [Jvl]; exact hco,rfl⟩ [J8y 1 Qm 2 [R1]] (by simp) (by omega) (by omega) (by omega)
 rw [Jyb (0+1) (by omega),Jx1 (0+1) (by omega),Jy7 (0+1) (by omega),Jvk (0+1) (by omega)] at Bq
 refine ⟨(1,2,0,()),regF (gB 2) 0 1,J6x ib 1 (J8y 1 Qm 3 [R1],2,()) (J6x ib 1 (J8y 1 Qm 2 [R1],1,()) []),J8y 1 Qm 3 [R1],[J8y 1 Qm 2 [R1],J8y 1 Qm 3 [R1]],?_,by rw [Jvl]; show (1:Nat)≤1000; omega⟩
 unfold J0d J0d_1
 rw [show max (2:Int) 0=2 from rfl,J77 (s':=_) A,J77 (s':=_) Bq,J6z rfl]
 rfl
theorem Jzj (hn:n≤4) {R:List (List Pr)} (f:Nat→Int) (now q:Int) (s:Stt) (B:List Block) (T:Int) (j:Nat) (r:Int×Int×Int×Unit) (e:List (Int×Ent)) (ca:List (Int×Ce)) (cl:List CalT) (hcl:cl.length≤100) (hc:∀ c ∈ cl,Jel c) (mh mb:Int) (mr:List Pr) (hmr:mr.length≤1000) (mx:Bool) (x y z:Int) (hb:Bool) (us:List (List UInt8×Int)) (ac:List CalT) :
  J2u now q () () (J6k n) (J6n n) (J6j p n) s B () (cliG n p f R T j) r e () ca (cl,()) (mh,mb,mr,mx,()) x y z hb () us ac =
   some ((),(T,false,()),hdK n p f R j,J6j p n,(),(cl,()),mh,mb,(mx,()),mr):=by
 unfold J2u J36 J22
 rw [show (cliG n p f R T j).1=hdK n p f R j from rfl,show (cliG n p f R T j).2.1=J6j p n from rfl,Jhx _ (by rw [Jfz]; omega),J6d,Jfv p hn,J6d,J6d]
 unfold J3y J3k J32 Jk
 rw [show J28 r e=some () from rfl,J6d,show J3w () ca=some () from rfl,J6d,Jps cl (by omega) hc,J6d,J6d,J6e (by dsimp only; omega),J6d,J6d,show J2s x y z hb () us=some () from rfl,J6d,J6d]
 rfl
theorem awakeN (hp:PwOk p) (h1:1≤n) (hn:n≤4) (hch:Ji [1]=some ((),J6k n,J6n n,J7s n,J6j p n)):J3s=some true:=by
 obtain ⟨r,e,ca,cq,ac,hS,hcq⟩:=K44 (n:=n) (p:=p) hp h1 hn
 have hw:=Jpj (n:=n) (p:=p) (f:=fI) hp h1 hn rfl 50 (by omega)
 rw [show ([hL n p fI [[]] 0],J6j p n,(50:Int),false,())=cliG n p fI [[]] 50 1 from rfl,show regF gM 0 1=regF (gB 0) 0 1 from rfl] at hw
 have hT:=do_tx0 1 1 (J6k n) (J6n n) (J6j p n) (stR [] [[]]) (BL n p fI [[]]) (cliG n p fI [[]] 50 1) (1,0,0,()) (regF (gB 0) 0 1) [] ([],()) zM 0 0 0 false [] (3,[97],[],9,0,()) 0 (stR [R1] [[]]) (K2t _ _ _ _)
 have hC:=Jzj (n:=n) (p:=p) hn fI 3 1 (stR [R1] [[],[R1],[R1]]) (BL n p fI [[],[R1],[R1]]) 50 3 (R:=[[],[R1],[R1]]) r e ca [cq] (by simp) (by simpa using hcq) 2 9 [R1] (by simp) false 9 0 0 false [] ac
 unfold J3s
 rw [hch,J6d]
 dsimp only
 rw [hw,J6d]
 dsimp only
 rw [show (!decide ((0:Int)=0))=false from rfl,J6m]
 rw [show J35 _ _ _ _ _ _ _ _ _ _ _ _ _ _ _ _ _ _ _ _ _ _ _ _=_ from hT,J6d]
 dsimp only
 rw [hS,J6d]
 dsimp only
 rw [hC,J6d]
 rfl
end
theorem Jtg:J3s=some true:=by
 obtain ⟨h1,hn⟩:=Jss [1]
 exact awakeN (K3e [1]) h1 hn (Jrd [1] (by simp))
def RowK (m:Nat) (l:List Pr):Prop:=J7p l∧l.length≤m∧(∀ p ∈ l,p.1 ∈ J91)∧∀ p ∈ l,p.2.1.length≤8
theorem Jef {m:Nat} {l:List Pr} (h:RowK m l) (hm:m≤12):Jtd l:=⟨h.1,by have:=h.2.1; omega,h.2.2⟩
theorem Jmr {m:Nat} {l:List Pr} (h:RowK m l) (hm:m≤12) {p:Pr} (hk:p.1 ∈ J91) (hv:p.2.1.length≤8):setP l p=(putP l p,true)∧RowK (m+1) (putP l p):=by
 have hl:=h.2.1
 have hb:=Jkg _ hk
 have hm0:mayP p=true:=by
  unfold mayP
  simp only [Bool.and_eq_true,decide_eq_true_eq,Bool.not_eq_true',decide_eq_false_iff_not]
  exact ⟨fun e=>by rw [e] at hb; simp at hb,by omega,by omega⟩
 refine ⟨?_,Jj7 h.1 p,?_,fun q hq=>?_,fun q hq=>?_⟩
 ·unfold setP
  rw [hm0,decide_eq_true (show l.length < 30 by omega),Bool.or_true,Bool.true_and,if_pos rfl]
 ·rw [Jsh]; split <;> omega
 ·rcases Jmk hq with rfl | hq
  ·exact hk
  ·exact h.2.2.1 q hq
 ·rcases Jmk hq with rfl | hq
  ·exact hv
  ·exact h.2.2.2 q hq
theorem K0b {m:Nat} {l:List Pr} (h:RowK m l) (k:List UInt8):RowK m (cutP l k):=
 ⟨Jnn h.1 k,by have:=Jzk l k; have:=h.2.1; omega,fun q hq=>h.2.2.1 q (Jrf hq),fun q hq=>h.2.2.2 q (Jrf hq)⟩
theorem Jbf {m m2:Nat} {l:List Pr} (h:RowK m l) (hm:m≤m2):RowK m2 l:=⟨h.1,by have:=h.2.1; omega,h.2.2⟩
theorem Jrv {l:List Pr} (hr:J7p l) (p:Pr) (k:List UInt8):isAt (putP l p) k=(decide (p.1=k) || isAt l k):=by
 rw [Bool.eq_iff_iff,Jbu (Jj7 hr p),Bool.or_eq_true,decide_eq_true_eq,Jbu hr]
 constructor
 ·rintro ⟨q,hq,e⟩
  rcases (Jm8 hr p q).1 hq with rfl | ⟨h1,h2⟩
  ·exact .inl e
  ·exact .inr ⟨q,h1,e⟩
 ·rintro (e | ⟨q,hq,e⟩)
  ·exact ⟨p,(Jm8 hr p p).2 (.inl rfl),e⟩
  ·by_cases c:q.1=p.1
   ·exact ⟨p,(Jm8 hr p p).2 (.inl rfl),c.symm.trans e⟩
   ·exact ⟨q,(Jm8 hr p q).2 (.inr ⟨hq,c⟩),e⟩
theorem Kg {l:List Pr} (hr:J7p l) (k:List UInt8):isAt (cutP l k) k=false:=by
 rw [← Bool.not_eq_true,Jbu (Jnn hr k)]
 rintro ⟨q,hq,e⟩
 exact ((K33 hr k q).1 hq).2 e
def isK (k:List UInt8):Bool:=decide (k ∈ [([115,47,97]:List UInt8),[115,47,98],[115,47,99]])
theorem Jwt:∀ k ∈ J91,J46 k=some (isK k):=by
 intro k hk
 simp only [J91,List.mem_cons,List.not_mem_nil,or_false] at hk
 rcases hk with rfl | rfl | rfl | rfl | rfl | rfl | rfl | rfl | rfl | rfl | rfl | rfl <;> rfl
section
variable {R : List (List Pr)} (D : List (List UInt8)) (K : List (List (List UInt8))) (V : List Val) (B : List Block)
theorem Jrs (hR:∀ l ∈ R,RowB l) (hl:R.length≤16) {m:Nat} {now:List Pr} (hn:RowK m now) (hm:m≤11) {k v:List UInt8} (hk:k ∈ J91) (hv:v.length≤8) :
  J0k (1,k,v,0,0,()) () D K V (stR now R) B=some (if isK k then 1 else 0,stR (if isK k then now else putP now (k,v,())) R):=by
 have hnl:=hn.2.1
 have hB:=Juj (Jef hn (by omega))
 obtain ⟨hs,hK⟩:=Jmr hn (by omega) (p:=(k,v,())) hk hv
 unfold J0k
 rw [Jdh _ (show (stR now R).1.length≤2147483648 by show now.length≤_; omega),J6d,J6h (show (((1:Int),k,v,(0:Int),(0:Int),()):TxT).1=1 from rfl)]
 unfold J4a
 dsimp only
 have hrt:J12 [((k,v,()):Pr)]=some true:=by
  rw [Jf1 _ (by simp)]
  have hb:=Jkg _ hk
  refine congrArg some ((Ja5 _).2 ⟨by simp [J7p],fun q hq=>?_,by simp⟩)
  rw [List.mem_singleton.1 hq]
  unfold mayP
  simp only [Bool.and_eq_true,decide_eq_true_eq,Bool.not_eq_true',decide_eq_false_iff_not]
  exact ⟨fun e=>by rw [e] at hb; simp at hb,by omega,by omega⟩
 rw [show J12 [((k,v,()):Pr)]=_ from hrt,J6d,show (!true)=false from rfl,J6m,Jwt k hk,J6d]
 cases hi:isK k with
 | true=>rw [J7h,J6d]; rfl
 | false=>
  rw [J6m,Jt1 _ (Jt0 hB hR hl),show (stR now R).1=now from rfl,hs,J6d]
  rfl
theorem Kb (hR:∀ l ∈ R,RowB l) (hl:R.length≤16) {m:Nat} {now:List Pr} (hn:RowK m now) (hm:m≤11) {k:List UInt8} (hk:k ∈ J91) (hi:isK k=false) :
  J0k (2,k,[],0,0,()) () D K V (stR now R) B=some (0,stR (cutP now k) R):=by
 have hnl:=hn.2.1
 have hB:=Juj (Jef hn (by omega))
 unfold J0k
 rw [Jdh _ (show (stR now R).1.length≤2147483648 by show now.length≤_; omega),J6d,J6f (show ¬ (((2:Int),k,([]:List UInt8),(0:Int),(0:Int),()):TxT).1=1 by show ¬ (2:Int)=1; decide),J6h (show (((2:Int),k,([]:List UInt8),(0:Int),(0:Int),()):TxT).1=2 from rfl)]
 unfold J49
 dsimp only
 rw [Jwt k hk,J6d,hi,J6m,K0o _ (Jt0 hB hR hl),J6d]
 rfl
end
section
variable {n : Nat} {p : Nat → Int}
theorem K0z (hp:PwOk p) (h1:1≤n) (hn:n≤4) {R:List (List Pr)} (hR:∀ l ∈ R,RowB l) {i:Nat} (hi:R.length=i+1) (hi5:i < 5) {m:Nat} {now:List Pr} (hN:RowK m now) (hm:m≤11) {k:List UInt8} (hk:k ∈ J91) :
  ∃ er now2,J2 (1,0,0,[],(1,k,[111],0,0,()),zQy,[],()) ((i:Int)+1) 1 () () (J6k n) (J6n n) (J6j p n) (stR now R) (BL n p fI R) () (cliG n p fI R 80 (i+1)) (1,0,0,()) (regF (gB 0) 0 1) () [] ([],()) zM 0 0 0 false () [] [] =
    some (zR er 0 [] [],(i:Int)+1,1,(),(),J6k n,J6n n,J6j p n,stR now2 R,(),cliG n p fI R 80 (i+1),(1,0,0,()),regF (gB 0) 0 1,(),[],([],()),zM,0,0,0,false,(),[],BL n p fI R,[])∧
   J2 (2,(i:Int)+2,0,[],zTx,zQy,[],()) ((i:Int)+1) 1 () () (J6k n) (J6n n) (J6j p n) (stR now2 R) (BL n p fI R) () (cliG n p fI R 80 (i+1)) (1,0,0,()) (regF (gB 0) 0 1) () [] ([],()) zM 0 0 0 false () [] [] =
    some (zR 0 ((i:Int)+2) [] [],(i:Int)+1,1,(),(),J6k n,J6n n,J6j p n,stR now2 (R++[now2]),(),cliG n p fI R 80 (i+1),(1,0,0,()),regF (gB 0) 0 1,(),[],([],()),zM,0,0,0,false,(),[],BL n p fI (R++[now2]),[])∧
   J2 (3,(i:Int)+2,0,[],zTx,zQy,[],()) ((i:Int)+1) 1 () () (J6k n) (J6n n) (J6j p n) (stR now2 (R++[now2])) (BL n p fI (R++[now2])) () (cliG n p fI R 80 (i+1)) (1,0,0,()) (regF (gB 0) 0 1) () [] ([],()) zM 0 0 0 false () [] [] =
    some (zR 0 0 [] [],(i:Int)+2,1,(),(),J6k n,J6n n,J6j p n,stR now2 (R++[now2]),(),cliG n p fI R 80 (i+1),(1,0,0,()),regF (gB 0) 0 1,(),[],([],()),zM,0,0,0,false,(),[],BL n p fI (R++[now2]),[])∧
   J2 (4,(i:Int)+2,0,[],zTx,zQy,[],()) ((i:Int)+2) 1 () () (J6k n) (J6n n) (J6j p n) (stR now2 (R++[now2])) (BL n p fI (R++[now2])) () (cliG n p fI R 80 (i+1)) (1,0,0,()) (regF (gB 0) 0 1) () [] ([],()) zM 0 0 0 false () [] [] =
    some (zR 0 0 [] [],(i:Int)+2,1,(),(),J6k n,J6n n,J6j p n,stR now2 (R++[now2]),(),cliG n p fI (R++[now2]) 80 (i+2),(1,0,0,()),regF (gB 0) 0 1,(),[],([],()),zM,0,0,0,false,(),[],BL n p fI (R++[now2]),[])∧
   RowK (m+1) now2∧(∀ x,isK x=false→isAt now2 x=(decide (k=x) || isAt now x)):=by
 have hK2:RowK (m+1) (if isK k then now else putP now (k,[111],())):=by
  cases isK k
  ·exact (Jmr hN (by omega) (p:=(k,[111],())) hk (by simp)).2
  ·exact Jbf hN (by omega)
 have hAt:∀ x,isK x=false→isAt (if isK k then now else putP now (k,[111],())) x=(decide (k=x) || isAt now x):=fun x hx=>by
  cases c:isK k with
  | true=>
   rw [if_pos rfl,decide_eq_false (fun e=>by rw [e,hx] at c; cases c),Bool.false_or]
  | false=>rw [if_neg (by simp),Jrv hN.1]
 have hh:=Jrs (J6k n) (J6n n) (J6j p n) (BL n p fI R) hR (by omega) hN hm hk (v:=[111]) (by simp)
 generalize (if isK k then now else putP now (k,[111],()))=now2 at hK2 hAt hh
 have hB2:=Juj (Jef hK2 (by omega))
 have hl2:(R++[now2]).length=i+2:=by rw [List.length_append,hi]; rfl
 have hc:=Jvp (n:=n) (p:=p) (R:=R) (now0:=now2) hp h1 hn hB2 hR (by omega)
 rw [hi,show (((i+1:Nat):Int)+1)=(i:Int)+2 from by omega] at hc
 have hr:=K1r (n:=n) (p:=p) (f:=fI) (R:=R++[now2]) hp h1 hn (by omega) (Jq2 _ (by omega)) (j:=i+1) (by omega) 80 ((i:Int)+2) (by omega) (by unfold fI; omega) (by unfold fI; omega) 1 (stR now2 (R++[now2])) (1,0,0,()) (regF (gB 0) 0 1) [] ([],()) zM 0 0 0 false [] []
 rw [Jnl n p fI R now2 80 (j:=i+1) (by omega),show (((i+1:Nat):Int)+1)=(i:Int)+2 from by omega] at hr
 refine ⟨_,now2,K2f ((i:Int)+1) 1 (J6k n) (J6n n) (J6j p n) (stR now R) (BL n p fI R) (cliG n p fI R 80 (i+1)) (1,0,0,()) (regF (gB 0) 0 1) [] ([],()) zM 0 0 0 false [] [] (1,k,[111],0,0,()) _ _ hh,?_,?_,?_,hK2,hAt⟩
 ·exact Jno ((i:Int)+1) 1 (J6k n) (J6n n) (J6j p n) (stR now2 R) (BL n p fI R) (cliG n p fI R 80 (i+1)) (1,0,0,()) (regF (gB 0) 0 1) [] ([],()) zM 0 0 0 false [] [] ((i:Int)+2) ((i:Int)+2) (by omega) _ _ _ hc
 ·exact Jrj ((i:Int)+1) 1 (J6k n) (J6n n) (J6j p n) (stR now2 (R++[now2])) (BL n p fI (R++[now2])) (cliG n p fI R 80 (i+1)) (1,0,0,()) (regF (gB 0) 0 1) [] ([],()) zM 0 0 0 false [] [] ((i:Int)+2) (by omega) (by omega)
 ·exact Jzm ((i:Int)+2) 1 (J6k n) (J6n n) (J6j p n) (stR now2 (R++[now2])) (BL n p fI (R++[now2])) (cliG n p fI R 80 (i+1)) (1,0,0,()) (regF (gB 0) 0 1) [] ([],()) zM 0 0 0 false [] [] ((i:Int)+2) _ _ hr
theorem Jz6 (hp:PwOk p) (h1:1≤n) (hn:n≤4) (xs:List Int) {key:List UInt8} (hkey:key ∈ J91) (hik:isK key=false) {R:List (List Pr)} (hR:∀ l ∈ R,RowB l) {i:Nat} (hi:R.length=i+1) (hi5:i < 5) (hx:i < xs.length) {now:List Pr} (hN:RowK (2 * i) now) (ins:List Bool) (hins:ins.length≤1000) :
  ∃ now2,Je_1_step xs key (i:Int) ((i:Int)+1) 1 () () (J6k n) (J6n n) (J6j p n) (stR now R) (BL n p fI R) () (cliG n p fI R 80 (i+1)) (1,0,0,()) (regF (gB 0) 0 1) () [] ([],()) zM 0 0 0 false () [] [] ins =
    some (.inl ((i:Int)+1,(i:Int)+2,1,(),(),J6k n,J6n n,J6j p n,stR now2 (R++[now2]),BL n p fI (R++[now2]),(),cliG n p fI (R++[now2]) 80 (i+2),(1,0,0,()),regF (gB 0) 0 1,(),[],([],()),zM,0,0,0,false,(),[],[],ins++[isAt now2 key]))∧RowK (2 * (i+1)) now2:=by
 obtain ⟨tx,ht,htl⟩:=Kl (xs.getD i 0)
 obtain ⟨j,hj,ek⟩:=K2z (w64 (Int.tdiv (xs.getD i 0) 5))
 have hk2:J91.getD j [] ∈ J91:=J7c hj
 generalize J91.getD j []=k2 at ek hk2
 unfold Je_1_step
 rw [J6h (show (i:Int) < (xs.length:Int) by omega),J6h (show (i:Int) < 5 by omega),J6e (by omega),Int.toNat_natCast,ht,J6d]
 rw [J6i (n:=(2:Int)+(i:Int)) (by omega) (by omega),show (2:Int)+(i:Int)=(i:Int)+2 from by omega,J6i (n:=(i:Int)+1) (by omega) (by omega)]
 by_cases hb:band (xs.getD i 0) 1=0
 ·obtain ⟨hs,hK⟩:=Jmr hN (by omega) (p:=(key,tx,())) hkey htl
  have hh:=Jrs (J6k n) (J6n n) (J6j p n) (BL n p fI R) hR (by omega) hN (by omega) hkey htl
  rw [hik,if_neg (by simp),if_neg (by simp)] at hh
  have hT:=K2f ((i:Int)+1) 1 (J6k n) (J6n n) (J6j p n) (stR now R) (BL n p fI R) (cliG n p fI R 80 (i+1)) (1,0,0,()) (regF (gB 0) 0 1) [] ([],()) zM 0 0 0 false [] [] (1,key,tx,0,0,()) _ _ hh
  obtain ⟨er,now2,a1,a2,a3,a4,hK2,hAt⟩:=K0z (n:=n) (p:=p) hp h1 hn hR hi hi5 hK (by omega) hk2
  refine ⟨now2,?_,Jbf hK2 (by omega)⟩
  rw [decide_eq_true hb,show (!true)=false from rfl,J6m]
  rw [show J2 _ _ _ _ _ _ _ _ _ _ _ _ _ _ _ _ _ _ _ _ _ _ _ _ _=_ from hT,J6d,ek,J6d]
  dsimp only
  rw [show J2 _ _ _ _ _ _ _ _ _ _ _ _ _ _ _ _ _ _ _ _ _ _ _ _ _=_ from a1,J6d,J6d]
  dsimp only
  have he:=hAt key hik
  rw [Jrv hN.1,decide_eq_true (show ((key,tx,()):Pr).1=key from rfl),Bool.true_or,Bool.or_true] at he
  rw [he]
  by_cases c:k2=key
  ·rw [J6h c]
   rw [show J2 _ _ _ _ _ _ _ _ _ _ _ _ _ _ _ _ _ _ _ _ _ _ _ _ _=_ from a2,J6d]
   dsimp only
   rw [show J2 _ _ _ _ _ _ _ _ _ _ _ _ _ _ _ _ _ _ _ _ _ _ _ _ _=_ from a3,J6d]
   dsimp only
   rw [show J2 _ _ _ _ _ _ _ _ _ _ _ _ _ _ _ _ _ _ _ _ _ _ _ _ _=_ from a4,J6d]
   dsimp only
   rw [J6e (by simp only [List.length_singleton]; omega)]
  ·rw [J6f c]
   rw [show J2 _ _ _ _ _ _ _ _ _ _ _ _ _ _ _ _ _ _ _ _ _ _ _ _ _=_ from a2,J6d]
   dsimp only
   rw [show J2 _ _ _ _ _ _ _ _ _ _ _ _ _ _ _ _ _ _ _ _ _ _ _ _ _=_ from a3,J6d]
   dsimp only
   rw [show J2 _ _ _ _ _ _ _ _ _ _ _ _ _ _ _ _ _ _ _ _ _ _ _ _ _=_ from a4,J6d]
   dsimp only
   rw [J6e (by simp only [List.length_singleton]; omega)]
 ·have hh:=Kb (J6k n) (J6n n) (J6j p n) (BL n p fI R) hR (by omega) hN (by omega) hkey hik
  have hT:=K2f ((i:Int)+1) 1 (J6k n) (J6n n) (J6j p n) (stR now R) (BL n p fI R) (cliG n p fI R 80 (i+1)) (1,0,0,()) (regF (gB 0) 0 1) [] ([],()) zM 0 0 0 false [] [] (2,key,[],0,0,()) _ _ hh
  obtain ⟨er,now2,a1,a2,a3,a4,hK2,hAt⟩:=K0z (n:=n) (p:=p) hp h1 hn hR hi hi5 (K0b hN key) (by omega) hk2
  refine ⟨now2,?_,Jbf hK2 (by omega)⟩
  rw [decide_eq_false hb,show (!false)=true from rfl,J7h]
  rw [show J2 _ _ _ _ _ _ _ _ _ _ _ _ _ _ _ _ _ _ _ _ _ _ _ _ _=_ from hT,J6d,ek,J6d]
  dsimp only
  rw [show J2 _ _ _ _ _ _ _ _ _ _ _ _ _ _ _ _ _ _ _ _ _ _ _ _ _=_ from a1,J6d,J6d]
  dsimp only
  have he:=hAt key hik
  rw [Kg hN.1,Bool.or_false] at he
  rw [he]
  by_cases c:k2=key
  ·rw [J6h c,decide_eq_true c]
   rw [show J2 _ _ _ _ _ _ _ _ _ _ _ _ _ _ _ _ _ _ _ _ _ _ _ _ _=_ from a2,J6d]
   dsimp only
   rw [show J2 _ _ _ _ _ _ _ _ _ _ _ _ _ _ _ _ _ _ _ _ _ _ _ _ _=_ from a3,J6d]
   dsimp only
   rw [show J2 _ _ _ _ _ _ _ _ _ _ _ _ _ _ _ _ _ _ _ _ _ _ _ _ _=_ from a4,J6d]
   dsimp only
   rw [J6e (by simp only [List.length_singleton]; omega)]
  ·rw [J6f c,decide_eq_false c]
   rw [show J2 _ _ _ _ _ _ _ _ _ _ _ _ _ _ _ _ _ _ _ _ _ _ _ _ _=_ from a2,J6d]
   dsimp only
   rw [show J2 _ _ _ _ _ _ _ _ _ _ _ _ _ _ _ _ _ _ _ _ _ _ _ _ _=_ from a3,J6d]
   dsimp only
   rw [show J2 _ _ _ _ _ _ _ _ _ _ _ _ _ _ _ _ _ _ _ _ _ _ _ _ _=_ from a4,J6d]
   dsimp only
   rw [J6e (by simp only [List.length_singleton]; omega)]
theorem Jr6 (hp:PwOk p) (h1:1≤n) (hn:n≤4) (xs:List Int) {key:List UInt8} (hkey:key ∈ J91) (hik:isK key=false):∀ (k i:Nat) (R:List (List Pr)) (now:List Pr) (ins:List Bool),i+k=min xs.length 5→R.length=i+1→(∀ l ∈ R,RowK 12 l)→RowK (2 * i) now→ins=R.map (fun l=>isAt l key)→
  ∃ R' now',Je_1 xs key (i:Int) ((i:Int)+1) 1 () () (J6k n) (J6n n) (J6j p n) (stR now R) (BL n p fI R) () (cliG n p fI R 80 (i+1)) (1,0,0,()) (regF (gB 0) 0 1) () [] ([],()) zM 0 0 0 false () [] [] ins =
    some (key,(R'.length:Int),1,(),(),J6k n,J6n n,J6j p n,stR now' R',BL n p fI R',(),cliG n p fI R' 80 R'.length,(1,0,0,()),regF (gB 0) 0 1,(),[],([],()),zM,0,0,0,false,(),[],[],R'.map (fun l=>isAt l key))∧1≤R'.length∧R'.length≤6∧(∀ l ∈ R',RowK 12 l)∧RowK 12 now'
 | 0,i,R,now,ins,hik2,hR,hrows,hnow,hins=>by
  refine ⟨R,now,?_,by omega,by omega,hrows,Jbf hnow (by omega)⟩
  unfold Je_1
  refine J6z ?_
  show Je_1_step xs key (i:Int) ((i:Int)+1) 1 () () (J6k n) (J6n n) (J6j p n) (stR now R) (BL n p fI R) () (cliG n p fI R 80 (i+1)) (1,0,0,()) (regF (gB 0) 0 1) () [] ([],()) zM 0 0 0 false () [] [] ins=_
  unfold Je_1_step
  rw [hins,hR,show (((i+1:Nat):Int))=(i:Int)+1 from by omega]
  by_cases c:(i:Int) < (xs.length:Int)
  ·rw [J6h c,J6f (by omega)]
  ·rw [J6f c]
 | k+1,i,R,now,ins,hik2,hR,hrows,hnow,hins=>by
  have hrB:∀ l ∈ R,RowB l:=fun l hl=>Juj (Jef (hrows l hl) (by omega))
  obtain ⟨now2,hs,hK⟩:=Jz6 (n:=n) (p:=p) hp h1 hn xs hkey hik hrB hR (by omega) (by omega) hnow ins (by rw [hins,List.length_map]; omega)
  obtain ⟨R',now',hl,r⟩:=Jr6 hp h1 hn xs hkey hik k (i+1) (R++[now2]) now2 (ins++[isAt now2 key]) (by omega) (by rw [List.length_append,hR]; rfl) (fun l hl=>by
   rcases List.mem_append.1 hl with h | h
   ·exact hrows l h
   ·rw [List.mem_singleton.1 h]; exact Jbf hK (by omega)) hK (by rw [hins,List.map_append]; rfl)
  refine ⟨R',now',?_,r⟩
  rw [← hl]
  unfold Je_1
  rw [J77 (s':=_) hs]
  rw [show (((i+1:Nat):Int))=(i:Int)+1 from by omega,show (i:Int)+1+1=(i:Int)+2 from by omega]
theorem Jhw (y z:Int) (us:List (List UInt8×Int)) (s:Mst3):∀ cl:List CalT,(∀ c ∈ cl,c.1≠1)→Jhm y z us cl s s
 | [],_=>rfl
 | c::l,h=>⟨s,Jnj c (h c (List.mem_cons_self ..)) s y z us,Jhw y z us s l (fun d hd=>h d (List.mem_cons_of_mem _ hd))⟩
theorem Jzg (id:Int) (key:List UInt8) (a b h:Int) (l:List Pr):(J8y id (1,key,[],a,b,()) h l).2.2.1=if isAt l key then [l.getD (J6l l key) zPr] else []:=by
 unfold J8y ansS
 by_cases c:isAt l key=true
 ·rw [if_pos c,if_pos ⟨rfl,c⟩]
 ·rw [if_neg c,if_neg (fun h=>c h.2)]
  show J9n l key (endQ (1,key,[],a,b,()))=_
  unfold endQ
  rw [if_pos rfl,Jed]
theorem Jv0 (hp:PwOk p) (h1:1≤n) (hn:n≤4) {key:List UInt8} (hkey:key ∈ J91) {R:List (List Pr)} (hrows:∀ l ∈ R,RowK 12 l) (hR:1≤R.length∧R.length≤6) {now:List Pr} (hnow:RowK 12 now) :
  ∀ (k i:Nat) (g:Nat→Ent) (l:Int) (e:List (Int×Ce)) (cl ac:List CalT),i+k=R.length→(∀ j,Jhn (g j))→g 1=((1,key,[],1,1,()),(i:Int)+1,0,())→(0≤l∧l≤2 * i)→CaOk 2 e→Je6 e 2 < (i:Int)+1→cl.length≤1→(∀ c ∈ cl,c.1≠1)→ac.length≤i→
   Je_2 key ((i:Int)+1) (R.length:Int) 2 () () (J6k n) (J6n n) (J6j p n) (stR now R) (BL n p fI R) () (cliG n p fI R 80 R.length) (2,(i:Int),l,()) (regF g 0 2) () e (cl,()) zM 0 0 0 false () [] ac (R.map (fun l=>isAt l key))=some ()
 | 0,i,g,l,e,cl,ac,hi,hg,hg1,hl,he,hla,hcl,hco,hac=>by
  unfold Je_2
  refine J6z ?_
  show Je_2_step key ((i:Int)+1) (R.length:Int) 2 () () (J6k n) (J6n n) (J6j p n) (stR now R) (BL n p fI R) () (cliG n p fI R 80 R.length) (2,(i:Int),l,()) (regF g 0 2) () e (cl,()) zM 0 0 0 false () [] ac (R.map (fun l=>isAt l key))=_
  unfold Je_2_step
  rw [J6f (by rw [List.length_map]; omega)]
 | k+1,i,g,l,e,cl,ac,hi,hg,hg1,hl,he,hla,hcl,hco,hac=>by
  have hrB:∀ l ∈ R,RowB l:=fun l hl=>Juj (Jef (hrows l hl) (by omega))
  have hnB:=Juj (Jef hnow (by omega))
  have hgB:∀ j,Jhn (J9s (i:Int) g j):=fun j=>by
   unfold J9s askG
   split
   ·exact Jm5 (hg j)
   ·exact Jm5 (hg j)
  have hn1:J9s (i:Int) g 1=((1,key,[],1,1,()),(i:Int)+1+1,(i:Int)+1+1,()):=by
   unfold J9s
   rw [hg1]
   unfold J9c J7l askG Jap
   simp
   omega
  have hcb:=Jre (cliG n p fI R 80 R.length) (m:=2) (by omega) hg 2 (i:Int) l (by omega) (by omega) e cl (by omega) 0 0 [] (zM,0,false) (zM,0,false) (Jhw 0 0 [] _ cl hco)
  rw [show (fun j=>askG ((i:Int)+1) (J9c ((i:Int)+1) (g j)))=J9s (i:Int) g from rfl] at hcb
  have hpl:=Jcw (fun j=>J7l ((i:Int)+1) (g j)) 2
  generalize J8i (fun j=>J7l ((i:Int)+1) (g j)) 2=P1 at hcb hpl
  generalize J8i (fun j=>Jap ((i:Int)+1) (J9c ((i:Int)+1) (g j))) 2=P2 at hcb
  have h5:=Jri (R.length:Int) 2 (J6k n) (J6n n) (J6j p n) (stR now R) (BL n p fI R) (cliG n p fI R 80 R.length) (2,(i:Int),l,()) (regF g 0 2) e (cl,()) zM 0 0 0 false [] ac _ _ (zM,0,false) _ _ hcb
  have hRK:=hrows _ (J7c (z:=[]) (show i < R.length by omega))
  have hRo:=Jef hRK (by omega)
  have hA:=Jv2 (R:=R) (now0:=now) (B:=BL n p fI R) hnB hrB (by omega) (g:=J9s (i:Int) g) (m:=2) (j:=1) (by omega) (by rw [hn1]; show (0:Int) < (i:Int)+1+1; omega) (by rw [hn1]; exact .inl rfl) (i:=i) (by omega) (K3w hRo) (cli:=cliG n p fI R 80 R.length) rfl (now:=(R.length:Int)) (by
    rw [expG hp hn (by omega) (Jq2 _ (by omega)) (by omega) 80 _ (by omega),decide_eq_false (by unfold fI; omega)]) (by
    have:=rootG (n:=n) (p:=p) (f:=fI) (R:=R) (j:=R.length) 80 (h:=i) (by omega)
    exact this) (e:=e) (by show Je6 e 2 < (i:Int)+1; exact hla) (Jvj (by omega) he (by omega)) (cl:=[]) (by simp) (by simp) (r:=(2,(i:Int)+1,l+(P1.length:Int),())) (by show (0:Int)≤(i:Int)+1; omega) 2 (J6k n) (J6n n) (J6j p n) zM 0 0 0 false [] ac (by omega)
  rw [show ((1:Nat):Int)+1=2 from rfl,hn1] at hA
  dsimp only at hA
  rw [List.nil_append] at hA
  have hu:∀ j,Jhn (updG (J9s (i:Int) g) 1 ((1,key,[],1,1,()),(i:Int)+1+1,0,()) j):=fun j=>by
   unfold updG
   split
   ·exact ⟨show (0:Int)≤1 by decide,show (1:Int)≤1000 by decide,show (0:Int)≤1 by decide,show (1:Int)≤1000 by decide⟩
   ·exact hgB j
  have hu1:updG (J9s (i:Int) g) 1 ((1,key,[],1,1,()),(i:Int)+1+1,0,()) 1=((1,key,[],1,1,()),(i:Int)+1+1,0,()):=if_pos rfl
  generalize updG (J9s (i:Int) g) 1 ((1,key,[],1,1,()),(i:Int)+1+1,0,())=g2 at hA hu hu1
  have hcall:J8y 2 (1,key,[],1,1,()) ((i:Int)+1) (R.getD i [])=(2,(i:Int)+1,(if isAt (R.getD i []) key then [(R.getD i []).getD (J6l (R.getD i []) key) zPr] else []),()):=by
   rw [← Jzg 2 key 1 1 ((i:Int)+1) (R.getD i [])]; rfl
  have hin:(R.map (fun l=>isAt l key)).getD i false=isAt (R.getD i []) key:=by
   rw [List.getD_eq_getElem?_getD,List.getElem?_map,List.getElem?_eq_getElem (show i < R.length by omega),List.getD_eq_getElem?_getD,List.getElem?_eq_getElem (show i < R.length by omega)]; rfl
  rw [hcall] at hA
  generalize hq:(if isAt (R.getD i []) key then [(R.getD i []).getD (J6l (R.getD i []) key) zPr] else [])=ps at hA
  have hps:(decide ((ps.length:Int)=1))=isAt (R.getD i []) key∧(ps.length:Int)≤1∧((ps.length:Int)=1→(ps.getD 0 zPr).1=key):=by
   cases hat:isAt (R.getD i []) key with
   | true=>
    rw [hat,if_pos rfl] at hq
    subst hq
    exact ⟨rfl,by simp,fun _=>(Jab hat).2⟩
   | false=>
    rw [hat,if_neg (by simp)] at hq
    subst hq
    exact ⟨rfl,by simp,fun h=>by simp at h⟩
  have h8:=Jw0 (R.length:Int) 2 (J6k n) (J6n n) (J6j p n) (stR now R) (BL n p fI R) (cliG n p fI R 80 R.length) (2,(i:Int)+1,l+(P1.length:Int),()) (regF (J9s (i:Int) g) 0 2) e ([],()) zM 0 0 0 false [] ac 2 ((i:Int)+1) _ _ _ _ _ _ hA
  have hrd:J0t 2 0 () (cliG n p fI R 80 R.length) (2,(i:Int)+1,l+(P1.length:Int),()) (regF g2 0 2) () (J6x ib 2 ((2,(i:Int)+1,ps,()),(i:Int)+1,()) e) ([(2,(i:Int)+1,ps,())],()) zM 0 0 0 false () []=some ((2,(i:Int)+1,ps,()),0):=by
   have hg2:J6s (Ty.beq (.int .i64)) 2 (J6x ib 2 ((2,(i:Int)+1,ps,()),(i:Int)+1,()) e)=some ((2,(i:Int)+1,ps,()),(i:Int)+1,()):=by
    rw [show Ty.beq (.int .i64)=ib from rfl,getP,if_pos rfl]
   unfold J0t
   rw [show J1g (2,(i:Int)+1,l+(P1.length:Int),()) (regF g2 0 2)=some ((i:Int)+1) from rfl,J6d]
   unfold J42
   rw [hg2]
   dsimp only [Option.isSome_some,Option.getD_some]
   rw [show (!true)=false from rfl,J6m,J6f (by omega),J6f (by omega)]
   unfold J25 Jk
   rw [J6e (by dsimp only; omega)]
   rfl
  have h12:=K2e (R.length:Int) 2 (J6k n) (J6n n) (J6j p n) (stR now R) (BL n p fI R) (cliG n p fI R 80 R.length) (2,(i:Int)+1,l+(P1.length:Int),()) (regF g2 0 2) (J6x ib 2 ((2,(i:Int)+1,ps,()),(i:Int)+1,()) e) ([(2,(i:Int)+1,ps,())],()) zM 0 0 0 false [] (ac++[(2,(i:Int)+1,ps,())]) 2 0 _ _ hrd
  have ih:=Jv0 hp h1 hn hkey hrows hR hnow k (i+1) g2 (l+(P1.length:Int)) (J6x ib 2 ((2,(i:Int)+1,ps,()),(i:Int)+1,()) e) [(2,(i:Int)+1,ps,())] (ac++[(2,(i:Int)+1,ps,())]) (by omega) hu (by rw [hu1]; rfl) (by omega) (K15 he (j:=1) (by omega) _) (by rw [Jry,if_pos rfl]; show (i:Int)+1 < _; omega) (by simp) (by simp) (by rw [List.length_append,List.length_singleton]; omega)
  rw [← ih]
  unfold Je_2
  rw [J77 (s':=((i:Int)+1+1,(R.length:Int),2,(),(),J6k n,J6n n,J6j p n,stR now R,BL n p fI R,(),cliG n p fI R 80 R.length,(2,(i:Int)+1,l+(P1.length:Int),()),regF g2 0 2,(),J6x ib 2 ((2,(i:Int)+1,ps,()),(i:Int)+1,()) e,([(2,(i:Int)+1,ps,())],()),zM,0,0,0,false,(),[],ac++[(2,(i:Int)+1,ps,())])) (by
   show Je_2_step key ((i:Int)+1) (R.length:Int) 2 () () (J6k n) (J6n n) (J6j p n) (stR now R) (BL n p fI R) () (cliG n p fI R 80 R.length) (2,(i:Int),l,()) (regF g 0 2) () e (cl,()) zM 0 0 0 false () [] ac (R.map (fun l=>isAt l key))=_
   unfold Je_2_step
   rw [J6h (by rw [List.length_map]; omega)]
   rw [show J2 _ _ _ _ _ _ _ _ _ _ _ _ _ _ _ _ _ _ _ _ _ _ _ _ _=_ from h5,J6d]
   dsimp only
   rw [show J2 _ _ _ _ _ _ _ _ _ _ _ _ _ _ _ _ _ _ _ _ _ _ _ _ _=_ from h8,J6d]
   dsimp only
   rw [show (!decide ((0:Int)=0))=false from rfl,J6m]
   rw [show J2 _ _ _ _ _ _ _ _ _ _ _ _ _ _ _ _ _ _ _ _ _ _ _ _ _=_ from h12,J6d]
   dsimp only
   rw [show (!decide ((0:Int)=0))=false from rfl,J6m,decide_eq_true rfl,show (!true)=false from rfl,J6m,J6i (n:=(i:Int)+1 - 1) (by omega) (by omega),show (i:Int)+1 - 1=(i:Int) from by omega,J6e (by rw [List.length_map]; omega),Int.toNat_natCast,hin,hps.1]
   rw [show (!(isAt (R.getD i []) key == isAt (R.getD i []) key))=false from by cases isAt (R.getD i []) key <;> rfl,J6m,J6i (n:=(i:Int)+1+1) (by omega) (by omega)]
   cases hat:isAt (R.getD i []) key with
   | true=>
    rw [hat,decide_eq_true_eq] at hps
    rw [J7h,J6e (by omega)]
    rw [show (ps.getD (Int.toNat 0) (([]:List UInt8),([]:List UInt8),())).1=key from hps.2.2 hps.1,decide_eq_true rfl]
    rfl
   | false=>rw [J6m])]
  rfl
theorem absN (hp:PwOk p) (h1:1≤n) (hn:n≤4) (xs:List Int) (y:Int)
  (hb:∃ u,J3t [1] 80 1 3=some (1,1,(),(),J6k n,J6n n,J6j p n,stR [] [[]],BL n p fI [[]],(),cliG n p fI [[]] 80 1,(1,0,0,()),regF (gB 0) 0 1,(),[],([],()),zM,0,0,0,false,(),[],u)):Je xs y=some true:=by
 obtain ⟨u,hb⟩:=hb
 obtain ⟨k,hk,k1,k2⟩:=Jfo y 0 3 (by omega) (by omega) (by omega)
 have hkey:∀ j,j < 4→([([97]:List UInt8),[98],[116],[122]].getD j []) ∈ J91∧isK ([([97]:List UInt8),[98],[116],[122]].getD j [])=false:=by decide
 obtain ⟨q1,q2⟩:=hkey k.toNat (by omega)
 have q3:=Jkg _ q1
 unfold Je
 rw [hb,J6d,hk,J6d]
 rw [J6e (by show 0≤k∧k < ((4:Nat):Int); omega)]
 dsimp only
 generalize ([([97]:List UInt8),[98],[116],[122]].getD k.toNat [])=key at q1 q2 q3 ⊢
 have hz:RowK 0 []:=⟨List.Pairwise.nil,by simp,by simp,by simp⟩
 obtain ⟨R,now,hl,r1,r2,r3,r4⟩:=Jr6 (n:=n) (p:=p) hp h1 hn xs q1 q2 (min xs.length 5) 0 [[]] [] [false] (by omega) rfl (fun l hl=>by rw [List.mem_singleton.1 hl]; exact Jbf hz (by omega)) hz rfl
 rw [show Je_1 xs key 0 1 1 () () (J6k n) (J6n n) (J6j p n) (stR [] [[]]) (BL n p fI [[]]) () (cliG n p fI [[]] 80 1) (1,0,0,()) (regF (gB 0) 0 1) () [] ([],()) zM 0 0 0 false () [] [] [false]=_ from hl,J6d]
 dsimp only
 have hadd:J0y (1,key,[],1,1,()) () (cliG n p fI R 80 R.length) (1,0,0,()) (regF (gB 0) 0 1) () [] ([],()) zM 0 0 0 false () []=some (2,0,(2,0,0,()),regF (updG (gB 0) 1 ((1,key,[],1,1,()),1,0,())) 0 2):=by
  unfold J0y J2h
  have hrt:J52 ((1,key,[],1,1,()):Qry)=some true:=by
   unfold J52
   dsimp only
   rw [J6f (fun e=>by rw [e] at q3; simp at q3),J6f (by omega),J6f (by omega),J6f (by omega),J6f (by omega),J6f (by omega),J6h rfl]
   rfl
  rw [show J52 ((1,key,[],1,1,()):Qry)=_ from hrt,J6d,show (!true)=false from rfl,J6m,Jmm,J6f (by omega)]
  dsimp only
  rw [J6d,J6i (n:=(1:Int)+1) (by omega) (by omega),J6i (n:=(0:Int)+1) (by omega) (by omega)]
  have:=Jxw (gB 0) ((1,key,[],1,1,()),1,0,()) 1 0
  rw [show ((0:Nat):Int)+((1:Nat):Int)+1=1+1 from rfl] at this
  dsimp only
  rw [show (0:Int)+1=1 from rfl,show J6x (Ty.beq (.int .i64)) (1+1) (((1,key,[],1,1,()):Qry),(1:Int),(0:Int),()) (regF (gB 0) 0 1)=_ from this]
  rfl
 have h6:=do_add (R.length:Int) 1 (J6k n) (J6n n) (J6j p n) (stR now R) (BL n p fI R) (cliG n p fI R 80 R.length) (1,0,0,()) (regF (gB 0) 0 1) [] ([],()) zM 0 0 0 false [] [] (1,key,[],1,1,()) _ _ _ hadd
 rw [show J2 _ _ _ _ _ _ _ _ _ _ _ _ _ _ _ _ _ _ _ _ _ _ _ _ _=_ from h6,J6d]
 dsimp only
 have hlast:=Jv0 (n:=n) (p:=p) hp h1 hn q1 r3 ⟨r1,r2⟩ r4 R.length 0 (updG (gB 0) 1 ((1,key,[],1,1,()),1,0,())) 0 [] [] [] (by omega) (fun j=>by
  unfold updG
  split
  ·exact ⟨show (0:Int)≤1 by decide,show (1:Int)≤1000 by decide,show (0:Int)≤1 by decide,show (1:Int)≤1000 by decide⟩
  ·exact K2n 0 j) rfl (by omega) rfl (by show (0:Int) < _; omega) (by simp) (by simp) (by simp)
 rw [show Je_2 key 1 (R.length:Int) 2 () () (J6k n) (J6n n) (J6j p n) (stR now R) (BL n p fI R) () (cliG n p fI R 80 R.length) (2,0,0,()) (regF (updG (gB 0) 1 ((1,key,[],1,1,()),1,0,())) 0 2) () [] ([],()) zM 0 0 0 false () [] [] (R.map (fun l=>isAt l key))=_ from hlast,J6d,Jtg,J6d]
end
theorem law_TopAbsent (y0:List Int) (y1:Int) (w0:Wf (.slice (.int .i64)) y0) (w1:Wf (.int .i64) y1):Je y0 y1=some true:=by
 obtain ⟨h1,hn⟩:=Jss [1]
 exact absN (K3e [1]) h1 hn y0 y1 (begunG [1] (by simp) fI rfl 80 (by omega))
end Go.Ax.V
