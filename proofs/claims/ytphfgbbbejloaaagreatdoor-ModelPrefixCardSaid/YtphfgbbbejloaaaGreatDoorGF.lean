/- The specification's Runs. Conditions: as each theorem says. -/
import Derived.Test.YtphfgbbbejloaaaGreatDoorGD
set_option linter.unusedSimpArgs false
set_option linter.unusedVariables false
set_option maxRecDepth 100000
set_option maxHeartbeats 16000000
namespace Go.Proofs.YtphfgbbbejloaaaGreatDoor
open Go.Proofs.Tryz
open Go.RowKit
theorem aGb{P:Prop}(h:P:=by intro j hj;simp at hj;omega):P:=h
theorem aGa{P:Prop}(h:P:=by first|omega|(simp only[List.length_nil,Qg,List.length_cons];omega)):P:=h
theorem sh53{P:Prop}(h:P:=by first|(simp only[maxLen];omega)|(simp only[maxLen,List.length_nil,Qg,List.length_cons];omega)):P:=h
theorem sh54{P:Prop}(h:P:=by simp only[World.size_alloc];omega):P:=h
theorem sh55{P:Prop}(h:P:=by have:=List.length_take_le k l;omega):P:=h
theorem aGc{P:Prop}(h:P:=by
  refine⟨k+1,oM,by go_num,?_,?_,HGI.o⟩
  ·rw[aM (λi=>fZ L s0 p i&&bN C i) (λi=>oC (l.take (k+1)) i&&bN C i) _ λi hi=>by rw[HALL.o i hi,HLT.o i]]
  ·rw[<-sJ (fZ L s0 p) (oC (l.take (k+1))) _ λi hi=>by rw[HALL.o i hi,HLT.o i]];exact HOI.o
  ):P:=h
theorem sh47{P:Prop}(h:P:=by
  obtain⟨p,hp1,hp2,rfl,rfl,hoi,hgi⟩:=hrel;have hBi:=hB1.aJa hgi aGb;have hci:=hgi.cell hc1 pO;by_cases hlp:(p:Int)<T
  ·exact sh36
  ·exact sh35
  ):P:=h
theorem sh48{P:Prop}(h:P:=by
  clear HSAME HMORE;go_wp2;go_roundw
  case rel=>exact⟨p+1,oM,.inl oM,by go_num,by rw[HE.o],HO2.o,HG3.o⟩
  case measure=>simp <;> omega
  ):P:=h
theorem sh49{P:Prop}(h:P:=by
  rw[aM (λi=>fZ L s0 s0 i&&bN C i) (λi=>L i&&bN C i) _ λi _=>by rw[Ed L s0 s0 (Ye _)],HNN.o]
  ):P:=h
theorem sh50{P:Prop}(h:P:=by
  rw[sJ (fZ L s0 s0) L _ λi _=>Ed L s0 s0 (Ye _) i];exact HOW.o
  ):P:=h
theorem sh34{P:Prop}(h:P:=by
  go_wp2_with fail
  all_goals
   have hsz:=(HO.o.lt g rfl).2;have hgW:w1.grownBy (wr.alloc (cq #[x.a,x.n,x.s] 128)) (some g):=World.grownBy.next HGR.o (World.grownBy_alloc _ _ _);have HOW:=hD (HO.o.keep (bR.aIw (cq #[x.a,x.n,x.s] 128)));have hst:(x.s:Int)=s0:=by have:=HS0.o;omega
   have HST:=hD hst;clear hst;generalize wr.alloc (cq #[x.a,x.n,x.s] 128)=W0 at *;have HGW:=hD hgW;clear hgW hsz;go_loopw [6,10] (λnv t wi=>∃p:Nat,s0<=p/\((p:Int)<=T∨p=s0)/\t= .int .i64 p/\nv= .int .i64 (aK (λi=>fZ L s0 p i&&bN C i) C.length)/\qX wi w (.slice (cw g 0) C C.length) (mk (fZ L s0 p) C.length)/\w1.grownBy wi (some g)) (λ_ t _=>(T-(match t with| .int _ n=>n|_=>0)).toNat)
   case atStart=>
    refine⟨s0,Ye _,.inr rfl,by rw[HST.o],?_,?_,HGW.o⟩
    ·exact sh49
    ·exact sh50
   case round=>
    obtain⟨p,hp1,hp2,rfl,rfl,hoi,hgi⟩:=hrel;have hBi:=hB1.aJa hgi aGb;have hci:=hgi.cell hc1 pO;by_cases hlp:(p:Int)<T
    ·exfalso;omega
    ·have HOI:=hD hoi;have HGI:=hD hgi;have HALL:=hD (λi hi=>KF L x s0 p C.length T HS0.o HTT.o hp1 oM hp2 i hi);clear hoi hgi;go_wp2_with fail;go_roundw
     case rel=>
      exact aGc
     case measure=>simp[intOf];omega
  ):P:=h
theorem sh35{P:Prop}(h:P:=by
  have HOI:=hD hoi;have HGI:=hD hgi;have HALL:=hD (λi hi=>KF L x s0 p C.length T HS0.o HTT.o hp1 oM hp2 i hi);clear hoi hgi;go_wp2_with fail;go_roundw
  case rel=>
   exact aGc
  case measure=>simp[intOf];omega
  ):P:=h
theorem sh36{P:Prop}(h:P:=by
  have hpN:p<C.length:=oM
  obtain⟨b2,o2,he2,hat2⟩:=(hrC.keep hBi).at oM;have h4:=hat2 p _ (getD_some C p hpN);have hml:=BJ (fZ L s0 p) C.length;have hcell:=hoi.cells.1 p _ (PL _ p (by rw[hml];exact hpN));have hfree:=hoi.cells.2 p;rw[Pd _ _ _ hpN]at hcell;obtain⟨HO2,hg3⟩:=qX.set (by rw[hml]) hoi p true;rw[Tt L s0 p C.length hp1]at HO2;have HO2:=hD HO2;have HG3:=hD (World.grownBy.next hgi hg3);have HSAME:=hD (Tu L C s0 p C.length hp1);have HMORE:=hD (Tv L C s0 p C.length hp1 hpN);have hob:bN C p=(C.getD p 0==1):=by unfold bN;rw[Qw];simp
  rw[hob]at HSAME HMORE;have har2:=iX (λi=>fZ L s0 p i&&bN C i) C.length;generalize aK (λi=>fZ L s0 p i&&bN C i) C.length=q at *;generalize C.getD p 0=y at *;generalize fZ L s0 p p=sb at *;subst he2;clear hoi hgi hg3 hat2 hml hob;cases sb
  ·cases hy:(y==1)
   ·have HE:=hD (HSAME.o (by rw[hy];rfl));exact sh48
   ·have HE:=hD (HMORE.o rfl hy);clear HSAME HMORE;go_wp2;go_roundw
    case rel=>exact⟨p+1,oM,.inl oM,by go_num,by rw[HE.o];go_num,HO2.o,HG3.o⟩
    case measure=>simp <;> omega
  ·have HE:=hD (HSAME.o rfl);exact sh48
  ):P:=h
theorem sh37{P:Prop}(h:P:=by
  refine⟨s0,Ye _,.inr rfl,by rw[HST.o],?_,?_,HGW.o⟩
  ·exact sh49
  ·exact sh50
  ):P:=h
theorem sh38{P:Prop}(h:P:=by
  go_wp2_with fail;refine wpr ?_
  repeat(go_big_quiet_step (fail))
  refine wqn λnq=> ?_;go_wp2_with fail;go_ret;exact⟨aU (by rw[HBad.o HF.o]),hB.aJd _⟩
  ):P:=h
theorem sh39{P:Prop}(h:P:=by
  rcases h.2 with ⟨rfl,hn⟩|⟨g,cap,cur,rfl,hb,hg,hn,hc,hs,ht⟩
  ·exact .inl ⟨rfl,Qz hn⟩
  ·refine .inr ⟨g,cap,rfl,hb,(Array.getElem?_eq_some_iff.1 hg).1,hn,hc,λk x hk=> ?_,λi=>World.ownsRow.frozenAt h i⟩;have hk':k<C.length:=(Qx.1 hk).1;rw[Ys (cap:=cap) h k oM,Yw,hk];rfl
  ):P:=h
theorem sh40{P:Prop}(h:P:=by
  rcases ho.2 with ⟨h,_⟩|⟨g,cap,cur,h,_,hgg,_⟩
  ·cases h
  ·injection h with h;injection h with h;injection h with h;subst h;exact(Array.getElem?_eq_some_iff.1 hgg).1
  ):P:=h
theorem sh41{P:Prop}(h:P:=by
  go_roundw
  case rel=>exact⟨k+1,max x.s en,true,oM,by go_num,congrArg _ hM2.o,rfl,hd3.o,(λh=>by cases h),hB3⟩
  case measure=>simp[intOf];omega
  ):P:=h
theorem sh42{P:Prop}(h:P:=by
  rcases h.form with ⟨h,_⟩|⟨g',cc,h,_,_,_,_,hat,hf⟩
  ·cases h
  ·injection h with h;injection h with h;injection h with h;subst h;exact⟨hat,hf⟩
  ):P:=h
theorem sh43{P:Prop}(h:P:=by
  go_wp2_with fail;go_roundw
  case rel=>exact⟨p+1,oM,oM,by go_num,HO2.o,HG3.o⟩
  case measure=>simp[intOf];omega
  ):P:=h
theorem Oa{P:Prop}(h:P:=by
  have:=hat j x hx;by_cases hj0:j=0
  ·subst hj0;simpa [Addr.add]using this
  ·simpa [Addr.add,hj0]using this
  ):P:=h
theorem aAo{P:Prop}(h:P:=by
  apply List.ext_getElem
  ·simp[madeCells]
  ·intro i h1 h2;simp[madeCells,Value.cells,Nat.mod_one]
  ):P:=h
theorem LY{l:List E}{e next:Int}(he:0<=e/\e<=65536)(hf:qV l e next true):0<=next/\next<=65536:=by
 rcases hf with ⟨hf,_⟩|⟨_,⟨x,hx,h1,h2,h3⟩,_⟩
 ·cases hf
 ·have:=(aB x).1 h1;omega
theorem EM{l:List E}{next t:Int}(he:0<=next/\next<=65536)(hg:kS l next t):0<=t/\t<=65536:=by
 obtain⟨g1,g2|⟨x,hx,h1,h2,h3⟩,_⟩:=hg
 ·omega
 ·have:=(aB x).1 h1;omega
theorem Na(C:List E)(y:E)(m:Int):(bI (C++[y])).set (C.length*3+1) m=bI (C++[⟨y.a,m,y.s⟩]):=by
 have hk:(bI C).length=C.length*3:=dH C;rw[eO,eO,List.set_append_right _ _ (by rw[hk];omega),hk,show C.length*3+1-C.length*3=1 by omega];rfl
theorem aG.setn{w:Wd}{B g c n:Nat}{C:List E}{y:E}(hn:n=C.length+1)(h:aG w B (.slice (cw g 0) n c) (C++[y]))(m:Int):
  aG (w.setCell (cw g (C.length*3+1)) m) B (.slice (cw g 0) n c) (C++[⟨y.a,m,y.s⟩])/\w.grownBy (w.setCell (cw g (C.length*3+1)) m) (some g):=by
 subst hn;unfold aG at h ⊢;rw[show(C++[y]).length=C.length+1 by simp]at h;have hst:=World.ownsRow.stored h (C.length*3+1) m;rw[Na]at hst;refine⟨?_,hst.2⟩;rw[show(C++[(⟨y.a,m,y.s⟩:E)]).length=C.length+1 by simp];exact hst.1
theorem TD(l:List E)(a:OA)(c:Nat)(w:Wd)(hr:Rd w a l)(hw:wfL l):
  ep 143 #[.slice a l c] w λe w'=>∃v,e= .returned v/\aG w' w v (bW l)/\Below w w w':=by
 have hlen:=hr.1;obtain⟨i0,hi,hz0,hz1,hz2⟩:=info_parts kK;go_enter func143,ntmps143;go_wp2_with fail;go_loopw [3,4] (λv e wr=>∃(R:List E) (en:Int),e= .int .i64 en/\Cj l R en/\aG wr w v R/\Below w w wr) (λ_ e _=>(65536-(match e with| .int _ n=>n|_=>0)).toNat)
 case atStart=>exact⟨[],0,rfl,Vi l,aG.nil _ _,bR⟩
 case round=>
  obtain⟨R,en,rfl,hbl,ho,hB⟩:=hrel;have he0:=hbl.e0;have he1:=hbl.e1;have HBL:=hD hbl;have HR:=hD ho;clear hbl ho;go_wp2_with fail;go_loopw [5,6,7] (λnx fd i wr2=>∃(k:Nat) (next:Int) (found:Bool),k<=l.length/\i= .int .i64 k/\nx= .int .i64 next/\fd= .bool found/\qV (l.take k) en next found/\(found=false->next=0)/\Below wr wr wr2) (λ_ _ i _=>l.length-(intOf i).toNat)
  case atStart=>exact⟨0,0,false,Yf _,rfl,rfl,rfl,Ut en,λ_=>rfl,bR⟩
  case round=>
   obtain ⟨k,next,found,hk,rfl,rfl,rfl,hL,hf0,hB2⟩:=hrel;have hBw:=hB.on hB2;have hnb:0<=next/\next<=65536:=by
    cases found with
    |false=>rw[hf0 rfl];omega
    |true=>exact LY ⟨he0,he1⟩ hL
   obtain⟨hn0,hn1⟩:=hnb;have HF0:=hD hf0;by_cases hlt:k<l.length
   ·obtain ⟨b,o,rfl,hat⟩:=(hr.keep hBw).at oM;obtain⟨h1,h2,h3⟩:=hat k _ (Qa hlt);have HS:Hid (okB l[k]=false∨l[k].s+l[k].n<=en->qV (l.take (k+1)) en next found):=hD (Pt hlt hL);have HT:Hid (okB l[k]=true->en<l[k].s+l[k].n->(found=false∨max l[k].s en<next)->qV (l.take (k+1)) en (max l[k].s en) true):=hD (Pq hlt hL);have HU:Hid (found=true->next<=max l[k].s en->qV (l.take (k+1)) en next found):=hD (λe h=>by subst e;exact Ps hlt hL h);generalize l[k]=x at *;clear hat hr hL hf0;cases hp:okB x
    ·have HP:=hD hp;clear hp;go_wp2_with fail;refine wpr ?_
     repeat(go_big_quiet_step ((go_at_call 133;exact Calls.aJb (rT _ _ _ _ _ HP.o))))
     refine wqn λnq=> ?_;go_wp2_with fail;go_roundw
     case rel=>exact⟨k+1,next,found,oM,by go_num,rfl,rfl,HS.o (.inl HP.o),HF0.o,hB2.aJd _⟩
     case measure=>simp[intOf];omega
    ·obtain ⟨c1,c2,c3,c4,c5⟩:=(aB x).1 hp;have HP:=hD hp;clear hp;by_cases hle:x.s+x.n<=en
     ·have hd:decide (x.s+x.n<=en)=true:=Qo hle;go_wp2_with fail;refine wpr ?_
      repeat(go_big_quiet_step ((go_at_call 133;exact Calls.aJb (rT _ _ _ _ _ HP.o))))
      refine wqn λnq=> ?_;go_wp2_with fail;go_roundw
      case rel=>exact⟨k+1,next,found,oM,by go_num,rfl,rfl,HS.o (.inr hle),HF0.o,hB2.aJd _⟩
      case measure=>simp[intOf];omega
     ·have hd:decide (x.s+x.n<=en)=false:=Qp hle;go_wp2_with fail;refine wpr ?_
      repeat(go_big_quiet_step ((go_at_call 133;exact Calls.aJb (rT _ _ _ _ _ HP.o))))
      refine wqn λnq=> ?_;have hB3:=hB2.aJd nq;have h3:=(World.aIy wr nq).keep h3;generalize wr.next nq=wr3 at *;go_wp2_with fail
      all_goals have hM:(if x.s<en then en else x.s)=max x.s en:=by split <;> omega
      ·rename_i hf hs2
       have hs3:max x.s en<next:=by first|omega|(split at hs2 <;> omega)
       have hd3:=hD (HT.o HP.o hle (.inr hs3));have hM2:=hD hM;clear hM hs2 hs3 hf;exact sh41
      ·rename_i hf hs2
       have hs3:next<=max x.s en:=by first|omega|(split at hs2 <;> omega)
       have hd3:=hD (HU.o hf hs3);rw[hf]at hd3;clear hM hs2 hs3;go_roundw
       case rel=>exact⟨k+1,next,true,oM,by go_num,rfl,rfl,hd3.o,(λh=>by cases h),hB3⟩
       case measure=>simp[intOf];omega
      ·rename_i hf
       have hf2:found=false:=by simpa using hf
       have hd3:=hD (HT.o HP.o hle (.inl hf2));have hM2:=hD hM;clear hM hf hf2;exact sh41
   ·rw [Qq oM]at hL;have HL:=hD hL;cases found
    ·have HE:=hD (Vj HBL.o HL.o);have HR2:=hD (HR.o.keep hB2);clear hL hf0 HF0;go_wp2_with fail;go_ret;exact⟨_,rfl,by rw[<-HE.o];exact HR2.o,hBw⟩
    ·obtain ⟨l1,l2⟩:=Jp HBL.o HL.o;have HR2:=hD (HR.o.keep hB2);clear hL hf0 HF0 HR hB hB2;go_wp2_with fail;go_loopw [4,9] (λe i wr3=>∃(k:Nat) (t:Int),k<=l.length/\i= .int .i64 k/\e= .int .i64 t/\kS (l.take k) next t/\Below wr wr wr3) (λ_ i _=>l.length-(intOf i).toNat)
     case atStart=>exact⟨0,next,Yf _,rfl,rfl,Jw next,bR⟩
     case round=>
      obtain⟨k,t,hk,rfl,rfl,hG,hB3⟩:=hrel;have hBw3:=hBw.on hB3;obtain⟨t0,t1⟩:=EM ⟨hn0,hn1⟩ hG;by_cases hlt:k<l.length
      ·obtain ⟨b,o,rfl,hat⟩:=(hr.keep hBw3).at oM;obtain⟨h1,h2,h3⟩:=hat k _ (Qa hlt);have HS:Hid (okB l[k]=false∨next<l[k].s∨l[k].s+l[k].n<=t->kS (l.take (k+1)) next t):=hD (Gf hlt hG);have HT:Hid (okB l[k]=true->l[k].s<=next->t<l[k].s+l[k].n->kS (l.take (k+1)) next (l[k].s+l[k].n)):=hD (Gd hlt hG);generalize l[k]=x at *;clear hat hr hG;cases hp:okB x
       ·have HP:=hD hp;clear hp;go_wp2_with fail;refine wpr ?_
        repeat(go_big_quiet_step ((go_at_call 133;exact Calls.aJb (rT _ _ _ _ _ HP.o))))
        refine wqn λnq=> ?_;go_wp2_with fail;go_roundw
        case rel=>exact⟨k+1,t,oM,by go_num,rfl,HS.o (.inl HP.o),hB3.aJd _⟩
        case measure=>simp[intOf];omega
       ·obtain ⟨c1,c2,c3,c4,c5⟩:=(aB x).1 hp;have HP:=hD hp;clear hp;by_cases hsn:x.s<=next
        ·have hd1:decide (x.s<=next)=true:=Qo hsn;by_cases hte:t<x.s+x.n
         ·have hd2:decide (t<x.s+x.n)=true:=Qo hte;go_wp2_with fail;refine wpr ?_
          repeat(go_big_quiet_step ((go_at_call 133;exact Calls.aJb (rT _ _ _ _ _ HP.o))))
          refine wqn λnq=> ?_;have hB4:=hB3.aJd nq;have h2:=(World.aIy wr nq).keep h2;have h3:=(World.aIy wr nq).keep h3;generalize wr.next nq=wr4 at *;go_wp2_with fail;refine wpr ?_
          repeat(go_big_quiet_step (fail))
          refine wqn λnq=> ?_;go_wp2_with fail;go_roundw
          case rel=>exact⟨k+1,x.s+x.n,oM,by go_num,rfl,HT.o HP.o hsn hte,hB4.aJd _⟩
          case measure=>simp[intOf];omega
         ·have hd2:decide (t<x.s+x.n)=false:=Qp hte;go_wp2_with fail;refine wpr ?_
          repeat(go_big_quiet_step ((go_at_call 133;exact Calls.aJb (rT _ _ _ _ _ HP.o))))
          refine wqn λnq=> ?_;go_wp2_with fail;go_roundw
          case rel=>exact⟨k+1,t,oM,by go_num,rfl,HS.o (.inr (.inr oM)),hB3.aJd _⟩
          case measure=>simp[intOf];omega
        ·have hd1:decide (x.s<=next)=false:=Qp hsn;go_wp2_with fail;refine wpr ?_
         repeat(go_big_quiet_step ((go_at_call 133;exact Calls.aJb (rT _ _ _ _ _ HP.o))))
         refine wqn λnq=> ?_;go_wp2_with fail;go_roundw
         case rel=>exact⟨k+1,t,oM,by go_num,rfl,HS.o (.inr (.inl oM)),hB3.aJd _⟩
         case measure=>simp[intOf];omega
      ·rw [Qq oM]at hG;obtain⟨g1,g2,g3⟩:=QX HBL.o HL.o hG;have HN:=hD g1;have HR3:=hD (HR2.o.keep hB3);have hrs:=bE HBL.o.canon;clear hG g1 HR2 hB3;by_cases hR:R=[]
       ·subst hR;obtain⟨a3,c3,rfl⟩:∃a c,u3= .slice a 0 c:=by
         rcases HR3.o.form with ⟨rfl,_⟩|⟨g,c,rfl,_⟩
         ·exact⟨_,_,rfl⟩
         ·exact⟨_,_,rfl⟩
        go_wp2_with fail;refine wpr ?_
        repeat(go_big_quiet_step (fail))
        refine wqn λnq=> ?_;have hB5:=hBw3.aJd nq;have HR5:=hD (HR3.o.keep (World.aIy wr nq));have hsz5:=hB5.size;generalize wr.next nq=W at *;clear HR3 hBw3
        go_wp2_with (at_builtin;refine aO _ rfl _ _ 52 rfl w.heap.size 128 i0 (.agg #[oo,oo,oo]) 3 24 underlying52 hi hz0 hz1 hz2 rfl dE _ _ _ rfl (Qu HR5.o _) (cw W 0) 1 1 (E.cells (⟨0,t-next,next⟩:E)) rfl rfl (sI _ _ sM _ _) (dF _) aGa sh53 sh54 ?_;intro v1 w1 hown1 hgrow1 hwhere1)
        have hB6:=hD ((hB5.aIw (cq #[oo,.int .i64 (t-next),next] 128)).aJa hgrow1 λj hj=>(HR5.o.lt j hj).1);have HO6:=hD (aG.snoc hown1 sM);clear hown1 hgrow1 hwhere1;go_roundw
        case rel=>exact⟨_,t,rfl,HN.o,HO6.o,hB6.o⟩
        case measure=>simp;omega
       ·obtain ⟨C,y,rfl⟩:=fB R hR;obtain⟨g,c3,rfl,hg1,hg2,hc1,hc2,hgt,hfz⟩:=(HR3.o.form).resolve_left sM;obtain⟨y1,y2,y3⟩:=hgt C.length y sM;simp only[Qg,List.length_cons,List.length_nil,Nat.zero_add]at y1 y2 y3 hc1 hrs;have hf:=hfz (C.length*3+1);obtain⟨e1,e2,e3,e4,e5⟩:=(aB y).1 (HBL.o.canon.1 y sM).2;have hlen:(C++[y]).length=C.length+1:=by simp
        have HR4:=hD HR3.o;rw[hlen]at HR4 ⊢;have hd:decide (0<=C.length)=true:=by simp
        clear hgt hfz hlen HR3 hR hr;by_cases hm:y.s+y.n=next
        ·have hsb:(y.s+y.n==next)=true:=by simp[hm]
         have HG:Hid (grow (C++[y]) next t=_):=hD (Mh C y next t hm);clear hm;go_wp2_with fail;refine wpr ?_
         repeat(go_big_quiet_step (fail))
         refine wqn λnq=> ?_;have hB5:=hBw3.aJd nq;have hbn:=World.aIy wr nq;have HR5:=hD (HR4.o.keep hbn);have z2:=hbn.keep y2;have hfr:=hbn.aJc y2 hf;clear hbn y1 y2 y3 hf HR4 hBw3;generalize wr.next nq=W at *;go_wp2_with fail;have hst:=HR5.o.setn rfl (y.n+(t-next));have HS1:=hD hst.1;have HS2:=hD hst.2;clear hst;go_roundw
         case rel=>exact⟨_,t,rfl,HN.o,by rw[HG.o];exact HS1.o,hB5.aJa HS2.o λj hj=>by simp at hj;omega⟩
         case measure=>simp;omega
        ·have hsb:(y.s+y.n==next)=false:=by simpa using hm
         have HG:Hid (grow (C++[y]) next t=_):=hD (RX C y next t hm);clear hm;go_wp2_with fail;refine wpr ?_
         repeat(go_big_quiet_step (fail))
         refine wqn λnq=> ?_;have hB5:=hBw3.aJd nq;have hbn:=World.aIy wr nq;have HR5:=hD (HR4.o.keep hbn);have hsz5:=hB5.size;clear hbn y1 y2 y3 hf HR4 hBw3;generalize wr.next nq=W at*
         go_wp2_with (at_builtin;refine aO _ rfl _ _ 52 rfl w.heap.size 128 i0 (.agg #[oo,oo,oo]) 3 24 underlying52 hi hz0 hz1 hz2 rfl dE _ _ _ rfl (Qu HR5.o _) (cw W 0) 1 1 (E.cells (⟨0,t-next,next⟩:E)) rfl rfl (sI _ _ sM _ _) (dF _) aGa sh53 sh54 ?_;intro v1 w1 hown1 hgrow1 hwhere1)
         have hB6:=hD ((hB5.aIw (cq #[oo,.int .i64 (t-next),next] 128)).aJa hgrow1 λj hj=>(HR5.o.lt j hj).1);have HO6:=hD (aG.snoc hown1 sM);clear hown1 hgrow1 hwhere1;go_roundw
         case rel=>exact⟨_,t,rfl,HN.o,by rw[HG.o];exact HO6.o,hB6.o⟩
         case measure=>simp;omega
end Go.Proofs.YtphfgbbbejloaaaGreatDoor
namespace Go
open Go.RowKit
section
variable{P:Program}
theorem KJ(w:Wd)(t e ty:TypeId)(z:Value)(k:Nat)(u:Value)(ht:P.underlying t=some (.slice e))(hv:∀w,(zeroValue e).run P w= .ok z w)(hz:z.cells=Array.replicate k u)(hk:0<k)(h1:u.oneCell'=true)(b o n c:Nat)(hn:0<n)
  (hc:∀j,j<n*k->(w (cw b (o+j))).isSome=true) (hf:∀j,j<n*k->w.frozen? (cw b (o+j))=false):
  (Builtin.clear_ #[t] ty #[.slice (cw b o) n c]).run P w= .ok (.tuple #[]) (w.setCells b o (List.replicate (n*k) u)):=by
 have hzc:(Builtin.zeroCells z.cells n).toList=List.replicate (n*k) u:=by
  rw[hz];simp only[Builtin.zeroCells]
  apply List.ext_getElem
  ·simp
  ·intro i h1 h2;simp;rw[getElem!_pos _ _ (by simp;exact Nat.mod_lt _ hk)];simp
 have hst:=run_storeCells_cells (P:=P) b o (List.replicate (n*k) u) 0 w (by simpa using hc) (by simpa using hf) (by intro v hv';rw[List.eq_of_mem_replicate hv'];exact h1);simp only[Nat.add_zero]at hst;obtain⟨m,rfl⟩:∃m,n=m+1:=⟨n-1,oM⟩;simp[Builtin.clear_,run_underlying ht,hv,hzc,hst]
theorem World.grownBy.next{w a b:Wd}{row:Option Nat}(h2:w.grownBy a row)(h5:a.grownBy b row):w.grownBy b row:=
 ⟨h5.os.trans h2.os,h5.tape.trans h2.tape,h5.output.trans h2.output,Nat.le_trans h2.size h5.size,λk hk hne=>(h5.block k (Yu hk h2.size) hne).trans (h2.block k hk hne)⟩
theorem World.grownBy.behind{w a b:Wd}{row:Option Nat}(h:w.grownBy a row)(hb:Below a a b):w.grownBy b row:=
 h.next ⟨hb.os,hb.tape,hb.output,hb.size,λk hk _=>hb.block k hk⟩
theorem World.ownsRow.storedAll{w:Wd}{base g cap n size:Nat}{e:TypeId}(vs:List Value):∀(w:Wd) (xs:List Value) (o:Nat),w.ownsRow base e size (.slice (cw g 0) n cap) n xs->
  ∃xs',(w.setCells g o vs).ownsRow base e size (.slice (cw g 0) n cap) n xs'/\xs'.take o=xs.take o/\w.grownBy (w.setCells g o vs) (some g):=by
 induction vs with
 |nil=>intro w xs o h;exact⟨xs,h,rfl,rfl,rfl,rfl,Ye _,λ_ _ _=>rfl⟩
 | cons v r ih=>
  intro w xs o h;obtain⟨h1,h2⟩:=h.stored o v;obtain⟨xs',h3,h4,h5⟩:=ih _ _ (o+1) h1;refine⟨xs',h3,?_,?_⟩
  ·have:=congrArg (List.take o) h4;rw[List.take_take,List.take_take,Yv oM]at this;rw[this,List.take_set_of_le (Ye o)]
  ·exact⟨h5.os.trans h2.os,h5.tape.trans h2.tape,h5.output.trans h2.output,Nat.le_trans h2.size h5.size,λk hk hne=>(h5.block k (Yu hk h2.size) hne).trans (h2.block k hk hne)⟩
theorem World.ownsRow.short{w:Wd}{base g cap n size m:Nat}{e:TypeId}{xs:List Value}(h:w.ownsRow base e size (.slice (cw g 0) n cap) n xs)(hm:m<=n):
  w.ownsRow base e size (.slice (cw g 0) m cap) m (xs.take (m*size)):=by
 obtain⟨hl,⟨h',_⟩|⟨g',cap',cur,h',hb,hg,hnc,hcm,hcs,htake⟩⟩:=h
 ·simp at h'
 ·simp only[Value.slice.injEq,Option.some.injEq,Addr.mk.injEq,and_true,true_and]at h';obtain⟨rfl,rfl⟩:=h';have hms:m*size<=n*size:=Nat.mul_le_mul_right _ hm;refine⟨by rw[Yp,hl];omega,.inr ⟨g,cap,cur,rfl,hb,hg,oM,hcm,hcs,?_⟩⟩;rw[<-htake,List.take_take,Yv hms]
end
end Go
namespace Go.Proofs.YtphfgbbbejloaaaGreatDoor
open Go.Proofs.Tryz
open Go.RowKit
theorem NK(M:List E)(i:Nat):bI (M.take i)=(bI M).take (i*3):=by
 have e:bI M=bI (M.take i)++bI (M.drop i):=by rw[<-eO,List.take_append_drop]
 by_cases h:i<=M.length
 ·rw[e,List.take_append_of_le_length (by rw[dH,Yp];omega),Qq (l:=bI (M.take i)) (by rw[dH,Yp];omega)]
 ·rw[Qq oM,Qq (by rw[dH];omega)]
theorem Tm(M:List E)(k:Nat)(h:k<M.length)(x:E):(((bI M).set (k*3) x.a).set (k*3+1) x.n).set (k*3+2) x.s=bI (M.set k x):=by
 rw [GG M k h];have e:bI M=bI (M.take k)++(E.cells M[k]++bI (M.drop (k+1))):=by
  conv=>lhs;rw[Kt M k h,eO]
  rfl
 have hk:(bI (M.take k)).length=k*3:=by rw[dH,Yp,Yv oM]
 rw[e,eO,List.set_append_right _ _ (by rw[hk];omega),List.set_append_right _ _ (by rw[hk];omega),List.set_append_right _ _ (by rw[hk];omega),hk,show k*3-k*3=0 by omega,show k*3+1-k*3=1 by omega,show k*3+2-k*3=2 by omega];rfl
theorem aG.put{w:Wd}{B g c n:Nat}{M:List E}(hn:n=M.length)(h:aG w B (.slice (cw g 0) n c) M)(k:Nat)(hk:k<M.length)(x:E):
  aG (((w.setCell (cw g (k*3)) x.a).setCell (cw g (k*3+1)) x.n).setCell (cw g (k*3+2)) x.s) B (.slice (cw g 0) n c) (M.set k x)/\
  w.grownBy (((w.setCell (cw g (k*3)) x.a).setCell (cw g (k*3+1)) x.n).setCell (cw g (k*3+2)) x.s) (some g):=by
 subst hn;obtain⟨s1,g1⟩:=World.ownsRow.stored h (k*3) x.a;obtain⟨s2,g2⟩:=s1.stored (k*3+1) x.n;obtain⟨s3,g3⟩:=s2.stored (k*3+2) x.s;rw[Tm M k hk x]at s3;refine⟨?_,?_⟩
 ·unfold aG;rw[List.length_set];exact s3
 ·exact⟨rfl,rfl,rfl,Nat.le_trans g1.size (Nat.le_trans g2.size g3.size),λj hj hne=>(g3.block j (Yu hj (Nat.le_trans g1.size g2.size)) hne).trans ((g2.block j (Yu hj g1.size) hne).trans (g1.block j hj hne))⟩
theorem JQ(x:E)(b:Bool)(hb:okB x=b)(hx:x.wf)(w:Wd):
  ep 281 #[.agg #[x.a,x.n,x.s]] w (RB w (.bool (!b))):=by
 obtain⟨⟨b1,b2⟩,⟨b3,b4⟩,⟨b5,b6⟩⟩:=hx;have HX:=hD hb;clear hb;go_enter func281,ntmps281;go_wp2_with fail;refine(Bz _ _ _ _ _ HX.o b1 b2 b5 b6).m ?_;rintro e w1 ⟨rfl,hb1⟩;have hB1:=((bQ w).aIw _).on hb1;go_wp2_with fail
 all_goals
  go_ret;exact⟨rfl,hB1⟩
theorem Ig(l:List E)(a:OA)(c:Nat)(w:Wd)(hr:Rd w a l)(hw:wfL l):
  ep 287 #[.slice a l c,.func (.func 281) #[] #[]] w (RB w (.int .i64 (Gc l λy=> !okB y))):=by
 have hlen:=hr.1;go_enter func287,ntmps287;go_wp2;go_loopw [8] (λi wr=>∃k:Nat,k<=l.length/\i= .int .i64 k/\(∀x∈l.take k,(!okB x)=false)/\Below w w wr) (λi _=>l.length-(intOf i).toNat)
 case atStart=>exact⟨0,Yf _,rfl,sM,bR⟩
 case round=>
  obtain⟨k,hk,rfl,hv,hB⟩:=hrel;by_cases hlt:k<l.length
  ·obtain ⟨b,o,rfl,hat⟩:=(hr.keep hB).at oM;obtain⟨h1,h2,h3⟩:=hat k _ (Qa hlt);have hwx:=hw _ (Qm hlt);have HT:=hD (Dy l (λy=> !okB y) k hlt hv);have HF:=hD (vC l (λy=> !okB y) k hlt hv);generalize l[k]=x at *;clear hat hr hv hw;cases hp:okB x
   ·have HP:=hD hp;clear hp;go_wp2_with fail;refine(JQ x _ HP.o hwx _).m ?_;rintro e w1 ⟨rfl,hb1⟩;go_wp2_with fail;go_ret;exact⟨pG (HT.o (by simp[HP.o])).symm,hB.on hb1⟩
   ·have HP:=hD hp;clear hp;go_wp2_with fail;refine(JQ x _ HP.o hwx _).m ?_;rintro e w1 ⟨rfl,hb1⟩;go_wp2_with fail;go_roundw
    case rel=>exact⟨k+1,oM,by go_num,HF.o (by simp[HP.o]),hB.on hb1⟩
    case measure=>simp[intOf];omega
  ·have HN:=hD (xI l (λy=> !okB y) (by rw[Qq oM]at hv;exact hv));clear hv;go_wp2;go_ret;exact⟨pG HN.o.symm,hB⟩
structure wU(l M:List E)(i j:Nat):Prop where
 len:M.length=l.length
 ij:i<j
 jl:j<=l.length
 head:M.take i=(l.take j).filter okB
 tail:M.drop j=l.drop j
theorem Kw(l:List E)(i:Nat)(hi:i<l.length)(h:∀x∈l.take i,(!okB x)=false)(hb:okB l[i]=false):wU l l i (i+1):=by
 refine⟨rfl,oM,oM,?_,rfl⟩;rw[Qh hi,List.filter_append];have h1:(l.take i).filter okB=l.take i:=List.filter_eq_self.2 λx hx=>by simpa using h x hx
 rw[h1];simp[hb]
theorem Tj{l M:List E}{i j:Nat}(h:wU l M i j)(hj:j<l.length):M[j]? =some l[j]:=by
 have h1:=congrArg (λt=>t[0]?) h.tail;simp only[List.getElem?_drop,Nat.add_zero]at h1;rw[h1,Qa hj]
theorem NY{l M:List E}{i j:Nat}(h:wU l M i j)(hj:j<l.length)(hb:okB l[j]=false):wU l M i (j+1):=by
 refine⟨h.len,by have:=h.ij;omega,oM,?_,?_⟩
 ·rw[Qh hj,List.filter_append,h.head];simp[hb]
 ·rw[<-List.drop_drop,h.tail,List.drop_drop]
theorem NZ{l M:List E}{i j:Nat}(h:wU l M i j)(hj:j<l.length)(hb:okB l[j]=true):wU l (M.set i l[j]) (i+1) (j+1):=by
 have hl:=h.len;have hij:=h.ij;refine⟨by simp[hl],oM,oM,?_,?_⟩
 ·rw[Qh pO,List.take_set_of_le (Ye i),Qh hj,List.filter_append,h.head];simp[hb]
 ·rw[List.drop_set_of_lt oM,<-List.drop_drop,h.tail,List.drop_drop]
theorem Tk{l M:List E}{i j:Nat}(h:wU l M i j)(hj:l.length<=j):M.take i=l.filter okB:=by
 rw[h.head,Qq hj]
theorem Ux(l:List E):(Gc l (λy=> !okB y)= -1/\l.filter okB=l)∨ ∃i:Nat,Gc l (λy=> !okB y)=i/\wU l l i (i+1):=by
 by_cases h:∀x∈l,(!okB x)=false
 ·exact .inl ⟨xI l _ h,List.filter_eq_self.2 λx hx=>by simpa using h x hx⟩
 ·right
  have hex:∃i:Nat,∃hi:i<l.length,(!okB l[i])=true:=by
   refine Classical.byContradiction λhn=>h λx hx=> ?_;obtain⟨i,hi,rfl⟩:=List.mem_iff_getElem.1 hx
   cases hh:(!okB l[i])with
   |false=>rfl
   |true=>exact absurd ⟨i,hi,hh⟩ hn
  have hex2:∃i:Nat,(∃hi:i<l.length,(!okB l[i])=true)/\ ∀j,j<i-> ¬ ∃hj:j<l.length,(!okB l[j])=true:=by
   obtain⟨n,hn⟩:=hex
   induction n using Nat.strongRecOn with
   | _ n ih=>
    by_cases hm:∃m,m<n/\ ∃hj:m<l.length,(!okB l[m])=true
    ·obtain⟨m,hm1,hm2⟩:=hm;exact ih m hm1 hm2
    ·exact⟨n,hn,λj hj c=>hm ⟨j,hj,c⟩⟩
  obtain ⟨i,⟨hi,hb⟩,hmin⟩:=hex2;have hv:∀x∈l.take i,(!okB x)=false:=λx hx=>by
   obtain⟨j,hj,rfl⟩:=List.mem_iff_getElem.1 hx;have hji:j<i:=by simp at hj;omega
   rw[List.getElem_take]
   cases hh:(!okB (l[j]'(by omega)))with
   |false=>rfl
   |true=>exact absurd ⟨oM,hh⟩ (hmin j hji)
  exact⟨i,Dy l _ i hi hv hb,Kw l i hi hv (by simpa using hb)⟩
theorem PZ(v:Value)(l:List E)(B:Nat)(w:Wd)(hown:aG w B v l)(hl:l.length<=1000000000)(hw:wfL l)(hBw:B<=w.heap.size):
  ep 280 #[v,.func (.func 281) #[] #[]] w λe w'=>
   ∃v',e= .returned v'/\aG w' B v' (l.filter okB)/\w.grownBy w' v.ownBlock/\(v'.ownBlock=v.ownBlock):=by
 obtain⟨a0,c0,rfl,hr⟩:=hown.rd oM;have HO:=hD hown;clear hown;rcases Ux l with ⟨h1,h2⟩|⟨i,h1,h2⟩
 ·have H1:=hD h1;have H2:=hD h2;clear h1 h2;go_enter func280,ntmps280;go_wp2_with fail;refine(Ig l _ _ _ hr hw).m ?_;rintro e w1 ⟨rfl,hb1⟩;rw[H1.o];have HO1:=hD (HO.o.keep hb1);clear HO hr;go_wp2_with fail;go_ret;exact⟨_,rfl,by rw[H2.o];exact HO1.o,⟨hb1.os,hb1.tape,hb1.output,hb1.size,λk hk _=>hb1.block k hk⟩,rfl⟩
 ·have H1:=hD h1;have H2:=hD h2;have hi:=h2.jl;clear h1 h2;obtain⟨g,c,hv,hg1,hg2,hc1,hc2,_,_⟩:=(HO.o.form).resolve_left (by rintro⟨_,rfl⟩;simp at hi);simp only[Value.slice.injEq,true_and]at hv;obtain⟨rfl,rfl⟩:=hv;go_enter func280,ntmps280;go_wp2_with fail;refine(Ig l _ _ _ hr hw).m ?_;rintro e w1 ⟨rfl,hb1⟩;rw[H1.o];have HO1:=hD (HO.o.keep hb1);clear HO hr;have hne:((i:Int)== -1)=false:=by simp
  go_wp2_with fail;go_loopw [5,6] (λiv jv wr=>∃(M:List E) (i j:Nat),iv= .int .i64 i/\jv= .int .i64 j/\wU l M i j/\aG wr B (.slice (cw g 0) l c0) M/\w.grownBy wr (some g)) (λ_ j _=>l.length-(intOf j).toNat)
  case atStart=>exact⟨l,i,i+1,rfl,by go_num,H2.o,HO1.o,⟨hb1.os,hb1.tape,hb1.output,hb1.size,λk hk _=>hb1.block k hk⟩⟩
  case round=>
   clear HO1 H1 H2;obtain⟨M,i,j,rfl,rfl,hS,ho,hG⟩:=hrel;have hML:=hS.len;have hij:=hS.ij;have hjl:=hS.jl;by_cases hlt:j<l.length
   ·have hx0:=Tj hS hlt;have hwx:=hw _ (Qm hlt);have HS1:Hid (okB l[j]=false->wU l M i (j+1)):=hD (NY hS hlt);have HS2:Hid (okB l[j]=true->wU l (M.set i l[j]) (i+1) (j+1)):=hD (NZ hS hlt);obtain⟨_,_,hv,_,hg3,hcc,hcm,hgt,hfz⟩:=(ho.form).resolve_left (by rintro⟨_,rfl⟩;simp at hML;omega);simp only[Value.slice.injEq,Option.some.injEq,Addr.mk.injEq,and_true,true_and]at hv;obtain⟨rfl,hdrop,rfl⟩:=hv;clear hdrop;have hx1:=hgt j _ hx0;have hz1:=hgt i _ (Qa oM);generalize l[j]=x at *;generalize M[i]=z at *;obtain⟨x1,x2,x3⟩:=hx1;obtain⟨z1,z2,z3⟩:=hz1;simp only[Nat.zero_add]at x1 x2 x3 z1 z2 z3;have q1:=hfz (i*3);have q2:=hfz (i*3+1);have q3:=hfz (i*3+2);have HO1:=hD ho;clear ho hS hgt hfz hx0 hw;cases hp:okB x
    ·have HP:=hD hp;clear hp;go_wp2_with fail;refine(JQ x _ HP.o hwx _).m ?_;rintro e w2 ⟨rfl,hb2⟩;have hB2:=((bQ wr).aIw _).on hb2;have hG2:=hD (hG.behind hB2);go_wp2_with fail;go_roundw
     case rel=>exact⟨M,i,j+1,rfl,by go_num,HS1.o HP.o,HO1.o.keep hB2,hG2.o⟩
     case measure=>simp[intOf];omega
    ·have HP:=hD hp;clear hp;go_wp2_with fail;refine(JQ x _ HP.o hwx _).m ?_;rintro e w2 ⟨rfl,hb2⟩;have hB2:=((bQ wr).aIw _).on hb2;have x1:w2 (cw wr.heap.size 0)=x.a:=hb2.keep sM;have x2:w2 (cw wr.heap.size 1)=x.n:=hb2.keep sM;have x3:w2 (cw wr.heap.size 2)=x.s:=hb2.keep sM;have q1:=hB2.aJc z1 q1;have q2:=hB2.aJc z2 q2;have q3:=hB2.aJc z3 q3;have z1:=hB2.keep z1;have z2:=hB2.keep z2;have z3:=hB2.keep z3;clear hb2;go_wp2_with fail;have hst:=(HO1.o.keep hB2).put hML.symm i oM x;have T1:=hD hst.1;have T2:=hD ((hG.behind hB2).next hst.2);clear hst;go_roundw
     case rel=>exact⟨M.set i x,i+1,j+1,by go_num,by go_num,HS2.o HP.o,T1.o,T2.o⟩
     case measure=>simp[intOf];omega
   ·have HE:=hD (Tk hS oM);obtain⟨_,_,hv,_,hg3,hcc,hcm,hgt,hfz⟩:=(ho.form).resolve_left (by rintro⟨_,rfl⟩;simp at hML;omega);simp only[Value.slice.injEq,Option.some.injEq,Addr.mk.injEq,and_true,true_and]at hv;obtain⟨rfl,hdrop,rfl⟩:=hv;clear hdrop;have hcl:∀ty,(Builtin.clear_ #[52] ty #[.slice (cw g (i*3)) (l.length-i) (c0-i)]).run prog wr= .ok (.tuple #[]) (wr.setCells g (i*3) (List.replicate ((l.length-i)*3) oo)):=
     λty=>KJ wr _ 128 ty (.agg #[oo,oo,oo]) 3 oo underlying52 Tryz.zeroValue128 rfl dE rfl g (i*3) _ _ oM
      (λt ht=>by
       have hk:i+t/3<M.length:=oM
       obtain⟨k1,k2,k3⟩:=hgt (i+t/3) _ (Qa hk);simp only[Nat.zero_add]at k1 k2 k3;rcases(by omega:i*3+t=(i+t/3)*3∨i*3+t=(i+t/3)*3+1∨i*3+t=(i+t/3)*3+2)with e|e|e
       ·rw[e,k1];rfl
       ·rw[e,k2];rfl
       ·rw[e,k3];rfl)
      (λt ht=>hfz _)
    have HO1:=hD ho;clear ho hS hgt hfz;go_wp2_with fail;go_ret;have h1:=HO1.o;obtain⟨xs',h3,h4,h5⟩:=World.ownsRow.storedAll (w:=wr) (List.replicate ((l.length-i)*3) oo) wr _ (i*3) (show wr.ownsRow B 128 3 (.slice (cw g 0) l c0) l.length (bI M) by rw[<-hML]at h1 ⊢;exact h1);have h6:=World.ownsRow.short h3 (show i<=l.length by omega);refine⟨_,rfl,?_,hG.next h5,rfl⟩;rw[<-HE.o];unfold aG;rw[NK,<-h4,Yp,Yv oM];exact h6
theorem RQ:(prog.info? 3).map (λi=>(i.zero,i.size,i.bytes))=some (some (.int .i64 0),1,8):=kR
def jH(w:Wd)(b:Nat)(t:TypeId):Prop:= ∃cs s,w.heap[b]? =some (.cells cs t s)
theorem jH.keep{w w':Wd}{b:Nat}{t:TypeId}(hb:Below w w w')(h:jH w b t):jH w' b t:=by
 obtain⟨cs,s,h⟩:=h;exact⟨cs,s,(hb.block b (Array.getElem?_eq_some_iff.1 h).1).trans h⟩
theorem jH.set{w:Wd}{b:Nat}{t:TypeId}(h:jH w b t)(p:Addr)(u:Value):jH (w.setCell p u) b t:=by
 obtain⟨cs,s,h⟩:=h;by_cases e:b=p.block
 ·subst e;obtain⟨hlt,hk⟩:=Array.getElem?_eq_some_iff.1 h;refine⟨if p.spot.isSome then cs else cs.setIfInBounds p.off u,s,?_⟩;show(w.heap.modify p.block _)[p.block]? =_;rw[Array.getElem?_eq_getElem (by rw[Array.size_modify];exact hlt),Array.getElem_modify_self,hk]
 ·exact⟨cs,s,(Below.heap_setCell _ _ _ _ e).trans h⟩
theorem jH.ne{w:Wd}{b b':Nat}{t t':TypeId}(h:jH w b t)(h':jH w b' t')(hne:t≠t'):b≠b':=λe=>by
 subst e;obtain⟨cs,s,h⟩:=h;obtain⟨cs',s',h'⟩:=h';rw[h]at h';injection h' with h';injection h' with _ h';exact hne h'
def RdI(w:Wd)(a:OA)(C:List Int):Prop:=
 C.length<=65536/\(C=[]∨ ∃b o,a=cw b o/\jH w b 3/\ ∀k x,C[k]? =some x->w (cw b (o+k))=some (.int .i64 x))
def dG(w:Wd)(B:Nat)(v:Value)(C:List Int):Prop:=w.ownsRow B 3 1 v C.length (C.map (Value.int .i64))
theorem RdI.keep{w w':Wd}(h:Below w w w'){a:OA}{C:List Int}(hr:RdI w a C):RdI w' a C:=
 ⟨hr.1,hr.2.imp id λ⟨b,o,ha,ht,hat⟩=>⟨b,o,ha,ht.keep h,λk x hk=>h.keep (hat k x hk)⟩⟩
theorem RdI.at{w:Wd}{a:OA}{C:List Int}(hr:RdI w a C)(h:0<C.length):∃b o,a=cw b o/\ ∀k x,C[k]? =some x->w (cw b (o+k))=some (.int .i64 x):=by
 obtain⟨b,o,ha,_,hat⟩:=hr.2.resolve_left (by intro e;rw[e]at h;simp at h);exact⟨b,o,ha,hat⟩
theorem dG.nil(w:Wd)(B:Nat):dG w B sn []:=World.ownsRow_nil _ _ _ _
theorem dG.lt{w:Wd}{B:Nat}{v:Value}{C:List Int}(h:dG w B v C):∀k,v.ownBlock=some k->B<=k/\k<w.heap.size:=World.ownsRow.lt h
theorem dG.mono{w:Wd}{B B':Nat}{v:Value}{C:List Int}(h:dG w B v C)(hB:B'<=B):dG w B' v C:=
 ⟨h.1,h.2.imp id λ⟨g,cap,cur,hv,hg,r⟩=>⟨g,cap,cur,hv,Nat.le_trans hB hg,r⟩⟩
theorem dG.keep{w w':Wd}{B:Nat}{v:Value}{C:List Int}(h:dG w B v C)(hb:Below w w w'):dG w' B v C:=
 World.ownsRow.kept h (row:=none) ⟨hb.os,hb.tape,hb.output,hb.size,λk hk _=>hb.block k hk⟩ (by cases hv:v.ownBlock <;> simp)
theorem dG.other{w w':Wd}{B:Nat}{v:Value}{C:List Int}{row:Option Nat}(h:dG w B v C)(hg:w.grownBy w' row)(hne:v.ownBlock=none∨v.ownBlock≠row):dG w' B v C:=
 World.ownsRow.kept h hg hne
theorem dG.form{w:Wd}{B:Nat}{v:Value}{C:List Int}(h:dG w B v C):
  (v=sn/\C=[])∨ ∃g c,v= .slice (cw g 0) C c/\B<=g/\g<w.heap.size/\C.length<=c/\c<=maxLen/\(∀k x,C[k]? =some x->w (cw g k)=some (.int .i64 x))/\ ∀i,w.frozen? (cw g i)=false:=by
 exact sh39
theorem dG.cells{w:Wd}{B g c n:Nat}{C:List Int}(h:dG w B (.slice (cw g 0) n c) C):(∀k x,C[k]? =some x->w (cw g k)=some (.int .i64 x))/\ ∀i,w.frozen? (cw g i)=false:=by
 exact sh42
theorem dG.rd{w:Wd}{B:Nat}{v:Value}{C:List Int}(h:dG w B v C)(hl:C.length<=65536):∃a c,v= .slice a C c/\RdI w a C:=by
 rcases h.form with ⟨rfl,rfl⟩|⟨g,c,rfl,_,_,_,_,hat,_⟩
 ·exact⟨_,_,rfl,sM,.inl rfl⟩
 ·refine⟨_,_,rfl,hl,.inr ⟨g,0,rfl,?_,λk x hk=>by rw[Nat.zero_add];exact hat k x hk⟩⟩;rcases h.2 with ⟨h,_⟩|⟨g',cap,cur,h,_,hg,_⟩
  ·cases h
  ·injection h with h;injection h with h;injection h with h;subst h;exact⟨_,_,hg⟩
theorem dG.set{w:Wd}{B g c n:Nat}{C:List Int}(hn:n=C.length)(h:dG w B (.slice (cw g 0) n c) C)(k:Nat)(x:Int):
  dG (w.setCell (cw g k) x) B (.slice (cw g 0) n c) (C.set k x)/\w.grownBy (w.setCell (cw g k) x) (some g):=by
 subst hn;obtain⟨s1,g1⟩:=World.ownsRow.stored h k x;refine⟨?_,g1⟩;unfold dG;rw[List.length_set,List.map_set];exact s1
theorem Uo(n:Nat):(madeCells (Value.int .i64 0).cells (n*1)).toList=(List.replicate n (0:Int)).map (Value.int .i64):=by
 exact aAo
theorem dG.made{w:Wd}{B:Nat}{v:Value}{n:Nat}(h:w.ownsRow B 3 1 v n (madeCells (Value.int .i64 0).cells (n*1)).toList):dG w B v (List.replicate n 0):=by
 unfold dG;rw[Yt,<-Uo];exact h
theorem rG{w w':Wd}(h:w.grownBy w' none):Below w w w':=⟨h.os,h.tape,h.output,h.size,λk hk=>h.block k hk sM⟩
theorem aJ(w:Wd)(a:Addr)(u:Value):w.grownBy (w.setCell a u) (some a.block):=
 ⟨rfl,rfl,rfl,by simp[World.setCell],λk hk hne=>Below.heap_setCell _ _ _ _ (λe=>hne (by rw[e]))⟩
theorem dG.away{w:Wd}{B:Nat}{v:Value}{C:List Int}(h:dG w B v C)(a:Addr)(u:Value)(hne:v.ownBlock≠some a.block):dG (w.setCell a u) B v C:=
 h.other (aJ w a u) (.inr hne)
theorem aG.away{w:Wd}{B:Nat}{v:Value}{l:List E}(h:aG w B v l)(a:Addr)(u:Value)(hne:v.ownBlock≠some a.block):aG (w.setCell a u) B v l:=
 h.other (aJ w a u) (.inr hne)
theorem zA{w w':Wd}{row:Option Nat}(hg:w.grownBy w' row){a:Addr}{v:Value}(hc:w.cell? a=some v){b:Bool}(hf:w.frozen? a=b)(hne:some a.block≠row):w'.frozen? a=b:=by
 rw[World.frozen?_of_block (hg.block a.block (Qj w a hc) hne)];exact hf
theorem IP(D:List Int)(s p:Nat)(d:Int)(h:s<=p)(hp:p<D.length):oP D s d (p+1-s)=(oP D s d (p-s)).set p ((oP D s d (p-s)).getD p 0+d):=by
 rw[show p+1-s=(p-s)+1 by omega];simp only[oP];rw[show s+(p-s)=p by omega]
theorem getD_some(D:List Int)(p:Nat)(hp:p<D.length):D[p]? =some (D.getD p 0):=by
 rw[Ql,Qa hp];rfl
theorem RdI.source{w:Wd}{a:OA}{C:List Int}(h:RdI w a C):w.source 1 a C.length (C.map (Value.int .i64)):=by
 refine⟨sM,λu hu=>by obtain⟨x,_,rfl⟩:=Yd.1 hu;rfl,?_⟩;rcases h.2 with rfl|⟨b,o,rfl,_,hat⟩
 ·cases a with
  |none=>exact .inl ⟨rfl,rfl⟩
  |some ad=>exact .inr ⟨ad,rfl,λj u hu=>by simp at hu⟩
 ·refine .inr ⟨_,rfl,λj u hu=> ?_⟩;rw[Yw]at hu;obtain⟨x,hx,rfl⟩:=Option.map_eq_some_iff.1 hu;exact Oa
theorem dG.empty(w:Wd)(B:Nat)(hB:B<=w.heap.size):dG (w.alloc (cq #[] 3)) B (.slice (cw w 0) 0 0) []:=
 World.ownsRow_lit w #[] 0 hB sM rfl
theorem dG.append{w:Wd}{B n:Nat}{v:Value}{C D:List Int}(h:w.ownsRow B 3 1 v n (C.map (Value.int .i64)++D.map (Value.int .i64)))(hn:n=C.length+D.length):dG w B v (C++D):=by
 subst hn;unfold dG;rw[Yz,Qg];exact h
theorem aG.rd'{w:Wd}{B:Nat}{a:OA}{n c:Nat}{l:List E}(h:aG w B (.slice a n c) l)(hl:l.length<=46912496118443):Rd w a l:=by
 obtain⟨a',c',he,hr⟩:=h.rd hl;injection he with he;rw[he];exact hr
theorem rP(w:Wd){ops:Array Oper}{rest:List Oper}{o:Oper}{a:Act}{Q:Exit->Act->Wd->Prop}
  (hg:o.guard=none) (l c:Operand) (t:TypeId) (hop:o.op=Op.makeSlice t l c) (h1:prog.underlying t=some (.slice 3)) (kl kc:IntKind) (n:Nat) (hl:a.eval l= .int kl n) (hc:a.eval c= .int kc n) (hn:n<=65536) (B G:Nat) (hG:w.heap.size=G) (hB:B<=G)
  (hK:∀w',dG w' B (.slice (cw G 0) n n) (List.replicate n 0)->Below w w w'->G<w'.heap.size->wpList prog ops Q rest (a.put o.dst (.slice (cw G 0) n n)) w'):
  wpList prog ops Q (o::rest) a w:=by
 subst hG;obtain⟨i0,hi,hz0,hz1,hz2⟩:=info_parts RQ;refine wpList_make_full w hg l c t hop B 3 i0 oo 1 h1 hi hz0 hz1 kl kc n n n hl hc rfl rfl (by rw[hz2];omega) (by unfold maxLen;omega) hB λw' ho hgr=> ?_;refine hK w' (dG.made ho) (rG hgr) ?_;exact sh40
theorem FT(w:Wd){ops:Array Oper}{rest:List Oper}{o:Oper}{a:Act}{Q:Exit->Act->Wd->Prop}
  (hgd:o.guard=none) (d s:Operand) (dT sT:TypeId) (ho:o.op= .call {callee:= .builtin .copy,args:= #[d,s],argTypes:= #[dT,sT]}) (hu:prog.underlying dT=some (.slice 3))
  (B g n cap:Nat) (D C:List Int) (sp:OA) (sc:Nat) (hd:a.eval d= .slice (cw g 0) n cap) (hs:a.eval s= .slice sp n sc) (hown:dG w B (.slice (cw g 0) n cap) D) (hD:D.length=n) (hC:C.length=n) (hr:RdI w sp C)
  (h:∀w',dG w' B (.slice (cw g 0) n cap) C->w.grownBy w' (some g)->wpList prog ops Q rest (a.put o.dst (goInt n)) w'):
  wpList prog ops Q (o::rest) a w:=by
 have hsz:(prog.info? 3).map (·.size)=some 1:=kR
 subst hC;by_cases h0:C.length=0
 ·refine wpList_copy_nothing hgd d s dT sT ho 3 hu hsz _ _ _ _ _ _ hd hs (by simp[h0]) ?_;obtain rfl:C=[]:=Qz h0;obtain rfl:D=[]:=Qz hD;exact h w hown ⟨rfl,rfl,rfl,Ye _,λ_ _ _=>rfl⟩
 ·obtain ⟨b,off,rfl,hat⟩:=hr.at oM;rcases hown.2 with ⟨hv,_⟩|⟨g',cap',cur,hv,hbg,hg,hnc,hcm,hcs,htake⟩
  ·cases hv
  ·injection hv with e1 e2 e3;injection e1 with e1;injection e1 with e1;subst e1 e3;refine wpList_copy_own hgd d s dT sT ho 3 hu hsz g 0 _ _ (cw b off) _ _ hd hs cur 3 hg (C.map (Value.int .i64)) sM (λj v hj=> ?_) (by rw[Yy];omega) (λv hv=> ?_) ?_
   ·rw[Yw]at hj;obtain⟨x,hx,rfl⟩:=Option.map_eq_some_iff.1 hj;exact Oa
   ·obtain⟨x,_,rfl⟩:=Yd.1 hv;rfl
   ·rw[Yy];refine h _ ⟨sM,.inr ⟨g,cap,_,rfl,hbg,setRow_heap w g _ _ _ _ hg,oM,hcm,?_,?_⟩⟩ ⟨rfl,rfl,rfl,by simp[World.setRow],λk _ hk=>setRow_other w g k _ (λe=>hk (by simp[e]))⟩
    ·simp;omega
    ·simp
theorem aIk:(prog.info? 4).map (λi=>(i.zero,i.size,i.bytes))=some (some (.bool false),1,1):=kR
def qX(w:Wd)(B:Nat)(v:Value)(C:List Bool):Prop:=w.ownsRow B 4 1 v C.length (C.map (Value.bool))
theorem qX.keep{w w':Wd}{B:Nat}{v:Value}{C:List Bool}(h:qX w B v C)(hb:Below w w w'):qX w' B v C:=
 World.ownsRow.kept h (row:=none) ⟨hb.os,hb.tape,hb.output,hb.size,λk hk _=>hb.block k hk⟩ (by cases hv:v.ownBlock <;> simp)
theorem qX.form{w:Wd}{B:Nat}{v:Value}{C:List Bool}(h:qX w B v C):
  (v=sn/\C=[])∨ ∃g c,v= .slice (cw g 0) C c/\B<=g/\g<w.heap.size/\C.length<=c/\c<=maxLen/\(∀k x,C[k]? =some x->w (cw g k)=some (.bool x))/\ ∀i,w.frozen? (cw g i)=false:=by
 exact sh39
theorem qX.cells{w:Wd}{B g c n:Nat}{C:List Bool}(h:qX w B (.slice (cw g 0) n c) C):(∀k x,C[k]? =some x->w (cw g k)=some (.bool x))/\ ∀i,w.frozen? (cw g i)=false:=by
 exact sh42
theorem qX.set{w:Wd}{B g c n:Nat}{C:List Bool}(hn:n=C.length)(h:qX w B (.slice (cw g 0) n c) C)(k:Nat)(x:Bool):
  qX (w.setCell (cw g k) (.bool x)) B (.slice (cw g 0) n c) (C.set k x)/\w.grownBy (w.setCell (cw g k) (.bool x)) (some g):=by
 subst hn;obtain⟨s1,g1⟩:=World.ownsRow.stored h k (.bool x);refine⟨?_,g1⟩;unfold qX;rw[List.length_set,List.map_set];exact s1
theorem Pm(n:Nat):(madeCells (Value.bool false).cells (n*1)).toList=(List.replicate n false).map (Value.bool):=by
 exact aAo
theorem qX.made{w:Wd}{B:Nat}{v:Value}{n:Nat}(h:w.ownsRow B 4 1 v n (madeCells (Value.bool false).cells (n*1)).toList):qX w B v (List.replicate n false):=by
 unfold qX;rw[Yt,<-Pm];exact h
theorem PL(D:List Bool)(p:Nat)(hp:p<D.length):D[p]? =some (D.getD p false):=by
 rw[Ql,Qa hp];rfl
theorem FQ(w:Wd){ops:Array Oper}{rest:List Oper}{o:Oper}{a:Act}{Q:Exit->Act->Wd->Prop}
  (hg:o.guard=none) (l c:Operand) (t:TypeId) (hop:o.op=Op.makeSlice t l c) (h1:prog.underlying t=some (.slice 4)) (kl kc:IntKind) (n:Nat) (hl:a.eval l= .int kl n) (hc:a.eval c= .int kc n) (hn:n<=65536) (B G:Nat) (hG:w.heap.size=G) (hB:B<=G)
  (hK:∀w',qX w' B (.slice (cw G 0) n n) (List.replicate n false)->Below w w w'->G<w'.heap.size->wpList prog ops Q rest (a.put o.dst (.slice (cw G 0) n n)) w'):
  wpList prog ops Q (o::rest) a w:=by
 subst hG;obtain⟨i0,hi,hz0,hz1,hz2⟩:=info_parts aIk;refine wpList_make_full w hg l c t hop B 4 i0 false 1 h1 hi hz0 hz1 kl kc n n n hl hc rfl rfl (by rw[hz2];omega) (by unfold maxLen;omega) hB λw' ho hgr=> ?_;refine hK w' (qX.made ho) (rG hgr) ?_;exact sh40
theorem aAz(n:Nat)(w:Wd)(hn:n<=65536):
  ep 123 #[n] w λe w'=>∃v,e= .returned (.tuple #[.agg #[v],oo])/\dG w' w v (List.replicate n 0)/\Below w w w':=by
 go_enter func123,ntmps123
 go_wp2_with ((at_make;refine rP _ rfl _ _ 66 rfl underlying66 _ _ n rfl rfl oM w (cf w) sM oM ?_;intro w1 ho1 hb1 hz1;have hc:=hb1.keep (a:=(cw w 0)) (by simp;rfl);have hf:=hb1.aJc (a:=(cw w 0)) (by simp;rfl) (b:=false) sM))
 refine Yg (v:= .tuple #[.agg #[.slice (cw (cf w) 0) n n],oo]) ?_ rfl ⟨_,rfl,?_,?_⟩
 ·simp[results,results123,go_sem,hc,hf]
 ·have:=ho1.away (cw w 0) (.slice (cw (cf w) 0) n n) (by simp[Value.ownBlock])
  simpa using this
 ·exact((bR.aIw _).on hb1).setCell sM _
def pE(N:Nat)(x:E):Bool:=decide (1<=x.n/\0<=x.s/\x.s+x.n<=N)
theorem Ua(ok:Bool)(x:E)(a:OA)(N c b:Nat)(w:Wd)(hc:w (cw b 0)=some (.slice a N c))(hx:x.wf)(hN:N<=65536):
  ep 291 #[.bool ok,.agg #[x.a,x.n,x.s],.pointer (cw b 0)] w (RB w (.bool (ok&&pE N x))):=by
 obtain⟨_,⟨b3,b4⟩,⟨b5,b6⟩⟩:=hx;cases ok
 all_goals
  go_enter func291,ntmps291;go_wp2
  all_goals
   go_ret;exact⟨aU (by simp[pE];try omega),bL⟩
theorem yT(N:Nat)(l:List E)(k:Nat)(h:k<l.length):aQ N (l.take (k+1))=(aQ N (l.take k)&&pE N l[k]):=OL N l k h
theorem UH(l:List E)(a al:OA)(N c cl b:Nat)(w:Wd)(hc:w (cw b 0)=some (.slice a N c))(hN:N<=65536)(hr:Rd w al l)(hw:wfL l):
  ep 290 #[.slice al l cl,true,.func (.func 291) #[] #[.pointer (cw b 0)]] w (RB w (.bool (aQ N l))):=by
 have hlen:=hr.1;go_enter func290,ntmps290;go_wp2_with fail;go_loopw [1,11] (λr i wr=>∃k:Nat,k<=l.length/\i= .int .i64 k/\r= .bool (aQ N (l.take k))/\Below w w wr) (λ_ i _=>l.length-(intOf i).toNat)
 case atStart=>exact⟨0,Yf _,rfl,rfl,bR⟩
 case round=>
  obtain⟨k,hk,rfl,rfl,hB⟩:=hrel;by_cases hlt:k<l.length
  ·obtain⟨b,o,rfl,hat⟩:=(hr.keep hB).at oM;obtain⟨h1,h2,h3⟩:=hat k _ (Qa hlt);have HX:=hD (hw _ (Qm hlt));have HV:=hD (yT N l k hlt);have hcr:=hB.keep hc;generalize l[k]=x at *;generalize aQ N (l.take k)=p at *;clear hat hr hc;go_wp2_with fail;refine(Ua p x a N c _ _ (by simp[hcr]) HX.o hN).m ?_;rintro e w1 ⟨rfl,hb1⟩;go_wp2_with fail;go_roundw
   case rel=>exact⟨k+1,oM,by go_num,by rw[HV.o],(hB.aIw _).on hb1⟩
   case measure=>simp[intOf];omega
  ·go_wp2;go_ret;exact⟨aU (by rw[Qq oM]),hB⟩
theorem uB(C:List Int)(l:List E)(a al:OA)(c cl:Nat)(w:Wd)(hC:C.length<=65536)(hr:Rd w al l)(hw:wfL l)(r:Bool)(hp:aQ C.length l=r):
  ep 260 #[.agg #[.slice a C c],.slice al l cl] w (RB w (.bool r)):=by
 subst hp;go_enter func260,ntmps260;go_wp2_with fail;refine(UH l a al C.length c cl _ _ sM hC (hr.keep (bR.aIw _)) hw).m ?_;rintro e w1 ⟨rfl,hb1⟩;go_wp2_with fail;go_ret;exact⟨rfl,(bR.aIw _).on hb1⟩
theorem CZ(C:List Int)(l:List E)(d:Int)(a al:OA)(c cl:Nat)(w:Wd)(hrC:RdI w a C)(hr:Rd w al l)(hp:aQ C.length l=true)(hd: -1<=d/\d<=1)(hR:inR (-1000000000) 1000000000 C)(hl:l.length<=1000000000):
  ep 261 #[.agg #[.slice a C c],.slice al l cl,d] w λe w'=>∃v,e= .returned (.agg #[v])/\dG w' w v (eU C l d)/\Below w w w':=by
 have hC:=hrC.1;have hlen:=hr.1;have HP:=hD ((aP _ _).1 hp);have HR:=hD hR;clear hp hR;go_enter func261,ntmps261
 go_upto_region 2 with ((at_make;refine rP _ rfl _ _ 66 rfl underlying66 _ _ C.length rfl rfl oM w (ch w) sM oM ?_;intro w1 ho1 hb1 hz1;have hc0:=hb1.keep (a:=(cw w 0)) (by simp;rfl);have hc:=hb1.keep (a:=(cw (cf w) 0)) (by simp;rfl);have hf:=hb1.aJc (a:=(cw (cf w) 0)) (by simp;rfl) (b:=false) sM))
 have hrC1:=hrC.keep ((((bQ w).aIw (cq #[.slice a C c] 118)).aIw (cq #[sn] 118)).on hb1)
 go_wp2_with (refine FT _ rfl (.tmp 15) (.tmp 17) 66 66 rfl underlying66 w _ C.length _ (List.replicate C.length 0) C a c rfl rfl ho1 sM rfl hrC1 ?_;intro w2 ho2 hg2)
 have hc2:=hg2.cell hc sM;have hf2:=zA hg2 hc hf sM;have HB2:Below w w w2:=((((bQ w).aIw (cq #[.slice a C c] 118)).aIw (cq #[sn] 118)).on hb1).aJa hg2 aGb;have hgl:=(ho2.lt _ rfl).2;simp only[World.size_alloc]at hgl;clear ho1 hb1 hz1 hc0 hc hf hg2 hrC1 hrC;go_loopw [21] (λi wr=>∃k:Nat,k<=l.length/\i= .int .i64 k/\dG wr w (.slice (cw (ch w) 0) C C.length) (eU C (l.take k) d)/\w2.grownBy wr (some (w.heap.size+1+1))) (λi _=>l.length-(intOf i).toNat)
 case atStart=>exact⟨0,Yf _,rfl,ho2,World.grownBy.refl _ _⟩
 case round=>
  obtain⟨k,hk,rfl,ho,hg⟩:=hrel;have hB:=HB2.aJa hg aGb;by_cases hlt:k<l.length
  ·obtain ⟨b,o,rfl,hat⟩:=(hr.keep hB).at oM;obtain⟨h1,h2,h3⟩:=hat k _ (Qa hlt);obtain⟨p1,p2,p3⟩:=HP.o _ (Qm hlt);have HT:=hD (IC C l d k hlt);have HRk:=hD (gH (lo':= -2000000000) (hi':=2000000000) (Ff (l.take k) d hd C _ _ HR.o) sh55 sh55);have HL:=hD (eT C (l.take k) d);generalize l[k]=x at *;generalize eU C (l.take k) d=D at *;obtain⟨xa,xn,xs⟩:=x;simp only at h1 h2 h3 p1 p2 p3 HT;obtain⟨s,rfl⟩:=Qr p2;obtain⟨n,rfl⟩:=Qr (show 0<=xn by omega);simp only[Int.toNat_natCast]at HT;have HO:=hD ho;clear hat hr ho ho2;go_wp2_with fail;have hx1:(wr.alloc (cq #[xa,n,s] 128)).cell? (cw wr.heap.size 1)=n:=by simp
   have hx2:(wr.alloc (cq #[xa,n,s] 128)).cell? (cw wr.heap.size 2)=s:=by simp
   have hgW:w2.grownBy (wr.alloc (cq #[xa,n,s] 128)) (some (w.heap.size+1+1)):=World.grownBy.next hg (World.grownBy_alloc _ _ _);have HOW:=hD (HO.o.keep (bR.aIw (cq #[xa,n,s] 128)));have hne:¬ wr.heap.size=w.heap.size+1+1:=by have:=hg.size;omega
   generalize wr.alloc (cq #[xa,n,s] 128)=W0 at *;generalize wr.heap.size=X at *;clear HO hB hg;go_loopw [10] (λt wi=>∃p:Nat,s<=p/\p<=s+n/\t= .int .i64 p/\dG wi w (.slice (cw (ch w) 0) C C.length) (oP D s d (p-s))/\W0.grownBy wi (some (w.heap.size+1+1))) (λt _=>s+n-(intOf t).toNat)
   case atStart=>exact⟨s,Ye _,oM,rfl,by rw[Nat.sub_self];exact HOW.o,World.grownBy.refl _ _⟩
   case round=>
    obtain⟨p,hp1,hp2,rfl,hoi,hgi⟩:=hrel;have y1:=hgi.cell hx1 (by simpa using hne);have y2:=hgi.cell hx2 (by simpa using hne);have hgc:=World.grownBy.next hgW hgi;by_cases hlp:p<s+n
    ·have HLA:=hD (jU D s d (p-s));have hpl:p<D.length:=by have:=HL.o;omega
     have hpC:p<C.length:=by have:=HL.o;omega
     obtain⟨z1,z2⟩:=pM.1 HRk.o p hpl;have HG:=hD (Bj D s d (p-s) p hpl);have HS:=hD (IP D s p d hp1 hpl);have hcell:=hoi.cells.1 p _ (getD_some _ p (by rw[HLA.o];exact hpl));have hfree:=hoi.cells.2 p;have hv1: -2000000010<=(oP D s d (p-s)).getD p 0:=by rw[HG.o];split <;> omega
     have hv2:(oP D s d (p-s)).getD p 0<=2000000010:=by rw[HG.o];split <;> omega
     obtain⟨HO2,hg3⟩:=dG.set (by rw[HLA.o,HL.o]) hoi p ((oP D s d (p-s)).getD p 0+d);have HO2:=hD HO2;rw[<-HS.o]at HO2;have HG3:=hD (World.grownBy.next hgi hg3);generalize (oP D s d (p-s)).getD p 0=y at *;clear hoi hg3 HG;exact sh43
    ·obtain rfl:p=s+n:=oM
     rw[show s+n-s=n by omega]at hoi;have HOI:=hD hoi;clear hoi;go_wp2_with fail;go_roundw
     case rel=>exact⟨k+1,oM,by go_num,by rw[HT.o];exact HOI.o,hgc⟩
     case measure=>simp[intOf];omega
  ·have hc3:=hg.cell hc2 sM;have hf3:=zA hg hc2 hf2 sM;rw[Qq oM]at ho;go_wp2;refine Yg (v:= .agg #[.slice (cw (ch w) 0) C C.length]) ?_ rfl ⟨_,rfl,?_,?_⟩
   ·simp[results,results261,go_sem,hc3,hf3]
   ·have:=ho.away (cw (cf w) 0) (.slice (cw (ch w) 0) C C.length) (by simp[Value.ownBlock])
    simpa using this
   ·exact hB.setCell sM _
theorem UA{C:List Int}{lo hi:Int}(h:inR lo hi C){k:Nat}(hk:k<C.length):lo<=C[k]/\C[k]<=hi:=h _ (Qm hk)
theorem Rl{C:List Int}(h:inR 0 1000000000 C):0<=oZ C/\oZ C<=C.length:=Kg h
theorem Tf(a:OA)(n c:Nat)(w:Wd)(hn:n<=65536):
  ep 248 #[.agg #[.slice a n c]] w (RB w n):=by
 go_enter func248,ntmps248;go_wp2;go_ret;exact⟨rfl,bR.aIw _⟩
def ofC(C:List Int)(s:Int):Int:=if 0<=s/\s<C.length then C.getD s.toNat 0 else 0
theorem aGo(C:List Int)(a:OA)(c:Nat)(s:Int)(w:Wd)(hrC:RdI w a C):
  ep 215 #[.agg #[.slice a C c],s] w (RB w (ofC C s)):=by
 have hC:=hrC.1;by_cases hs:0<=s/\s<C.length
 ·obtain⟨h0,h1⟩:=hs;have HF:Hid (ofC C s=C.getD s.toNat 0):=hD (Qf ⟨h0,h1⟩);obtain⟨n,rfl⟩:=Qr h0;have hn:n<C.length:=oM
  obtain⟨b,o,rfl,hat⟩:=hrC.at oM;have hc:=hat n _ (getD_some C n hn);rw[Int.toNat_natCast]at HF;generalize C.getD n 0=x at *;clear hat hrC;go_enter func215,ntmps215;go_wp2;go_ret;exact⟨pG HF.o.symm,bR.aIw _⟩
 ·have HF:Hid (ofC C s=0):=hD (Qe hs);by_cases h0:s<0
  all_goals
   go_enter func215,ntmps215;go_wp2
   all_goals first|(exfalso;omega)|(go_ret;exact⟨pG HF.o.symm,bR.aIw _⟩)
theorem Sy(C:List Int)(l:List E)(a al:OA)(c cl:Nat)(w:Wd)(hrC:RdI w a C)(hr:Rd w al l)(hw:wfL l)(hp:aQ C.length l=true)(hR:inR 0 1000000000 C)(hl:l.length<=1000000000):
  ep 223 #[.agg #[.slice a C c],.slice al l cl] w λe w'=>∃v,e= .returned (.tuple #[.agg #[v],oo])/\dG w' w v (eU C l 1)/\Below w w w':=by
 have hC:=hrC.1;have HP:=hD hp;clear hp;go_enter func223,ntmps223;go_wp2_with fail;refine(uB C l a al c cl _ hC (hr.keep ?_) hw true HP.o).m ?_
 ·(repeat(first|exact bR|assumption|refine Below.aJd ?_ _|refine Below.aIw ?_ _|refine Below.setCell ?_ sM _|refine Below.drew ?_))
 rintro e w1 ⟨rfl,hb1⟩;have hc0:=hb1.keep (a:=(cw w 0)) (by simp;rfl);have hc:=hb1.keep (a:=(cw (cf w) 0)) (by simp;rfl);have hf:=hb1.aJc (a:=(cw (cf w) 0)) (by simp;rfl) (b:=false) sM;have hB1:Below w w w1:=(((bQ w).aIw _).aIw _).on hb1;have hz1:=hb1.size;simp only[World.size_alloc]at hz1;clear hb1;go_wp2_with fail;refine(CZ C l 1 a al c cl _ (hrC.keep hB1) (hr.keep hB1) HP.o oM (gH hR oM oM) hl).m ?_;rintro e w2 ⟨v,rfl,ho,hb2⟩;have hc:=hb2.keep hc;have hf:=hb2.aJc ‹w1 (cw (cf w) 0)=_› hf;have hB2:=hB1.on hb2;have ho:=(ho.mono (B':=w.heap.size+1+1) hz1);obtain⟨a2,c2,rfl,_⟩:=ho.rd (by rw[eT];exact hC);rw[eT]at ho ⊢;have HO:=hD ho;clear ho;go_wp2_with fail;refine Yg (v:= .tuple #[.agg #[.slice a2 C c2],oo]) ?_ rfl ⟨_,rfl,?_,?_⟩
 ·simp[results,results223,go_sem,hc,hf]
 ·exact(HO.o.away _ _ (λh=>by have:=(HO.o.lt _ h).1;simp at this;omega)).mono oM
 ·exact hB2.setCell sM _
theorem aHn(C:List Int)(l:List E)(a al:OA)(c cl:Nat)(w:Wd)(hC:C.length<=65536)(hr:Rd w al l)(hw:wfL l)(hp:aQ C.length l=false):
  ep 223 #[.agg #[.slice a C c],.slice al l cl] w (RB w (.tuple #[.agg #[sn],ow])):=by
 have HP:=hD hp;clear hp;go_enter func223,ntmps223;go_wp2_with fail;refine(uB C l a al c cl _ hC (hr.keep ?_) hw false HP.o).m ?_
 ·(repeat(first|exact bR|assumption|refine Below.aJd ?_ _|refine Below.aIw ?_ _|refine Below.setCell ?_ sM _|refine Below.drew ?_))
 rintro e w1 ⟨rfl,hb1⟩;have hc:=hb1.keep (a:=(cw (cf w) 0)) (by simp;rfl);have hf:=hb1.aJc (a:=(cw (cf w) 0)) (by simp;rfl) (b:=false) sM;have hB1:Below w w w1:=(((bQ w).aIw _).aIw _).on hb1;clear hb1;go_wp2_with fail;refine Yg (v:= .tuple #[.agg #[sn],ow]) ?_ rfl ⟨rfl,?_⟩
 ·simp[results,results223,go_sem,hc,hf]
 ·exact hB1.setCell sM _
def Gb(C:List Int):Bool:=C.any λx=>decide (x<0)
theorem Ug(C:List Int)(k:Nat)(h:k<C.length):Gb (C.take (k+1))=(Gb (C.take k)||decide (C[k]<0)):=by
 rw[Qh h];simp only[Gb,List.any_append,List.any_cons,List.any_nil,Bool.or_false]
theorem aBa(C:List Int)(k:Nat)(h:k<C.length)(hx:C[k]<0):Gb C=true:=List.any_eq_true.2 ⟨_,Qm h,Qo hx⟩
def ZZ(C:List Int)(w:Wd)(e:Ending)(w':Wd):Prop:= ∃r:Int,e= .returned (.int .i64 r)/\decide (0<=r)=Gb C/\Below w w w'
theorem Uw(C:List Int)(a:OA)(c:Nat)(w:Wd)(hrC:RdI w a C):
  ep 292 #[.slice a C c,.func (.func 263) #[] #[]] w (ZZ C w):=by
 have hC:=hrC.1;go_enter func292,ntmps292;go_wp2_with fail;go_loopw [8] (λi wr=>∃k:Nat,k<=C.length/\i= .int .i64 k/\Gb (C.take k)=false/\Below w w wr) (λi _=>C.length-(intOf i).toNat)
 case atStart=>exact⟨0,Yf _,rfl,rfl,bR⟩
 case round=>
  obtain⟨k,hk,rfl,hn,hB⟩:=hrel;by_cases hlt:k<C.length
  ·obtain ⟨b,o,rfl,hat⟩:=(hrC.keep hB).at oM;have h1:=hat k _ (Qa hlt);have HT:=hD (Ug C k hlt);have HA:=hD (aBa C k hlt);have HN:=hD hn;generalize C[k]=x at *;clear hat hrC hn;by_cases hx:x<0
   ·have hd:decide (x<0)=true:=by simpa using hx
    have HF:=hD (HA.o hx);clear hx HA;go_wp2;go_ret;exact⟨k,rfl,by rw[HF.o];simp,hB⟩
   ·have hd:decide (x<0)=false:=by simpa using hx
    have HD:=hD hd;clear hx HA;go_wp2;go_roundw
    case rel=>exact⟨k+1,oM,by go_num,by rw[HT.o,HN.o,HD.o];rfl,hB⟩
    case measure=>simp[intOf];omega
  ·have HN:=hD hn;clear hn;go_wp2;go_ret;refine⟨-1,rfl,?_,hB⟩;have:=HN.o;rw[Qq oM]at this;rw[this];rfl
theorem JF(C:List Int)(a:OA)(c:Nat)(w:Wd)(hrC:RdI w a C)(r:Bool)(hn:Gb C=r):
  ep 262 #[.slice a C c,.func (.func 263) #[] #[]] w (RB w (.bool r)):=by
 subst hn;go_enter func262,ntmps262;go_wp2_with fail;refine(Uw C a c _ hrC).m ?_;rintro e w1 ⟨r,rfl,hr,hb1⟩;have HR:=hD hr;clear hr;go_wp2_with fail;go_ret;exact⟨aU (by rw[<-HR.o]),hb1⟩
theorem Wx(n:Nat)(w:Wd)(hn:n<=65536):
  ep 94 #[n] w λe w'=>∃v,e= .returned (.tuple #[v,oo])/\dG w' w v (List.replicate n 0)/\Below w w w':=by
 go_enter func94,ntmps94
 go_wp2_with ((at_make;refine rP _ rfl _ _ 125 rfl underlying125 _ _ n rfl rfl oM w w rfl oM ?_;intro w1 ho1 hb1 hz1))
 go_ret2;exact⟨_,rfl,ho1,hb1⟩
def ZV(N:Nat)(l:List E)(w:Wd)(e:Ending)(w':Wd):Prop:=e= .returned (.bool (aQ N l))/\Below w w w'
theorem TZ(N:Nat)(l:List E)(k:Nat)(h:k<l.length)(hx:pE N l[k]=false):aQ N l=false:=by
 cases hp:aQ N l
 ·rfl
 ·have:=(aP _ _).1 hp _ (Qm h);simp[pE]at hx;omega
theorem Ef(N:Nat)(l:List E)(a al:OA)(c cl:Nat)(w:Wd)(hN:N<=65536)(hr:Rd w al l)(hw:wfL l):
  ep 134 #[.slice a N c,.slice al l cl] w (ZV N l w):=by
 have hlen:=hr.1;go_enter func134,ntmps134;go_wp2_with fail;go_loopw [5] (λi wr=>∃k:Nat,k<=l.length/\i= .int .i64 k/\aQ N (l.take k)=true/\Below w w wr) (λi _=>l.length-(intOf i).toNat)
 case atStart=>exact⟨0,Yf _,rfl,rfl,bR⟩
 case round=>
  obtain⟨k,hk,rfl,hp,hB⟩:=hrel;by_cases hlt:k<l.length
  ·obtain ⟨b,o,rfl,hat⟩:=(hr.keep hB).at oM;obtain⟨h1,h2,h3⟩:=hat k _ (Qa hlt);have HX:=hD (hw _ (Qm hlt));have HV:=hD (yT N l k hlt);have HBad:=hD (TZ N l k hlt);have HP:=hD hp;have hk0:(0:Int)<=k:=oM
   have hk1:(k:Int)<l.length:=oM
   generalize l[k]=x at *;clear hat hr hp;obtain⟨_,⟨b3,b4⟩,⟨b5,b6⟩⟩:=HX.o;by_cases d1:x.n<1
   ·have HF:Hid (pE N x=false):=hD (by simp[pE];omega);have e1:decide (x.n<1)=true:=Qo d1;exact sh38
   ·have e1:decide (x.n<1)=false:=Qp d1;by_cases d2:x.s<0
    ·have HF:Hid (pE N x=false):=hD (by simp[pE];omega);have e2:decide (x.s<0)=true:=Qo d2;exact sh38
    ·have e2:decide (x.s<0)=false:=Qp d2;by_cases d3:(N:Int)<=x.s
     ·have HF:Hid (pE N x=false):=hD (by simp[pE];omega);have e3:decide ((N:Int)<=x.s)=true:=Qo d3;exact sh38
     ·have e3:decide ((N:Int)<=x.s)=false:=Qp d3;by_cases d4:(N:Int)-x.s<x.n
      ·have HF:Hid (pE N x=false):=hD (by simp[pE];omega);have e4:decide ((N:Int)-x.s<x.n)=true:=Qo d4;exact sh38
      ·have HF:Hid (pE N x=true):=hD (by simp[pE];omega);have e4:decide ((N:Int)-x.s<x.n)=false:=Qp d4;go_wp2_with fail;refine wpr ?_
       repeat(go_big_quiet_step (fail))
       refine wqn λnq=> ?_;go_wp2_with fail;go_roundw
       case rel=>exact⟨k+1,oM,by go_num,by rw[HV.o,HP.o,HF.o];rfl,hB.aJd _⟩
       case measure=>simp[intOf];omega
  ·have HP:=hD hp;clear hp;go_wp2;go_ret;refine⟨aU ?_,hB⟩;have:=HP.o;rw[Qq oM]at this;rw[this]
theorem Jb(C:List Int)(l:List E)(d:Int)(a al:OA)(c cl:Nat)(w:Wd)(hrC:RdI w a C)(hr:Rd w al l)(hp:aQ C.length l=true)(hd: -1<=d/\d<=1)(hR:inR (-1000000000) 1000000000 C)(hl:l.length<=1000000000):
  ep 135 #[.slice a C c,.slice al l cl,d] w λe w'=>∃v,e= .returned v/\dG w' w v (eU C l d)/\Below w w w':=by
 have hC:=hrC.1;have hlen:=hr.1;have HP:=hD ((aP _ _).1 hp);have HR:=hD hR;have H0:=hD (dG.empty w w (Ye _));have HS:=hD ((hrC.keep (bR.aIw (cq #[] 3))).source);obtain⟨i0,hi,hz0,hz1,hz2⟩:=info_parts RQ;clear hp hR;go_enter func135,ntmps135
 go_upto_region 2 with (at_builtin;refine dB _ rfl _ _ 125 rfl w.heap.size 3 i0 oo 1 8 underlying125 hi hz0 hz1 hz2 rfl dE (.slice (cw w 0) 0 0) _ _ rfl H0.o _ _ _ _ rfl HS.o (by simp only[List.length_nil];omega) (by simp only[maxLen,List.length_nil];omega) sh54 ?_;intro v1 w1 hown1 hgrow1 hwhere1)
 have ho:=dG.append (C:=[]) hown1 sM;rw[List.nil_append]at ho;have HB:=((bQ w).aIw (cq #[] 3)).aJa hgrow1 (λj hj=>(H0.o.lt j hj).1);obtain⟨g,c1,rfl,hg1,hg2,_⟩:=ho.form.resolve_left (by rintro⟨rfl,_⟩;simp[Value.ownBlock]at hwhere1);have HO:=hD ho;clear hown1 hgrow1 hwhere1 ho hrC;go_wp2_with fail;go_loopw [8] (λi wr=>∃k:Nat,k<=l.length/\i= .int .i64 k/\dG wr w (.slice (cw g 0) C c1) (eU C (l.take k) d)/\w1.grownBy wr (some g)) (λi _=>l.length-(intOf i).toNat)
 case atStart=>exact⟨0,Yf _,rfl,HO.o,World.grownBy.refl _ _⟩
 case round=>
  obtain⟨k,hk,rfl,ho,hg⟩:=hrel;have hB:=HB.aJa hg aGb;by_cases hlt:k<l.length
  ·obtain ⟨b,o,rfl,hat⟩:=(hr.keep hB).at oM;obtain⟨h1,h2,h3⟩:=hat k _ (Qa hlt);obtain⟨p1,p2,p3⟩:=HP.o _ (Qm hlt);have HT:=hD (IC C l d k hlt);have HRk:=hD (gH (lo':= -2000000000) (hi':=2000000000) (Ff (l.take k) d hd C _ _ HR.o) sh55 sh55);have HL:=hD (eT C (l.take k) d);have hbb:¬ b=g:=by
    obtain⟨b',o',he,hat'⟩:=hr.at oM;injection he with he;injection he with he;subst he;have:=Qj w _ (hat' k _ (Qa hlt)).n;simp at this;omega
   have hk0:(0:Int)<=k:=oM
   have hk1:(k:Int)<l.length:=oM
   generalize l[k]=x at *;generalize eU C (l.take k) d=D at *;obtain⟨xa,xn,xs⟩:=x;simp only at h1 h2 h3 p1 p2 p3 HT;obtain⟨s,rfl⟩:=Qr p2;obtain⟨n,rfl⟩:=Qr (show 0<=xn by omega);simp only[Int.toNat_natCast]at HT;have HOW:=hD ho;have hgW:=hg;clear hat ho hr hg HO;go_wp2_with fail;obtain⟨W0,rfl⟩:∃W0:Wd,W0=wr:=⟨_,rfl⟩;go_loopw [9] (λt wi=>∃p:Nat,s<=p/\p<=s+n/\t= .int .i64 p/\dG wi w (.slice (cw g 0) C c1) (oP D s d (p-s))/\W0.grownBy wi (some g)) (λt _=>s+n-(intOf t).toNat)
   case atStart=>exact⟨s,Ye _,oM,rfl,by rw[Nat.sub_self];exact HOW.o,World.grownBy.refl _ _⟩
   case round=>
    obtain⟨p,hp1,hp2,rfl,hoi,hgi⟩:=hrel;have y1:=hgi.cell h2 (by simpa using hbb);have y2:=hgi.cell h3 (by simpa using hbb);by_cases hlp:p<s+n
    ·have hlpb:decide ((p:Int)< ↑s+ ↑n)=true:=Qo oM;have HLA:=hD (jU D s d (p-s));have hpl:p<D.length:=by have:=HL.o;omega
     have hpC:p<C.length:=by have:=HL.o;omega
     have HS2:=hD (IP D s p d hp1 hpl);have HG:=hD (Bj D s d (p-s) p hpl);have HOI:=hD hoi;have HGI:=hD hgi;obtain⟨z1,z2⟩:=pM.1 HRk.o p hpl;clear hoi hgi;go_wp2_with fail;refine wpr ?_
     repeat(go_big_quiet_step (fail))
     refine wqn λnq=> ?_;generalize hW:World.next _ nq=W1;have hb1:Below wr wr W1:=by rw[<-hW];exact World.aIy _ _
     have hoi1:=HOI.o.keep hb1;have hcell:=hoi1.cells.1 p _ (getD_some _ p (by rw[HLA.o];exact hpl));have hfree:=hoi1.cells.2 p;have hv1: -2000000010<=(oP D s d (p-s)).getD p 0:=by rw[HG.o];split <;> omega
     have hv2:(oP D s d (p-s)).getD p 0<=2000000010:=by rw[HG.o];split <;> omega
     obtain⟨HO2,hg3⟩:=dG.set (by rw[HLA.o,HL.o]) hoi1 p ((oP D s d (p-s)).getD p 0+d);have HO2:=hD HO2;rw[<-HS2.o]at HO2;have HG3:=hD (World.grownBy.next (World.grownBy.behind HGI.o hb1) hg3);generalize (oP D s d (p-s)).getD p 0=y at *;clear hoi1 hg3 HG hW hb1 y1 y2;exact sh43
    ·have hlpb:decide ((p:Int)< ↑s+ ↑n)=false:=Qp oM;obtain rfl:p=s+n:=oM
     rw[show s+n-s=n by omega]at hoi;have HOI:=hD hoi;have HGI:=hD hgi;clear hoi hgi hlp;go_wp2_with fail;refine wpr ?_
     repeat(go_big_quiet_step (fail))
     refine wqn λnq=> ?_;generalize hW:World.next _ nq=W1;have hb1:Below wr wr W1:=by rw[<-hW];exact World.aIy _ _
     have HO2:=hD (HOI.o.keep hb1);have HG2:=hD (World.grownBy.next hgW (World.grownBy.behind HGI.o hb1));clear hW hb1 y1 y2;go_wp2_with fail;go_roundw
     case rel=>exact⟨k+1,oM,by go_num,by rw[HT.o];exact HO2.o,HG2.o⟩
     case measure=>simp[intOf];omega
  ·rw[Qq oM]at ho;go_wp2;go_ret;exact⟨_,rfl,ho,hB⟩
theorem FX(N:Nat)(l:List E)(a al:OA)(c cl:Nat)(w:Wd)(hN:N<=65536)(hr:Rd w al l)(hw:wfL l)(r:Bool)(hp:aQ N l=r):
  ep 134 #[.slice a N c,.slice al l cl] w (RB w (.bool r)):=by
 subst hp;exact Ef N l a al c cl w hN hr hw
theorem WS(C:List Int)(l:List E)(a al:OA)(c cl:Nat)(w:Wd)(hrC:RdI w a C)(hr:Rd w al l)(hw:wfL l)(hp:aQ C.length l=true)(hR:inR 0 1000000000 C)(hl:l.length<=1000000000):
  ep 95 #[.slice a C c,.slice al l cl] w λe w'=>∃v,e= .returned (.tuple #[v,oo])/\dG w' w v (eU C l 1)/\Below w w w':=by
 have hC:=hrC.1;have HP:=hD hp;clear hp;go_enter func95,ntmps95;go_wp2_with fail;refine(FX C.length l a al c cl _ hC hr hw true HP.o).m ?_;rintro e w1 ⟨rfl,hb1⟩;go_wp2_with fail;refine(Jb C l 1 a al c cl _ (hrC.keep hb1) (hr.keep hb1) HP.o oM (gH hR oM oM) hl).m ?_;rintro e w2 ⟨v,rfl,ho,hb2⟩;go_wp2_with fail;go_ret2;exact⟨_,rfl,ho.mono hb1.size,hb1.on hb2⟩
theorem Tx(C:List Int)(a:OA)(c:Nat)(w:Wd)(hrC:RdI w a C)(hR:inR 0 1000000000 C):
  ep 195 #[.slice a C c] w (RB w (oZ C)):=by
 have hC:=hrC.1;go_enter func195,ntmps195;go_wp2_with fail;go_loopw [3,4] (λr i wr=>∃k:Nat,k<=C.length/\i= .int .i64 k/\r= .int .i64 (oZ (C.take k))/\Below w w wr) (λ_ i _=>C.length-(intOf i).toNat)
 case atStart=>exact⟨0,Yf _,rfl,rfl,bR⟩
 case round=>
  obtain⟨k,hk,rfl,rfl,hB⟩:=hrel;by_cases hlt:k<C.length
  ·obtain ⟨b,o,rfl,hat⟩:=(hrC.keep hB).at oM;have h1:=hat k _ (Qa hlt);have HT:=hD (DY C k hlt);obtain⟨x1,x2⟩:=UA hR hlt;obtain⟨s1,s2⟩:=Rl (NJ hR k);have hle:(C.take k).length<=65536:=Nat.le_trans (List.length_take_le _ _) oM;generalize C[k]=x at *;generalize oZ (C.take k)=sm at *;clear hat hrC;have hsm:sm<=65536:=oM
   have hk0:(0:Int)<=k:=oM
   have hk1:(k:Int)<C.length:=oM
   by_cases h0:0<x
   ·have hd:decide (0<x)=true:=Qo h0;go_wp2;go_roundw
    case rel=>exact⟨k+1,oM,by go_num,by rw[HT.o,Int.min_eq_right oM],bL⟩
    case measure=>simp[intOf];omega
   ·have hd:decide (0<x)=false:=Qp h0;go_wp2;go_roundw
    case rel=>exact⟨k+1,oM,by go_num,by rw[HT.o,Int.min_eq_left oM,show x=0 by omega];go_num,bL⟩
    case measure=>simp[intOf];omega
  ·go_wp2;go_ret;exact⟨pG (by rw[Qq oM]),hB⟩
def marks(f:Nat->Bool)(k n:Nat):List Bool:=(List.range n).map λi=>decide (i<k)&&f i
theorem NW(C:List Int)(l:List E)(a al:OA)(c cl:Nat)(w:Wd)(hrC:RdI w a C)(hr:Rd w al l)(hw:wfL l):
  ep 91 #[.agg #[.slice a C c],.slice al l cl] w (RB w (bF C l)):=by
 have hC:=hrC.1;have hlen:=hr.1;have HWF:=hD hw;clear hw;go_enter func91,ntmps91
 go_upto_region 2 with ((at_make;refine FQ _ rfl _ _ 75 rfl underlying75 _ _ C.length rfl rfl oM w (cf w) sM oM ?_;intro w1 ho1 hb1 hz1))
 have hc1:=hb1.keep (a:=(cw w 0)) (by simp;rfl);have hB1:=((bQ w).aIw (cq #[.slice a C c] 118)).on hb1;rw[<-LC]at ho1;obtain⟨g,hg⟩:∃g,g=w.heap.size+1:=⟨_,rfl⟩;rw[<-hg]at ho1 ⊢;have hgw:w.heap.size<g:=oM
 have HG:=hD hg;clear hb1 hg;go_wp2_with fail;go_loopw [6,17] (λnv i wr=>∃k:Nat,k<=l.length/\i= .int .i64 k/\nv= .int .i64 (aK (λi=>oC (l.take k) i&&bN C i) C.length)/\qX wr w (.slice (cw g 0) C C.length) (mk (oC (l.take k)) C.length)/\w1.grownBy wr (some g)) (λ_ i _=>l.length-(intOf i).toNat)
 case atStart=>exact⟨0,Yf _,rfl,by rw[dK];rfl;intro i _;rfl,ho1,World.grownBy.refl _ _⟩
 case round=>
  obtain⟨k,hk,rfl,rfl,ho,hgr⟩:=hrel;have hB:=hB1.aJa hgr aGb;have hcr:=hgr.cell hc1 pO;by_cases hlt:k<l.length
  ·obtain ⟨b,o,rfl,hat⟩:=(hr.keep hB).at oM;obtain⟨h1,h2,h3⟩:=hat k _ (Qa hlt);obtain⟨⟨b1,b2⟩,⟨b3,b4⟩,⟨b5,b6⟩⟩:=HWF.o _ (Qm hlt);have HLT:=hD (Pp l k hlt);generalize l[k]=x at *;generalize hLL:oC (l.take k)=L at *;have har:=iX (λi=>L i&&bN C i) C.length;obtain⟨T,hT⟩:∃T:Int,T=if 1<=x.n then min (C.length:Int) (x.s+x.n)else 0:=⟨_,rfl⟩;obtain⟨s0,hs0⟩:∃s0:Nat,(s0:Int)=max x.s 0:=⟨(max x.s 0).toNat,oM⟩;have HTT:=hD hT;have HS0:=hD hs0;have HO:=hD ho;have HGR:=hD hgr;clear hat hr ho hgr hLL hT hs0 ho1;generalize hnn:aK (λi=>L i&&bN C i) C.length=nn at *;have HNN:=hD hnn;clear hnn;have hts:(0:Int)<=s0/\(s0:Int)<=9223372036854775807:=by have:=HS0.o;omega
   have hss:(s0:Int)<=max x.s 0/\max x.s 0<=(s0:Int):=by have:=HS0.o;omega
   have htN:T<=C.length:=by have:=HTT.o;split at this <;> omega
   by_cases hx:1<=x.n
   ·have ht1:T<=x.s+x.n:=by have:=HTT.o;rw[Qf hx]at this;omega
    have ht3:x.s+x.n<=T∨(C.length:Int)<=T:=by have:=HTT.o;rw[Qf hx]at this;omega
    by_cases hs:x.s<0
    ·have d1:decide (x.s<0)=true:=Qo hs;go_wp2_with fail
     all_goals
      have hsz:=(HO.o.lt g rfl).2;have hgW:w1.grownBy (wr.alloc (cq #[x.a,x.n,x.s] 128)) (some g):=World.grownBy.next HGR.o (World.grownBy_alloc _ _ _);have HOW:=hD (HO.o.keep (bR.aIw (cq #[x.a,x.n,x.s] 128)));have hst:(0:Int)=s0:=by have:=HS0.o;omega
      have HST:=hD hst;clear hst;generalize wr.alloc (cq #[x.a,x.n,x.s] 128)=W0 at *;have HGW:=hD hgW;clear hgW hsz;go_loopw [6,10] (λnv t wi=>∃p:Nat,s0<=p/\((p:Int)<=T∨p=s0)/\t= .int .i64 p/\nv= .int .i64 (aK (λi=>fZ L s0 p i&&bN C i) C.length)/\qX wi w (.slice (cw g 0) C C.length) (mk (fZ L s0 p) C.length)/\w1.grownBy wi (some g)) (λ_ t _=>(T-(match t with| .int _ n=>n|_=>0)).toNat)
      case atStart=>
       exact sh37
      case round=>
       exact sh47
    ·have d1:decide (x.s<0)=false:=Qp hs;by_cases hbig:(C.length:Int)<=x.s
     ·exact sh34
     ·go_wp2_with fail
      all_goals
       have hsz:=(HO.o.lt g rfl).2;have hgW:w1.grownBy (wr.alloc (cq #[x.a,x.n,x.s] 128)) (some g):=World.grownBy.next HGR.o (World.grownBy_alloc _ _ _);have HOW:=hD (HO.o.keep (bR.aIw (cq #[x.a,x.n,x.s] 128)));have hst:(x.s:Int)=s0:=by have:=HS0.o;omega
       have HST:=hD hst;clear hst;generalize wr.alloc (cq #[x.a,x.n,x.s] 128)=W0 at *;have HGW:=hD hgW;clear hgW hsz;go_loopw [6,10] (λnv t wi=>∃p:Nat,s0<=p/\((p:Int)<=T∨p=s0)/\t= .int .i64 p/\nv= .int .i64 (aK (λi=>fZ L s0 p i&&bN C i) C.length)/\qX wi w (.slice (cw g 0) C C.length) (mk (fZ L s0 p) C.length)/\w1.grownBy wi (some g)) (λ_ t _=>(T-(match t with| .int _ n=>n|_=>0)).toNat)
       case atStart=>
        exact sh37
       case round=>
        exact sh47
   ·have ht1:T<=0:=by have:=HTT.o;rw[Qe hx]at this;omega
    have ht3:0<=T:=by have:=HTT.o;rw[Qe hx]at this;omega
    by_cases hs:x.s<0
    ·have d1:decide (x.s<0)=true:=Qo hs;go_wp2_with fail
     all_goals
      have hsz:=(HO.o.lt g rfl).2;have hgW:w1.grownBy (wr.alloc (cq #[x.a,x.n,x.s] 128)) (some g):=World.grownBy.next HGR.o (World.grownBy_alloc _ _ _);have HOW:=hD (HO.o.keep (bR.aIw (cq #[x.a,x.n,x.s] 128)));have hst:(0:Int)=s0:=by have:=HS0.o;omega
      have HST:=hD hst;clear hst;generalize wr.alloc (cq #[x.a,x.n,x.s] 128)=W0 at *;have HGW:=hD hgW;clear hgW hsz;go_loopw [6,10] (λnv t wi=>∃p:Nat,s0<=p/\((p:Int)<=T∨p=s0)/\t= .int .i64 p/\nv= .int .i64 (aK (λi=>fZ L s0 p i&&bN C i) C.length)/\qX wi w (.slice (cw g 0) C C.length) (mk (fZ L s0 p) C.length)/\w1.grownBy wi (some g)) (λ_ t _=>(T-(match t with| .int _ n=>n|_=>0)).toNat)
      case atStart=>
       exact sh37
      case round=>
       obtain⟨p,hp1,hp2,rfl,rfl,hoi,hgi⟩:=hrel;have hBi:=hB1.aJa hgi aGb;have hci:=hgi.cell hc1 pO;by_cases hlp:(p:Int)<T
       ·exfalso;omega
       ·exact sh35
    ·have d1:decide (x.s<0)=false:=Qp hs;by_cases hbig:(C.length:Int)<=x.s
     ·exact sh34
     ·exact sh34
  ·rw[Qq oM];go_wp2;go_ret;exact⟨rfl,hB⟩
end Go.Proofs.YtphfgbbbejloaaaGreatDoor
