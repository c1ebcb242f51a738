/- tegularef48: Cut; what a cut keeps. Conditions: as each theorem says. -/
import Derived.Test.YtphfgbbbejloaaaGreatDoorMgD
set_option linter.unusedSimpArgs false
set_option linter.unusedVariables false
set_option maxRecDepth 100000
set_option maxHeartbeats 16000000
namespace Go.Proofs.YtphfgbbbejloaaaGreatDoor
open Go.RowKit Go.Maps
open Go.Proofs.Tryz
theorem aDf {P:Prop} (h:P:=by
  clear hm hpl hcur;go_enter func14,ntmps14;go_upto_region 1 with fail;generalize (w.alloc (.cells #[.int .i64 s.F.N,.slice va vn vc,.slice da s.F.N dc,.slice pa ps.length pc] 34)).alloc (.cells #[.int .i64 0,.slice none 0 0,.slice none 0 0,.slice none 0 0] 34)=W at HC ⊢;obtain⟨⟨m0,m1,m2,m3,-⟩,⟨r0,r1,r2,r3,f0,f1,f2,f3,-⟩,-⟩:=HC.o;go_wp2_with fail;obtain⟨j0,j1,j2,j3,-⟩:=HC.o.rb.rep (.int .i64 s.F.N) (.slice va vn vc) (.slice da s.F.N dc) (.slice pa ps.length pc);refine br (.tuple #[.agg #[.int .i64 s.F.N,.slice va vn vc,.slice da s.F.N dc,.slice pa ps.length pc],.int .i64 2]) ?_;exact MC.done HC.o (HM.o.keep HC.o.g) hc.o
  ):P:=h
section
variable {α:Type}
theorem aBz {m g:Mo α} (hr:FL m g) (k:Int):(lC g k).2=(lC m k).2/\FL (lC m k).1 (lC g k).1:=by
 unfold lC;rw[hr.past.length];by_cases q:k<0∨(m.past.length:Int)<k
 ·rw[Qf q,Qf q];exact⟨rfl,hr⟩
 ·rw[Qe q,Qe q];refine⟨rfl,?_,trivial⟩;have hl:=hr.past.length;by_cases e:k.toNat<m.past.length
  ·rw[Qa e,Qa oM];exact hr.past.get (Qa e) (Qa oM)
  ·rw[List.getElem?_eq_none oM,List.getElem?_eq_none oM];exact hr.cur
theorem ML {m:Mo α} (hm:m.fine) (k:Int):(lC m k).1.fine:=by
 unfold lC
 split
 ·exact hm
 ·refine⟨?_,sM⟩;simp only
  cases h:m.past[k.toNat]? with
  |none=>exact hm.cur
  |some s=>exact hm.past s (List.mem_of_getElem? h)
end
def ZU (m:Mo Bk) (j:Int) (w:Wd) (e:Ending) (w':Wd):Prop:=
 ∃p pa pc ps,e= .returned (.tuple #[rmV p pa ps.length pc,.int .i64 (lC m j).2])/\RMd w' p pa ps (lC m j).1/\Below w.heap.size w w'
structure MC (w W:Wd) (u0 u1 u2 u3:Value):Prop where
 mb:Bx4 W w.heap.size 34 u0 u1 u2 u3
 rb:Bx4 W (w.heap.size+1) 34 (.int .i64 0) (.slice none 0 0) (.slice none 0 0) (.slice none 0 0)
 g:Below w.heap.size w W
theorem MC.init (w:Wd) (u0 u1 u2 u3:Value) (W:Wd) (hW:W=(w.alloc (.cells #[u0,u1,u2,u3] 34)).alloc (.cells #[.int .i64 0,.slice none 0 0,.slice none 0 0,.slice none 0 0] 34)):MC w W u0 u1 u2 u3:=by
 subst hW;have h1:=(bQ w).aIw (.cells #[u0,u1,u2,u3] 34);have o1:=Bx4.new w _ rfl u0 u1 u2 u3 34;have z1:(w.alloc (.cells #[u0,u1,u2,u3] 34)).heap.size=w.heap.size+1:=by simp
 generalize w.alloc (.cells #[u0,u1,u2,u3] 34)=W1 at *;have h2:=(bQ W1).aIw (.cells #[.int .i64 0,.slice none 0 0,.slice none 0 0,.slice none 0 0] 34);exact⟨o1.aIx h2,Bx4.new W1 _ z1 _ _ _ _ _,h1.on h2⟩
theorem MC.done {w W:Wd} {u0 u1 u2 u3:Value} (h:MC w W u0 u1 u2 u3) {p:RS} {pa:OA} {pc:Nat} {ps:List RS} {m m':Mo Bk} {j x:Int} (hm:RMd W p pa ps m') (hc:lC m j=(m',x)):
  ZU m j w (.returned (.tuple #[.agg #[.int .i64 p.s.F.N,.slice p.va p.vn p.vc,.slice p.da p.s.F.N p.dc,.slice pa ps.length pc],.int .i64 x])) (vT W (w.heap.size+1) (.int .i64 p.s.F.N) (.slice p.va p.vn p.vc) (.slice p.da p.s.F.N p.dc) (.slice pa ps.length pc)):=by
 unfold ZU;rw[hc];have hg:=fK W (w.heap.size+1) (.int .i64 p.s.F.N) (.slice p.va p.vn p.vc) (.slice p.da p.s.F.N p.dc) (.slice pa ps.length pc);exact⟨p,pa,pc,ps,rfl,hm.grownT (h.rb.odN yG (fun j d e=>by cases e) (fun j d e=>by cases e)) h.rb.ty NN hg,(((h.g.setCell sO _).setCell sO _).setCell sO _).setCell sO _⟩
theorem Wz (p0:RS) (pa:OA) (pc:Nat) (ps:List RS) (m:Mo Bk) (j:Int) (w:Wd) (hm:RMd w p0 pa ps m):
  Calls prog 14 #[rmV p0 pa ps.length pc,.int .i64 j] w (ZU m j w):=by
 obtain⟨va,vn,vc,da,dc,s⟩:=p0;have hpl:ps.length=m.past.length:=by rw[<-hm.past,Yy]
 have hcur:s=m.cur:=hm.cur;have HC:=hD (MC.init w (.int .i64 s.F.N) (.slice va vn vc) (.slice da s.F.N dc) (.slice pa ps.length pc) _ rfl);have HM:=hD hm;by_cases q1:j<0
 ·have hc:Hid (lC m j=(m,2)):=hD (by unfold lC;rw[Qf (.inl q1)]);have q2:decide (j<0)=true:=Qo q1;exact aDf
 ·have q2:decide (j<0)=false:=Qp q1;by_cases q3:(ps.length:Int)<j
  ·have hc:Hid (lC m j=(m,2)):=hD (by unfold lC;rw[Qf (.inr oM)]);have q4:decide (j>(ps.length:Int))=true:=Qo q3;exact aDf
  ·have q4:decide (j>(ps.length:Int))=false:=Qp oM;obtain⟨i,rfl⟩:=Qr (show 0<=j by omega);by_cases q5:i=ps.length
   ·have hc:Hid (lC m i=(⟨s,[]⟩,0)):=hD (by
     unfold lC;rw[Qe oM,Int.toNat_natCast,List.getElem?_eq_none oM,hcur]
     rfl)
    have q6:((i:Int)==(ps.length:Int))=true:=by simp;omega
    clear hm hpl hcur q3;subst q5;go_enter func14,ntmps14;go_upto_region 1 with fail;generalize (w.alloc (.cells #[.int .i64 s.F.N,.slice va vn vc,.slice da s.F.N dc,.slice pa ps.length pc] 34)).alloc (.cells #[.int .i64 0,.slice none 0 0,.slice none 0 0,.slice none 0 0] 34)=W at HC ⊢;obtain⟨⟨m0,m1,m2,m3,-⟩,⟨r0,r1,r2,r3,f0,f1,f2,f3,-⟩,-⟩:=HC.o;go_wp2_with fail;obtain⟨j0,j1,j2,j3,-⟩:=HC.o.rb.rep (.int .i64 s.F.N) (.slice va vn vc) (.slice da s.F.N dc) (.slice none 0 0);refine br (.tuple #[.agg #[.int .i64 s.F.N,.slice va vn vc,.slice da s.F.N dc,.slice none 0 0],.int .i64 0]) ?_;exact MC.done (ps:=[]) HC.o ⟨rfl,rfl,RSt.keep HM.o.st HC.o.g,mI.nil _ _,by intro z hz;simp at hz⟩ hc.o
   ·have hi:i<ps.length:=oM
    obtain ⟨q,hq⟩:∃ q,ps[i]? =some q:=⟨ps[i],Qa hi⟩;have hc:Hid (lC m i=(⟨q.s,[]⟩,0)):=hD (by
     unfold lC;rw[Qe oM,Int.toNat_natCast,<-HM.o.past,Yw,hq]
     rfl)
    have q6:((i:Int)==(ps.length:Int))=false:=by simp;omega
    have hq0:(0:Int)<=i:=oM
    have hq1:(i:Int)<ps.length:=oM
    have hrow:=HM.o.row.keep HC.o.g;obtain⟨g,o,hpa,hat⟩:=hrow.at oM;have HPA:=hD hpa;obtain⟨n0,n1,n2⟩:=hat i q hq;have HQ:=hD (HM.o.all q (List.mem_of_getElem? hq));obtain⟨va',vn',vc',da',dc',s'⟩:=q;simp only at n0 n1 n2;have HN:=hD (show _/\_/\_ from⟨n0,n1,n2⟩);clear hm hpl hcur q3 q5 hat hrow hq hi n0 n1 n2 hpa;go_enter func14,ntmps14;go_upto_region 1 with fail;generalize (w.alloc (.cells #[.int .i64 s.F.N,.slice va vn vc,.slice da s.F.N dc,.slice pa ps.length pc] 34)).alloc (.cells #[.int .i64 0,.slice none 0 0,.slice none 0 0,.slice none 0 0] 34)=W at HC HN ⊢;obtain rfl:=HPA.o;clear HPA;obtain⟨⟨m0,m1,m2,m3,-⟩,⟨r0,r1,r2,r3,f0,f1,f2,f3,-⟩,-⟩:=HC.o;obtain⟨n0,n1,n2⟩:=HN.o;go_wp2_with fail;clear n0 n1 n2 HN;obtain⟨j0,j1,j2,j3,-⟩:=HC.o.rb.rep (.int .i64 s'.F.N) (.slice va' vn' vc') (.slice da' s'.F.N dc') (.slice none 0 0);refine br (.tuple #[.agg #[.int .i64 s'.F.N,.slice va' vn' vc',.slice da' s'.F.N dc',.slice none 0 0],.int .i64 0]) ?_;exact MC.done (p:=⟨va',vn',vc',da',dc',s'⟩) (ps:=[]) HC.o ⟨rfl,rfl,RSt.keep HQ.o HC.o.g,mI.nil _ _,by intro z hz;simp at hz⟩ hc.o
theorem UZ (m:Mo Bk) (k:Int) (h:m.past.length<=20):(lC m k).1.past.length<=20:=by
 unfold lC
 split
 ·exact h
 ·simp
theorem aHw (n:Nat) (L:List CV) (a:OA) (c:Nat) (k:Int) (w:Wd) (hn:n<=255) (hr:FM w a L) (hk:gJ k):
  Calls prog 4 #[.int .u8 n,.slice a L.length c,.int .i64 k] w (RB w (.bool true)):=by
 have HR0:=hD hr;go_enter func4,ntmps4;go_wp2_with fail;refine(Fz _).m ?_;rintro e w1 ⟨rfl,hb⟩;have hr1:=hr.keep hb;have HB1:=hD hb;clear hb hr;obtain⟨q,hq⟩:∃ q,(Dk L&&decide (L.length<=20))=q:=⟨_,rfl⟩;go_wp2_with fail;refine(GM L a c 20 _ hr1 oM q hq).m ?_;rintro e w2 ⟨rfl,hb⟩;have hr2:=hr1.keep hb;have HB2:=hD (HB1.o.on hb);clear hb hr1 HB1;cases q
 ·clear hq hr2;go_wp2_with fail;go_ret;exact⟨rfl,HB2.o⟩
 ·obtain ⟨h1,h2⟩:=Bool.and_eq_true_iff.1 hq;have h3:=Qt h2;have HFEW:=hD h1;clear hq h2;go_wp2_with fail;refine(Ic n L a c _ hn hr2 h1 oM).m ?_;rintro e w3 ⟨X,m,g,p,pa,pc,ps,rfl,hm,hg,hs,fm,fg,hpl,hx,hb⟩;obtain⟨va,vn,vc,da,dc,s⟩:=p;have hk3:=hb.aIw (.cells #[.int .i64 s.F.N,.slice va vn vc,.slice da s.F.N dc,.slice pa ps.length pc] 34);have hk4:=(bQ w3).aIw (.cells #[.int .i64 s.F.N,.slice va vn vc,.slice da s.F.N dc,.slice pa ps.length pc] 34);have HC:=hD (BQ.mk (w:=w) (m:=m) (g:=g) (p:=⟨va,vn,vc,da,dc,s⟩) (hm.aIx hk4) (Bx4.new w3 _ rfl (.int .i64 s.F.N) (.slice va vn vc) (.slice da s.F.N dc) (.slice pa ps.length pc) 34) (hg.keep hk4) hs fm fg (HB2.o.on hk3) (by have:=HB2.o.size;omega) (HB2.o.on hb).size (Nat.ne_of_lt hm.lt));have HP0:Hid (m.past.length<=20):=hD oM;have HL:=hD h3;clear hb hk3 hk4 hm hg hs fm fg hpl hx hr2 HB2 h1 h3;unfold rmV;simp only;go_upto_region 8 with fail;generalize w3.alloc (.cells #[.int .i64 s.F.N,.slice va vn vc,.slice da s.F.N dc,.slice pa ps.length pc] 34)=W3 at HC ⊢;generalize w3.heap.size=T3 at HC ⊢;obtain⟨b0,b1,b2,b3,-⟩:=HC.o.bx;simp only at b0 b1 b2 b3;go_wp2_with fail;refine(Wz ⟨va,vn,vc,da,dc,s⟩ pa pc ps g k _ HC.o.rm).m ?_;rintro e w4 ⟨p2,qa,qc,qs,rfl,hg2,hb⟩;obtain⟨va2,vn2,vc2,da2,dc2,s2⟩:=p2;have hcs:=aBz HC.o.sim k;rw[hcs.1];obtain⟨er,her⟩:∃ y,(lC m k).2=y:=⟨_,rfl⟩;have HER:=hD her;rw[her];have hk5:=hb.aIw (.cells #[.int .i64 s2.F.N,.slice va2 vn2 vc2,.slice da2 s2.F.N dc2,.slice qa qs.length qc] 34);have hk6:=(bQ w4).aIw (.cells #[.int .i64 s2.F.N,.slice va2 vn2 vc2,.slice da2 s2.F.N dc2,.slice qa qs.length qc] 34);have HT:Hid (X<w4.heap.size):=hD (HC.o.mo.aIx hb).lt;have HM4:=hD (HC.o.mo.aIx hk5);have HB4:=hD (Bx4.new w4 _ rfl (.int .i64 s2.F.N) (.slice va2 vn2 vc2) (.slice da2 s2.F.N dc2) (.slice qa qs.length qc) 34);have HG4:=hD (hg2.keep hk6);have HK4:=hD (HC.o.g.on hk5);have HS4:=hD hcs.2;have HF4:=hD (ML HC.o.fm k);have HG5:=hD (ML HC.o.fg k);have HP4:=hD (UZ m k HP0.o);have HX:=hD HC.o.ge;have HTL:Hid (w.heap.size<=w4.heap.size):=hD (HC.o.g.on hb).size;clear hcs her hb hk5 hk6 hg2 b0 b1 b2 b3 HC;unfold rmV;simp only;go_upto_region 9 with fail;generalize w4.alloc (.cells #[.int .i64 s2.F.N,.slice va2 vn2 vc2,.slice da2 s2.F.N dc2,.slice qa qs.length qc] 34)=W4 at HM4 HB4 HG4 HK4 ⊢;have HXT:Hid (X≠w4.heap.size):=hD (by have:=HT.o;omega);generalize w4.heap.size=T4 at HB4 HXT HTL ⊢;go_wp2_with fail;refine(RN X m k _ HM4.o hk).m ?_;rintro e w5 ⟨rfl,hm,hg⟩;rw[HER.o];have HM5:=hD hm;have HB5:=hD (HB4.o.grown hg (fun e=>by injection e with e;exact HXT.o e));have HG6:=hD (HG4.o.grown HM4.o.mx hg);have HK5:=hD (HK4.o.aJa hg (fun j e=>by injection e with e;have:=HX.o;omega));clear hm hg HB4 HG4 HK4;obtain⟨b0,b1,b2,b3,-⟩:=HB5.o;go_wp2_with fail;refine(Ev X _ _ ⟨va2,vn2,vc2,da2,dc2,s2⟩ qa qc qs _ HM5.o HG6.o HS4.o HF4.o HG5.o).m ?_;rintro e w6 ⟨rfl,hb⟩;have HM6:=hD (HM5.o.aIx hb);have HB6:=hD (HB5.o.aIx hb);have HG7:=hD (HG6.o.keep hb);have HK6:=hD (HK5.o.on hb);clear hb b0 b1 b2 b3 HM5 HB5 HG6 HK5;go_upto_region 11 with fail;generalize hm5:(lC m k).1=m5 at *;generalize hg5:(lC g k).1=g5 at *;clear hm5 hg5;have HBQ0:Hid (BQ w w6 X m5 g5 T4 ⟨va2,vn2,vc2,da2,dc2,s2⟩ qa qc qs):=hD ⟨HM6.o,HB6.o,HG7.o,HS4.o,HF4.o,HG5.o,HK6.o,HX.o,HTL.o,HXT.o⟩;clear HM6 HB6 HG7 HS4 HF4 HG5 HK6 HX HTL HXT HM4 HER HT;go_wp2_with fail;go_loopw [12] (fun i wr=>∃ (k:Nat) (m g:Mo Bk) (va:OA) (vn vc:Nat) (da:OA) (dc:Nat) (s:MSt Bk) (pa:OA) (pc:Nat) (ps:List RS),k<=L.length/\i= .int .i64 k/\Hid (m.past.length<=20+k)/\Hid (BQ w wr X m g T4 ⟨va,vn,vc,da,dc,s⟩ pa pc ps)) (fun i _=>L.length-(intOf i).toNat)
  case atStart=>exact⟨0,m5,g5,va2,vn2,vc2,da2,dc2,s2,qa,qc,qs,Yf _,rfl,hD (by have:=HP4.o;omega),HBQ0⟩
  case round=>
   clear HBQ0;obtain⟨k,m,g,va,vn,vc,da,dc,s,pa,pc,ps,hk,rfl,HPL,HBQ⟩:=hrel;by_cases hlt:k<L.length
   ·as_aux_lemma=>
    have HRW:=hD (HR0.o.keep HBQ.o.g);obtain⟨gb,go,rfl,hat⟩:=HRW.o.at oM;have hcm:=hat k _ (Qa hlt);have hfit:=HRW.o.2.1 _ (Qm hlt);have hfew:=MB HFEW.o (Qm hlt);have hgb:gb<w.heap.size:=by
     obtain⟨gb',go',he,hat'⟩:=HR0.o.at (show 0<L.length by omega);have he:=Qv he;have e1:gb=gb':=congrArg Addr.block he;rw[e1];exact Qj w ⟨gb',_,none⟩ (hat' k _ (Qa hlt)).c0
    have hmemx:=Qm hlt;generalize L[k]=x at *;obtain⟨⟨tag,kind,order,force,vol,oth,cp,cn,data⟩,xa,xk⟩:=x;simp only at hfew;have HCM:=hD hcm;have HFT:=hD hfit.fit;have HDT:=hD (hfit.dat sO);have HRXA:Hid (RdB w xa data):=hD ((HR0.o.2.1 _ hmemx).dat sO);have HGB:=hD hgb;have HFW:=hD hfew;have hk0:(0:Int)<=k:=oM
    have hk1:(k:Int)<L.length:=oM
    clear hat hcm hfit hgb hfew HRW hmemx;have hk12:=(bQ wr).aIw (.cells #[.int .i64 0,.int .i64 0,.slice none 0 0] 44);have HB5:=hD (HBQ.o.aIx hk12);have HY5:=hD (Bx3.new wr _ rfl (.int .i64 0) (.int .i64 0) (.slice none 0 0) 44);have HC5:Hid (yC _ gb go k ⟨⟨tag,kind,order,force,vol,oth,cp,cn,data⟩,xa,xk⟩):=hD (HCM.o.keep hk12);have HD5:=hD (HDT.o.keep hk12);have HTT:Hid (T4<wr.heap.size/\w.heap.size<=wr.heap.size/\X<wr.heap.size/\w.heap.size<=T4/\w.heap.size<=X/\X≠T4):=hD ⟨HBQ.o.bx.lt,HBQ.o.g.size,HBQ.o.mo.mx.lt,HBQ.o.tx,HBQ.o.ge,HBQ.o.ne⟩;clear hk12 HBQ HCM HDT;go_upto_region 15 with fail;generalize wr.alloc (.cells #[.int .i64 0,.int .i64 0,.slice none 0 0] 44)=W5 at *;generalize wr.heap.size=T12 at *;obtain⟨r,hr⟩:∃ r,kW Bk.zero g.cur (⟨tag,kind,order,force,vol,oth,cp,cn,data⟩:Cmd Bk)=r:=⟨_,rfl⟩;have HRM:=hD (show kW Bk.zero m.cur (⟨tag,kind,order,force,vol,oth,cp,cn,data⟩:Cmd Bk)=r from by
     obtain⟨σ,hσ⟩:=HB5.o.sim.cur;rw[<-hr]
     exact(KR hσ HB5.o.fm.cur HB5.o.fg.cur _).symm)
    have hgpl:g.past.length<=10000:=by
     have h1:=HB5.o.sim.past.length;have h2:=HPL.o;have h20:=HL.o;omega
    have hmpl:m.past.length<=10000:=by have h2:=HPL.o;have h20:=HL.o;omega
    have HAP:=hD (fun W h1 h2=>Cy ⟨va,vn,vc,da,dc,s⟩ pa pc ps g ⟨tag,kind,order,force,vol,oth,cp,cn,data⟩ xa xk W h1 HB5.o.fg hgpl HFT.o h2);have HMP:=hD (fun W h1 h2=>yX X m ⟨tag,kind,order,force,vol,oth,cp,cn,data⟩ xa xk W h1 HB5.o.fm hmpl HFT.o h2 (fun e=>by have:=HFW.o.2 e;show cn<=255;omega));unfold FN at HAP;unfold JY at HMP;rw[hr]at HAP;rw[HRM.o]at HMP;unfold cmV at HAP HMP;simp only at HAP HMP;obtain⟨rt,re,rD⟩:=r;simp only at HAP HMP;clear hgpl hmpl hr
    go_cut [] from 51 to 59 (fun wx=>∃ (W9:Wd) (g':Mo Bk) (va':OA) (vn' vc':Nat) (da':OA) (dc':Nat) (s':MSt Bk) (pa':OA) (pc':Nat) (ps':List RS) (a2:OA) (k2:Nat),W9=wx/\Hid (Ap Bk.zero g ⟨tag,kind,order,force,vol,oth,cp,cn,data⟩ g')/\Hid (BM w W9 X m g' T4 ⟨va',vn',vc',da',dc',s'⟩ pa' pc' ps' T12 ⟨rt,re,rD⟩ a2 k2 False)/\Hid (yC W9 gb go k ⟨⟨tag,kind,order,force,vol,oth,cp,cn,data⟩,xa,xk⟩)/\Hid (FL m g)/\Hid m.fine/\Hid g.fine)
    case first=>
     as_aux_lemma=>
     have HBd:=hD (HB5.o.aIx (bQ W5).drew);have HYd:=hD (HY5.o.aIx (bQ W5).drew);have HCd:=hD (HC5.o.keep (bQ W5).drew);have HDd:=hD (HD5.o.keep (bQ W5).drew);refine wp_region_held_drew (S:=fun W=>yC W gb go k ⟨⟨tag,kind,order,force,vol,oth,cp,cn,data⟩,xa,xk⟩) kR HCd.o (fun hHeld=> ?_);generalize W5.drew=wd at *;clear HB5 HY5 HC5 HD5;refine etk 1 ?_;refine etk 2 ?_;refine etk 3 ?_;refine etk 4 ?_;obtain⟨e0,e1,e2,e3,-⟩:=HBd.o.bx;simp only at e0 e1 e2 e3;refine rdy 0 fun K hK=> ?_;go_simp;refine hK.out _ _ HCd.o (fun hHeld=> ?_);clear hK K
     try simp only[Act.put,sp]
     clear e0 e1 e2 e3;refine rdy 5 fun K hK=> ?_;go_simp;refine(HAP.o _ HBd.o.rm HDd.o).m ?_;rintro e w6 ⟨⟨va',vn',vc',da',dc',s'⟩,pa',pc',ps',g',a2,k2,rfl,hap,hrm,hrd,hb⟩;simp only;have HAPG:=hD hap;have HRM6:=hD hrm;have HRD6:=hD hrd;have HB6:=hD (HBd.o.aIx hb);have HY6:=hD (HYd.o.aIx hb);have HC6:=hD (HCd.o.keep hb);have HD6:=hD (HDd.o.keep hb);clear hap hrm hrd hb HBd HYd HCd HDd HAP;refine hK.out _ _ HC6.o (fun hHeld=> ?_);clear hK K
     try simp only[Act.put,sp]
     refine etk 6 ?_;refine etk 7 ?_;refine etk 8 ?_;obtain⟨e0,e1,e2,e3,e4,e5,e6,e7,-⟩:=HB6.o.bx;simp only at e0 e1 e2 e3;have hg4:=fK w6 T4 (.int .i64 s'.F.N) (.slice va' vn' vc') (.slice da' s'.F.N dc') (.slice pa' ps'.length pc');have HY7:=hD (HY6.o.grown hg4 (fun e=>by injection e with e;have:=HTT.o;omega));have HC7:=hD (HC6.o.grown hg4 (by have:=HTT.o;have:=HGB.o;omega));have HC8:=hD (HC7.o.grown (dY (vT w6 T4 (.int .i64 s'.F.N) (.slice va' vn' vc') (.slice da' s'.F.N dc') (.slice pa' ps'.length pc')) T12 (.int .i64 rt) (.int .i64 re) (.slice a2 rD.length k2)) (by have:=HTT.o;have:=HGB.o;omega));have HCM:=hD (BM.of (r:=⟨rt,re,rD⟩) (k2:=k2) (pc:=pc') HB6.o.mo HB6.o.bx HRM6.o HY6.o HRD6.o False.elim HB6.o.g HTT.o.2.2.2.2.1 HTT.o.2.2.2.1 HTT.o.2.2.2.2.2 HTT.o.2.2.1 HTT.o.1);have HSIM:=hD HB6.o.sim;have HFM:=hD HB6.o.fm;have HFG:=hD HB6.o.fg;clear hg4;refine rdy 9 fun K hK=> ?_;go_simp;refine hK.out _ _ HC7.o (fun hHeld=> ?_);clear hK K
     try simp only[Act.put,sp]
     clear e0 e1 e2 e3 e4 e5 e6 e7;obtain⟨e0,e1,e2,e4,e5,e6,-⟩:=HY7.o;refine rdy 10 fun K hK=> ?_;go_simp;refine hK.out _ _ HC8.o (fun hHeld=> ?_);clear hK K
     try simp only[Act.put,sp]
     refine wpAnyH_done kR ?_ _;clear e0 e1 e2 e4 e5 e6 HY7 HC7 HB6 HY6 HC6 HRM6 HRD6 HD6;go_wp2_with fail;go_meet;exact⟨_,g',va',vn',vc',da',dc',s',pa',pc',ps',a2,k2,rfl,HAPG,HCM,HC8,HSIM,HFM,HFG⟩
    case rest=>
     obtain⟨W9,g',va',vn',vc',da',dc',s',pa',pc',ps',a2,k2,rfl,HAPG,HCM,HC9,HSIM,HFM,HFG⟩:=hcut;go_upto_region 16 with fail;have HBd:=hD (HCM.o.aIx (bQ W9).drew);have HCd:=hD (HC9.o.keep (bQ W9).drew);have HRX:=hD (HRXA.o.keep HBd.o.g);refine wp_region_held_drew (S:=fun W=>yC W gb go k ⟨⟨tag,kind,order,force,vol,oth,cp,cn,data⟩,xa,xk⟩/\Bx3 W T12 44 (.int .i64 rt) (.int .i64 re) (.slice a2 rD.length k2)) kR ⟨HCd.o,HBd.o.yb⟩ (fun hHeld=> ?_);generalize W9.drew=wd at *;clear HCM HC9;refine ftk 0 ?_;refine ftk 1 ?_;refine ftk 2 ?_;refine ftk 3 ?_;refine ftk 4 ?_;refine ftk 6 ?_;refine rdy 5 fun K hK=> ?_;go_simp;refine(HMP.o _ HBd.o.mo HRX.o).m ?_;rintro e w6 ⟨a3,k3,m',rfl,hap,hmo,hrd,hgr⟩;have HAPM:=hD hap;have HB6:=hD (HBd.o.went hmo hgr);have HC6:=hD (HCd.o.grown hgr (by have h1:=HGB.o;have h2:=HBd.o.x1;omega));have HRD6:=hD hrd;clear hap hmo hrd hgr HBd HCd HMP;refine hK.out _ _ ⟨HC6.o,HB6.o.yb⟩ (fun hHeld=> ?_);clear hK K
     try simp only[Act.put,sp]
     refine rdy 7 fun K hK=> ?_;go_simp;refine(yF ⟨rt,re,rD⟩ a3 a2 k3 k2 _ HRD6.o HB6.o.dat).m ?_;rintro e w7 ⟨rfl,hb⟩;have HB7:=hD (HB6.o.aIx hb);have HC7:=hD (HC6.o.keep hb);clear hb HB6 HC6 HRD6;refine hK.out _ _ ⟨HC7.o,HB7.o.yb⟩ (fun hHeld=> ?_);clear hK K
     try simp only[Act.put,sp]
     refine ftk 8 ?_;refine wpAnyH_done kR ?_ _;have h20:=HL.o;go_wp2_with fail;go_roundw
     case rel=>exact⟨k+1,m',g',va',vn',vc',da',dc',s',pa',pc',ps',oM,by go_num,hD (by have h1:=HAPM.o.past;have h2:=HPL.o;have h20:=HL.o;omega),hD ⟨HB7.o.mo,HB7.o.bx,HB7.o.rm,Ap.sim HSIM.o HFM.o HFG.o HAPM.o HAPG.o,HAPM.o.fine HFM.o (fun e=>by have:=HFW.o.2 e;show cn<=255;omega),HAPG.o.fine HFG.o (fun e=>by have:=HFW.o.2 e;show cn<=255;omega),HB7.o.g,by have:=HB7.o.x1;omega,by have:=HB7.o.t1;omega,HB7.o.n1⟩⟩
     case measure=>simp[intOf];omega
   ·as_aux_lemma=>
    obtain rfl:k=L.length:=oM
    go_upto_region 18 with fail;obtain⟨c0,c1,c2,c3,-⟩:=HBQ.o.bx;simp only at c0 c1 c2 c3;have HSA:=hD (fun W h1 h2=>Ev X m g ⟨va,vn,vc,da,dc,s⟩ pa pc ps W h1 h2 HBQ.o.sim HBQ.o.fm HBQ.o.fg);unfold rmV at HSA;simp only at HSA;go_wp2_with fail;refine(HSA.o _ HBQ.o.mo HBQ.o.rm).m ?_;rintro e w9 ⟨rfl,hb⟩;have HE:=hD (HBQ.o.g.on hb);clear hb HBQ c0 c1 c2 c3;go_wp2_with fail;go_ret;exact⟨rfl,HE.o⟩
end Go.Proofs.YtphfgbbbejloaaaGreatDoor
