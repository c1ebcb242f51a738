/-
  The specification tegularef34: New, permitted, changed, Add, Of, Used, Total.
  The specification tegularef34: Add, Of, Used, Total, runs, Zero, Drop.
  The specification tegularef34: Drop.
  refcount.Single.
  Conditions: as each theorem says.
-/
import Derived.Test.YtaiklhbakldfhaaGreatGF
import Derived.Test.YtaiklhbakldfhaaGreatGA
namespace Go.Proofs.YtaiklhbakldfhaaGreat
open Go.Lib (hid)
set_option linter.unusedSimpArgs false
set_option linter.unusedVariables false
set_option maxRecDepth 100000
set_option maxHeartbeats 16000000
open Go.RowKit
theorem bDp (n:Nat) (w:World) (hn:n<=65536):
  Calls Tryz.prog 144 #[.int .i64 n] w fun e w'=>∃ v,e= .returned (.tuple #[v,.int .i64 0])/\dE w' w.heap.size v (List.replicate n 0)/\Below w.heap.size w w':=by
 go_enter Tryz.func144,Tryz.ntmps144
 go_wp2_with ((at_make;refine rV _ rfl _ _ 179 rfl Tryz.underlying179 _ _ n rfl rfl (by omega) w.heap.size w.heap.size rfl (by omega) ?_;intro w1 ho1 hb1 hz1))
 go_ret2;exact⟨_,rfl,ho1,hb1⟩
def bHq (N:Nat) (l:List E) (w:World) (e:Ending) (w':World):Prop:=e= .returned (.bool (aS N l))/\Below w.heap.size w w'
theorem bAm (N:Nat) (l:List E) (k:Nat) (h:k<l.length) (hx:pK N l[k]=false):aS N l=false:=by
 cases hp:aS N l
 ·rfl
 ·have:=(aO _ _).1 hp _ (List.getElem_mem h);simp[pK]at hx;omega
theorem aFt (N:Nat) (l:List E) (a al:Option Addr) (c cl:Nat) (w:World) (hN:N<=65536) (hr:Rd w al l) (hw:wfL l):
  Calls Tryz.prog 191 #[.slice a N c,.slice al l.length cl] w (bHq N l w):=by
 have hlen:=hr.1;go_enter Tryz.func191,Tryz.ntmps191;go_wp2_with fail;go_loopw [5] (fun i wr=>∃ k:Nat,k<=l.length/\i= .int .i64 k/\aS N (l.take k)=true/\Below w.heap.size w wr) (fun i _=>l.length-(intOf i).toNat)
 case atStart=>exact⟨0,Nat.zero_le _,rfl,rfl,Below.refl _ _⟩
 case round=>
  obtain⟨k,hk,rfl,hp,hB⟩:=hrel;by_cases hlt:k<l.length
  ·obtain ⟨b,o,rfl,hat⟩:=(hr.keep hB).at (by omega);obtain⟨h1,h2,h3⟩:=hat k _ (List.getElem?_eq_getElem hlt);have HX:=hid (hw _ (List.getElem_mem hlt));have HV:=hid (yT N l k hlt);have HBad:=hid (bAm N l k hlt);have HP:=hid hp;have hk0:(0:Int)<=k:=by omega
   have hk1:(k:Int)<l.length:=by omega
   generalize l[k]=x at *;clear hat hr hp;obtain⟨_,⟨b3,b4⟩,⟨b5,b6⟩⟩:=HX.o;by_cases d1:x.n<1
   ·have HF:Hid (pK N x=false):=hid (by simp[pK];omega);have e1:decide (x.n<1)=true:=decide_eq_true d1;go_wp2_with fail;refine aC (by kernel_rfl) (by kernel_rfl) ?_
    repeat(go_big_quiet_step (fail))
    refine wpQuiet_nil ?_;intro _ hw';obtain⟨nq,hw''⟩:=hw';subst hw'';go_wp2_with fail;go_ret;exact⟨bW (by rw[HBad.o HF.o]),hB.bMt _⟩
   ·have e1:decide (x.n<1)=false:=decide_eq_false d1;by_cases d2:x.s<0
    ·have HF:Hid (pK N x=false):=hid (by simp[pK];omega);have e2:decide (x.s<0)=true:=decide_eq_true d2;go_wp2_with fail;refine aC (by kernel_rfl) (by kernel_rfl) ?_
     repeat(go_big_quiet_step (fail))
     refine wpQuiet_nil ?_;intro _ hw';obtain⟨nq,hw''⟩:=hw';subst hw'';go_wp2_with fail;go_ret;exact⟨bW (by rw[HBad.o HF.o]),hB.bMt _⟩
    ·have e2:decide (x.s<0)=false:=decide_eq_false d2;by_cases d3:(N:Int)<=x.s
     ·have HF:Hid (pK N x=false):=hid (by simp[pK];omega);have e3:decide ((N:Int)<=x.s)=true:=decide_eq_true d3;go_wp2_with fail;refine aC (by kernel_rfl) (by kernel_rfl) ?_
      repeat(go_big_quiet_step (fail))
      refine wpQuiet_nil ?_;intro _ hw';obtain⟨nq,hw''⟩:=hw';subst hw'';go_wp2_with fail;go_ret;exact⟨bW (by rw[HBad.o HF.o]),hB.bMt _⟩
     ·have e3:decide ((N:Int)<=x.s)=false:=decide_eq_false d3;by_cases d4:(N:Int)-x.s<x.n
      ·have HF:Hid (pK N x=false):=hid (by simp[pK];omega);have e4:decide ((N:Int)-x.s<x.n)=true:=decide_eq_true d4;go_wp2_with fail;refine aC (by kernel_rfl) (by kernel_rfl) ?_
       repeat(go_big_quiet_step (fail))
       refine wpQuiet_nil ?_;intro _ hw';obtain⟨nq,hw''⟩:=hw';subst hw'';go_wp2_with fail;go_ret;exact⟨bW (by rw[HBad.o HF.o]),hB.bMt _⟩
      ·have HF:Hid (pK N x=true):=hid (by simp[pK];omega);have e4:decide ((N:Int)-x.s<x.n)=false:=decide_eq_false d4;go_wp2_with fail;refine aC (by kernel_rfl) (by kernel_rfl) ?_
       repeat(go_big_quiet_step (fail))
       refine wpQuiet_nil ?_;intro _ hw';obtain⟨nq,hw''⟩:=hw';subst hw'';go_wp2_with fail;go_roundw
       case rel=>exact⟨k+1,by omega,by go_num,by rw[HV.o,HP.o,HF.o];rfl,hB.bMt _⟩
       case measure=>simp[intOf];omega
  ·have HP:=hid hp;clear hp;go_wp2;go_ret;refine⟨bW ?_,hB⟩;have:=HP.o;rw[List.take_of_length_le (by omega)]at this;rw[this]
theorem aMk (C:List Int) (l:List E) (d:Int) (a al:Option Addr) (c cl:Nat) (w:World) (hrC:RdI w a C) (hr:Rd w al l) (hp:aS C.length l=true) (hd: -1<=d/\d<=1) (hR:inR (-1000000000) 1000000000 C) (hl:l.length<=1000000000):
  Calls Tryz.prog 192 #[.slice a C.length c,.slice al l.length cl,.int .i64 d] w fun e w'=>∃ v,e= .returned v/\dE w' w.heap.size v (eZ C l d)/\Below w.heap.size w w':=by
 have hC:=hrC.1;have hlen:=hr.1;have HP:=hid ((aO _ _).1 hp);have HR:=hid hR;have H0:=hid (dE.empty w w.heap.size (Nat.le_refl _));have HS:=hid ((hrC.keep ((Below.refl _ _).bMq (.cells #[] 3))).source);obtain⟨i0,hi,hz0,hz1,hz2⟩:=info_parts bFo;clear hp hR;go_enter Tryz.func192,Tryz.ntmps192
 go_upto_region 2 with (at_builtin;refine dB _ rfl _ _ 179 rfl w.heap.size 3 i0 (.int .i64 0) 1 8 Tryz.underlying179 hi hz0 hz1 hz2 rfl (by decide) (.slice (some ⟨w.heap.size,0,none⟩) 0 0) _ _ rfl H0.o _ _ _ _ rfl HS.o (by simp only[List.length_nil];omega) (by simp only[maxLen,List.length_nil];omega) (by simp only[World.size_alloc];omega) ?_;intro v1 w1 hown1 hgrow1 hwhere1)
 have ho:=dE.append (C:=[]) hown1 (by simp);rw[List.nil_append]at ho;have HB:=((Below.refl w.heap.size w).bMq (.cells #[] 3)).bMu hgrow1 (fun j hj=>(H0.o.lt j hj).1);obtain⟨g,c1,rfl,hg1,hg2,_⟩:=ho.form.resolve_left (by rintro⟨rfl,_⟩;simp[Value.ownBlock]at hwhere1);have HO:=hid ho;clear hown1 hgrow1 hwhere1 ho hrC;go_wp2_with fail;go_loopw [8] (fun i wr=>∃ k:Nat,k<=l.length/\i= .int .i64 k/\dE wr w.heap.size (.slice (some ⟨g,0,none⟩) C.length c1) (eZ C (l.take k) d)/\w1.grownBy wr (some g)) (fun i _=>l.length-(intOf i).toNat)
 case atStart=>exact⟨0,Nat.zero_le _,rfl,HO.o,World.grownBy.refl _ _⟩
 case round=>
  obtain⟨k,hk,rfl,ho,hg⟩:=hrel;have hB:=HB.bMu hg (by intro j hj;simp at hj;omega);by_cases hlt:k<l.length
  ·obtain ⟨b,o,rfl,hat⟩:=(hr.keep hB).at (by omega);obtain⟨h1,h2,h3⟩:=hat k _ (List.getElem?_eq_getElem hlt);obtain⟨p1,p2,p3⟩:=HP.o _ (List.getElem_mem hlt);have HT:=hid (aLn C l d k hlt);have HRk:=hid (gN (lo':= -2000000000) (hi':=2000000000) (aHw (l.take k) d hd C _ _ HR.o) (by have:=List.length_take_le k l;omega) (by have:=List.length_take_le k l;omega));have HL:=hid (eY C (l.take k) d);have hbb:¬ b=g:=by
    obtain⟨b',o',he,hat'⟩:=hr.at (by omega);injection he with he;injection he with he;subst he;have:=World.block_lt_of_cell? w _ (hat' k _ (List.getElem?_eq_getElem hlt)).n;simp at this;omega
   have hk0:(0:Int)<=k:=by omega
   have hk1:(k:Int)<l.length:=by omega
   generalize l[k]=x at *;generalize eZ C (l.take k) d=D at *;obtain⟨xa,xn,xs⟩:=x;simp only at h1 h2 h3 p1 p2 p3 HT;obtain⟨s,rfl⟩:=Int.eq_ofNat_of_zero_le p2;obtain⟨n,rfl⟩:=Int.eq_ofNat_of_zero_le (show 0<=xn by omega);simp only[Int.toNat_natCast]at HT;have HOW:=hid ho;have hgW:=hg;clear hat ho hr hg HO;go_wp2_with fail;obtain⟨W0,rfl⟩:∃ W0:World,W0=wr:=⟨_,rfl⟩;go_loopw [9] (fun t wi=>∃ p:Nat,s<=p/\p<=s+n/\t= .int .i64 p/\dE wi w.heap.size (.slice (some ⟨g,0,none⟩) C.length c1) (oW D s d (p-s))/\W0.grownBy wi (some g)) (fun t _=>s+n-(intOf t).toNat)
   case atStart=>exact⟨s,Nat.le_refl _,by omega,rfl,by rw[Nat.sub_self];exact HOW.o,World.grownBy.refl _ _⟩
   case round=>
    obtain⟨p,hp1,hp2,rfl,hoi,hgi⟩:=hrel;have y1:=hgi.cell h2 (by simpa using hbb);have y2:=hgi.cell h3 (by simpa using hbb);by_cases hlp:p<s+n
    ·have hlpb:decide ((p:Int)< ↑s+ ↑n)=true:=decide_eq_true (by omega);have HLA:=hid (kH D s d (p-s));have hpl:p<D.length:=by have:=HL.o;omega
     have hpC:p<C.length:=by have:=HL.o;omega
     have HS2:=hid (aLx D s p d hp1 hpl);have HG:=hid (aBh D s d (p-s) p hpl);have HOI:=hid hoi;have HGI:=hid hgi;obtain⟨z1,z2⟩:=pY.1 HRk.o p hpl;clear hoi hgi;go_wp2_with fail;refine aC (by kernel_rfl) (by kernel_rfl) ?_
     repeat(go_big_quiet_step (fail))
     refine wpQuiet_nil ?_;intro _ hw';obtain⟨nq,hw''⟩:=hw';subst hw'';generalize hW:World.next _ nq=W1;have hb1:Below wr.heap.size wr W1:=by rw[<-hW];exact World.bMr _ _
     have hoi1:=HOI.o.keep hb1;have hcell:=hoi1.cells.1 p _ (getD_some _ p (by rw[HLA.o];exact hpl));have hfree:=hoi1.cells.2 p;have hv1: -2000000010<=(oW D s d (p-s)).getD p 0:=by rw[HG.o];split <;> omega
     have hv2:(oW D s d (p-s)).getD p 0<=2000000010:=by rw[HG.o];split <;> omega
     obtain⟨HO2,hg3⟩:=dE.set (by rw[HLA.o,HL.o]) hoi1 p ((oW D s d (p-s)).getD p 0+d);have HO2:=hid HO2;rw[<-HS2.o]at HO2;have HG3:=hid (World.grownBy.next (World.grownBy.behind HGI.o hb1) hg3);generalize (oW D s d (p-s)).getD p 0=y at *;clear hoi1 hg3 HG hW hb1 y1 y2;go_wp2_with fail;go_roundw
     case rel=>exact⟨p+1,by omega,by omega,by go_num,HO2.o,HG3.o⟩
     case measure=>simp[intOf];omega
    ·have hlpb:decide ((p:Int)< ↑s+ ↑n)=false:=decide_eq_false (by omega);obtain rfl:p=s+n:=by omega
     rw[show s+n-s=n by omega]at hoi;have HOI:=hid hoi;have HGI:=hid hgi;clear hoi hgi hlp;go_wp2_with fail;refine aC (by kernel_rfl) (by kernel_rfl) ?_
     repeat(go_big_quiet_step (fail))
     refine wpQuiet_nil ?_;intro _ hw';obtain⟨nq,hw''⟩:=hw';subst hw'';generalize hW:World.next _ nq=W1;have hb1:Below wr.heap.size wr W1:=by rw[<-hW];exact World.bMr _ _
     have HO2:=hid (HOI.o.keep hb1);have HG2:=hid (World.grownBy.next hgW (World.grownBy.behind HGI.o hb1));clear hW hb1 y1 y2;go_wp2_with fail;go_roundw
     case rel=>exact⟨k+1,by omega,by go_num,by rw[HT.o];exact HO2.o,HG2.o⟩
     case measure=>simp[intOf];omega
  ·rw[List.take_of_length_le (by omega)]at ho;go_wp2;go_ret;exact⟨_,rfl,ho,hB⟩
open Go.RowKit
theorem aIu (N:Nat) (l:List E) (a al:Option Addr) (c cl:Nat) (w:World) (hN:N<=65536) (hr:Rd w al l) (hw:wfL l) (r:Bool) (hp:aS N l=r):
  Calls Tryz.prog 191 #[.slice a N c,.slice al l.length cl] w fun e w'=>e= .returned (.bool r)/\Below w.heap.size w w':=by
 subst hp;exact aFt N l a al c cl w hN hr hw
theorem bDx (C:List Int) (l:List E) (a al:Option Addr) (c cl:Nat) (w:World) (hrC:RdI w a C) (hr:Rd w al l) (hw:wfL l) (hp:aS C.length l=true) (hR:inR 0 1000000000 C) (hl:l.length<=1000000000):
  Calls Tryz.prog 145 #[.slice a C.length c,.slice al l.length cl] w fun e w'=>∃ v,e= .returned (.tuple #[v,.int .i64 0])/\dE w' w.heap.size v (eZ C l 1)/\Below w.heap.size w w':=by
 have hC:=hrC.1;have HP:=hid hp;clear hp;go_enter Tryz.func145,Tryz.ntmps145;go_wp2_with fail;refine(aIu C.length l a al c cl _ hC hr hw true HP.o).mono ?_;rintro e w1 ⟨rfl,hb1⟩;go_wp2_with fail;refine(aMk C l 1 a al c cl _ (hrC.keep hb1) (hr.keep hb1) HP.o (by omega) (gN hR (by omega) (by omega)) hl).mono ?_;rintro e w2 ⟨v,rfl,ho,hb2⟩;go_wp2_with fail;go_ret2;exact⟨_,rfl,ho.mono hb1.size,hb1.on hb2⟩
theorem aZm (C:List Int) (a:Option Addr) (c:Nat) (w:World) (hrC:RdI w a C) (hR:inR 0 1000000000 C):
  Calls Tryz.prog 219 #[.slice a C.length c] w fun e w'=>e= .returned (.int .i64 (pJ C))/\Below w.heap.size w w':=by
 have hC:=hrC.1;go_enter Tryz.func219,Tryz.ntmps219;go_wp2_with fail;go_loopw [3,4] (fun r i wr=>∃ k:Nat,k<=C.length/\i= .int .i64 k/\r= .int .i64 (pJ (C.take k))/\Below w.heap.size w wr) (fun _ i _=>C.length-(intOf i).toNat)
 case atStart=>exact⟨0,Nat.zero_le _,rfl,rfl,Below.refl _ _⟩
 case round=>
  obtain⟨k,hk,rfl,rfl,hB⟩:=hrel;by_cases hlt:k<C.length
  ·obtain ⟨b,o,rfl,hat⟩:=(hrC.keep hB).at (by omega);have h1:=hat k _ (List.getElem?_eq_getElem hlt);have HT:=hid (aFh C k hlt);obtain⟨x1,x2⟩:=bBi hR hlt;obtain⟨s1,s2⟩:=aXg (aTj hR k);have hle:(C.take k).length<=65536:=Nat.le_trans (List.length_take_le _ _) (by omega);generalize C[k]=x at *;generalize pJ (C.take k)=sm at *;clear hat hrC;have hsm:sm<=65536:=by omega
   have hk0:(0:Int)<=k:=by omega
   have hk1:(k:Int)<C.length:=by omega
   by_cases h0:0<x
   ·have hd:decide (0<x)=true:=decide_eq_true h0;go_wp2;go_roundw
    case rel=>exact⟨k+1,by omega,by go_num,by rw[HT.o,Int.min_eq_right (by omega)],by(repeat(first|exact Below.refl _ _|assumption|refine Below.bMt ?_ _|refine Below.bMq ?_ _|refine Below.setCell ?_ (by simp) _|refine Below.drew ?_))⟩
    case measure=>simp[intOf];omega
   ·have hd:decide (0<x)=false:=decide_eq_false h0;go_wp2;go_roundw
    case rel=>exact⟨k+1,by omega,by go_num,by rw[HT.o,Int.min_eq_left (by omega),show x=0 by omega];go_num,by(repeat(first|exact Below.refl _ _|assumption|refine Below.bMt ?_ _|refine Below.bMq ?_ _|refine Below.setCell ?_ (by simp) _|refine Below.drew ?_))⟩
    case measure=>simp[intOf];omega
  ·go_wp2;go_ret;exact⟨pU (by rw[List.take_of_length_le (by omega)]),hB⟩
def marks (f:Nat->Bool) (k n:Nat):List Bool:=(List.range n).map fun i=>decide (i<k)&&f i
open Go.RowKit
def bLz (C D:List Int) (w:World) (e:Ending) (w':World):Prop:=
 Below w.heap.size w w'/\((aEc D=true/\e= .returned (.tuple #[.slice none 0 0,.slice none 0 0,.int .i64 8]))∨
  (aEc D=false/\ ∃v f,e= .returned (.tuple #[v,f,.int .i64 0])/\dE w' w.heap.size v D/\aG w' w.heap.size f (bT (picks (mW C D) C.length))))
open Go.RowKit
theorem aTv (C:List Int) (l:List E) (a al:Option Addr) (c cl:Nat) (w:World) (hrC:RdI w a C) (hr:Rd w al l) (hw:wfL l):
  Calls Tryz.prog 60 #[.agg #[.slice a C.length c],.slice al l.length cl] w fun e w'=>e= .returned (.int .i64 (bF C l))/\Below w.heap.size w w':=by
 have hC:=hrC.1;have hlen:=hr.1;have HWF:=hid hw;clear hw;go_enter Tryz.func60,Tryz.ntmps60
 go_upto_region 2 with ((at_make;refine aIp _ rfl _ _ 192 rfl Tryz.underlying192 _ _ C.length rfl rfl (by omega) w.heap.size (w.heap.size+1) (by simp) (by omega) ?_;intro w1 ho1 hb1 hz1))
 have hc1:=hb1.keep (a:=⟨w.heap.size,0,none⟩) (by simp;rfl);have hB1:=((Below.refl w.heap.size w).bMq (.cells #[.slice a C.length c] 43)).on hb1;rw[<-aQh]at ho1;obtain⟨g,hg⟩:∃ g,g=w.heap.size+1:=⟨_,rfl⟩;rw[<-hg]at ho1 ⊢;have hgw:w.heap.size<g:=by omega
 have HG:=hid hg;clear hb1 hg;go_wp2_with fail;go_loopw [6,17] (fun nv i wr=>∃ k:Nat,k<=l.length/\i= .int .i64 k/\nv= .int .i64 (aL (fun i=>iV (l.take k) i&&bB C i) C.length)/\nU wr w.heap.size (.slice (some ⟨g,0,none⟩) C.length C.length) (mk (iV (l.take k)) C.length)/\w1.grownBy wr (some g)) (fun _ i _=>l.length-(intOf i).toNat)
 case atStart=>exact⟨0,Nat.zero_le _,rfl,by rw[dL];rfl;intro i _;rfl,ho1,World.grownBy.refl _ _⟩
 case round =>
  obtain⟨k,hk,rfl,rfl,ho,hgr⟩:=hrel;have hB:=hB1.bMu hgr (by intro j hj;simp at hj;omega);have hcr:=hgr.cell hc1 (by simp;omega);by_cases hlt:k<l.length
  ·obtain ⟨b,o,rfl,hat⟩:=(hr.keep hB).at (by omega);obtain⟨h1,h2,h3⟩:=hat k _ (List.getElem?_eq_getElem hlt);obtain⟨⟨b1,b2⟩,⟨b3,b4⟩,⟨b5,b6⟩⟩:=HWF.o _ (List.getElem_mem hlt);have HLT:=hid (aVg l k hlt);generalize l[k]=x at *;generalize hLL:iV (l.take k)=L at *;have har:=iP (fun i=>L i&&bB C i) C.length;obtain⟨T,hT⟩:∃ T:Int,T=if 1<=x.n then min (C.length:Int) (x.s+x.n)else 0:=⟨_,rfl⟩;obtain⟨s0,hs0⟩:∃ s0:Nat,(s0:Int)=max x.s 0:=⟨(max x.s 0).toNat,by omega⟩;have HTT:=hid hT;have HS0:=hid hs0;have HO:=hid ho;have HGR:=hid hgr;clear hat hr ho hgr hLL hT hs0 ho1;generalize hnn:aL (fun i=>L i&&bB C i) C.length=nn at *;have HNN:=hid hnn;clear hnn;have hts:(0:Int)<=s0/\(s0:Int)<=9223372036854775807:=by have:=HS0.o;omega
   have hss:(s0:Int)<=max x.s 0/\max x.s 0<=(s0:Int):=by have:=HS0.o;omega
   have htN:T<=C.length:=by have:=HTT.o;split at this <;> omega
   by_cases hx:1<=x.n
   ·have ht1:T<=x.s+x.n:=by have:=HTT.o;rw[if_pos hx]at this;omega
    have ht3:x.s+x.n<=T∨(C.length:Int)<=T:=by have:=HTT.o;rw[if_pos hx]at this;omega
    by_cases hs:x.s<0
    ·have d1:decide (x.s<0)=true:=decide_eq_true hs;go_wp2_with fail
     all_goals
      have hsz:=(HO.o.lt g rfl).2;have hgW:w1.grownBy (wr.alloc (.cells #[.int .i64 x.a,.int .i64 x.n,.int .i64 x.s] 81)) (some g):=World.grownBy.next HGR.o (World.grownBy_alloc _ _ _);have HOW:=hid (HO.o.keep ((Below.refl _ _).bMq (.cells #[.int .i64 x.a,.int .i64 x.n,.int .i64 x.s] 81)));have hst:(0:Int)=s0:=by have:=HS0.o;omega
      have HST:=hid hst;clear hst;generalize wr.alloc (.cells #[.int .i64 x.a,.int .i64 x.n,.int .i64 x.s] 81)=W0 at *;have HGW:=hid hgW;clear hgW hsz;go_loopw [6,10] (fun nv t wi=>∃ p:Nat,s0<=p/\((p:Int)<=T∨p=s0)/\t= .int .i64 p/\nv= .int .i64 (aL (fun i=>bL L s0 p i&&bB C i) C.length)/\nU wi w.heap.size (.slice (some ⟨g,0,none⟩) C.length C.length) (mk (bL L s0 p) C.length)/\w1.grownBy wi (some g)) (fun _ t _=>(T-(match t with| .int _ n=>n|_=>0)).toNat)
      case atStart=>
       refine⟨s0,Nat.le_refl _,.inr rfl,by rw[HST.o],?_,?_,HGW.o⟩
       ·rw[aN (fun i=>bL L s0 s0 i&&bB C i) (fun i=>L i&&bB C i) _ fun i _=>by rw[gD L s0 s0 (Nat.le_refl _)],HNN.o]
       ·rw[gL (bL L s0 s0) L _ fun i _=>gD L s0 s0 (Nat.le_refl _) i];exact HOW.o
      case round=>
       obtain⟨p,hp1,hp2,rfl,rfl,hoi,hgi⟩:=hrel;have hBi:=hB1.bMu hgi (by intro j hj;simp at hj;omega);have hci:=hgi.cell hc1 (by simp;omega);by_cases hlp:(p:Int)<T
       ·have hpN:p<C.length:=by omega
        obtain⟨b2,o2,he2,hat2⟩:=(hrC.keep hBi).at (by omega);have h4:=hat2 p _ (getD_some C p hpN);have hml:=xM (bL L s0 p) C.length;have hcell:=hoi.cells.1 p _ (aHh _ p (by rw[hml];exact hpN));have hfree:=hoi.cells.2 p;rw[aMx _ _ _ hpN]at hcell;obtain⟨HO2,hg3⟩:=nU.set (by rw[hml]) hoi p true;rw[aJq L s0 p C.length hp1]at HO2;have HO2:=hid HO2;have HG3:=hid (World.grownBy.next hgi hg3);have HSAME:=hid (aJr L C s0 p C.length hp1);have HMORE:=hid (aJs L C s0 p C.length hp1 hpN);have hob:bB C p=(C.getD p 0==1):=by unfold bB;rw[Bool.eq_iff_iff];simp
        rw[hob]at HSAME HMORE;have har2:=iP (fun i=>bL L s0 p i&&bB C i) C.length;generalize aL (fun i=>bL L s0 p i&&bB C i) C.length=q at *;generalize C.getD p 0=y at *;generalize bL L s0 p p=sb at *;subst he2;clear hoi hgi hg3 hat2 hml hob;cases sb
        ·cases hy:(y==1)
         ·have HE:=hid (HSAME.o (by rw[hy];rfl));clear HSAME HMORE;go_wp2;go_roundw
          case rel=>exact⟨p+1,by omega,.inl (by omega),by go_num,by rw[HE.o],HO2.o,HG3.o⟩
          case measure=>simp <;> omega
         ·have HE:=hid (HMORE.o rfl hy);clear HSAME HMORE;go_wp2;go_roundw
          case rel=>exact⟨p+1,by omega,.inl (by omega),by go_num,by rw[HE.o];go_num,HO2.o,HG3.o⟩
          case measure=>simp <;> omega
        ·have HE:=hid (HSAME.o rfl);clear HSAME HMORE;go_wp2;go_roundw
         case rel=>exact⟨p+1,by omega,.inl (by omega),by go_num,by rw[HE.o],HO2.o,HG3.o⟩
         case measure=>simp <;> omega
       ·have HOI:=hid hoi;have HGI:=hid hgi;have HALL:=hid (fun i hi=>sM L x s0 p C.length T HS0.o HTT.o hp1 (by omega) hp2 i hi);clear hoi hgi;go_wp2_with fail;go_roundw
        case rel=>
         refine⟨k+1,by omega,by go_num,?_,?_,HGI.o⟩
         ·rw[aN (fun i=>bL L s0 p i&&bB C i) (fun i=>iV (l.take (k+1)) i&&bB C i) _ fun i hi=>by rw[HALL.o i hi,HLT.o i]]
         ·rw[<-gL (bL L s0 p) (iV (l.take (k+1))) _ fun i hi=>by rw[HALL.o i hi,HLT.o i]];exact HOI.o
        case measure=>simp[intOf];omega
    ·have d1:decide (x.s<0)=false:=decide_eq_false hs;by_cases hbig:(C.length:Int)<=x.s
     ·go_wp2_with fail
      all_goals
       have hsz:=(HO.o.lt g rfl).2;have hgW:w1.grownBy (wr.alloc (.cells #[.int .i64 x.a,.int .i64 x.n,.int .i64 x.s] 81)) (some g):=World.grownBy.next HGR.o (World.grownBy_alloc _ _ _);have HOW:=hid (HO.o.keep ((Below.refl _ _).bMq (.cells #[.int .i64 x.a,.int .i64 x.n,.int .i64 x.s] 81)));have hst:(x.s:Int)=s0:=by have:=HS0.o;omega
       have HST:=hid hst;clear hst;generalize wr.alloc (.cells #[.int .i64 x.a,.int .i64 x.n,.int .i64 x.s] 81)=W0 at *;have HGW:=hid hgW;clear hgW hsz;go_loopw [6,10] (fun nv t wi=>∃ p:Nat,s0<=p/\((p:Int)<=T∨p=s0)/\t= .int .i64 p/\nv= .int .i64 (aL (fun i=>bL L s0 p i&&bB C i) C.length)/\nU wi w.heap.size (.slice (some ⟨g,0,none⟩) C.length C.length) (mk (bL L s0 p) C.length)/\w1.grownBy wi (some g)) (fun _ t _=>(T-(match t with| .int _ n=>n|_=>0)).toNat)
       case atStart=>
        refine⟨s0,Nat.le_refl _,.inr rfl,by rw[HST.o],?_,?_,HGW.o⟩
        ·rw[aN (fun i=>bL L s0 s0 i&&bB C i) (fun i=>L i&&bB C i) _ fun i _=>by rw[gD L s0 s0 (Nat.le_refl _)],HNN.o]
        ·rw[gL (bL L s0 s0) L _ fun i _=>gD L s0 s0 (Nat.le_refl _) i];exact HOW.o
       case round=>
        obtain⟨p,hp1,hp2,rfl,rfl,hoi,hgi⟩:=hrel;have hBi:=hB1.bMu hgi (by intro j hj;simp at hj;omega);have hci:=hgi.cell hc1 (by simp;omega);by_cases hlp:(p:Int)<T
        ·exfalso;omega
        ·have HOI:=hid hoi;have HGI:=hid hgi;have HALL:=hid (fun i hi=>sM L x s0 p C.length T HS0.o HTT.o hp1 (by omega) hp2 i hi);clear hoi hgi;go_wp2_with fail;go_roundw
         case rel=>
          refine⟨k+1,by omega,by go_num,?_,?_,HGI.o⟩
          ·rw[aN (fun i=>bL L s0 p i&&bB C i) (fun i=>iV (l.take (k+1)) i&&bB C i) _ fun i hi=>by rw[HALL.o i hi,HLT.o i]]
          ·rw[<-gL (bL L s0 p) (iV (l.take (k+1))) _ fun i hi=>by rw[HALL.o i hi,HLT.o i]];exact HOI.o
         case measure=>simp[intOf];omega
     ·go_wp2_with fail
      all_goals
       have hsz:=(HO.o.lt g rfl).2;have hgW:w1.grownBy (wr.alloc (.cells #[.int .i64 x.a,.int .i64 x.n,.int .i64 x.s] 81)) (some g):=World.grownBy.next HGR.o (World.grownBy_alloc _ _ _);have HOW:=hid (HO.o.keep ((Below.refl _ _).bMq (.cells #[.int .i64 x.a,.int .i64 x.n,.int .i64 x.s] 81)));have hst:(x.s:Int)=s0:=by have:=HS0.o;omega
       have HST:=hid hst;clear hst;generalize wr.alloc (.cells #[.int .i64 x.a,.int .i64 x.n,.int .i64 x.s] 81)=W0 at *;have HGW:=hid hgW;clear hgW hsz;go_loopw [6,10] (fun nv t wi=>∃ p:Nat,s0<=p/\((p:Int)<=T∨p=s0)/\t= .int .i64 p/\nv= .int .i64 (aL (fun i=>bL L s0 p i&&bB C i) C.length)/\nU wi w.heap.size (.slice (some ⟨g,0,none⟩) C.length C.length) (mk (bL L s0 p) C.length)/\w1.grownBy wi (some g)) (fun _ t _=>(T-(match t with| .int _ n=>n|_=>0)).toNat)
       case atStart=>
        refine⟨s0,Nat.le_refl _,.inr rfl,by rw[HST.o],?_,?_,HGW.o⟩
        ·rw[aN (fun i=>bL L s0 s0 i&&bB C i) (fun i=>L i&&bB C i) _ fun i _=>by rw[gD L s0 s0 (Nat.le_refl _)],HNN.o]
        ·rw[gL (bL L s0 s0) L _ fun i _=>gD L s0 s0 (Nat.le_refl _) i];exact HOW.o
       case round=>
        obtain⟨p,hp1,hp2,rfl,rfl,hoi,hgi⟩:=hrel;have hBi:=hB1.bMu hgi (by intro j hj;simp at hj;omega);have hci:=hgi.cell hc1 (by simp;omega);by_cases hlp:(p:Int)<T
        ·have hpN:p<C.length:=by omega
         obtain⟨b2,o2,he2,hat2⟩:=(hrC.keep hBi).at (by omega);have h4:=hat2 p _ (getD_some C p hpN);have hml:=xM (bL L s0 p) C.length;have hcell:=hoi.cells.1 p _ (aHh _ p (by rw[hml];exact hpN));have hfree:=hoi.cells.2 p;rw[aMx _ _ _ hpN]at hcell;obtain⟨HO2,hg3⟩:=nU.set (by rw[hml]) hoi p true;rw[aJq L s0 p C.length hp1]at HO2;have HO2:=hid HO2;have HG3:=hid (World.grownBy.next hgi hg3);have HSAME:=hid (aJr L C s0 p C.length hp1);have HMORE:=hid (aJs L C s0 p C.length hp1 hpN);have hob:bB C p=(C.getD p 0==1):=by unfold bB;rw[Bool.eq_iff_iff];simp
         rw[hob]at HSAME HMORE;have har2:=iP (fun i=>bL L s0 p i&&bB C i) C.length;generalize aL (fun i=>bL L s0 p i&&bB C i) C.length=q at *;generalize C.getD p 0=y at *;generalize bL L s0 p p=sb at *;subst he2;clear hoi hgi hg3 hat2 hml hob;cases sb
         ·cases hy:(y==1)
          ·have HE:=hid (HSAME.o (by rw[hy];rfl));clear HSAME HMORE;go_wp2;go_roundw
           case rel=>exact⟨p+1,by omega,.inl (by omega),by go_num,by rw[HE.o],HO2.o,HG3.o⟩
           case measure=>simp <;> omega
          ·have HE:=hid (HMORE.o rfl hy);clear HSAME HMORE;go_wp2;go_roundw
           case rel=>exact⟨p+1,by omega,.inl (by omega),by go_num,by rw[HE.o];go_num,HO2.o,HG3.o⟩
           case measure=>simp <;> omega
         ·have HE:=hid (HSAME.o rfl);clear HSAME HMORE;go_wp2;go_roundw
          case rel=>exact⟨p+1,by omega,.inl (by omega),by go_num,by rw[HE.o],HO2.o,HG3.o⟩
          case measure=>simp <;> omega
        ·have HOI:=hid hoi;have HGI:=hid hgi;have HALL:=hid (fun i hi=>sM L x s0 p C.length T HS0.o HTT.o hp1 (by omega) hp2 i hi);clear hoi hgi;go_wp2_with fail;go_roundw
         case rel=>
          refine⟨k+1,by omega,by go_num,?_,?_,HGI.o⟩
          ·rw[aN (fun i=>bL L s0 p i&&bB C i) (fun i=>iV (l.take (k+1)) i&&bB C i) _ fun i hi=>by rw[HALL.o i hi,HLT.o i]]
          ·rw[<-gL (bL L s0 p) (iV (l.take (k+1))) _ fun i hi=>by rw[HALL.o i hi,HLT.o i]];exact HOI.o
         case measure=>simp[intOf];omega
   ·have ht1:T<=0:=by have:=HTT.o;rw[if_neg hx]at this;omega
    have ht3:0<=T:=by have:=HTT.o;rw[if_neg hx]at this;omega
    by_cases hs:x.s<0
    ·have d1:decide (x.s<0)=true:=decide_eq_true hs;go_wp2_with fail
     all_goals
      have hsz:=(HO.o.lt g rfl).2;have hgW:w1.grownBy (wr.alloc (.cells #[.int .i64 x.a,.int .i64 x.n,.int .i64 x.s] 81)) (some g):=World.grownBy.next HGR.o (World.grownBy_alloc _ _ _);have HOW:=hid (HO.o.keep ((Below.refl _ _).bMq (.cells #[.int .i64 x.a,.int .i64 x.n,.int .i64 x.s] 81)));have hst:(0:Int)=s0:=by have:=HS0.o;omega
      have HST:=hid hst;clear hst;generalize wr.alloc (.cells #[.int .i64 x.a,.int .i64 x.n,.int .i64 x.s] 81)=W0 at *;have HGW:=hid hgW;clear hgW hsz;go_loopw [6,10] (fun nv t wi=>∃ p:Nat,s0<=p/\((p:Int)<=T∨p=s0)/\t= .int .i64 p/\nv= .int .i64 (aL (fun i=>bL L s0 p i&&bB C i) C.length)/\nU wi w.heap.size (.slice (some ⟨g,0,none⟩) C.length C.length) (mk (bL L s0 p) C.length)/\w1.grownBy wi (some g)) (fun _ t _=>(T-(match t with| .int _ n=>n|_=>0)).toNat)
      case atStart=>
       refine⟨s0,Nat.le_refl _,.inr rfl,by rw[HST.o],?_,?_,HGW.o⟩
       ·rw[aN (fun i=>bL L s0 s0 i&&bB C i) (fun i=>L i&&bB C i) _ fun i _=>by rw[gD L s0 s0 (Nat.le_refl _)],HNN.o]
       ·rw[gL (bL L s0 s0) L _ fun i _=>gD L s0 s0 (Nat.le_refl _) i];exact HOW.o
      case round=>
       obtain⟨p,hp1,hp2,rfl,rfl,hoi,hgi⟩:=hrel;have hBi:=hB1.bMu hgi (by intro j hj;simp at hj;omega);have hci:=hgi.cell hc1 (by simp;omega);by_cases hlp:(p:Int)<T
       ·exfalso;omega
       ·have HOI:=hid hoi;have HGI:=hid hgi;have HALL:=hid (fun i hi=>sM L x s0 p C.length T HS0.o HTT.o hp1 (by omega) hp2 i hi);clear hoi hgi;go_wp2_with fail;go_roundw
        case rel=>
         refine⟨k+1,by omega,by go_num,?_,?_,HGI.o⟩
         ·rw[aN (fun i=>bL L s0 p i&&bB C i) (fun i=>iV (l.take (k+1)) i&&bB C i) _ fun i hi=>by rw[HALL.o i hi,HLT.o i]]
         ·rw[<-gL (bL L s0 p) (iV (l.take (k+1))) _ fun i hi=>by rw[HALL.o i hi,HLT.o i]];exact HOI.o
        case measure=>simp[intOf];omega
    ·have d1:decide (x.s<0)=false:=decide_eq_false hs;by_cases hbig:(C.length:Int)<=x.s
     ·go_wp2_with fail
      all_goals
       have hsz:=(HO.o.lt g rfl).2;have hgW:w1.grownBy (wr.alloc (.cells #[.int .i64 x.a,.int .i64 x.n,.int .i64 x.s] 81)) (some g):=World.grownBy.next HGR.o (World.grownBy_alloc _ _ _);have HOW:=hid (HO.o.keep ((Below.refl _ _).bMq (.cells #[.int .i64 x.a,.int .i64 x.n,.int .i64 x.s] 81)));have hst:(x.s:Int)=s0:=by have:=HS0.o;omega
       have HST:=hid hst;clear hst;generalize wr.alloc (.cells #[.int .i64 x.a,.int .i64 x.n,.int .i64 x.s] 81)=W0 at *;have HGW:=hid hgW;clear hgW hsz;go_loopw [6,10] (fun nv t wi=>∃ p:Nat,s0<=p/\((p:Int)<=T∨p=s0)/\t= .int .i64 p/\nv= .int .i64 (aL (fun i=>bL L s0 p i&&bB C i) C.length)/\nU wi w.heap.size (.slice (some ⟨g,0,none⟩) C.length C.length) (mk (bL L s0 p) C.length)/\w1.grownBy wi (some g)) (fun _ t _=>(T-(match t with| .int _ n=>n|_=>0)).toNat)
       case atStart=>
        refine⟨s0,Nat.le_refl _,.inr rfl,by rw[HST.o],?_,?_,HGW.o⟩
        ·rw[aN (fun i=>bL L s0 s0 i&&bB C i) (fun i=>L i&&bB C i) _ fun i _=>by rw[gD L s0 s0 (Nat.le_refl _)],HNN.o]
        ·rw[gL (bL L s0 s0) L _ fun i _=>gD L s0 s0 (Nat.le_refl _) i];exact HOW.o
       case round=>
        obtain⟨p,hp1,hp2,rfl,rfl,hoi,hgi⟩:=hrel;have hBi:=hB1.bMu hgi (by intro j hj;simp at hj;omega);have hci:=hgi.cell hc1 (by simp;omega);by_cases hlp:(p:Int)<T
        ·exfalso;omega
        ·have HOI:=hid hoi;have HGI:=hid hgi;have HALL:=hid (fun i hi=>sM L x s0 p C.length T HS0.o HTT.o hp1 (by omega) hp2 i hi);clear hoi hgi;go_wp2_with fail;go_roundw
         case rel=>
          refine⟨k+1,by omega,by go_num,?_,?_,HGI.o⟩
          ·rw[aN (fun i=>bL L s0 p i&&bB C i) (fun i=>iV (l.take (k+1)) i&&bB C i) _ fun i hi=>by rw[HALL.o i hi,HLT.o i]]
          ·rw[<-gL (bL L s0 p) (iV (l.take (k+1))) _ fun i hi=>by rw[HALL.o i hi,HLT.o i]];exact HOI.o
         case measure=>simp[intOf];omega
     ·go_wp2_with fail
      all_goals
       have hsz:=(HO.o.lt g rfl).2;have hgW:w1.grownBy (wr.alloc (.cells #[.int .i64 x.a,.int .i64 x.n,.int .i64 x.s] 81)) (some g):=World.grownBy.next HGR.o (World.grownBy_alloc _ _ _);have HOW:=hid (HO.o.keep ((Below.refl _ _).bMq (.cells #[.int .i64 x.a,.int .i64 x.n,.int .i64 x.s] 81)));have hst:(x.s:Int)=s0:=by have:=HS0.o;omega
       have HST:=hid hst;clear hst;generalize wr.alloc (.cells #[.int .i64 x.a,.int .i64 x.n,.int .i64 x.s] 81)=W0 at *;have HGW:=hid hgW;clear hgW hsz;go_loopw [6,10] (fun nv t wi=>∃ p:Nat,s0<=p/\((p:Int)<=T∨p=s0)/\t= .int .i64 p/\nv= .int .i64 (aL (fun i=>bL L s0 p i&&bB C i) C.length)/\nU wi w.heap.size (.slice (some ⟨g,0,none⟩) C.length C.length) (mk (bL L s0 p) C.length)/\w1.grownBy wi (some g)) (fun _ t _=>(T-(match t with| .int _ n=>n|_=>0)).toNat)
       case atStart=>
        refine⟨s0,Nat.le_refl _,.inr rfl,by rw[HST.o],?_,?_,HGW.o⟩
        ·rw[aN (fun i=>bL L s0 s0 i&&bB C i) (fun i=>L i&&bB C i) _ fun i _=>by rw[gD L s0 s0 (Nat.le_refl _)],HNN.o]
        ·rw[gL (bL L s0 s0) L _ fun i _=>gD L s0 s0 (Nat.le_refl _) i];exact HOW.o
       case round=>
        obtain⟨p,hp1,hp2,rfl,rfl,hoi,hgi⟩:=hrel;have hBi:=hB1.bMu hgi (by intro j hj;simp at hj;omega);have hci:=hgi.cell hc1 (by simp;omega);by_cases hlp:(p:Int)<T
        ·exfalso;omega
        ·have HOI:=hid hoi;have HGI:=hid hgi;have HALL:=hid (fun i hi=>sM L x s0 p C.length T HS0.o HTT.o hp1 (by omega) hp2 i hi);clear hoi hgi;go_wp2_with fail;go_roundw
         case rel=>
          refine⟨k+1,by omega,by go_num,?_,?_,HGI.o⟩
          ·rw[aN (fun i=>bL L s0 p i&&bB C i) (fun i=>iV (l.take (k+1)) i&&bB C i) _ fun i hi=>by rw[HALL.o i hi,HLT.o i]]
          ·rw[<-gL (bL L s0 p) (iV (l.take (k+1))) _ fun i hi=>by rw[HALL.o i hi,HLT.o i]];exact HOI.o
         case measure=>simp[intOf];omega
  ·rw[List.take_of_length_le (by omega)];go_wp2;go_ret;exact⟨rfl,hB⟩
end Go.Proofs.YtaiklhbakldfhaaGreat
