/- package mapper: hint, slots, free. Conditions: as each theorem says. -/
import Derived.Test.YtphfgbbbejloaaaGreatDoorHKp
import Derived.Test.YtphfgbbbejloaaaGreatDoorHC
set_option linter.unusedSimpArgs false
set_option linter.unusedVariables false
set_option linter.unusedSectionVars false
set_option maxRecDepth 100000
set_option maxHeartbeats 16000000
namespace Go.Proofs.YtphfgbbbejloaaaGreatDoor
open Go.RowKit Go.Maps
open Go.Proofs.Tryz
variable[Gst]
theorem aEn{P:Prop}(h:P:=by simp[results,results108,go_sem]):P:=h
theorem aEm{P:Prop}(h:P:=by simp only[hits,Qd,Qc];omega):P:=h
theorem aEp{P:Prop}(h:P:=by
  go_enter func108,ntmps108;go_wp2_with fail;refine HIN.o.m ?_;rintro e w1 ⟨rfl,hb⟩;have hk1:=hb.aIw (cq #[nmV im,i1,i2,i3,i4] 94);have HB:=hD hk1;have HM1:=hD (HM.o.aIx hk1);have HFA1:=hD (HFA.o.keep hk1);clear hb hk1 m0 m1 HM HFA;have m0:=HM1.o.c0;have m1:=HM1.o.c1;go_wp2_with fail;refine Yg (v:= .tuple #[sn,sn,ol]) aEn rfl ⟨rfl,HB.o⟩
  ):P:=h
theorem aEo{P:Prop}(h:P:=by
  unfold stN;rw[nK];intro i hi;rw[hl]at hi;simp[Ql,List.getElem?_replicate,hi]
  ):P:=h
def yI(F:Fam)(nm:LU)(p:Int):Int:=if (aX F nm (p-1)).2.1=true/\(aX F nm (p-1)).2.2=0 then (aX F nm (p-1)).1+1 else 0
theorem EQ{l:List E}{N:Nat}(p:Int)(h:aQ N l=true)(hb:fI l p=true):0<=fU l p/\fU l p<N:=by
 unfold fI at hb;unfold fU
 cases hf:l.find? (hits p)with
 |none=>rw[hf]at hb;simp at hb
 | some x=>
  have h1:=List.find?_some hf;have h2:=(aP _ _).1 h x (List.mem_of_find?_eq_some hf);simp only[hits,Qd,Qc]at h1;simp only[Option.map_some,Option.getD_some];omega
theorem uJ{F:Fam}(hF:F.ok)(nm:LU)(p:Int)(hb:(aX F nm p).2.1=true):0<=(aX F nm p).1/\(aX F nm p).1<F.N:=by
 rcases uK F nm p with ⟨_,h⟩|⟨v,hg,⟨_,h⟩|⟨_,_,h⟩⟩
 ·rw[h]at hb;simp at hb
 ·rw[h]at hb;simp at hb
 ·rw[h]at hb ⊢;exact EQ p (hF.vol v (aC hg).1).perm hb
theorem YH{F:Fam}(hF:F.ok)(nm:LU)(p:Int):0<=yI F nm p/\yI F nm p<=F.N:=by
 unfold yI
 split
 ·rename_i h
  have:=uJ hF nm _ h.1;omega
 ·omega
theorem XI(M:Nat)(F:Fam)(z:Int)(nm:LU)(p:Int)(w:Wd)(hF:F.ok)(h:iO w M F)(hn:nm.length<=maxLen)(hp: -9000000000000000000<=p/\p<=9000000000000000000)(hz:yI F nm p=z):
  ep 158 #[.pointer (cw M 0),nmV nm,p] w (RB w z):=by
 obtain⟨a,c,m,hb,hf⟩:=h.form;have HFI:=hD (zC F _ nm (p-1) _ hF hf hn oM);have HLF:=hD (uJ hF nm (p-1));have h65:=hF.hN;have m0:=hb.c0;have m1:=hb.c1;unfold yI at hz;obtain⟨s,b,e0,hs⟩:∃s b e0,aX F nm (p-1)=(s,b,e0):=⟨_,_,_,rfl⟩;rw[hs]at HFI HLF hz;simp only at HFI HLF hz;have HZ:=hD hz;clear hb hf h hF hs hz;go_enter func158,ntmps158;go_wp2_with fail;refine HFI.o.m ?_;rintro e w1 ⟨rfl,hb⟩;have HB:=hD hb;clear hb HFI m0 m1;cases b
 ·go_wp2_with fail;go_ret;exact⟨by rw[<-HZ.o];simp,HB.o⟩
 ·have hl:=HLF.o rfl;cases he:(e0==0)
  ·have HE:=hD he;go_wp2_with fail;go_ret;have:¬ e0=0:=by have:=HE.o;simpa using this
   exact⟨by rw[<-HZ.o];simp[this],HB.o⟩
  ·have HE:=hD he;go_wp2_with fail;go_ret;have:e0=0:=by have:=HE.o;simpa using this
   exact⟨by rw[<-HZ.o];simp[this],HB.o⟩
def jK(s:Int)(n:Nat):List Int:=(List.range n).map λk:Nat=>s+(k:Int)
theorem yO(s:Int)(n:Nat):(jK s n).length=n:=by simp[jK]
theorem Kq(s:Int)(n:Nat):jK s (n+1)=jK s n++[s+n]:=by simp[jK,List.range_succ]
def fQ(l:List E):List Int:=l.flatMap λx=>jK x.s x.n.toNat
theorem Cv(l:List E)(k:Nat)(h:k<l.length):fQ (l.take (k+1))=fQ (l.take k)++jK l[k].s l[k].n.toNat:=by
 unfold fQ;rw[Qh h,List.flatMap_append];simp
theorem NU(l:List E)(k:Nat)(h:k<l.length):(fQ (l.take k)).length+l[k].n.toNat<=(fQ l).length:=by
 have h1:fQ l=fQ (l.take (k+1))++fQ (l.drop (k+1)):=by
  unfold fQ;rw[<-List.flatMap_append,List.take_append_drop]
 rw[h1,Cv l k h,Qg,Qg,yO];omega
theorem Uj(l:List E)(a:OA)(c:Nat)(w:Wd)(hr:Rd w a l)(hx:∀x∈l,0<=x.s/\0<=x.n/\x.s+x.n<=65536)(hl:(fQ l).length<=65536):
  ep 159 #[.slice a l.length c] w λe w'=>∃v,e= .returned v/\dG w' w v (fQ l)/\Below w w w':=by
 obtain⟨i0,hi,hz0,hz1,hz2⟩:=info_parts RQ;have HX:=hD hx;have hll:=hr.1;clear hx;go_enter func159,ntmps159;go_wp2_with fail;go_loopw [3,9] (λv i wr=>∃(k:Nat) (u:Value) (n:Nat) (S:List Int),k<=l.length/\i= .int .i64 k/\v=u/\Hid (S=fQ (l.take k))/\dG wr w u S/\Below w w wr) (λ_ i _=>l.length-(intOf i).toNat)
 case atStart=>exact⟨0,_,0,[],Yf _,rfl,rfl,hD (by simp[fQ]),dG.nil _ _,bR⟩
 case round=>
  obtain⟨k,u,n0,S,hk,rfl,rfl,hS,ho,hB⟩:=hrel;by_cases hlt:k<l.length
  ·obtain ⟨b,o,rfl,hat⟩:=(hr.keep hB).at oM;obtain⟨h1,h2,h3⟩:=hat k _ (Qa hlt);obtain⟨p1,p2,p3⟩:=HX.o _ (Qm hlt);have HT:=hD (Cv l k hlt);have hln:=NU l k hlt;rw[<-hS.o]at hln HT;generalize l[k]=x at *;obtain⟨xa,xn,xs⟩:=x;simp only at h1 h2 h3 p1 p2 p3 HT hln;obtain⟨n,rfl⟩:=Qr p2;simp only[Int.toNat_natCast]at HT hln;have HOF:=hD ho;clear hat ho;go_wp2_with fail;have hx1:(wr.alloc (cq #[xa,n,xs] 128)).cell? (cw wr.heap.size 1)=n:=by simp
   have hx2:(wr.alloc (cq #[xa,n,xs] 128)).cell? (cw wr.heap.size 2)=xs:=by simp
   have HOW:=hD (HOF.o.keep (bR.aIw (cq #[xa,n,xs] 128)));have HBW:=hD (hB.aIw (cq #[xa,n,xs] 128));have hne:=λe=>Nat.lt_irrefl _ (HOF.o.lt wr.heap.size e).2;have hXge:=hB.size;generalize wr.alloc (cq #[xa,n,xs] 128)=W0 at *;generalize wr.heap.size=X at *;have HNE:=hD hne;clear HOF hB hne;go_loopw [3,15] (λv t wi=>∃(j:Nat) (P:List Int),j<=n/\t= .int .i64 j/\Hid (P=S++jK xs j)/\dG wi w v P/\wi (cw X 1)=n/\wi (cw X 2)=xs/\v.ownBlock≠some X/\Below w w wi) (λ_ t _=>n-(intOf t).toNat)
   case atStart=>exact⟨0,S,Yf _,rfl,hD (by simp[jK]),HOW.o,hx1,hx2,HNE.o,HBW.o⟩
   case round=>
    clear hx1 hx2;obtain⟨j,P,hj,rfl,hP,hoi,hx1,hx2,hne,hBi⟩:=hrel;have HPL:Hid (P.length=S.length+j):=hD (by rw[hP.o,Qg,yO]);by_cases hlj:j<n
    ·have HOI:=hD hoi;have HNX:=hD hne;have hszi:=hBi.size;have hXl:=Qj _ _ hx1;simp only at hXl;clear hoi hne
     go_wp2_with (at_builtin;refine aO _ rfl _ _ 66 rfl w.heap.size 3 i0 oo 1 8 underlying66 hi hz0 hz1 hz2 rfl dE _ _ _ rfl (Qu HOI.o _) (cw wr.heap.size 0) 1 1 [_] rfl rfl (newI _ _ rfl _ _) (by intro u hu;simp at hu;subst hu;rfl) (by have:=HPL.o;simp;omega) (by have:=HPL.o;simp[maxLen];omega) (by simp only[World.size_alloc];omega) ?_;intro v1 w2 hown1 hgrow1 hwhere1)
     have ho:=dG.append (D:=[xs+(j:Int)]) hown1 rfl;have HBE:=hD ((hBi.aIw (cq #[.int .i64 (xs+j)] 3)).aJa hgrow1 λj hj=>(HOI.o.lt j hj).1);have HO4:=hD ho;have hx3:=hgrow1.cell ((bR.aIw (cq #[.int .i64 (xs+j)] 3)).keep hx1) (λe=>HNX.o e.symm);have hx4:=hgrow1.cell ((bR.aIw (cq #[.int .i64 (xs+j)] 3)).keep hx2) (λe=>HNX.o e.symm);have HN4:Hid (v1.ownBlock≠some X):=hD (by
      rcases hwhere1 with e|e
      ·rw[e];exact HNX.o
      ·rw[e];simp only[World.size_alloc,ne_eq,Option.some.injEq]
       omega)
     have HP2:Hid (P++[xs+(j:Int)]=S++jK xs (j+1)):=hD (by rw[hP.o,Kq,Yc]);clear hown1 hgrow1 hwhere1 hx1 hx2 ho;go_wp2_with fail;go_roundw
     case rel=>exact⟨j+1,P++[xs+(j:Int)],oM,by go_num,HP2,HO4.o,hx3,hx4,HN4.o,HBE.o⟩
     case measure=>simp[intOf];omega
    ·obtain rfl:j=n:=oM
     have HOI:=hD hoi;clear hoi;go_wp2_with fail;go_roundw
     case rel=>exact⟨k+1,_,0,P,oM,by go_num,rfl,hD (by rw[hP.o,HT.o]),HOI.o,hBi⟩
     case measure=>simp[intOf];omega
  ·obtain rfl:k=l.length:=oM
   rw[List.take_length]at hS;have HO:=hD ho;clear ho;go_wp2_with fail;go_ret;exact⟨_,rfl,by rw[<-hS.o];exact HO.o,hB⟩
def eG(C:List Int):List Bool:=mk (λi=> !bH C i) C.length
theorem jX(C:List Int):(eG C).length=C.length:=BJ _ _
theorem uQ(C:List Int)(i:Nat)(hi:i<C.length):dA (eG C) i=bH C i:=by
 rw[oI _ _ (by rw[jX];exact hi)];unfold eG;rw[Pd _ _ _ hi];simp
theorem rJ(C:List Int):aT (eG C)=iY C:=by
 unfold aT iY;rw[jX,vX _ _ _ λi hi=>uQ C i hi]
theorem Ke(n:Nat):eG (List.replicate n 0)=List.replicate n false:=by
 unfold eG;rw[Yt,<-LC];exact sJ _ _ _ λi hi=>by simp[bH,Ql,List.getElem?_replicate,hi]
theorem FP(n:Nat)(h0:0<n)(hn:n<=65536):iY (List.replicate n 0)=[⟨0,n,0⟩]:=by
 refine(Ab _ _ ⟨?_,sM⟩ λs=> ?_).symm
 ·intro x hx;simp at hx;subst hx;exact⟨rfl,(aB _).2 ⟨pO,sM,sM,pO,pO⟩⟩
 ·rw[Ih _ _ pO,wI _ _ ((aB _).2 ⟨pO,sM,sM,pO,pO⟩)];simp only[Yt,bH,Qc,Int.zero_add]
  constructor
  ·rintro⟨a,b⟩;refine⟨a,b,?_⟩;rw[Ql,List.getElem?_replicate,Qf oM];rfl
  ·rintro⟨a,b,_⟩;exact⟨a,b⟩
theorem mX(n:Nat)(h0:0<n)(hn:n<=65536):aT (List.replicate n false)=[⟨0,n,0⟩]:=by
 rw[<-Ke,rJ,FP n h0 hn]
theorem Da{M:List Bool}(hN:M.length<=65536){R:List E}(h:Canon R)(hf:∀i,hasB R i=true->dA M i=true):mQ M.length R=true:=by
 have hp:=Fu h hf;refine xB hN hp ?_;unfold BZ;rw[fD _ h,aM _ _ _ λi _=>nZ h i,jT _ _ _ hN λi hi _=> ?_]
 ·omega
 ·rw[Bool.eq_false_iff];intro hc;have:=wJ (hf i hc);omega
theorem IG{R:List E}(h:Canon R):wfL R:=by
 intro x hx;obtain⟨c1,c2,c3,c4,c5⟩:=(aB _).1 (h.1 x hx).2;exact⟨oM,oM,oM⟩
theorem XM(n:Nat)(hn:n<=65536):mQ n (aT (List.replicate n false))=true/\stN (List.replicate n false) (aT (List.replicate n false)) true=0/\
  yA (List.replicate n false) (aT (List.replicate n false)) true=List.replicate n true:=by
 have hl:(List.replicate n false).length=n:=by simp
 refine⟨?_,?_,?_⟩
 ·have:=Da (M:=List.replicate n false) oM (cZ _) λi hi=>by rw[<-jI _ oM];exact hi
  rw[hl]at this;exact this
 ·exact aEo
 ·unfold yA;rw[hl,show List.replicate n true=mk (λ_=>true) n by
   unfold mk
   apply List.ext_getElem
   ·simp
   ·intro i h1 h2;simp]
  refine sJ _ _ _ λi hi=> ?_;rw[nZ (cZ _),jI _ oM,oI _ _ oM];simp[Ql,List.getElem?_replicate,hi]
theorem Uz(C:List Int)(hn:C.length<=65536):mQ C.length (iY C)=true/\stN (List.replicate C.length true) (iY C) false=0/\
  yA (List.replicate C.length true) (iY C) false=eG C:=by
 have hl:(List.replicate C.length true).length=C.length:=by simp
 have hc:Canon (iY C):=by rw[<-rJ];exact cZ _
 have hh:∀i,hasB (iY C) i=dA (eG C) i:=λi=>by rw[<-rJ,jI _ (by rw[jX];exact hn)]
 refine⟨?_,?_,?_⟩
 ·have:=Da (M:=eG C) (by rw[jX];exact hn) hc λi hi=>by rw[<-hh];exact hi
  rw[jX]at this;exact this
 ·exact aEo
 ·unfold yA eG;rw[hl];refine sJ _ _ _ λi hi=> ?_;rw[nZ hc,hh,uQ C i hi];cases hz:bH C i
  ·simp[Ql,List.getElem?_replicate,hi]
  ·simp
def aFn(W:Wd)(v:Value)(M:List Bool):Prop:= ∃a c,v= .agg #[M.length,.slice a (aT M).length c]/\Rd W a (aT M)
structure FrS(w W:Wd)(M X:Nat)(F:Fam)(u v x y:Value):Prop where
 r:Bx W w 242 u v
 x:Bx W X 242 x y
 hX:w.heap.size<X
 m:iO W M F
 hM:M<w.heap.size
 g:Below w w W
section
variable{w W W':Wd}{M X:Nat}{F:Fam}{u v x y p q:Value}
theorem FrS.aIx(h:FrS w W M X F u v x y)(hb:Below W W W'):FrS w W' M X F u v x y:=
 ⟨h.r.aIx hb,h.x.aIx hb,h.hX,h.m.aIx hb,h.hM,h.g.on hb⟩
theorem aCr:3≠242:=dE
theorem iO.far(h:iO W M F)(hb:Bx W X 242 x y)(hne:M≠X):iO (fP W X p q) M F:=by
 obtain⟨u,v,h1,h2⟩:=h;exact⟨u,v,h1.far hne _ _,hb.famV aCr h2⟩
theorem FrS.putX(h:FrS w W M X F u v x y)(p q:Value):FrS w (fP W X p q) M X F u v p q:=
 ⟨h.r.far (by have:=h.hX;omega) _ _,h.x.put _ _,h.hX,h.m.far h.x (by have:=h.hX;have:=h.hM;omega),h.hM,(h.g.setCell (by have:=h.hX;simp;omega) _).setCell (by have:=h.hX;simp;omega) _⟩
end
theorem zB(n:Nat):aT (List.replicate n true)=[]:=by
 have:picks (dA (List.replicate n true)) (List.replicate n true).length=[]:=by
  rw [vX _ (λ_=>false) _ λi hi=>by
   rw[oI _ _ hi];simp at hi
   simp[Ql,List.getElem?_replicate,hi]]
  exact OI _ _ λ_ _=>rfl
 unfold aT;rw[this];exact(Ab _ _ ⟨sM,sM⟩ λs=>by simp[has]).symm
theorem aGu(n:Nat)(h0:0<n)(hn:n<=65536)(a al:OA)(c cl:Nat)(w:Wd)(hr:Rd w a [⟨0,n,0⟩])(hl:Rd w al [⟨0,n,0⟩]):
  ep 208 #[.agg #[n,.slice a 1 c],.slice al 1 cl] w λe w'=>∃a' c',e= .returned (.tuple #[.agg #[n,.slice a' 0 c'],oo])/\Rd w' a' []/\Below w w w':=by
 have h:=IM (List.replicate n false) (aT (List.replicate n false)) a al c cl w (by simp;exact hn) (by rw[mX n h0 hn];exact hr) (by rw[mX n h0 hn];exact hl) (IG (cZ _)) (by rw[mX n h0 hn];simp);obtain⟨m1,m2,m3⟩:=XM n hn;have e1:(List.replicate n false).length=n:=by simp
 unfold aDa at h;rw[m3,e1,zB,mX n h0 hn]at h;rw[mX n h0 hn]at m1 m2;refine h.m ?_;rintro e w' ⟨hb,⟨h1,_⟩|⟨_,h1,_⟩|⟨_,_,v,h1,a',c',rfl,hr',_⟩⟩
 ·rw[m1]at h1;cases h1
 ·exact absurd m2 h1
 ·exact⟨a',c',h1,hr',hb⟩
theorem aGz(C:List Int)(hn:C.length<=65536)(a al:OA)(c cl:Nat)(w:Wd)(hr:Rd w a [])(hl:Rd w al (iY C)):
  ep 210 #[.agg #[C.length,.slice a 0 c],.slice al (iY C).length cl] w λe w'=>∃v,e= .returned (.tuple #[v,oo])/\aFn w' v (eG C)/\Below w w w':=by
 have hc:Canon (iY C):=by rw[<-rJ];exact cZ _
 have h:=Vq (List.replicate C.length true) (iY C) a al c cl w (by simp;exact hn) (by rw[zB];exact hr) hl (IG hc) (by have:=oH C;omega);obtain⟨m1,m2,m3⟩:=Uz C hn;have e1:(List.replicate C.length true).length=C.length:=by simp
 unfold aDa at h;rw[m3,e1,zB]at h;refine h.m ?_;rintro e w' ⟨hb,⟨h1,_⟩|⟨_,h1,_⟩|⟨_,_,v,h1,a',c',rfl,hr',_⟩⟩
 ·rw[m1]at h1;cases h1
 ·exact absurd m2 h1
 ·exact⟨_,h1,⟨a',c',by rw[jX],hr'⟩,hb⟩
theorem XJ(M:Nat)(F:Fam)(w:Wd)(hF:F.ok)(h0:0<F.N)(h:iO w M F):
  ep 156 #[.pointer (cw M 0)] w λe w'=>∃v,e= .returned (.tuple #[v,oo])/\aFn w' v (eG F.C)/\Below w w w':=by
 have hN:=hF.hN;have HF:=hD hF;obtain⟨a,c,m,hb,hf⟩:=h.form;have hk:=(bQ w).aIw (cq #[oo,sn] 242);have HM:=hD (h.aIx hk);have HR:=hD (Bx.new w _ rfl oo sn 242);have HFA:=hD (hf.keep hk);have HK:=hD hk;have hML:=hb.lt;have m0:=(hb.aIx hk).c0;have m1:=(hb.aIx hk).c1;clear hb hf h hF hk;go_enter func156,ntmps156;go_wp2_with fail;refine(UC F _ _ HF.o HFA.o).m ?_;rintro e w1 ⟨rfl,hb⟩;have HM1:=hD (HM.o.aIx hb);have HR1:=hD (HR.o.aIx hb);have HK1:=hD (HK.o.on hb);clear hb HM HR HK HFA m0 m1;go_wp2_with fail;refine(ZP F.N _ h0 hN).m ?_;rintro e w2 ⟨v2,rfl,ho,hb⟩;obtain⟨oa,oc,rfl,hro⟩:=ho.rd sM;have hk2:=hb.aIw (cq #[F.N,.slice oa 1 oc] 242);have HX:Hid (FrS w (w2.alloc (cq #[F.N,.slice oa 1 oc] 242)) M w2 F oo sn F.N (.slice oa 1 oc)):=
  hD ⟨HR1.o.aIx hk2,Bx.new w2 _ rfl _ _ _,by have:=HR1.o.lt;have:=hb.size;omega,HM1.o.aIx hk2,hML,HK1.o.on hk2⟩
 have HRO:=hD (hro.keep ((bQ w2).aIw (cq #[F.N,.slice oa 1 oc] 242)));clear ho hb hro hk2 HR1 HM1 HK1;go_wp2_with fail;generalize w2.alloc (cq #[F.N,.slice oa 1 oc] 242)=W0 at *;generalize w2.heap.size=X at *;have x0:=HX.o.x.c0;have x1:=HX.o.x.c1;have HRL:Hid ((aT (List.replicate F.N false)).length=1):=hD (by rw[mX _ h0 hN];rfl)
 go_cut [5] from 19 to 25 (λv wx=>v= .int .i64 0/\ ∃a4 c4,FrS w wx M X F oo sn F.N (.slice a4 0 c4)/\Rd wx a4 [])
 case first=>
  have HXD:=hD (HX.o.aIx bR.drew);have HRD:=hD (HRO.o.keep bR.drew)
  go_region_law (first
   |(go_simp;go_at_call 209;refine(Vo F.N [⟨0,F.N,0⟩] oa oc _ HRD.o sM).m ?_;rintro e w5 ⟨v5,rfl,ho5,hb5⟩;obtain⟨ra,rc,rfl,hrr⟩:=ho5.rd sM;have HX5:=hD (HXD.o.aIx hb5);have x0:=HX5.o.x.c0;have x1:=HX5.o.x.c1;have HRO5:=hD (HRD.o.keep hb5))
   |(go_simp;go_at_call 208;refine(aGu F.N h0 hN oa ra oc rc _ HRO5.o hrr).m ?_;rintro e w6 ⟨a6,c6,rfl,hr6,hb6⟩;have HX6:=hD (HX5.o.aIx hb6);have x2:=HX6.o.x.c0;have x3:=HX6.o.x.c1;have x4:=HX6.o.x.f0;have x5:=HX6.o.x.f1))
  all_goals
   have HQ:=hD (HX6.o.putX F.N (.slice a6 0 c6));have HQR:=hD (HX6.o.x.rd (x:=F.N) (y:= .slice a6 0 c6) hr6);clear ho5 hb5 hrr hr6 hb6 HRO5 HX5 HX6 x0 x1 x2 x3 x4 x5;go_wp2_with fail;go_meet;exact⟨rfl,a6,c6,HQ.o,HQR.o⟩
 case rest=>
  obtain⟨rfl,a4,c4,hx,hr4⟩:=hcut;clear HX HRO;go_upto_region 7 with fail;have HX:=hD (hx.aIx bR.drew);have HR4:=hD (hr4.keep bR.drew);clear hx hr4;obtain⟨fa,fc,fm,hmb,hfa⟩:=HX.o.m.form;have HFA:=hD hfa;have x0:=HX.o.x.c0;have x1:=HX.o.x.c1;have m0:=hmb.c0;have m1:=hmb.c1;have HCL:=F.aIz;have HMB:=hD hmb;clear hmb hfa
  go_region_law (first
   |(go_simp;go_at_call 185;refine(Mx F _ _ HFA.o).m ?_;rintro e w5 ⟨sv,rfl,ho5,hb5⟩;obtain⟨ra,rc,rfl,hrr⟩:=ho5.rd (by have:=oH F.C;omega);have HX5:=hD (HX.o.aIx hb5);have x0:=HX5.o.x.c0;have x1:=HX5.o.x.c1;have HR5:=hD (HR4.o.keep hb5);have m0:=(HMB.o.aIx hb5).c0;have m1:=(HMB.o.aIx hb5).c1)
   |(go_simp;go_at_call 210;have hg:=aGz F.C (by rw[HCL];exact hN) a4 ra c4 rc _ HR5.o hrr;rw[HCL]at hg;refine hg.m ?_;rintro e w6 ⟨v6,rfl,⟨a6,c6,rfl,hr6⟩,hb6⟩;have HX6:=hD (HX5.o.aIx hb6);have x2:=HX6.o.r.c0;have x3:=HX6.o.r.c1;have x4:=HX6.o.r.f0;have x5:=HX6.o.r.f1))
  all_goals
   have HQR:=hD (HX6.o.r.rd (x:= .int .i64 (eG F.C).length) (y:= .slice a6 (aT (eG F.C)).length c6) hr6);have hq:=HX6.o.r.put (.int .i64 (eG F.C).length) (.slice a6 (aT (eG F.C)).length c6);have j0:=hq.c0;have j1:=hq.c1;have HB:=hD ((HX6.o.g.setCell (p:=(cw w 0)) sM (.int .i64 (eG F.C).length)).setCell (p:=(cw w 1)) sM (.slice a6 (aT (eG F.C)).length c6));clear ho5 hb5 hrr hr6 hb6 HX5 HX6 x0 x1 m0 m1 HR5 hq;go_wp2_with fail;refine Yg (v:= .tuple #[.agg #[.int .i64 (eG F.C).length,.slice a6 (aT (eG F.C)).length c6],oo]) ?_ rfl ⟨_,rfl,⟨a6,c6,rfl,HQR.o⟩,HB.o⟩;simp[results,results156,go_sem,j0,j1]
structure Bk where
 x0:Int
 x1:Int
 x2:Int
 x3:Int
 x4:Int
 x5:Int
 x6:Int
 x7:Int
deriving DecidableEq
abbrev Bk.v(x:Bk):Value:= .agg #[.int .u8 x.x0,.int .u8 x.x1,.int .u8 x.x2,.int .u8 x.x3,.int .u8 x.x4,.int .u8 x.x5,.int .u8 x.x6,.int .u8 x.x7]
def Bk.cells(x:Bk):List Value:=[.int .u8 x.x0,.int .u8 x.x1,.int .u8 x.x2,.int .u8 x.x3,.int .u8 x.x4,.int .u8 x.x5,.int .u8 x.x6,.int .u8 x.x7]
def Bk.zero:Bk:=⟨0,0,0,0,0,0,0,0⟩
structure Sw where
 s:Int
 d:Bk
def Sw.cells(x:Sw):List Value:= .int .i64 x.s::x.d.cells
abbrev Sw.v(x:Sw):Value:= .agg #[x.s,.int .u8 x.d.x0,.int .u8 x.d.x1,.int .u8 x.d.x2,.int .u8 x.d.x3,.int .u8 x.d.x4,.int .u8 x.d.x5,.int .u8 x.d.x6,.int .u8 x.d.x7]
theorem flat_get{α:Type}(f:α->List Value)(m:Nat)(hm:∀x,(f x).length=m)(l:List α):∀(k:Nat) (x:α),l[k]? =some x-> ∀j,j<m->(l.flatMap f)[k*m+j]? =(f x)[j]? :=by
 induction l with
 |nil=>intro k x hk;simp at hk
 | cons y r ih=>
  intro k x hk j hj;rw[List.flatMap_cons]
  cases k with
  | zero=>
   simp at hk;subst hk;rw[Nat.zero_mul,Nat.zero_add,Ym (by rw[hm];exact hj)]
  | succ k=>
   have:=ih k x (by simpa using hk) j hj;rw[<-this,List.getElem?_append_right (by rw[hm,Nat.succ_mul];omega),hm,Nat.succ_mul];congr 1;omega
theorem kM{α:Type}(f:α->List Value)(m:Nat)(hm:∀x,(f x).length=m)(l:List α):(l.flatMap f).length=l.length*m:=by
 induction l with
 |nil=>simp
 |cons y r ih=>rw[List.flatMap_cons,Qg,ih,hm,List.length_cons,Nat.succ_mul];omega
theorem RU:(prog.info? 56).map (λi=>(i.zero,i.size,i.bytes))=some (some Bk.zero.v,8,8):=kR
theorem aGx:(prog.info? 151).map (λi=>(i.zero,i.size,i.bytes))=some (some (Sw.v ⟨0,Bk.zero⟩),9,16):=kR
structure zM(w:Wd)(b o k:Nat)(x:Bk):Prop where
 c0:w (cw b (o+k*8))=some (.int .u8 x.x0)
 c1:w (cw b (o+k*8+1))=some (.int .u8 x.x1)
 c2:w (cw b (o+k*8+2))=some (.int .u8 x.x2)
 c3:w (cw b (o+k*8+3))=some (.int .u8 x.x3)
 c4:w (cw b (o+k*8+4))=some (.int .u8 x.x4)
 c5:w (cw b (o+k*8+5))=some (.int .u8 x.x5)
 c6:w (cw b (o+k*8+6))=some (.int .u8 x.x6)
 c7:w (cw b (o+k*8+7))=some (.int .u8 x.x7)
theorem zM.keep{w w':Wd}{b o k:Nat}{x:Bk}(h:zM w b o k x)(hb:Below w w w'):zM w' b o k x:=⟨hb.keep h.c0,hb.keep h.c1,hb.keep h.c2,hb.keep h.c3,hb.keep h.c4,hb.keep h.c5,hb.keep h.c6,hb.keep h.c7⟩
def RdB(w:Wd)(a:OA)(D:List Bk):Prop:=
 D.length<=1000000/\(D=[]∨ ∃b o,a=cw b o/\ ∀k x,D[k]? =some x->zM w b o k x)
theorem RdB.keep{w w':Wd}{a:OA}{D:List Bk}(h:RdB w a D)(hb:Below w w w'):RdB w' a D:=
 ⟨h.1,h.2.imp id λ⟨b,o,ha,hc⟩=>⟨b,o,ha,λk x hk=>(hc k x hk).keep hb⟩⟩
theorem RdB.at{w:Wd}{a:OA}{D:List Bk}(hr:RdB w a D)(h:0<D.length):∃b o,a=cw b o/\ ∀k x,D[k]? =some x->zM w b o k x:=
 hr.2.resolve_left (by intro e;rw[e]at h;simp at h)
structure ZT(w:Wd)(b o k:Nat)(x:Sw):Prop where
 s:w (cw b (o+k*9))=some (.int .i64 x.s)
 c0:w (cw b (o+k*9+1))=some (.int .u8 x.d.x0)
 c1:w (cw b (o+k*9+2))=some (.int .u8 x.d.x1)
 c2:w (cw b (o+k*9+3))=some (.int .u8 x.d.x2)
 c3:w (cw b (o+k*9+4))=some (.int .u8 x.d.x3)
 c4:w (cw b (o+k*9+5))=some (.int .u8 x.d.x4)
 c5:w (cw b (o+k*9+6))=some (.int .u8 x.d.x5)
 c6:w (cw b (o+k*9+7))=some (.int .u8 x.d.x6)
 c7:w (cw b (o+k*9+8))=some (.int .u8 x.d.x7)
theorem ZT.keep{w w':Wd}{b o k:Nat}{x:Sw}(h:ZT w b o k x)(hb:Below w w w'):ZT w' b o k x:=⟨hb.keep h.s,hb.keep h.c0,hb.keep h.c1,hb.keep h.c2,hb.keep h.c3,hb.keep h.c4,hb.keep h.c5,hb.keep h.c6,hb.keep h.c7⟩
def rW(w:Wd)(a:OA)(l:List Sw):Prop:=
 l.length<=1000000/\(l=[]∨ ∃b o,a=cw b o/\ ∀k x,l[k]? =some x->ZT w b o k x)
theorem rW.keep{w w':Wd}{a:OA}{l:List Sw}(h:rW w a l)(hb:Below w w w'):rW w' a l:=
 ⟨h.1,h.2.imp id λ⟨b,o,ha,hc⟩=>⟨b,o,ha,λk x hk=>(hc k x hk).keep hb⟩⟩
theorem rW.at{w:Wd}{a:OA}{l:List Sw}(hr:rW w a l)(h:0<l.length):∃b o,a=cw b o/\ ∀k x,l[k]? =some x->ZT w b o k x:=
 hr.2.resolve_left (by intro e;rw[e]at h;simp at h)
def lN(w:Wd)(B:Nat)(v:Value)(l:List Sw):Prop:=w.ownsRow B 151 9 v l.length (l.flatMap Sw.cells)
theorem lN.nil(w:Wd)(B:Nat):lN w B sn []:=World.ownsRow_nil _ _ _ _
theorem lN.lt{w:Wd}{B:Nat}{v:Value}{l:List Sw}(h:lN w B v l):∀k,v.ownBlock=some k->B<=k/\k<w.heap.size:=World.ownsRow.lt h
theorem lN.other{w w':Wd}{B:Nat}{v:Value}{l:List Sw}{row:Option Nat}(h:lN w B v l)(hg:w.grownBy w' row)(hne:v.ownBlock=none∨v.ownBlock≠row):lN w' B v l:=
 World.ownsRow.kept h hg hne
theorem lN.keep{w w':Wd}{B:Nat}{v:Value}{l:List Sw}(h:lN w B v l)(hb:Below w w w'):lN w' B v l:=
 World.ownsRow.kept h (row:=none) ⟨hb.os,hb.tape,hb.output,hb.size,λk hk _=>hb.block k hk⟩ (by cases hv:v.ownBlock <;> simp)
theorem lN.rd{w:Wd}{B:Nat}{v:Value}{l:List Sw}(h:lN w B v l)(hl:l.length<=1000000):∃a c,v= .slice a l c/\rW w a l:=by
 rcases h.2 with ⟨rfl,hn⟩|⟨g,cap,cur,rfl,hb,hg,hn,hc,hs,ht⟩
 ·obtain rfl:=Qz hn;exact⟨_,_,rfl,sM,.inl rfl⟩
 ·refine⟨_,_,rfl,hl,.inr ⟨g,0,rfl,λk x hk=> ?_⟩⟩;have hk':k<l.length:=(Qx.1 hk).1;have c:=λj hj=>Ys (cap:=cap) h j hj;have f:=λj hj=>flat_get Sw.cells 9 (λ_=>rfl) l k x hk j hj;refine⟨?_,?_,?_,?_,?_,?_,?_,?_,?_⟩
  ·rw[Nat.zero_add,c _ oM];exact f 0 oM
  ·rw[Nat.zero_add,c _ oM];exact f 1 oM
  ·rw[Nat.zero_add,c _ oM];exact f 2 oM
  ·rw[Nat.zero_add,c _ oM];exact f 3 oM
  ·rw[Nat.zero_add,c _ oM];exact f 4 oM
  ·rw[Nat.zero_add,c _ oM];exact f 5 oM
  ·rw[Nat.zero_add,c _ oM];exact f 6 oM
  ·rw[Nat.zero_add,c _ oM];exact f 7 oM
  ·rw[Nat.zero_add,c _ oM];exact f 8 oM
theorem lN.snoc{w:Wd}{B n:Nat}{v:Value}{l:List Sw}{x:Sw}(h:w.ownsRow B 151 9 v n (l.flatMap Sw.cells++x.cells))(hn:n=l.length+1):lN w B v (l++[x]):=by
 subst hn;unfold lN;rw[List.flatMap_append,Qg];have:[x].flatMap Sw.cells=x.cells:=by simp
 rw[this];exact h
theorem Sw.one(x:Sw):∀u∈x.cells,u.oneCell'=true:=by
 intro u hu;simp only[Sw.cells,Bk.cells,Yl,List.not_mem_nil,or_false]at hu;rcases hu with rfl|rfl|rfl|rfl|rfl|rfl|rfl|rfl|rfl <;> rfl
theorem aFa(W:Wd)(n:Nat)(hn:n=W.heap.size)(x:Sw)(t:TypeId):∀j u,x.cells[j]? =some u->(W.alloc (.cells x.cells.toArray t)).cell? (((cw n 0):Addr).add j)=some u:=by
 subst hn;intro j u hj;have hlt:=(Qx.1 hj).1;have:(((cw W 0):Addr).add j)=(cw W j):=by cases j <;> simp[Addr.add]
 rw[this,World.cell?_alloc_new]
 simpa using hj
def jO(F:Fam)(nm:LU)(p n:Int):Int:=if (dW F nm).2=0 then (if 1<=n/\n<=16 then fM F nm p n else 1)else (dW F nm).2
def aCt(w:Wd)(x:Int)(e:Ending)(w':Wd):Prop:=e= .returned (.tuple #[sn,sn,x])/\Below w w w'
theorem XD(M:Nat)(F:Fam)(x:Int)(nm:LU)(p:Int)(n cd:Nat)(ad:OA)(w:Wd)(hF:F.ok)(hs:∀v∈F.vs,v.l.length<=9000)(h:iO w M F)(hn:nm.length<=1000000)(hp: -9223372036854775808<=p/\p<=9223372036854775807)(hnn:n<=1000000)(he:jO F nm p n=x)(hx:x≠0):
  ep 108 #[.pointer (cw M 0),nmV nm,p,.slice ad n cd] w (aCt w x):=by
 obtain⟨a,c,m,hb,hf⟩:=h.form;have HM:=hD hb;have HFA:=hD hf;have HF:=hD hF;have HS:=hD hs;have hnm:nm.length<=maxLen:=by simp only[maxLen];omega
 clear hb hf h hF hs;have m0:=HM.o.c0;have m1:=HM.o.c1;obtain⟨im,i1,i2,i3,i4,x0,hin⟩:∃im i1 i2 i3 i4 x0,dW F nm=(⟨im,i1,i2,i3,i4⟩,x0):=⟨_,_,_,_,_,_,rfl⟩;have HIN:=hD (BS F im i1 i2 i3 i4 x0 _ nm _ HF.o HS.o HFA.o hnm hin);unfold jO at he;rw[hin]at he;simp only at he;by_cases h0:x0=0
 ·subst h0;rw[Qf rfl]at he;by_cases h1:1<=n/\n<=16
  ·rw [Qf oM]at he;obtain⟨k,y,hy⟩:∃k y,jP F nm p n=(k,y):=⟨_,_,rfl⟩;have HND:=hD (λW h=>zT F k y (.agg #[.slice a F.N c,.map m]) nm p n W HF.o HS.o h hnm hp oM hy);have HCW:=hD (λW h=>Gt F x (.agg #[.slice a F.N c,.map m]) nm p n W HF.o HS.o h hnm hp oM he);have hn1:((n:Int)==0)=false:=by simp;omega
   by_cases hy0:y=0
   ·subst hy0;have hxb:(x != 0)=true:=by simpa using hx
    clear he hx hin hy;go_enter func108,ntmps108;go_wp2_with fail;refine HIN.o.m ?_;rintro e w1 ⟨rfl,hb⟩;have hk1:=hb.aIw (cq #[nmV im,.int .i64 i1,.int .i64 i2,.int .i64 i3,.int .i64 i4] 94);have HB:=hD hk1;have HM1:=hD (HM.o.aIx hk1);have HFA1:=hD (HFA.o.keep hk1);clear hb hk1 m0 m1 HM HFA;have m0:=HM1.o.c0;have m1:=HM1.o.c1;go_wp2_with fail;refine(HND.o _ HFA1.o).m ?_;rintro e w2 ⟨rfl,hb⟩;have HB2:=hD (HB.o.on hb);have HM2:=hD (HM1.o.aIx hb);have HFA2:=hD (HFA1.o.keep hb);clear hb m0 m1;have m0:=HM2.o.c0;have m1:=HM2.o.c1;go_wp2_with fail;refine(HCW.o _ HFA2.o).m ?_;rintro e w3 ⟨rfl,hb⟩;have HB3:=hD (HB2.o.on hb);clear hb m0 m1;go_wp2_with fail;refine Yg (v:= .tuple #[sn,sn,x]) aEn rfl ⟨rfl,HB3.o⟩
   ·have hyx:y=x:=by
     rw[<-he];unfold fM;rw[hy];simp[hy0]
    subst hyx;have hxb:(y != 0)=true:=by simpa using hx
    clear he hx hin hy hy0;go_enter func108,ntmps108;go_wp2_with fail;refine HIN.o.m ?_;rintro e w1 ⟨rfl,hb⟩;have hk1:=hb.aIw (cq #[nmV im,.int .i64 i1,.int .i64 i2,.int .i64 i3,.int .i64 i4] 94);have HB:=hD hk1;have HM1:=hD (HM.o.aIx hk1);have HFA1:=hD (HFA.o.keep hk1);clear hb hk1 m0 m1 HM HFA;have m0:=HM1.o.c0;have m1:=HM1.o.c1;go_wp2_with fail;refine(HND.o _ HFA1.o).m ?_;rintro e w2 ⟨rfl,hb⟩;have HB2:=hD (HB.o.on hb);clear hb m0 m1;go_wp2_with fail;refine Yg (v:= .tuple #[sn,sn,.int .i64 y]) aEn rfl ⟨rfl,HB2.o⟩
  ·rw [Qe oM]at he;subst he;clear hx hin;by_cases hz:n=0
   ·subst hz;exact aEp
   ·have hn1:((n:Int)==0)=false:=by simp;omega
    exact aEp
 ·rw[Qe h0]at he;subst he;have hxb:(x0 != 0)=true:=by simpa using hx
  clear hx h0 hin;go_enter func108,ntmps108;go_wp2_with fail;refine HIN.o.m ?_;rintro e w1 ⟨rfl,hb⟩;have hk1:=hb.aIw (cq #[nmV im,.int .i64 i1,.int .i64 i2,.int .i64 i3,.int .i64 i4] 94);have HB:=hD hk1;have HM1:=hD (HM.o.aIx hk1);have HFA1:=hD (HFA.o.keep hk1);clear hb hk1 m0 m1 HM HFA;have m0:=HM1.o.c0;have m1:=HM1.o.c1;go_wp2_with fail;refine Yg (v:= .tuple #[sn,sn,.int .i64 x0]) aEn rfl ⟨rfl,HB.o⟩
theorem aBr{C:List Int}{l:List E}{b:Int}(h:fI l b=false):exB C l b=false:=by
 unfold fI at h;unfold exB aF
 cases hf:l.find? (hits b)with
 |none=>rfl
 |some x=>rw[hf]at h;simp at h
theorem aBq{C:List Int}{l:List E}{b:Int}(h:fI l b=true):exB C l b=bN C (fU l b).toNat:=by
 unfold fI at h;unfold exB aF fU
 cases hf:l.find? (hits b)with
 |none=>rw[hf]at h;simp at h
 |some x=>rfl
def exJ(C:List Int)(l:List E)(p j:Nat):Bool:=exB C l ((p+j:Nat):Int)
def eF(C:List Int)(l:List E)(p i:Nat):Nat:=aK (λj=> !exJ C l p j) i
theorem qF(C:List Int)(l:List E)(p:Nat):eF C l p 0=0:=rfl
theorem rX{C:List Int}{l:List E}{p i:Nat}(h:exJ C l p i=true):eF C l p (i+1)=eF C l p i:=by
 unfold eF;simp[aK,h]
theorem jA{C:List Int}{l:List E}{p i:Nat}(h:exJ C l p i=false):eF C l p (i+1)=eF C l p i+1:=by
 unfold eF;simp[aK,h]
theorem gM(C:List Int)(l:List E)(p:Nat){i j:Nat}(h:i<=j):eF C l p i<=eF C l p j:=by
  induction j with
  | zero => obtain rfl:i=0:=oM
            exact Ye _
  | succ j ih=>
    by_cases hi:i=j+1
    · subst hi;exact Ye _
    · have:=ih oM;unfold eF at *;simp only[aK];omega
theorem mK(C:List Int)(l:List E)(p n:Nat):jN C l p n=eF C l p n:=by
 unfold jN eF;show(n:Int)-aK (λj=>exJ C l p j) n=_;have:(aK (λj=>exJ C l p j) n:Int)+aK (λj=> !exJ C l p j) n=n:=by
  induction n with
  |zero=>rfl
  | succ n ih=>
   simp only[aK];by_cases h:exJ C l p n=true
   ·rw[Qf h,Qe (by rw[h];simp)];omega
   ·rw[Qe h,Qf (by simpa using h)];omega
 omega
def bK(C:List Int)(l:List E)(p:Nat)(S:List Int)(j:Nat):Int:=if exJ C l p j=true then fU l ((p+j:Nat):Int)else S.getD (eF C l p j) 0
def wrL(C:List Int)(l:List E)(p:Nat)(S:List Int)(D:List Bk)(i:Nat):List Sw:=(List.range i).map λj=>⟨bK C l p S j,D.getD j Bk.zero⟩
def chL(C:List Int)(l:List E)(p:Nat)(S:List Int)(i:Nat):List E:=((List.range i).filter λj=> !exJ C l p j).map λj=>⟨((p+j:Nat):Int),1,bK C l p S j⟩
section
variable{C:List Int}{l:List E}{p:Nat}{S:List Int}{D:List Bk}
theorem wW(i:Nat):(wrL C l p S D i).length=i:=by simp[wrL]
theorem DN(i:Nat):wrL C l p S D (i+1)=wrL C l p S D i++[⟨bK C l p S i,D.getD i Bk.zero⟩]:=by simp[wrL,List.range_succ]
theorem Zz:chL C l p S 0=[]:=rfl
theorem Sj{i:Nat}(h:exJ C l p i=true):chL C l p S (i+1)=chL C l p S i:=by simp[chL,List.range_succ,List.filter_append,h]
theorem ZA{i:Nat}(h:exJ C l p i=false):chL C l p S (i+1)=chL C l p S i++[⟨((p+i:Nat):Int),1,bK C l p S i⟩]:=by simp[chL,List.range_succ,List.filter_append,h]
theorem JK(i:Nat):(chL C l p S i).length<=i:=by
 unfold chL;rw[Yy];have:=List.length_filter_le (λj=> !exJ C l p j) (List.range i)
 simpa using this
theorem Am{i:Nat}(h:exJ C l p i=true):bK C l p S i=fU l ((p+i:Nat):Int):=Qf h
theorem nH{i:Nat}(h:exJ C l p i=false):bK C l p S i=S.getD (eF C l p i) 0:=Qe (by rw[h];simp)
theorem IE{n:Nat}(hS:∀s∈S,0<=s/\s<65536)(hp:p+n<=65536)(hn:eF C l p n<=S.length):∀i,i<=n->aH (chL C l p S i)=true:=by
 intro i hi;refine(bP _).2 ⟨?_,?_⟩
 ·intro x hx;unfold chL at hx;obtain⟨j,hj,rfl⟩:=Yd.1 hx;rw[List.mem_filter,List.mem_range]at hj;obtain⟨hj1,hj2⟩:=hj;have hj2:exJ C l p j=false:=by simpa using hj2
  have hu:=gM C l p (show j+1<=n by omega);rw[jA hj2]at hu;have hlt:eF C l p j<S.length:=oM
  have hs:=hS _ (Qm hlt);rw[aB,nH hj2,Ql,Qa hlt,Option.getD_some];simp only;omega
 ·unfold chL;rw[List.pairwise_map];refine List.Pairwise.filter _ ?_;exact List.pairwise_lt_range.imp λ{a b} h=>by simp only;omega
end
theorem IZ:∀{A B:List Vol},gU A->gU B->(∀x,x∈A↔x∈B)->A=B:=by
 intro A
 induction A with
 | nil=>
  intro B _ _ h
  cases B with
  |nil=>rfl
  |cons b B=>exact absurd ((h b).2 sM) sM
 | cons a A ih=>
  intro B hA hB h
  cases B with
  |nil=>exact absurd ((h a).1 sM) sM
  | cons b B=>
   obtain ⟨hA1,hA2⟩:=Yk.1 hA;obtain⟨hB1,hB2⟩:=Yk.1 hB;have hab:a=b:=by
    rcases Yl.1 ((h a).1 sM)with e|e
    ·exact e
    ·rcases Yl.1 ((h b).2 sM)with e2|e2
     ·exact e2.symm
     ·have h1:=uZ _ _ (hB1 a e);rw[hA1 b e2]at h1;cases h1
   subst hab;congr 1;refine ih hA2 hB2 λx=>⟨λhx=> ?_,λhx=> ?_⟩
   ·rcases Yl.1 ((h x).1 (List.mem_cons_of_mem _ hx))with rfl|e
    ·have h1:=hA1 x hx;rw[before_irrefl]at h1;cases h1
    ·exact e
   ·rcases Yl.1 ((h x).2 (List.mem_cons_of_mem _ hx))with rfl|e
    ·have h1:=hB1 x hx;rw[before_irrefl]at h1;cases h1
    ·exact e
theorem Jz{F G:Fam}(hF:F.ok)(hG:G.ok)(hN:F.N=G.N)(h:∀nm,aN F.vs nm=aN G.vs nm):F=G:=by
 obtain⟨N,vs⟩:=F;obtain⟨M,ws⟩:=G;simp only at hN h;subst hN;congr 1;refine IZ hF.sorted hG.sorted λx=>⟨λhx=> ?_,λhx=> ?_⟩
 ·have h1:aN vs x.nm=some x:=rH hF.sorted hx;rw[h]at h1;exact(aC h1).1
 ·have h1:aN ws x.nm=some x:=rH hG.sorted hx;rw[<-h]at h1;exact(aC h1).1
theorem LM{A B:List E}(hA:aH A=true)(nA:fT A=true)(hB:aH B=true)(nB:fT B=true)(h:∀p,aF A p=aF B p):A=B:=by
 have:=wE A B hA hB h
 rwa [(nW A).2 nA,(nW B).2 nB]at this
theorem vP(x:E)(r:List E)(b:Int):aF (x::r) b=if hits b x then some (x.s+b-x.a)else aF r b:=by
 unfold aF;by_cases h:hits b x=true
 ·rw[List.find?_cons_of_pos h,Qf h];rfl
 ·rw[List.find?_cons_of_neg h,Qe h]
theorem nE(l:List E)(e b:Int)(h:bD e l=true)(hb:b<e):aF l b=none:=by
 refine nO l b λx hx=> ?_;have:=((nD l e).1 h).2.2 x hx;unfold hits;rw[Qp oM];rfl
theorem qR(i:Nat)(l:List E):∀e,0<=e->bD e l=true->cnt l i=aK (λb:Nat=>decide (aF l b=some (i:Int))) 65536:=by
 induction l with
 |nil=>intro e _ _;rw[dK _ _ λb _=>by simp[aF]];rfl
 | cons x r ih=>
  intro e h0 hv;have hv':=hv;simp only[bD,Qd,Qc]at hv';obtain⟨c1,c2,c3,c4,c5⟩:=(aB x).1 hv'.1;have hr:=hv'.2.2;have h1:=ih (x.a+x.n) oM hr;rw[MR,h1];have e1:aK (λb:Nat=>decide (aF (x::r) b=some (i:Int))) 65536=aK (λb:Nat=>(hits b x&&decide (x.s+b-x.a=i))||decide (aF r b=some (i:Int))) 65536:=aM _ _ _ λb _=>by
   rw[vP];by_cases h:hits b x=true
   ·have hb:(b:Int)<x.a+x.n:=by
     simp only[hits,Qd,Qc]at h;exact h.2
    rw[Qf h,h,nE r _ b hr hb];simp
   ·rw[Qe h];have h:hits b x=false:=by simpa using h
    rw[h];simp
  rw [e1,pQ _ _ _ λb _ hb hc=>by
   simp only[Qd,hits,Qc]at hb hc;rw[nE r _ b hr hb.1.2]at hc
   cases hc]
  have e2:(aK (λb:Nat=>hits b x&&decide (x.s+b-x.a=i)) 65536:Int)=uU x i:=by
   obtain⟨k,hk,hc⟩:=DI x i;rw[hk];rcases hc with ⟨⟨q1,q2⟩,rfl⟩|⟨q,rfl⟩
   ·have:=Bi (x.a+i-x.s).toNat 65536 oM;rw[aM _ (λb=>decide (b=(x.a+i-x.s).toNat)) _ λb _=>by
     rw[Qw];simp only[hits,Qd,Qc];omega,this]
    rfl
   ·rw [dK _ _ λb _=>by
     rw[Bool.eq_false_iff];simp only[hits,ne_eq,Qd,Qc];omega]
    rfl
  rw[<-e2];omega
def aGv(l:List E):Prop:= ∀b c s,aF l b=some s->aF l c=some s->b=c
def Fam.once(F:Fam):Prop:= ∀v∈F.vs,aGv v.l
theorem Vp(f:Nat->Bool)(n:Nat)(h:∀i j,f i=true->f j=true->i=j):aK f n<=1:=by
 induction n with
 |zero=>simp[aK]
 | succ n ih=>
  simp only[aK];by_cases hn:f n=true
  ·rw [Qf hn,dK f n λi hi=>by
    rw[Bool.eq_false_iff];intro hc;have:=h i n hc hn
    omega]
   exact Ye _
  ·rw[Qe hn];exact ih
theorem JH{l:List E}(hv:aH l=true)(h:aGv l)(i:Nat):cnt l i<=1:=by
 rw [qR i l 0 (Int.le_refl _) hv];have:=Vp (λb:Nat=>decide (aF l b=some (i:Int))) 65536 λa b ha hb=>by
  have:=h a b i (Qt ha) (Qt hb);omega
 omega
theorem tF{l:List E}(hv:aH l=true){b s:Int}(h:aF l b=some s)(hs:0<=s):1<=cnt l s.toNat:=by
 have hb:0<=b/\b<65536:=by
  by_cases hq:b<0∨65536<=b
  ·rw[pF l hv b hq]at h;cases h
  ·omega
 rw[qR s.toNat l 0 (Int.le_refl _) hv];by_cases hz:aK (λb:Nat=>decide (aF l b=some ((s.toNat:Nat):Int))) 65536=0
 ·have h1:decide (aF l ((b.toNat:Nat):Int)=some ((s.toNat:Nat):Int))=false:=(nK _ _).1 hz b.toNat oM;rw[Int.toNat_of_nonneg hs,Int.toNat_of_nonneg hb.1,h]at h1;simp at h1
 ·omega
theorem MQ{l:List E}(hv:aH l=true){i:Nat}(h:∀b,aF l b≠some (i:Int)):cnt l i=0:=by
 rw [qR i l 0 (Int.le_refl _) hv,dK _ _ λb _=>by
  rw[Qp (h b)]]
 rfl
theorem qG{N:Nat}{l:List E}(h:aQ N l=true){b s:Int}(hs:aF l b=some s):0<=s/\s<N:=by
 unfold aF at hs
 cases hf:l.find? (hits b)with
 |none=>rw[hf]at hs;simp at hs
 | some x=>
  rw[hf]at hs;have h1:=(aP _ _).1 h x (List.mem_of_find?_eq_some hf);have h2:=List.find?_some hf;simp only[hits,Qd,Qc]at h2;simp at hs;omega
theorem lJ(l:List E)(b:Int):aF l b=if fI l b=true then some (fU l b)else none:=by
 unfold aF fI fU;cases l.find? (hits b) <;> simp
theorem Bb{F:Fam}(hF:F.ok){v:Vol}(hv:aN F.vs v.nm=some v)(i:Nat)(hi:i<F.N):cnt v.l i<=F.C.getD i 0:=by
 rw[hF.get i hi,<-oL hF.sorted hv];have:=lL (bZ F.vs v.nm) i;omega
theorem Sr{G:Fam}{u:Vol}(hu:aN G.vs u.nm=some u){x:E}(h0:0<=x.a)(h1:1<=x.n)(h2:x.a+x.n<=u.n)(h3:0<=x.s)(h4:x.s+x.n<=G.N):
  aV G u.nm x=(G.with (u.set (bM u.l x)),eY G (G.with (u.set (bM u.l x))),0):=by
 have hx:(inB x.a x.n u.n&&rA G.N x)=true:=by
  rw[Qd];exact⟨(iK _ _ _).2 ⟨oM,oM,oM,oM⟩,Qo ⟨h1,h3,h4⟩⟩
 unfold aV;rw[hu];show(if (inB x.a x.n u.n&&rA G.N x)=false then _ else _)=_;rw[Qe (by rw[hx];decide)]
structure PW(F:Fam)(v:Vol)(p n:Nat)(S:List Int):Prop where
 sound:F.sound
 once:F.once
 get:aN F.vs v.nm=some v
 le:((p+n:Nat):Int)<=v.n
 room:jN F.C v.l p n<=aY F.C v+dC F
 fresh:∀s∈S,0<=s/\s<F.N/\F.C.getD s.toNat 0=0
 nodup:S.Nodup
 much:eF F.C v.l p n<=S.length
section
variable{F:Fam}{v:Vol}{p n:Nat}{S:List Int}
theorem PW.vok(h:PW F v p n S):v.ok F.N:=h.sound.ok.vol v (aC h.get).1
theorem kT{C:List Int}{l:List E}{p j:Nat}(S:List Int)(h:exJ C l p j=true):∃s,aF l ((p+j:Nat):Int)=some s/\bK C l p S j=s/\C.getD s.toNat 0=1:=by
 rw[Am h];unfold exJ exB at h;rw[lJ]at h ⊢;cases hf:fI l ((p+j:Nat):Int)
 ·rw[hf,Qe dE]at h;cases h
 ·rw[hf,Qf rfl]at h;exact⟨_,by rw[Qf rfl],rfl,by simpa [bN]using h⟩
theorem PW.pick_new(h:PW F v p n S){j:Nat}(hj:j<n)(hx:exJ F.C v.l p j=false):eF F.C v.l p j<S.length/\bK F.C v.l p S j∈S/\ ∀u,(hu:u<S.length)->S[u]=bK F.C v.l p S j->u=eF F.C v.l p j:=by
 have h1:=gM F.C v.l p (show j+1<=n by omega);rw[jA hx]at h1;have h2:=h.much;have hlt:eF F.C v.l p j<S.length:=oM
 have e:bK F.C v.l p S j=S[eF F.C v.l p j]:=by
  rw[nH hx,Ql,Qa hlt];rfl
 rw[e];refine⟨hlt,Qm hlt,λu hu he=> ?_⟩;have hpw:=List.pairwise_iff_getElem.1 h.nodup;rcases Nat.lt_trichotomy u (eF F.C v.l p j)with q|q|q
 ·exact absurd he (hpw _ _ hu hlt q)
 ·exact q
 ·exact absurd he.symm (hpw _ _ hlt hu q)
theorem PW.aJi(h:PW F v p n S){j:Nat}(hj:j<n):0<=bK F.C v.l p S j/\bK F.C v.l p S j<F.N:=by
 cases hx:exJ F.C v.l p j
 ·have:=h.fresh _ (h.pick_new hj hx).2.1;omega
 ·obtain⟨s,h1,h2,_⟩:=kT S hx;rw[h2];exact qG h.vok.perm h1
theorem PW.pick_inj(h:PW F v p n S){j k:Nat}(hj:j<n)(hk:k<n)(he:bK F.C v.l p S j=bK F.C v.l p S k):j=k:=by
 cases hx:exJ F.C v.l p j
 ·obtain ⟨a1,a12,_⟩:=h.pick_new hj hx;have a2:=h.fresh _ a12;cases hy:exJ F.C v.l p k
  ·have b1:=h.pick_new hk hy;have c:=b1.2.2 _ a1 (by
    rw[<-he,nH hx,Ql,Qa a1]
    rfl)
   rcases Nat.lt_trichotomy j k with q|q|q
   ·have:=gM F.C v.l p (show j+1<=k by omega);rw[jA hx]at this;omega
   ·exact q
   ·have:=gM F.C v.l p (show k+1<=j by omega);rw[jA hy]at this;omega
  ·obtain⟨s,h1,h2,h3⟩:=kT S hy;rw[he,h2]at a2;omega
 ·obtain ⟨s,h1,h2,h3⟩:=kT S hx;cases hy:exJ F.C v.l p k
  ·have a2:=h.fresh _ (h.pick_new hk hy).2.1;rw[<-he,h2]at a2;omega
  ·obtain⟨t,g1,g2,g3⟩:=kT S hy;obtain rfl:s=t:=by rw[<-h2,<-g2,he]
   have:=h.once v (aC h.get).1 _ _ _ h1 g1;omega
def newAt(C:List Int)(l:List E)(p:Nat)(S:List Int)(j:Nat)(b:Int):Option Int:=if (p:Int)<=b/\b<(p:Int)+j then some (bK C l p S (b-p).toNat)else aF l b
theorem lU{C:List Int}{l:List E}{p:Nat}{S:List Int}{j k:Nat}(h:k<j):newAt C l p S j ((p+k:Nat):Int)=some (bK C l p S k):=by
 unfold newAt;rw[Qf oM,show(((p+k:Nat):Int)-p).toNat=k by omega]
theorem kC{C:List Int}{l:List E}{p:Nat}{S:List Int}{j:Nat}{b:Int}(h:¬ ((p:Int)<=b/\b<(p:Int)+j)):newAt C l p S j b=aF l b:=Qe h
theorem nX{C:List Int}{l:List E}{p:Nat}{S:List Int}{j:Nat}{b s:Int}(h:newAt C l p S j b=some s):(∃k,k<j/\b=((p+k:Nat):Int)/\bK C l p S k=s)∨(¬((p:Int)<=b/\b<(p:Int)+j)/\aF l b=some s):=by
 by_cases hb:(p:Int)<=b/\b<(p:Int)+j
 ·obtain⟨k,hk⟩:∃k:Nat,b=((p+k:Nat):Int):=⟨(b-p).toNat,oM⟩;subst hk;rw[lU oM]at h;exact .inl ⟨k,oM,rfl,Qv h⟩
 ·rw[kC hb]at h;exact .inr ⟨hb,h⟩
theorem PW.used(h:PW F v p n S){b s:Int}(hs:aF v.l b=some s):1<=F.C.getD s.toNat 0/\1<=cnt v.l s.toNat/\0<=s/\s<F.N:=by
 have h1:=qG h.vok.perm hs;have h2:=tF h.vok.valid hs h1.1;have h3:=Bb h.sound.ok h.get s.toNat oM;omega
theorem PW.new_inj(h:PW F v p n S){j:Nat}(hj:j<=n)(b c s:Int)(hb:newAt F.C v.l p S j b=some s)(hc:newAt F.C v.l p S j c=some s):b=c:=by
 have key:∀{b c:Int},(∃k,k<j/\b=((p+k:Nat):Int)/\bK F.C v.l p S k=s)->(¬((p:Int)<=c/\c<(p:Int)+j)/\aF v.l c=some s)->b=c:=by
  rintro b c ⟨k,hk,rfl,hp⟩ ⟨ho,hs⟩;cases hx:exJ F.C v.l p k
  ·have a2:=h.fresh _ (h.pick_new (show k<n by omega) hx).2.1;have a3:=h.used hs;rw[hp]at a2;omega
  ·obtain⟨t,g1,g2,g3⟩:=kT S hx;obtain rfl:t=s:=by rw[<-g2,hp]
   exact h.once v (aC h.get).1 _ _ _ g1 hs
 rcases nX hb with h1|h1
 ·rcases nX hc with h2|h2
  ·obtain⟨k,hk,rfl,hp⟩:=h1;obtain⟨m,hm,rfl,hq⟩:=h2;rw[h.pick_inj (show k<n by omega) (show m<n by omega) (by rw[hp,hq])]
  ·exact key h1 h2
 ·rcases nX hc with h2|h2
  ·exact(key h2 h1).symm
  ·exact h.once v (aC h.get).1 _ _ _ h1.2 h2.2
structure WrJ(F:Fam)(v:Vol)(p n:Nat)(S:List Int)(j:Nat)(G:Fam)(L:List E):Prop where
 wi:WrI F v p n j G
 get:aN G.vs v.nm=some (v.set L)
 at':∀b,aF L b=newAt F.C v.l p S j b
 num:∀i,i<F.N->G.C.getD i 0+cnt v.l i=F.C.getD i 0+cnt L i
theorem WrJ.start(h:PW F v p n S):WrJ F v p n S 0 F v.l:=
 ⟨WrI.start h.sound.ok h.get p n h.sound.room h.room,h.get,λb=>(kC oM).symm,λ_ _=>rfl⟩
theorem WrJ.lok{j:Nat}{G:Fam}{L:List E}(hw:WrJ F v p n S j G L):(v.set L).ok G.N:=hw.wi.ok.vol _ (aC hw.get).1
theorem WrJ.inj(h:PW F v p n S){j:Nat}(hj:j<=n){G:Fam}{L:List E}(hw:WrJ F v p n S j G L):aGv L:=λb c s hb hc=>by
 rw[hw.at']at hb hc;exact h.new_inj hj b c s hb hc
theorem WrJ.same(h:PW F v p n S){j:Nat}(hj:j<=n){G:Fam}{L:List E}(hw:WrJ F v p n S j G L){b c s:Int}(h1:aF v.l b=some s)(h2:aF L c=some s):G.C.getD s.toNat 0=F.C.getD s.toNat 0:=by
 have a:=h.used h1;have e1:=hw.num s.toNat oM;have e2:=JH h.vok.valid (h.once v (aC h.get).1) s.toNat;have e3:=JH hw.lok.valid (hw.inj h hj) s.toNat;have e4:=tF hw.lok.valid h2 oM;have e5:cnt (v.set L).l s.toNat=cnt L s.toNat:=rfl;omega
theorem WrJ.step(h:PW F v p n S){j:Nat}(hj:j<n){G:Fam}{L:List E}(hw:WrJ F v p n S j G L):
  ∃G' L',(aV G v.nm ⟨((p+j:Nat):Int),1,bK F.C v.l p S j⟩).1=G'/\(aV G v.nm ⟨((p+j:Nat):Int),1,bK F.C v.l p S j⟩).2.2=0/\WrJ F v p n S (j+1) G' L':=by
 have hle:=h.le;have hn2:=h.vok.n2;have hN:=h.sound.ok.hN;have hGN:=hw.wi.N;obtain⟨q0,q1⟩:=h.aJi hj;have ha:=Sr (u:=v.set L) hw.get (x:=⟨((p+j:Nat):Int),1,bK F.C v.l p S j⟩) sO sM (by show _<=v.n;simp only;omega) q0 sO;have hok2:=mU hw.wi.ok (v.set L).nm ⟨((p+j:Nat):Int),1,bK F.C v.l p S j⟩;have hpj:aF L ((p+j:Nat):Int)=aF v.l ((p+j:Nat):Int):=by rw[hw.at',kC oM]
 have hxo:okB ⟨((p+j:Nat):Int),1,bK F.C v.l p S j⟩=true:=(aB _).2 ⟨sM,sO,q0,sO,sO⟩;have hnew:∀b,aF (bM L ⟨((p+j:Nat):Int),1,bK F.C v.l p S j⟩) b=newAt F.C v.l p S (j+1) b:=λb=>by
  rw[tV L _ b hxo hw.lok.valid];by_cases hb:b=((p+j:Nat):Int)
  ·subst hb;rw[Qf sO,lU oM];congr 1;simp only;omega
  ·rw[Qe sO,hw.at'];unfold newAt;by_cases hb2:(p:Int)<=b/\b<(p:Int)+j
   ·rw[Qf hb2,Qf oM]
   ·rw[Qe hb2,Qe oM]
 rw[show(v.set L).nm=v.nm from rfl]at ha hok2;rw[ha]at hok2;have hcn:=λi (hi:i<G.N)=>DT hw.wi.ok (v:=v.set L) hw.get hok2 i hi;rw[ha];cases hx:exJ F.C v.l p j
 ·obtain ⟨a1,a2,_⟩:=h.pick_new hj hx;obtain⟨_,_,a3⟩:=h.fresh _ a2;obtain⟨s,hs⟩:=Qr q0;have hsl:s<F.N:=oM
  have hz:G.C.getD s 0=0:=by
   have e1:=hw.num s hsl;have e2:=Bb h.sound.ok h.get s hsl;have e3:=(bU v.l s).1;rw[hs,Int.toNat_natCast]at a3;have e4:cnt L s=0:=MQ hw.lok.valid λb hb=>by
    have hb:aF L b=some (s:Int):=hb;rw[hw.at']at hb;rcases nX hb with ⟨k,hk,rfl,hp⟩|⟨_,hq⟩
    ·have:=h.pick_inj (show k<n by omega) hj (by rw[hp,hs]);omega
    ·have:=(h.used hq).1;rw[Int.toNat_natCast]at this;omega
   omega
  have hex:exB G.C L ((p+j:Nat):Int)=false:=by
   have hx2:=hx;unfold exJ at hx2;unfold exB at hx2 ⊢;rw[hpj]
   cases hsl:aF v.l ((p+j:Nat):Int)with
   |none=>rfl
   | some t=>
    rw[hsl]at hx2;have:=hw.same h oM hsl (hpj.trans hsl);simp only[bN]at hx2 ⊢;rw[this];exact hx2
  obtain⟨G',g1,_,g3⟩:=hw.wi.step hj hw.get hex h.le oM hz;rw[<-hs,ha]at g1;refine⟨_,_,rfl,rfl,by rw[g1];exact g3,?_,hnew,λi hi=> ?_⟩
  ·show aN (fV G.vs ((v.set L).set (bM L ⟨((p+j:Nat):Int),1,bK F.C v.l p S j⟩))) v.nm=_;rw[sU hw.wi.ok.sorted,Qf (show v.nm=((v.set L).set (bM L ⟨((p+j:Nat):Int),1,bK F.C v.l p S j⟩)).nm from rfl)];rfl
  ·have e1:=hcn i oM;have e2:=hw.num i hi;have e3:cnt (v.set L).l i=cnt L i:=rfl;have e4:(v.set L).l=L:=rfl;rw[e4]at e1;have e5:(G.with ((v.set L).set (bM L ⟨((p+j:Nat):Int),1,bK F.C v.l p S j⟩))).C.getD i 0+cnt v.l i=F.C.getD i 0+cnt (bM L ⟨((p+j:Nat):Int),1,bK F.C v.l p S j⟩) i:=oM
   exact e5
 ·obtain ⟨s,h1,h2,h3⟩:=kT S hx;have hpl:bM L ⟨((p+j:Nat):Int),1,bK F.C v.l p S j⟩=L:=LM (Ej L _ hxo hw.lok.valid) (Lx L _) hw.lok.valid hw.lok.norm λb=>by
   rw[tV L _ b hxo hw.lok.valid];by_cases hb:b=((p+j:Nat):Int)
   ·subst hb;rw[Qf sO,hpj,h1,h2];congr 1;simp only;omega
   ·rw[Qe sO]
  have hse:G.with ((v.set L).set (bM (v.set L).l ⟨((p+j:Nat):Int),1,bK F.C v.l p S j⟩))=G:=by
   refine Jz hok2 hw.wi.ok rfl λnm=> ?_;show aN (fV G.vs ((v.set L).set (bM L ⟨((p+j:Nat):Int),1,bK F.C v.l p S j⟩))) nm=_;rw[sU hw.wi.ok.sorted];by_cases hnm:nm=v.nm
   ·rw[Qf (show nm=((v.set L).set (bM L ⟨((p+j:Nat):Int),1,bK F.C v.l p S j⟩)).nm from hnm),hnm,hw.get,hpl];rfl
   ·rw[Qe (show ¬nm=((v.set L).set (bM L ⟨((p+j:Nat):Int),1,bK F.C v.l p S j⟩)).nm from hnm)]
  have hex:exB G.C L ((p+j:Nat):Int)=true:=by
   unfold exB;rw[hpj,h1];have:=hw.same h oM h1 (hpj.trans h1);simp only[bN];rw[this,h3];rfl
  refine⟨G,L,hse,rfl,hw.wi.skip hj hw.get hex,hw.get,λb=>by rw[<-hnew,hpl],hw.num⟩
theorem aCo:∀(X:List E) (F:Fam) (v:Vol) (e:Int),F.ok->aN F.vs v.nm=some v->0<=e->bD e X=true->(∀x∈X,x.a+x.n<=v.n/\x.s+x.n<=F.N)->
  Nl F v.nm X/\(FI F v.nm X).ok/\(FI F v.nm X).N=F.N/\(∃L,aN (FI F v.nm X).vs v.nm=some (v.set L)/\ ∀b,aF L b=(aF X b).or (aF v.l b))/\ ∀nm,nm≠v.nm->aN (FI F v.nm X).vs nm=aN F.vs nm:=by
 intro X
 induction X with
 |nil=>intro F v e hF hv _ _ _;exact⟨trivial,hF,rfl,⟨v.l,hv,λb=>rfl⟩,λ_ _=>rfl⟩
 | cons x r ih=>
  intro F v e hF hv h0 hV hX;have hv':=hV;simp only[bD,Qd,Qc]at hv';obtain⟨c1,c2,c3,c4,c5⟩:=(aB x).1 hv'.1;have hr:=hv'.2.2;have hx:=hX x sM;have ha:=Sr hv (x:=x) oM c1 hx.1 c3 hx.2;have hok:=mU hF v.nm x;rw[ha]at hok;have hg:∀nm,aN (F.with (v.set (bM v.l x))).vs nm=if nm=v.nm then some (v.set (bM v.l x))else aN F.vs nm:=λnm=>sU hF.sorted _ _;obtain⟨r1,r2,r3,⟨L,r4,r5⟩,r6⟩:=ih (F.with (v.set (bM v.l x))) (v.set (bM v.l x)) (x.a+x.n) hok (by rw[show(v.set (bM v.l x)).nm=v.nm from rfl,hg,Qf rfl]) oM hr λy hy=>hX y (by simp[hy]);rw[show(v.set (bM v.l x)).nm=v.nm from rfl]at r1 r2 r3 r4 r6;have e1:FI F v.nm (x::r)=FI (F.with (v.set (bM v.l x))) v.nm r:=by
   show FI (aV F v.nm x).1 v.nm r=_;rw[ha]
  refine⟨⟨by rw[ha],by rw[ha];exact r1⟩,by rw[e1];exact r2,by rw[e1,r3];rfl,⟨L,by rw[e1,r4];rfl,λb=> ?_⟩,λnm hne=>by rw[e1,r6 nm hne,hg,Qe hne]⟩;rw[r5,vP,show(v.set (bM v.l x)).l=bM v.l x from rfl,tV v.l x b hv'.1 (hF.vol v (aC hv).1).valid];by_cases hb:hits b x=true
  ·rw[Qf hb];simp only[hits,Qd,Qc]at hb;rw[nE r _ b hr hb.2,Qf hb];rfl
  ·rw[Qe hb];simp only[hits,Qd,Qc]at hb;rw[Qe hb]
theorem aFe(C:List Int)(l:List E)(p:Nat)(S:List Int)(b:Int):∀i,aF (chL C l p S i) b=if (p:Int)<=b/\b<(p:Int)+i/\exJ C l p (b-p).toNat=false then some (bK C l p S (b-p).toNat)else none:=by
 intro i
 induction i with
 |zero=>rw[Zz,Qe oM];rfl
 | succ i ih=>
  cases hx:exJ C l p i
  ·rw [ZA hx,dV,ih,jM];by_cases hb:b=((p+i:Nat):Int)
   ·subst hb;rw[Qe oM,Qf aEm,show(((p+i:Nat):Int)-p).toNat=i by omega,Qf ⟨oM,oM,hx⟩];simp
   ·have h2:hits b ⟨((p+i:Nat):Int),1,bK C l p S i⟩=false:=by
     simp only[hits,Yo,Qy];omega
    rw[h2,Qe (show ¬(false=true) by decide),Option.or_none];by_cases hc:(p:Int)<=b/\b<(p:Int)+i/\exJ C l p (b-p).toNat=false
    ·rw[Qf hc,Qf ⟨hc.1,oM,hc.2.2⟩]
    ·rw[Qe hc,Qe (λhd=>hc ⟨hd.1,oM,hd.2.2⟩)]
  ·rw [Sj hx,ih];by_cases hc:(p:Int)<=b/\b<(p:Int)+i/\exJ C l p (b-p).toNat=false
   ·rw[Qf hc,Qf ⟨hc.1,oM,hc.2.2⟩]
   ·rw [Qe hc,Qe (λhd=>hc ⟨hd.1,by
     by_cases hb:b=((p+i:Nat):Int)
     ·subst hb;have:=hd.2.2;rw[show(((p+i:Nat):Int)-p).toNat=i by omega,hx]at this;cases this
     ·omega,hd.2.2⟩)]
theorem PW.fits(h:PW F v p n S):∀s∈S,0<=s/\s<65536:=λs hs=>by
 have:=h.fresh s hs;have:=h.sound.ok.hN;omega
theorem PW.ch_valid(h:PW F v p n S):aH (chL F.C v.l p S n)=true:=IE h.fits (by have:=h.le;have:=h.vok.n2;omega) h.much n (Ye _)
theorem PW.join_valid(h:PW F v p n S):aH (joinL (chL F.C v.l p S n))=true:=Go.Proofs.YtphfgbbbejloaaaGreatDoor.yZ _ h.ch_valid
theorem PW.join_in(h:PW F v p n S):∀x∈joinL (chL F.C v.l p S n),(p:Int)<=x.a/\x.a+x.n<=(p:Int)+n/\x.s+x.n<=F.N:=λx hx=>by
 have hv:=h.join_valid;obtain⟨c1,c2,c3,c4,c5⟩:=(aB x).1 (aL hv x hx);have at1:∀b,hits b x=true->(p:Int)<=b/\b<(p:Int)+n/\x.s+b-x.a<F.N:=λb hb=>by
  have h1:=yP _ hv x hx b hb;rw[nP _ _ (aL h.ch_valid),aFe]at h1;by_cases hc:(p:Int)<=b/\b<(p:Int)+n/\exJ F.C v.l p (b-p).toNat=false
  ·rw[Qf hc]at h1;have h2:=h.aJi (j:=(b-p).toNat) oM;injection h1 with h1;omega
  ·rw[Qe hc]at h1;cases h1
 have q1:=at1 x.a aEm;have q2:=at1 (x.a+x.n-1) aEm;omega
theorem PW.asg(h:PW F v p n S){G:Fam}{L:List E}(hw:WrJ F v p n S n G L):Nl F v.nm (joinL (chL F.C v.l p S n))/\FI F v.nm (joinL (chL F.C v.l p S n))=G:=by
 have hle:=h.le;obtain⟨r1,r2,r3,⟨K,r4,r5⟩,r6⟩:=aCo (joinL (chL F.C v.l p S n)) F v 0 h.sound.ok h.get (Int.le_refl _) h.join_valid λx hx=>by
  have:=h.join_in x hx;omega
 refine⟨r1,Jz r2 hw.wi.ok (by rw[r3,hw.wi.N]) λnm=> ?_⟩;by_cases hnm:nm=v.nm
 ·subst hnm;rw[r4,hw.get];congr 2;have k2:=r2.vol _ (aC r4).1;refine LM k2.valid k2.norm hw.lok.valid hw.lok.norm λb=> ?_;rw[r5,hw.at',nP _ _ (aL h.ch_valid),aFe];by_cases hb:(p:Int)<=b/\b<(p:Int)+n
  ·obtain⟨k,hk⟩:∃k:Nat,b=((p+k:Nat):Int):=⟨(b-p).toNat,oM⟩;subst hk;rw[lU oM,show(((p+k:Nat):Int)-p).toNat=k by omega];cases hx:exJ F.C v.l p k
   ·rw[Qf ⟨oM,oM,rfl⟩];rfl
   ·obtain⟨s,h1,h2,_⟩:=kT S hx;rw[Qe sM,h1,h2];rfl
  ·rw[kC hb,Qe oM];rfl
 ·rw[r6 nm hnm,hw.wi.oth nm hnm]
theorem PW.apply(h:PW F v p n S){G:Fam}{L:List E}(hw:WrJ F v p n S n G L)(hl:(lT v.nm (joinL (chL F.C v.l p S n))).length<=256):lH F (lT v.nm (joinL (chL F.C v.l p S n)))=(G,0):=by
 obtain⟨h1,h2⟩:=h.asg hw;have hnl:=(pV h.vok.name).2;rw[ZN F v.nm _ hl oM (by unfold dW;rw[h.get]) (aL h.join_valid) h1,h2];unfold Dl;have:=hw.wi.room;rw[Qe sM,Qe sM,Qe oM]
theorem WrJ.once(h:PW F v p n S){G:Fam}{L:List E}(hw:WrJ F v p n S n G L):G.once:=λw hwm=>by
 have hg:=rH hw.wi.ok.sorted hwm;by_cases e:w.nm=v.nm
 ·rw[e,hw.get]at hg;rw[<-Qv hg];exact hw.inj h (Ye _)
 ·rw[hw.wi.oth _ e]at hg;exact h.once w (aC hg).1
end
theorem OX(N:Nat):∀(S:List Int),(∀s∈S,0<=s/\s<N)->aK (λi=>decide ((i:Int)∈S)) N<=S.length/\(S.length<=aK (λi=>decide ((i:Int)∈S)) N->S.Nodup):=by
 intro S
 induction S with
 |nil=>intro _;exact⟨by rw[dK _ _ λi _=>by simp];exact Ye _,λ_=>List.nodup_nil⟩
 | cons s r ih=>
  intro h;obtain⟨h1,h2⟩:=ih λt ht=>h t (by simp[ht]);have hs:=h s sM;have e1:aK (λi:Nat=>decide ((i:Int)∈s::r)) N=aK (λi:Nat=>decide (i=s.toNat)||decide ((i:Int)∈r)) N:=aM _ _ _ λi _=>by
   rw[Qw];simp only[Bool.or_eq_true,Qc,Yl]
   constructor
   ·rintro(q|q)
    ·exact .inl oM
    ·exact .inr q
   ·rintro(q|q)
    ·exact .inl oM
    ·exact .inr q
  have e2:=wT (λi:Nat=>decide (i=s.toNat)) (λi:Nat=>decide ((i:Int)∈r)) N;have e3:=Bi s.toNat N oM;rw[List.length_cons,e1];refine⟨oM,λhle=>List.nodup_cons.2 ⟨λhm=> ?_,h2 oM⟩⟩;have e4:aK (λi:Nat=>decide (i=s.toNat)&&decide ((i:Int)∈r)) N=0:=oM
  have e5:(decide (s.toNat=s.toNat)&&decide (((s.toNat:Nat):Int)∈r))=false:=(nK _ _).1 e4 s.toNat oM;rw[Int.toNat_of_nonneg hs.1]at e5;simp[hm]at e5
theorem Te(l:List E)(h:∀x∈l,0<=x.n)(s:Int):s∈fQ l↔ ∃x∈l,x.s<=s/\s<x.s+x.n:=by
 unfold fQ;rw[List.mem_flatMap]
 constructor
 ·rintro⟨x,hx,hs⟩;unfold jK at hs;obtain⟨k,hk,rfl⟩:=Yd.1 hs;rw[List.mem_range]at hk;exact⟨x,hx,oM,oM⟩
 ·rintro⟨x,hx,h1,h2⟩;refine⟨x,hx,?_⟩;unfold jK;exact Yd.2 ⟨(s-x.s).toNat,by rw[List.mem_range];omega,oM⟩
theorem vO{N:Nat}{l:List E}(h:aQ N l=true):((fQ l).length:Int)=aR l/\ ∀s∈fQ l,0<=s/\s<N:=by
 induction l with
 |nil=>simp[fQ,aR]
 | cons x r ih=>
  have hp:=(aP _ _).1 h;have hx:=hp x sM;obtain⟨h1,h2⟩:=ih ((aP _ _).2 λy hy=>hp y (by simp[hy]));have e1:fQ (x::r)=jK x.s x.n.toNat++fQ r:=by simp[fQ]
  have e2:aR (x::r)=x.n+aR r:=by simp[aR]
  rw[e1,e2,Qg,yO];refine⟨oM,λs hs=> ?_⟩;rcases Qn.1 hs with hs|hs
  ·unfold jK at hs;obtain⟨k,hk,rfl⟩:=Yd.1 hs;rw[List.mem_range]at hk;omega
  ·exact h2 s hs
def Al(F:Fam)(nm:LU)(p:Int)(k:Nat):List Int:=fQ (iH (eG F.C) k (yI F nm p).toNat)
theorem Xe{F:Fam}(hF:F.ok)(nm:LU)(p:Int)(k:Nat)(hf:k<=aK (dA (eG F.C)) F.N):
  (Al F nm p k).length=k/\(∀s∈Al F nm p k,0<=s/\s<F.N/\F.C.getD s.toNat 0=0)/\(Al F nm p k).Nodup:=by
 have hN:=hF.hN;have hml:(eG F.C).length=F.N:=by rw[jX,F.aIz]
 have ht:=rZ (M:=eG F.C) oM (n:=k) (h:=(yI F nm p).toNat) (by rw[hml];exact hf);unfold Al;generalize iH (eG F.C) k (yI F nm p).toNat=l at ht;have hp:=ht.perm;have hg:=(vU (by rw[hml];exact hN) ht.range).2.2;rw[hml]at hp hg;obtain⟨h1,h2⟩:=vO hp;have h3:=ht.len;have hm:=Te l λx hx=>by have:=(aP _ _).1 hp x hx;omega
 have ha:aK (λi=>decide ((i:Int)∈fQ l)) F.N=aK (dZ l) F.N:=aM _ _ _ λi _=>by
  rw[Qw,Qc,hm,sK]
 unfold BZ at hg;refine⟨oM,λs hs=> ?_,(OX F.N (fQ l) h2).2 (by rw[ha];omega)⟩;obtain⟨q0,q1⟩:=h2 s hs;have hl:dZ l s.toNat=true:=(sK _ _).2 (by
  obtain⟨x,hx,a,b⟩:=(hm s).1 hs
  exact⟨x,hx,oM,oM⟩)
 have hz:=ht.free _ hl;rw[uQ _ _ (by rw[F.aIz];omega)]at hz;exact⟨q0,q1,Qt hz⟩
theorem TW{F:Fam}{v:Vol}{p n:Nat}(hF:F.ok)(hv:aN F.vs v.nm=some v)(he:jO F v.nm p n=0):1<=n/\n<=16/\fM F v.nm p n=0:=by
 unfold jO at he;rw[ED F hF hv]at he;simp only at he;by_cases h:1<=(n:Int)/\(n:Int)<=16
 ·rw[Qf trivial,Qf h]at he;exact⟨oM,oM,he⟩
 ·rw[Qf trivial,Qe h]at he;simp at he
theorem Xb{F:Fam}{nm:LU}{p n:Int}(he:jO F nm p n=0):1<=n/\n<=16/\fM F nm p n=0:=by
 unfold jO at he;by_cases h1:(dW F nm).2=0
 ·rw[Qf h1]at he;by_cases h2:1<=n/\n<=16
  ·rw[Qf h2]at he;exact⟨h2.1,h2.2,he⟩
  ·rw[Qe h2]at he;cases he
 ·rw[Qe h1]at he;exact absurd he h1
theorem UG{F:Fam}:aK (dA (eG F.C)) F.N=aK (bH F.C) F.N:=aM _ _ _ λi hi=>uQ _ _ (by rw[F.aIz];exact hi)
theorem WT{F:Fam}(hF:F.sound)(ho:F.once){nm:LU}{p n:Int}(he:jO F nm p n=0):
  ∃(v:Vol) (p0 n0 k:Nat),aN F.vs v.nm=some v/\v.nm=nm/\p=p0/\n=n0/\1<=n0/\n0<=16/\eF F.C v.l p0 n0=k/\k<=aK (dA (eG F.C)) F.N/\PW F v p0 n0 (Al F v.nm p0 k):=by
 obtain ⟨h1,h2,h3⟩:=Xb he;obtain⟨v,p0,n0,hv,rfl,rfl,rfl,hb,hr,_⟩:=JM hF.ok hF.short h3 hF.room;have hc:=Iy hF.ok hv;have hrf:dC F=jD F-iC F:=rfl;have hfr:jD F=aK (bH F.C) F.N:=rfl;have hun:=mK F.C v.l p0 n0;have hk:eF F.C v.l p0 n0<=aK (dA (eG F.C)) F.N:=by
  rw[UG];omega
 obtain⟨s1,s2,s3⟩:=Xe hF.ok v.nm p0 (eF F.C v.l p0 n0) hk;exact⟨v,p0,n0,_,hv,rfl,rfl,rfl,oM,oM,rfl,hk,⟨hF,ho,hv,hb,hr,s2,s3,oM⟩⟩
theorem PW.at{F:Fam}{v:Vol}{p n:Nat}{S:List Int}(h:PW F v p n S):∀j,j<=n-> ∃G L,WrJ F v p n S j G L:=by
 intro j
 induction j with
 |zero=>intro _;exact⟨_,_,WrJ.start h⟩
 | succ j ih=>
  intro hj;obtain⟨G,L,hw⟩:=ih oM;obtain⟨G',L',_,_,h3⟩:=hw.step h oM;exact⟨G',L',h3⟩
theorem Uq{F:Fam}{v:Vol}{b:Int}(hv:aN F.vs v.nm=some v)(h0:0<=b)(h1:b<v.n):aX F v.nm b=(fU v.l b,fI v.l b,0):=by
 rcases uK F v.nm b with ⟨h,_⟩|⟨u,h,⟨h2,_⟩|⟨_,_,h2⟩⟩
 ·rw[hv]at h;cases h
 ·rw[hv]at h;cases h;omega
 ·rw[hv]at h;cases h;exact h2
open Go.Lib (uvarint uvarint_small uvarint_big) in
theorem yM{n:Nat}(h:n<128):(uvarint n).length=1:=by rw[uvarint_small h];rfl
open Go.Lib (uvarint uvarint_small uvarint_big) in
theorem aFq{n:Nat}(h:n<16384):(uvarint n).length<=2:=by
 by_cases h1:n<128
 ·rw[yM h1];omega
 ·rw[uvarint_big oM,List.length_cons,yM oM];exact Ye _
open Go.Lib (uvarint uvarint_small uvarint_big) in
theorem Vx{n:Nat}(h:n<2097152):(uvarint n).length<=3:=by
 by_cases h1:n<128
 ·rw[yM h1];omega
 ·rw[uvarint_big oM,List.length_cons];have:=aFq (n:=n/128) oM;omega
theorem MH{x:Int}(h0:0<=x)(h1:x<128):(encI x).length=1:=yM oM
theorem uT{x:Int}(h0:0<=x)(h1:x<2097152):(encI x).length<=3:=Vx oM
theorem aBw{x:E}(h0:0<=x.a/\x.a<65536)(h1:0<=x.n/\x.n<128)(h2:0<=x.s/\x.s<65536):(Gj x).length<=7:=by
 unfold Gj numsL;simp only[List.flatMap_cons,List.flatMap_nil,List.append_nil,Qg];have a:=uT (x:=x.a) h0.1 oM;have b:=MH h1.1 h1.2;have c:=uT (x:=x.s) h2.1 oM;omega
theorem Zi(m:Nat)(l:List E)(h:∀x∈l,(Gj x).length<=m):(kG l).length<=m*l.length:=by
 induction l with
 |nil=>simp[kG]
 | cons x r ih=>
  unfold kG at ih ⊢;rw[List.flatMap_cons,Qg,List.length_cons,Nat.mul_succ];have:=ih λy hy=>h y (by simp[hy]);have:=h x sM;omega
theorem EI(k:Nat)(nm:LU)(hk:k<128)(hn:nm.length<128):(qO k nm).length=2+nm.length:=by
 unfold qO AV;rw[Qg,Qg,yM hk,yM hn];omega
theorem PW.note_le{F:Fam}{v:Vol}{p n:Nat}{S:List Int}(h:PW F v p n S)(hn:n<=16):(lT v.nm (joinL (chL F.C v.l p S n))).length<=19+7*n:=by
 have hnl:=(pV h.vok.name).2;have h1:=JK (C:=F.C) (l:=v.l) (p:=p) (S:=S) n;have h2:=iV (chL F.C v.l p S n);have h3:=Zi 7 (joinL (chL F.C v.l p S n)) λx hx=>by
  have q:=h.join_in x hx;obtain⟨c1,c2,c3,c4,c5⟩:=(aB x).1 (aL h.join_valid x hx);exact aBw ⟨oM,oM⟩ ⟨oM,oM⟩ ⟨oM,oM⟩
 unfold lT;rw[Qg,Qg,EI 1 v.nm oM oM,MH oM oM];have h4:7*(joinL (chL F.C v.l p S n)).length<=7*n:=Nat.mul_le_mul_left _ oM;omega
end Go.Proofs.YtphfgbbbejloaaaGreatDoor
