/- package family: oW. Conditions: as each theorem says. -/
import Derived.Test.YtphfgbbbejloaaaGreatDoorGSp
import Derived.Shelf.SlIter.Nil
import Derived.Shelf.SortM.Plain
import Derived.Shelf.SortM.SortNone
set_option linter.unusedSimpArgs false
set_option linter.unusedVariables false
set_option linter.unusedSectionVars false
set_option maxRecDepth 100000
set_option maxHeartbeats 16000000
namespace Go.Proofs.YtphfgbbbejloaaaGreatDoor
open Go.RowKit Go.Maps
open Go.Proofs.Tryz
variable[Gst]
def aFc(i:oW):Value:= .agg #[nmV i.nm,i.n,i.r,i.m,i.x]
structure RI(w W:Wd)(R:Nat):Prop where
 r0:W (cw R 0)=some (nmV [])
 r1:W (cw R 1)=oo
 r2:W (cw R 2)=oo
 r3:W (cw R 3)=oo
 r4:W (cw R 4)=oo
 f0:W.frozen? (cw R 0)=false
 f1:W.frozen? (cw R 1)=false
 f2:W.frozen? (cw R 2)=false
 f3:W.frozen? (cw R 3)=false
 f4:W.frozen? (cw R 4)=false
 le:w.heap.size<=R
 bel:Below w w W
theorem RI.aIx{w W W':Wd}{R:Nat}(h:RI w W R)(hb:Below W W W'):RI w W' R:=
 ⟨hb.keep h.r0,hb.keep h.r1,hb.keep h.r2,hb.keep h.r3,hb.keep h.r4,hb.aJc h.r0 h.f0,hb.aJc h.r1 h.f1,hb.aJc h.r2 h.f2,hb.aJc h.r3 h.f3,hb.aJc h.r4 h.f4,h.le,h.bel.on hb⟩
theorem RI.new(w W:Wd)(t:TypeId)(h:Below w w W):RI w (W.alloc (cq #[nmV [],oo,oo,oo,oo] t)) W.heap.size:=by
 refine⟨sM,sM,sM,sM,sM,sM,sM,sM,sM,sM,h.size,h.aIw _⟩
abbrev pK(W:Wd)(R:Nat)(i:oW):Wd:=((((W.setCell (cw R 0) (nmV i.nm)).setCell (cw R 1) i.n).setCell (cw R 2) i.r).setCell (cw R 3) i.m).setCell (cw R 4) i.x
section
variable{w W:Wd}{R:Nat}(h:RI w W R)(i:oW)
include h
theorem RI.below:Below w w (pK W R i):=((((h.bel.setCell h.le _).setCell h.le _).setCell h.le _).setCell h.le _).setCell h.le _
theorem RI.cells:(pK W R i).cell? (cw R 0)=some (nmV i.nm)/\(pK W R i).cell? (cw R 1)=i.n/\(pK W R i).cell? (cw R 2)=i.r/\(pK W R i).cell? (cw R 3)=i.m/\(pK W R i).cell? (cw R 4)=i.x:=by
 have o:∀(V:Wd) (j k:Nat) (u:Value),j≠k->(V.setCell (cw R j) u).cell? (cw R k)=V (cw R k):=λV j k u hjk=>Qk _ _ _ _ (λe=>hjk (Addr.mk.inj e).2.1);refine⟨?_,?_,?_,?_,?_⟩
 ·rw[o _ 4 0 _ oM,o _ 3 0 _ oM,o _ 2 0 _ oM,o _ 1 0 _ oM,Qi _ _ _ h.r0]
 ·rw[o _ 4 1 _ oM,o _ 3 1 _ oM,o _ 2 1 _ oM];exact Qi _ _ _ ((o _ 0 1 _ oM).trans h.r1)
 ·rw[o _ 4 2 _ oM,o _ 3 2 _ oM];exact Qi _ _ _ ((o _ 1 2 _ oM).trans ((o _ 0 2 _ oM).trans h.r2))
 ·rw[o _ 4 3 _ oM];exact Qi _ _ _ ((o _ 2 3 _ oM).trans ((o _ 1 3 _ oM).trans ((o _ 0 3 _ oM).trans h.r3)))
 ·exact Qi _ _ _ ((o _ 3 4 _ oM).trans ((o _ 2 4 _ oM).trans ((o _ 1 4 _ oM).trans ((o _ 0 4 _ oM).trans h.r4))))
end
abbrev SI(B X:Nat)(a:OA)(n c:Nat)(vn vr:Int)(va:OA)(w':Wd):Prop:=
 w' (cw B 0)=some (.slice a n c)/\w' (cw X 0)=vn/\w' (cw X 1)=vr/\w' (cw X 2)=some (.pointer va)
theorem SI.store{B X R:Nat}{a:OA}{n c:Nat}{vn vr:Int}{va:OA}{W:Wd}(h:SI B X a n c vn vr va W)(h1:B≠R)(h2:X≠R)(i:oW):SI B X a n c vn vr va (pK W R i):=by
 have k:∀(p:Addr),p.block≠R->(pK W R i).cell? p=W.cell? p:=λp hp=>by
  rw[cell_far hp,cell_far hp,cell_far hp,cell_far hp,cell_far hp]
 exact⟨(k _ h1).trans h.1,(k _ h2).trans h.2.1,(k _ h2).trans h.2.2.1,(k _ h2).trans h.2.2.2⟩
def Bn(w:Wd)(i:oW)(e0:Int)(e:Ending)(w':Wd):Prop:=e= .returned (.tuple #[aFc i,e0])/\Below w w w'
theorem Ms(F:Fam)(fv:Value)(nm:LU)(w:Wd)(hF:F.ok)(hs:∀v∈F.vs,v.l.length<=9000)(h:bG w fv F)(hnm:nm.length<=maxLen):
  ep 56 #[fv,nmV nm] w (Bn w (dW F nm).1 (dW F nm).2):=by
 obtain⟨a,c,mb,rfl,hr,ts,hts,hT⟩:=h;have hb0:=(bQ w).aIw (cq #[.slice a F.N c,.map mb] 121);have hI0:=RI.new w _ 94 hb0;rw[show(w.alloc (cq #[.slice a F.N c,.map mb] 121)).heap.size=w.heap.size+1 by simp]at hI0;have HFI:=hD (wK a F.N c mb ts nm 0 0 _ (hT.keep hI0.bel) hnm (rY hF hts) oM);have H0:=hD hI0;have c0:((w.alloc (cq #[.slice a F.N c,.map mb] 121)).alloc (cq #[nmV [],oo,oo,oo,oo] 94)).cell? (cw w 0)=some (.slice a F.N c):=by simp
 have HC0:=hD c0;have HT:=hD hT;have HR:=hD hr;have HTS:=hD hts;have HF:=hD hF;have HS:=hD hs;have hgv:aN F.vs nm=(mW ts nm).map VT.vol:=by rw[<-hts,oG]
 clear hr hT hts hF hs hb0 hI0 c0
 cases hg:mW ts nm with
 | none=>
  have h0:lY ts nm 0 0=(.agg #[oo,oo,.pointer none],9):=by simp[lY,hg]
  rw[show dW F nm=(⟨[],0,0,0,0⟩,9) by simp[dW,hgv,hg]];rw[h0]at HFI;clear h0 hg hgv;go_enter func56,ntmps56;go_wp2_with fail;refine HFI.o.m ?_;rintro e w1 ⟨rfl,hb⟩;have HI:=hD ((H0.o.aIx hb).aIx (bR.aIw (cq #[oo,oo,.pointer none] 170)));have r0:=HI.o.r0;have r1:=HI.o.r1;have r2:=HI.o.r2;have r3:=HI.o.r3;have r4:=HI.o.r4;have f0:=HI.o.f0;have f1:=HI.o.f1;have f2:=HI.o.f2;have f3:=HI.o.f3;have f4:=HI.o.f4;clear hb;go_wp2_with fail;have hj:=HI.o.cells ⟨[],0,0,0,0⟩;have hbl:=HI.o.below ⟨[],0,0,0,0⟩;show bodyPost _ _ _ _ _ (pK (w1.alloc (cq #[oo,oo,.pointer none] 170)) (cf w) ⟨[],0,0,0,0⟩);clear r0 r1 r2 r3 r4 f0 f1 f2 f3 f4;generalize pK (w1.alloc (cq #[oo,oo,.pointer none] 170)) (cf w) ⟨[],0,0,0,0⟩=W at hj hbl ⊢;obtain⟨j0,j1,j2,j3,j4⟩:=hj;simp only[nmV]at j0;refine br (.tuple #[.agg #[.string ⟨#[]⟩,oo,oo,oo,oo],.int .i64 9]) ?_;exact⟨rfl,hbl⟩
 | some v=>
  obtain⟨hvm,hvn⟩:=lX hg;have hvk:=RdV.fit HF.o HTS.o v hvm;have hib:inB 0 0 v.n=true:=(iK _ _ _).2 ⟨oM,oM,by have:=hvk.n1;have h1:(1:Int)<=v.n:=this;omega,by have:=hvk.n1;have h1:(1:Int)<=v.n:=this;omega⟩;have h0:lY ts nm 0 0=(v.val,0):=by simp[lY,hg,hib]
  have hinf:dW F nm=(⟨nm,v.n,v.r,aR v.t.toL,bF F.C v.t.toL⟩,0):=by
   simp only[dW,hgv,hg,Option.map_some,YC];rw[show v.vol.nm=nm from hvn];rfl
  rw[hinf];rw[h0]at HFI;have HVT:=hD (HT.o.1 v hvm);have HVK:=hD hvk;have HSL:=hD (show v.t.toL.length<=9000 from HS.o v.vol (by rw[<-HTS.o];exact Yd.2 ⟨v,hvm,rfl⟩));clear h0 hg hgv hib hinf hvm hvn hvk;go_enter func56,ntmps56;go_wp2_with fail;refine HFI.o.m ?_;rintro e w1 ⟨rfl,hb⟩;have hbv:=hb.aIw (cq #[.int .i64 v.n,.int .i64 v.r,.pointer v.a] 170);have HI:=hD (H0.o.aIx hbv);have HV:=hD (VH.new w1 v.n v.r v.a 170);have c0:=hbv.keep HC0.o;have HRX:Hid (w.heap.size+1<w1.heap.size):=hD (by have h9:=hb.size;simp only[World.size_alloc]at h9;omega);clear hb hbv;go_wp2_with fail;generalize w1.alloc (cq #[.int .i64 v.n,.int .i64 v.r,.pointer v.a] 170)=w2 at *;have x0:=HV.o.x0;have x1:=HV.o.x1;have x2:=HV.o.x2;have HSK:=hD (λw' (hB:Below w2.drew.heap.size w2.drew w')=>(⟨hB.keep c0,hB.keep x0,hB.keep x1,hB.keep x2⟩:SI w w1 a F.N c v.n v.r v.a w'));have HBL:=hD (IX v.t (.pointer v.a) w2.drew (aD.keep (HI.o.bel.drew) v.t HVT.o));have HRI:=hD (HR.o.keep HI.o.bel);clear HV HT HTS HF HS H0 HC0
  go_region_held3 (SI w w1 a F.N c v.n v.r v.a)
   (first
    |exact HSK.o _ bR
    |exact HSK.o _ hB3
    |exact HSK.o _ hB4
    |exact HSK.o _ hB5
    |exact SI.store (HSK.o _ hB5) oM (by have:=HRX.o;omega) ⟨nm,v.n,v.r,aR v.t.toL,bF F.C v.t.toL⟩)
   (first
    |(go_at_call 90;refine HBL.o.m ?_;rintro e w3 ⟨rfl,hB3⟩)
    |(go_at_call 92;refine(zD v.n v.r v.a v.t _ (aD.keep (HI.o.bel.drew.on hB3) v.t HVT.o) (by have:=HSL.o;omega)).m ?_;rintro e w4 ⟨sv,rfl,ho4,hb4⟩;obtain⟨sa,sc,rfl,hrd4⟩:=ho4.rd (by have:=HSL.o;omega);have hB4:=hB3.on hb4)
    |(go_at_call 91;have h5:=NW F.C v.t.toL a sa c sc w4 (HR.o.keep (HI.o.bel.drew.on hB4)) hrd4 (iM (aL HVK.o.valid));rw[F.aIz]at h5;refine h5.m ?_;rintro e w5 ⟨rfl,hb5⟩;have hB5:=hB4.on hb5;have HI5:=HI.o.aIx ((bQ w2).drew.on hB5);have r0:=HI5.r0;have r1:=HI5.r1;have r2:=HI5.r2;have r3:=HI5.r3;have r4:=HI5.r4;have f0:=HI5.f0;have f1:=HI5.f1;have f2:=HI5.f2;have f3:=HI5.f3;have f4:=HI5.f4))
  have hj:=HI5.cells ⟨nm,v.n,v.r,aR v.t.toL,bF F.C v.t.toL⟩;have hbl:=HI5.below ⟨nm,v.n,v.r,aR v.t.toL,bF F.C v.t.toL⟩;show Exit.then _ _ _ _ (pK w5 (cf w) ⟨nm,v.n,v.r,aR v.t.toL,bF F.C v.t.toL⟩);clear r0 r1 r2 r3 r4 f0 f1 f2 f3 f4 HI5 hB5 hB4 hB3 hb4 hb5 ho4 hrd4 HBL HSK HI HVT HVK HSL HRI;generalize pK w5 (cf w) ⟨nm,v.n,v.r,aR v.t.toL,bF F.C v.t.toL⟩=W at hj hbl ⊢;obtain⟨j0,j1,j2,j3,j4⟩:=hj;simp only[nmV]at j0;have HBL:=hD hbl;clear hbl;go_wp2_with fail;refine br (.tuple #[.agg #[.string ⟨nm.toArray⟩,.int .i64 v.n,.int .i64 v.r,(aR v.t.toL),(bF F.C v.t.toL)],oo]) ?_;exact⟨rfl,HBL.o⟩
open Go.Sort Go.Shelf
shelf_lay_g SlLaysZ.n7 Ggz 7 at Tryz 88 as Tryz.keysV
shelf_lay_g SlLaysZ.n6 Ggz 6 at Tryz 87 as Tryz.sortedV
shelf_lay_g SlLaysM.n6 Slgm 6 at Tryz 127 as Tryz.sortV
theorem VI(m:Nat):AnyZ.SortsIn prog Tryz.sortedV_ren Fence.wide m:=
  ⟨λblk off cap ss W hH hblk hsz=>callsIn_wide.2 (AnyM.slices_Sort_string Tryz.sortV blk off cap ss W hH hblk hsz),
   λp cap W=>callsIn_wide.2 (AnyM.slices_Sort_string_none Tryz.sortV p cap W)⟩
def Ri(w:Wd)(B:Nat)(v:Value)(l:List (LU)):Prop:=w.ownsRow B 9 1 v l.length (l.map nmV)
theorem Ri.mono{w:Wd}{B B':Nat}{v:Value}{l:List (LU)}(h:Ri w B v l)(hB:B'<=B):Ri w B' v l:=ownsRow_base_a h hB
theorem II:∀(a b:LU),bytesBefore a b=true->a<=b
 | [],_,_=>List.nil_le _
 |_::_,[],h=>by simp[bytesBefore]at h
 | x::r,y::s,h=>by
  simp only[bytesBefore,Bool.or_eq_true,Qc,Qd,beq_iff_eq]at h;rw[List.cons_le_cons_iff];rcases h with h|⟨h1,h2⟩
  ·exact .inl h
  ·exact .inr ⟨h1,II r s h2⟩
theorem Jm{F:Fam}(hF:F.ok){ts:List VT}(h:ts.map VT.vol=F.vs){ss:List (LU)}(hp:ss.Perm (strKeys (jE ts))):ss.mergeSort leB=F.vs.map (·.nm):=by
 have h1:strKeys (jE ts)=F.vs.map (·.nm):=by
  rw[<-h];simp[strKeys,jE,VT.ent,VT.vol,strOf]
 rw[mergeSort_of_perm hp,h1];refine List.mergeSort_of_pairwise (List.pairwise_map.2 (hF.sorted.imp λhab=> ?_));exact Qo (II _ _ hab)
theorem Io(F:Fam)(fv:Value)(w:Wd)(hF:F.ok)(h:bG w fv F):
  ep 55 #[fv] w λe w'=>∃v,e= .returned v/\Ri w' w v (F.vs.map (·.nm))/\Below w w w':=by
 obtain ⟨a,c,mb,rfl,hr,ts,hts,hT⟩:=h;have hb0:=(bQ w).aIw (cq #[.slice a F.N c,.map mb] 121);have hlen:ts.length<=32:=by
  have:=hF.few;rw[<-hts,Yy]at this;exact this
 have hT0:=hT.keep hb0;have hns:∀ss:List (LU),ss.Perm (strKeys (jE ts))->ss.mergeSort leB=F.vs.map (·.nm):=λss hp=>Jm hF hts hp;have HB:=hD hb0;have HNS:=hD hns;rcases hT0.2 with ⟨rfl,rfl⟩|⟨b,rfl,hm⟩
 ·have HSEQ:Hid (SeqGives Fence.wide 2 prog 128 #[.pointer (cw (cf w) 0)] encStr (λss:List (LU)=>ss=[]) 0 ((w.alloc (cq #[.slice a F.N c,.map none] 121)).alloc (cq #[.map none] 119))):=hD (
   AnyZ.keys_gives_nil (ρ:=Tryz.keysV_ren) {Tryz.keysV with} Fence.wide _ trivial rfl (cf w) _ sM sM)
  have cK:∀mb W,CallsIn Fence.wide 5 prog 88 #[.map mb] W λe w'=>e= .returned (.func (.func 128) #[] #[.pointer (cw W.heap.size 0)])/\w'=W.alloc (cq #[.map mb] 119):=λmb W=>AnyZ.keys_in Tryz.keysV Fence.wide 5 trivial rfl mb W;have cS:=AnyZ.sorted_in Tryz.sortedV Fence.wide 5 trivial trivial trivial trivial rfl oM (VI _) (enters_of func127 kR rfl) 128 #[.pointer (cw (cf w) 0)] trivial (enters_of func128 kR rfl) _ 0 (Yf _) oM _ HSEQ.o;change CallsIn _ _ prog 87 _ _ _ at cS;have HK:=hD (callsIn_wide.1 (cK none (w.alloc (cq #[.slice a F.N c,.map none] 121))));have HSO:=hD (callsIn_wide.1 cS);have hv0:F.vs=[]:=by rw[<-hts];rfl
  clear cK cS HSEQ hT0 hb0 hns hlen hT hr hF hts;rw[hv0];clear hv0;go_enter func55,ntmps55;go_wp2_with fail;refine HK.o.m ?_;rintro e w1 ⟨rfl,rfl⟩;go_wp2_with fail;refine HSO.o.m ?_;rintro e w2 ⟨v,ss,rfl,hS,hrow,hnil,hb⟩;obtain rfl:v= .slice none 0 0:=hnil.2 hS;have HQ:=hD ((HB.o.aIw (cq #[.map none] 119)).on hb);clear hS hrow hnil hb;go_wp2_with fail;go_ret;exact⟨_,rfl,World.ownsRow_nil _ _ _ _,HQ.o⟩
 ·have hms:Maps.size (jE ts)=ts.length:=by show(ts.map VT.ent).length=_;simp
  have HSEQ:Hid (SeqGives Fence.wide 2 prog 128 #[.pointer (cw (cf w) 0)] encStr (λss=>ss.Perm (strKeys (jE ts))) (Maps.size (jE ts)) ((w.alloc (cq #[.slice a F.N c,.map (some b)] 121)).alloc (cq #[.map (some b)] 119))):=hD (
   AnyZ.keys_gives (ρ:=Tryz.keysV_ren) {Tryz.keysV with} Fence.wide _ trivial rfl oM (cf w) b _ (jE ts) _ sM sM (BN hm (bR.aIw _)))
  have cK:∀mb W,CallsIn Fence.wide 5 prog 88 #[.map mb] W λe w'=>e= .returned (.func (.func 128) #[] #[.pointer (cw W.heap.size 0)])/\w'=W.alloc (cq #[.map mb] 119):=λmb W=>AnyZ.keys_in Tryz.keysV Fence.wide 5 trivial rfl mb W;have cS:=AnyZ.sorted_in Tryz.sortedV Fence.wide 5 trivial trivial trivial trivial rfl oM (VI _) (enters_of func127 kR rfl) 128 #[.pointer (cw (cf w) 0)] trivial (enters_of func128 kR rfl) _ _ (by rw[hms];have:maxLen=9223372036854775807:=rfl;omega) (by rw[hms];omega) _ HSEQ.o;change CallsIn _ _ prog 87 _ _ _ at cS;have HK:=hD (callsIn_wide.1 (cK (some b) (w.alloc (cq #[.slice a F.N c,.map (some b)] 121))));have HSO:=hD (callsIn_wide.1 cS);clear cK cS HSEQ hms hm hT0 hb0 hns hlen hT hts hr hF;go_enter func55,ntmps55;go_wp2_with fail;refine HK.o.m ?_;rintro e w1 ⟨rfl,rfl⟩;go_wp2_with fail;refine HSO.o.m ?_;rintro e w2 ⟨v,ss,rfl,hS,hrow,hnil,hb⟩;have HR:=hD (ownsRow_base_a (base':=w.heap.size) hrow pO);have HQ:=hD ((HB.o.aIw (cq #[.map (some b)] 119)).on hb);have HS:=hD hS;clear hS hrow hnil hb;go_wp2_with fail;go_ret;refine⟨_,rfl,?_,HQ.o⟩;have h1:=HR.o;have h2:=HNS.o ss HS.o;have h3:ss.length=(F.vs.map (·.nm)).length:=by rw[<-h2,List.length_mergeSort]
  rw[h3,h2]at h1;exact h1
end Go.Proofs.YtphfgbbbejloaaaGreatDoor
