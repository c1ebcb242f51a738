/-
  package codec: a reader.
  package codec: Count, Bytes, Done, New; package mapper: must, and the reader's number, name, extent, which panic.
  package mapper: the reader's extent.
  Conditions: as each theorem says.
-/
import Derived.Test.YtaiklhbakldfhaaGreatHH
import Derived.Deep.RegionHeld3
namespace Go.Proofs.YtaiklhbakldfhaaGreat
open Go.Lib (hid)
set_option linter.unusedSimpArgs false
set_option linter.unusedVariables false
set_option maxRecDepth 100000
set_option maxHeartbeats 16000000
open Go.RowKit
def aSw (W:World) (X:Nat):Prop:=Bx W X 163 (.slice none 0 0) (.bool true)
theorem aSw.odd {W:World} {X:Nat} (h:aSw W X):Odd W X:=Bx.oddR h
theorem aPe (X:Nat) (a:Option Addr) (n c:Nat) (b:Bool) (w:World) (h:Bx w X 163 (.slice a n c) (.bool b)):
  Calls Tryz.prog 81 #[.pointer (some ⟨X,0,none⟩)] w fun e w'=>e= .returned (.int .i64 5)/\aSw w' X/\w.grownBy w' (some X):=by
 have c0:=h.c0;have c1:=h.c1;have f0:=h.f0;have f1:=h.f1;have HP:=hid (h.put (.slice none 0 0) (.bool true));have HG:=hid (gY w X (.slice none 0 0) (.bool true));clear h;go_enter Tryz.func81,Tryz.ntmps81;go_wp2;go_ret;exact⟨rfl,HP.o,HG.o⟩
def aYi (w:World) (X:Nat) (x r:List UInt8) (e:Ending) (w':World):Prop:=
 ∃a c,e= .returned (.tuple #[.slice a x.length c,.int .i64 0])/\RdY w' a x/\gG w' X r/\w.grownBy w' (some X)
theorem aXt {X:Nat} {l:List UInt8} {w:World} (h:gG w X l):
  Calls Tryz.prog 81 #[.pointer (some ⟨X,0,none⟩)] w fun e w'=>e= .returned (.int .i64 5)/\aSw w' X/\w.grownBy w' (some X):=by
 obtain⟨a,c,hb,_⟩:=h.bx;exact aPe X a _ c false w hb
theorem Bx.put0 {W:World} {T:Nat} {t:TypeId} {u v:Value} (h:Bx W T t u v) (x:Value):Bx (W.setCell ⟨T,0,none⟩ x) T t x v:=by
 refine⟨World.cell?_setCell_same _ _ _ h.c0,?_,by rw[World.frozen?_setCell];exact h.f0,by rw[World.frozen?_setCell];exact h.f1,fun i hi=>iE (by omega) (h.c2 i hi),h.ty.set _ _⟩;rw[World.cell?_setCell_other _ _ _ _ (by simp)];exact h.c1
theorem aYv {w:World} {X n c:Nat} {a a':Option Addr} {l:List UInt8} (hb:Bx w X 163 (.slice a l.length c) (.bool false)) (hr:RdY w a l) (hlc:l.length<=c) (hcm:c<=maxLen) (hn:n<=l.length) (h:RdY w a' (l.drop n)):
  aYi w X (l.take n) (l.drop n) (.returned (.tuple #[.slice a n n,.int .i64 0])) (w.setCell ⟨X,0,none⟩ (.slice a' (l.length-n) (c-n))):=by
 have hO:=hb.oddR;have hg:=bV w ⟨X,0,none⟩ (.slice a' (l.length-n) (c-n));refine⟨a,n,by rw[List.length_take,Nat.min_eq_left hn],(hr.take n).grown hO hg,⟨a',c-n,?_,h.grown hO hg,by rw[List.length_drop];omega,by omega⟩,hg⟩;rw[List.length_drop];exact hb.put0 _
theorem RdY.from {w:World} {ad:Addr} {l:List UInt8} (h:RdY w (some ad) l) (n:Nat):RdY w (some (ad.add n)) (l.drop n):=by
 rcases h.2 with rfl|⟨b,o,e,hat⟩
 ·exact⟨by simp,.inl (by simp)⟩
 ·injection e with e;subst e;by_cases h0:n=0
  ·subst h0
   simpa [Addr.add]using h
  ·have:=h.drop n
   simpa [Addr.add,h0]using this
theorem RdY.none {w:World} {a:Option Addr} {l:List UInt8} (h:l=[]):RdY w a l:=by
 subst h;exact⟨by simp,.inl rfl⟩
theorem aJt (X n:Nat) (l:List UInt8) (w:World) (h:gG w X l) (hn:n<=l.length):
    Calls Tryz.prog 80 #[.pointer (some ⟨X,0,none⟩),.int .u64 n] w (aYi w X (l.take n) (l.drop n)):=by
  obtain⟨a,c,hb,hr,hlc,hcm⟩:=h.bx;have hlm:=hr.1;have c0:=hb.c0;have c1:=hb.c1;have f0:=hb.f0;have f1:=hb.f1;have HE:Hid (∀a',RdY w a' (l.drop n)->aYi w X (l.take n) (l.drop n) (.returned (.tuple #[.slice a n n,.int .i64 0])) (w.setCell ⟨X,0,none⟩ (.slice a' (l.length-n) (c-n)))):=hid fun a' h'=>aYv hb hr hlc hcm hn h';simp only[maxLen]at hcm;have hnb:decide (l.length<n)=false:=by simp;omega
  have HR:=hid hr;clear hb hr h;have HN:Hid (c-n=0->l.drop n=[]):=hid fun h=>List.drop_eq_nil_of_le (by omega)
  cases a with
  | none=>
    have HL:Hid (l=[]):=hid (by
      rcases HR.o.2 with h|⟨b,o,h,_⟩
      · exact h
      · cases h)
    go_enter Tryz.func80,Tryz.ntmps80;go_wp2
    all_goals
      go_ret2;exact HE.o _ (RdY.none (by rw[HL.o];simp))
  | some ad =>
    go_enter Tryz.func80,Tryz.ntmps80;go_wp2
    all_goals
      go_ret2
      first
        |exact HE.o _ (HR.o.from n)
        | (have hcn:c=n:=by omega
           have q:=HE.o (some ad) (RdY.none (HN.o (by omega)));rw[hcn,Nat.sub_self]at q
           exact q)
theorem aOz (X n:Nat) (l:List UInt8) (w:World) (h:gG w X l) (hn:l.length<n):
  Calls Tryz.prog 80 #[.pointer (some ⟨X,0,none⟩),.int .u64 n] w fun e w'=>e= .returned (.tuple #[.slice none 0 0,.int .i64 5])/\aSw w' X/\w.grownBy w' (some X):=by
 obtain⟨a,c,hb,hr,hlc,hcm⟩:=h.bx;have hlm:=hr.1;have c0:=hb.c0;have c1:=hb.c1;have hnb:decide (l.length<n)=true:=by simpa using hn
 have HF:=hid (aPe X a l.length c false w hb);clear hb hr h;go_enter Tryz.func80,Tryz.ntmps80;go_wp2_with fail;refine HF.o.mono ?_;rintro e w1 ⟨rfl,h1,h2⟩;have H1:=hid h1;have H2:=hid h2;clear h1 h2;go_wp2_with fail;go_ret2;exact⟨rfl,H1.o,H2.o⟩
theorem aUp (k:Nat):(2:Nat) ^ (7*k)=128 ^ k:=by rw[Nat.pow_mul]
theorem bEo (m z k:Nat) (hm:m<128 ^ k) (hk:k<=9) (hz:z<256) (h9:k=9->z<=1):
  bits .or .u64 (m:Int) (IntKind.u64.wrap (bits .and .u64 (z:Int) 127*2 ^ (7*k)))=((m+z%128*128 ^ k:Nat):Int):=by
 have e1:bits .and .u64 (z:Int) 127=((z%128:Nat):Int):=by
  have:bits .and .u64 (z:Int) 127=(z:Int)%128:=bits_mask .u64 64 (by decide) wraps_u64 7 (by decide) (z:Int) (by omega) (by omega);omega
 have hp:(128:Nat) ^ k<=128 ^ 9:=Nat.pow_le_pow_right (by omega) hk;have hlt:z%128*128 ^ k<18446744073709551616:=by
  by_cases h:k=9
  ·subst h;have:z%128*128 ^ 9<=1*128 ^ 9:=Nat.mul_le_mul_right _ (by have:=h9 rfl;omega);omega
  ·have h1:(128:Nat) ^ k<=128 ^ 8:=Nat.pow_le_pow_right (by omega) (by omega);have h2:z%128*128 ^ k<=127*128 ^ 8:=Nat.mul_le_mul (by omega) h1;omega
 have e2:bits .and .u64 (z:Int) 127*2 ^ (7*k)=((z%128*128 ^ k:Nat):Int):=by
  rw[e1,<-aUp]
  push_cast
  rfl
 rw [e2];have e3:IntKind.u64.wrap ((z%128*128 ^ k:Nat):Int)=((z%128*128 ^ k:Nat):Int):=wraps_u64 _ (by omega) (by omega);rw[e3];have hd:((z%128*128 ^ k:Nat):Int)%2 ^ (7*k)=0:=by
  have:((2:Int) ^ (7*k))=((128 ^ k:Nat):Int):=by rw[<-aUp];push_cast;rfl
  rw[this]
  push_cast
  exact Int.mul_emod_left _ _
 have hm2:(m:Int)<2 ^ (7*k):=by
  have:((2:Int) ^ (7*k))=((128 ^ k:Nat):Int):=by rw[<-aUp];push_cast;rfl
  rw[this]
  exact_mod_cast hm
 rw[bits_join_low .u64 64 (by decide) wraps_u64 (7*k) (m:Int) _ (by omega) hm2 (by omega) (by omega) hd (by omega)]
 push_cast
 rfl
def bMm (X:Nat) (l:List UInt8) (w wr:World) (n i:Value):Prop:=
 ∃(k m:Nat) (r:List UInt8),k<=10/\i= .int .i64 k/\n= .int .u64 m/\Hid (m<128 ^ k)/\Hid (gI l=lW (10-k) k m r)/\Hid (gG wr X r)/\Hid (w.grownBy wr (some X))/\Hid (k+r.length=l.length)
def bKq (w:World) (X n:Nat) (r:List UInt8) (e:Ending) (w':World):Prop:=e= .returned (.tuple #[.int .u64 n,.int .i64 0])/\gG w' X r/\w.grownBy w' (some X)
def bKr (w:World) (X:Nat) (e:Ending) (w':World):Prop:=e= .returned (.tuple #[.int .u64 0,.int .i64 5])/\aSw w' X/\w.grownBy w' (some X)
def mP (w:World) (X:Nat) (l:List UInt8) (e:Ending) (w':World):Prop:=match gI l with
 |some (n,r)=>bKq w X n r e w'
 |none=>bKr w X e w'
theorem aOy (X:Nat) (l:List UInt8) (w:World) (h:gG w X l):
  Calls Tryz.prog 35 #[.pointer (some ⟨X,0,none⟩)] w (mP w X l):=by
 have H0:=hid h;clear h;go_enter Tryz.func35,Tryz.ntmps35;go_wp2_with fail;go_loopw [4,9] (fun n i wr=>bMm X l w wr n i) (fun _ i _=>10-(intOf i).toNat)
 case atStart=>exact⟨0,0,l,by omega,rfl,rfl,hid (by omega),hid rfl,H0,hid (bD (Below.refl _ _) _),hid (by omega)⟩
 case round=>
  obtain⟨k,m,r,hk,rfl,rfl,hm,hu,hR,hG,hL⟩:=hrel;by_cases hlt:k<10
  ·cases r with
   | nil=>
    have hz:Hid (gI l=none):=hid (by
     rw[hu.o,show 10-k=(9-k)+1 by omega]
     rfl)
    go_wp2_with fail;refine(aOz X 1 [] _ hR.o (by simp)).mono ?_;rintro e w1 ⟨rfl,h1,h2⟩;have H1:=hid h1;have H2:=hid (World.grownBy.next hG.o h2);clear h1 h2;go_wp2_with fail;go_ret2;unfold mP;rw[hz.o];exact⟨rfl,H1.o,H2.o⟩
   | cons c q=>
    have hu2:Hid (gI l=if k=9/\1<c.toNat then none else if c.toNat<128 then (if c.toNat=0/\0<k then none else some (m+c.toNat*128 ^ k,q))else lW (10-(k+1)) (k+1) (m+c.toNat%128*128 ^ k) q):=hid (by
     rw[hu.o,show 10-k=(9-k)+1 by omega];show lW (9-k+1) k m (c::q)=_
     rw[lW,show 10-(k+1)=9-k by omega])
    go_wp2_with fail;refine(aJt X 1 (c::q) _ hR.o (by simp)).mono ?_;rintro e w1 ⟨a1,c1,rfl,hy,hr1,hg1⟩;obtain⟨yb,yo,rfl,hat⟩:=hy.at (by simp);have hc:w1.cell? ⟨yb,yo,none⟩=some (.int .u8 (c.toNat:Int)):=hat 0 c rfl;have hcl:c.toNat<256:=c.toNat_lt;have HR1:=hid hr1;have HG1:=hid (World.grownBy.next hG.o hg1);clear hy hr1 hg1 hat;generalize c.toNat=z at *;have hz0:(0:Int)<=z:=by omega
    have hz1:(z:Int)<=255:=by omega
    by_cases hb9:k=9/\1<z
    ·obtain⟨rfl,h1z⟩:=hb9;have hq:Hid (gI l=none):=hid (by rw[hu2.o,if_pos ⟨rfl,h1z⟩]);have h1z':(1:Int)<z:=by omega
     go_wp2_with fail;refine(aXt HR1.o).mono ?_;rintro e w2 ⟨rfl,h1,h2⟩;have H1:=hid h1;have H2:=hid (World.grownBy.next HG1.o h2);clear h1 h2;go_wp2_with fail;go_ret2;unfold mP;rw[hq.o];exact⟨rfl,H1.o,H2.o⟩
    ·have hu3:Hid (gI l=if z<128 then (if z=0/\0<k then none else some (m+z*128 ^ k,q))else lW (10-(k+1)) (k+1) (m+z%128*128 ^ k) q):=hid (by rw[hu2.o,if_neg hb9]);have hor:=bEo m z k hm.o (by omega) (by omega) (by omega);have h9b:((k:Int)==9)=false∨((k:Int)==9)=true/\ ¬((1:Int)<z):=by
      by_cases h:k=9
      ·exact .inr ⟨by simp;omega,by omega⟩
      ·exact .inl (by simp;omega)
     have HOR:=hid hor;clear hor;by_cases hz:z<128
     ·have hz':(z:Int)<128:=by omega
      by_cases h0:z=0/\0<k
      ·obtain ⟨rfl,h0k⟩:=h0;have hk0:(0:Int)<k:=by omega
       have hq:Hid (gI l=none):=hid (by rw[hu3.o,if_pos (by omega),if_pos ⟨rfl,h0k⟩]);clear HOR hb9;rcases h9b with h9|⟨h9,h1n⟩
       all_goals
        go_wp2_with fail;refine(aXt HR1.o).mono ?_;rintro e w2 ⟨rfl,h1,h2⟩;have H1:=hid h1;have H2:=hid (World.grownBy.next HG1.o h2);clear h1 h2;go_wp2_with fail;go_ret2;unfold mP;rw[hq.o];exact⟨rfl,H1.o,H2.o⟩
      ·have hq:Hid (gI l=some (m+z*128 ^ k,q)):=hid (by rw[hu3.o,if_pos hz,if_neg h0]);have HZ:Hid (z%128=z):=hid (by omega);have HV:Hid (((m+z%128*128 ^ k:Nat):Int)=((m+z*128 ^ k:Nat):Int)):=hid (by rw[HZ.o]);by_cases hzz:z=0
       ·have hkn:¬ 0<k:=by omega
        have hzb:((z:Int)==0)=true:=by simp;omega
        clear h0 hb9 hzz hz;rcases h9b with h9|⟨h9,h1n⟩
        all_goals
         go_wp2_with fail;go_ret2;rw[HOR.o,HV.o];unfold mP;rw[hq.o];exact⟨rfl,HR1.o,HG1.o⟩
       ·have hzb:((z:Int)==0)=false:=by simp;omega
        clear h0 hb9 hzz hz;rcases h9b with h9|⟨h9,h1n⟩
        all_goals
         go_wp2_with fail;go_ret2;rw[HOR.o,HV.o];unfold mP;rw[hq.o];exact⟨rfl,HR1.o,HG1.o⟩
     ·have hz':(128:Int)<=z:=by omega
      rcases h9b with h9|⟨h9,h1n⟩
      ·have HU:Hid (gI l=lW (10-(k+1)) (k+1) (m+z%128*128 ^ k) q):=hid (by rw[hu3.o,if_neg hz]);have HM:Hid (m+z%128*128 ^ k<128 ^ (k+1)):=hid (by
        have h1:z%128*128 ^ k<=127*128 ^ k:=Nat.mul_le_mul_right _ (by omega);have:=hm.o;rw[Nat.pow_succ]
        omega)
       have HLL:Hid (k+1+q.length=l.length):=hid (by have:=hL.o;simp at this;omega);clear hb9;go_wp2_with fail;rw[HOR.o];go_roundw
       case rel=>exact⟨k+1,m+z%128*128 ^ k,q,by omega,by go_num,rfl,HM,HU,HR1,HG1,HLL⟩
       case measure=>simp[intOf];omega
      ·exfalso;omega
  ·have hk10:k=10:=by omega
   subst hk10;have hq:Hid (gI l=none):=hid (by rw[hu.o];rfl);go_wp2_with fail;refine(aXt hR.o).mono ?_;rintro e w2 ⟨rfl,h1,h2⟩;have H1:=hid h1;have H2:=hid (World.grownBy.next hG.o h2);clear h1 h2;go_wp2_with fail;go_ret2;unfold mP;rw[hq.o];exact⟨rfl,H1.o,H2.o⟩
open Go.RowKit Go.Maps
theorem mZ {X n:Nat} {l r:List UInt8} {w:World} (h:gG w X l) (hu:gI l=some (n,r)):
  Calls Tryz.prog 35 #[.pointer (some ⟨X,0,none⟩)] w (bKq w X n r):=
 (aOy X l w h).mono fun e w' h=>by unfold mP at h;rw[hu]at h;exact h
theorem aFr {X:Nat} {l:List UInt8} {w:World} (h:gG w X l) (hu:gI l=none):
  Calls Tryz.prog 35 #[.pointer (some ⟨X,0,none⟩)] w (bKr w X):=
 (aOy X l w h).mono fun e w' h=>by unfold mP at h;rw[hu]at h;exact h
def NumY (w:World) (X n:Nat) (r:List UInt8) (e:Ending) (w':World):Prop:=e= .returned (.tuple #[.int .i64 n,.int .i64 0])/\gG w' X r/\w.grownBy w' (some X)
def NumN (w:World) (X:Nat) (e:Ending) (w':World):Prop:=e= .returned (.tuple #[.int .i64 0,.int .i64 5])/\aSw w' X/\w.grownBy w' (some X)
theorem aUh {X n:Nat} {l r:List UInt8} {w:World} (h:gG w X l) (hu:fP l=some (n,r)):
  Calls Tryz.prog 121 #[.pointer (some ⟨X,0,none⟩),.int .i64 65536] w (NumY w X n r):=by
 have hn:gI l=some (n,r)/\n<=65536:=by
  unfold fP at hu
  cases hq:gI l with
  |none=>rw[hq]at hu;cases hu
  | some p=>
   obtain⟨n',r'⟩:=p;rw[hq]at hu;simp only at hu
   split at hu
   ·cases hu;exact⟨rfl,by assumption⟩
   ·cases hu
 obtain⟨h1,hn⟩:=hn;have HU:=hid h1;clear h1 hu;go_enter Tryz.func121,Tryz.ntmps121;go_wp2_with fail;refine(mZ h HU.o).mono ?_;rintro e w1 ⟨rfl,h1,h2⟩;have H1:=hid h1;have H2:=hid h2;clear h h1 h2;go_wp2_with fail;go_ret2;exact⟨rfl,H1.o,H2.o⟩
theorem aZx {X:Nat} {l:List UInt8} {w:World} (h:gG w X l) (hu:fP l=none):
  Calls Tryz.prog 121 #[.pointer (some ⟨X,0,none⟩),.int .i64 65536] w (NumN w X):=by
 cases hq:gI l with
 | none=>
  have HU:=hid hq;clear hq hu;go_enter Tryz.func121,Tryz.ntmps121;go_wp2_with fail;refine(aFr h HU.o).mono ?_;rintro e w1 ⟨rfl,h1,h2⟩;have H1:=hid h1;have H2:=hid h2;clear h h1 h2;go_wp2_with fail;go_ret2;exact⟨rfl,H1.o,H2.o⟩
 | some p=>
  obtain ⟨n,r⟩:=p;have hn:65536<n:=by
   unfold fP at hu;rw[hq]at hu;simp only at hu
   split at hu
   ·cases hu
   ·omega
  have HU:=hid hq;clear hq hu;go_enter Tryz.func121,Tryz.ntmps121;go_wp2_with fail;refine(mZ h HU.o).mono ?_;rintro e w1 ⟨rfl,h1,h2⟩;have H1:=hid h1;have H2:=hid h2;clear h h1 h2;go_wp2_with fail;refine(aXt H1.o).mono ?_;rintro e w2 ⟨rfl,h1,h2⟩;have H3:=hid h1;have H4:=hid (World.grownBy.next H2.o h2);clear h1 h2;go_wp2_with fail;go_ret2;exact⟨rfl,H3.o,H4.o⟩
theorem aNr {l x r:List UInt8} (h:eT l=some (x,r)):∃ n q,gI l=some (n,q)/\n<=q.length/\x=q.take n/\r=q.drop n:=by
 unfold eT at h
 cases hq:gI l with
 |none=>rw[hq]at h;cases h
 | some p=>
  obtain⟨n,q⟩:=p;rw[hq]at h;simp only at h
  split at h
  ·cases h;exact⟨n,q,rfl,by assumption,rfl,rfl⟩
  ·cases h
theorem aUi {X:Nat} {l x r:List UInt8} {w:World} (h:gG w X l) (hu:eT l=some (x,r)):
  Calls Tryz.prog 122 #[.pointer (some ⟨X,0,none⟩)] w (aYi w X x r):=by
 obtain⟨n,q,h1,hn,rfl,rfl⟩:=aNr hu;have HU:=hid h1;clear h1 hu;go_enter Tryz.func122,Tryz.ntmps122;go_wp2_with fail;refine(mZ h HU.o).mono ?_;rintro e w1 ⟨rfl,h1,h2⟩;have H1:=hid h1;have H2:=hid h2;clear h h1 h2;go_wp2_with fail;refine(aJt X n q _ H1.o hn).mono ?_;rintro e w2 ⟨a2,c2,rfl,h1,h2,h3⟩;have H3:=hid h1;have H4:=hid h2;have H5:=hid (World.grownBy.next H2.o h3);clear h1 h2 h3;go_wp2_with fail;go_ret2;exact⟨a2,c2,by rw[List.length_take,Nat.min_eq_left hn];rfl,H3.o,H4.o,H5.o⟩
def BytN (w:World) (X:Nat) (e:Ending) (w':World):Prop:=e= .returned (.tuple #[.slice none 0 0,.int .i64 5])/\aSw w' X/\w.grownBy w' (some X)
theorem aZz {X:Nat} {l:List UInt8} {w:World} (h:gG w X l) (hu:eT l=none):
  Calls Tryz.prog 122 #[.pointer (some ⟨X,0,none⟩)] w (BytN w X):=by
 cases hq:gI l with
 | none=>
  have HU:=hid hq;clear hq hu;go_enter Tryz.func122,Tryz.ntmps122;go_wp2_with fail;refine(aFr h HU.o).mono ?_;rintro e w1 ⟨rfl,h1,h2⟩;have H1:=hid h1;have H2:=hid h2;clear h h1 h2;go_wp2_with fail;go_ret2;exact⟨rfl,H1.o,H2.o⟩
 | some p=>
  obtain ⟨n,q⟩:=p;have hn:q.length<n:=by
   unfold eT at hu;rw[hq]at hu;simp only at hu
   split at hu
   ·cases hu
   ·omega
  have HU:=hid hq;clear hq hu;go_enter Tryz.func122,Tryz.ntmps122;go_wp2_with fail;refine(mZ h HU.o).mono ?_;rintro e w1 ⟨rfl,h1,h2⟩;have H1:=hid h1;have H2:=hid h2;clear h h1 h2;go_wp2_with fail;refine(aOz X n q _ H1.o hn).mono ?_;rintro e w2 ⟨rfl,h1,h2⟩;have H3:=hid h1;have H4:=hid (World.grownBy.next H2.o h2);clear h1 h2;go_wp2_with fail;go_ret2;exact⟨rfl,H3.o,H4.o⟩
theorem bDt {X:Nat} {l:List UInt8} {w:World} (h:gG w X l) (d:Int) (hd:d=if l=[]then 0 else 5):
  Calls Tryz.prog 38 #[.pointer (some ⟨X,0,none⟩)] w fun e w'=>e= .returned (.int .i64 d)/\w=w':=by
 obtain⟨a,c,hb,hr,hlc,hcm⟩:=h.bx;have hlm:=hr.1;have c0:=hb.c0;have c1:=hb.c1;clear hb hr h;by_cases h0:l=[]
 ·rw[if_pos h0]at hd;subst h0 hd;go_enter Tryz.func38,Tryz.ntmps38;go_wp2_with fail;go_ret;exact⟨rfl,rfl⟩
 ·rw[if_neg h0]at hd;have hl:0<l.length:=List.length_pos_iff.2 h0;have hl2:decide ((0:Int)<l.length)=true:=by simp;omega
  have hl3:decide (0<l.length)=true:=by simp;omega
  subst hd;clear h0;go_enter Tryz.func38,Tryz.ntmps38;go_wp2_with fail;go_ret;exact⟨rfl,rfl⟩
theorem aEo (l:List UInt8) (a:Option Addr) (c:Nat) (w:World) (h:RdY w a l):
  Calls Tryz.prog 34 #[.slice a l.length c] w fun e w'=>∃ X,e= .returned (.pointer (some ⟨X,0,none⟩))/\w.heap.size<=X/\gG w' X l/\Below w.heap.size w w':=by
 have hl:=h.1;go_enter Tryz.func34,Tryz.ntmps34;go_wp2_with fail;refine(aFb l a c w h).mono ?_;rintro e w1 ⟨v,rfl,ho,hb⟩;obtain⟨va,vc,rfl,h1,h2,hrd⟩:=ho.rd hl;have hk:=(Below.refl w1.heap.size w1).bMq (.cells #[.slice va l.length vc,.bool false] 163);have HR:=hid (gG.mk ⟨va,vc,Bx.new w1 _ rfl (.slice va l.length vc) (.bool false) 163,hrd.keep hk,h1,h2⟩);have HB:=hid (hb.on hk);have HS:=hid hb.size;clear hb hk ho hrd h;go_wp2_with fail;go_ret;exact⟨_,rfl,HS.o,HR.o,HB.o⟩
abbrev pan (x:Int):List PanicEntry:=[{v:= .iface 36 (.int .i64 x),recovered:=false}]
theorem vX (w:World):Calls Tryz.prog 36 #[.int .i64 0] w fun e w'=>e= .returned (.tuple #[])/\w=w':=by
 go_enter Tryz.func36,Tryz.ntmps36;go_wp2
 go_end0
 exact⟨rfl,rfl⟩
theorem aMw (x:Int) (hx:(x==0)=false) (w:World):Calls Tryz.prog 36 #[.int .i64 x] w fun e w'=>e= .panicked (pan x)/\w=w':=by
 have hx2:(x != 0)=true:=by simp[bne,hx]
 go_enter Tryz.func36,Tryz.ntmps36;go_wp2;exact⟨rfl,rfl,rfl⟩
def GotY (w:World) (X:Nat) (v:Value) (r:List UInt8) (e:Ending) (w':World):Prop:=e= .returned v/\gG w' X r/\w.grownBy w' (some X)
def bLv (w:World) (X:Nat) (e:Ending) (w':World):Prop:=e= .panicked (pan 5)/\w.grownBy w' (some X)
theorem bKl (w:World) (o:Obj) (row:Option Nat):w.grownBy (w.alloc o) row:=World.grownBy_alloc w o row
theorem iT {X n:Nat} {l r:List UInt8} {w:World} (h:gG w X l) (hu:fP l=some (n,r)):
  Calls Tryz.prog 65 #[.agg #[.pointer (some ⟨X,0,none⟩)]] w (GotY w X (.int .i64 n) r):=by
 have hk:=(Below.refl w.heap.size w).bMq (.cells #[.pointer (some ⟨X,0,none⟩)] 97);have H:=hid (h.later hk);have HG:=hid (bD hk (some X));clear h hk;have HU:=hid hu;clear hu;go_enter Tryz.func65,Tryz.ntmps65;go_wp2_with fail;refine(aUh H.o HU.o).mono ?_;rintro e w1 ⟨rfl,h1,h2⟩;have H1:=hid h1;have H2:=hid (World.grownBy.next HG.o h2);clear h1 h2;go_wp2_with fail;refine(vX _).mono ?_;rintro e w2 ⟨rfl,rfl⟩;go_wp2_with fail;go_ret;exact⟨rfl,H1.o,H2.o⟩
theorem rH {X:Nat} {l:List UInt8} {w:World} (h:gG w X l) (hu:fP l=none):
  Calls Tryz.prog 65 #[.agg #[.pointer (some ⟨X,0,none⟩)]] w (bLv w X):=by
 have hk:=(Below.refl w.heap.size w).bMq (.cells #[.pointer (some ⟨X,0,none⟩)] 97);have H:=hid (h.later hk);have HG:=hid (bD hk (some X));clear h hk;have HU:=hid hu;clear hu;go_enter Tryz.func65,Tryz.ntmps65;go_wp2_with fail;refine(aZx H.o HU.o).mono ?_;rintro e w1 ⟨rfl,h1,h2⟩;have H2:=hid (World.grownBy.next HG.o h2);clear h1 h2;go_wp2_with fail;refine(aMw 5 (by decide) _).mono ?_;rintro e w2 ⟨rfl,rfl⟩;go_wp2_with fail;exact⟨rfl,rfl,H2.o⟩
theorem RdY.conv {w:World} {a:Option Addr} {l:List UInt8} {c:Nat} (h:RdY w a l) (h0:0<l.length):
  (convert 23 9 (.slice a l.length c)).run Tryz.prog w= .ok (nmV l) w:=by
 obtain⟨b,o,rfl,hat⟩:=h.at h0;refine run_convert_bytes_back w 23 9 5 ⟨b,o,Option.none⟩ c l Tryz.underlying23 Tryz.underlying5 Tryz.underlying9 fun j hj=> ?_;have:=hat j _ (List.getElem?_eq_getElem hj);by_cases hj0:j=0
 ·subst hj0;simpa [Addr.add]using this
 ·simpa [Addr.add,hj0]using this
theorem aWh (w:World) (a:Option Addr) (c:Nat):(convert 23 9 (.slice a 0 c)).run Tryz.prog w= .ok (nmV []) w:=by
 rw[run_convert_bytes_string w 23 9 5 a 0 c Tryz.underlying23 Tryz.underlying5 Tryz.underlying9]
 cases a with
 |none=>rfl
 |some ad=>exact run_bytesToString w ad 0 c [] rfl
theorem RdY.bMz {w:World} {a:Option Addr} {l:List UInt8} {c:Nat} (h:RdY w a l):
  (convert 23 9 (.slice a l.length c)).run Tryz.prog w= .ok (nmV l) w:=by
 by_cases h0:l=[]
 ·subst h0;exact aWh w a c
 ·exact h.conv (List.length_pos_iff.2 h0)
theorem gW {X:Nat} {l x r:List UInt8} {w:World} (h:gG w X l) (hu:eT l=some (x,r)):
  Calls Tryz.prog 66 #[.agg #[.pointer (some ⟨X,0,none⟩)]] w (GotY w X (nmV x) r):=by
 have hk:=(Below.refl w.heap.size w).bMq (.cells #[.pointer (some ⟨X,0,none⟩)] 97);have H:=hid (h.later hk);have HG:=hid (bD hk (some X));clear h hk;have HU:=hid hu;clear hu;go_enter Tryz.func66,Tryz.ntmps66;go_wp2_with fail;refine(aUi H.o HU.o).mono ?_;rintro e w1 ⟨a1,c1,rfl,h1,h2,h3⟩;have hcv:=h1.bMz (c:=c1);have H1:=hid h2;have H2:=hid (World.grownBy.next HG.o h3);clear h1 h2 h3;go_wp2_with fail;refine(vX _).mono ?_;rintro e w2 ⟨rfl,rfl⟩;go_wp2_with fail;go_ret;exact⟨rfl,H1.o,H2.o⟩
theorem sN {X:Nat} {l:List UInt8} {w:World} (h:gG w X l) (hu:eT l=none):
  Calls Tryz.prog 66 #[.agg #[.pointer (some ⟨X,0,none⟩)]] w (bLv w X):=by
 have hk:=(Below.refl w.heap.size w).bMq (.cells #[.pointer (some ⟨X,0,none⟩)] 97);have H:=hid (h.later hk);have HG:=hid (bD hk (some X));clear h hk;have HU:=hid hu;clear hu;go_enter Tryz.func66,Tryz.ntmps66;go_wp2_with fail;refine(aZz H.o HU.o).mono ?_;rintro e w1 ⟨rfl,h1,h2⟩;have H2:=hid (World.grownBy.next HG.o h2);clear h1 h2;go_wp2_with fail;refine(aMw 5 (by decide) _).mono ?_;rintro e w2 ⟨rfl,rfl⟩;go_wp2_with fail;exact⟨rfl,rfl,H2.o⟩
open Go.RowKit Go.Maps
theorem aWb {l r:List UInt8} {x:E} (h:uW l=some (x,r)):∃ (a n s:Nat) (l1 l2:List UInt8),fP l=some (a,l1)/\fP l1=some (n,l2)/\fP l2=some (s,r)/\x=⟨a,n,s⟩:=by
 unfold uW at h
 cases h1:fP l with
 |none=>rw[h1]at h;cases h
 | some p=>
  obtain⟨a,l1⟩:=p;rw[h1]at h;simp only at h
  cases h2:fP l1 with
  |none=>rw[h2]at h;cases h
  | some p=>
   obtain⟨n,l2⟩:=p;rw[h2]at h;simp only at h
   cases h3:fP l2 with
   |none=>rw[h3]at h;cases h
   | some p=>
    obtain⟨s,l3⟩:=p;rw[h3]at h;cases h;exact⟨a,n,s,l1,l2,rfl,h2,h3,rfl⟩
def ExtN (l:List UInt8):Prop:=fP l=none∨(∃a l1,fP l=some (a,l1)/\fP l1=none)∨ ∃a n l1 l2,fP l=some (a,l1)/\fP l1=some (n,l2)/\fP l2=none
theorem bBv {l:List UInt8} (h:uW l=none):ExtN l:=by
 unfold uW at h
 cases h1:fP l with
 |none=>exact .inl h1
 | some p=>
  obtain⟨a,l1⟩:=p;rw[h1]at h;simp only at h
  cases h2:fP l1 with
  |none=>exact .inr (.inl ⟨a,l1,h1,h2⟩)
  | some p=>
   obtain⟨n,l2⟩:=p;rw[h2]at h;simp only at h
   cases h3:fP l2 with
   |none=>exact .inr (.inr ⟨a,n,l1,l2,h1,h2,h3⟩)
   | some p=>
    obtain⟨s,l3⟩:=p;rw[h3]at h;cases h
structure RB1 (W:World) (B X:Nat) (l:List UInt8):Prop where
 c:W.cell? ⟨B,0,none⟩=some (.pointer (some ⟨X,0,none⟩))
 r:gG W X l
 ne:B≠X
theorem RB1.went {W W':World} {B X:Nat} {l r:List UInt8} (h:RB1 W B X l) (hr:gG W' X r) (hg:W.grownBy W' (some X)):RB1 W' B X r:=
 ⟨jM hg h.c h.ne,hr,h.ne⟩
theorem RB1.drew {W:World} {B X:Nat} {l:List UInt8} (h:RB1 W B X l):RB1 W.drew B X l:=⟨h.c,h.r.later (Below.refl _ _).drew,h.ne⟩
structure RX3 (W:World) (T:Nat) (a n s:Int):Prop where
 t0:W.cell? ⟨T,0,none⟩=some (.int .i64 a)
 t1:W.cell? ⟨T,1,none⟩=some (.int .i64 n)
 t2:W.cell? ⟨T,2,none⟩=some (.int .i64 s)
 f0:W.frozen? ⟨T,0,none⟩=false
 f1:W.frozen? ⟨T,1,none⟩=false
 f2:W.frozen? ⟨T,2,none⟩=false
 c3:∀ i,3<=i->W.cell? ⟨T,i,none⟩=none
theorem RX3.new (W:World):RX3 (W.alloc (.cells #[.int .i64 0,.int .i64 0,.int .i64 0] 81)) W.heap.size 0 0 0:=⟨by simp,by simp,by simp,by simp,by simp,by simp,fun i hi=>by
 rw[World.cell?_alloc_new];simp
 omega⟩
theorem RX3.lt {W:World} {T:Nat} {a n s:Int} (h:RX3 W T a n s):T<W.heap.size:=World.block_lt_of_cell? W ⟨T,0,none⟩ h.t0
theorem RX3.later {W W':World} {T:Nat} {a n s:Int} (h:RX3 W T a n s) (hb:Below W.heap.size W W'):RX3 W' T a n s:=
 ⟨hb.keep h.t0,hb.keep h.t1,hb.keep h.t2,hb.bMw h.t0 h.f0,hb.bMw h.t1 h.f1,hb.bMw h.t2 h.f2,fun i hi=>(hb.cell (p:=⟨T,i,none⟩) h.lt).trans (h.c3 i hi)⟩
theorem RX3.went {W W':World} {T X:Nat} {a n s:Int} (h:RX3 W T a n s) (hne:T≠X) (hg:W.grownBy W' (some X)):RX3 W' T a n s:=
 ⟨jM hg h.t0 hne,jM hg h.t1 hne,jM hg h.t2 hne,oK hg h.t0 h.f0 hne,oK hg h.t1 h.f1 hne,oK hg h.t2 h.f2 hne,fun i hi=>(World.cell?_of_block (hg.block T h.lt (fun e=>hne (Option.some.inj e)))).trans (h.c3 i hi)⟩
abbrev aZl (W:World) (T:Nat) (a n s:Int):World:=((W.setCell ⟨T,0,none⟩ (.int .i64 a)).setCell ⟨T,1,none⟩ (.int .i64 n)).setCell ⟨T,2,none⟩ (.int .i64 s)
theorem RX3.cells {W:World} {T:Nat} {a n s:Int} (h:RX3 W T a n s) (x y z:Int):(aZl W T x y z).cell? ⟨T,0,none⟩=some (.int .i64 x)/\(aZl W T x y z).cell? ⟨T,1,none⟩=some (.int .i64 y)/\(aZl W T x y z).cell? ⟨T,2,none⟩=some (.int .i64 z):=by
 refine⟨?_,?_,?_⟩
 ·rw[World.cell?_setCell_other _ _ _ _ (by simp),World.cell?_setCell_other _ _ _ _ (by simp)];exact World.cell?_setCell_same _ _ _ h.t0
 ·rw[World.cell?_setCell_other _ _ _ _ (by simp)];refine World.cell?_setCell_same (u:= .int .i64 n) _ _ _ ?_;rw[World.cell?_setCell_other _ _ _ _ (by simp)];exact h.t1
 ·refine World.cell?_setCell_same (u:= .int .i64 s) _ _ _ ?_;rw[World.cell?_setCell_other _ _ _ _ (by simp),World.cell?_setCell_other _ _ _ _ (by simp)];exact h.t2
theorem aVq {w W:World} {X T:Nat} (hg:w.grownBy W (some X)) (hT:w.heap.size<=T) (x y z:Int):w.grownBy (aZl W T x y z) (some X):=by
 have hh:∀ k,k≠T->(aZl W T x y z).heap[k]? =W.heap[k]? :=fun k hk=>by
  rw[RowKit.Below.heap_setCell _ _ _ _ (by simpa using hk),RowKit.Below.heap_setCell _ _ _ _ (by simpa using hk),RowKit.Below.heap_setCell _ _ _ _ (by simpa using hk)]
 exact⟨hg.os,hg.tape,hg.output,by simpa [World.setCell]using hg.size,fun k hk hne=>(hh k (by omega)).trans (hg.block k hk hne)⟩
theorem gG.set3 {W:World} {X T:Nat} {l:List UInt8} (h:gG W X l) {a n s:Int} (ht:RX3 W T a n s) (hne:X≠T) (x y z:Int):gG (aZl W T x y z) X l:=by
 obtain ⟨a0,c0,h1,h2,h3⟩:=h.bx;have hc:∀ k i,k≠T->(Proofs.YtaiklhbakldfhaaGreat.aZl W T x y z).cell? ⟨k,i,none⟩=W.cell? ⟨k,i,none⟩:=fun k i hk=>by
  rw[cell_far (by simpa using hk),cell_far (by simpa using hk),cell_far (by simpa using hk)]
 refine ⟨a0,c0,⟨(hc _ _ hne).trans h1.c0,(hc _ _ hne).trans h1.c1,by simp only[World.frozen?_setCell];exact h1.f0,by simp only[World.frozen?_setCell];exact h1.f1,fun i hi=>(hc _ _ hne).trans (h1.c2 i hi),((h1.ty.set _ _).set _ _).set _ _⟩,⟨h2.1,h2.2.imp id fun⟨b,o,ha,hat⟩=>⟨b,o,ha,fun k c hk=> ?_⟩⟩,h3⟩;have hb:b≠T:=fun e=>by
  have h9:=hat k c hk;subst e;by_cases h0:o+k=0
  ·rw[h0,ht.t0]at h9;cases h9
  ·by_cases h1:o+k=1
   ·rw[h1,ht.t1]at h9;cases h9
   ·by_cases h2:o+k=2
    ·rw[h2,ht.t2]at h9;cases h9
    ·rw[ht.c3 _ (by omega)]at h9;cases h9
 exact(hc _ _ hb).trans (hat k c hk)
def GotE (w:World) (X:Nat) (x:E) (r:List UInt8) (e:Ending) (w':World):Prop:=
 e= .returned (.agg #[.int .i64 x.a,.int .i64 x.n,.int .i64 x.s])/\gG w' X r/\w.grownBy w' (some X)
theorem bDr {X:Nat} {l r:List UInt8} {x:E} {w:World} (h:gG w X l) (hu:uW l=some (x,r)):
  Calls Tryz.prog 68 #[.agg #[.pointer (some ⟨X,0,none⟩)]] w (GotE w X x r):=by
 obtain⟨a,n,s,l1,l2,h1,h2,h3,rfl⟩:=aWb hu;have hX:=h.odd.lt;have hk:=(Below.refl w.heap.size w).bMq (.cells #[.pointer (some ⟨X,0,none⟩)] 97);have hk2:=hk.bMq (.cells #[.int .i64 0,.int .i64 0,.int .i64 0] 81);have H:=hid (RB1.mk (B:=w.heap.size) (by simp) (h.later hk2) (by omega));have HB:=hid hk2;have HT:=hid (RX3.new (w.alloc (.cells #[.pointer (some ⟨X,0,none⟩)] 97)));rw[World.size_alloc]at HT;have HNE:Hid (w.heap.size+1≠X):=hid (by omega);have U1:=hid h1;have U2:=hid h2;have U3:=hid h3;clear h hk hk2 h1 h2 h3 hu;go_enter Tryz.func68,Tryz.ntmps68;go_wp2_with fail;have HD:=hid H.o.drew;have hS0:=HD.o.c
 go_region_held3 (fun w'=>w'.cell? ⟨w.heap.size,0,none⟩=some (.pointer (some ⟨X,0,none⟩)))
  (first
   |with_reducible exact H.o.c
   |with_reducible exact hS0
   |with_reducible exact hS1
   |with_reducible exact hS2)
  (first
   |(go_at_call 65;(with_reducible refine(iT HD.o.r U1.o).mono ?_);rintro e w1 ⟨rfl,hr1,hg1⟩;have H1:=hid (HD.o.went hr1 hg1);have hS1:=H1.o.c;have G1:=hid hg1;clear hr1 hg1)
   |(go_at_call 65;(with_reducible refine(iT H1.o.r U2.o).mono ?_);rintro e w2 ⟨rfl,hr2,hg2⟩;have H2:=hid (H1.o.went hr2 hg2);have hS2:=H2.o.c;have G2:=hid hg2;clear hr2 hg2))
 have HT:=hid (((HT.o.later (Below.refl _ _).drew).went HNE.o G1.o).went HNE.o G2.o);have HGG:=hid (World.grownBy.next (World.grownBy.next (bD (HB.o.drew) (some X)) G1.o) G2.o);clear hS0 hS1;go_wp2_with fail;refine(iT H2.o.r U3.o).mono ?_;rintro e w3 ⟨rfl,hr3,hg3⟩;have HT:=hid (HT.o.went HNE.o hg3);have HGG:=hid (World.grownBy.next HGG.o hg3);have HR3:=hid hr3;have t0:=HT.o.t0;have t1:=HT.o.t1;have t2:=HT.o.t2;have f0:=HT.o.f0;have f1:=HT.o.f1;have f2:=HT.o.f2;clear hr3 hg3 hS2;go_wp2_with fail;obtain⟨j0,j1,j2⟩:=HT.o.cells a n s
 (try simp only[Exit.inBlock,Exit.then])
 refine bodyPost_ret (v:= .agg #[.int .i64 a,.int .i64 n,.int .i64 s]) (by first|(rw[results_cell_tmp rfl];go_simp;done)|(rw[aB rfl];go_simp;done)|(rw[aA rfl];go_simp;done)) rfl ?_;exact⟨rfl,HR3.o.set3 HT.o (Ne.symm HNE.o) _ _ _,aVq HGG.o (by omega) _ _ _⟩
theorem bId {X:Nat} {l:List UInt8} {w:World} (h:gG w X l) (hu:uW l=none):
  Calls Tryz.prog 68 #[.agg #[.pointer (some ⟨X,0,none⟩)]] w (bLv w X):=by
 have hX:=h.odd.lt;have hk:=(Below.refl w.heap.size w).bMq (.cells #[.pointer (some ⟨X,0,none⟩)] 97);have hk2:=hk.bMq (.cells #[.int .i64 0,.int .i64 0,.int .i64 0] 81);have H:=hid (RB1.mk (B:=w.heap.size) (by simp) (h.later hk2) (by omega));have HB:=hid hk2;have HU:=hid (bBv hu);clear h hk hk2 hu;rcases HU.o with h1|⟨a,l1,h1,h2⟩|⟨a,n,l1,l2,h1,h2,h3⟩
 ·have U1:=hid h1;clear h1 HU;go_enter Tryz.func68,Tryz.ntmps68;go_wp2_with fail;have HD:=hid H.o.drew;have hS0:=HD.o.c;have HG:=hid (bD (HB.o.drew) (some X));refine wp_region_held_drew (S:=(fun w'=>w'.cell? ⟨w.heap.size,0,none⟩=some (.pointer (some ⟨X,0,none⟩)))) (by kernel_rfl) hS0 (fun hHeld=> ?_);refine wpAnyH_take (i:=0) (v:= ?_) rfl (by kernel_rfl) (by kernel_rfl) (by kernel_rfl) (fun _ _ _ h=>h) (Or.inl ⟨by rfl,?_⟩) (by assumption) ?_
  rotate_left
  ·(intro w hSw;(try dsimp only at hSw);go_simp;try with_reducible rfl)
  try simp only[Act.put,List.setIfInBounds_toArray,List.set_cons_zero,List.set_cons_succ]
  refine wpAnyH_take (i:=2) (v:= ?_) rfl (by kernel_rfl) (by kernel_rfl) (by kernel_rfl) (fun _ _ _ h=>h) (Or.inl ⟨by rfl,?_⟩) (by assumption) ?_
  rotate_left
  ·(intro w hSw;(try dsimp only at hSw);go_simp;try with_reducible rfl)
  try simp only[Act.put,List.setIfInBounds_toArray,List.set_cons_zero,List.set_cons_succ]
  refine wpAnyH_ready (rs:=[1]) (by kernel_rfl) (by simp) ?_;refine AllReadyH.cons rfl (fun K hK=> ?_) AllReadyH.nil;go_simp;refine(rH HD.o.r U1.o).mono ?_;rintro e w1 ⟨rfl,hg1⟩;exact⟨rfl,rfl,World.grownBy.next HG.o hg1⟩
 ·have U1:=hid h1;have U2:=hid h2;clear h1 h2 HU;go_enter Tryz.func68,Tryz.ntmps68;go_wp2_with fail;have HD:=hid H.o.drew;have hS0:=HD.o.c;have HG:=hid (bD (HB.o.drew) (some X));refine wp_region_held_drew (S:=(fun w'=>w'.cell? ⟨w.heap.size,0,none⟩=some (.pointer (some ⟨X,0,none⟩)))) (by kernel_rfl) hS0 (fun hHeld=> ?_);refine wpAnyH_take (i:=0) (v:= ?_) rfl (by kernel_rfl) (by kernel_rfl) (by kernel_rfl) (fun _ _ _ h=>h) (Or.inl ⟨by rfl,?_⟩) (by assumption) ?_
  rotate_left
  ·(intro w hSw;(try dsimp only at hSw);go_simp;try with_reducible rfl)
  try simp only[Act.put,List.setIfInBounds_toArray,List.set_cons_zero,List.set_cons_succ]
  refine wpAnyH_take (i:=2) (v:= ?_) rfl (by kernel_rfl) (by kernel_rfl) (by kernel_rfl) (fun _ _ _ h=>h) (Or.inl ⟨by rfl,?_⟩) (by assumption) ?_
  rotate_left
  ·(intro w hSw;(try dsimp only at hSw);go_simp;try with_reducible rfl)
  try simp only[Act.put,List.setIfInBounds_toArray,List.set_cons_zero,List.set_cons_succ]
  refine wpAnyH_ready (rs:=[1]) (by kernel_rfl) (by simp) ?_;refine AllReadyH.cons rfl (fun K hK=> ?_) AllReadyH.nil;go_simp;refine(iT HD.o.r U1.o).mono ?_;rintro e w1 ⟨rfl,hr1,hg1⟩;have H1:=hid (HD.o.went hr1 hg1);have hS1:=H1.o.c;have HG:=hid (World.grownBy.next HG.o hg1);clear hr1 hg1;refine hK.out _ _ hS1 (fun hHeld=> ?_);clear hK K
  try simp only[Act.put,List.setIfInBounds_toArray,List.set_cons_zero,List.set_cons_succ]
  refine wpAnyH_ready (rs:=[3]) (by kernel_rfl) (by simp) ?_;refine AllReadyH.cons rfl (fun K hK=> ?_) AllReadyH.nil;go_simp;refine(rH H1.o.r U2.o).mono ?_;rintro e w2 ⟨rfl,hg2⟩;exact⟨rfl,rfl,World.grownBy.next HG.o hg2⟩
 ·have U1:=hid h1;have U2:=hid h2;have U3:=hid h3;clear h1 h2 h3 HU;go_enter Tryz.func68,Tryz.ntmps68;go_wp2_with fail;have HD:=hid H.o.drew;have hS0:=HD.o.c;have HG:=hid (bD (HB.o.drew) (some X));refine wp_region_held_drew (S:=(fun w'=>w'.cell? ⟨w.heap.size,0,none⟩=some (.pointer (some ⟨X,0,none⟩)))) (by kernel_rfl) hS0 (fun hHeld=> ?_);refine wpAnyH_take (i:=0) (v:= ?_) rfl (by kernel_rfl) (by kernel_rfl) (by kernel_rfl) (fun _ _ _ h=>h) (Or.inl ⟨by rfl,?_⟩) (by assumption) ?_
  rotate_left
  ·(intro w hSw;(try dsimp only at hSw);go_simp;try with_reducible rfl)
  try simp only[Act.put,List.setIfInBounds_toArray,List.set_cons_zero,List.set_cons_succ]
  refine wpAnyH_take (i:=2) (v:= ?_) rfl (by kernel_rfl) (by kernel_rfl) (by kernel_rfl) (fun _ _ _ h=>h) (Or.inl ⟨by rfl,?_⟩) (by assumption) ?_
  rotate_left
  ·(intro w hSw;(try dsimp only at hSw);go_simp;try with_reducible rfl)
  try simp only[Act.put,List.setIfInBounds_toArray,List.set_cons_zero,List.set_cons_succ]
  refine wpAnyH_ready (rs:=[1]) (by kernel_rfl) (by simp) ?_;refine AllReadyH.cons rfl (fun K hK=> ?_) AllReadyH.nil;go_simp;refine(iT HD.o.r U1.o).mono ?_;rintro e w1 ⟨rfl,hr1,hg1⟩;have H1:=hid (HD.o.went hr1 hg1);have hS1:=H1.o.c;have HG:=hid (World.grownBy.next HG.o hg1);clear hr1 hg1;refine hK.out _ _ hS1 (fun hHeld=> ?_);clear hK K
  try simp only[Act.put,List.setIfInBounds_toArray,List.set_cons_zero,List.set_cons_succ]
  refine wpAnyH_ready (rs:=[3]) (by kernel_rfl) (by simp) ?_;refine AllReadyH.cons rfl (fun K hK=> ?_) AllReadyH.nil;go_simp;refine(iT H1.o.r U2.o).mono ?_;rintro e w2 ⟨rfl,hr1,hg1⟩;have H2:=hid (H1.o.went hr1 hg1);have hS2:=H2.o.c;have HG:=hid (World.grownBy.next HG.o hg1);clear hr1 hg1;refine hK.out _ _ hS2 (fun hHeld=> ?_);clear hK K
  try simp only[Act.put,List.setIfInBounds_toArray,List.set_cons_zero,List.set_cons_succ]
  refine wpAnyH_take (i:=4) (v:= ?_) rfl (by kernel_rfl) (by kernel_rfl) (by kernel_rfl) (fun _ _ _ h=>h) (Or.inl ⟨by rfl,?_⟩) (by assumption) ?_
  rotate_left
  ·(intro w hSw;(try dsimp only at hSw);go_simp;try with_reducible rfl)
  try simp only[Act.put,List.setIfInBounds_toArray,List.set_cons_zero,List.set_cons_succ]
  refine wpAnyH_take (i:=5) (v:= ?_) rfl (by kernel_rfl) (by kernel_rfl) (by kernel_rfl) (fun _ _ _ h=>h) (Or.inl ⟨by rfl,?_⟩) (by assumption) ?_
  rotate_left
  ·(intro w hSw;(try dsimp only at hSw);go_simp;try with_reducible rfl)
  try simp only[Act.put,List.setIfInBounds_toArray,List.set_cons_zero,List.set_cons_succ]
  refine wpAnyH_done (by kernel_rfl) ?_ _;clear hS0 hS1 hHeld;go_wp2_with fail;refine(rH H2.o.r U3.o).mono ?_;rintro e w3 ⟨rfl,hg1⟩;exact⟨rfl,rfl,World.grownBy.next HG.o hg1⟩
end Go.Proofs.YtaiklhbakldfhaaGreat
