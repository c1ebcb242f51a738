/-
  The specification's Runs.
  slices.Clone and slices.DeleteFunc as extent.Runs calls them.
  Conditions: as each theorem says.
-/
import Derived.Test.YtaiklhbakldfhaaGreatGC
import Derived.Test.YtaiklhbakldfhaaGreatGA
import Derived.Test.YtaiklhbakldfhaaGreatGD
import Derived.Lib.SliceRun
namespace Go.Proofs.YtaiklhbakldfhaaGreat
open Go.Lib (hid)
set_option linter.unusedSimpArgs false
set_option linter.unusedVariables false
set_option maxRecDepth 100000
set_option maxHeartbeats 16000000
open Go.RowKit
theorem aQr {l:List E} {e next:Int} (he:0<=e/\e<=65536) (hf:rE l e next true):0<=next/\next<=65536:=by
 rcases hf with ⟨hf,_⟩|⟨_,⟨x,hx,h1,h2,h3⟩,_⟩
 ·cases hf
 ·have:=(aD x).1 h1;omega
theorem aHg {l:List E} {next t:Int} (he:0<=next/\next<=65536) (hg:kY l next t):0<=t/\t<=65536:=by
 obtain⟨g1,g2|⟨x,hx,h1,h2,h3⟩,_⟩:=hg
 ·omega
 ·have:=(aD x).1 h1;omega
theorem aSm (C:List E) (y:E) (m:Int):(bH (C++[y])).set (C.length*3+1) (.int .i64 m)=bH (C++[⟨y.a,m,y.s⟩]):=by
 have hk:(bH C).length=C.length*3:=dD C;rw[eH,eH,List.set_append_right _ _ (by rw[hk];omega),hk,show C.length*3+1-C.length*3=1 by omega];rfl
theorem aG.setn {w:World} {B g c n:Nat} {C:List E} {y:E} (hn:n=C.length+1) (h:aG w B (.slice (some ⟨g,0,none⟩) n c) (C++[y])) (m:Int):
  aG (w.setCell ⟨g,C.length*3+1,none⟩ (.int .i64 m)) B (.slice (some ⟨g,0,none⟩) n c) (C++[⟨y.a,m,y.s⟩])/\w.grownBy (w.setCell ⟨g,C.length*3+1,none⟩ (.int .i64 m)) (some g):=by
 subst hn;unfold aG at h ⊢;rw[show(C++[y]).length=C.length+1 by simp]at h;have hst:=World.ownsRow.stored h (C.length*3+1) (.int .i64 m);rw[aSm]at hst;refine⟨?_,hst.2⟩;rw[show(C++[(⟨y.a,m,y.s⟩:E)]).length=C.length+1 by simp];exact hst.1
theorem aZo (l:List E) (a:Option Addr) (c:Nat) (w:World) (hr:Rd w a l) (hw:wfL l):
  Calls Tryz.prog 196 #[.slice a l.length c] w fun e w'=>∃ v,e= .returned v/\aG w' w.heap.size v (bT l)/\Below w.heap.size w w':=by
 have hlen:=hr.1;obtain⟨i0,hi,hz0,hz1,hz2⟩:=info_parts kV;go_enter Tryz.func196,Tryz.ntmps196;go_wp2_with fail;go_loopw [3,4] (fun v e wr=>∃ (R:List E) (en:Int),e= .int .i64 en/\aCv l R en/\aG wr w.heap.size v R/\Below w.heap.size w wr) (fun _ e _=>(65536-(match e with| .int _ n=>n|_=>0)).toNat)
 case atStart=>exact⟨[],0,rfl,bCg l,aG.nil _ _,Below.refl _ _⟩
 case round=>
  obtain⟨R,en,rfl,hbl,ho,hB⟩:=hrel;have he0:=hbl.e0;have he1:=hbl.e1;have HBL:=hid hbl;have HR:=hid ho;clear hbl ho;go_wp2_with fail;go_loopw [5,6,7] (fun nx fd i wr2=>∃ (k:Nat) (next:Int) (found:Bool),k<=l.length/\i= .int .i64 k/\nx= .int .i64 next/\fd= .bool found/\rE (l.take k) en next found/\(found=false->next=0)/\Below wr.heap.size wr wr2) (fun _ _ i _=>l.length-(intOf i).toNat)
  case atStart=>exact⟨0,0,false,Nat.zero_le _,rfl,rfl,rfl,bBb en,fun _=>rfl,Below.refl _ _⟩
  case round=>
   obtain ⟨k,next,found,hk,rfl,rfl,rfl,hL,hf0,hB2⟩:=hrel;have hBw:=hB.on hB2;have hnb:0<=next/\next<=65536:=by
    cases found with
    |false=>rw[hf0 rfl];omega
    |true=>exact aQr ⟨he0,he1⟩ hL
   obtain⟨hn0,hn1⟩:=hnb;have HF0:=hid hf0;by_cases hlt:k<l.length
   ·obtain ⟨b,o,rfl,hat⟩:=(hr.keep hBw).at (by omega);obtain⟨h1,h2,h3⟩:=hat k _ (List.getElem?_eq_getElem hlt);have HS:Hid (okB l[k]=false∨l[k].s+l[k].n<=en->rE (l.take (k+1)) en next found):=hid (aVj hlt hL);have HT:Hid (okB l[k]=true->en<l[k].s+l[k].n->(found=false∨max l[k].s en<next)->rE (l.take (k+1)) en (max l[k].s en) true):=hid (aVh hlt hL);have HU:Hid (found=true->next<=max l[k].s en->rE (l.take (k+1)) en next found):=hid (fun e h=>by subst e;exact aVi hlt hL h);generalize l[k]=x at *;clear hat hr hL hf0;cases hp:okB x
    ·have HP:=hid hp;clear hp;go_wp2_with fail;refine aC (by kernel_rfl) (by kernel_rfl) ?_
     repeat(go_big_quiet_step ((go_at_call 193;exact Calls.bMv (rZ _ _ _ _ _ HP.o))))
     refine wpQuiet_nil ?_;intro _ hw';obtain⟨nq,hw''⟩:=hw';subst hw'';go_wp2_with fail;go_roundw
     case rel=>exact⟨k+1,next,found,by omega,by go_num,rfl,rfl,HS.o (.inl HP.o),HF0.o,hB2.bMt _⟩
     case measure=>simp[intOf];omega
    ·obtain ⟨c1,c2,c3,c4,c5⟩:=(aD x).1 hp;have HP:=hid hp;clear hp;by_cases hle:x.s+x.n<=en
     ·have hd:decide (x.s+x.n<=en)=true:=decide_eq_true hle;go_wp2_with fail;refine aC (by kernel_rfl) (by kernel_rfl) ?_
      repeat(go_big_quiet_step ((go_at_call 193;exact Calls.bMv (rZ _ _ _ _ _ HP.o))))
      refine wpQuiet_nil ?_;intro _ hw';obtain⟨nq,hw''⟩:=hw';subst hw'';go_wp2_with fail;go_roundw
      case rel=>exact⟨k+1,next,found,by omega,by go_num,rfl,rfl,HS.o (.inr hle),HF0.o,hB2.bMt _⟩
      case measure=>simp[intOf];omega
     ·have hd:decide (x.s+x.n<=en)=false:=decide_eq_false hle;go_wp2_with fail;refine aC (by kernel_rfl) (by kernel_rfl) ?_
      repeat(go_big_quiet_step ((go_at_call 193;exact Calls.bMv (rZ _ _ _ _ _ HP.o))))
      refine wpQuiet_nil ?_;intro _ hw';obtain⟨nq,hw''⟩:=hw';subst hw'';have hB3:=hB2.bMt nq;have h3:=(World.bMr wr nq).keep h3;generalize wr.next nq=wr3 at *;go_wp2_with fail
      all_goals have hM:(if x.s<en then en else x.s)=max x.s en:=by split <;> omega
      ·rename_i hf hs2
       have hs3:max x.s en<next:=by first|omega|(split at hs2 <;> omega)
       have hd3:=hid (HT.o HP.o hle (.inr hs3));have hM2:=hid hM;clear hM hs2 hs3 hf;go_roundw
       case rel=>exact⟨k+1,max x.s en,true,by omega,by go_num,congrArg _ hM2.o,rfl,hd3.o,(fun h=>by cases h),hB3⟩
       case measure=>simp[intOf];omega
      ·rename_i hf hs2
       have hs3:next<=max x.s en:=by first|omega|(split at hs2 <;> omega)
       have hd3:=hid (HU.o hf hs3);rw[hf]at hd3;clear hM hs2 hs3;go_roundw
       case rel=>exact⟨k+1,next,true,by omega,by go_num,rfl,rfl,hd3.o,(fun h=>by cases h),hB3⟩
       case measure=>simp[intOf];omega
      ·rename_i hf
       have hf2:found=false:=by simpa using hf
       have hd3:=hid (HT.o HP.o hle (.inl hf2));have hM2:=hid hM;clear hM hf hf2;go_roundw
       case rel=>exact⟨k+1,max x.s en,true,by omega,by go_num,congrArg _ hM2.o,rfl,hd3.o,(fun h=>by cases h),hB3⟩
       case measure=>simp[intOf];omega
   ·rw [List.take_of_length_le (by omega)]at hL;have HL:=hid hL;cases found
    ·have HE:=hid (bCh HBL.o HL.o);have HR2:=hid (HR.o.keep hB2);clear hL hf0 HF0;go_wp2_with fail;go_ret;exact⟨_,rfl,by rw[<-HE.o];exact HR2.o,hBw⟩
    ·obtain ⟨l1,l2⟩:=aMz HBL.o HL.o;have HR2:=hid (HR.o.keep hB2);clear hL hf0 HF0 HR hB hB2;go_wp2_with fail;go_loopw [4,9] (fun e i wr3=>∃ (k:Nat) (t:Int),k<=l.length/\i= .int .i64 k/\e= .int .i64 t/\kY (l.take k) next t/\Below wr.heap.size wr wr3) (fun _ i _=>l.length-(intOf i).toNat)
     case atStart=>exact⟨0,next,Nat.zero_le _,rfl,rfl,aNg next,Below.refl _ _⟩
     case round=>
      obtain⟨k,t,hk,rfl,rfl,hG,hB3⟩:=hrel;have hBw3:=hBw.on hB3;obtain⟨t0,t1⟩:=aHg ⟨hn0,hn1⟩ hG;by_cases hlt:k<l.length
      ·obtain ⟨b,o,rfl,hat⟩:=(hr.keep hBw3).at (by omega);obtain⟨h1,h2,h3⟩:=hat k _ (List.getElem?_eq_getElem hlt);have HS:Hid (okB l[k]=false∨next<l[k].s∨l[k].s+l[k].n<=t->kY (l.take (k+1)) next t):=hid (aJa hlt hG);have HT:Hid (okB l[k]=true->l[k].s<=next->t<l[k].s+l[k].n->kY (l.take (k+1)) next (l[k].s+l[k].n)):=hid (aIz hlt hG);generalize l[k]=x at *;clear hat hr hG;cases hp:okB x
       ·have HP:=hid hp;clear hp;go_wp2_with fail;refine aC (by kernel_rfl) (by kernel_rfl) ?_
        repeat(go_big_quiet_step ((go_at_call 193;exact Calls.bMv (rZ _ _ _ _ _ HP.o))))
        refine wpQuiet_nil ?_;intro _ hw';obtain⟨nq,hw''⟩:=hw';subst hw'';go_wp2_with fail;go_roundw
        case rel=>exact⟨k+1,t,by omega,by go_num,rfl,HS.o (.inl HP.o),hB3.bMt _⟩
        case measure=>simp[intOf];omega
       ·obtain ⟨c1,c2,c3,c4,c5⟩:=(aD x).1 hp;have HP:=hid hp;clear hp;by_cases hsn:x.s<=next
        ·have hd1:decide (x.s<=next)=true:=decide_eq_true hsn;by_cases hte:t<x.s+x.n
         ·have hd2:decide (t<x.s+x.n)=true:=decide_eq_true hte;go_wp2_with fail;refine aC (by kernel_rfl) (by kernel_rfl) ?_
          repeat(go_big_quiet_step ((go_at_call 193;exact Calls.bMv (rZ _ _ _ _ _ HP.o))))
          refine wpQuiet_nil ?_;intro _ hw';obtain⟨nq,hw''⟩:=hw';subst hw'';have hB4:=hB3.bMt nq;have h2:=(World.bMr wr nq).keep h2;have h3:=(World.bMr wr nq).keep h3;generalize wr.next nq=wr4 at *;go_wp2_with fail;refine aC (by kernel_rfl) (by kernel_rfl) ?_
          repeat(go_big_quiet_step (fail))
          refine wpQuiet_nil ?_;intro _ hw';obtain⟨nq,hw''⟩:=hw';subst hw'';go_wp2_with fail;go_roundw
          case rel=>exact⟨k+1,x.s+x.n,by omega,by go_num,rfl,HT.o HP.o hsn hte,hB4.bMt _⟩
          case measure=>simp[intOf];omega
         ·have hd2:decide (t<x.s+x.n)=false:=decide_eq_false hte;go_wp2_with fail;refine aC (by kernel_rfl) (by kernel_rfl) ?_
          repeat(go_big_quiet_step ((go_at_call 193;exact Calls.bMv (rZ _ _ _ _ _ HP.o))))
          refine wpQuiet_nil ?_;intro _ hw';obtain⟨nq,hw''⟩:=hw';subst hw'';go_wp2_with fail;go_roundw
          case rel=>exact⟨k+1,t,by omega,by go_num,rfl,HS.o (.inr (.inr (by omega))),hB3.bMt _⟩
          case measure=>simp[intOf];omega
        ·have hd1:decide (x.s<=next)=false:=decide_eq_false hsn;go_wp2_with fail;refine aC (by kernel_rfl) (by kernel_rfl) ?_
         repeat(go_big_quiet_step ((go_at_call 193;exact Calls.bMv (rZ _ _ _ _ _ HP.o))))
         refine wpQuiet_nil ?_;intro _ hw';obtain⟨nq,hw''⟩:=hw';subst hw'';go_wp2_with fail;go_roundw
         case rel=>exact⟨k+1,t,by omega,by go_num,rfl,HS.o (.inr (.inl (by omega))),hB3.bMt _⟩
         case measure=>simp[intOf];omega
      ·rw [List.take_of_length_le (by omega)]at hG;obtain⟨g1,g2,g3⟩:=aWx HBL.o HL.o hG;have HN:=hid g1;have HR3:=hid (HR2.o.keep hB3);have hrs:=bE HBL.o.canon;clear hG g1 HR2 hB3;by_cases hR:R=[]
       ·subst hR;obtain⟨a3,c3,rfl⟩:∃ a c,u3= .slice a 0 c:=by
         rcases HR3.o.form with ⟨rfl,_⟩|⟨g,c,rfl,_⟩
         ·exact⟨_,_,rfl⟩
         ·exact⟨_,_,rfl⟩
        go_wp2_with fail;refine aC (by kernel_rfl) (by kernel_rfl) ?_
        repeat(go_big_quiet_step (fail))
        refine wpQuiet_nil ?_;intro _ hw';obtain⟨nq,hw''⟩:=hw';subst hw'';have hB5:=hBw3.bMt nq;have HR5:=hid (HR3.o.keep (World.bMr wr nq));have hsz5:=hB5.size;generalize wr.next nq=W at *;clear HR3 hBw3
        go_wp2_with (at_builtin;refine aM _ rfl _ _ 76 rfl w.heap.size 81 i0 (.agg #[.int .i64 0,.int .i64 0,.int .i64 0]) 3 24 Tryz.underlying76 hi hz0 hz1 hz2 rfl (by decide) _ _ _ rfl (World.ownsRow.alloc HR5.o _) ⟨W.heap.size,0,none⟩ 1 1 (E.cells (⟨0,t-next,next⟩:E)) rfl rfl (rF _ _ (by simp) _ _) (bX _) (by first|omega|(simp only[List.length_nil,List.length_append,List.length_cons];omega)) (by first|(simp only[maxLen];omega)|(simp only[maxLen,List.length_nil,List.length_append,List.length_cons];omega)) (by simp only[World.size_alloc];omega) ?_;intro v1 w1 hown1 hgrow1 hwhere1)
        have hB6:=hid ((hB5.bMq (.cells #[.int .i64 0,.int .i64 (t-next),.int .i64 next] 81)).bMu hgrow1 fun j hj=>(HR5.o.lt j hj).1);have HO6:=hid (aG.snoc hown1 (by simp));clear hown1 hgrow1 hwhere1;go_roundw
        case rel=>exact⟨_,t,rfl,HN.o,HO6.o,hB6.o⟩
        case measure=>simp;omega
       ·obtain ⟨C,y,rfl⟩:=fC R hR;obtain⟨g,c3,rfl,hg1,hg2,hc1,hc2,hgt,hfz⟩:=(HR3.o.form).resolve_left (by simp);obtain⟨y1,y2,y3⟩:=hgt C.length y (by simp);simp only[List.length_append,List.length_cons,List.length_nil,Nat.zero_add]at y1 y2 y3 hc1 hrs;have hf:=hfz (C.length*3+1);obtain⟨e1,e2,e3,e4,e5⟩:=(aD y).1 (HBL.o.canon.1 y (by simp)).2;have hlen:(C++[y]).length=C.length+1:=by simp
        have HR4:=hid HR3.o;rw[hlen]at HR4 ⊢;have hd:decide (0<=C.length)=true:=by simp
        clear hgt hfz hlen HR3 hR hr;by_cases hm:y.s+y.n=next
        ·have hsb:(y.s+y.n==next)=true:=by simp[hm]
         have HG:Hid (grow (C++[y]) next t=_):=hid (aRd C y next t hm);clear hm;go_wp2_with fail;refine aC (by kernel_rfl) (by kernel_rfl) ?_
         repeat(go_big_quiet_step (fail))
         refine wpQuiet_nil ?_;intro _ hw';obtain⟨nq,hw''⟩:=hw';subst hw'';have hB5:=hBw3.bMt nq;have hbn:=World.bMr wr nq;have HR5:=hid (HR4.o.keep hbn);have z2:=hbn.keep y2;have hfr:=hbn.bMw y2 hf;clear hbn y1 y2 y3 hf HR4 hBw3;generalize wr.next nq=W at *;go_wp2_with fail;have hst:=HR5.o.setn rfl (y.n+(t-next));have HS1:=hid hst.1;have HS2:=hid hst.2;clear hst;go_roundw
         case rel=>exact⟨_,t,rfl,HN.o,by rw[HG.o];exact HS1.o,hB5.bMu HS2.o fun j hj=>by simp at hj;omega⟩
         case measure=>simp;omega
        ·have hsb:(y.s+y.n==next)=false:=by simpa using hm
         have HG:Hid (grow (C++[y]) next t=_):=hid (aXo C y next t hm);clear hm;go_wp2_with fail;refine aC (by kernel_rfl) (by kernel_rfl) ?_
         repeat(go_big_quiet_step (fail))
         refine wpQuiet_nil ?_;intro _ hw';obtain⟨nq,hw''⟩:=hw';subst hw'';have hB5:=hBw3.bMt nq;have hbn:=World.bMr wr nq;have HR5:=hid (HR4.o.keep hbn);have hsz5:=hB5.size;clear hbn y1 y2 y3 hf HR4 hBw3;generalize wr.next nq=W at*
         go_wp2_with (at_builtin;refine aM _ rfl _ _ 76 rfl w.heap.size 81 i0 (.agg #[.int .i64 0,.int .i64 0,.int .i64 0]) 3 24 Tryz.underlying76 hi hz0 hz1 hz2 rfl (by decide) _ _ _ rfl (World.ownsRow.alloc HR5.o _) ⟨W.heap.size,0,none⟩ 1 1 (E.cells (⟨0,t-next,next⟩:E)) rfl rfl (rF _ _ (by simp) _ _) (bX _) (by first|omega|(simp only[List.length_nil,List.length_append,List.length_cons];omega)) (by first|(simp only[maxLen];omega)|(simp only[maxLen,List.length_nil,List.length_append,List.length_cons];omega)) (by simp only[World.size_alloc];omega) ?_;intro v1 w1 hown1 hgrow1 hwhere1)
         have hB6:=hid ((hB5.bMq (.cells #[.int .i64 0,.int .i64 (t-next),.int .i64 next] 81)).bMu hgrow1 fun j hj=>(HR5.o.lt j hj).1);have HO6:=hid (aG.snoc hown1 (by simp));clear hown1 hgrow1 hwhere1;go_roundw
         case rel=>exact⟨_,t,rfl,HN.o,by rw[HG.o];exact HO6.o,hB6.o⟩
         case measure=>simp;omega
end Go.Proofs.YtaiklhbakldfhaaGreat
namespace Go
open Go.Lib (hid)
set_option linter.unusedSimpArgs false
set_option linter.unusedVariables false
set_option maxRecDepth 100000
open Go.RowKit
section
variable {P:Program}
theorem aOx (w:World) (t e ty:TypeId) (z:Value) (k:Nat) (u:Value) (ht:P.underlying t=some (.slice e)) (hv:∀ w,(zeroValue e).run P w= .ok z w) (hz:z.cells=Array.replicate k u) (hk:0<k) (h1:u.oneCell'=true) (b o n c:Nat) (hn:0<n)
  (hc:∀ j,j<n*k->(w.cell? ⟨b,o+j,none⟩).isSome=true) (hf:∀ j,j<n*k->w.frozen? ⟨b,o+j,none⟩=false):
  (Builtin.clear_ #[t] ty #[.slice (some ⟨b,o,none⟩) n c]).run P w= .ok (.tuple #[]) (w.setCells b o (List.replicate (n*k) u)):=by
 have hzc:(Builtin.zeroCells z.cells n).toList=List.replicate (n*k) u:=by
  rw[hz];simp only[Builtin.zeroCells]
  apply List.ext_getElem
  ·simp
  ·intro i h1 h2;simp;rw[getElem!_pos _ _ (by simp;exact Nat.mod_lt _ hk)];simp
 have hst:=run_storeCells_cells (P:=P) b o (List.replicate (n*k) u) 0 w (by simpa using hc) (by simpa using hf) (by intro v hv';rw[List.eq_of_mem_replicate hv'];exact h1);simp only[Nat.add_zero]at hst;obtain⟨m,rfl⟩:∃ m,n=m+1:=⟨n-1,by omega⟩;simp[Builtin.clear_,run_underlying ht,hv,hzc,hst]
theorem World.grownBy.next {w a b:World} {row:Option Nat} (h2:w.grownBy a row) (h5:a.grownBy b row):w.grownBy b row:=
 ⟨h5.os.trans h2.os,h5.tape.trans h2.tape,h5.output.trans h2.output,Nat.le_trans h2.size h5.size,fun k hk hne=>(h5.block k (Nat.lt_of_lt_of_le hk h2.size) hne).trans (h2.block k hk hne)⟩
theorem World.grownBy.behind {w a b:World} {row:Option Nat} (h:w.grownBy a row) (hb:Below a.heap.size a b):w.grownBy b row:=
 h.next ⟨hb.os,hb.tape,hb.output,hb.size,fun k hk _=>hb.block k hk⟩
theorem World.ownsRow.storedAll {w:World} {base g cap n size:Nat} {e:TypeId} (vs:List Value):∀ (w:World) (xs:List Value) (o:Nat),w.ownsRow base e size (.slice (some ⟨g,0,none⟩) n cap) n xs->
  ∃xs',(w.setCells g o vs).ownsRow base e size (.slice (some ⟨g,0,none⟩) n cap) n xs'/\xs'.take o=xs.take o/\w.grownBy (w.setCells g o vs) (some g):=by
 induction vs with
 |nil=>intro w xs o h;exact⟨xs,h,rfl,rfl,rfl,rfl,Nat.le_refl _,fun _ _ _=>rfl⟩
 | cons v r ih=>
  intro w xs o h;obtain⟨h1,h2⟩:=h.stored o v;obtain⟨xs',h3,h4,h5⟩:=ih _ _ (o+1) h1;refine⟨xs',h3,?_,?_⟩
  ·have:=congrArg (List.take o) h4;rw[List.take_take,List.take_take,Nat.min_eq_left (by omega)]at this;rw[this,List.take_set_of_le (Nat.le_refl o)]
  ·exact⟨h5.os.trans h2.os,h5.tape.trans h2.tape,h5.output.trans h2.output,Nat.le_trans h2.size h5.size,fun k hk hne=>(h5.block k (Nat.lt_of_lt_of_le hk h2.size) hne).trans (h2.block k hk hne)⟩
theorem World.ownsRow.short {w:World} {base g cap n size m:Nat} {e:TypeId} {xs:List Value} (h:w.ownsRow base e size (.slice (some ⟨g,0,none⟩) n cap) n xs) (hm:m<=n):
  w.ownsRow base e size (.slice (some ⟨g,0,none⟩) m cap) m (xs.take (m*size)):=by
 obtain⟨hl,⟨h',_⟩|⟨g',cap',cur,h',hb,hg,hnc,hcm,hcs,htake⟩⟩:=h
 ·simp at h'
 ·simp only[Value.slice.injEq,Option.some.injEq,Addr.mk.injEq,and_true,true_and]at h';obtain⟨rfl,rfl⟩:=h';have hms:m*size<=n*size:=Nat.mul_le_mul_right _ hm;refine⟨by rw[List.length_take,hl];omega,.inr ⟨g,cap,cur,rfl,hb,hg,by omega,hcm,hcs,?_⟩⟩;rw[<-htake,List.take_take,Nat.min_eq_left hms]
end
end Go
namespace Go.Proofs.YtaiklhbakldfhaaGreat
open Go.Lib (hid)
set_option linter.unusedSimpArgs false
set_option linter.unusedVariables false
set_option maxRecDepth 100000
open Go.RowKit
theorem aTk (M:List E) (i:Nat):bH (M.take i)=(bH M).take (i*3):=by
 have e:bH M=bH (M.take i)++bH (M.drop i):=by rw[<-eH,List.take_append_drop]
 by_cases h:i<=M.length
 ·rw[e,List.take_append_of_le_length (by rw[dD,List.length_take];omega),List.take_of_length_le (l:=bH (M.take i)) (by rw[dD,List.length_take];omega)]
 ·rw[List.take_of_length_le (by omega),List.take_of_length_le (by rw[dD];omega)]
theorem aZj (M:List E) (k:Nat) (h:k<M.length) (x:E):(((bH M).set (k*3) (.int .i64 x.a)).set (k*3+1) (.int .i64 x.n)).set (k*3+2) (.int .i64 x.s)=bH (M.set k x):=by
 rw [aJp M k h];have e:bH M=bH (M.take k)++(E.cells M[k]++bH (M.drop (k+1))):=by
  conv=>lhs;rw[aOq M k h,eH]
  rfl
 have hk:(bH (M.take k)).length=k*3:=by rw[dD,List.length_take,Nat.min_eq_left (by omega)]
 rw[e,eH,List.set_append_right _ _ (by rw[hk];omega),List.set_append_right _ _ (by rw[hk];omega),List.set_append_right _ _ (by rw[hk];omega),hk,show k*3-k*3=0 by omega,show k*3+1-k*3=1 by omega,show k*3+2-k*3=2 by omega];rfl
theorem aG.put {w:World} {B g c n:Nat} {M:List E} (hn:n=M.length) (h:aG w B (.slice (some ⟨g,0,none⟩) n c) M) (k:Nat) (hk:k<M.length) (x:E):
  aG (((w.setCell ⟨g,k*3,none⟩ (.int .i64 x.a)).setCell ⟨g,k*3+1,none⟩ (.int .i64 x.n)).setCell ⟨g,k*3+2,none⟩ (.int .i64 x.s)) B (.slice (some ⟨g,0,none⟩) n c) (M.set k x)/\
  w.grownBy (((w.setCell ⟨g,k*3,none⟩ (.int .i64 x.a)).setCell ⟨g,k*3+1,none⟩ (.int .i64 x.n)).setCell ⟨g,k*3+2,none⟩ (.int .i64 x.s)) (some g):=by
 subst hn;obtain⟨s1,g1⟩:=World.ownsRow.stored h (k*3) (.int .i64 x.a);obtain⟨s2,g2⟩:=s1.stored (k*3+1) (.int .i64 x.n);obtain⟨s3,g3⟩:=s2.stored (k*3+2) (.int .i64 x.s);rw[aZj M k hk x]at s3;refine⟨?_,?_⟩
 ·unfold aG;rw[List.length_set];exact s3
 ·exact⟨rfl,rfl,rfl,Nat.le_trans g1.size (Nat.le_trans g2.size g3.size),fun j hj hne=>(g3.block j (Nat.lt_of_lt_of_le hj (Nat.le_trans g1.size g2.size)) hne).trans ((g2.block j (Nat.lt_of_lt_of_le hj g1.size) hne).trans (g1.block j hj hne))⟩
theorem aNt (x:E) (b:Bool) (hb:okB x=b) (hx:x.wf) (w:World):
  Calls Tryz.prog 176 #[.agg #[.int .i64 x.a,.int .i64 x.n,.int .i64 x.s]] w fun e w'=>e= .returned (.bool (!b))/\Below w.heap.size w w':=by
 obtain⟨⟨b1,b2⟩,⟨b3,b4⟩,⟨b5,b6⟩⟩:=hx;have HX:=hid hb;clear hb;go_enter Tryz.func176,Tryz.ntmps176;go_wp2_with fail;refine(aBr _ _ _ _ _ HX.o b1 b2 b5 b6).mono ?_;rintro e w1 ⟨rfl,hb1⟩;have hB1:=((Below.refl w.heap.size w).bMq _).on hb1;go_wp2_with fail
 all_goals
  go_ret;exact⟨rfl,hB1⟩
theorem aKu (l:List E) (a:Option Addr) (c:Nat) (w:World) (hr:Rd w a l) (hw:wfL l):
  Calls Tryz.prog 184 #[.slice a l.length c,.func (.func 176) #[] #[]] w fun e w'=>e= .returned (.int .i64 (aIy l fun y=> !okB y))/\Below w.heap.size w w':=by
 have hlen:=hr.1;go_enter Tryz.func184,Tryz.ntmps184;go_wp2;go_loopw [8] (fun i wr=>∃ k:Nat,k<=l.length/\i= .int .i64 k/\(∀x∈l.take k,(!okB x)=false)/\Below w.heap.size w wr) (fun i _=>l.length-(intOf i).toNat)
 case atStart=>exact⟨0,Nat.zero_le _,rfl,by simp,Below.refl _ _⟩
 case round=>
  obtain⟨k,hk,rfl,hv,hB⟩:=hrel;by_cases hlt:k<l.length
  ·obtain ⟨b,o,rfl,hat⟩:=(hr.keep hB).at (by omega);obtain⟨h1,h2,h3⟩:=hat k _ (List.getElem?_eq_getElem hlt);have hwx:=hw _ (List.getElem_mem hlt);have HT:=hid (aEs l (fun y=> !okB y) k hlt hv);have HF:=hid (uS l (fun y=> !okB y) k hlt hv);generalize l[k]=x at *;clear hat hr hv hw;cases hp:okB x
   ·have HP:=hid hp;clear hp;go_wp2_with fail;refine(aNt x _ HP.o hwx _).mono ?_;rintro e w1 ⟨rfl,hb1⟩;go_wp2_with fail;go_ret;exact⟨pU (HT.o (by simp[HP.o])).symm,hB.on hb1⟩
   ·have HP:=hid hp;clear hp;go_wp2_with fail;refine(aNt x _ HP.o hwx _).mono ?_;rintro e w1 ⟨rfl,hb1⟩;go_wp2_with fail;go_roundw
    case rel=>exact⟨k+1,by omega,by go_num,HF.o (by simp[HP.o]),hB.on hb1⟩
    case measure=>simp[intOf];omega
  ·have HN:=hid (xR l (fun y=> !okB y) (by rw[List.take_of_length_le (by omega)]at hv;exact hv));clear hv;go_wp2;go_ret;exact⟨pU HN.o.symm,hB⟩
structure wV (l M:List E) (i j:Nat):Prop where
 len:M.length=l.length
 ij:i<j
 jl:j<=l.length
 head:M.take i=(l.take j).filter okB
 tail:M.drop j=l.drop j
theorem aOu (l:List E) (i:Nat) (hi:i<l.length) (h:∀ x∈l.take i,(!okB x)=false) (hb:okB l[i]=false):wV l l i (i+1):=by
 refine⟨rfl,by omega,by omega,?_,rfl⟩;rw[List.take_succ_eq_append_getElem hi,List.filter_append];have h1:(l.take i).filter okB=l.take i:=List.filter_eq_self.2 fun x hx=>by simpa using h x hx
 rw[h1];simp[hb]
theorem aZh {l M:List E} {i j:Nat} (h:wV l M i j) (hj:j<l.length):M[j]? =some l[j]:=by
 have h1:=congrArg (fun t=>t[0]?) h.tail;simp only[List.getElem?_drop,Nat.add_zero]at h1;rw[h1,List.getElem?_eq_getElem hj]
theorem aTw {l M:List E} {i j:Nat} (h:wV l M i j) (hj:j<l.length) (hb:okB l[j]=false):wV l M i (j+1):=by
 refine⟨h.len,by have:=h.ij;omega,by omega,?_,?_⟩
 ·rw[List.take_succ_eq_append_getElem hj,List.filter_append,h.head];simp[hb]
 ·rw[<-List.drop_drop,h.tail,List.drop_drop]
theorem aTx {l M:List E} {i j:Nat} (h:wV l M i j) (hj:j<l.length) (hb:okB l[j]=true):wV l (M.set i l[j]) (i+1) (j+1):=by
 have hl:=h.len;have hij:=h.ij;refine⟨by simp[hl],by omega,by omega,?_,?_⟩
 ·rw[List.take_succ_eq_append_getElem (by simp;omega),List.take_set_of_le (Nat.le_refl i),List.take_succ_eq_append_getElem hj,List.filter_append,h.head];simp[hb]
 ·rw[List.drop_set_of_lt (by omega),<-List.drop_drop,h.tail,List.drop_drop]
theorem aZi {l M:List E} {i j:Nat} (h:wV l M i j) (hj:l.length<=j):M.take i=l.filter okB:=by
 rw[h.head,List.take_of_length_le hj]
theorem bBf (l:List E):(aIy l (fun y=> !okB y)= -1/\l.filter okB=l)∨ ∃i:Nat,aIy l (fun y=> !okB y)=i/\wV l l i (i+1):=by
 by_cases h:∀ x∈l,(!okB x)=false
 ·exact .inl ⟨xR l _ h,List.filter_eq_self.2 fun x hx=>by simpa using h x hx⟩
 ·right
  have hex:∃ i:Nat,∃hi:i<l.length,(!okB l[i])=true:=by
   refine Classical.byContradiction fun hn=>h fun x hx=> ?_;obtain⟨i,hi,rfl⟩:=List.mem_iff_getElem.1 hx
   cases hh:(!okB l[i])with
   |false=>rfl
   |true=>exact absurd ⟨i,hi,hh⟩ hn
  have hex2:∃ i:Nat,(∃hi:i<l.length,(!okB l[i])=true)/\ ∀j,j<i-> ¬ ∃hj:j<l.length,(!okB l[j])=true:=by
   obtain⟨n,hn⟩:=hex
   induction n using Nat.strongRecOn with
   | _ n ih=>
    by_cases hm:∃ m,m<n/\ ∃hj:m<l.length,(!okB l[m])=true
    ·obtain⟨m,hm1,hm2⟩:=hm;exact ih m hm1 hm2
    ·exact⟨n,hn,fun j hj c=>hm ⟨j,hj,c⟩⟩
  obtain ⟨i,⟨hi,hb⟩,hmin⟩:=hex2;have hv:∀ x∈l.take i,(!okB x)=false:=fun x hx=>by
   obtain⟨j,hj,rfl⟩:=List.mem_iff_getElem.1 hx;have hji:j<i:=by simp at hj;omega
   rw[List.getElem_take]
   cases hh:(!okB (l[j]'(by omega)))with
   |false=>rfl
   |true=>exact absurd ⟨by omega,hh⟩ (hmin j hji)
  exact⟨i,aEs l _ i hi hv hb,aOu l i hi hv (by simpa using hb)⟩
theorem aWd (v:Value) (l:List E) (B:Nat) (w:World) (hown:aG w B v l) (hl:l.length<=1000000000) (hw:wfL l) (hBw:B<=w.heap.size):
  Calls Tryz.prog 175 #[v,.func (.func 176) #[] #[]] w fun e w'=>
   ∃v',e= .returned v'/\aG w' B v' (l.filter okB)/\w.grownBy w' v.ownBlock/\(v'.ownBlock=v.ownBlock):=by
 obtain⟨a0,c0,rfl,hr⟩:=hown.rd (by omega);have HO:=hid hown;clear hown;rcases bBf l with ⟨h1,h2⟩|⟨i,h1,h2⟩
 ·have H1:=hid h1;have H2:=hid h2;clear h1 h2;go_enter Tryz.func175,Tryz.ntmps175;go_wp2_with fail;refine(aKu l _ _ _ hr hw).mono ?_;rintro e w1 ⟨rfl,hb1⟩;rw[H1.o];have HO1:=hid (HO.o.keep hb1);clear HO hr;go_wp2_with fail;go_ret;exact⟨_,rfl,by rw[H2.o];exact HO1.o,⟨hb1.os,hb1.tape,hb1.output,hb1.size,fun k hk _=>hb1.block k hk⟩,rfl⟩
 ·have H1:=hid h1;have H2:=hid h2;have hi:=h2.jl;clear h1 h2;obtain⟨g,c,hv,hg1,hg2,hc1,hc2,_,_⟩:=(HO.o.form).resolve_left (by rintro⟨_,rfl⟩;simp at hi);simp only[Value.slice.injEq,true_and]at hv;obtain⟨rfl,rfl⟩:=hv;go_enter Tryz.func175,Tryz.ntmps175;go_wp2_with fail;refine(aKu l _ _ _ hr hw).mono ?_;rintro e w1 ⟨rfl,hb1⟩;rw[H1.o];have HO1:=hid (HO.o.keep hb1);clear HO hr;have hne:((i:Int)== -1)=false:=by simp
  go_wp2_with fail;go_loopw [5,6] (fun iv jv wr=>∃ (M:List E) (i j:Nat),iv= .int .i64 i/\jv= .int .i64 j/\wV l M i j/\aG wr B (.slice (some ⟨g,0,none⟩) l.length c0) M/\w.grownBy wr (some g)) (fun _ j _=>l.length-(intOf j).toNat)
  case atStart=>exact⟨l,i,i+1,rfl,by go_num,H2.o,HO1.o,⟨hb1.os,hb1.tape,hb1.output,hb1.size,fun k hk _=>hb1.block k hk⟩⟩
  case round=>
   clear HO1 H1 H2;obtain⟨M,i,j,rfl,rfl,hS,ho,hG⟩:=hrel;have hML:=hS.len;have hij:=hS.ij;have hjl:=hS.jl;by_cases hlt:j<l.length
   ·have hx0:=aZh hS hlt;have hwx:=hw _ (List.getElem_mem hlt);have HS1:Hid (okB l[j]=false->wV l M i (j+1)):=hid (aTw hS hlt);have HS2:Hid (okB l[j]=true->wV l (M.set i l[j]) (i+1) (j+1)):=hid (aTx hS hlt);obtain⟨_,_,hv,_,hg3,hcc,hcm,hgt,hfz⟩:=(ho.form).resolve_left (by rintro⟨_,rfl⟩;simp at hML;omega);simp only[Value.slice.injEq,Option.some.injEq,Addr.mk.injEq,and_true,true_and]at hv;obtain⟨rfl,hdrop,rfl⟩:=hv;clear hdrop;have hx1:=hgt j _ hx0;have hz1:=hgt i _ (List.getElem?_eq_getElem (by omega));generalize l[j]=x at *;generalize M[i]=z at *;obtain⟨x1,x2,x3⟩:=hx1;obtain⟨z1,z2,z3⟩:=hz1;simp only[Nat.zero_add]at x1 x2 x3 z1 z2 z3;have q1:=hfz (i*3);have q2:=hfz (i*3+1);have q3:=hfz (i*3+2);have HO1:=hid ho;clear ho hS hgt hfz hx0 hw;cases hp:okB x
    ·have HP:=hid hp;clear hp;go_wp2_with fail;refine(aNt x _ HP.o hwx _).mono ?_;rintro e w2 ⟨rfl,hb2⟩;have hB2:=((Below.refl wr.heap.size wr).bMq _).on hb2;have hG2:=hid (hG.behind hB2);go_wp2_with fail;go_roundw
     case rel=>exact⟨M,i,j+1,rfl,by go_num,HS1.o HP.o,HO1.o.keep hB2,hG2.o⟩
     case measure=>simp[intOf];omega
    ·have HP:=hid hp;clear hp;go_wp2_with fail;refine(aNt x _ HP.o hwx _).mono ?_;rintro e w2 ⟨rfl,hb2⟩;have hB2:=((Below.refl wr.heap.size wr).bMq _).on hb2;have x1:w2.cell? ⟨wr.heap.size,0,none⟩=some (.int .i64 x.a):=hb2.keep (by simp);have x2:w2.cell? ⟨wr.heap.size,1,none⟩=some (.int .i64 x.n):=hb2.keep (by simp);have x3:w2.cell? ⟨wr.heap.size,2,none⟩=some (.int .i64 x.s):=hb2.keep (by simp);have q1:=hB2.bMw z1 q1;have q2:=hB2.bMw z2 q2;have q3:=hB2.bMw z3 q3;have z1:=hB2.keep z1;have z2:=hB2.keep z2;have z3:=hB2.keep z3;clear hb2;go_wp2_with fail;have hst:=(HO1.o.keep hB2).put hML.symm i (by omega) x;have T1:=hid hst.1;have T2:=hid ((hG.behind hB2).next hst.2);clear hst;go_roundw
     case rel=>exact⟨M.set i x,i+1,j+1,by go_num,by go_num,HS2.o HP.o,T1.o,T2.o⟩
     case measure=>simp[intOf];omega
   ·have HE:=hid (aZi hS (by omega));obtain⟨_,_,hv,_,hg3,hcc,hcm,hgt,hfz⟩:=(ho.form).resolve_left (by rintro⟨_,rfl⟩;simp at hML;omega);simp only[Value.slice.injEq,Option.some.injEq,Addr.mk.injEq,and_true,true_and]at hv;obtain⟨rfl,hdrop,rfl⟩:=hv;clear hdrop;have hcl:∀ ty,(Builtin.clear_ #[76] ty #[.slice (some ⟨g,i*3,none⟩) (l.length-i) (c0-i)]).run Tryz.prog wr= .ok (.tuple #[]) (wr.setCells g (i*3) (List.replicate ((l.length-i)*3) (.int .i64 0))):=
     fun ty=>aOx wr _ 81 ty (.agg #[.int .i64 0,.int .i64 0,.int .i64 0]) 3 (.int .i64 0) Tryz.underlying76 Tryz.zeroValue81 rfl (by decide) rfl g (i*3) _ _ (by omega)
      (fun t ht=>by
       have hk:i+t/3<M.length:=by omega
       obtain⟨k1,k2,k3⟩:=hgt (i+t/3) _ (List.getElem?_eq_getElem hk);simp only[Nat.zero_add]at k1 k2 k3;rcases(by omega:i*3+t=(i+t/3)*3∨i*3+t=(i+t/3)*3+1∨i*3+t=(i+t/3)*3+2)with e|e|e
       ·rw[e,k1];rfl
       ·rw[e,k2];rfl
       ·rw[e,k3];rfl)
      (fun t ht=>hfz _)
    have HO1:=hid ho;clear ho hS hgt hfz;go_wp2_with fail;go_ret;have h1:=HO1.o;obtain⟨xs',h3,h4,h5⟩:=World.ownsRow.storedAll (w:=wr) (List.replicate ((l.length-i)*3) (.int .i64 0)) wr _ (i*3) (show wr.ownsRow B 81 3 (.slice (some ⟨g,0,none⟩) l.length c0) l.length (bH M) by rw[<-hML]at h1 ⊢;exact h1);have h6:=World.ownsRow.short h3 (show i<=l.length by omega);refine⟨_,rfl,?_,hG.next h5,rfl⟩;rw[<-HE.o];unfold aG;rw[aTk,<-h4,List.length_take,Nat.min_eq_left (by omega)];exact h6
end Go.Proofs.YtaiklhbakldfhaaGreat
