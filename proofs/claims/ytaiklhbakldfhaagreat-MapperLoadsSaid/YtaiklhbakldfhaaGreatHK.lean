/-
  package mapper: caught, and the deferred calls that recover.
  package mapper: the kinds of changes, a map of functions.
  package mapper: Apply.
  Conditions: as each theorem says.
-/
import Derived.Test.YtaiklhbakldfhaaGreatHI
import Derived.Test.YtaiklhbakldfhaaGreatHL
import Derived.Defers
import Derived.Recover
import Derived.Test.YtaiklhbakldfhaaGreatMpL
namespace Go.Proofs.YtaiklhbakldfhaaGreat
open Go.Lib (hid)
set_option linter.unusedSimpArgs false
set_option linter.unusedVariables false
set_option maxRecDepth 100000
set_option maxHeartbeats 16000000
open Go.RowKit Go.Maps
theorem aHz (x:Int) (w:World):Calls Tryz.prog 33 #[.nilIface,.int .i64 x] w fun e w'=>e= .returned (.int .i64 x)/\w=w':=by
 go_enter Tryz.func33,Tryz.ntmps33;go_wp2;go_ret;exact⟨rfl,rfl⟩
theorem aBa (x y:Int) (w:World):Calls Tryz.prog 33 #[.iface 36 (.int .i64 y),.int .i64 x] w fun e w'=>e= .returned (.int .i64 y)/\w=w':=by
 have hta:(Instr.typeAssert (.iface 36 (.int .i64 y)) 20 36 true).run Tryz.prog w= .ok (.tuple #[.int .i64 y,.bool true]) w:=by kernel_rfl
 go_enter Tryz.func33,Tryz.ntmps33;go_wp2;go_ret;exact⟨rfl,rfl⟩
theorem qY (p:Addr) (x:Int) (w:World) (hc:w.cell? p=some (.int .i64 x)) (hz:w.frozen? p=false):
  CallsD Tryz.prog 32 #[.pointer (some p)] .returning w fun e u' w'=>e= .returned (.tuple #[])/\u'= .returning/\w'=(w.setCell p (.int .i64 x)).drew:=by
 refine callsD_of_wpS Tryz.func32 rfl fun c₀ cs hu=> ?_;refine kZ (by kernel_rfl) fun t=> ?_;rcases Nat.mod_two_eq_zero_or_one t with ht|ht
 all_goals
  simp[Region.linearise,Region.linearise.go,Region.binds,List.range,List.range.loop,ht,Nat.mod_one];simp[wpOpsS,go_sem,recoverD,hu,hc,hz,Tryz.ntmps32];refine(aHz x _).mono ?_;rintro e w' ⟨rfl,rfl⟩;simp[go_sem,hc,hz,bodyPostS,results,Tryz.results32];cases c₀
  simp_all
theorem aLp (p:Addr) (x y:Int) (w:World) (hc:w.cell? p=some (.int .i64 x)) (hz:w.frozen? p=false):
  CallsD Tryz.prog 32 #[.pointer (some p)] (.panicking (pan y)) w fun e u' w'=>e= .returned (.tuple #[])/\u'= .panicking [{v:= .iface 36 (.int .i64 y),recovered:=true}]/\w'=(w.setCell p (.int .i64 y)).drew:=by
 refine callsD_of_wpS Tryz.func32 rfl fun c₀ cs hu=> ?_;refine kZ (by kernel_rfl) fun t=> ?_;rcases Nat.mod_two_eq_zero_or_one t with ht|ht
 all_goals
  simp[Region.linearise,Region.linearise.go,Region.binds,List.range,List.range.loop,ht,Nat.mod_one];simp[wpOpsS,go_sem,recoverD,hu,hc,hz,Tryz.ntmps32];refine(aBa x y _).mono ?_;rintro e w' ⟨rfl,rfl⟩;simp[go_sem,hc,hz,bodyPostS,results,Tryz.results32]
theorem bKo (p:Addr) (x:Int) (w:World) (hc:w.cell? p=some (.int .i64 x)) (hz:w.frozen? p=false):
  CallsD Tryz.prog 64 #[.pointer (some p)] .returning w fun e u' w'=>e= .returned (.tuple #[])/\u'= .returning/\w'=(w.setCell p (.int .i64 x)).drew:=by
 refine callsD_of_wpS Tryz.func64 rfl fun c₀ cs hu=> ?_;refine kZ (by kernel_rfl) fun t=> ?_;rcases Nat.mod_two_eq_zero_or_one t with ht|ht
 all_goals
  simp[Region.linearise,Region.linearise.go,Region.binds,List.range,List.range.loop,ht,Nat.mod_one];simp[wpOpsS,go_sem,recoverD,hu,hc,hz,Tryz.ntmps64];refine(aHz x _).mono ?_;rintro e w' ⟨rfl,rfl⟩;simp[go_sem,hc,hz,bodyPostS,results,Tryz.results64];cases c₀
  simp_all
theorem bLn (p:Addr) (x y:Int) (w:World) (hc:w.cell? p=some (.int .i64 x)) (hz:w.frozen? p=false):
  CallsD Tryz.prog 64 #[.pointer (some p)] (.panicking (pan y)) w fun e u' w'=>e= .returned (.tuple #[])/\u'= .panicking [{v:= .iface 36 (.int .i64 y),recovered:=true}]/\w'=(w.setCell p (.int .i64 y)).drew:=by
 refine callsD_of_wpS Tryz.func64 rfl fun c₀ cs hu=> ?_;refine kZ (by kernel_rfl) fun t=> ?_;rcases Nat.mod_two_eq_zero_or_one t with ht|ht
 all_goals
  simp[Region.linearise,Region.linearise.go,Region.binds,List.range,List.range.loop,ht,Nat.mod_one];simp[wpOpsS,go_sem,recoverD,hu,hc,hz,Tryz.ntmps64];refine(aBa x y _).mono ?_;rintro e w' ⟨rfl,rfl⟩;simp[go_sem,hc,hz,bodyPostS,results,Tryz.results64]
open Go.RowKit Go.Maps
theorem iG {H:Type} {P:Program} (w:World) {ops:Array Oper} {rest:List Oper} {o:Oper} {a:Act} {Q:Exit->Act->World->Prop}
  (hg:o.guard=none) (m x v:Operand) (t:TypeId) (hop:o.op=Op.insert t m x v)
  (k e:TypeId) (K:Keyed P k) (ht:P.underlying t=some (.map k e)) (R:Value->Option (DataW H × List MemPlace)) (b n:Nat) (D:DataW H)
  (hm:a.eval m= .map (some b)) (hown:w.ownsMap P k R b n D) (hn:n<maxLen) (key val:Value) (kl:Lit) (hx:a.eval x=key) (hv:a.eval v=val) (hkey:keyOf P k key=some kl)
  (d:DataW H) (ps:List MemPlace) (hval:R val=some (d,ps))
  (hK:∀ w',w'.ownsMap P k R b (n+1) (D.put kl d)->w.grownBy w' (some b)->wpList P ops Q rest (a.put o.dst undef) w'):
  wpList P ops Q (o::rest) a w:=by
 refine wpList_plain hg fun K' hK'=> ?_;obtain⟨w',hrun,r1,r2⟩:=hown.update K ht hn hkey hval;unfold Oper.wp;simp[execOp,hop,hm,hx,hv,hrun,Result.andThen];exact hK' _ _ (hK w' r1 r2)
theorem sP:Keyed Tryz.prog 92:=int_keyed Tryz.underlying92
theorem bEw {k:Nat} (h:k<18446744073709551616):keyOf Tryz.prog 92 (.int .u64 k)=some (.int .u64 k):=by
 refine keyOf_int_mk (k:=92) Tryz.underlying92 (a:=(k:Int)) ?_;simp[Lit.wf,IntKind.min,IntKind.max,IntKind.signed,IntKind.bits];omega
def aWq (k:Nat):FuncId:=if k=1 then 82 else if k=2 then 83 else if k=3 then 85 else if k=4 then 86 else 88
def kR (k:Nat):Value:= .func (.func (aWq k)) #[] #[]
abbrev kL (k:Nat):Lit:= .int .u64 (k:Int)
def aHx:Nat->DataW Value
 |0=> .map []
 |k+1=>(aHx k).put (kL (k+1)) (.held (kR (k+1)))
def bLx (w:World) (e:Ending) (w':World):Prop:= ∃b,e= .returned (.map (some b))/\w'.ownsMap Tryz.prog 92 pM b 5 (aHx 5)/\Below w.heap.size w w'
theorem zJ (w:World):Calls Tryz.prog 37 #[] w (bLx w):=by
 have hmm:= @run_makeMap Tryz.prog;have H0:=hid (World.ownsMap_made w Tryz.prog 92 pM);have HK:=hid (fun k h=>bEw (k:=k) h);go_enter Tryz.func37,Tryz.ntmps37
 go_wp2_with (first
  |(refine iG _ rfl _ _ _ 104 rfl 92 102 sP Tryz.underlying104 pM w.heap.size 0 (aHx 0) rfl H0.o (by decide) (.int .u64 1) (kR 1) (kL 1) rfl rfl (HK.o 1 (by omega)) (.held (kR 1)) [] rfl ?_;intro w1 h1 g1;have H1:=hid h1;have G1:=hid g1;clear h1 g1)
  |(refine iG _ rfl _ _ _ 104 rfl 92 102 sP Tryz.underlying104 pM w.heap.size 1 (aHx 1) rfl H1.o (by decide) (.int .u64 2) (kR 2) (kL 2) rfl rfl (HK.o 2 (by omega)) (.held (kR 2)) [] rfl ?_;intro w2 h1 g1;have H2:=hid h1;have G2:=hid g1;clear h1 g1)
  |(refine iG _ rfl _ _ _ 104 rfl 92 102 sP Tryz.underlying104 pM w.heap.size 2 (aHx 2) rfl H2.o (by decide) (.int .u64 3) (kR 3) (kL 3) rfl rfl (HK.o 3 (by omega)) (.held (kR 3)) [] rfl ?_;intro w3 h1 g1;have H3:=hid h1;have G3:=hid g1;clear h1 g1)
  |(refine iG _ rfl _ _ _ 104 rfl 92 102 sP Tryz.underlying104 pM w.heap.size 3 (aHx 3) rfl H3.o (by decide) (.int .u64 4) (kR 4) (kL 4) rfl rfl (HK.o 4 (by omega)) (.held (kR 4)) [] rfl ?_;intro w4 h1 g1;have H4:=hid h1;have G4:=hid g1;clear h1 g1)
  |(refine iG _ rfl _ _ _ 104 rfl 92 102 sP Tryz.underlying104 pM w.heap.size 4 (aHx 4) rfl H4.o (by decide) (.int .u64 5) (kR 5) (kL 5) rfl rfl (HK.o 5 (by omega)) (.held (kR 5)) [] rfl ?_;intro w5 h1 g1;have H5:=hid h1;have G5:=hid g1;clear h1 g1))
 go_ret;have hg:=(((G1.o.next G2.o).next G3.o).next G4.o).next G5.o;exact⟨w.heap.size,rfl,H5.o,((Below.refl w.heap.size w).bMq _).bMu hg fun k hk=>by cases hk;exact Nat.le_refl _⟩
theorem bKv (w:World):(zeroValue 102).run Tryz.prog w= .ok .nilFunc w:=by kernel_rfl
theorem bJm:aHx 5= .map [(kL 1,.held (kR 1)),(kL 2,.held (kR 2)),(kL 3,.held (kR 3)),(kL 4,.held (kR 4)),(kL 5,.held (kR 5))]:=rfl
theorem bIu {k:Nat}:Maps.has (aHx 5) (kL k)=decide (1<=k/\k<=5):=by
 rw[bJm];show(([(kL 1,.held (kR 1)),(kL 2,.held (kR 2)),(kL 3,.held (kR 3)),(kL 4,.held (kR 4)),(kL 5,.held (kR 5))]:List (Lit × DataW Value)).any fun p=>p.1.sameKey (kL k))=_;rw[Bool.eq_iff_iff];simp[Lit.sameKey];omega
theorem bLo {k:Nat} (h:1<=k/\k<=5):(aHx 5).atKey (kL k) (.held .nilFunc)= .held (kR k):=by
 obtain⟨h1,h2⟩:=h
 match k,h1,h2 with
 |1,_,_=>rfl
 |2,_,_=>rfl
 |3,_,_=>rfl
 |4,_,_=>rfl
 |5,_,_=>rfl
theorem aHs {W:World} {b k:Nat} (h:W.ownsMap Tryz.prog 92 pM b 5 (aHx 5)) (hk:k<18446744073709551616):
  ∃v,(Instr.lookup 104 (.map (some b)) (.int .u64 k) true).run Tryz.prog W= .ok (.tuple #[v,.bool (decide (1<=k/\k<=5))]) W/\(1<=k/\k<=5->v= .func (.func (aWq k)) #[] #[]):=by
 obtain⟨v,ps,hrun,hv⟩:=h.look_ok sP Tryz.underlying104 (bKv W) (sS _) (bEw hk);rw[bIu]at hrun;refine⟨v,hrun,fun h=> ?_⟩;rw[bLo h,sS]at hv;simp only[Option.some.injEq,Prod.mk.injEq,DataW.held.injEq]at hv;exact hv.1
theorem aHt (k:Nat) (hk:1<=k/\k<=5) (args:Array Value) (W:World):(callFunc (aWq k) args).run Tryz.prog W= .ok (.enter (aWq k) args) W:=by
 obtain⟨h1,h2⟩:=hk
 match k,h1,h2 with
 |1,_,_=>exact enters_of Tryz.func82 (by kernel_rfl) rfl args W
 |2,_,_=>exact enters_of Tryz.func83 (by kernel_rfl) rfl args W
 |3,_,_=>exact enters_of Tryz.func85 (by kernel_rfl) rfl args W
 |4,_,_=>exact enters_of Tryz.func86 (by kernel_rfl) rfl args W
 |5,_,_=>exact enters_of Tryz.func88 (by kernel_rfl) rfl args W
theorem bGy (k:Nat) (hk:1<=k/\k<=5) (F:Fam) (fv:Value) (X:Nat) (l:List UInt8) (w:World) (hF:F.ok) (hs:∀ v∈F.vs,v.l.length+l.length<=9000) (hf:bA w fv F) (hr:gG w X l) (hl:l.length<=1000000):
  Calls Tryz.prog (aWq k) #[fv,.agg #[.pointer (some ⟨X,0,none⟩)]] w (aXe w X (aEj k F l)):=by
 have h9:∀ v∈F.vs,v.l.length<=9000:=fun v hv=>by have:=hs v hv;omega
 obtain⟨h1,h2⟩:=hk
 match k,h1,h2 with
 |1,_,_=>exact bJr F fv X l w hF hs hf hr hl
 |2,_,_=>exact bJq F fv X l w hF h9 hf hr hl
 |3,_,_=>exact bJp F fv X l w hF h9 hf hr hl
 |4,_,_=>exact bJo F fv X l w hF h9 hf hr hl
 |5,_,_=>exact bJn F fv X l w hF h9 hf hr hl
open Go.RowKit Go.Maps
def dU (W:World) (M:Nat) (F:Fam):Prop:= ∃u v,Bx W M 69 u v/\bA W (.agg #[u,v]) F
theorem bMf:3≠69:=by decide
theorem dU.later {W W':World} {M:Nat} {F:Fam} (h:dU W M F) (hb:Below W.heap.size W W'):dU W' M F:=by
 obtain⟨u,v,h1,h2⟩:=h;exact⟨u,v,h1.later hb,h2.keep hb⟩
theorem dU.form {W:World} {M:Nat} {F:Fam} (h:dU W M F):∃ a c m,Bx W M 69 (.slice a F.N c) (.map m)/\bA W (.agg #[.slice a F.N c,.map m]) F:=by
 obtain⟨u,v,h1,h2⟩:=h;obtain⟨a,c,m,he⟩:=h2.form;injection he with he;have h3:=congrArg Array.toList he;simp at h3;obtain⟨rfl,rfl⟩:=h3;exact⟨a,c,m,h1,h2⟩
theorem dU.odd {W:World} {M:Nat} {F:Fam} (h:dU W M F):Odd W M:=by
 obtain⟨a,c,m,h1,_⟩:=h.form;exact h1.odd bMf (fun c e=>by cases e) (fun c e=>by cases e)
def aJf (w:World) (M:Nat) (G:Fam) (x:Int) (e:Ending) (w':World):Prop:=e= .returned (.int .i64 x)/\dU w' M G/\w.grownBy w' (some M)
structure AP (w W:World) (M:Nat) (x:Int) (F:Fam) (a:Option Addr) (c:Nat) (m:Option Nat):Prop where
 e0:W.cell? ⟨w.heap.size,0,none⟩=some (.int .i64 x)
 ef:W.frozen? ⟨w.heap.size,0,none⟩=false
 eo:Odd W w.heap.size
 mb:Bx W M 69 (.slice a F.N c) (.map m)
 fam:bA W (.agg #[.slice a F.N c,.map m]) F
 ml:M<w.heap.size
 g:Below w.heap.size w W
theorem bMk:3≠36:=by decide
section
variable {w W W':World} {M X:Nat} {x y:Int} {F:Fam} {a:Option Addr} {c:Nat} {m:Option Nat} {l r:List UInt8}
theorem Odd.later {W W':World} {X:Nat} (h:Odd W X) (hb:Below W.heap.size W W'):Odd W' X:=by
 obtain⟨t,h1,h2⟩:=h.ty;have hc:∀ i,W'.cell? ⟨X,i,none⟩=W.cell? ⟨X,i,none⟩:=fun i=>hb.cell (p:=⟨X,i,none⟩) h.lt;exact⟨fun i hi=>(hc i).trans (h.two i hi),⟨t,h1,h2.keep hb⟩,fun i c e=>h.nob i c ((hc i).symm.trans e)⟩
theorem Odd.grown {W W':World} {X Y:Nat} (h:Odd W X) (hg:W.grownBy W' (some Y)) (hne:X≠Y):Odd W' X:=by
 obtain⟨t,h1,h2⟩:=h.ty;have hc:∀ i,W'.cell? ⟨X,i,none⟩=W.cell? ⟨X,i,none⟩:=fun i=>World.cell?_of_block (hg.block X h.lt (fun e=>hne (Option.some.inj e)));exact⟨fun i hi=>(hc i).trans (h.two i hi),⟨t,h1,h2.grown hg hne⟩,fun i c e=>h.nob i c ((hc i).symm.trans e)⟩
theorem AP.init (h:Bx w M 69 (.slice a F.N c) (.map m)) (hf:bA w (.agg #[.slice a F.N c,.map m]) F):AP w (w.alloc (.cells #[.int .i64 0] 36)) M 0 F a c m:=by
 have hk:=(Below.refl w.heap.size w).bMq (.cells #[.int .i64 0] 36);refine⟨by simp,by simp,⟨fun i hi=> ?_,⟨_,bMk,_,_,Array.getElem?_push_size⟩,fun i c=> ?_⟩,h.later hk,hf.keep hk,h.lt,hk⟩
 ·rw[World.cell?_alloc_new];simp;omega
 ·rw[World.cell?_alloc_new]
  match i with
  |0=>simp
  |i+1=>simp
theorem AP.later (h:AP w W M x F a c m) (hb:Below W.heap.size W W'):AP w W' M x F a c m:=
 ⟨hb.keep h.e0,hb.bMw h.e0 h.ef,h.eo.later hb,h.mb.later hb,h.fam.keep hb,h.ml,h.g.on hb⟩
theorem AP.went (h:AP w W M x F a c m) (hX:Odd W X) (hlt:w.heap.size<X) (hg:W.grownBy W' (some X)):AP w W' M x F a c m:=
 ⟨jM hg h.e0 (by omega),oK hg h.e0 h.ef (by omega),h.eo.grown hg (by omega),h.mb.grown hg (fun e=>by injection e with e;have:=h.ml;omega),h.fam.grown hX hg,h.ml,h.g.bMu hg fun k hk=>by injection hk with hk;omega⟩
theorem AP.setE (h:AP w W M x F a c m) (y:Int):AP w (W.setCell ⟨w.heap.size,0,none⟩ (.int .i64 y)) M y F a c m:=by
 have hg:=bV W ⟨w.heap.size,0,none⟩ (.int .i64 y);refine⟨World.cell?_setCell_same _ _ _ h.e0,by rw[World.frozen?_setCell];exact h.ef,⟨fun i hi=>iE (by omega) (h.eo.two i hi),?_,fun i c=> ?_⟩,h.mb.grown hg (fun e=>by injection e with e;simp only at e;have:=h.ml;omega),h.fam.grown h.eo hg,h.ml,h.g.setCell (Nat.le_refl _) _⟩
 ·obtain⟨t,h1,h2⟩:=h.eo.ty;exact⟨t,h1,h2.set _ _⟩
 ·match i with
  |0=>rw[World.cell?_setCell_same _ _ _ h.e0];simp
  | i+1=>
   intro e;rw[World.cell?_setCell_other _ _ _ _ (by simp)]at e;exact h.eo.nob _ _ e
theorem AP.map (h:AP w W M x F a c m):dU W M F:=⟨_,_,h.mb,h.fam⟩
theorem AP.drew (h:AP w W M x F a c m):AP w W.drew M x F a c m:=h.later (Below.refl _ _).drew
theorem AP.done (h:AP w W M x F a c m) (y:Int):aJf w M F y (.returned (.int .i64 y)) (W.setCell ⟨w.heap.size,0,none⟩ (.int .i64 y)).drew:=
 ⟨rfl,(h.setE y).drew.map,bD (h.setE y).drew.g _⟩
end
theorem bCq (M:Nat) (F:Fam) (l:List UInt8) (a:Option Addr) (c:Nat) (w:World) (h:dU w M F) (hl:256<l.length) (hm:l.length<=1000000000):
  Calls Tryz.prog 13 #[.pointer (some ⟨M,0,none⟩),.slice a l.length c] w (aJf w M F 5):=by
 have hl1:(256:Int)<l.length:=by omega
 have hmf:∀ (fn:Fn) (first cap:Array Value) (w:World),(Instr.makeFunc fn first cap).run Tryz.prog w= .ok (.func fn first cap) w:=fun _ _ _ _=>rfl;have hk:=(Below.refl w.heap.size w).bMq (.cells #[.int .i64 5] 36);have HZ:Hid (aJf w M F 5 (.returned (.int .i64 5)) (w.alloc (.cells #[.int .i64 5] 36))):=hid ⟨rfl,h.later hk,bD hk _⟩;clear h hk
 go_enter_defers Tryz.func13,Tryz.ntmps13
 go_wp2_with fail;exact⟨.int .i64 5,(by rw[aA rfl];go_simp;done),HZ.o⟩
theorem aLw (v:Value) (w:World):
  Calls Tryz.prog 13 #[.pointer none,v] w fun e w'=>e= .returned (.int .i64 8)/\Below w.heap.size w w':=by
 have hmf:∀ (fn:Fn) (first cap:Array Value) (w:World),(Instr.makeFunc fn first cap).run Tryz.prog w= .ok (.func fn first cap) w:=fun _ _ _ _=>rfl
 go_enter_defers Tryz.func13,Tryz.ntmps13
 go_wp2_with fail;exact⟨.int .i64 8,(by rw[aA rfl];go_simp;done),rfl,(Below.refl _ _).bMq _⟩
theorem bCr (M:Nat) (F:Fam) (l:List UInt8) (a:Option Addr) (c:Nat) (w:World) (h:dU w M F) (hl:l.length<=256) (hr:RdY w a l) (hu:gI l=none):
  Calls Tryz.prog 13 #[.pointer (some ⟨M,0,none⟩),.slice a l.length c] w (aJf w M F 5):=by
 have U:=hid hu;clear hu;obtain⟨ma,mc,mm,hmb,hfam⟩:=h.form;have HA:=hid (AP.init hmb hfam);have hl1:¬ (256:Int)<l.length:=by omega
 have hmf:∀ (fn:Fn) (first cap:Array Value) (w:World),(Instr.makeFunc fn first cap).run Tryz.prog w= .ok (.func fn first cap) w:=fun _ _ _ _=>rfl;have hk:=(Below.refl w.heap.size w).bMq (.cells #[.int .i64 0] 36);have hr1:=hr.keep hk;clear h hr hk hmb hfam
 go_enter_defers Tryz.func13,Tryz.ntmps13
 go_wp2_with fail;refine(aEo l a c _ hr1).mono ?_;rintro e w1 ⟨X,rfl,hX,hx,hb⟩;have hX1:w.heap.size<X:=by have h9:=hX;rw[World.size_alloc]at h9;omega
 have hw1:w.heap.size<w1.heap.size:=by have h9:=hb.size;rw[World.size_alloc]at h9;omega
 have hXw:=hx.odd.lt;have hk:=(Below.refl w1.heap.size w1).bMq (.cells #[.pointer (some ⟨X,0,none⟩)] 97);replace HA:=hid ((HA.o.later hb).later hk);have HX:=hid (RB1.mk (B:=w1.heap.size) (by simp) (hx.later hk) (by omega));have e0:=HA.o.e0;have ef:=HA.o.ef;have hrb:=HX.o.c;clear hX hx hb hk hr1;go_wp2_with fail;refine(aFr HX.o.r U.o).mono ?_;rintro e w2 ⟨rfl,_,hg⟩;replace HA:=hid (HA.o.went HX.o.r.odd hX1 hg);have HA2:=hid (HA.o.setE 5);replace e0:=HA.o.e0;replace ef:=HA.o.ef;have e1:=HA2.o.e0;clear hg hrb;go_wp2_with fail;refine(aMw 5 (by decide) _).mono ?_;rintro e w3 ⟨rfl,rfl⟩;go_wp2_with fail;refine leaves_cons (f:=32) (args:= #[.pointer (some ⟨w.heap.size,0,none⟩)]) (by simp) (by simp[go_sem]) ?_;refine(aLp ⟨w.heap.size,0,none⟩ _ 5 _ HA2.o.e0 HA2.o.ef).mono ?_;rintro e u' w'' ⟨rfl,rfl,rfl⟩;have j0:=(HA2.o.setE 5).drew.e0;refine⟨.int .i64 5,(by rw[aA rfl];go_simp;done),?_⟩;exact HA2.o.done 5
theorem RB1.other {W W':World} {B X Y:Nat} {l:List UInt8} (h:RB1 W B X l) (hY:Odd W Y) (hg:W.grownBy W' (some Y)) (hb:B≠Y) (hx:X≠Y):RB1 W' B X l:=
 ⟨jM hg h.c hb,h.r.other hY hg hx,h.ne⟩
theorem RB1.later {W W':World} {B X:Nat} {l:List UInt8} (h:RB1 W B X l) (hb:Below W.heap.size W W'):RB1 W' B X l:=⟨hb.keep h.c,h.r.later hb,h.ne⟩
theorem aXb (M k:Nat) (F:Fam) (l r:List UInt8) (a:Option Addr) (c:Nat) (w:World) (h:dU w M F) (hl:l.length<=256) (hr:RdY w a l) (hu:gI l=some (k,r)) (hk:¬ (1<=k/\k<=5)):
  Calls Tryz.prog 13 #[.pointer (some ⟨M,0,none⟩),.slice a l.length c] w (aJf w M F 5):=by
 have U:=hid hu;have HK:=hid (aFi hu);have HN:=hid hk;clear hu hk;obtain⟨ma,mc,mm,hmb,hfam⟩:=h.form;have HA:=hid (AP.init hmb hfam);have hl1:¬ (256:Int)<l.length:=by omega
 have hmf:∀ (fn:Fn) (first cap:Array Value) (w:World),(Instr.makeFunc fn first cap).run Tryz.prog w= .ok (.func fn first cap) w:=fun _ _ _ _=>rfl;have hk:=(Below.refl w.heap.size w).bMq (.cells #[.int .i64 0] 36);have hr1:=hr.keep hk;clear h hr hk hmb hfam
 go_enter_defers Tryz.func13,Tryz.ntmps13
 go_wp2_with fail;refine(aEo l a c _ hr1).mono ?_;rintro e w1 ⟨X,rfl,hX,hx,hb⟩;have hX1:w.heap.size<X:=by have h9:=hX;rw[World.size_alloc]at h9;omega
 have hw1:w.heap.size<w1.heap.size:=by have h9:=hb.size;rw[World.size_alloc]at h9;omega
 have hXw:=hx.odd.lt;have hk:=(Below.refl w1.heap.size w1).bMq (.cells #[.pointer (some ⟨X,0,none⟩)] 97);replace HA:=hid ((HA.o.later hb).later hk);have HX:=hid (RB1.mk (B:=w1.heap.size) (by simp) (hx.later hk) (by omega));have e0:=HA.o.e0;have ef:=HA.o.ef;have hrb:=HX.o.c;clear hX hx hb hk hr1;go_wp2_with fail;refine(mZ HX.o.r U.o).mono ?_;rintro e w2 ⟨rfl,hr2,hg⟩;replace HA:=hid (HA.o.went HX.o.r.odd hX1 hg);replace HX:=hid (HX.o.went hr2 hg);replace HX:=hid (HX.o.other HA.o.eo (bV w2 ⟨w.heap.size,0,none⟩ (.int .i64 0)) (by omega) (by omega));replace e0:=HA.o.e0;replace ef:=HA.o.ef;replace HA:=hid (HA.o.setE 0);have e1:=HA.o.e0;have ef1:=HA.o.ef;clear hr2 hg hrb;go_wp2_with fail;refine(vX _).mono ?_;rintro e w3 ⟨rfl,rfl⟩;go_wp2_with fail;refine(zJ _).mono ?_;rintro e w4 ⟨b,rfl,hmap,hb⟩;obtain⟨v,hlook,_⟩:=aHs hmap HK.o;rw[show decide (1<=k/\k<=5)=false by simpa using HN.o]at hlook;replace HA:=hid (HA.o.later hb);clear hmap hb e0 ef e1 ef1;have e0:=HA.o.e0;have ef:=HA.o.ef;have HA2:=hid (HA.o.setE 5);go_wp2_with fail;refine leaves_cons (f:=32) (args:= #[.pointer (some ⟨w.heap.size,0,none⟩)]) (by simp) (by simp[go_sem]) ?_;refine(qY ⟨w.heap.size,0,none⟩ 5 _ HA2.o.e0 HA2.o.ef).mono ?_;rintro e u' w'' ⟨rfl,rfl,rfl⟩;have j0:=(HA2.o.setE 5).drew.e0;refine⟨.int .i64 5,(by rw[aA rfl];go_simp;done),?_⟩;exact HA2.o.done 5
end Go.Proofs.YtaiklhbakldfhaaGreat
