/- tegulalaw48: ModelScript, the walk. Conditions: as each theorem says. -/
import Derived.Test.YtphfgbbbejloaaaGreatDoorMgD
set_option linter.unusedSimpArgs false
set_option linter.unusedVariables false
set_option maxRecDepth 100000
set_option maxHeartbeats 16000000
namespace Go.Proofs.YtphfgbbbejloaaaGreatDoor
open Go.RowKit Go.Maps
open Go.Proofs.Tryz
theorem Jq (n:Nat) (L:List CV) (a:OA) (c:Nat) (w:Wd) (hn:n<=255) (hr:FM w a L):
  Calls prog 3 #[.int .u8 n,.slice a L.length c] w (RB w (.bool true)):=by
 go_enter func3,ntmps3;go_wp2_with fail;refine(Fz _).m ?_;rintro e w1 ⟨rfl,hb⟩;have hr1:=hr.keep hb;have HB1:=hD hb;clear hb hr;obtain⟨q,hq⟩:∃ q,(Dk L&&decide (L.length<=25))=q:=⟨_,rfl⟩;go_wp2_with fail;refine(GM L a c 25 _ hr1 oM q hq).m ?_;rintro e w2 ⟨rfl,hb⟩;have hr2:=hr1.keep hb;have HB2:=hD (HB1.o.on hb);clear hb hr1 HB1;cases q
 ·clear hq hr2;go_wp2_with fail;go_ret;exact⟨rfl,HB2.o⟩
 ·obtain⟨h1,h2⟩:=Bool.and_eq_true_iff.1 hq;have h3:=Qt h2;clear hq h2;go_wp2_with fail;refine(Ic n L a c _ hn hr2 h1 oM).m ?_;rintro e w3 ⟨X,m,g,p,pa,pc,ps,rfl,_,_,_,_,_,_,_,hb⟩;obtain⟨va,vn,vc,da,dc,s⟩:=p;have HB3:=hD (HB2.o.on hb);clear hb HB2 hr2;unfold rmV;simp only;go_wp2_with fail;go_ret;exact⟨rfl,HB3.o.aIw _⟩
end Go.Proofs.YtphfgbbbejloaaaGreatDoor
