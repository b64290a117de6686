/- What the law alone leans on: R, Open, Names, Shelf, OpR, V21, UrlX, V23, UrlY, V25, AdmK, JarF, OpX, V27, ScrJ, HostX, ShelfW, ScrL, BackL, ScrU, ScrV, OpenA, OpenC; what is used. Its conditions: none. -/
import Derived.Test.YtikdahhdhchlfaaGreatDoorKK
import Derived.ChangeArms
import Derived.ChangeSame
import Derived.Deep.Slices
set_option linter.unusedVariables false
set_option linter.unusedSimpArgs false
set_option linter.unusedSectionVars false
set_option maxRecDepth 100000
open Go.IntKind (i64)
open Go.Proofs.Tryz
open List (length)
open Option (isSome)
namespace Go.Pk
open Go.RowKit (Below)
open Go.Proofs
def VF:Ty Bool:=Ty.enc (λb=>.bool b) (λ_=>rfl) λ_=>True
theorem Lk {α:Type}{e:α->Value}{h1:∀x,(e x).oneCell'=true}{p:α->Prop}{w:World}{A:Bl}{l:List Value}{xs:List α}(h:gh (Ty.enc e h1 p) w A l xs):∀x∈xs,p x:=λx hx=>by
 obtain⟨i,hi,rfl⟩:=List.getElem_of_mem hx
 exact(h.rep i hi).2
def PN {α:Type}(P:Program)(T:Ty α)(t:TypeId):Prop:=
 ∀(H:Type) (enc:TypeId×Value->H) (w:World) (fuel:Nat) (cs:List Value) (x:DataW H×List MemPlace),DataW.trod enc P w 0 (λ_=>true) true fuel t cs=some x->∃a,T.rep w zW cs a
theorem nM {P:Program}{k:IntKind}{t:TypeId}(ht:P.underlying t=some (.int k)):PN P (VW k λn=>(Lit.int k n).wf=true) t:=λH enc w fuel cs x h=>by
 obtain⟨n,e,_,hw⟩:=DataW.trod_int ht h
 exact⟨n,e,hw⟩
theorem Eo {P:Program}{t:TypeId}(ht:P.underlying t=some .bool):PN P VF t:=λH enc w fuel cs x h=>by
 obtain⟨b,e,_⟩:=DataW.trod_bool ht h
 exact⟨b,e,trivial⟩
theorem vE {P:Program}{t:TypeId}(ht:P.underlying t=some .string):PN P (UU λs=>s.length <=maxLen) t:=λH enc w fuel cs x h=>by
 obtain⟨s,e,_,hs⟩:=DataW.trod_string ht h
 exact⟨toL s,e,hs⟩
theorem Om {α:Type}{P:Program}{T:Ty α}{t e:TypeId}{n:Nat}(ht:P.underlying t=some (.array n e))(he:PN P T e)(hk:P.cellsOf e=T.k)(hc:P.cellsOf t=n*T.k)
   {H:Type} {enc:TypeId×Value->H} {w:World} {fuel:Nat} {cs:List Value} {x:DataW H×List MemPlace} (h:DataW.trod enc P w 0 (λ_=>true) true fuel t cs=some x):∃xs:List α,xs.length=n/\gh T w zW cs xs:=by
 obtain⟨ys,m,_,_,hl,hy,hel⟩:=DataW.trod_array ht h
 have hall:∀i,i<n->∃a,T.rep w zW ((cs.drop (i*T.k)).take T.k) a:=λi hi=>by
   have:=hel i hi
   rw[hk,List.getElem?_eq_getElem (by omega)]at this
   exact he H enc w m _ _ this
 have build:∀j,j <=n->∃xs:List α,xs.length=j/\∀i (h:i<xs.length),T.rep w zW ((cs.drop (i*T.k)).take T.k) xs[i]:=by
   intro j
   induction j with
   | zero=>intro _;exact⟨[],rfl,λi h=>by cases h⟩
   | succ j ih=>
     intro hj
     obtain⟨xs,h1,h2⟩:=ih (by omega)
     obtain⟨a,ha⟩:=hall j hj
     refine⟨xs++[a],by simp[h1],λi hi=>?_⟩
     by_cases c:i<xs.length
     · rw[List.getElem_append_left c];exact h2 i c
     · have:i=xs.length:=by simp at hi;omega
       subst this
       rw[List.getElem_append_right (Nat.le_refl _)]
       simp only[Nat.sub_self,List.getElem_cons_zero]
       rw[h1];exact ha
 obtain⟨xs,h1,h2⟩:=build n (Nat.le_refl _)
 exact⟨xs,h1,by rw[hl,hc,h1],h2⟩
abbrev i6:Nat:=7
abbrev oI:Nat:=12
abbrev oY:Nat:=17
abbrev j5:Nat:=36
abbrev oZ:Nat:=38
abbrev qD:Nat:=39
abbrev nG:Nat:=40
abbrev xq:Nat:=89
abbrev js:Nat:=86
end Go.Pk
namespace Go.Proofs
open Go.Pk (Cf vS vI bW)
open Go.Shelf
def Tryz.lays170_ren:Go.Shelf.Ren:=⟨fun|170=>39|n=>n,fun|70=>83|3=>3|0=>0|72=>86|37=>84|5=>5|n=>n,fun|n=>n⟩
theorem Tryz.lays170:Go.Proofs.Lays.n170 prog Tryz.lays170_ren:=by constructor <;> intros <;> kernel_rfl
open Go.RowKit in
theorem Tryz.Builder_Len (B b:Nat)(bs:List Value)(w:World)(h:Lib.IsBuilder 86 5 B b bs w):
   Cf 39 #[.pointer (some ⟨b,0,none⟩)] w λe w'=>e=.returned (vI bs.length)/\w'=w:=Any.Builder_Len Tryz.lays170 B b bs w h
def Tryz.lays169_ren:Go.Shelf.Ren:=⟨fun|169=>40|n=>n,fun|70=>83|9=>9|0=>0|72=>86|37=>84|127=>168|3=>3|5=>5|n=>n,fun|n=>n⟩
theorem Tryz.lays169:Go.Proofs.Lays.n169 prog Tryz.lays169_ren:=by constructor <;> intros <;> kernel_rfl
theorem Tryz.Builder_Extra_169:Builder.Extra prog Tryz.lays169_ren:= {
 sizeBuilder:=by kernel_rfl
 liesBuilder:=by kernel_rfl
 t5:=Tryz.underlying5
 a5:=Tryz.isAgg5
 z5:=Tryz.sizeOf5
 v5:=Tryz.zeroValue5
 infoByte:=by kernel_rfl
 cellsByte:=by kernel_rfl
 sizeByte:=by kernel_rfl
 neB5:=by decide }
open Go.RowKit in
theorem Tryz.Builder_String_any (B b:Nat)(l:List UInt8)(w:World)(h:Lib.IsBuilder 86 5 B b (Lib.byteCells l) w)(hBw:B <=w.heap.size):
   Cf 40 #[.pointer (some ⟨b,0,none⟩)] w λe w'=>e=.returned (.string ⟨l.toArray⟩)/\Below B w w':=Any.Builder_String_any Tryz.lays169 Tryz.Builder_Extra_169 B b l w h hBw
end Go.Proofs
namespace Go.Pk
open Go.RowKit (Below)
open Go.Proofs
theorem Ov {o:OpR}(k:OpW o){j:Nat}(h:j<21):o.cells[1+j]? =o.url.cells[j]? :=by
 unfold OpR.cells
 rw[Nat.add_comm,List.getElem?_cons_succ,List.getElem?_append_left (by rw[Url.len k.uo];exact h)]
theorem QW {o:OpR}(k:OpW o):o.cells[22]? =some (vS o.text):=by
 unfold OpR.cells
 rw[show 22=21+1 from rfl,List.getElem?_cons_succ,List.getElem?_append_right (by rw[Url.len k.uo];exact Nat.le_refl _),Url.len k.uo]
 rfl
theorem Ou {o:OpR}(k:OpW o){j:Nat}(h:j<21):o.cells[23+j]? =o.req.cells[j]? :=by
 unfold OpR.cells
 rw[show 23+j=(22+j)+1 by omega,List.getElem?_cons_succ,List.getElem?_append_right (by rw[Url.len k.uo];omega),Url.len k.uo,show 22+j-21=j+1 by omega,List.getElem?_cons_succ,List.getElem?_append_left (by rw[Req.len k.ro];exact h)]
theorem BQ (a:Option Addr)(b c:Nat){w K}(h:nA w (.cells #[.pointer none,.slice none 0 0] js) λd e=>∃f:Nat->FP [.one (.int .i64)],(∃g,f g (0:Int) e)/\∀g i,aJ 15 (∀j,f g i j->ab (decide (i<((b:Nat):Int))) ((bx i ((b:Nat):Int)/\Option.isSome a=true)/\∃k,Ld ak (aq a i 45) j k/\nA j (.cells dt ak) λl m=>∃n,Sv ak (vA l 0) k m n/\∃o,Ld ak (vA l 0) n o/\uB ib #[o] n λp q=>ab (!p) (K (.tuple #[vS [],vI 131]) q) (∃r,Ld ak (vA l 0) q r/\uL oZ #[r] q λs t u v=>uS cJ #[.slice s t u,vS [32]] v λx y=>(((List.length x+List.length [10]:Nat):Int) <=i64.max)/\∀z,z=(x++[10])->Cf j5 #[.pointer (vA d 0),vS z] y λA B=>∃C D,A=rT #[vI C,D]/\∃E:Nat,E<g/\f E (i64.wrap (i+(1:Int))) B)) (ab (decide (((b:Nat):Int)>(200:Int))) (K (.tuple #[vS [],vI 53]) j) (uI qD #[.pointer (vA d 0)] j λk l=>ab (decide (k>(20000:Int))) (K (.tuple #[vS [],vI 54]) l) (uS nG #[.pointer (vA d 0)] l λm n=>K (.tuple #[vS m,vI 0]) n))))):Cf oY #[.slice a b c] w (Ret K):=ru func17 [(8,[(9,.one (.int .i64))])] h
theorem vm (p:List UInt8):∀(a r:List UInt8),(∀c∈a,p.contains c=false)->(r=[]\/∃c t,r=c::t/\p.contains c=true)->cz p (a++r)=a.length
 | [],r,_,hr=>by
   rcases hr with rfl|⟨c,t,rfl,h⟩
   · rfl
   · unfold cz;rw[List.nil_append,List.takeWhile_cons_of_neg (by simpa using h)];first|rfl|done
 | c::a,r,ha,hr=>by
   have ih:=vm p a r (λx hx=>ha x (List.mem_cons_of_mem _ hx)) hr
   unfold cz at ih ⊢
   rw[List.cons_append,List.takeWhile_cons_of_pos (by rw[ha c List.mem_cons_self];rfl),List.length_cons,ih,List.length_cons]
theorem ny (n:Nat):(∀c∈mA n,eA c=true)/\ez (mA n)=(n:Int)/\mA n≠[]/\(1 <=n->(mA n).head?≠some 48):=by
 induction n using Nat.strongRecOn with
 | ind n ih=>
   by_cases h:n<10
   · rw[mB h]
     clear ih;revert h;revert n;decide
   · obtain⟨a1,a2,a3,a4⟩:=ih (n/10) (by omega)
     rw[nB h]
     have hd:eA (UInt8.ofNat (48+n%10))=true/\((UInt8.ofNat (48+n%10)).toNat:Int)-48=((n%10:Nat):Int):=by
       have:n%10<10:=by omega
       revert this;generalize n%10=k;revert k;decide
     refine⟨λc hc=>?_,?_,by simp,λh1=>?_⟩
     · rcases List.mem_append.1 hc with hc|hc
       · exact a1 c hc
       · rw[List.mem_singleton.1 hc];exact hd.1
     · unfold ez at a2 ⊢
       rw[List.foldl_append,a2,List.foldl_cons,List.foldl_nil,hd.2];omega
     · have:=a4 (by omega)
       revert this a3
       cases mA (n/10)with
       | nil=>intro q _;exact absurd rfl q
       | cons c r=>intro _ q;exact q
theorem FO {n:Nat}(h:n <=999999999999999999):nK (mA n)/\ez (mA n)=(n:Int):=by
 obtain⟨a1,a2,a3,a4⟩:=ny n
 refine⟨⟨?_,xj 17 n (by omega),?_⟩,a2⟩
 · unfold dE
   rw[Bool.and_eq_true,List.all_eq_true]
   exact⟨by simpa using a3,a1⟩
 · rintro⟨h1,h2⟩
   by_cases hn:1 <=n
   · exact a4 hn h1
   · have:n=0:=by omega
     subst this
     rw[mB (by decide)]at h2;simp at h2
structure HX (X:List UInt8):Prop where
 no:∀c∈X,c≠47/\c≠63/\c≠35
 ne:X≠[]
 br:(∃m,X=91::(m++[93])/\∀c∈m,c≠93)\/(X.head?≠some 91/\∀c∈X,c≠58)
theorem L8 (sec:Bool)(n:Int):fZ sec n=[]\/∃t,fZ sec n=58::t:=by
 unfold fZ
 by_cases h:n=(if sec then 443 else 80)
 · rw[if_pos h];exact .inl rfl
 · rw[if_neg h];exact .inr ⟨_,rfl⟩
theorem OH {X:List UInt8}(hx:HX X){P:List UInt8}(hP:P=[]\/∃t,P=58::t):df (X++P)=X.length:=by
 rcases hx.br with⟨m,e,hm⟩|⟨h1,h2⟩
 · subst e
   unfold df
   rw[List.cons_append,List.head?_cons,if_pos rfl]
   have:cz [93] (91::(m++[93]++P))=(91::m).length:=by
     have:=vm [93] (91::m) (93::P) (λc hc=>by
       rcases List.mem_cons.1 hc with rfl|hc
       · rfl
       · have:=hm c hc
         simp[this]) (.inr ⟨93,P,rfl,rfl⟩)
     rw[show(91:UInt8)::(m++[93]++P)=(91::m)++93::P by simp]
     exact this
   rw[this]
   simp only[List.length_cons,List.length_append,List.length_nil];omega
 · unfold df
   have:(X++P).head?≠some 91:=by
     cases X with
     | nil=>exact absurd rfl hx.ne
     | cons c r=>exact h1
   rw[if_neg this]
   refine vm [58] X P (λc hc=>by have:=h2 c hc;simp[this]) ?_
   rcases hP with rfl|⟨t,rfl⟩
   · exact .inl rfl
   · exact .inr ⟨58,t,rfl,rfl⟩
theorem L7 (sec:Bool){n:Int}(h1:1 <=n)(h2:n <=65535):uC sec (fZ sec n)=some n:=by
 unfold fZ uC
 by_cases h:n=(if sec then 443 else 80)
 · rw[if_pos h,if_pos rfl,h]
 · obtain⟨a,b⟩:=FO (n:=n.toNat) (by omega)
   rw[if_neg h,if_neg (by simp),List.drop_one,List.tail_cons,if_pos ⟨a,by rw[b];omega,by rw[b];omega⟩,b]
   congr 1;omega
theorem L6 {s:List UInt8}(h:gV s=true):∃t,s=47::t:=by
 unfold gV at h
 rw[Bool.and_eq_true,dTx]at h
 cases s with
 | nil=>simp at h
 | cons c t=>simp at h;exact⟨t,by rw[h.1]⟩
theorem QZ {s:List UInt8}(h:gV s=true):∀c∈s,c≠63/\c≠35:=by
 unfold gV at h
 rw[Bool.and_eq_true,Bool.and_eq_true]at h
 intro c hc
 have:=List.all_eq_true.1 h.2.2 c hc
 unfold qe at this
 simp at this
 exact this.2.2
theorem Pq {X:List UInt8}(hx:HX X){h:Hst}(hv:bt X=some h)(sec:Bool){n:Int}(h1:1 <=n)(h2:n <=65535){p:List UInt8}(hp:gV p=true):
   Lh (X++(fZ sec n++p)) sec=(⟨sec,h,n,p⟩,0):=by
 obtain⟨t,ht⟩:=L6 hp
 have hP:=L8 sec n
 have hPn:∀c∈fZ sec n,c≠47/\c≠63/\c≠35:=by
   intro c hc
   unfold fZ at hc
   by_cases h:n=(if sec then 443 else 80)
   · rw[if_pos h]at hc;cases hc
   · rw[if_neg h]at hc
     rcases List.mem_cons.1 hc with rfl|hc
     · decide
     · have:=(FO (n:=n.toNat) (by omega)).1.1
       unfold dE at this
       rw[Bool.and_eq_true]at this
       have hd:=List.all_eq_true.1 this.2 c hc
       refine⟨?_,?_,?_⟩ <;> (rintro rfl;revert hd;decide)
 have e1:cz [47,63,35] (X++(fZ sec n++p))=(X++fZ sec n).length:=by
   rw[<- List.append_assoc]
   refine vm _ _ _ (λc hc=>?_) (.inr ⟨47,t,ht,rfl⟩)
   have:c≠47/\c≠63/\c≠35:=by
     rcases List.mem_append.1 hc with hc|hc
     · exact hx.no c hc
     · exact hPn c hc
   simp[this.1,this.2.1,this.2.2]
 have e2:(X++(fZ sec n++p)).take (X++fZ sec n).length=X++fZ sec n:=by rw[<- List.append_assoc];exact List.take_left ..
 have e3:(X++(fZ sec n++p)).drop (X++fZ sec n).length=p:=by rw[<- List.append_assoc];exact List.drop_left ..
 have e4:nI (X++fZ sec n)=some h:=by
   unfold nI
   rw[OH hx hP,List.drop_left,List.take_left,if_neg,hv]
   rintro⟨q1,q2⟩
   rcases hP with e|⟨t,e⟩
   · exact q1 e
   · rw[e]at q2;exact q2 rfl
 have e5:kV p=p:=by
   unfold kV
   have:cz [63,35] p=p.length:=by
     have:=vm [63,35] p [] (λc hc=>by have:=QZ hp c hc;simp[this.1,this.2]) (.inl rfl)
     rwa [List.append_nil]at this
   rw[this,List.take_length,if_neg (by rw[ht];simp)]
 unfold Lh
 rw[e1,e2,e3,e4]
 show(match uC sec ((X++fZ sec n).drop (df (X++fZ sec n)))with|none=>_|some n=>_)=_
 rw[OH hx hP,List.drop_left,L7 sec h1 h2]
 show(if gV (kV p)=true then _ else _)=_
 rw[e5,if_pos hp]
theorem Pr {X:List UInt8}(hx:HX X){h:Hst}(hv:bt X=some h)(sec:Bool){n:Int}(h1:1 <=n)(h2:n <=65535){p:List UInt8}(hp:gV p=true):
   iR ((if sec then[104,116,116,112,115,58,47,47]else[104,116,116,112,58,47,47])++(X++(fZ sec n++p)))=(⟨sec,h,n,p⟩,0):=by
 have e:=Pq hx hv sec h1 h2 hp
 revert e
 generalize X++(fZ sec n++p)=r
 intro e
 unfold iR
 have:Lg ((if sec then[104,116,116,112,115,58,47,47]else[104,116,116,112,58,47,47])++r)=some (r,sec):=by
   unfold Lg
   cases sec with
   | false=>rw[if_pos];rfl;rfl
   | true=>
     rw[if_neg (by
       intro e
       have e:co [104,116,116,112,115,58,47]=[104,116,116,112,58,47,47]:=e
       revert e;decide),if_pos (by rfl)];rfl
 rw[this]
 exact e
theorem H4 (a:Value){w K}(h:nA w (.cells (Value.cells a) ay) λb c=>∃d,Ld ay (vA b 0) c d/\uB jz #[d] c λe f=>ab (!e) (K (vS []) f) (true/\∃g,Ld bV (vA b 0) f (.bool g)/\Cf pb #[.bool g] f λi j=>∃k l,i=rT #[vS k,vI l]/\true/\∃m,Ld ae (vA b 1) j m/\uS iz #[m] j λn o=>(((List.length k+List.length n:Nat):Int) <=i64.max)/\∀p,p=(k++n)->∃q:FP [.one .str],(true/\∃r,Ld bh (vA b 19) o (vI r)/\ab (r !=l) (true/\∃s,Ld bh (vA b 19) o (vI s)/\uS ic #[vI s] o λt u=>(((List.length [58]+List.length t:Nat):Int) <=i64.max)/\∀v,v=([58]++t)->(((List.length p+List.length v:Nat):Int) <=i64.max)/\∀x,x=(p++v)->q x u) (q p o))/\∀r,aJ 10 (∀s,q r s->true/\∃t,Ld ah (vA b 20) s (vS t)/\(((List.length r+List.length t:Nat):Int) <=i64.max)/\∀u,u=(r++t)->K (vS u) s))):Cf xq #[a] w (Ret K):=ru func89 [(14,[(5,.one .str)])] h
theorem J9 {u:Url}(o:u.ok)(hn:u.host.name.length <=100000000)(hp:u.path.length <=100000000)(w:World)(he:Env w):Cf xq #[u.v] w (Ret λv w'=>v=vS (gr u)/\bW w w'):=by
 apply H4
 intro k1 w1 hk1 hw1
 have hB1:=(hw1▸ai w _:bW w w1)
 have h1:ao w1 k1 ay u.cells:=ao.new hk1 hw1
 refine⟨_,gP.load0 h1 (Url.len o),?_⟩
 refine aw (mN o (by omega) w1 (he.step hB1)) ?_
 rintro _ w2 ⟨rfl,hb2⟩
 have hB2:=aa hB1 hb2 hB1.size
 have h2:=h1.below hb2
 refine⟨_,rfl,ab.of (λc=>?_) (λc=>?_)⟩
 · have c:fm u=false:=by simpa using c
   refine⟨?_,hB2⟩
   unfold gr;rw[c];rfl
 have c:fm u=true:=by simpa using c
 have hu:gr u=eT u:=if_pos c
 have hport:1 <=u.port/\u.port <=65535:=by
   unfold fm at c
   simp only[Bool.and_eq_true,dTx]at c
   exact⟨c.2.1,c.2.2.1⟩
 refine⟨rfl,_,h2.load1 ci rfl (i:=0) rfl,?_⟩
 refine aw (yr u.sec w2) ?_
 rintro _ w2' ⟨rfl,hw2⟩
 rw[hw2];clear hw2 w2'
 refine⟨_,_,rfl,rfl,_,aP.load h2 (i:=1) (us:=u.host.cells) (Hst.len o) (λj hj=>sd o hj),?_⟩
 refine aw (jS o w2 (he.step hB2)) ?_
 rintro _ w3 ⟨rfl,hb3⟩
 have hB3:=aa hB2 hb3 hB2.size
 have h3:=h2.below hb3
 have hhl:(cD u.host).length <=100000100:=Nat.le_trans (jR o) (by omega)
 have hsl:(if u.sec then([104,116,116,112,115,58,47,47]:List UInt8)else[104,116,116,112,58,47,47]).length <=8:=by cases u.sec <;> decide
 have hd:=gi (n:=u.port.toNat) (by omega)
 have hpn:(u.port.toNat:Int)=u.port:=by omega
 refine⟨_,rfl,fits (by omega),?_⟩
 rintro _ rfl
 refine⟨λx w'=>bW w3 w'/\x=(if u.sec then([104,116,116,112,115,58,47,47]:List UInt8)else[104,116,116,112,58,47,47])++cD u.host++fZ u.sec u.port,?_,λx=>aJ.of ?_ _⟩
 · refine⟨rfl,_,h3.load1 bG rfl (lj o),ab.of (λc2=>?_) (λc2=>?_)⟩
   · have c2: ¬ u.port=(if u.sec then 443 else 80):=by simpa using c2
     refine⟨rfl,_,h3.load1 bG rfl (lj o),?_⟩
     rw[<- hpn]
     refine aw (Jm u.port.toNat (by omega) w3 ((he.step hB2).step hb3)) ?_
     rintro _ w4 ⟨rfl,hb4⟩
     refine⟨_,rfl,fits (by simp only[List.length_cons,List.length_nil];omega),?_⟩
     rintro _ rfl
     refine⟨fits (by simp only[List.length_append,List.length_cons,List.length_nil];omega),?_⟩
     rintro _ rfl
     refine⟨hb4,?_⟩
     unfold fZ;rw[hpn,if_neg c2];rfl
   · have c2:u.port=(if u.sec then 443 else 80):=by simpa using c2
     refine⟨Below.refl _ _,?_⟩
     unfold fZ;rw[if_pos c2,List.append_nil]
 · rintro w4 ⟨hb4,rfl⟩
   have hpl:(fZ u.sec u.port).length <=22:=by
     by_cases c2:u.port=(if u.sec then 443 else 80)
     · unfold fZ;rw[if_pos c2];simp
     · unfold fZ;rw[if_neg c2,List.length_cons];omega
   refine⟨rfl,_,(h3.below hb4).load1 av rfl (li o),fits (by simp only[List.length_append];omega),?_⟩
   rintro _ rfl
   refine⟨?_,aa hB3 hb4 hB3.size⟩
   rw[hu];unfold eT;simp only[List.append_assoc]
theorem BR (a:Value){w K}(h:nA w (.cells (Value.cells a) ak) λb c=>true/\∃d,Ld bh (vA b 0) c (vI d)/\ab (d==(1:Int)) (true/\true/\∃e,(∀f,bW c f->Ld ay (vA b 1) f e)/\∃f,(∀g,bW c g->Cf xq #[e] g λi j=>i=.returned (vS f)/\bW g j)/\∃g,(∀i,bW c i->Ld ah (vA b 22) i (vS g))/\∃i,(∀j,bW c j->Cf jQ #[vS g] j λk l=>k=.returned (vS i)/\bW j l)/\∀j,c.heap.size <=j->∀k,bW c k->k.heap[j]? =some (.cells #[vS [115,101,116],vS f,vS i] ah)->K (.slice (vA j 0) 3 3) k) (ab (d==(2:Int)) (uL cy #[] c λe f g i=>(bx (0:Int) ((f:Nat):Int)/\Option.isSome e=true)/\∃j,Ld ah (aq e (0:Int) 1) i (vS j)/\∃k:FP [.one .str],(true/\true/\∃l,Ld bV (vA b 23) i (.bool l)/\ab l (uL cy #[] i λm n o p=>(bx (1:Int) ((n:Nat):Int)/\Option.isSome m=true)/\∃q,Ld ah (aq m (1:Int) 1) p (vS q)/\k q p) (k j i))/\∀l,aJ 6 (∀m,k l m->true/\true/\true/\true/\true/\true/\∃n,(∀o,bW m o->Ld ae (vA b 24) o n)/\∃o,(∀p,bW m p->Cf iz #[n] p λq r=>q=.returned (vS o)/\bW p r)/\∃p,(∀q,bW m q->Ld ah (vA b 42) q (vS p))/\∃q,(∀r,bW m r->Ld bh (vA b 43) r (vI q))/\∃r:FP [.one .slice],(∀s t u v x,r s t u v->bW v x->r s t u x)/\(∀s,bW m s->uL bB #[] s λt u v x=>r t u v x/\bW s x)/\∀s t u,(∀v,bW m v->r s t u v->bx q ((t:Nat):Int)/\Option.isSome s=true)/\∃v,(∀x,bW m x->r s t u x->Ld ah (aq s q 1) x (vS v))/\∀x,m.heap.size <=x->∀y,bW m y->y.heap[x]? =some (.cells #[vS [103,101,116],vS l,vS o,vS p,vS v] ah)->r s t u y->K (.slice (vA x 0) 5 5) y)) (ab (d==(3:Int)) (true/\∃e,Ld bu (vA b 44) c (vI e)/\uS dy #[vI e,vI 10] c λf g=>nA g (.cells #[vS [116,105,99,107],vS f] ah) λi j=>K (.slice (vA i 0) 2 2) j) (nA c (.cells #[vS [99,108,101,97,114]] ah) λe f=>K (.slice (vA e 0) 1 1) f)))):Cf oZ #[a] w (Ret K):=ru func38 [(3000010,[(0,.one .bool),(3,.one .bool),(1,.one .bool),(2,.one .bool),(4,.one .bool),(5,.one .bool),(6,.one .bool),(7,.one .bool)]),(17,[(3,.one .str)]),(3000024,[(0,.one .bool),(1,.one .bool),(2,.one .bool),(5,.one .bool),(6,.one .bool),(9,.one .bool),(10,.one .bool),(3,.one .bool),(4,.one .bool),(7,.one .bool),(11,.one .bool),(8,.one .slice),(12,.one .bool),(13,.one .bool),(14,.one .bool),(15,.one .bool)])] h
theorem Ee:∀d,d<16->mx (Ji d)=true/\xw (Ji d)=d/\Ji d≠58:=by decide
theorem Ef (n:Nat):(∀c∈xv n,mx c=true/\c≠58)/\xv n≠[]/\oq (xv n)=n:=by
 induction n using Nat.strongRecOn with
 | _ n ih=>
   by_cases h:n<16
   · rw[vp h]
     obtain⟨h1,h2,h3⟩:=Ee n h
     refine⟨λc hc=>by rw[List.mem_singleton.1 hc];exact⟨h1,h3⟩,by simp,?_⟩
     show 0*16+xw (Ji n)=n
     rw[h2];omega
   · obtain⟨i1,i2,i3⟩:=ih (n/16) (by omega)
     obtain⟨h1,h2,h3⟩:=Ee (n%16) (by omega)
     rw[lK h]
     refine⟨λc hc=>?_,by simp,?_⟩
     · rcases List.mem_append.1 hc with hc|hc
       · exact i1 c hc
       · rw[List.mem_singleton.1 hc];exact⟨h1,h3⟩
     · unfold oq at i3 ⊢
       rw[List.foldl_append,i3]
       show n/16*16+xw (Ji (n%16))=n
       rw[h2];omega
theorem at_mem {L:List Kpt}{last:Int}(s:ShI L last){k:Kpt}(hk:k∈L):atK L k.plc=some k:=by
 cases h:atK L k.plc with
 | none=>exact absurd rfl (rR h k hk)
 | some x=>
   obtain⟨hx,hp⟩:=mz h
   rw[s.one hx hk hp]
theorem Ql {L:List Kpt}{last:Int}(s:ShI L last){k:Kpt}(hk:k∈L):(fq L k.plc).length+1=L.length:=by
 have:=(HL s (k:=k) (at_mem s hk)).length_eq
 rw[List.length_append,List.length_map]at this
 exact this
theorem Pt {u:Url}(o:u.ok):u.cells[20]? =some (vS u.path):=by
 unfold Url.cells
 rw[show 20=19+1 from rfl,List.getElem?_cons_succ,List.getElem?_append_right (by rw[Hst.len o];decide),Hst.len o];rfl
theorem ON {r:Req}(o:r.ok):r.cells[2]? =some (vS r.host.name):=by
 unfold Req.cells
 rw[show 2=1+1 from rfl,List.getElem?_cons_succ,List.getElem?_append_left (by rw[Hst.len o];decide)];rfl
theorem sq (a:Option Addr)(b c:Nat)(d:lU){w K}(h:uB fJ #[] w λe f=>ab (!e) (K (.bool false) f) (∃g:FP [],(uB oI #[.slice a b c] f λi j=>ab i (K (.bool true) j) (ab (decide (((List.length d:Nat):Int)>(3000:Int))) (K (.bool true) j) (g j)))/\aJ 8 (∀i,g i->Cf oY #[.slice a b c] i λj k=>∃l m,j=rT #[vS l,vI m]/\∃n:FP [],(ab (m==(0:Int)) (Cf fW #[vS l] k λo p=>∃q r s t u v,o=rT #[.slice q r s,.agg #[vI t,vI u,vI v]]/\nA p (.cells #[vI 0,vI 0,vI 0] aF) λx y=>∃z,Sv aF (vA x 0) (.agg #[vI t,vI u,vI v]) y z/\∃A B C,Ld aF (vA x 0) z (.agg #[vI A,vI B,vI C])/\∃D,(do eqGuard .neq aF (.tmp 34) (.tmp 35) (.agg #[vI A,vI B,vI C]) (.agg #[vI 0,vI 0,vI 0]);binOp .neq aF (.agg #[vI A,vI B,vI C]) (.agg #[vI 0,vI 0,vI 0]):Sem Value).run prog z=.ok (.bool D) z/\ab D (K (.bool false) z) (uB mG #[.slice a b c,.slice q r s] z λE F=>ab (!E) (K (.bool false) F) (n F))) (n k))/\aJ 19 (∀o,n o->Cf fW #[vS d] o λp q=>∃r s t u v x,p=rT #[.slice r s t,.agg #[vI u,vI v,vI x]]/\nA q (.cells #[vI 0,vI 0,vI 0] aF) λy z=>∃A,Sv aF (vA y 0) (.agg #[vI u,vI v,vI x]) z A/\∃B:Nat->FP [.one (.int .i64)],(∃C,B C (0:Int) A)/\∀C D,aJ 9 (∀E,B C D E->ab (decide (D<((s:Nat):Int))) ((bx D ((s:Nat):Int)/\Option.isSome r=true)/\∃F,Ld ak (aq r D 45) E F/\nA E (.cells dt ak) λG H=>∃I,Sv ak (vA G 0) F H I/\∃J,Ld ak (vA G 0) I J/\uB ib #[J] I λL M=>ab (!L) (K (.bool false) M) (∃N:Nat,N<C/\B N (i64.wrap (D+(1:Int))) M)) (∃F G H,Ld aF (vA y 0) E (.agg #[vI F,vI G,vI H])/\∃I,(do eqGuard .eql aF (.tmp 58) (.tmp 59) (.agg #[vI F,vI G,vI H]) (.agg #[vI 0,vI 0,vI 0]);binOp .eql aF (.agg #[vI F,vI G,vI H]) (.agg #[vI 0,vI 0,vI 0]):Sem Value).run prog E=.ok (.bool I) E/\ab I (K (.bool true) E) (K (.bool (((s:Nat):Int)==(0:Int))) E))))))):Cf i6 #[.slice a b c,vS d] w (Ret K):=ru func7 [(10,[]),(20,[]),(40,[(50,.one (.int .i64))])] h
theorem Bo (a:Option Addr)(b c:Nat){w K}(h:∃d:Nat->FP [.one (.int .i64)],(∃e,d e (0:Int) w)/\∀e f,aJ 40 (∀g,d e f g->ab (decide (f<((b:Nat):Int))) ((bx f ((b:Nat):Int)/\Option.isSome a=true)/\∃i,Ld ak (aq a f 45) g i/\nA g (.cells dt ak) λj k=>∃l,Sv ak (vA j 0) i k l/\true/\∃m,Ld ah (vA j 22) l (vS m)/\ab (decide (((List.length m:Nat):Int)>(800:Int))) (K (.bool true) l) (true/\true/\true/\∃n,Ld ah (vA j 3) l (vS n)/\ab (decide (((List.length n:Nat):Int)>(300:Int))) (K (.bool true) l) (true/\true/\∃o,Ld ah (vA j 21) l (vS o)/\ab (decide (((List.length o:Nat):Int)>(800:Int))) (K (.bool true) l) (true/\true/\true/\∃p,Ld ah (vA j 25) l (vS p)/\ab (decide (((List.length p:Nat):Int)>(300:Int))) (K (.bool true) l) (true/\true/\∃q,Ld ah (vA j 42) l (vS q)/\ab (decide (((List.length q:Nat):Int)>(800:Int))) (K (.bool true) l) (∃r:Nat,r<e/\d r (i64.wrap (f+(1:Int))) l)))))) (K (.bool (decide (((b:Nat):Int)>(40:Int)))) g))):Cf oI #[.slice a b c] w (Ret K):=ru func12 [(6,[(7,.one (.int .i64))])] h
structure OpT (o:OpR):Prop where
 tx:o.text.length <=800
 un:o.url.host.name.length <=300
 up:o.url.path.length <=800
 rn:o.req.host.name.length <=300
 rp:o.req.path.length <=800
theorem OpT.ok {o:OpR}(h:OpT o)(k:OpW o):o.ok:=⟨k.uo,k.ro,by have:=h.up;omega,by have:=h.un;omega,by have:=h.rp;omega,by have:=h.rn;omega,by have:=h.tx;omega⟩
theorem CV {B:Bl}{a1:Option Addr}{l1 c1:Nat}{os:List OpR}{w:World}(ho:Sl tOp w B a1 l1 c1 os)(hol:os.length <=9223372036854775807):
   Cf oI #[.slice a1 l1 c1] w (Ret λv w'=>∃b:Bool,v=.bool b/\(b=false->os.length <=40/\∀o∈os,OpT o)/\bW w w'):=by
 apply Bo
 have hn2:=ho.len
 subst hn2
 have bad:∀{wx:World},bW w wx->∃b:Bool,Value.bool true=.bool b/\(b=false->os.length <=40/\∀o∈os,OpT o)/\bW w wx:=λh=>⟨true,rfl,(λe=>by cases e),h⟩
 refine⟨λm i wl=>∃k:Nat,k <=os.length/\i=(k:Int)/\m=os.length-k/\(∀o∈os.take k,OpT o)/\bW w wl,⟨_,0,by omega,rfl,rfl,(λx hx=>by rw[List.take_zero]at hx;cases hx),Below.refl _ _⟩,?_⟩
 intro m2 i2
 refine aJ.of ?_ _
 rintro wl2 ⟨k,hk,rfl,rfl,hno2,hbl2⟩
 refine ab.of (λhi=>?_) (λhi=>?_) <;> simp only[dTx,dFx]at hi
 · have hlt:k<os.length:=by omega
   have hsl:=ho.below hbl2
   obtain⟨hld,W⟩:=uv ec hsl hlt
   have hwk:i64.wrap ((k:Int)+1)=((k+1:Nat):Int):=by rw[wrap_i64 (by omega) (by omega)];omega
   have htk:=jV hlt
   refine⟨⟨⟨by omega,by omega⟩,hsl.isSome hlt⟩,_,hld,?_⟩
   rw[hwk]
   generalize os[k]=x at*
   refine ec.new (zs:=uy.cells) (cs:=x.cells) cG (OpW.len W) (OpR.one _) wl2 λk8 wx hk8 h8 hb8=>?_
   have Bx:=aa hbl2 hb8 hbl2.size
   refine⟨rfl,_,h8.load1 av rfl (i:=22) (QW W),ab.of (λe=>bad Bx) (λe1=>⟨rfl,rfl,rfl,_,h8.load1 av rfl (i:=3) ((Ov W (j:=2) (by decide)).trans ((sd W.uo (j:=1) (by decide)).trans rfl)),ab.of (λe=>bad Bx) (λe2=>⟨rfl,rfl,_,h8.load1 av rfl (i:=21) ((Ov W (j:=20) (by decide)).trans (Pt W.uo)),ab.of (λe=>bad Bx) (λe3=>⟨rfl,rfl,rfl,_,h8.load1 av rfl (i:=25) ((Ou W (j:=2) (by decide)).trans (ON W.ro)),ab.of (λe=>bad Bx) (λe4=>⟨rfl,rfl,_,h8.load1 av rfl (i:=42) ((Ou W (j:=19) (by decide)).trans (A8 W.ro)),ab.of (λe=>bad Bx) (λe5=>?_)⟩)⟩)⟩)⟩)⟩
   have e1:=of_decide_eq_false e1
   have e2:=of_decide_eq_false e2
   have e3:=of_decide_eq_false e3
   have e4:=of_decide_eq_false e4
   have e5:=of_decide_eq_false e5
   refine⟨os.length-(k+1),by omega,k+1,by omega,rfl,rfl,?_,Bx⟩
   intro y hy
   rw[htk,List.mem_append]at hy
   rcases hy with hy|hy
   · exact hno2 y hy
   · rw[List.mem_singleton]at hy;subst hy;exact⟨by omega,by omega,by omega,by omega,by omega⟩
 · have:k=os.length:=by omega
   subst this
   rw[List.take_length]at hno2
   refine⟨_,rfl,λe2=>⟨?_,hno2⟩,hbl2⟩
   have:=of_decide_eq_false e2;omega
theorem EE (d:UInt8):∀(r:List (List UInt8)),∀c∈Lib.joinTail [d] r,c=d\/∃x∈r,c∈x
 | [],c,h=>by simp[Lib.joinTail]at h
 | x::r,c,h=>by
   have h:c∈[d]++x++Lib.joinTail [d] r:=by simpa[Lib.joinTail]using h
   rcases List.mem_append.1 h with h|h
   · rcases List.mem_append.1 h with h|h
     · exact .inl (List.mem_singleton.1 h)
     · exact .inr ⟨x,List.mem_cons_self,h⟩
   · rcases EE d r c h with e|⟨y,hy,hc⟩
     · exact .inl e
     · exact .inr ⟨y,List.mem_cons_of_mem _ hy,hc⟩
theorem lq (d:UInt8)(L:List (List UInt8))(c:UInt8)(h:c∈Lib.join L [d]):c=d\/∃x∈L,c∈x:=by
 cases L with
 | nil=>rw[Lib.join_nil]at h;cases h
 | cons x r=>
   rw[Lib.join_cons]at h
   rcases List.mem_append.1 h with h|h
   · exact .inr ⟨x,List.mem_cons_self,h⟩
   · rcases EE d r c h with e|⟨y,hy,hc⟩
     · exact .inl e
     · exact .inr ⟨y,List.mem_cons_of_mem _ hy,hc⟩
theorem Qh {c:UInt8}(h:eA c=true):c≠47/\c≠63/\c≠35/\c≠58/\c≠91:=by
 refine⟨?_,?_,?_,?_,?_⟩ <;> (rintro rfl;revert h;decide)
theorem QG {c:UInt8}(h:lO c=true):c≠47/\c≠63/\c≠35/\c≠58/\c≠91:=by
 refine⟨?_,?_,?_,?_,?_⟩ <;> (rintro rfl;revert h;decide)
theorem Qw {c:UInt8}(h:mx c=true):c≠47/\c≠63/\c≠35/\c≠93:=by
 refine⟨?_,?_,?_,?_⟩ <;> (rintro rfl;revert h;decide)
theorem Kd (l:List Nat):∀c∈wrL l,c≠47/\c≠63/\c≠35/\c≠93:=by
 intro c hc
 rcases lq 58 _ c hc with rfl|⟨x,hx,hc⟩
 · decide
 · obtain⟨n,_,rfl⟩:=List.mem_map.1 hx
   exact Qw ((Ef n).1 c hc).1
theorem EG (a:List UInt8):∀c∈mK a,c≠47/\c≠63/\c≠35/\c≠93:=by
 intro c hc
 unfold mK at hc
 split at hc
 · exact Kd _ c hc
 · rcases List.mem_append.1 hc with hc|hc
   · rcases List.mem_append.1 hc with hc|hc
     · exact Kd _ c hc
     · have:c=58:=by simpa using hc
       subst this;decide
   · exact Kd _ c hc
theorem EF (a:List UInt8):∀c∈re a,c≠47/\c≠63/\c≠35/\c≠58/\c≠91:=by
 intro c hc
 rcases lq 46 _ c hc with rfl|⟨x,hx,hc⟩
 · decide
 · obtain⟨n,_,rfl⟩:=List.mem_map.1 hx
   exact Qh ((ny _).1 c hc)
theorem xx {h:Hst}(o:h.ok)(r:cC h=true):bt (cD h)=some h/\HX (cD h):=by
 have hv:bt (cD h)=some h:=by
   unfold cC at r
   cases hh:bt (cD h)with
   | none=>rw[hh]at r;cases r
   | some g=>rw[hh]at r;rw[(je (fM hh) o).1 r]
 refine⟨hv,?_⟩
 have hk:=hv
 unfold bt at hk
 split at hk
 · rename_i h91
   have k3:h.kind=3:=by
     split at hk
     · rw[Option.map_eq_some_iff]at hk
       obtain⟨a,_,e⟩:=hk
       rw[<- e]
     · cases hk
   have e:cD h=91::(mK h.ad++[93]):=by unfold cD;rw[if_neg (by omega),if_neg (by omega),if_pos k3];rfl
   refine⟨λc hc=>?_,by rw[e];simp,.inl ⟨mK h.ad,e,λc hc=>(EG _ c hc).2.2.2⟩⟩
   rw[e]at hc
   rcases List.mem_cons.1 hc with rfl|hc
   · decide
   · rcases List.mem_append.1 hc with hc|hc
     · have:=EG _ c hc;exact⟨this.1,this.2.1,this.2.2.1⟩
     · have:c=93:=by simpa using hc
       subst this;decide
 · rename_i h91
   split at hk
   · have k2:h.kind=2:=by
       rw[Option.map_eq_some_iff]at hk
       obtain⟨a,_,e⟩:=hk
       rw[<- e]
     have e:cD h=re h.ad:=by unfold cD;rw[if_neg (by omega),if_pos k2]
     have hne:cD h≠[]:=by
       intro e0
       rw[e0]at hv
       rw[show bt []=none by decide]at hv;cases hv
     refine⟨λc hc=>?_,hne,.inr ⟨h91,λc hc=>?_⟩⟩
     · rw[e]at hc;have:=EF _ c hc;exact⟨this.1,this.2.1,this.2.2.1⟩
     · rw[e]at hc;exact(EF _ c hc).2.2.2.1
   · split at hk
     · rename_i hl
       have e:h=⟨1,co (cD h),ad0⟩:=(Option.some.inj hk).symm
       have k1:h.kind=1:=by rw[e]
       have en:cD h=h.name:=by unfold cD;rw[if_pos k1]
       have el:co (cD h)=cD h:=by
         have:h.name=co (cD h):=congrArg Hst.name e
         rw[en]at this ⊢;exact this.symm
       have hfree:∀c∈cD h,c≠47/\c≠63/\c≠35/\c≠58/\c≠91:=by
         intro c hc
         have hj:=pe 46 (cD h) []
         rw[List.nil_append]at hj
         rw[<- hj]at hc
         rcases lq 46 _ c hc with rfl|⟨x,hx,hc⟩
         · decide
         · have hb:=hl.2
           rw[el]at hb
           have:=List.all_eq_true.1 hb x hx
           unfold fP at this
           rw[Bool.and_eq_true,List.all_eq_true]at this
           exact QG (this.2 c hc)
       have hne:cD h≠[]:=by
         intro e0
         rw[e0]at hv
         rw[show bt []=none by decide]at hv;cases hv
       exact⟨λc hc=>⟨(hfree c hc).1,(hfree c hc).2.1,(hfree c hc).2.2.1⟩,hne,.inr ⟨h91,λc hc=>(hfree c hc).2.2.2.1⟩⟩
     · cases hk
theorem Ps {u:Url}(o:u.ok)(r:fm u=true):iR (qj u)=(u,0):=by
 unfold fm at r
 simp only[Bool.and_eq_true,dTx]at r
 obtain⟨hv,hx⟩:=xx o r.1
 exact Pr hx hv u.sec r.2.1 r.2.2.1 r.2.2.2
end Go.Pk
namespace Go.Proofs
open Go.Pk (Cf vS vI bW)
open Go.Shelf
def Tryz.lays166_ren:Go.Shelf.Ren:=⟨fun|166=>36|240=>87|276=>169|n=>n,fun|0=>0|3=>3|4=>4|9=>9|20=>20|37=>84|70=>83|72=>86|75=>88|80=>94|164=>233|5=>5|n=>n,fun|n=>n⟩
theorem Tryz.lays166:Go.Proofs.Lays.n166 prog Tryz.lays166_ren:=by constructor <;> intros <;> kernel_rfl
theorem Tryz.Builder_Extra_166:Builder.Extra prog Tryz.lays166_ren:= {
 sizeBuilder:=by kernel_rfl
 liesBuilder:=by kernel_rfl
 t5:=Tryz.underlying5
 a5:=Tryz.isAgg5
 z5:=Tryz.sizeOf5
 v5:=Tryz.zeroValue5
 infoByte:=by kernel_rfl
 cellsByte:=by kernel_rfl
 sizeByte:=by kernel_rfl
 neB5:=by decide }
open Go.RowKit in
theorem Tryz.Builder_WriteString (B b:Nat)(bs:List Value)(s:ByteArray)(w:World)(h:Lib.IsBuilder 86 5 B b bs w)(hlen:bs.length+s.size <=140737488355328)(hBw:B <=w.heap.size):
   Cf 36 #[.pointer (some ⟨b,0,none⟩),.string s] w λe w'=>e=.returned (.tuple #[vI s.size,.nilIface])/\(Lib.BuilderAt 86 5 B b (.pointer (some ⟨b,0,none⟩)) (bs++Lib.strCells s) w'/\Below B w w'):=Any.Builder_WriteString Tryz.lays166 Tryz.Builder_Extra_166 B b bs s w h hlen hBw
end Go.Proofs
namespace Go.Pk
open Go.RowKit (Below)
open Go.Proofs
theorem kB {T e:TypeId}{B b:Nat}{bs:List Value}{w w':World}(h:Lib.IsBuilder T e B b bs w)(hb:bW w w'):Lib.IsBuilder T e B b bs w':=by
 have one:∀{p:Value},Lib.BuilderAt T e B b p bs w->Lib.BuilderAt T e B b p bs w':=by
   rintro p ⟨h1,v,h2,h3,h4⟩
   refine⟨h1,v,?_,⟨h3.1,?_⟩,h4⟩
   · rw[hb.block _ (Array.getElem?_eq_some_iff.1 h2).1];exact h2
   · rcases h3.2 with h|⟨g,cap,cur,e1,e2,e3,e4⟩
     · exact .inl h
     · exact .inr ⟨g,cap,cur,e1,e2,by rw[hb.block _ (Array.getElem?_eq_some_iff.1 e3).1];exact e3,e4⟩
 exact h.elim (λh=>.inl (one h)) λh=>.inr (one h)
theorem IP {T e:TypeId}{w w':World}{b:Nat}(hb:b=w.heap.size)(hw:w'=w.alloc (.cells #[.pointer none,.slice none 0 0] T)):Lib.IsBuilder T e w.heap.size b [] w':=by
 refine .inl ⟨by omega,.slice none 0 0,?_,⟨rfl,.inl ⟨rfl,rfl⟩⟩,λh=>by cases h⟩
 subst hb hw;exact heap_alloc_new w _
def dR:List OpR->List UInt8
 | []=>[]
 | o::l=>fQ eT o++10::dR l
theorem AU:∀(l:List OpR) (o:OpR),dR (l++[o])=dR l++(fQ eT o++[10])
 | [],o=>by simp[dR]
 | p::l,o=>by rw[List.cons_append,dR,AU l o,dR];simp
theorem El {B:Nat} :∀l:List OpR,(∀o∈l,(fQ eT o).length <=B)->(dR l).length <=l.length*(B+1)
 | [],_=>Nat.zero_le _
 | o::l,h=>by
   have h1:=El l λx hx=>h x (List.mem_cons_of_mem _ hx)
   have h2:=h o List.mem_cons_self
   rw[dR,List.length_append,List.length_cons,List.length_cons,Nat.add_mul,Nat.one_mul];omega
def sK (os:List OpR):List UInt8×Int:=if os.all cP=true then(if 200<os.length then([],53)else if 20000<(dR os).length then([],54)else(dR os,0))else([],131)
theorem O5 {os:List OpR}{o:OpR}(h:o∈os)(hr:cP o=false):sK os=([],131):=by
 unfold sK
 rw[if_neg]
 intro e
 rw[List.all_eq_true.1 e o h]at hr;cases hr
def MF (o:OpR):Prop:=∀w:World,Env w->Cf oZ #[o.v] w (Ret λv w'=>∃a n c xs,v=.slice a n c/\Ow tS ah w' NoB a n c xs/\xs.length <=10/\bW w w'/\Lib.join xs [32]=fQ eT o)
theorem DL {A:Bl}{a:Option Addr}{l c:Nat}{os:List OpR}{w:World}(he:Env w)(ho:Sl tOp w A a l c os)(hl:os.length <=1000000)(hok:∀o∈os,o.ok)(hln:∀o∈os,cP o=true->MF o/\(fQ eT o).length <=20000000):
   Cf oY #[.slice a l c] w (Ret λv w'=>v=.tuple #[.string (mkS (sK os).1),vI (sK os).2]/\bW w w'):=by
 apply BQ
 have hn:=ho.len
 subst hn
 intro k4 w4 hk4 hw4
 have hB4:bW w w4:=hw4▸ai w _
 have b4:Lib.IsBuilder js aQ w.heap.size k4 [] w4:=IP hk4 hw4
 refine⟨λm i w'=>∃k:Nat,k <=os.length/\i=(k:Int)/\m=os.length-k/\(∀o∈os.take k,cP o=true)/\Lib.IsBuilder js aQ w.heap.size k4 (Lib.byteCells (dR (os.take k))) w'/\bW w w',⟨_,0,Nat.zero_le _,rfl,rfl,(λx hx=>by rw[List.take_zero]at hx;cases hx),b4,hB4⟩,λm i=>aJ.of ?_ _⟩
 rintro w5 ⟨k,hk,rfl,rfl,hr,b5,hB5⟩
 refine ab.of (λhi=>?_) (λhi=>?_) <;> simp only[dTx,dFx]at hi
 · have hlt:k<os.length:=by omega
   have hsl:=ho.below hB5
   obtain⟨hld,W⟩:=uv ec hsl hlt
   have hwk:i64.wrap ((k:Int)+1)=((k+1:Nat):Int):=by rw[wrap_i64 (by omega) (by omega)];omega
   have htk:os.take (k+1)=os.take k++[os[k]]:=List.take_succ_eq_append_getElem hlt
   have hmem:os[k]∈os:=List.getElem_mem hlt
   refine⟨⟨⟨by omega,hi⟩,hsl.isSome hlt⟩,_,hld,?_⟩
   rw[hwk]
   generalize os[k]=o at*
   have ok:=hok o hmem
   refine ec.new (zs:=uy.cells) (cs:=o.cells) cG (OpW.len W) (OpR.one _) w5 λk6 w6 hk6 h6 hb6=>?_
   have hB6:=aa hB5 hb6 hB5.size
   refine⟨_,ec.load0 h6 (OpW.len W),?_⟩
   refine aw (lX ok w6 (he.step hB6)) ?_
   rintro _ w7 ⟨rfl,hb7⟩
   have hB7:=aa hB6 hb7 hB6.size
   refine⟨_,rfl,ab.of (λc1=>?_) (λc1=>?_)⟩
   · rw[O5 hmem (by simpa using c1)]
     exact⟨rfl,hB7⟩
   · have c1:cP o=true:=by simpa using c1
     obtain⟨hL,hll⟩:=hln o hmem c1
     refine⟨_,ec.load0 (h6.below hb7) (OpW.len W),?_⟩
     refine aw (hL w7 (he.step hB7)) ?_
     rintro _ w8 ⟨a8,n8,c8,xs,rfl,o8,hx8,hb8,hj⟩
     have hB8:=aa hB7 hb8 hB7.size
     refine⟨_,_,_,rfl,?_⟩
     refine aw (xB o8.all [32] (by omega) (by rw[hj];omega)) ?_
     rintro _ w9 ⟨rfl,hb9⟩
     have hB9:=aa hB8 hb9 hB8.size
     rw[hj]
     refine⟨_,rfl,fits (by simp;omega),?_⟩
     rintro _ rfl
     have b9:=(((kB b5 hb6) |> (kB · hb7)) |> (kB · hb8)) |> (kB · hb9)
     have hlen:(dR (os.take k)).length <=1000000*20000001:=by
       have:=El (B:=20000000) (os.take k) λo h=>(hln o (List.mem_of_mem_take h) (hr o h)).2
       refine Nat.le_trans this (Nat.mul_le_mul ?_ (Nat.le_refl _))
       rw[List.length_take];omega
     refine(Tryz.Builder_WriteString w.heap.size k4 (Lib.byteCells (dR (os.take k))) (mkS (fQ eT o++[10])) w9 b9 (by
       have e1:(Lib.byteCells (dR (os.take k))).length=(dR (os.take k)).length:=by simp[Lib.byteCells]
       have e2:(mkS (fQ eT o++[10])).size=(fQ eT o).length+1:=by show((fQ eT o++[10]).toArray).size=_;simp
       rw[e1,e2];omega) hB9.size).mono ?_
     rintro _ w10 ⟨rfl,b10,hb10⟩
     refine⟨_,_,rfl,os.length-(k+1),by omega,k+1,by omega,rfl,rfl,?_,?_,hB9.trans hb10⟩
     · intro x hx
       rw[htk,List.mem_append]at hx
       rcases hx with hx|hx
       · exact hr x hx
       · rw[List.mem_singleton.1 hx];exact c1
     · rw[htk,AU]
       have e:Lib.byteCells (dR (os.take k)++(fQ eT o++[10]))=Lib.byteCells (dR (os.take k))++Lib.strCells (mkS (fQ eT o++[10])):=by
         unfold Lib.byteCells Lib.strCells
         rw[List.map_append];rfl
       rw[e];exact .inr b10
 · have:k=os.length:=by omega
   subst this
   rw[List.take_length]at hr b5
   have hall:os.all cP=true:=List.all_eq_true.2 hr
   have hT:sK os=if 200<os.length then([],53)else if 20000<(dR os).length then([],54)else(dR os,0):=by unfold sK;rw[if_pos hall]
   refine ab.of (λc1=>?_) (λc1=>?_) <;> simp only[gt_iff_lt,dTx,dFx]at c1
   · rw[hT,if_pos (by omega)];exact⟨rfl,hB5⟩
   · rw[if_neg (by omega)]at hT
     have e1:(Lib.byteCells (dR os)).length=(dR os).length:=by simp[Lib.byteCells]
     refine(Tryz.Builder_Len w.heap.size k4 _ w5 b5).mono ?_
     rintro _ _ ⟨rfl,rfl⟩
     rw[e1]
     refine⟨_,rfl,ab.of (λc2=>?_) (λc2=>?_)⟩ <;> simp only[gt_iff_lt,dTx,dFx]at c2
     · rw[hT,if_pos (by omega)];exact⟨rfl,hB5⟩
     · rw[if_neg (by omega)]at hT
       refine(Tryz.Builder_String_any w.heap.size k4 (dR os) _ b5 hB5.size).mono ?_
       rintro _ w6 ⟨rfl,hb6⟩
       rw[hT]
       exact⟨dR os,rfl,rfl,hB5.trans hb6⟩
theorem I5 {c:UInt8} :eA c=true->33 <=c.toNat:=tX (p:=λc=>eA c=true->33 <=c.toNat) (by decide+kernel) c
theorem Tp {c:UInt8} :lO c=true->33 <=c.toNat:=tX (p:=λc=>lO c=true->33 <=c.toNat) (by decide+kernel) c
theorem Th {c:UInt8} :mx c=true->33 <=c.toNat:=tX (p:=λc=>mx c=true->33 <=c.toNat) (by decide+kernel) c
theorem Q1 {c:UInt8} :qe c=true->33 <=c.toNat:=tX (p:=λc=>qe c=true->33 <=c.toNat) (by decide+kernel) c
theorem RC (c:UInt8):∀x∈eU c,33 <=x.toNat:=tX (p:=λc=>∀x∈eU c,33 <=x.toNat) (by decide+kernel) c
theorem Iy:∀s:List UInt8,∀x∈cF s,33 <=x.toNat
 | [],x,h=>by cases h
 | c::s,x,h=>by
   rw[cF]at h
   rcases List.mem_append.1 h with h|h
   · exact RC c x h
   · exact Iy s x h
theorem PB (s:List UInt8):∀x∈j8 s,33 <=x.toNat:=by
 intro x h
 unfold j8 at h
 split at h
 · rw[List.mem_singleton]at h;subst h;decide
 · exact Iy s x h
theorem PC (l:List Nat):∀c∈wrL l,33 <=c.toNat:=by
 intro c hc
 rcases lq 58 _ c hc with rfl|⟨x,hx,hc⟩
 · decide
 · obtain⟨n,_,rfl⟩:=List.mem_map.1 hx
   exact Th ((Ef n).1 c hc).1
theorem Pd (a:List UInt8):∀c∈mK a,33 <=c.toNat:=by
 intro c hc
 unfold mK at hc
 split at hc
 · exact PC _ c hc
 · rcases List.mem_append.1 hc with hc|hc
   · rcases List.mem_append.1 hc with hc|hc
     · exact PC _ c hc
     · have:c=58:=by simpa using hc
       subst this;decide
   · exact PC _ c hc
theorem Pc (a:List UInt8):∀c∈re a,33 <=c.toNat:=by
 intro c hc
 rcases lq 46 _ c hc with rfl|⟨x,hx,hc⟩
 · decide
 · obtain⟨n,_,rfl⟩:=List.mem_map.1 hx
   exact I5 ((ny _).1 c hc)
theorem KG {h:Hst}(o:h.ok)(r:cC h=true):∀c∈cD h,33 <=c.toNat:=by
 have hv:=(xx o r).1
 have hk:=hv
 unfold bt at hk
 split at hk
 · have k3:h.kind=3:=by
     split at hk
     · rw[Option.map_eq_some_iff]at hk
       obtain⟨a,_,e⟩:=hk
       rw[<- e]
     · cases hk
   have e:cD h=91::(mK h.ad++[93]):=by unfold cD;rw[if_neg (by omega),if_neg (by omega),if_pos k3];rfl
   intro c hc
   rw[e]at hc
   rcases List.mem_cons.1 hc with rfl|hc
   · decide
   · rcases List.mem_append.1 hc with hc|hc
     · exact Pd _ c hc
     · have:c=93:=by simpa using hc
       subst this;decide
 · split at hk
   · have k2:h.kind=2:=by
       rw[Option.map_eq_some_iff]at hk
       obtain⟨a,_,e⟩:=hk
       rw[<- e]
     have e:cD h=re h.ad:=by unfold cD;rw[if_neg (by omega),if_pos k2]
     intro c hc
     rw[e]at hc;exact Pc _ c hc
   · split at hk
     · rename_i hl
       have e:h=⟨1,co (cD h),ad0⟩:=(Option.some.inj hk).symm
       have k1:h.kind=1:=by rw[e]
       have en:cD h=h.name:=by unfold cD;rw[if_pos k1]
       have el:co (cD h)=cD h:=by
         have:h.name=co (cD h):=congrArg Hst.name e
         rw[en]at this ⊢;exact this.symm
       intro c hc
       have hj:=pe 46 (cD h) []
       rw[List.nil_append]at hj
       rw[<- hj]at hc
       rcases lq 46 _ c hc with rfl|⟨x,hx,hc⟩
       · decide
       · have hb:=hl.2
         rw[el]at hb
         have:=List.all_eq_true.1 hb x hx
         unfold fP at this
         rw[Bool.and_eq_true,List.all_eq_true]at this
         exact Tp (this.2 c hc)
     · cases hk
theorem HO {s:List UInt8}(h:gV s=true):∀c∈s,33 <=c.toNat:=by
 unfold gV at h
 rw[Bool.and_eq_true,Bool.and_eq_true,List.all_eq_true]at h
 exact λc hc=>Q1 (h.2.2 c hc)
theorem DZ {u:Url}(r:fm u=true):cC u.host=true/\1 <=u.port/\u.port <=65535/\gV u.path=true:=by
 unfold fm at r
 simp only[Bool.and_eq_true,dTx]at r
 exact⟨r.1,r.2.1,r.2.2.1,r.2.2.2⟩
theorem pMm{b:Bool}{p:Int}{c:UInt8}(hc:c∈fZ b p):c∈([]:List UInt8)\/c∈58::mA p.toNat:=by
 unfold fZ at hc
 revert hc
 generalize (if b=true then(443:Int)else 80)=m
 intro hc
 by_cases e:p=m
 · rw[if_pos e]at hc;exact .inl hc
 · rw[if_neg e]at hc;exact .inr hc
theorem TY {u:Url}(o:u.ok)(r:fm u=true):∀c∈eT u,33 <=c.toNat:=by
 obtain⟨h1,h2,h3,h4⟩:=DZ r
 intro c hc
 unfold eT at hc
 rcases List.mem_append.1 hc with hc|hc
 · split at hc
   · exact(by decide:∀c∈([104,116,116,112,115,58,47,47]:List UInt8),33 <=c.toNat) c hc
   · exact(by decide:∀c∈([104,116,116,112,58,47,47]:List UInt8),33 <=c.toNat) c hc
 rcases List.mem_append.1 hc with hc|hc
 · exact KG o h1 c hc
 rcases List.mem_append.1 hc with hc|hc
 · rcases pMm hc with hc|hc
   · cases hc
   · rcases List.mem_cons.1 hc with rfl|hc
     · decide
     · exact I5 ((ny _).1 c hc)
 · exact HO h4 c hc
theorem Mt {u:Url}(o:u.ok)(r:fm u=true):iR (eT u)=(u,0):=Ps o r
theorem VT {s:List UInt8}(h:∀c∈s,33 <=c.toNat):∀c∈s,c≠32:=λc hc e=>by have:=h c hc;subst e;exact absurd this (by decide)
theorem IZ {s:List UInt8}(h:∀c∈s,33 <=c.toNat):bK 32 [] s=[s]:=by
 have:=As 32 s [] (VT h)
 simpa using this
theorem Au {a r:List UInt8}(h:∀c∈a,33 <=c.toNat):bK 32 [] (a++32::r)=a::bK 32 [] r:=by
 have:=zG 32 a [] r (VT h)
 simpa using this
theorem Kb {a:List UInt8}(h:∀c∈a,33 <=c.toNat):∀c∈a,c=32\/33 <=c.toNat:=λc hc=>.inr (h c hc)
theorem uQ {a r:List UInt8}(h:∀c∈a,33 <=c.toNat)(hr:∀c∈r,c=32\/33 <=c.toNat):∀c∈a++32::r,c=32\/33 <=c.toNat:=by
 intro c hc
 rcases List.mem_append.1 hc with hc|hc
 · exact .inr (h c hc)
 · rcases List.mem_cons.1 hc with hc|hc
   · exact .inl hc
   · exact hr c hc
theorem A6 {o:OpR}(k:o.fit)(h:cP o=true):bT (fQ eT o)=some o/\∀c∈fQ eT o,c=32\/33 <=c.toNat:=by
 obtain⟨h1,h2⟩:=(ls k).1 h
 rw[<- zS eT]
 have keep:∀s,s=fQ eT o->fh eT o s=some o:=λs e=>by
   unfold fh;rw[e,h1,beq_self_eq_true];rfl
 obtain⟨kd,u,t,r,n⟩:=o
 unfold cX at h1
 unfold vC at h2
 by_cases c1:kd=1
 · subst c1
   rw[if_pos rfl]at h1 h2
   have e:=congrArg OpR.req h2
   have e2:=congrArg OpR.n h2
   simp only at e e2 h1
   subst e e2
   have hu:=TY k.uo h1
   have hw:=PB t
   have hc:bK 32 [] (fQ eT ⟨1,u,t,j6,0⟩)=[xX,eT u,j8 t]:=by
     show bK 32 [] (xX++32::(eT u++32::j8 t))=_
     rw[Au (by decide),Au hu,IZ hw]
   rw[K6 eT hc,Mt k.uo h1,if_pos rfl,(rf _ t).2 rfl]
   exact⟨keep _ rfl,uQ (by decide) (uQ hu (Kb hw))⟩
 rw[if_neg c1]at h1 h2
 by_cases c2:kd=2
 · subst c2
   rw[if_pos rfl]at h1 h2
   simp only[Bool.and_eq_true,dTx]at h1
   obtain⟨a1,a2,a3,a4⟩:=h1
   have e:=congrArg OpR.url h2
   have e2:=congrArg OpR.n h2
   have e3:=congrArg OpR.text h2
   simp only at e e2 e3
   subst e e2 e3
   obtain⟨sc,hh,p,cr⟩:=r
   have hs:∀c∈fN sc,33 <=c.toNat:=by cases sc <;> decide
   have hcr:∀c∈gY cr,33 <=c.toNat:=by unfold gY;split;decide;split <;> decide
   have ho:=KG k.ro a1
   have hp:=HO a2
   have hc:bK 32 [] (fQ eT ⟨2,eX,[],⟨sc,hh,p,cr⟩,0⟩)=[sA,fN sc,cD hh,p,gY cr]:=by
     show bK 32 [] (sA++32::(fN sc++32::(cD hh++32::(p++32::gY cr))))=_
     rw[Au (by decide),Au hs,Au ho,Au hp,IZ hcr]
   rw[K5 eT hc,(xx k.ro a1).1]
   have e1:(fN sc==gv)=sc:=by cases sc <;> rfl
   have e2:(if gY cr=GW then(2:Int)else if gY cr=GJ then 1 else 0)=cr:=by
     have a3:0 <=cr:=a3
     have a4:cr <=2:=a4
     have:cr=0\/cr=1\/cr=2:=by omega
     rcases this with rfl|rfl|rfl <;> rfl
   show fh eT ⟨2,eX,[],⟨fN sc==gv,hh,p,if gY cr=GW then 2 else if gY cr=GJ then 1 else 0⟩,0⟩ _=_/\_
   rw[e1,e2]
   exact⟨keep _ rfl,uQ (by decide) (uQ hs (uQ ho (uQ hp (Kb hcr))))⟩
 rw[if_neg c2]at h1 h2
 by_cases c3:kd=3
 · subst c3
   rw[if_pos rfl]at h1 h2
   simp only[Bool.and_eq_true,dTx]at h1
   have e:=congrArg OpR.url h2
   have e2:=congrArg OpR.req h2
   have e3:=congrArg OpR.text h2
   simp only at e e2 e3
   subst e e2 e3
   have hd:∀c∈mA n.toNat,33 <=c.toNat:=λc hc=>I5 ((ny _).1 c hc)
   have hc:bK 32 [] (fQ eT ⟨3,eX,[],j6,n⟩)=[mv,mA n.toNat]:=by
     show bK 32 [] (mv++32::mA n.toNat)=_
     rw[Au (by decide),IZ hd]
   obtain⟨b1,b2⟩:=FO (n:=n.toNat) (by omega)
   rw[Ib eT hc,if_pos b1,b2,Int.toNat_of_nonneg h1.1]
   exact⟨keep _ rfl,uQ (by decide) (Kb hd)⟩
 rw[if_neg c3]at h1 h2
 rw[h2]
 rw[zS eT]
 exact⟨rfl,by decide⟩
theorem Hy {o:OpR}(k:o.fit)(h:cP o=true):∀c∈fQ eT o,c≠10/\c≠13:=by
 intro c hc
 rcases(A6 k h).2 c hc with rfl|h
 · decide
 · refine⟨λe=>?_,λe=>?_⟩ <;> (subst e;exact absurd h (by decide))
theorem LC {x:List UInt8}(h:∀c∈x,c≠13):mT x=x:=by
 unfold mT
 rw[if_neg]
 intro e
 exact h 13 (List.mem_of_getLast? e) rfl
theorem vu:∀{os:List OpR},(∀o∈os,o.fit/\cP o=true)->bK 10 [] (dR os)=os.map (fQ eT)++[[]]
 | [],_=>rfl
 | o::l,h=>by
   have ho:=h o List.mem_cons_self
   rw[dR,zG 10 _ [] _ (λc hc=>(Hy ho.1 ho.2 c hc).1),vu λx hx=>h x (List.mem_cons_of_mem _ hx)]
   rfl
theorem LY {os:List OpR}(h:∀o∈os,o.fit/\cP o=true):ka (dR os)=os.map (fQ eT):=by
 unfold ka
 rw[vu h,if_pos (by simp),List.dropLast_concat,List.map_map]
 apply List.map_congr_left
 intro o ho
 exact LC λc hc=>(Hy (h o ho).1 (h o ho).2 c hc).2
theorem A5:∀{os:List OpR} (i:Nat) (out:List OpR),(∀o∈os,o.fit/\cP o=true)->i+os.length <=200->gK bT i (os.map (fQ eT)) out=(out++os,0,0,0)
 | [],i,out,_,_=>by rw[List.map_nil,gK,List.append_nil]
 | o::l,i,out,h,hi=>by
   simp only[List.length_cons]at hi
   have ho:=h o List.mem_cons_self
   rw[List.map_cons,gK,if_neg (by omega),(A6 ho.1 ho.2).1]
   show gK bT (i+1) _ (out++[o])=_
   rw[A5 (i+1) (out++[o]) (λx hx=>h x (List.mem_cons_of_mem _ hx)) (by omega)]
   simp
theorem L3 {os:List OpR}(h:∀o∈os,o.fit/\cP o=true)(hl:os.length <=200)(hs:(dR os).length <=20000):fk bT (dR os)=(os,0,0,0):=by
 unfold fk
 rw[if_neg (by omega),LY h,A5 0 [] h (by omega)]
 rfl
theorem JD {s:List UInt8}{o:OpR}(hs:s.length <=900000)(h:bT s=some o):o.ok:=by
 have hne:=gQ 32 s []
 obtain⟨k,ws,hcut⟩:∃k ws,bK 32 [] s=k::ws:=by
   cases h:bK 32 [] s with
   | nil=>exact absurd h hne
   | cons k ws=>exact⟨k,ws,rfl⟩
 have hx:∀x∈ws,x.length <=900000:=λx hx=>by
   have:=fI 32 s [] x (by rw[hcut];exact List.mem_cons_of_mem _ hx)
   simp at this;omega
 rw[uA hcut]at h
 split at h
 · cases h
 split at h
 · split at h
   · rw[<- Option.some.inj h];exact FV k ws hx
   · cases h
 · cases h
theorem Es {f:List UInt8->Option OpR} :∀(L:List (List UInt8)) (i:Nat) (out:List OpR),∀o∈(gK f i L out).1,o∈out\/∃x∈L,f x=some o
 | [],i,out,o,h=>.inl (by rwa [nO]at h)
 | x::r,i,out,o,h=>by
   by_cases c:i=200
   · rw[lR _ _ _ _ c]at h;cases h
   · cases e:f x with
     | none=>rw[nN _ _ c e]at h;cases h
     | some p=>
       rw[lS _ _ c e]at h
       rcases Es r (i+1) _ o h with h|⟨y,hy,hf⟩
       · rcases List.mem_append.1 h with h|h
         · exact .inl h
         · rw[List.mem_singleton]at h;subst h;exact .inr ⟨x,List.mem_cons_self,e⟩
       · exact .inr ⟨y,List.mem_cons_of_mem _ hy,hf⟩
theorem Et {f:List UInt8->Option OpR} :∀(L:List (List UInt8)) (i:Nat) (out:List OpR),(gK f i L out).2=(0,0,0)\/(gK f i L out).1=[]
 | [],i,out=>.inl (by rw[nO])
 | x::r,i,out=>by
   by_cases c:i=200
   · rw[lR _ _ _ _ c];exact .inr rfl
   · cases e:f x with
     | none=>rw[nN _ _ c e];exact .inr rfl
     | some p=>rw[lS _ _ c e];exact Et r (i+1) _
theorem OA (s:List UInt8):(fk bT s).2=(0,0,0)\/(fk bT s).1=[]:=by
 unfold fk
 split
 · exact .inr rfl
 · exact Et _ _ _
theorem Oz {s:List UInt8} :∀o∈(fk bT s).1,cP o=true/\(s.length <=900000->o.ok):=by
 intro o h
 unfold fk at h
 split at h
 · cases h
 · rcases Es _ _ _ o h with h|⟨x,hx,hf⟩
   · cases h
   · exact⟨qN hf,λhs=>JD (by have:=AV s x hx;omega) hf⟩
theorem QI {o:OpR}(k:o.ok)(h:cP o=true):(fQ eT o).length <=20000000:=by
 have h1:=((ls k.fit).1 h).1
 unfold cX at h1
 unfold fQ
 split
 · rename_i c
   rw[if_pos c]at h1
   have hu:=Cn k.uo k.un k.up
   unfold gr at hu
   rw[if_pos h1]at hu
   have hw:=EM o.text
   have:=k.tx
   simp only[List.length_append,List.length_cons,xX,List.length_nil]
   omega
 split
 · have h2:=jR k.ro
   have h3:(fN o.req.sec).length <=5:=by unfold fN;split <;> decide
   have h4:(gY o.req.cross).length <=4:=by unfold gY;split;decide;split <;> decide
   have h5:=k.rn
   have h6:=k.rp
   simp only[List.length_append,List.length_cons,sA,List.length_nil]
   omega
 split
 · rename_i c1 c2 c3
   rw[if_neg c1,if_neg c2,if_pos c3]at h1
   simp only[Bool.and_eq_true,dTx]at h1
   have h2:=gi (n:=o.n.toNat) (by omega)
   simp only[List.length_append,List.length_cons,mv,List.length_nil]
   omega
 · decide
theorem Mm {os:List OpR}(h:(sK os).2=0):(∀o∈os,cP o=true)/\os.length <=200/\(dR os).length <=20000/\(sK os).1=dR os:=by
 unfold sK at h ⊢
 by_cases c:os.all cP=true
 · rw[if_pos c]at h ⊢
   by_cases c2:200<os.length
   · rw[if_pos c2]at h;cases h
   · rw[if_neg c2]at h ⊢
     by_cases c3:20000<(dR os).length
     · rw[if_pos c3]at h;cases h
     · rw[if_neg c3]
       exact⟨List.all_eq_true.1 c,by omega,by omega,rfl⟩
 · rw[if_neg c]at h;cases h
theorem Uw (x:Int×Int×Int){p q:Operand}(w:World):((do eqGuard .neq aF p q (Je x) (Je x);binOp .neq aF (Je x) (Je x):Sem Value)).run prog w=.ok (.bool false) w:=by
 have h:=OT (x:=p) (y:=q) (by kernel_rfl:prog.eqGuardType prog.depth aF=false) (Nj x x) w
 have e:((x.1==x.1)&&((x.2.1==x.2.1)&&((x.2.2==x.2.2)&&true)))=true:=by simp
 rw[e]at h;exact h
theorem ur (hln:∀{o:OpR},o.ok->cP o=true->MF o){B:Bl}{a1:Option Addr}{l1 c1:Nat}{os:List OpR}{w:World}(he:Env w)(ho:Sl tOp w B a1 l1 c1 os)(hol:os.length <=9223372036854775807)(s:List UInt8):
   Cf i6 #[.slice a1 l1 c1,vS s] w (Ret (U3 w)):=by
 apply sq
 refine aw (sI w he) ?_
 rintro _ w1 ⟨rfl,hb1⟩
 refine⟨_,rfl,ab.no rfl ⟨λw'=>((os.length <=40/\∀o∈os,OpT o)/\s.length <=3000)/\bW w w',?_,aJ.of ?_ _⟩⟩
 · refine aw (CV (ho.below hb1) hol) ?_
   rintro _ w2 ⟨b,rfl,h1,hb2⟩
   have B2:=aa hb1 hb2 hb1.size
   refine⟨_,rfl,ab.of (λ_=>⟨rfl,B2⟩) (λe1=>ab.of (λ_=>⟨rfl,B2⟩) (λe2=>⟨⟨h1 e1,?_⟩,B2⟩))⟩
   have:=of_decide_eq_false e2;omega
 rintro w2 ⟨⟨⟨hl40,hot⟩,hs⟩,B2⟩
 have okO:∀o∈os,o.ok:=λo h=>by
   obtain⟨i,hi,rfl⟩:=List.getElem_of_mem h
   exact(hot _ h).ok (uv ec ho hi).2
 refine aw (DL (he.step B2) (ho.below B2) (by omega) okO λo h hr=>⟨hln (okO o h) hr,QI (okO o h) hr⟩) ?_
 rintro _ w3 ⟨rfl,hb3⟩
 have B3:=aa B2 hb3 B2.size
 refine⟨_,_,rfl,?_⟩
 refine gE (λw'=>bW w w') ?_ ?_
 · refine ab.of (λc=>?_) (λ_=>B3)
   have c:(sK os).2=0:=eq_of_beq c
   obtain⟨g1,g2,g3,g4⟩:=Mm c
   have hp:=L3 (λo h=>⟨(okO o h).fit,g1 o h⟩) g2 g3
   rw[g4]
   refine aw (jl (dR os) w3 (he.step B3)) ?_
   rintro _ w4 ⟨a,n,c,rfl,o4,f4,hb4⟩
   rw[hp]at o4 ⊢
   have B4:=aa B3 hb4 B3.size
   refine⟨_,_,_,_,_,_,rfl,?_⟩
   refine iu.new (zs:=Ky (0,0,0)) (cs:=Ky (0,0,0)) rfl rfl (xr _) w4 λk5 w5 hk5 h5 hb5=>?_
   have B5:=aa B4 hb5 B4.size
   refine⟨_,_,_,iu.load0 h5 rfl,_,Uw (0,0,0) w5,ab.no rfl ?_⟩
   refine aw (vL (ho.below B5) (o4.below hb5).all (by omega)) ?_
   rintro _ w6 ⟨b,rfl,hb,hb6⟩
   have hbt:b=true:=hb.2 rfl
   subst hbt
   exact⟨_,rfl,ab.no rfl (aa B5 hb6 B5.size)⟩
 intro w4 B4
 refine aw (jl s w4 (he.step B4)) ?_
 rintro _ w5 ⟨a,n,c,rfl,o5,f5,hb5⟩
 have B5:=aa B4 hb5 B4.size
 have hnil:=OA s
 have hmem:=Oz (s:=s)
 have hlen:=Eu bT s
 generalize fk bT s=x at*
 obtain⟨out,flt⟩:=x
 refine⟨_,_,_,_,_,_,rfl,?_⟩
 have hn:=o5.len
 subst hn
 refine iu.new (zs:=Ky (0,0,0)) (cs:=Ky flt) rfl rfl (xr _) w5 λk6 w6 hk6 h6 hb6=>?_
 have B6:=aa B5 hb6 B5.size
 refine⟨λm i w'=>∃k:Nat,k <=out.length/\i=(k:Int)/\m=out.length-k/\bW w6 w',⟨_,0,Nat.zero_le _,rfl,rfl,Below.refl _ _⟩,λm i=>aJ.of ?_ _⟩
 rintro w7 ⟨k,hk,rfl,rfl,hb7⟩
 have B7:=aa B6 hb7 B6.size
 have hsl:=((o5.below hb6).below hb7).all
 refine ab.of (λhi=>?_) (λhi=>?_) <;> simp only[dTx,dFx]at hi
 · have hlt:k<out.length:=by omega
   have hm:=hmem out[k] (List.getElem_mem hlt)
   have hok:=hm.2 (by omega)
   refine⟨⟨⟨by omega,hi⟩,hsl.isSome hlt⟩,_,(uv ec hsl hlt).1,?_⟩
   refine ec.new (zs:=uy.cells) (cs:=out[k].cells) cG (OpR.len hok) (OpR.one _) w7 λk8 w8 hk8 h8 hb8=>?_
   have B8:=aa B7 hb8 B7.size
   refine⟨_,ec.load0 h8 (OpR.len hok),?_⟩
   refine aw (lX hok w8 (he.step B8)) ?_
   rintro _ w9 ⟨rfl,hb9⟩
   rw[hm.1]
   refine⟨_,rfl,ab.no rfl ⟨out.length-(k+1),by omega,k+1,by omega,by rw[wrap_i64 (by simp at hlen;omega) (by simp at hlen;omega)];omega,rfl,?_⟩⟩
   have z7:=hb7.size
   exact aa (aa hb7 hb8 z7) hb9 (aa hb7 hb8 z7).size
 · refine⟨_,_,_,iu.load0 (h6.below hb7) rfl,_,Nw flt (0,0,0) w7,ab.of (λ_=>⟨rfl,B7⟩) (λc=>⟨?_,B7⟩)⟩
   rcases hnil with h|h
   · have h:flt=(0,0,0):=h
     subst h;cases c
   · have h:out=[]:=h
     subst h;rfl
theorem Uv {w:World}{A:Bl}{a b c d e:List UInt8} :gh tS w A [vS a,vS b,vS c,vS d,vS e] [a,b,c,d,e]:=
 ((((gh.one (eN trivial)).append (gh.one (eN trivial))).append (gh.one (eN trivial))).append (gh.one (eN trivial))).append (gh.one (eN trivial))
theorem J8 {u:Url}(h:fm u=true):gr u=eT u:=by unfold gr;rw[if_pos h]
theorem DM {o:OpR}(k:o.ok)(hr:cP o=true):MF o:=by
 intro w he
 have h1N:=((ls k.fit).1 hr).1
 unfold cX at h1N
 apply BR
 intro k1 w1 hk1 hw1
 have hB1:bW w w1:=hw1▸ai w _
 have h1:ao w1 k1 ak o.cells:=ao.new hk1 hw1
 refine⟨rfl,_,h1.load1 bG rfl (i:=0) rfl,ab.of (λc1=>?_) (λc1=>?_)⟩
 · have c1:o.kind=1:=by simpa using c1
   rw[if_pos c1]at h1N
   have hun:=k.un
   have hup:=k.up
   have htx:=k.tx
   refine⟨rfl,rfl,_,λu hu=>gP.load (h1.below hu) (i:=1) (us:=o.url.cells) (Url.len k.uo) (λj hj=>En k hj),_,λu hu=>cw (J9 k.uo (by omega) (by omega) u (he.step (aa hB1 hu hB1.size))) (Below.refl _ _),
     _,λu hu=>(h1.below hu).load1 av rfl (FQ k),_,λu hu=>cw (pi o.text (by omega) u) (Below.refl _ _),λk14 hk14 wq hwq hh=>?_⟩
   rw[J8 h1N]at hh
   refine⟨_,_,_,[xX,eT o.url,j8 o.text],rfl,Ow.heapF (dN _) hh Gx (by simp[maxLen]),by simp,aa hB1 hwq hB1.size,?_⟩
   unfold fQ;rw[if_pos c1]
   simp[Lib.join_cons,Lib.joinTail]
 have c1:o.kind≠1:=by simpa using c1
 rw[if_neg c1]at h1N
 refine ab.of (λc2=>?_) (λc2=>?_)
 · have c2:o.kind=2:=by simpa using c2
   obtain⟨g1,g2,g3,g4⟩:=OM k hr c2
   refine aw (jD w1) ?_
   rintro _ w2 ⟨a2,rfl,o2,f2,hb2⟩
   have hB2:=aa hB1 hb2 hB1.size
   have h2:=h1.below hb2
   refine⟨_,_,_,rfl,⟨⟨by decide,by decide⟩,o2.all.isSome (i:=0) (by decide)⟩,_,Sl.str (i:=0) o2.all rfl,?_⟩
   refine⟨λx wj=>x=fN o.req.sec/\bW w1 wj,⟨rfl,rfl,_,h2.load1 ci rfl (pJ k (j:=0) (by decide)),ab.of (λc=>?_) (λc=>?_)⟩,λs3=>aJ.of ?_ _⟩
   · refine aw (jD w2) ?_
     rintro _ w3 ⟨a3,rfl,o3,f3,hb3⟩
     exact⟨_,_,_,rfl,⟨⟨by decide,by decide⟩,o3.all.isSome (i:=1) (by decide)⟩,_,Sl.str (i:=1) o3.all rfl,by rw[c];rfl,aa hb2 hb3 hb2.size⟩
   · exact⟨by rw[c];rfl,hb2⟩
   rintro wj ⟨rfl,hbj⟩
   have hBj:=aa hB1 hbj hB1.size
   have hj:=h1.below hbj
   have hrn:=k.rn
   refine⟨rfl,rfl,rfl,rfl,rfl,rfl,_,λu hu=>aP.load (hj.below hu) (i:=24) (us:=o.req.host.cells) (Hst.len k.ro) (λj hj=>by rw[show 24+j=23+(1+j) by omega,pJ k (by omega)];exact vM k.ro hj),
     _,λu hu=>cw (jS k.ro u (he.step (aa hBj hu hBj.size))) (Below.refl _ _),_,λu hu=>(hj.below hu).load1 av rfl (by rw[show 42=23+19 from rfl,pJ k (by decide)];exact A8 k.ro),
     _,λu hu=>(hj.below hu).load1 bG rfl (by rw[show 43=23+20 from rfl,pJ k (by decide)];exact jj k.ro 1),
     λa n c u=>n=3/\Sl tS u zW a n c Pf,λa n c x y h hb=>⟨h.1,h.2.below hb⟩,λu hu=>?_,λa n c=>⟨λu hu h=>?_,gY o.req.cross,λu hu h=>Sl.str h.2 (K9 g3 g4),λk40 hk40 wq hwq hh _=>?_⟩⟩
   · refine(nR u).mono ?_
     rintro _ w5 ⟨_,rfl,a5,rfl,o5,f5,hb5⟩
     exact⟨_,_,_,rfl,⟨rfl,o5.all⟩,hb5⟩
   · obtain⟨rfl,h⟩:=h
     exact⟨⟨g3,by omega⟩,h.isSome (i:=0) (by decide)⟩
   · refine⟨_,_,_,[sA,fN o.req.sec,cD o.req.host,o.req.path,gY o.req.cross],rfl,Ow.heapF (dN _) hh Uv (by simp[maxLen]),by simp,aa hBj hwq hBj.size,?_⟩
     unfold fQ;rw[if_neg c1,if_pos c2]
     simp[Lib.join_cons,Lib.joinTail]
 have c2:o.kind≠2:=by simpa using c2
 rw[if_neg c2]at h1N
 refine ab.of (λc3=>?_) (λc3=>?_)
 · have c3:o.kind=3:=by simpa using c3
   rw[if_pos c3,Bool.and_eq_true,dTx,dTx]at h1N
   refine⟨rfl,_,h1.load1 bP rfl (PI k),?_⟩
   refine aw (AF o.n (by omega) (by omega) w1 (he.step hB1).tab) ?_
   rintro _ w2 ⟨rfl,hb2⟩
   have hB2:=aa hB1 hb2 hB1.size
   have hd:Lib.itoa o.n=mA o.n.toNat:=by rw[<- FE,Int.toNat_of_nonneg h1N.1]
   refine⟨_,rfl,λk3 w3 hk3 hw3=>?_⟩
   rw[hd]at hw3
   have hb3:bW w2 w3:=hw3▸ai w2 _
   refine⟨_,_,_,[mv,mA o.n.toNat],rfl,Ow.newF (dN _) hk3 hw3 UV (by simp[maxLen]),by simp,aa hB2 hb3 hB2.size,?_⟩
   unfold fQ;rw[if_neg c1,if_neg c2,if_pos c3]
   simp[Lib.join_cons,Lib.joinTail]
 · have c3:o.kind≠3:=by simpa using c3
   intro k3 w3 hk3 hw3
   have hb3:bW w1 w3:=hw3▸ai w1 _
   refine⟨_,_,_,[jM],rfl,Ow.newF (dN _) hk3 hw3 (gh.one (eN trivial)) (by decide),by decide,aa hB1 hb3 hB1.size,?_⟩
   unfold fQ;rw[if_neg c1,if_neg c2,if_neg c3]
   exact Lib.join_one _ _
theorem ET {B:Bl}{a1:Option Addr}{l1 c1:Nat}{os:List OpR}{w:World}(he:Env w)(ho:Sl tOp w B a1 l1 c1 os)(hol:os.length <=9223372036854775807)(s:List UInt8):
   Cf i6 #[.slice a1 l1 c1,vS s] w (Ret (U3 w)):=ur DM he ho hol s
section
open Go.ChangeShapes Go.WideShapes
theorem vk {H:Type}{enc:TypeId×Value->H}{P:Program}{w:World}{fuel:Nat}{t:TypeId}{fs:Array Field}{cs:List Value}{x:DataW H×List MemPlace}(ht:P.underlying t=some (.struct fs))
   (h:DataW.trod enc P w 0 (λ_=>true) true fuel t cs=some x):
   ∃n,cs.length=P.cellsOf t/\∀(i:Nat) (u:TypeId) (o k:Nat),(∃f:Field,fs[i]? =some f/\f.type=u/\f.offset=o)->P.cellsOf u=k->∃y,DataW.trod enc P w 0 (λ_=>true) true n u ((cs.drop o).take k)=some y:=by
 obtain⟨xs,n,_,_,hl,hlen,hf⟩:=DataW.trod_struct ht h
 refine⟨n,hl,?_⟩
 rintro i _ _ _ ⟨f,hi,rfl,rfl⟩ rfl
 have hlt:i<xs.length:=by rw[hlen];exact(Array.getElem?_eq_some_iff.1 hi).1
 exact⟨xs[i],by rw[hf i f hi,List.getElem?_eq_getElem hlt]⟩
theorem kf {α:Type}(cs:List α)(a b:Nat):cs.drop a=(cs.drop a).take b++cs.drop (a+b):=by
 rw[<- List.drop_drop,List.take_append_drop]
theorem Gr {α:Type}(cs:List α)(n:Nat)(h:cs.length=n):cs.drop n=[]:=List.drop_of_length_le (by omega)
theorem TR {n:Int}(h:(Lit.int .u8 n).wf=true):∃c:UInt8,n=((c.toNat:Nat):Int):=by
 have:=bounds_u8 h
 refine⟨UInt8.ofNat n.toNat,?_⟩
 rw[UInt8.toNat_ofNat',Nat.mod_eq_of_lt (by omega)];omega
theorem MI:∀{zs:List Int},(∀n∈zs,(Lit.int .u8 n).wf=true)->∃a:List UInt8,a.length=zs.length/\(zs.map λn=>Value.int .u8 n)=adC a
 | [],_=>⟨[],rfl,rfl⟩
 | z::zs,h=>by
   obtain⟨c,rfl⟩:=TR (h z (List.mem_cons_self ..))
   obtain⟨a,ha,hb⟩:=MI (zs:=zs) λn hn=>h n (List.mem_cons_of_mem _ hn)
   exact⟨c::a,by rw[List.length_cons,List.length_cons,ha],by rw[List.map_cons,hb];rfl⟩
end
section
open Go.ChangeShapes Go.WideShapes
theorem Ep {H:Type}{enc:TypeId×Value->H}{w:World}{fuel:Nat}{cs:List Value}{x:DataW H×List MemPlace}(h:DataW.trod enc prog w 0 (λ_=>true) true fuel ae cs=some x):∃u:Hst,u.ok/\cs=u.cells:=by
 obtain⟨n,hl,hf⟩:=vk Tryz.underlying45 h
 have hl18:cs.length=18:=hl.trans (by kernel_rfl)
 obtain⟨y0,h0⟩:=hf 0 bh 0 1 ⟨_,rfl,rfl,rfl⟩ (by kernel_rfl)
 obtain⟨y1,h1⟩:=hf 1 ah 1 1 ⟨_,rfl,rfl,rfl⟩ (by kernel_rfl)
 obtain⟨y2,h2⟩:=hf 2 43 2 16 ⟨_,rfl,rfl,rfl⟩ (by kernel_rfl)
 obtain⟨k,e0,_⟩:=nM bG H enc w n _ _ h0
 obtain⟨s,e1,_⟩:=vE av H enc w n _ _ h1
 obtain⟨zs,hz,hr⟩:=Om Tryz.underlying43 (nM bS) (by kernel_rfl) (by kernel_rfl) h2
 have e2:=jr hr
 obtain⟨a,ha,hb⟩:=MI (Lk hr)
 refine⟨⟨k,s,a⟩,ha.trans hz,?_⟩
 have s0:=kf cs 0 1
 have s1:=kf cs 1 1
 have s2:=kf cs 2 16
 rw[e0]at s0
 rw[e1]at s1
 rw[e2,hb,Gr cs (2+16) hl18,List.append_nil]at s2
 rw[List.drop_zero]at s0
 rw[s0,s1,s2];rfl
theorem Oq {H:Type}{enc:TypeId×Value->H}{w:World}{fuel:Nat}{cs:List Value}{x:DataW H×List MemPlace}(h:DataW.trod enc prog w 0 (λ_=>true) true fuel ay cs=some x):∃u:Url,u.ok/\cs=u.cells:=by
 obtain⟨n,hl,hf⟩:=vk Tryz.underlying47 h
 have hl21:cs.length=21:=hl.trans (by kernel_rfl)
 obtain⟨y0,h0⟩:=hf 0 bV 0 1 ⟨_,rfl,rfl,rfl⟩ (by kernel_rfl)
 obtain⟨y1,h1⟩:=hf 1 ae 1 18 ⟨_,rfl,rfl,rfl⟩ (by kernel_rfl)
 obtain⟨y2,h2⟩:=hf 2 bh 19 1 ⟨_,rfl,rfl,rfl⟩ (by kernel_rfl)
 obtain⟨y3,h3⟩:=hf 3 ah 20 1 ⟨_,rfl,rfl,rfl⟩ (by kernel_rfl)
 obtain⟨b,e0,_⟩:=Eo ci H enc w n _ _ h0
 obtain⟨g,hg,e1⟩:=Ep h1
 obtain⟨p,e2,_⟩:=nM bG H enc w n _ _ h2
 obtain⟨s,e3,_⟩:=vE av H enc w n _ _ h3
 refine⟨⟨b,g,p,s⟩,hg,?_⟩
 have s0:=kf cs 0 1
 have s1:=kf cs 1 18
 have s2:=kf cs 19 1
 have s3:=kf cs 20 1
 rw[e0]at s0
 rw[e1]at s1
 rw[e2]at s2
 rw[e3,Gr cs (20+1) hl21,List.append_nil]at s3
 rw[List.drop_zero]at s0
 rw[s0,s1,s2,s3];rfl
end
section
open Go.ChangeShapes Go.WideShapes
theorem Oo {H:Type}{enc:TypeId×Value->H}{w:World}{fuel:Nat}{cs:List Value}{x:DataW H×List MemPlace}(h:DataW.trod enc prog w 0 (λ_=>true) true fuel aN cs=some x):∃r:Req,r.ok/\cs=r.cells:=by
 obtain⟨n,hl,hf⟩:=vk Tryz.underlying49 h
 have hl21:cs.length=21:=hl.trans (by kernel_rfl)
 obtain⟨y0,h0⟩:=hf 0 bV 0 1 ⟨_,rfl,rfl,rfl⟩ (by kernel_rfl)
 obtain⟨y1,h1⟩:=hf 1 ae 1 18 ⟨_,rfl,rfl,rfl⟩ (by kernel_rfl)
 obtain⟨y2,h2⟩:=hf 2 ah 19 1 ⟨_,rfl,rfl,rfl⟩ (by kernel_rfl)
 obtain⟨y3,h3⟩:=hf 3 bh 20 1 ⟨_,rfl,rfl,rfl⟩ (by kernel_rfl)
 obtain⟨b,e0,_⟩:=Eo ci H enc w n _ _ h0
 obtain⟨g,hg,e1⟩:=Ep h1
 obtain⟨s,e2,_⟩:=vE av H enc w n _ _ h2
 obtain⟨p,e3,_⟩:=nM bG H enc w n _ _ h3
 refine⟨⟨b,g,s,p⟩,hg,?_⟩
 have s0:=kf cs 0 1
 have s1:=kf cs 1 18
 have s2:=kf cs 19 1
 have s3:=kf cs 20 1
 rw[e0]at s0
 rw[e1]at s1
 rw[e2]at s2
 rw[e3,Gr cs (20+1) hl21,List.append_nil]at s3
 rw[List.drop_zero]at s0
 rw[s0,s1,s2,s3];rfl
theorem QU {H:Type}{enc:TypeId×Value->H}{w:World}{fuel:Nat}{cs:List Value}{x:DataW H×List MemPlace}(h:DataW.trod enc prog w 0 (λ_=>true) true fuel ak cs=some x):∃o:OpR,OpW o/\cs=o.cells:=by
 obtain⟨n,hl,hf⟩:=vk Tryz.underlying51 h
 have hl45:cs.length=45:=hl.trans (by kernel_rfl)
 obtain⟨y0,h0⟩:=hf 0 bh 0 1 ⟨_,rfl,rfl,rfl⟩ (by kernel_rfl)
 obtain⟨y1,h1⟩:=hf 1 ay 1 21 ⟨_,rfl,rfl,rfl⟩ (by kernel_rfl)
 obtain⟨y2,h2⟩:=hf 2 ah 22 1 ⟨_,rfl,rfl,rfl⟩ (by kernel_rfl)
 obtain⟨y3,h3⟩:=hf 3 aN 23 21 ⟨_,rfl,rfl,rfl⟩ (by kernel_rfl)
 obtain⟨y4,h4⟩:=hf 4 bu 44 1 ⟨_,rfl,rfl,rfl⟩ (by kernel_rfl)
 obtain⟨k,e0,_⟩:=nM bG H enc w n _ _ h0
 obtain⟨u,hu,e1⟩:=Oq h1
 obtain⟨s,e2,_⟩:=vE av H enc w n _ _ h2
 obtain⟨r,hr,e3⟩:=Oo h3
 obtain⟨q,e4,b4⟩:=nM bP H enc w n _ _ h4
 refine⟨⟨k,u,s,r,q⟩,⟨hu,hr,(bounds_i64 b4).2⟩,?_⟩
 have s0:=kf cs 0 1
 have s1:=kf cs 1 21
 have s2:=kf cs 22 1
 have s3:=kf cs 23 21
 have s4:=kf cs 44 1
 rw[e0]at s0
 rw[e1]at s1
 rw[e2]at s2
 rw[e3]at s3
 rw[e4,Gr cs (44+1) hl45,List.append_nil]at s4
 rw[List.drop_zero]at s0
 rw[s0,s1,s2,s3,s4];rfl
theorem QV {H:Type}{enc:TypeId×Value->H}{w:World}{n b off:Nat}(m:Nat)
   (hx:∀i,i<m->∃cs,(∀j,j<45->w.cell? ⟨b,off+(i*45+j),none⟩=cs[j]?)/\∃y,DataW.trod enc prog w 0 (λ_=>true) true n ak cs=some y):
   ∃rs:List OpR,rs.length=m/\At tOp w zW b off rs:=by
 induction m with
 | zero=>exact⟨[],rfl,[],gh.nil _ _ _,λj hj=>by cases hj⟩
 | succ m ih=>
   obtain⟨rs,hl,l,hr,hc⟩:=ih λi hi=>hx i (by omega)
   obtain⟨cs,hcell,y,hy⟩:=hx m (by omega)
   obtain⟨r,hw,rfl⟩:=QU hy
   refine⟨rs++[r],by rw[List.length_append,hl];rfl,l++r.cells,hr.append (gh.one (T:=tOp) ⟨rfl,hw⟩),λj hj=>?_⟩
   have hll:l.length=m*45:=by rw[hr.len,hl];rfl
   rw[List.length_append,hll,OpW.len hw]at hj
   by_cases hlt:j<l.length
   · rw[List.getElem?_append_left hlt];exact hc j hlt
   · rw[List.getElem?_append_right (by omega),<- hcell (j-l.length) (by omega),hll,show off+(m*45+(j-m*45))=off+j by omega]
theorem On {H:Type}{enc:TypeId×Value->H}{w:World}{fuel:Nat}{v:Value}{x:DataW H×List MemPlace}(h:DataW.trod enc prog w 0 (λ_=>true) true fuel cE [v]=some x):
   ∃(a:Option Addr) (len cap:Nat) (rs:List OpR),v=.slice a len cap/\Sl tOp w zW a len cap rs/\rs.length <=9223372036854775807:=by
 rcases Go.Deep.open_slice rh h with⟨e,_⟩|⟨a,len,cap,m,n,D,Pl,e,_,hlc,hcm,hm,_,hx⟩
 · obtain rfl:v=_:=by injection e
   exact⟨none,0,0,[],rfl,Sl.nil _ _ _ _ _ (Nat.zero_le _),Nat.zero_le _⟩
 · obtain rfl:v=_:=by injection e
   have hmax:maxLen <=9223372036854775807:=by unfold maxLen;decide
   rw[if_pos rfl]at hm
   subst hm
   rw[show prog.cellsOf ak=45 by kernel_rfl]at hx
   by_cases h0:len=0
   · subst h0
     exact⟨_,_,_,[],rfl,⟨rfl,hlc,hcm,.inl rfl⟩,Nat.zero_le _⟩
   · obtain⟨b,off,spot⟩:=a
     obtain⟨c0,hc0,_⟩:=hx 0 (by omega)
     have hb:=World.cells?_block hc0 (by decide)
     obtain⟨_,hl0,hcc⟩:=World.cells?_some hc0
     have h00:=hcc 0 (by decide)
     rw[List.getElem?_eq_getElem (by omega)]at h00
     have hspot:spot=none:=by simpa[Addr.add]using World.cell?_spot h00
     subst hspot
     obtain⟨rs,hrl,hat⟩:=QV (b:=b) (off:=off) len λi hi=>by
       obtain⟨cs,hcs,hy⟩:=hx i (by omega)
       obtain⟨_,hl2,hce⟩:=World.cells?_some hcs
       refine⟨cs,λj hj=>?_,_,hy⟩
       rw[<- hce j hj,iT,iT,Nat.add_assoc]
     exact⟨_,_,_,rs,rfl,⟨hrl.symm,hlc,hcm,.inr ⟨b,off,rfl,(by rw[Nat.zero_mul,iT]at hb;exact hb),trivial,hat⟩⟩,by omega⟩
end
end Go.Pk
