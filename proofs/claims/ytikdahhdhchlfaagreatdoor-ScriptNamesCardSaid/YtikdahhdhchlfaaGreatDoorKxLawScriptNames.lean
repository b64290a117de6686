/- What the law alone leans on: Names, Shelf, V21, UrlX, UrlY, V25, V27, ShelfW, ScrL, Make, ScrM; what is used. Its conditions: none. -/
import Derived.Test.YtikdahhdhchlfaaGreatDoorKK
import Derived.Deep.OwnRows
open Go.IntKind (i64)
open Go.Proofs.Tryz
open List (length)
open Option (isSome)
namespace Go.Pk
open Go.RowKit (Below)
open Go.Proofs
abbrev jL:Nat:=6
abbrev fC:Nat:=17
abbrev iZ:Nat:=36
abbrev ju:Nat:=38
abbrev nM:Nat:=39
abbrev lq:Nat:=40
abbrev GT:Nat:=89
abbrev ic:Nat:=86
end Go.Pk
namespace Go.Proofs
open Go.Pk (Cf vS vI bW)
open Go.Shelf
def Tryz.lays170_ren:Go.Shelf.Ren:=⟨fun|170=>39|n=>n,fun|70=>83|3=>3|0=>0|72=>86|37=>84|5=>5|n=>n,fun|n=>n⟩
theorem Tryz.lays170:Go.Proofs.Lays.n170 prog Tryz.lays170_ren:=by constructor <;> intros <;> kernel_rfl
open Go.RowKit in
theorem Tryz.Builder_Len (B b:Nat)(bs:List Value)(w:World)(h:Lib.IsBuilder 86 5 B b bs w):
   Cf 39 #[.pointer (some ⟨b,0,none⟩)] w λe w'=>e=.returned (vI bs.length)/\w'=w:=Any.Builder_Len Tryz.lays170 B b bs w h
def Tryz.lays169_ren:Go.Shelf.Ren:=⟨fun|169=>40|n=>n,fun|70=>83|9=>9|0=>0|72=>86|37=>84|127=>168|3=>3|5=>5|n=>n,fun|n=>n⟩
theorem Tryz.lays169:Go.Proofs.Lays.n169 prog Tryz.lays169_ren:=by constructor <;> intros <;> kernel_rfl
theorem Tryz.Builder_Extra_169:Builder.Extra prog Tryz.lays169_ren:= {
 sizeBuilder:=by kernel_rfl
 liesBuilder:=by kernel_rfl
 t5:=Tryz.underlying5
 a5:=Tryz.isAgg5
 z5:=Tryz.sizeOf5
 v5:=Tryz.zeroValue5
 infoByte:=by kernel_rfl
 cellsByte:=by kernel_rfl
 sizeByte:=by kernel_rfl
 neB5:=by decide }
open Go.RowKit in
theorem Tryz.Builder_String_any (B b:Nat)(l:List UInt8)(w:World)(h:Lib.IsBuilder 86 5 B b (Lib.byteCells l) w)(hBw:B <=w.heap.size):
   Cf 40 #[.pointer (some ⟨b,0,none⟩)] w λe w'=>e=.returned (.string ⟨l.toArray⟩)/\Below B w w':=Any.Builder_String_any Tryz.lays169 Tryz.Builder_Extra_169 B b l w h hBw
end Go.Proofs
namespace Go.Pk
open Go.RowKit (Below)
open Go.Proofs
set_option linter.unusedVariables false
set_option maxRecDepth 100000
theorem xW (a:Option Addr)(b c:Nat){w K}(h:nA w (.cells #[.pointer none,.slice none 0 0] ic) λd e=>∃f:Nat->FP [.one (.int .i64)],(∃g,f g (0:Int) e)/\∀g i,aX 15 (∀j,f g i j->ab (decide (i<((b:Nat):Int))) ((bx i ((b:Nat):Int)/\Option.isSome a=true)/\∃k,Ld ao (an a i 45) j k/\nA j (.cells cA ao) λl m=>∃n,Sv ao (vA l 0) k m n/\∃o,Ld ao (vA l 0) n o/\uB iz #[o] n λp q=>ab (!p) (K (.tuple #[vS [],vI 131]) q) (∃r,Ld ao (vA l 0) q r/\uL ju #[r] q λs t u v=>uS cj #[.slice s t u,vS [32]] v λx y=>(((List.length x+List.length [10]:Nat):Int) <=i64.max)/\∀z,z=(x++[10])->Cf iZ #[.pointer (vA d 0),vS z] y λA B=>∃C D,A=rT #[vI C,D]/\∃E:Nat,E<g/\f E (i64.wrap (i+(1:Int))) B)) (ab (decide (((b:Nat):Int)>(200:Int))) (K (.tuple #[vS [],vI 53]) j) (uI nM #[.pointer (vA d 0)] j λk l=>ab (decide (k>(20000:Int))) (K (.tuple #[vS [],vI 54]) l) (uS lq #[.pointer (vA d 0)] l λm n=>K (.tuple #[vS m,vI 0]) n))))):Cf fC #[.slice a b c] w (Ret K):=ru func17 [(8,[(9,.one (.int .i64))])] h
set_option linter.unusedSimpArgs false
def QA (sec:Bool)(n:Int):List UInt8:=if n=(if sec then 443 else 80)then[]else 58::HQ n.toNat
set_option maxRecDepth 20000
def vR (u:Url):List UInt8:=(if u.sec then[104,116,116,112,115,58,47,47]else[104,116,116,112,58,47,47])++(mr u.host++(QA u.sec u.port++u.path))
set_option maxRecDepth 100000
theorem xX (a:Value){w K}(h:nA w (.cells (Value.cells a) ao) λb c=>true/\∃d,Ld bp (vA b 0) c (vI d)/\ab (d==(1:Int)) (true/\true/\∃e,(∀f,bW c f->Ld ba (vA b 1) f e)/\∃f,(∀g,bW c g->Cf GT #[e] g λi j=>i=.returned (vS f)/\bW g j)/\∃g,(∀i,bW c i->Ld ah (vA b 22) i (vS g))/\∃i,(∀j,bW c j->Cf iI #[vS g] j λk l=>k=.returned (vS i)/\bW j l)/\∀j,c.heap.size <=j->∀k,bW c k->k.heap[j]? =some (.cells #[vS [115,101,116],vS f,vS i] ah)->K (.slice (vA j 0) 3 3) k) (ab (d==(2:Int)) (uL bV #[] c λe f g i=>(bx (0:Int) ((f:Nat):Int)/\Option.isSome e=true)/\∃j,Ld ah (an e (0:Int) 1) i (vS j)/\∃k:FP [.one .str],(true/\true/\∃l,Ld bX (vA b 23) i (.bool l)/\ab l (uL bV #[] i λm n o p=>(bx (1:Int) ((n:Nat):Int)/\Option.isSome m=true)/\∃q,Ld ah (an m (1:Int) 1) p (vS q)/\k q p) (k j i))/\∀l,aX 6 (∀m,k l m->true/\true/\∃n,(∀o,bW m o->Ld ae (vA b 24) o n)/\∃o,(∀p,bW m p->Cf ig #[n] p λq r=>q=.returned (vS o)/\Below m.heap.size p r)/\true/\true/\∃p,(∀q,bW m q->Ld ah (vA b 42) q (vS p))/\∃q r s,(∀t,bW m t->Cf bl #[] t λu v=>u=.returned (.slice q r s)/\Below m.heap.size t v)/\true/\true/\∃t,(∀u,bW m u->Ld bp (vA b 43) u (vI t))/\(bx t ((r:Nat):Int)/\Option.isSome q=true)/\∃u,(∀v,bW m v->Ld ah (an q t 1) v (vS u))/\∀v,bW m v->nA v (.cells #[vS [103,101,116],vS l,vS o,vS p,vS u] ah) λx y=>K (.slice (vA x 0) 5 5) y)) (ab (d==(3:Int)) (true/\∃e,Ld bu (vA b 44) c (vI e)/\uS cV #[vI e,vI 10] c λf g=>nA g (.cells #[vS [116,105,99,107],vS f] ah) λi j=>K (.slice (vA i 0) 2 2) j) (nA c (.cells #[vS [99,108,101,97,114]] ah) λe f=>K (.slice (vA e 0) 1 1) f)))):Cf ju #[a] w (Ret K):=ru func38 [(3000010,[(0,.one .bool),(3,.one .bool),(1,.one .bool),(2,.one .bool),(4,.one .bool),(5,.one .bool),(6,.one .bool),(7,.one .bool)]),(17,[(3,.one .str)]),(2000024,[(14,.one .bool)])] h
theorem ov {w K}(h:∃a b c d,(Instr.buildSlice aK 1 #[(0,.agg #[vI 5,.bool false,vI 0,vS [],.int .u8 0,.int .u8 0,.int .u8 0,.int .u8 0,.int .u8 0,.int .u8 0,.int .u8 0,.int .u8 0,.int .u8 0,.int .u8 0,.int .u8 0,.int .u8 0,.int .u8 0,.int .u8 0,.int .u8 0,.int .u8 0,vI 0,vS [],vS [],.bool false,vI 0,vS [],.int .u8 0,.int .u8 0,.int .u8 0,.int .u8 0,.int .u8 0,.int .u8 0,.int .u8 0,.int .u8 0,.int .u8 0,.int .u8 0,.int .u8 0,.int .u8 0,.int .u8 0,.int .u8 0,.int .u8 0,.int .u8 0,vS [],vI 0,vI 0])]).run prog w=.ok (.slice b c d) a/\Cf fC #[.slice b c d] a λe f=>∃g i,e=rT #[vS g,vI i]/\Cf fV #[vS [99,108,101,97,114,10,99,108,101,97,114,32,10]] f λj k=>∃l m n o p q,j=rT #[.slice l m n,.agg #[vI o,vI p,vI q]]/\nA k (.cells #[vI 0,vI 0,vI 0] aP) λr s=>∃t,Sv aP (vA r 0) (.agg #[vI o,vI p,vI q]) s t/\∃u v x y,(Instr.makeSlice aK (vI 201) (vI 201)).run prog t=.ok (.slice v x y) u/\∃z:Nat->FP [.one .str,.one (.int .i64)],(∃A,z A [] (0:Int) u)/\∀A B C,aX 10 (∀D,z A B C D->ab (decide (C<((x:Nat):Int))) ((bx C ((x:Nat):Int)/\Option.isSome v=true)/\∃E,Sv ao (an v C 45) (.agg #[vI 4,.bool false,vI 0,vS [],.int .u8 0,.int .u8 0,.int .u8 0,.int .u8 0,.int .u8 0,.int .u8 0,.int .u8 0,.int .u8 0,.int .u8 0,.int .u8 0,.int .u8 0,.int .u8 0,.int .u8 0,.int .u8 0,.int .u8 0,.int .u8 0,vI 0,vS [],vS [],.bool false,vI 0,vS [],.int .u8 0,.int .u8 0,.int .u8 0,.int .u8 0,.int .u8 0,.int .u8 0,.int .u8 0,.int .u8 0,.int .u8 0,.int .u8 0,.int .u8 0,.int .u8 0,.int .u8 0,.int .u8 0,.int .u8 0,.int .u8 0,vS [],vI 0,vI 0]) D E/\(((List.length B+List.length [99,108,101,97,114,10]:Nat):Int) <=i64.max)/\∀F,F=(B++[99,108,101,97,114,10])->∃G:Nat,G<A/\z G F (i64.wrap (C+(1:Int))) E) (Cf fC #[.slice v x y] D λE F=>∃G H,E=rT #[vS G,vI H]/\Cf fV #[vS B] F λI J=>∃L M N O P Q,I=rT #[.slice L M N,.agg #[vI O,vI P,vI Q]]/\nA J (.cells #[vI 0,vI 0,vI 0] aP) λR S=>∃T,Sv aP (vA R 0) (.agg #[vI O,vI P,vI Q]) S T/\bd (200:Int) ((y:Nat):Int)/\Cf fC #[.slice v (Int.toNat 200) y] T λU V=>∃X Y,U=rT #[vS X,vI Y]/\uB eL #[] V λZ ac=>ab (cond (cond Z true false) true false) (ab (i==(131:Int)) (∃ad ag aj,Ld aP (vA r 0) ac (.agg #[vI ad,vI ag,vI aj])/\∃al,(do eqGuard .eql aP (.tmp 63) (.tmp 64) (.agg #[vI ad,vI ag,vI aj]) (.agg #[vI 131,vI 2,vI 1]);binOp .eql aP (.agg #[vI ad,vI ag,vI aj]) (.agg #[vI 131,vI 2,vI 1]):Sem Value).run prog ac=.ok (.bool al) ac/\ab al (ab (H==(53:Int)) (∃bb bc bk,Ld aP (vA R 0) ac (.agg #[vI bb,vI bc,vI bk])/\∃bo,(do eqGuard .eql aP (.tmp 72) (.tmp 73) (.agg #[vI bb,vI bc,vI bk]) (.agg #[vI 53,vI 201,vI 1]);binOp .eql aP (.agg #[vI bb,vI bc,vI bk]) (.agg #[vI 53,vI 201,vI 1]):Sem Value).run prog ac=.ok (.bool bo) ac/\ab bo (ab (Y==(0:Int)) (bd (1200:Int) (((List.length B):Nat):Int)/\∀bq,bq=(List.take (Int.toNat 1200) B)->K (.bool (X==bq)) ac) (K (.bool false) ac)) (K (.bool false) ac)) (K (.bool false) ac)) (K (.bool false) ac)) (K (.bool false) ac)) (K (.bool false) ac)))):Cf jL #[] w (Ret K):=ru func6 [(14,[(6,.one .str),(27,.one (.int .i64))])] h
end Go.Pk
namespace Go.Proofs
open Go.Pk (Cf vS vI bW)
open Go.Shelf
def Tryz.lays166_ren:Go.Shelf.Ren:=⟨fun|166=>36|240=>87|276=>169|n=>n,fun|0=>0|3=>3|4=>4|9=>9|20=>20|37=>84|70=>83|72=>86|75=>88|80=>94|164=>233|5=>5|n=>n,fun|n=>n⟩
theorem Tryz.lays166:Go.Proofs.Lays.n166 prog Tryz.lays166_ren:=by constructor <;> intros <;> kernel_rfl
theorem Tryz.Builder_Extra_166:Builder.Extra prog Tryz.lays166_ren:= {
 sizeBuilder:=by kernel_rfl
 liesBuilder:=by kernel_rfl
 t5:=Tryz.underlying5
 a5:=Tryz.isAgg5
 z5:=Tryz.sizeOf5
 v5:=Tryz.zeroValue5
 infoByte:=by kernel_rfl
 cellsByte:=by kernel_rfl
 sizeByte:=by kernel_rfl
 neB5:=by decide }
open Go.RowKit in
theorem Tryz.Builder_WriteString (B b:Nat)(bs:List Value)(s:ByteArray)(w:World)(h:Lib.IsBuilder 86 5 B b bs w)(hlen:bs.length+s.size <=140737488355328)(hBw:B <=w.heap.size):
   Cf 36 #[.pointer (some ⟨b,0,none⟩),.string s] w λe w'=>e=.returned (.tuple #[vI s.size,.nilIface])/\(Lib.BuilderAt 86 5 B b (.pointer (some ⟨b,0,none⟩)) (bs++Lib.strCells s) w'/\Below B w w'):=Any.Builder_WriteString Tryz.lays166 Tryz.Builder_Extra_166 B b bs s w h hlen hBw
end Go.Proofs
namespace Go.Pk
open Go.RowKit (Below)
open Go.Proofs
set_option maxRecDepth 20000
theorem jo {T e:TypeId}{B b:Nat}{bs:List Value}{w w':World}(h:Lib.IsBuilder T e B b bs w)(hb:bW w w'):Lib.IsBuilder T e B b bs w':=by
 have one:∀{p:Value},Lib.BuilderAt T e B b p bs w->Lib.BuilderAt T e B b p bs w':=by
   rintro p ⟨h1,v,h2,h3,h4⟩
   refine⟨h1,v,?_,⟨h3.1,?_⟩,h4⟩
   · rw[hb.block _ (Array.getElem?_eq_some_iff.1 h2).1];exact h2
   · rcases h3.2 with h|⟨g,cap,cur,e1,e2,e3,e4⟩
     · exact .inl h
     · exact .inr ⟨g,cap,cur,e1,e2,by rw[hb.block _ (Array.getElem?_eq_some_iff.1 e3).1];exact e3,e4⟩
 exact h.elim (λh=>.inl (one h)) λh=>.inr (one h)
theorem Ec {T e:TypeId}{w w':World}{b:Nat}(hb:b=w.heap.size)(hw:w'=w.alloc (.cells #[.pointer none,.slice none 0 0] T)):Lib.IsBuilder T e w.heap.size b [] w':=by
 refine .inl ⟨by omega,.slice none 0 0,?_,⟨rfl,.inl ⟨rfl,rfl⟩⟩,λh=>by cases h⟩
 subst hb hw;exact heap_alloc_new w _
def fy:List OpR->List UInt8
 | []=>[]
 | o::l=>tv vR o++10::fy l
theorem xm:∀(l:List OpR) (o:OpR),fy (l++[o])=fy l++(tv vR o++[10])
 | [],o=>by simp[fy]
 | p::l,o=>by rw[List.cons_append,fy,xm l o,fy];simp
theorem z7 {B:Nat} :∀l:List OpR,(∀o∈l,(tv vR o).length <=B)->(fy l).length <=l.length*(B+1)
 | [],_=>Nat.zero_le _
 | o::l,h=>by
   have h1:=z7 l λx hx=>h x (List.mem_cons_of_mem _ hx)
   have h2:=h o List.mem_cons_self
   rw[fy,List.length_append,List.length_cons,List.length_cons,Nat.add_mul,Nat.one_mul];omega
def oG (os:List OpR):List UInt8×Int:=if os.all eG=true then(if 200<os.length then([],53)else if 20000<(fy os).length then([],54)else(fy os,0))else([],131)
theorem Kv {os:List OpR}{o:OpR}(h:o∈os)(hr:eG o=false):oG os=([],131):=by
 unfold oG
 rw[if_neg]
 intro e
 rw[List.all_eq_true.1 e o h]at hr;cases hr
def OR (o:OpR):Prop:=∀w:World,Env w->Cf ju #[o.v] w (Ret λv w'=>∃a n c xs,v=.slice a n c/\Ow tS ah w' NoB a n c xs/\xs.length <=10/\bW w w'/\Lib.join xs [32]=tv vR o)
theorem pY {A:Bl}{a:Option Addr}{l c:Nat}{os:List OpR}{w:World}(he:Env w)(ho:Sl tOp w A a l c os)(hl:os.length <=1000000)(hok:∀o∈os,o.ok)(hln:∀o∈os,eG o=true->OR o/\(tv vR o).length <=20000000):
   Cf fC #[.slice a l c] w (Ret λv w'=>v=.tuple #[.string (mkS (oG os).1),vI (oG os).2]/\bW w w'):=by
 apply xW
 have hn:=ho.len
 subst hn
 intro k4 w4 hk4 hw4
 have hB4:bW w w4:=hw4▸ai w _
 have b4:Lib.IsBuilder ic bI w.heap.size k4 [] w4:=Ec hk4 hw4
 refine⟨λm i w'=>∃k:Nat,k <=os.length/\i=(k:Int)/\m=os.length-k/\(∀o∈os.take k,eG o=true)/\Lib.IsBuilder ic bI w.heap.size k4 (Lib.byteCells (fy (os.take k))) w'/\bW w w',⟨_,0,Nat.zero_le _,rfl,rfl,(λx hx=>by rw[List.take_zero]at hx;cases hx),b4,hB4⟩,λm i=>aX.of ?_ _⟩
 rintro w5 ⟨k,hk,rfl,rfl,hr,b5,hB5⟩
 refine ab.of (λhi=>?_) (λhi=>?_) <;> simp only[dTx,dFx]at hi
 · have hlt:k<os.length:=by omega
   have hsl:=ho.below hB5
   obtain⟨hld,W⟩:=tA gX hsl hlt
   have hwk:i64.wrap ((k:Int)+1)=((k+1:Nat):Int):=by rw[wrap_i64 (by omega) (by omega)];omega
   have htk:os.take (k+1)=os.take k++[os[k]]:=List.take_succ_eq_append_getElem hlt
   have hmem:os[k]∈os:=List.getElem_mem hlt
   refine⟨⟨⟨by omega,hi⟩,hsl.isSome hlt⟩,_,hld,?_⟩
   rw[hwk]
   generalize os[k]=o at*
   have ok:=hok o hmem
   refine gX.new (zs:=yU.cells) (cs:=o.cells) eN (OpW.len W) (OpR.one _) w5 λk6 w6 hk6 h6 hb6=>?_
   have hB6:=aa hB5 hb6 hB5.size
   refine⟨_,gX.load0 h6 (OpW.len W),?_⟩
   refine ax (oD ok w6 (he.step hB6)) ?_
   rintro _ w7 ⟨rfl,hb7⟩
   have hB7:=aa hB6 hb7 hB6.size
   refine⟨_,rfl,ab.of (λc1=>?_) (λc1=>?_)⟩
   · rw[Kv hmem (by simpa using c1)]
     exact⟨rfl,hB7⟩
   · have c1:eG o=true:=by simpa using c1
     obtain⟨hL,hll⟩:=hln o hmem c1
     refine⟨_,gX.load0 (h6.below hb7) (OpW.len W),?_⟩
     refine ax (hL w7 (he.step hB7)) ?_
     rintro _ w8 ⟨a8,n8,c8,xs,rfl,o8,hx8,hb8,hj⟩
     have hB8:=aa hB7 hb8 hB7.size
     refine⟨_,_,_,rfl,?_⟩
     refine ax (tu o8.all [32] (by omega) (by rw[hj];omega)) ?_
     rintro _ w9 ⟨rfl,hb9⟩
     have hB9:=aa hB8 hb9 hB8.size
     rw[hj]
     refine⟨_,rfl,fits (by simp;omega),?_⟩
     rintro _ rfl
     have b9:=(((jo b5 hb6) |> (jo · hb7)) |> (jo · hb8)) |> (jo · hb9)
     have hlen:(fy (os.take k)).length <=1000000*20000001:=by
       have:=z7 (B:=20000000) (os.take k) λo h=>(hln o (List.mem_of_mem_take h) (hr o h)).2
       refine Nat.le_trans this (Nat.mul_le_mul ?_ (Nat.le_refl _))
       rw[List.length_take];omega
     refine(Tryz.Builder_WriteString w.heap.size k4 (Lib.byteCells (fy (os.take k))) (mkS (tv vR o++[10])) w9 b9 (by
       have e1:(Lib.byteCells (fy (os.take k))).length=(fy (os.take k)).length:=by simp[Lib.byteCells]
       have e2:(mkS (tv vR o++[10])).size=(tv vR o).length+1:=by show((tv vR o++[10]).toArray).size=_;simp
       rw[e1,e2];omega) hB9.size).mono ?_
     rintro _ w10 ⟨rfl,b10,hb10⟩
     refine⟨_,_,rfl,os.length-(k+1),by omega,k+1,by omega,rfl,rfl,?_,?_,hB9.trans hb10⟩
     · intro x hx
       rw[htk,List.mem_append]at hx
       rcases hx with hx|hx
       · exact hr x hx
       · rw[List.mem_singleton.1 hx];exact c1
     · rw[htk,xm]
       have e:Lib.byteCells (fy (os.take k)++(tv vR o++[10]))=Lib.byteCells (fy (os.take k))++Lib.strCells (mkS (tv vR o++[10])):=by
         unfold Lib.byteCells Lib.strCells
         rw[List.map_append];rfl
       rw[e];exact .inr b10
 · have:k=os.length:=by omega
   subst this
   rw[List.take_length]at hr b5
   have hall:os.all eG=true:=List.all_eq_true.2 hr
   have hT:oG os=if 200<os.length then([],53)else if 20000<(fy os).length then([],54)else(fy os,0):=by unfold oG;rw[if_pos hall]
   refine ab.of (λc1=>?_) (λc1=>?_) <;> simp only[gt_iff_lt,dTx,dFx]at c1
   · rw[hT,if_pos (by omega)];exact⟨rfl,hB5⟩
   · rw[if_neg (by omega)]at hT
     have e1:(Lib.byteCells (fy os)).length=(fy os).length:=by simp[Lib.byteCells]
     refine(Tryz.Builder_Len w.heap.size k4 _ w5 b5).mono ?_
     rintro _ _ ⟨rfl,rfl⟩
     rw[e1]
     refine⟨_,rfl,ab.of (λc2=>?_) (λc2=>?_)⟩ <;> simp only[gt_iff_lt,dTx,dFx]at c2
     · rw[hT,if_pos (by omega)];exact⟨rfl,hB5⟩
     · rw[if_neg (by omega)]at hT
       refine(Tryz.Builder_String_any w.heap.size k4 (fy os) _ b5 hB5.size).mono ?_
       rintro _ w6 ⟨rfl,hb6⟩
       rw[hT]
       exact⟨fy os,rfl,rfl,hB5.trans hb6⟩
theorem Bi (w:World):Cf ju #[di.v] w (Ret λv w'=>∃a n c xs,v=.slice a n c/\Ow tS ah w' NoB a n c xs/\xs.length <=10/\bW w w'/\Lib.join xs [32]=tv vR di):=by
 apply xX
 intro k1 w1 hk1 hw1
 have hB1:bW w w1:=hw1▸ai w _
 have h1:am w1 k1 ao di.cells:=am.new hk1 hw1
 refine⟨rfl,_,h1.load1 bT rfl (i:=0) rfl,ab.no rfl (ab.no rfl (ab.no rfl λk2 w2 hk2 hw2=>?_))⟩
 have hb2:bW w1 w2:=hw2▸ai w1 _
 exact⟨_,_,_,[tZ],rfl,Ow.newF (gM _) hk2 hw2 (fP.one (iu trivial)) (by decide),by decide,aa hB1 hb2 hB1.size,Lib.join_one _ _⟩
theorem Ob {α:Type}(x y:α)(n k:Nat)(h:k<n):(List.replicate k x++List.replicate (n-k) y).set k x=List.replicate (k+1) x++List.replicate (n-(k+1)) y:=by
 rw[List.set_append,if_neg (by simp),List.length_replicate,Nat.sub_self]
 obtain⟨m,hm⟩:∃m,n-k=m+1:=⟨n-k-1,by omega⟩
 rw[hm,List.replicate_succ,List.set_cons_zero,show n-(k+1)=m by omega]
 rw[List.replicate_succ',List.append_assoc];rfl
set_option linter.unusedSectionVars false
theorem JE {z:Array Value}{k n i:Nat}(hk:z.size=k)(hk0:0<k)(hi:i<n):(((madeCells z (n*k)).toList.drop (i*k)).take k)=z.toList:=by
 subst hk
 have hle:i*z.size+z.size <=n*z.size:=by
   have:=Nat.mul_le_mul_right z.size (show i+1 <=n from hi)
   rwa [Nat.add_mul,Nat.one_mul]at this
 apply List.ext_getElem
 · simp[madeCells];omega
 · intro j h1 h2
   have hj:j<z.size:=by simpa using h2
   simp only[List.getElem_take,List.getElem_drop,madeCells,Array.getElem_toList,Array.getElem_map,Array.getElem_range]
   rw[Nat.mul_comm i z.size,Nat.mul_add_mod,Nat.mod_eq_of_lt hj]
   exact getElem!_pos z j hj
theorem JF {α:Type}{T:Ty α}{z:Array Value}{x:α}{w:World}{A:Bl}(hz:z.size=T.k)(h:T.rep w A z.toList x)(n:Nat):fP T w A (madeCells z (n*T.k)).toList (List.replicate n x):=by
 refine⟨by simp[madeCells],λi hi=>?_⟩
 have hi':i<n:=by simpa using hi
 rw[JE hz T.pos hi',List.getElem_replicate];exact h
def Qk:List UInt8:=[99,108,101,97,114,10]
def rN:Nat->List UInt8
 | 0=>[]
 | n+1=>rN n++Qk
theorem tw:∀n,(rN n).length=n*6
 | 0=>rfl
 | n+1=>by rw[rN,List.length_append,tw n];show n*6+6=_;omega
def op5:OpR:=⟨5,li,[],qZ,0⟩
theorem Py:OpW op5:=⟨rfl,rfl,by decide⟩
theorem Pw:OpW yU:=⟨rfl,rfl,by decide⟩
theorem Np:OpW di:=⟨rfl,rfl,by decide⟩
theorem Px:op5.ok:=⟨rfl,rfl,by decide,by decide,by decide,by decide,by decide⟩
theorem nm5:eG op5=false:=by kernel_rfl
theorem Ps:oG [op5]=([],131):=by kernel_rfl
def QT:List UInt8:=[99,108,101,97,114,10,99,108,101,97,114,32,10]
theorem JP:pW dD QT=([],131,2,1):=by kernel_rfl
theorem EO:pW dD (rN 201)=([],53,201,1):=by kernel_rfl
theorem Hc:oG (List.replicate 201 di)=([],53):=by kernel_rfl
theorem Hb:oG (List.replicate 200 di)=(rN 200,0):=by kernel_rfl
theorem Pt:(rN 201).take 1200=rN 200:=by kernel_rfl
theorem Aj {A:Bl}{a:Option Addr}{l c n:Nat}{w:World}(he:Env w)(ho:Sl tOp w A a l c (List.replicate n di))(hl:n <=1000):
   Cf fC #[.slice a l c] w (Ret λv w'=>v=.tuple #[.string (mkS (oG (List.replicate n di)).1),vI (oG (List.replicate n di)).2]/\bW w w'):=
 have e:∀o∈List.replicate n di,o=di:=λo h=>(List.mem_replicate.1 h).2
 pY he ho (by rw[List.length_replicate];omega) (λo h=>(e o h).symm▸pd) (λo h _=>(e o h).symm▸⟨λw' _=>Bi w',of_decide_eq_true (by kernel_rfl)⟩)
theorem pC (w:World)(he:Env w):Cf jL #[] w (Ret (QN w)):=by
 apply ov
 refine⟨_,_,_,_,Jw Py w,?_⟩
 have hb1:bW w (w.alloc (.cells op5.cells.toArray ao)):=ai w _
 have o1:Ow tOp ao (w.alloc (.cells op5.cells.toArray ao)) NoB (some ⟨w.heap.size,0,none⟩) 1 1 [op5]:=Ow.newF qO (l:=op5.cells) rfl rfl (fP.one ⟨rfl,Py⟩) (show 1 <=maxLen by decide)
 generalize w.alloc (.cells op5.cells.toArray ao)=w1 at*
 refine ax (pY (he.step hb1) o1.all (by decide) (λo h=>by rw[List.mem_singleton.1 h];exact Px) (λo h hr=>by
   rw[List.mem_singleton.1 h]at hr
   rw[nm5]at hr;cases hr)) ?_
 rintro _ w2 ⟨rfl,hb2⟩
 rw[Ps]
 have B2:=aa hb1 hb2 hb1.size
 refine⟨_,_,rfl,?_⟩
 refine ax (j3 QT w2 (he.step B2)) ?_
 rintro _ w3 ⟨a3,n3,c3,rfl,-,-,hb3⟩
 rw[JP]
 have B3:=aa B2 hb3 B2.size
 refine⟨_,_,_,_,_,_,rfl,?_⟩
 refine kF.new (zs:=Ls (0,0,0)) (cs:=Ls (131,2,1)) rfl rfl (AY _) w3 λk4 w4 hk4 h4 hb4=>?_
 have B4:=aa B3 hb4 B3.size
 obtain⟨ti,hti,hsz,hbt,hzz⟩:=oH.info
 have hmk:=run_make (P:=prog) w4 aK ao ti _ ky hti hzz .i64 .i64 201 201 (by decide) (by decide) (by rw[hbt];decide) (by decide)
 refine⟨_,_,_,_,hmk,?_⟩
 rw[hsz]
 have hb5:bW w4 (w4.alloc (.cells (madeCells (Value.agg cA).cells (Int.toNat 201*45)) ao)):=ai w4 _
 have o5:Ow tOp ao (w4.alloc (.cells (madeCells (Value.agg cA).cells (Int.toNat 201*45)) ao)) NoB (some ⟨w4.heap.size,0,none⟩) 201 201 (List.replicate 201 yU):=by
   have:=Ow.newF (A:=NoB) qO (t:=ao) (w:=w4) (w':=w4.alloc (.cells (madeCells (Value.agg cA).cells (Int.toNat 201*45)) ao)) (b:=w4.heap.size) (l:=(madeCells (Value.agg cA).cells (Int.toNat 201*45)).toList) (xs:=List.replicate 201 yU) rfl (by rw[Array.toArray_toList]) (JF (T:=tOp) (z:=(Value.agg cA).cells) (x:=yU) (w:=w4) (A:=NoB) rfl ⟨rfl,Pw⟩ 201) (by rw[List.length_replicate];decide)
   rwa [List.length_replicate]at this
 generalize w4.alloc (.cells (madeCells (Value.agg cA).cells (Int.toNat 201*45)) ao)=w5 at*
 have B5:=aa B4 hb5 B4.size
 have f5:bZ w4.heap.size (some (⟨w4.heap.size,0,none⟩:Addr)):=jR rfl
 refine⟨λm s i w'=>∃k:Nat,k <=201/\i=(k:Int)/\m=201-k/\s=rN k/\Ow tOp ao w' NoB (some ⟨w4.heap.size,0,none⟩) 201 201 (List.replicate k di++List.replicate (201-k) yU)/\bW w4 w',⟨_,0,by omega,rfl,rfl,rfl,by rw[List.replicate_zero,List.nil_append,Nat.sub_zero];exact o5,hb5⟩,λm s i=>aX.of ?_ _⟩
 rintro w6 ⟨k,hk,rfl,rfl,rfl,o6,hb6⟩
 have hsl:=tw k
 refine ab.of (λhi=>?_) (λhi=>?_) <;> simp only[dTx,dFx]at hi
 · have hlt:k<201:=by omega
   obtain⟨w7,hs7,o7,hg7⟩:=o6.store (P:=prog) oH (λ_ _ h=>h) (i:=(k:Int)) (k:=45) (by simp;omega) rfl (v:=di.v) (x:=di) ⟨rfl,Np⟩
   rw[Int.toNat_natCast,Ob _ _ _ _ hlt]at o7
   refine⟨⟨⟨by omega,hi⟩,rfl⟩,w7,hs7,fits (by rw[hsl];simp;omega),?_⟩
   rintro _ rfl
   exact⟨201-(k+1),by omega,k+1,by omega,by rw[wrap_i64 (by omega) (by omega)];omega,rfl,rfl,o7,hb6.grown hg7 hb6.size f5⟩
 have:k=201:=by omega
 subst this
 clear hi hk hsl
 rw[Nat.sub_self,List.replicate_zero,List.append_nil]at o6
 have B6:=aa B4 hb6 B4.size
 refine ax (Aj (he.step B6) o6.all (by decide)) ?_
 rintro _ w7 ⟨rfl,hb7⟩
 rw[Hc]
 have B7:=aa B6 hb7 B6.size
 refine⟨_,_,rfl,?_⟩
 refine ax (j3 (rN 201) w7 (he.step B7)) ?_
 rintro _ w8 ⟨a8,n8,c8,rfl,-,-,hb8⟩
 rw[EO]
 have B8:=aa B7 hb8 B7.size
 refine⟨_,_,_,_,_,_,rfl,?_⟩
 refine kF.new (zs:=Ls (0,0,0)) (cs:=Ls (53,201,1)) rfl rfl (AY _) w8 λk9 w9 hk9 h9 hb9=>?_
 have B9:=aa B8 hb9 B8.size
 refine⟨⟨by decide,by decide⟩,?_⟩
 have o9:=((o6.below hb7).below hb8).below hb9
 have o9t:=o9.takeJ (j:=200) (by rw[List.length_replicate];decide)
 rw[List.take_replicate]at o9t
 refine ax (Aj (n:=200) (he.step B9) o9t.all (by decide)) ?_
 rintro _ w10 ⟨rfl,hb10⟩
 rw[Hb]
 have B10:=aa B9 hb10 B9.size
 refine⟨_,_,rfl,?_⟩
 refine ax (pX w10 (he.step B10)) ?_
 rintro _ w11 ⟨rfl,hb11⟩
 have B11:=aa B10 hb11 B10.size
 have h4':=((((((h4.below hb6)).below hb7).below hb8).below hb9).below hb10).below hb11
 have h9':=(h9.below hb10).below hb11
 refine⟨_,rfl,ab.yes rfl (ab.yes rfl ⟨_,_,_,kF.load0 h4' rfl,_,IP (131,2,1) (131,2,1) w11,ab.yes rfl (ab.yes rfl ⟨_,_,_,kF.load0 h9' rfl,_,IP (53,201,1) (53,201,1) w11,ab.yes rfl (ab.yes rfl ⟨⟨by decide,?_⟩,?_⟩)⟩)⟩)⟩
 · rw[tw];decide
 · intro s hs
   rw[hs,show Int.toNat 1200=1200 from rfl,Pt]
   exact⟨by simp,B11⟩
end Go.Pk
