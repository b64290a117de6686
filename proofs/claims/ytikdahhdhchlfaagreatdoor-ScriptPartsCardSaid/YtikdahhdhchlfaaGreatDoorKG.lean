/- What the laws lean on: V21, ScrA, ScrB, ScrC, WrdA, WrdB, WrdC, UrlY, Idx, RulA, UrlC, ScrD, EqO, ScrE, WrdG, V25, ScrF; what is used. Its conditions: none. -/
import Derived.Test.YtikdahhdhchlfaaGreatDoorKF
import Derived.Laws.RangeAny
import Derived.WalkMore
import Derived.Lib.OthersKept
import Derived.Shelf.RegionOpenPlain
open Go.IntKind (i64)
open Go.Proofs.Tryz
set_option linter.unusedVariables false
set_option maxRecDepth 100000
open List (length)
open Option (isSome)
namespace Go.Pk
open Go.RowKit (Below)
open Go.Proofs
theorem sg {w K}(h:nA w (.cells #[vS [115,97,109,101],vS [116,111,112],vS [115,117,98]] ah) λa b=>K (.slice (vA a 0) 3 3) b):Cf bl #[] w (Ret K):=ru func92 [] h
theorem sj {w K}(h:nA w (.cells #[vS [104,116,116,112],vS [104,116,116,112,115]] ah) λa b=>K (.slice (vA a 0) 2 2) b):Cf bV #[] w (Ret K):=ru func90 [] h
theorem xZ (a:Int){w K}(h:ab (a==(0:Int)) (K (vS [111,107]) w) (uS iA #[vI a] w λb c=>(((List.length [101,114,114,111,114,32]+List.length b:Nat):Int) <=i64.max)/\∀d,d=([101,114,114,111,114,32]++b)->K (vS d) c)):Cf eM #[vI a] w (Ret K):=ru func24 [] h
theorem si {w K}(h:nA w (.map #[] 0) λa b=>∃c,(Instr.mapUpdate aA (.map (some a)) (vS [115,101,116]) (.agg #[vI 2,.func (.func gz) #[] #[]])).run prog b=.ok () c/\∃d,(Instr.mapUpdate aA (.map (some a)) (vS [103,101,116]) (.agg #[vI 4,.func (.func gy) #[] #[]])).run prog c=.ok () d/\∃e,(Instr.mapUpdate aA (.map (some a)) (vS [116,105,99,107]) (.agg #[vI 1,.func (.func fD) #[] #[]])).run prog d=.ok () e/\∃f,(Instr.mapUpdate aA (.map (some a)) (vS [99,108,101,97,114]) (.agg #[vI 0,.func (.func cU) #[] #[]])).run prog e=.ok () f/\K (.map (some a)) f):Cf cQ #[] w (Ret K):=ru func48 [] h
theorem oA (a:Option Addr)(b c:Nat){w K}(h:nA w (.cells cA ao) λd e=>∃f,Sv ao (vA d 0) (.agg #[vI 4,.bool false,vI 0,vS [],.int .u8 0,.int .u8 0,.int .u8 0,.int .u8 0,.int .u8 0,.int .u8 0,.int .u8 0,.int .u8 0,.int .u8 0,.int .u8 0,.int .u8 0,.int .u8 0,.int .u8 0,.int .u8 0,.int .u8 0,.int .u8 0,vI 0,vS [],vS [],.bool false,vI 0,vS [],.int .u8 0,.int .u8 0,.int .u8 0,.int .u8 0,.int .u8 0,.int .u8 0,.int .u8 0,.int .u8 0,.int .u8 0,.int .u8 0,.int .u8 0,.int .u8 0,.int .u8 0,.int .u8 0,.int .u8 0,.int .u8 0,vS [],vI 0,vI 0]) e f/\∃g,Rv ao (vA d 0) f g/\K (.tuple #[g,.bool true]) f):Cf cU #[.slice a b c] w (Ret K):=ru func100 [] h
theorem xY (a:Option Addr)(b c:Nat){w K}(h:nA w (.cells cA ao) λd e=>(bx (0:Int) ((b:Nat):Int)/\Option.isSome a=true)/\∃f,Ld ah (an a (0:Int) 1) e (vS f)/\Cf eU #[vS f] e λg i=>∃j k,g=rT #[vI j,.bool k]/\∃l,Sv ao (vA d 0) (.agg #[vI 3,.bool false,vI 0,vS [],.int .u8 0,.int .u8 0,.int .u8 0,.int .u8 0,.int .u8 0,.int .u8 0,.int .u8 0,.int .u8 0,.int .u8 0,.int .u8 0,.int .u8 0,.int .u8 0,.int .u8 0,.int .u8 0,.int .u8 0,.int .u8 0,vI 0,vS [],vS [],.bool false,vI 0,vS [],.int .u8 0,.int .u8 0,.int .u8 0,.int .u8 0,.int .u8 0,.int .u8 0,.int .u8 0,.int .u8 0,.int .u8 0,.int .u8 0,.int .u8 0,.int .u8 0,.int .u8 0,.int .u8 0,.int .u8 0,.int .u8 0,vS [],vI 0,vI j]) i l/\∃m,Rv ao (vA d 0) l m/\K (.tuple #[m,.bool k]) l):Cf fD #[.slice a b c] w (Ret K):=ru func99 [] h
theorem zu (a:Option Addr)(b c:Nat){w K}(h:nA w (.cells cA ao) λd e=>(bx (0:Int) ((b:Nat):Int)/\Option.isSome a=true)/\∃f,Ld ah (an a (0:Int) 1) e (vS f)/\Cf qK #[vS f] e λg i=>∃j k,g=rT #[j,vI k]/\nA i (.cells np ba) λl m=>∃n,Sv ba (vA l 0) j m n/\(bx (1:Int) ((b:Nat):Int)/\Option.isSome a=true)/\∃o,Ld ah (an a (1:Int) 1) n (vS o)/\Cf kT #[vS o] n λp q=>∃r s,p=rT #[vS r,.bool s]/\∃t,Ld ba (vA l 0) q t/\∃u,(Instr.build ao #[(0,vI 1),(1,t),(2,vS r)]).run prog q=.ok u q/\ab s (∃v,Sv ao (vA d 0) u q v/\∃x,Rv ao (vA d 0) v x/\K (.tuple #[x,.bool (k==(0:Int))]) v) (∃v,Sv ao (vA d 0) u q v/\∃x,Rv ao (vA d 0) v x/\K (.tuple #[x,.bool false]) v)):Cf gz #[.slice a b c] w (Ret K):=ru func97 [] h
theorem vG (a:lU){w K}(h:nA w (.cells #[vI 0,vI 0,vI 0] aP) λb c=>ab (decide (((List.length a:Nat):Int)>(20000:Int))) (∃d,Sv aP (vA b 0) (.agg #[vI 54,vI 1,vI 1]) c d/\∃e f g,Rv aP (vA b 0) d (.agg #[vI e,vI f,vI g])/\K (.tuple #[.slice none 0 0,.agg #[vI e,vI f,vI g]]) d) (uL me #[vS a] c λd e f g=>∃i:Nat->FP [.one .slice,.one (.int .i64)],(∃j,i j none 0 0 (0:Int) g)/\∀j k l m n,aX 29 (∀o,i j k l m n o->ab (decide (n<((e:Nat):Int))) ((bx n ((e:Nat):Int)/\Option.isSome d=true)/\∃p,Ld ah (an d n 1) o (vS p)/\ab (n==(200:Int)) (∃q,Sv aP (vA b 0) (.agg #[vI 53,vI (i64.wrap (n+(1:Int))),vI 1]) o q/\∃r s t,Rv aP (vA b 0) q (.agg #[vI r,vI s,vI t])/\K (.tuple #[.slice none 0 0,.agg #[vI r,vI s,vI t]]) q) (Cf jO #[vS p] o λq r=>∃s t,q=rT #[s,.bool t]/\nA r (.cells cA ao) λu v=>∃x,Sv ao (vA u 0) s v x/\ab (!t) (∃y,Sv aP (vA b 0) (.agg #[vI 131,vI (i64.wrap (n+(1:Int))),vI 1]) x y/\∃z A B,Rv aP (vA b 0) y (.agg #[vI z,vI A,vI B])/\K (.tuple #[.slice none 0 0,.agg #[vI z,vI A,vI B]]) y) (∃y,Ld ao (vA u 0) x y/\∃z A B C,(Instr.buildSlice aK 1 #[(0,y)]).run prog x=.ok (.slice A B C) z/\∃D E F G,(Builtin.append_ #[aK,aK] aK #[.slice k l m,.slice A B C]).run prog z=.ok (.slice E F G) D/\∃H:Nat,H<j/\i H E F G (i64.wrap (n+(1:Int))) D))) (∃p,Sv aP (vA b 0) (.agg #[vI 0,vI 0,vI 0]) o p/\∃q r s,Rv aP (vA b 0) p (.agg #[vI q,vI r,vI s])/\K (.tuple #[.slice k l m,.agg #[vI q,vI r,vI s]]) p)))):Cf fV #[vS a] w (Ret K):=ru func9 [(16,[(4,.one .slice),(16,.one (.int .i64))])] h
theorem zr (a b:Option Addr)(c d:Nat){w K}(h:uP wX #[.pointer a] w λe f=>∃g:Nat->FP [.one .slice,.one (.int .i64)],(∃i,g i none 0 0 (0:Int) f)/\∀i j k l m,aX 41 (∀n,g i j k l m n->ab (decide (m<((c:Nat):Int))) ((bx m ((c:Nat):Int)/\Option.isSome b=true)/\∃o,Ld ao (an b m 45) n o/\nA n (.cells cA ao) λp q=>∃r,Sv ao (vA p 0) o q r/\uS eM #[vI 0] r λs t=>∃u:FP [.one .str],(true/\∃v,Ld bp (vA p 0) t (vI v)/\ab (v==(1:Int)) (true/\∃x,Ld ba (vA p 1) t x/\true/\∃y,Ld ah (vA p 22) t (vS y)/\uI lY #[.pointer e,x,vS y] t λz A=>uS eM #[vI z] A λB C=>u B C) (ab (v==(2:Int)) (true/\∃x,Ld aR (vA p 23) t x/\uS lX #[.pointer e,x] t λy z=>uS iI #[vS y] z λA B=>u A B) (ab (v==(3:Int)) (true/\∃x,Ld bu (vA p 44) t (vI x)/\uI kQ #[.pointer e,vI x] t λy z=>uS eM #[vI y] z λA B=>u A B) (ab (v==(4:Int)) (uU jK #[.pointer e] t λx=>u s x) (uS eM #[vI 131] t λx y=>u x y)))))/\∀v,aX 30 (∀x,u v x->nA x (.cells #[vS v] ah) λy z=>∃A B C D,(Builtin.append_ #[aI,aI] aI #[.slice j k l,.slice (vA y 0) 1 1]).run prog z=.ok (.slice B C D) A/\∃E:Nat,E<i/\g E B C D (i64.wrap (m+(1:Int))) A)) (K (.slice j k l) n))):Cf fx #[.pointer a,.slice b c d] w (Ret K):=ru func14 [(10,[(6,.one .slice),(14,.one (.int .i64))]),(23,[(9,.one .str)])] h
theorem vH (a:Value){w K}(h:nA w (.cells (Value.cells a) ao) λb c=>true/\∃d,Ld bp (vA b 0) c (vI d)/\ab (d==(1:Int)) (true/\∃e,Ld ba (vA b 1) c e/\uB jQ #[e] c λf g=>ab f (true/\∃i,Ld bu (vA b 44) g (vI i)/\ab (i==(0:Int)) (true/\∃j,Ld aR (vA b 23) g j/\∃k,(do eqGuard .eql aR (.tmp 18) (.tmp 19) j (.agg lM);binOp .eql aR j (.agg lM):Sem Value).run prog g=.ok (.bool k) g/\K (.bool k) g) (K (.bool false) g)) (K (.bool false) g)) (ab (d==(2:Int)) (true/\∃e,Ld aR (vA b 23) c e/\nA c (.cells lM aR) λf g=>∃i,Sv aR (vA f 0) e g i/\true/\∃j,Ld ae (vA f 1) i j/\uB eC #[j] i λk l=>ab k (true/\∃m,Ld ah (vA f 19) l (vS m)/\uB lu #[vS m] l λn o=>ab n (true/\∃p,Ld bp (vA f 20) o (vI p)/\ab (decide (p >=(0:Int))) (true/\∃q,Ld bp (vA f 20) o (vI q)/\ab (decide (q <=(2:Int))) (∃r,Ld ao (vA b 0) o r/\∃s,Ld aR (vA f 0) o s/\∃t,(Instr.build ao #[(0,vI 2),(3,s)]).run prog o=.ok t o/\∃u,(do eqGuard .eql ao (.tmp 45) (.tmp 47) r t;binOp .eql ao r t:Sem Value).run prog o=.ok (.bool u) o/\K (.bool u) o) (K (.bool false) o)) (K (.bool false) o)) (K (.bool false) o)) (K (.bool false) l)) (ab (d==(3:Int)) (true/\∃e,Ld bu (vA b 44) c (vI e)/\ab (decide (e >=(0:Int))) (true/\∃f,Ld bu (vA b 44) c (vI f)/\ab (decide (f <=(1099511627776:Int))) (∃g,Ld ao (vA b 0) c g/\true/\∃i,Ld bu (vA b 44) c (vI i)/\∃j,(do eqGuard .eql ao (.tmp 61) (.tmp 64) g (.agg #[vI 3,.bool false,vI 0,vS [],.int .u8 0,.int .u8 0,.int .u8 0,.int .u8 0,.int .u8 0,.int .u8 0,.int .u8 0,.int .u8 0,.int .u8 0,.int .u8 0,.int .u8 0,.int .u8 0,.int .u8 0,.int .u8 0,.int .u8 0,.int .u8 0,vI 0,vS [],vS [],.bool false,vI 0,vS [],.int .u8 0,.int .u8 0,.int .u8 0,.int .u8 0,.int .u8 0,.int .u8 0,.int .u8 0,.int .u8 0,.int .u8 0,.int .u8 0,.int .u8 0,.int .u8 0,.int .u8 0,.int .u8 0,.int .u8 0,.int .u8 0,vS [],vI 0,vI i]);binOp .eql ao g (.agg #[vI 3,.bool false,vI 0,vS [],.int .u8 0,.int .u8 0,.int .u8 0,.int .u8 0,.int .u8 0,.int .u8 0,.int .u8 0,.int .u8 0,.int .u8 0,.int .u8 0,.int .u8 0,.int .u8 0,.int .u8 0,.int .u8 0,.int .u8 0,.int .u8 0,vI 0,vS [],vS [],.bool false,vI 0,vS [],.int .u8 0,.int .u8 0,.int .u8 0,.int .u8 0,.int .u8 0,.int .u8 0,.int .u8 0,.int .u8 0,.int .u8 0,.int .u8 0,.int .u8 0,.int .u8 0,.int .u8 0,.int .u8 0,.int .u8 0,.int .u8 0,vS [],vI 0,vI i]):Sem Value).run prog c=.ok (.bool j) c/\K (.bool j) c) (K (.bool false) c)) (K (.bool false) c)) (∃e,Ld ao (vA b 0) c e/\∃f,(do eqGuard .eql ao (.tmp 67) (.tmp 68) e (.agg #[vI 4,.bool false,vI 0,vS [],.int .u8 0,.int .u8 0,.int .u8 0,.int .u8 0,.int .u8 0,.int .u8 0,.int .u8 0,.int .u8 0,.int .u8 0,.int .u8 0,.int .u8 0,.int .u8 0,.int .u8 0,.int .u8 0,.int .u8 0,.int .u8 0,vI 0,vS [],vS [],.bool false,vI 0,vS [],.int .u8 0,.int .u8 0,.int .u8 0,.int .u8 0,.int .u8 0,.int .u8 0,.int .u8 0,.int .u8 0,.int .u8 0,.int .u8 0,.int .u8 0,.int .u8 0,.int .u8 0,.int .u8 0,.int .u8 0,.int .u8 0,vS [],vI 0,vI 0]);binOp .eql ao e (.agg #[vI 4,.bool false,vI 0,vS [],.int .u8 0,.int .u8 0,.int .u8 0,.int .u8 0,.int .u8 0,.int .u8 0,.int .u8 0,.int .u8 0,.int .u8 0,.int .u8 0,.int .u8 0,.int .u8 0,.int .u8 0,.int .u8 0,.int .u8 0,.int .u8 0,vI 0,vS [],vS [],.bool false,vI 0,vS [],.int .u8 0,.int .u8 0,.int .u8 0,.int .u8 0,.int .u8 0,.int .u8 0,.int .u8 0,.int .u8 0,.int .u8 0,.int .u8 0,.int .u8 0,.int .u8 0,.int .u8 0,.int .u8 0,.int .u8 0,.int .u8 0,vS [],vI 0,vI 0]):Sem Value).run prog c=.ok (.bool f) c/\K (.bool f) c)))):Cf iz #[a] w (Ret K):=ru func18 [] h
set_option linter.unusedSimpArgs false
set_option maxRecDepth 20000
def Rb:List UInt8:=[101,114,114,111,114,32]
def KH (n:Nat):List UInt8:=if n=0 then[111,107]else Rb++HQ n
theorem KD {w:World}{A:Bl}{a b c:List UInt8} :fP tS w A [vS a,vS b,vS c] [a,b,c]:=
 ((fP.one (iu trivial)).append (fP.one (iu trivial))).append (fP.one (iu trivial))
theorem QG {w:World}{A:Bl}{a b:List UInt8} :fP tS w A [vS a,vS b] [a,b]:=
 (fP.one (iu trivial)).append (fP.one (iu trivial))
theorem zx (n:Nat)(hn:n <=9223372036854775807)(w:World)(he:Env w):Cf eM #[vI (n:Int)] w (Ret λv w'=>v=vS (KH n)/\bW w w'):=by
 apply xZ
 refine ab.of (λh=>?_) (λh=>?_)
 · have h:(n:Int)=0:=eq_of_beq h
   refine⟨?_,Below.refl _ _⟩
   unfold KH;rw[if_pos (by omega)]
 · have h: ¬ (n:Int)=0:=by simpa using h
   refine ax (Jm n hn w he) ?_
   rintro _ w1 ⟨rfl,hb⟩
   have:=AV hn
   refine⟨_,rfl,fits (by simp only[List.length_cons,List.length_nil];omega),?_⟩
   rintro _ rfl
   refine⟨?_,hb⟩
   unfold KH;rw[if_neg (by omega)];rfl
theorem tL (w:World):Cf bl #[] w (Ret λv w'=>∃a,v=.slice a 3 3/\Ow tS ah w' NoB a 3 3 [[115,97,109,101],[116,111,112],[115,117,98]]/\bZ w.heap.size a/\bW w w'):=by
 apply sg
 intro k1 w1 hk1 hw1
 exact⟨_,rfl,Ow.newF (gM _) hk1 hw1 KD (by decide),jR hk1,hw1▸ai _ _⟩
theorem tN (w:World):Cf bV #[] w (Ret λv w'=>∃a,v=.slice a 2 2/\Ow tS ah w' NoB a 2 2 [[104,116,116,112],[104,116,116,112,115]]/\bZ w.heap.size a/\bW w w'):=by
 apply sj
 intro k1 w1 hk1 hw1
 exact⟨_,rfl,Ow.newF (gM _) hk1 hw1 QG (by decide),jR hk1,hw1▸ai _ _⟩
def evR (p:Int×FuncId):Value:=.agg #[vI p.1,.func (.func p.2) #[] #[]]
def nY:List (List UInt8×(Int×FuncId)):=[([115,101,116],(2,gz)),([103,101,116],(4,gy)),([116,105,99,107],(1,fD)),([99,108,101,97,114],(0,cU))]
theorem tM (w:World):Cf cQ #[] w (Ret λv w'=>∃r,v=.map (some r)/\w.heap.size <=r/\pR evS evR w' r nY/\bW w w'):=by
 apply si
 intro k1 w1 hk1 hw1
 have hk:na prog ah evS:=na.str aw
 have hb1:bW w w1:=hw1▸ai w _
 have hf:bZ w.heap.size (some ⟨k1,0,none⟩):=jR hk1
 have m0:pR evS evR w1 k1 ([]:List (List UInt8×(Int×FuncId))):=pR.new hk1 hw1
 obtain⟨w2,r2,m2,g2⟩:=m0.put bU hk (k:=[115,101,116]) rfl (2,gz)
 obtain⟨w3,r3,m3,g3⟩:=m2.put bU hk (k:=[103,101,116]) (by decide) (4,gy)
 obtain⟨w4,r4,m4,g4⟩:=m3.put bU hk (k:=[116,105,99,107]) (by decide) (1,fD)
 obtain⟨w5,r5,m5,g5⟩:=m4.put bU hk (k:=[99,108,101,97,114]) (by decide) (0,cU)
 have hb2:=hb1.grown g2 hb1.size hf
 have hb3:=hb2.grown g3 hb2.size hf
 have hb4:=hb3.grown g4 hb3.size hf
 have hb5:=hb4.grown g5 hb4.size hf
 exact⟨w2,r2,w3,r3,w4,r4,w5,r5,k1,rfl,by omega,m5,hb5⟩
def yU:OpR:=⟨0,li,[],qZ,0⟩
theorem eN:yU.cells.length=45:=rfl
theorem DL (n:Int):(⟨3,li,[],qZ,n⟩:OpR).cells.length=45:=rfl
theorem GJ:di.cells.length=45:=rfl
theorem ya (a:Option Addr)(l c:Nat)(w:World):Cf cU #[.slice a l c] w (Ret λv w'=>v=.tuple #[di.v,.bool true]/\bW w w'):=by
 apply oA
 intro k2 w2 hk2 hw2
 have hB2:bW w w2:=hw2▸ai w _
 have h2:am w2 k2 ao yU.cells:=am.new hk2 hw2
 exact gX.fin (cs:=di.cells) GJ (OpR.one _) h2 eN hB2 (by omega) λwx hb=>⟨rfl,hb⟩
theorem zw {A:Bl}{a:Option Addr}{l c:Nat}{x:List UInt8}{w:World}(ho:Sl tS w A a l c [x])(hx:x.length <=10000000):Cf fD #[.slice a l c] w (Ret λv w'=>v=.tuple #[(⟨3,li,[],qZ,if vj x then gj x else 0⟩:OpR).v,.bool (decide (vj x))]/\bW w w'):=by
 have hl:=ho.1
 obtain rfl:l=1:=hl
 apply xY
 intro k2 w2 hk2 hw2
 have hB2:bW w w2:=hw2▸ai w _
 have h2:am w2 k2 ao yU.cells:=am.new hk2 hw2
 obtain⟨v,hv,hrep⟩:=(ho.below hB2).load1 (P:=prog) (i:=0) aw rfl rfl (by simp)
 obtain⟨rfl,_⟩:=kX hrep
 refine⟨⟨⟨by decide,by decide⟩,ho.isSome (i:=0) (by simp)⟩,x,hv,?_⟩
 refine ax (gS x (by omega) w2) ?_
 rintro _ w3 ⟨rfl,hb3⟩
 have hB3:=aa hB2 hb3 hB2.size
 have h3:=h2.below hb3
 by_cases hp:vj x
 · rw[if_pos hp]
   refine⟨_,_,rfl,?_⟩
   exact gX.fin (cs:=(⟨3,li,[],qZ,gj x⟩:OpR).cells) (DL _) (OpR.one _) h3 eN hB3 (by omega) λwx hb=>⟨by rw[if_pos hp,decide_eq_true hp];rfl,hb⟩
 · rw[if_neg hp]
   refine⟨_,_,rfl,?_⟩
   exact gX.fin (cs:=(⟨3,li,[],qZ,0⟩:OpR).cells) (DL _) (OpR.one _) h3 eN hB3 (by omega) λwx hb=>⟨by rw[if_neg hp,decide_eq_false hp];rfl,hb⟩
theorem Src.here {α:Type}{T:Ty α}{w:World}{A:Bl}{t:TypeId}{b:Nat}{l:List Value}{xs:List α}(h:w.heap[b]? =some (.cells l.toArray t))(hr:fP T w A l xs):Src T w A (some ⟨b,0,none⟩) xs.length xs:=
 ⟨rfl,.inr ⟨b,0,rfl,l,hr,λj hj=>by rw[pb h,Nat.zero_add];simp⟩⟩
def Ge (c:UInt8):Bool:=decide (33 <=c.toNat/\c.toNat <=126/\c≠37)
theorem KP {c:UInt8}(h:Ge c=true):tT c=[c]:=if_pos (of_decide_eq_true h)
theorem MA {c:UInt8}(h:Ge c=false):tT c=[37,Cm (c.toNat/16),Cm (c.toNat%16)]:=if_neg (of_decide_eq_false h)
theorem HL (c:UInt8):
   Int.fdiv ((c.toNat:Nat):Int) (2 ^ (min (Int.toNat (4:Int)) (IntKind.bits .u8)))=((c.toNat/16:Nat):Int)/\
   IntKind.u8.wrap (((BitVec.ofInt (IntKind.bits .u8) ((c.toNat:Nat):Int)) &&& (BitVec.ofInt (IntKind.bits .u8) (15:Int))).toNat:Nat)=((c.toNat%16:Nat):Int)/\
   dp [48,49,50,51,52,53,54,55,56,57,65,66,67,68,69,70] ((c.toNat/16:Nat):Int)=(((Cm (c.toNat/16)).toNat:Nat):Int)/\
   dp [48,49,50,51,52,53,54,55,56,57,65,66,67,68,69,70] ((c.toNat%16:Nat):Int)=(((Cm (c.toNat%16)).toNat:Nat):Int):=
 Ig (p:=λc=>Int.fdiv ((c.toNat:Nat):Int) (2 ^ (min (Int.toNat (4:Int)) (IntKind.bits .u8)))=((c.toNat/16:Nat):Int)/\
   IntKind.u8.wrap (((BitVec.ofInt (IntKind.bits .u8) ((c.toNat:Nat):Int)) &&& (BitVec.ofInt (IntKind.bits .u8) (15:Int))).toNat:Nat)=((c.toNat%16:Nat):Int)/\
   dp [48,49,50,51,52,53,54,55,56,57,65,66,67,68,69,70] ((c.toNat/16:Nat):Int)=(((Cm (c.toNat/16)).toNat:Nat):Int)/\
   dp [48,49,50,51,52,53,54,55,56,57,65,66,67,68,69,70] ((c.toNat%16:Nat):Int)=(((Cm (c.toNat%16)).toNat:Nat):Int)) (by decide+kernel) c
theorem Mi {w:World}{A:Bl}{a b c:UInt8} :fP tU8 w A [.int .u8 ((a.toNat:Nat):Int),.int .u8 ((b.toNat:Nat):Int),.int .u8 ((c.toNat:Nat):Int)] [a,b,c]:=
 ((fP.one (xC rfl)).append (fP.one (xC rfl))).append (fP.one (xC rfl))
theorem rU (s:List UInt8)(hs:s.length <=1000000000000)(w:World):
   Cf iI #[vS s] w (Ret λv w'=>v=vS (zL s)/\bW w w'):=by
 apply zo
 refine ab.of (λh=>?_) (λh=>?_)
 · obtain rfl:s=[]:=eq_of_beq h
   exact⟨rfl,Below.refl _ _⟩
 have hne:s≠[]:=by rintro rfl;cases h
 obtain⟨w2,a,n,c,hr,ho,hb2,hf⟩:=lO aw cg cB w s (by omega) NoB
 have hnn:=ho.len
 subst hnn
 refine⟨w2,a,_,c,hr,?_⟩
 refine⟨λm a3 l3 c3 i w'=>∃k:Nat,k <=s.length/\i=(k:Int)/\m=s.length-k/\Ow tU8 bI w' NoB a3 l3 c3 (iS (s.take k))/\bZ w2.heap.size a3/\bW w2 w',
   ⟨_,0,by omega,rfl,rfl,Ow.nil _ _ _ _,bZ.none _,Below.refl _ _⟩,?_⟩
 intro m a3 l3 c3 i
 refine aX.of ?_ _
 rintro w3 ⟨k,hk,rfl,rfl,ho3,hf3,hB3⟩
 have hwl:=(yu (s.take k)).2
 rw[List.length_take]at hwl
 refine ab.of (λh=>?_) (λh=>?_) <;> simp only[dTx,dFx]at h
 · have hlt:k<s.length:=by omega
   have hw1:iS (s.take (k+1))=iS (s.take k)++tT s[k]:=by rw[List.take_succ_eq_append_getElem hlt,HK]
   obtain⟨v,hv,hrep⟩:=(ho.below hB3).all.load1 (i:=(k:Int)) cB rfl rfl (by simpa using hlt)
   have:=yk hrep
   subst this
   simp only[Int.toNat_natCast]at hv
   have hu:=BZ s[k]
   refine⟨⟨⟨by omega,h⟩,ho.all.isSome hlt⟩,_,hv,?_⟩
   refine qC (w:=w3) (Ge s[k]) ?_ ?_
   · unfold Ge
     refine ab.of (λh2=>?_) (λh2=>?_) <;> simp only[gt_iff_lt,dTx,dFx]at h2
     · refine ab.of (λh3=>?_) (λh3=>?_) <;> simp only[dTx,dFx]at h3
       · refine⟨rfl,?_⟩
         rw[Bool.eq_iff_iff,bne_iff_ne,dTx]
         constructor
         · intro h4;exact⟨by omega,by omega,λe=>h4 (by rw[e];rfl)⟩
         · rintro⟨_,_,h4⟩ e;exact h4 (DO (by simpa using e))
       · exact⟨rfl,(decide_eq_false (by omega)).symm⟩
     · exact⟨rfl,(decide_eq_false (by omega)).symm⟩
   · refine ab.of (λh2=>?_) (λh2=>?_)
     · intro k4 w4 hk4 hw4
       obtain⟨w5,a5,n5,c5,hr5,ho5,hf5,hb5⟩:=Hl (ty:=bf) (w0:=w2) (cm:=1) (vs:=[_]) Ev cg ku (by decide) ho3 hf3 hB3 hk4 hw4 (xC rfl) (by omega)
       refine⟨w5,a5,n5,c5,hr5,s.length-(k+1),by omega,k+1,by omega,by rw[wrap_i64 (by omega) (by omega)];omega,rfl,?_,hf5,hb5⟩
       rw[hw1,KP h2];exact ho5
     · obtain⟨f1,f2,f3,f4⟩:=HL s[k]
       rw[f1,f2]
       have q1:s[k].toNat/16<16:=by omega
       have q2:s[k].toNat%16<16:=Nat.mod_lt _ (by decide)
       refine⟨by decide,⟨by omega,by simp only[List.length_cons,List.length_nil];omega⟩,⟨by omega,by simp only[List.length_cons,List.length_nil];omega⟩,?_⟩
       rw[f3,f4]
       intro k4 hk4 w4 hw4 hc4
       have hsrc:Src tU8 w4 NoB (some ⟨k4,0,none⟩) 3 [37,Cm (s[k].toNat/16),Cm (s[k].toNat%16)]:=Src.here (l:=[.int .u8 (((37:UInt8).toNat:Nat):Int),.int .u8 (((Cm (s[k].toNat/16)).toNat:Nat):Int),.int .u8 (((Cm (s[k].toNat%16)).toNat:Nat):Int)]) hc4 Mi
       obtain⟨w5,a5,n5,c5,hr5,ho5,hgr,hfr⟩:=fB (ty:=bf) cg ku (by decide) (ho3.below hw4) (λ_ _ h=>h) (cm:=3) hsrc (by simp;omega)
       have hB4:=aa hB3 hw4 hB3.size
       refine⟨w5,a5,n5,c5,hr5,s.length-(k+1),by omega,k+1,by omega,by rw[wrap_i64 (by omega) (by omega)];omega,rfl,?_,hf3.app hB4.size hfr,hB4.grown hgr hB4.size hf3⟩
       rw[hw1,MA h2];exact ho5
 · have:k=s.length:=by omega
   subst this
   rw[List.take_length]at ho3 hwl
   refine⟨_,tP cg aw cB ho3.all,?_,aa hb2 hB3 hb2.size⟩
   rw[zL,if_neg hne]
def unT (s:List UInt8):Value:=.tuple #[vS ((unP s).getD []),.bool (unP s).isSome]
theorem GX (c:UInt8):IntKind.u8.wrap (Lib.indexByte [48,49,50,51,52,53,54,55,56,57,65,66,67,68,69,70] c)=((xc c:Nat):Int):=
 Ig (p:=λc=>IntKind.u8.wrap (Lib.indexByte [48,49,50,51,52,53,54,55,56,57,65,66,67,68,69,70] c)=((xc c:Nat):Int)) (by decide+kernel) c
theorem I5 (c:UInt8):xc c<16\/xc c=255:=by
 unfold xc
 split
 · left;omega
 · split
   · left;omega
   · right;rfl
theorem G5 (a b:Nat)(ha:a<16\/a=255)(hb:b<16\/b=255):
   IntKind.u8.wrap (((BitVec.ofInt (IntKind.bits .u8) (IntKind.u8.wrap (((a:Nat):Int)*2 ^ (min (Int.toNat (4:Int)) (IntKind.bits .u8))))) ||| (BitVec.ofInt (IntKind.bits .u8) (IntKind.u8.wrap (((BitVec.ofInt (IntKind.bits .u8) ((b:Nat):Int)) &&& (BitVec.ofInt (IntKind.bits .u8) (15:Int))).toNat:Nat)))).toNat:Nat)=(((Jo a b).toNat:Nat):Int):=by
 have key:∀a,a<17->∀b,b<17->IntKind.u8.wrap (((BitVec.ofInt (IntKind.bits .u8) (IntKind.u8.wrap ((((if a=16 then 255 else a:Nat)):Int)*2 ^ (min (Int.toNat (4:Int)) (IntKind.bits .u8))))) ||| (BitVec.ofInt (IntKind.bits .u8) (IntKind.u8.wrap (((BitVec.ofInt (IntKind.bits .u8) (((if b=16 then 255 else b:Nat)):Int)) &&& (BitVec.ofInt (IntKind.bits .u8) (15:Int))).toNat:Nat)))).toNat:Nat)=(((Jo (if a=16 then 255 else a) (if b=16 then 255 else b)).toNat:Nat):Int):=by decide+kernel
 have h1:∃a',a'<17/\(if a'=16 then 255 else a')=a:=by
   rcases ha with h|h
   · exact⟨a,by omega,if_neg (by omega)⟩
   · exact⟨16,by decide,by rw[if_pos rfl,h]⟩
 have h2:∃b',b'<17/\(if b'=16 then 255 else b')=b:=by
   rcases hb with h|h
   · exact⟨b,by omega,if_neg (by omega)⟩
   · exact⟨16,by decide,by rw[if_pos rfl,h]⟩
 obtain⟨a',ha',rfl⟩:=h1
 obtain⟨b',hb',rfl⟩:=h2
 exact key a' ha' b' hb'
theorem rV (c:UInt8)(w:World):Cf ki #[.int .u8 ((c.toNat:Nat):Int)] w (Ret λv w'=>v=.int .u8 ((xc c:Nat):Int)/\w'=w):=by
 apply zp
 refine(Tryz.strings_IndexByte (mkS [48,49,50,51,52,53,54,55,56,57,65,66,67,68,69,70]) _ w).mono ?_
 rintro e w' ⟨rfl,rfl⟩
 refine⟨_,rfl,?_,rfl⟩
 rw[show((c.toNat:Nat):Int).toNat.toUInt8=c by simp]
 show Value.int .u8 (IntKind.u8.wrap (Lib.indexByte [48,49,50,51,52,53,54,55,56,57,65,66,67,68,69,70] c))=_
 rw[GX]
theorem Lc (s:List UInt8):Lib.trimSuffix s [37]=uZ s:=by
 rw[(wm s 37).2]
 unfold uZ
 split
 · rw[List.dropLast_eq_take]
 · rfl
theorem xx (s:List UInt8)(hs:s.length <=10000000)(w:World):
   Cf kT #[vS s] w (Ret λv w'=>v=unT s/\bW w w'):=by
 apply vF
 refine(Tryz.strings_TrimSuffix (mkS s) (mkS [37]) w (by show s.length <=_;omega)).mono ?_
 rintro e w1 ⟨rfl,rfl⟩
 refine⟨uZ s,by rw[<- Lc];rfl,?_⟩
 have hcl:(uZ s).length <=s.length:=by unfold uZ;split <;> simp
 have bad:∀{u:World},unD (uZ s)=none->bW w1 u->(.tuple #[vS [],.bool false]:Value)=unT s/\bW w1 u:=λe hb=>⟨by unfold unT unP;rw[e];rfl,hb⟩
 refine⟨λm a l c r w'=>∃out:List UInt8,unD (uZ s)=(unD r).map (λt=>out++t)/\out.length+r.length <=(uZ s).length/\m=r.length/\Ow tU8 bI w' NoB a l c out/\bZ w1.heap.size a/\bW w1 w',
   ⟨_,[],by simp,by simp,rfl,Ow.nil _ _ _ _,bZ.none _,Below.refl _ _⟩,?_⟩
 intro m a l c r
 refine aX.of ?_ _
 rintro w2 ⟨out,hD,hl,rfl,ho,hf,hB⟩
 refine ab.of (λh=>?_) (λh=>?_)
 · match r,h with
   | x::r,_=>
     have hx:dp (x::r) 0=((x.toNat:Nat):Int):=rfl
     simp only[List.length_cons]at hl
     refine⟨⟨by decide,by simp only[List.length_cons];omega⟩,?_⟩
     refine⟨λn u w'=>∃(y:UInt8) (q:List UInt8),n=((y.toNat:Nat):Int)/\u=((((x::r).length-q.length:Nat)):Int)/\q=(x::r).drop ((x::r).length-q.length)/\q.length<(x::r).length/\unD (x::r)=(unD q).map (λt=>y::t)/\bW w2 w',?_,?_⟩
     · rw[hx]
       refine ab.of (λh2=>?_) (λh2=>?_)
       · obtain rfl:x=37:=DO (by simpa using h2)
         refine ab.of (λh3=>?_) (λh3=>?_) <;> simp only[dTx,dFx]at h3
         · refine bad ?_ hB
           rw[hD,unD.eq_def]
           match r,h3 with
           | [],_=>rfl
           | [a],_=>rfl
           | a::b::r,h3=>simp only[List.length_cons]at h3;omega
         · match r,h3,hl with
           | [],h3,_=>simp at h3
           | [a],h3,_=>simp at h3
           | y::z::q,_,hl=>
             have hy:dp (37::y::z::q) 1=((y.toNat:Nat):Int):=rfl
             have hz:dp (37::y::z::q) 2=((z.toNat:Nat):Int):=rfl
             rw[hy,hz]
             refine⟨⟨by decide,by simp only[List.length_cons];omega⟩,_,λu hu=>ax (rV y u) (by rintro _ w' ⟨rfl,rfl⟩;exact⟨rfl,Below.refl _ _⟩),by decide,⟨by decide,by simp only[List.length_cons];omega⟩,_,λu hu=>ax (rV z u) (by rintro _ w' ⟨rfl,rfl⟩;exact⟨rfl,Below.refl _ _⟩),?_⟩
             intro wq hwq
             refine⟨Jo (xc y) (xc z),q,G5 _ _ (I5 y) (I5 z),by simp only[List.length_cons];omega,by simp only[List.length_cons];rw[show q.length+1+1+1-q.length=3 by omega];rfl,by simp only[List.length_cons];omega,?_,hwq⟩
             rw[unD.eq_def];rfl
       · have hne:x≠37:=λe=>by subst e;cases h2
         refine⟨x,r,rfl,by simp only[List.length_cons];omega,by simp only[List.length_cons];rw[show r.length+1-r.length=1 by omega];rfl,by simp,?_,Below.refl _ _⟩
         rw[unD.eq_def]
         show(if x=37 then _ else _)=_
         rw[if_neg hne]
     · intro n u
       refine aX.of ?_ _
       rintro w3 ⟨y,q,rfl,rfl,hq,hql,hqD,hb3⟩
       have hB3:=aa hB hb3 hB.size
       intro k4 w4 hk4 hw4
       obtain⟨w5,a5,n5,c5,hr5,ho5,hf5,hb5⟩:=Hl (ty:=bf) (w0:=w1) (cm:=1) (vs:=[_]) Ev cg ku (by decide) (ho.below hb3) hf hB3 hk4 hw4 (xC rfl) (by omega)
       refine⟨w5,a5,n5,c5,hr5,⟨by omega,by omega⟩,?_⟩
       rintro _ rfl
       rw[Int.toNat_natCast,<- hq]
       refine⟨q.length,hql,out++[y],?_,?_,rfl,ho5,hf5,hb5⟩
       · rw[hD,hqD,Option.map_map]
         congr 1
         funext t
         simp
       · simp only[List.length_append,List.length_cons,List.length_nil]at hql ⊢;omega
 · obtain rfl:r=[]:=by simpa using h
   have hD:unD (uZ s)=some out:=by rw[hD,unD];simp
   have hol:out.length <=10000000:=by simp at hl;omega
   refine⟨_,tP cg aw cB ho.all,?_⟩
   refine ax (rU out (by omega) w2) ?_
   rintro _ w3 ⟨rfl,hb3⟩
   have hB3:=aa hB hb3 hB.size
   refine⟨_,rfl,?_⟩
   refine ab.of (λh2=>?_) (λh2=>?_)
   · have h2:(zL out==s)=false:=by simpa using h2
     refine⟨?_,hB3⟩
     unfold unT unP
     rw[hD,Option.filter_some,h2];rfl
   · have h2:(zL out==s)=true:=by simpa using h2
     refine⟨_,tP cg aw cB (ho.below hb3).all,?_,hB3⟩
     unfold unT unP
     rw[hD,Option.filter_some,h2];rfl
theorem DU (b:Bool)(w:World):Cf qN #[.bool b] w (Ret λv w'=>v=.tuple #[vS (if b then[104,116,116,112,115,58,47,47]else[104,116,116,112,58,47,47]),vI (if b then 443 else 80)]/\w'=w):=by
 apply BQ
 cases b
 · exact⟨rfl,rfl⟩
 · exact⟨rfl,rfl⟩
section
open Go.Shelf Go.RowKit Go.Lib Go.Pk
variable {P:Program} {ρ:Ren}
def Asc (cs:ByteArray):Prop:=∀(j:Nat) b,cs.data.toList[j]? =some b->b.toNat<128
theorem Nv {r:Int}(h0:128 <=r)(hv:Lib.validRune r=true):∃(rs:ByteArray) (x:UInt8),Utf8.encode r=rs/\2 <=rs.size/\rs.size <=4/\rs.data.toList[rs.size-1]? =some x/\128 <=x.toNat:=by
 have hu:Utf8.valid r=true:=by
   unfold Lib.validRune at hv;unfold Utf8.valid
   simp at hv ⊢;omega
 have e:Utf8.encode r=if r.toNat<0x80 then⟨#[UInt8.ofNat r.toNat]⟩ else if r.toNat<0x800 then⟨#[UInt8.ofNat (0xC0+r.toNat/64),UInt8.ofNat (0x80+r.toNat%64)]⟩
     else if r.toNat<0x10000 then⟨#[UInt8.ofNat (0xE0+r.toNat/4096),UInt8.ofNat (0x80+r.toNat/64%64),UInt8.ofNat (0x80+r.toNat%64)]⟩
     else⟨#[UInt8.ofNat (0xF0+r.toNat/262144),UInt8.ofNat (0x80+r.toNat/4096%64),UInt8.ofNat (0x80+r.toNat/64%64),UInt8.ofNat (0x80+r.toNat%64)]⟩:=by
   unfold Utf8.encode;rw[hu];rfl
 rw[if_neg (by omega)]at e
 have hx:128 <=(UInt8.ofNat (0x80+r.toNat%64)).toNat:=by rw[UInt8.toNat_ofNat'];omega
 by_cases c1:r.toNat<0x800
 · rw[if_pos c1]at e
   exact⟨_,_,e,(show 2 <=2 by decide),(show 2 <=4 by decide),rfl,hx⟩
 rw[if_neg c1]at e
 by_cases c2:r.toNat<0x10000
 · rw[if_pos c2]at e
   exact⟨_,_,e,(show 2 <=3 by decide),(show 3 <=4 by decide),rfl,hx⟩
 · rw[if_neg c2]at e
   exact⟨_,_,e,(show 2 <=4 by decide),(show 4 <=4 by decide),rfl,hx⟩
theorem Jh {t:TypeId}(ht:P.underlying t=some .string)(s:ByteArray)(i:Int)(x:UInt8)(h0:0 <=i)(hx:s.data.toList[i.toNat]? =some x)(w:World):
   (Instr.index t (.string s) (vI i)).run P w=.ok (.int .u8 (x.toNat:Nat)) w:=by
 have hl:i.toNat<s.size:=by
   have:=(List.getElem?_eq_some_iff.1 hx).1
   rwa [<- Lib.size_eq]at this
 rw[run_index_string _ _ _ _ _ ht,dif_pos ⟨h0,by omega⟩]
 have:=Lib.data_getElem? s i.toNat hl
 rw[hx]at this
 rw[<- Option.some.inj this]
set_option maxHeartbeats 4000000 in
set_option maxRecDepth 1000000 in
theorem Bc (L:Lays.n152 P ρ)(cs:ByteArray)(r:Int)(w:World)(h0:128 <=r)(hne:r≠65533)(hv:Lib.validRune r=false):
   Calls P (ρ.f 152) #[.string cs,.int .i32 r] w λe w'=>e=.returned (vI (-1))/\∃n,w'=w.drewN n:=by
 have mixed:=L.mixed
 have t3:=L.t3;have a3:=L.a3;have z3:=L.z3;have v3:=L.v3;have u3:=run_underlying L.t3
 have t4:=L.t4;have a4:=L.a4;have z4:=L.z4;have v4:=L.v4;have u4:=run_underlying L.t4
 have t5:=L.t5;have a5:=L.a5;have z5:=L.z5;have v5:=L.v5;have u5:=run_underlying L.t5
 have t9:=L.t9;have a9:=L.a9;have z9:=L.z9;have v9:=L.v9;have u9:=run_underlying L.t9
 have t21:=L.t21;have a21:=L.a21;have z21:=L.z21;have v21:=L.v21;have u21:=run_underlying L.t21
 have e137:∀args w,(callFunc (ρ.f 137) args).run P w=.ok (.enter (ρ.f 137) args) w:=enters_of L.f137 (by kernel_rfl) rfl
 have e119:∀args w,(callFunc (ρ.f 119) args).run P w=.ok (.enter (ρ.f 119) args) w:=enters_of L.f119 (by kernel_rfl) rfl
 have hr1: ¬ (r<128):=by omega
 have hr2:(r==65533)=false:=beq_eq_false_iff_ne.2 hne
 go_enter L.f152,Body.n152_ntmps ρ
 go_wp2_with (first
   | (go_at_fn (ρ.f 119);refine(Any.utf8_ValidRune { L with } _ _).mono ?_;rintro e w' ⟨rfl,hw⟩;rw[hw,hv])
   | (go_at_fn (ρ.f 137);refine(Any.strings_IndexByte { L with } _ _ _).mono ?_;rintro e w' ⟨rfl,hw⟩;rw[hw]))
 go_ret
 exact⟨rfl,0,rfl⟩
set_option maxHeartbeats 4000000 in
set_option maxRecDepth 1000000 in
theorem Be (L:Lays.n152 P ρ)(cs:ByteArray)(ha:Asc cs)(hcs:cs.size <=1000)(r:Int)(w:World)(h0:128 <=r)(hne:r≠65533)(hv:Lib.validRune r=true):
   Calls P (ρ.f 152) #[.string cs,.int .i32 r] w λe w'=>e=.returned (vI (-1))/\∃n,w'=w.drewN n:=by
 have mixed:=L.mixed
 have t3:=L.t3;have a3:=L.a3;have z3:=L.z3;have v3:=L.v3;have u3:=run_underlying L.t3
 have t4:=L.t4;have a4:=L.a4;have z4:=L.z4;have v4:=L.v4;have u4:=run_underlying L.t4
 have t5:=L.t5;have a5:=L.a5;have z5:=L.z5;have v5:=L.v5;have u5:=run_underlying L.t5
 have t9:=L.t9;have a9:=L.a9;have z9:=L.z9;have v9:=L.v9;have u9:=run_underlying L.t9
 have t21:=L.t21;have a21:=L.a21;have z21:=L.z21;have v21:=L.v21;have u21:=run_underlying L.t21
 have e137:∀args w,(callFunc (ρ.f 137) args).run P w=.ok (.enter (ρ.f 137) args) w:=enters_of L.f137 (by kernel_rfl) rfl
 have e119:∀args w,(callFunc (ρ.f 119) args).run P w=.ok (.enter (ρ.f 119) args) w:=enters_of L.f119 (by kernel_rfl) rfl
 obtain⟨rs,x,hrs,h2,h4,hx,hx128⟩:=Nv h0 hv
 have hr1: ¬ (r<128):=by omega
 have hr2:(r==65533)=false:=beq_eq_false_iff_ne.2 hne
 have hcv:=λw=>run_convert_int_string (P:=P) w (ρ.t 21) (ρ.t 9) .i32 r (by rw[t21];rfl) t9
 rw[hrs]at hcv
 have hR:=λw=>Jh (P:=P) t9 rs ((rs.size:Int)-1) x (by omega) (by rw[show((rs.size:Int)-1).toNat=rs.size-1 by omega];exact hx) w
 clear hx hrs
 go_enter L.f152,Body.n152_ntmps ρ
 go_wp2_with (first
   | (go_at_fn (ρ.f 119);refine(Any.utf8_ValidRune { L with } _ _).mono ?_;rintro e w' ⟨rfl,hw⟩;rw[hw,hv])
   | (go_at_fn (ρ.f 137);refine(Any.strings_IndexByte { L with } _ _ _).mono ?_;rintro e w' ⟨rfl,hw⟩;rw[hw]))
 go_wp2_with (go_at_fn (ρ.f 137);refine(Any.strings_IndexByte { L with } _ _ _).mono ?_;rintro e w' ⟨rfl,hw⟩;rw[hw])
 go_step3
 go_wp2_with (go_at_fn (ρ.f 137);refine(Any.strings_IndexByte { L with } _ _ _).mono ?_;rintro e w' ⟨rfl,hw⟩;rw[hw])
 go_loopg [9,10,11,12] 1 (λg s9 _ _ _ wx=>s9=vI ((rs.size:Int)-1)/\wx=w)
 case atStart=>exact⟨rfl,rfl⟩
 case round=>
   obtain⟨rfl,rfl⟩:=hrel
   by_cases hlt:rs.size-1<cs.size
   · obtain⟨y,hy⟩:∃y,cs.data.toList[rs.size-1]? =some y:=⟨_,Lib.data_getElem? cs (rs.size-1) hlt⟩
     have hy128:=ha _ _ hy
     have hS:=λw=>Jh (P:=P) t9 cs ((rs.size:Int)-1) y (by omega) (by rw[show((rs.size:Int)-1).toNat=rs.size-1 by omega];exact hy) w
     have hl:(rs.size:Int)-1<(cs.size:Int):=by omega
     have hne2:((y.toNat:Int)==(x.toNat:Int))=false:=beq_eq_false_iff_ne.2 (by omega)
     have hwr:i64.wrap (rs.size:Int)=(rs.size:Int):=wrap_i64 (by omega) (by omega)
     have hle:(0 <=(rs.size:Int)/\(rs.size:Int) <=(cs.size:Int)):=by omega
     have hmi:Lib.indexByte (List.take (cs.size-rs.size) (List.drop rs.size cs.data.toList)) x= -1:=by
       rw[<- Lib.indexAny_one]
       refine Lib.indexAny_none λj b _ hb=>?_
       obtain⟨k,hk⟩:=List.getElem?_of_mem (List.mem_of_mem_drop (List.mem_of_mem_take (List.mem_of_getElem? hb)))
       have:=ha k b hk
       have hne:b≠x:=λe=>by rw[e]at this;omega
       simpa using hne
     clear hy
     go_wp2_with (go_at_fn (ρ.f 137);refine(Any.strings_IndexByte { L with } _ _ _).mono ?_;rintro e w' ⟨rfl,hw⟩;rw[hw])
     go_step3
     go_wp2
     go_quiet_o (fail)
     go_wp2
     go_quiet_o (exact(Any.strings_IndexByte { L with } _ _ _).mono λe w' h=>⟨h.1,_,h.2⟩)
     go_wp2
     change bodyPost P (Body.n152 ρ) (λe w'=>e=Ending.returned (Value.int i64 (-1))/\∃n,w'=wr.drewN n) Exit.ret _ _
     go_ret
     exact⟨rfl,_,rfl⟩
   · have hn: ¬ ((rs.size:Int)-1<(cs.size:Int)):=by omega
     go_wp2
     go_ret
     exact⟨rfl,0,rfl⟩
set_option maxHeartbeats 4000000 in
set_option maxRecDepth 1000000 in
theorem Bd (L:Lays.n152 P ρ)(cs:ByteArray)(ha:Asc cs)(hcs:cs.size <=1000)(w:World):
   Calls P (ρ.f 152) #[.string cs,.int .i32 65533] w λe w'=>e=.returned (vI (-1))/\bW w w':=by
 have mixed:=L.mixed
 have t3:=L.t3;have a3:=L.a3;have z3:=L.z3;have v3:=L.v3;have u3:=run_underlying L.t3
 have t4:=L.t4;have a4:=L.a4;have z4:=L.z4;have v4:=L.v4;have u4:=run_underlying L.t4
 have t9:=L.t9;have a9:=L.a9;have z9:=L.z9;have v9:=L.v9;have u9:=run_underlying L.t9
 have t21:=L.t21;have a21:=L.a21;have z21:=L.z21;have v21:=L.v21;have u21:=run_underlying L.t21
 go_enter L.f152,Body.n152_ntmps ρ
 go_wp2
 go_loopg [5,6] cs.size (λg _ _ wx=>∃i:Nat,i+g=cs.size/\wx=w.iter cs i)
 case atStart=>exact⟨0,by omega,rfl⟩
 case round=>
   obtain⟨i,hig,rfl⟩:=hrel
   by_cases hi:i<cs.size
   · have h128:=ha i _ (Lib.data_getElem? cs i hi)
     have hnx:∀ty,(Instr.next (.pointer (some ⟨w.heap.size,0,none⟩)) true ty).run P (w.iter cs i)=.ok (.tuple #[.bool true,vI i,.int .i32 ((cs[i]'hi).toNat:Nat)]) (w.iter cs (i+1)):=λty=>run_next_ascii (P:=P) w cs i ty hi h128
     generalize cs[i]'hi=y at*
     have hy:((y.toNat:Int)==65533)=false:=beq_eq_false_iff_ne.2 (by omega)
     go_wp2
     go_roundg (cs.size-(i+1))
     case measure=>omega
     case rel=>exact⟨i+1,by omega,rfl⟩
   · have e:i=cs.size:=by omega
     subst e
     have hnx:=run_next_end (P:=P) w cs cs.size
     go_wp2
     go_ret
     exact⟨rfl,(Below.refl _ _).alloc (Nat.le_refl _) _⟩
theorem Bb (L:Lays.n152 P ρ)(cs:ByteArray)(ha:Asc cs)(hcs:cs.size <=1000)(r:Int)(w:World)(h0:128 <=r):
   Calls P (ρ.f 152) #[.string cs,.int .i32 r] w λe w'=>e=.returned (vI (-1))/\bW w w':=by
 have dn:∀n,bW w (w.drewN n):=λn=>⟨rfl,rfl,rfl,Nat.le_refl _,λ_ _=>rfl⟩
 by_cases he:r=65533
 · rw[he];exact Bd L cs ha hcs w
 cases hv:Lib.validRune r with
 | false=>exact(Bc L cs r w h0 he hv).mono λe w' ⟨h1,n,h2⟩=>⟨h1,h2▸dn n⟩
 | true=>exact(Be L cs ha hcs r w h0 he hv).mono λe w' ⟨h1,n,h2⟩=>⟨h1,h2▸dn n⟩
theorem GQ (s:ByteArray)(i:Nat)(h:i<s.size)(hb:128 <=(s[i]'h).toNat):
   128 <=(Utf8.decode s i).1/\1 <=(Utf8.decode s i).2/\i+(Utf8.decode s i).2 <=s.size/\∀j,i <=j->(hj:j<i+(Utf8.decode s i).2)->∀hs:j<s.size,128 <=(s[j]'hs).toNat:=by
 have hg:∀k (hk:k<s.size),s.get! k=s[k]'hk:=λk hk=>by
   simp[ByteArray.get!,getElem!_pos,hk];rfl
 unfold Utf8.decode
 have e0:(s.get! (i+0)).toNat=(s[i]'h).toNat:=by rw[Nat.add_zero,hg i h]
 simp only[e0]
 rw[if_neg (by omega)]
 have one:∀j,i <=j->j<i+1->∀hs:j<s.size,128 <=(s[j]'hs).toNat:=λj h1 h2 hs=>by
   have:j=i:=by omega
   subst this;exact hb
 have cont:∀k,(decide (i+k<s.size)&&(s.get! (i+k)).toNat/64==2)=true->∃hk:i+k<s.size,128 <=(s[i+k]'hk).toNat:=λk hc=>by
   simp only[Bool.and_eq_true,dTx,beq_iff_eq]at hc
   refine⟨hc.1,?_⟩
   have:=hc.2
   rw[hg _ hc.1]at this
   omega
 have bad:128 <=Utf8.runeError:=by decide
 split
 · rename_i hc
   rw[Bool.and_eq_true]at hc
   obtain⟨k1,b1⟩:=cont 1 hc.2
   split
   · rename_i hc2
     refine⟨hc2,show 1 <=2 by decide,by show i+2 <=_;omega,λj h1 h2 hs=>?_⟩
     have h2:j<i+2:=h2
     have:j=i\/j=i+1:=by omega
     rcases this with rfl|rfl
     · exact hb
     · exact b1
   · exact⟨bad,by decide,by show i+1 <=_;omega,one⟩
 split
 · rename_i hc
   rw[Bool.and_eq_true,Bool.and_eq_true]at hc
   obtain⟨k1,b1⟩:=cont 1 hc.1.2
   obtain⟨k2,b2⟩:=cont 2 hc.2
   split
   · rename_i hc2
     rw[Bool.and_eq_true,dTx]at hc2
     refine⟨by show 128 <=_;omega,show 1 <=3 by decide,by show i+3 <=_;omega,λj h1 h2 hs=>?_⟩
     have h2:j<i+3:=h2
     have:j=i\/j=i+1\/j=i+2:=by omega
     rcases this with rfl|rfl|rfl
     · exact hb
     · exact b1
     · exact b2
   · exact⟨bad,by decide,by show i+1 <=_;omega,one⟩
 split
 · rename_i hc
   rw[Bool.and_eq_true,Bool.and_eq_true,Bool.and_eq_true]at hc
   obtain⟨k1,b1⟩:=cont 1 hc.1.1.2
   obtain⟨k2,b2⟩:=cont 2 hc.1.2
   obtain⟨k3,b3⟩:=cont 3 hc.2
   split
   · rename_i hc2
     rw[Bool.and_eq_true,dTx]at hc2
     refine⟨by show 128 <=_;omega,show 1 <=4 by decide,by show i+4 <=_;omega,λj h1 h2 hs=>?_⟩
     have h2:j<i+4:=h2
     have:j=i\/j=i+1\/j=i+2\/j=i+3:=by omega
     rcases this with rfl|rfl|rfl|rfl
     · exact hb
     · exact b1
     · exact b2
     · exact b3
   · exact⟨bad,by decide,by show i+1 <=_;omega,one⟩
 · exact⟨bad,by decide,by show i+1 <=_;omega,one⟩
set_option maxHeartbeats 8000000 in
set_option maxRecDepth 1000000 in
theorem yN (L:Lays.n153 P ρ)(cs:ByteArray)(ha:Asc cs)(h2:2 <=cs.size)(hcs:cs.size <=1000)(s:ByteArray)(w:World)(h8:s.size <=8):
   Calls P (ρ.f 153) #[.string s,.string cs] w λe w'=>e=.returned (vI (Lib.indexAny s.data.toList cs.data.toList))/\bW w w':=by
 have hemp:cs.toList.isEmpty=false:=by
   rw[Lib.toList_data]
   cases h:cs.data.toList with
   | nil=>have:=Lib.size_eq cs;rw[h,List.length_nil]at this;omega
   | cons _ _=>rfl
 have hn1:((cs.size:Int)==1)=false:=beq_eq_false_iff_ne.2 (by omega)
 have h8z:decide ((8:Int)<(s.size:Int))=false:=decide_eq_false (by omega)
 have t3:=L.t3;have a3:=L.a3;have z3:=L.z3;have v3:=L.v3
 have t4:=L.t4;have a4:=L.a4;have z4:=L.z4;have v4:=L.v4
 have t5:=L.t5;have a5:=L.a5;have z5:=L.z5;have v5:=L.v5
 have t9:=L.t9;have a9:=L.a9;have z9:=L.z9;have v9:=L.v9
 have t21:=L.t21;have a21:=L.a21;have z21:=L.z21;have v21:=L.v21
 have e152:∀args w,(callFunc (ρ.f 152) args).run P w=.ok (.enter (ρ.f 152) args) w:=enters_of L.f152 (by kernel_rfl) rfl
 have e226:∀args w,(callFunc (ρ.f 226) args).run P w=.ok (.enter (ρ.f 226) args) w:=enters_of L.f226 (by kernel_rfl) rfl
 have L152:Lays.n152 P ρ:= { L with }
 have HA:Aside (Asc cs):=ha
 clear ha
 go_enter L.f153,Body.n153_ntmps ρ
 go_wp2_with (go_at_fn (ρ.f 226);refine(Any.strings_shouldUseASCIISet { L with } _ _).mono ?_;rintro e w' ⟨rfl,hw⟩;rw[hw,h8z])
 go_loopg [9,10] s.size (λg _ _ wx=>∃i:Nat,i+g=s.size/\wx.heap[w.heap.size]? =some (.stringIter s i)/\bW w wx/\Lib.NoAny s.data.toList cs.data.toList i)
 case atStart=>exact⟨0,by omega,World.iter_heap w s 0,(Below.refl _ _).alloc (Nat.le_refl _) _,Lib.NoAny.zero _ _⟩
 case round=>
   obtain⟨i,hig,hit,hB,hno⟩:=hrel
   have HN:Aside (Lib.NoAny s.data.toList cs.data.toList i):=hno
   clear hno
   by_cases hi:i<s.size
   · obtain⟨x,hx⟩:∃x:UInt8,s[i]'hi=x:=⟨_,rfl⟩
     have hxl:s.data.toList[i]? =some x:=by rw[<- hx];exact Lib.data_getElem? s i hi
     by_cases hx128:x.toNat<128
     · have hnx:=λty=>run_next_ascii_at (P:=P) wr w.heap.size s i ty hit hi (by rw[hx];exact hx128)
       rw[hx]at hnx
       have hit2:=iterAt_heap wr w.heap.size s i (i+1) hit
       have hB2:=below_iterAt hB (Nat.le_refl w.heap.size) s (i+1)
       have Hx:Aside (s.data.toList[i]? =some x):=hxl
       clear hxl hx hit
       have hcon:=Lib.contains_iff_indexByte cs.data.toList x
       have hback:((x.toNat:Int)).toNat.toUInt8=x:=by simp
       cases hin:cs.data.toList.contains x
       · rw[hin]at hcon
         have hlt: ¬ ((0:Int) <=Lib.indexByte cs.data.toList x):=of_decide_eq_false hcon.symm
         clear hcon
         generalize hgw:wr.iterAt w.heap.size s (i+1)=wi at*
         go_wp2_with (go_at_fn (ρ.f 152);refine(Any.strings_IndexRune_ascii { L with } _ _ _ (by omega) (by omega)).mono ?_;rintro e w' ⟨rfl,hw⟩;rw[hw,hback])
         go_roundg (s.size-(i+1))
         case measure=>omega
         case rel=>exact⟨i+1,by omega,hit2,hB2,HN.out.succ Hx.out hin⟩
       · rw[hin]at hcon
         have hge:(0:Int) <=Lib.indexByte cs.data.toList x:=of_decide_eq_true hcon.symm
         clear hcon
         generalize hgw:wr.iterAt w.heap.size s (i+1)=wi at*
         go_wp2_with (go_at_fn (ρ.f 152);refine(Any.strings_IndexRune_ascii { L with } _ _ _ (by omega) (by omega)).mono ?_;rintro e w' ⟨rfl,hw⟩;rw[hw,hback])
         go_ret
         exact⟨by rw[Lib.indexAny_hit HN.out Hx.out hin];rfl,hB2⟩
     · have hd:=GQ s i hi (by rw[hx];omega)
       have hnx:=λty=>run_next_any_at (P:=P) wr w.heap.size s i ty hit hi
       have hit2:=iterAt_heap wr w.heap.size s i (i+(Utf8.decode s i).2) hit
       have hB2:=below_iterAt hB (Nat.le_refl w.heap.size) s (i+(Utf8.decode s i).2)
       generalize hgw:wr.iterAt w.heap.size s (i+(Utf8.decode s i).2)=wi at*
       generalize Utf8.decode s i=cn at*
       obtain⟨c,n⟩:=cn
       obtain⟨d1,d2,d3,d4⟩:=hd
       simp only at d1 d2 d3 d4 hnx hit2
       have hL:=Bb L152 cs HA.out hcs (c:Int) wi (by omega)
       have HD:Aside (∀j,i <=j->(hj:j<i+n)->∀hs:j<s.size,128 <=(s[j]'hs).toNat):=d4
       clear d4 hx hxl hit
       go_wp2_with (go_at_fn (ρ.f 152);refine hL.mono ?_;rintro e w' ⟨rfl,hw⟩)
       go_roundg (s.size-(i+n))
       case measure=>omega
       case rel=>
         rename_i hw
         refine⟨i+n,by omega,?_,aa hB2 hw hB2.size,?_⟩
         · rw[hw.block _ (Array.getElem?_eq_some_iff.1 hit2).1];exact hit2
         · intro j b hj hjb
           by_cases hji:j<i
           · exact HN.out j b hji hjb
           · have hjs:j<s.size:=by omega
             have h1:=HD.out j (by omega) hj hjs
             have h2:s.data.toList[j]? =some (s[j]'hjs):=Lib.data_getElem? s j hjs
             rw[h2]at hjb
             rw[Option.some.inj hjb]at h1
             rw[Bool.eq_false_iff]
             intro hc
             rw[List.contains_iff_mem]at hc
             obtain⟨k,hk⟩:=List.getElem?_of_mem hc
             have:=HA.out k b hk
             omega
   · have hnx:=λty=>run_next_end_at (P:=P) wr w.heap.size s i ty hit hi
     go_wp2
     go_ret
     have e:i=s.size:=by omega
     have hno:=HN.out
     rw[e]at hno
     exact⟨by rw[Lib.indexAny_none (by rw[<- Lib.size_eq];exact hno)];rfl,hB⟩
theorem qR (cs:List UInt8)(h2:2 <=cs.length)(hcs:cs.length <=1000)(ha:∀c∈cs,c.toNat<128)(s:List UInt8)(hs:s.length<4294967281)(w:World):
   Cf dI #[vS s,vS cs] w (Ret λv w'=>v=vI (Lib.indexAny s cs)/\bW w w'):=by
 have hsz:∀s,(mkS s).size=s.length:=λs=>by show s.toArray.size=_;simp
 have hA:Asc (mkS cs):=λj b h=>ha b (List.mem_of_getElem? h)
 by_cases h8:(mkS s).size <=8
 · exact(yN Tryz.lays153 (mkS cs) hA (by rw[hsz];exact h2) (by rw[hsz];exact hcs) (mkS s) w h8).mono λe w' ⟨h1,h2⟩=>⟨_,h1,rfl,h2⟩
 · have hi:(prog.info? (Tryz.lays153_ren.t 116)).map (λi=>(i.zero,i.size))=some (some (.agg (Array.replicate 256 (.bool false))),256):=by kernel_rfl
   refine(Any.strings_IndexAny_long Tryz.lays153 (zero_of_info hi).1 (zero_of_info hi).2 (mkS s) (mkS cs) w (by rw[hsz];exact h2) (by omega) (by rw[hsz];exact hs) (by rw[hsz];omega) hA).mono λe w' ⟨h1,h2⟩=>⟨_,h1,rfl,?_⟩
   rw[h2]
   exact((Below.refl _ _).alloc (Nat.le_refl _) _).alloc (by simp) _
theorem tp (s:List UInt8)(hs:s.length<4294967281)(w:World):
   Cf dI #[vS s,vS [32,9]] w (Ret λv w'=>v=vI (Lib.indexAny s [32,9])/\bW w w'):=qR [32,9] (by decide) (by decide) (by decide) s hs w
end
abbrev Rul:=Int×List UInt8
def vf (k:Int):List UInt8:=if k=2 then[42,46]else if k=3 then[33]else[]
def vn (r:Rul):List UInt8:=vf r.1++r.2
def rE (s:List UInt8):List UInt8:=s.takeWhile λc=> !tq c
def nT (u:List UInt8):Rul:=if Lib.hasPrefix u [42,46]=true then(2,u.drop 2)else if Lib.hasPrefix u [33]=true then(3,u.drop 1)else(1,u)
def NX (k:Int)(o:Option Hst):Rul×Bool×Int:=match o with
 | none=>((0,[]),false,51)
 | some h=>if h.kind=1/\ ¬ (k=3/\(aC h).length<2)then((k,h.name),true,0)else((0,[]),false,51)
def nU (s:List UInt8):Rul×Bool×Int:=
 if trimB s=[]\/Lib.hasPrefix (trimB s) [47,47]=true then((0,[]),false,0)else NX (nT (rE (trimB s))).1 (bR (nT (rE (trimB s))).2)
def Cn (r:Rul):List Value:=[vI r.1,vS r.2]
def Kk (r:Rul):Value:=.agg (Cn r).toArray
def Pn (x:Rul×Bool×Int):Value:=.tuple #[Kk x.1,.bool x.2.1,vI x.2.2]
def Hr (r q:Rul):Bool:=(r.1==q.1)&&((r.2==q.2)&&true)
theorem Ki (r q:Rul):Hr r q=true ↔ r=q:=by
 unfold Hr
 rw[Bool.and_eq_true,Bool.and_true,beq_iff_eq,beq_iff_eq]
 exact⟨λh=>Prod.ext h.1 h.2,λh=>by rw[h];exact⟨rfl,rfl⟩⟩
def KT (r:Rul):Bool:=((nU (vn r)).2.2==0)&&((nU (vn r)).2.1&&Hr (nU (vn r)).1 r)
theorem LG (c:UInt8):([32,9]:List UInt8).contains c=tq c:=by
 unfold tq
 rw[Bool.eq_iff_iff];simp
theorem Jg:∀s:List UInt8,(0 <=Lib.indexAny s [32,9]->(Lib.indexAny s [32,9]).toNat <=s.length/\s.take (Lib.indexAny s [32,9]).toNat=rE s)/\(¬ 0 <=Lib.indexAny s [32,9]->rE s=s)
 | []=>⟨λh=>absurd h (by decide),λ_=>rfl⟩
 | c::s=>by
   have ih:=Jg s
   unfold Lib.indexAny rE
   rw[LG,List.takeWhile_cons]
   cases hb:tq c with
   | true=>exact⟨λ_=>⟨by simp,by simp⟩,λh=>absurd (show(0:Int) <=0 by decide) h⟩
   | false=>
     simp only[Bool.not_false,if_true,Bool.false_eq_true,if_false]
     have hge:=Lib.indexAny_ge [32,9] s
     generalize Lib.indexAny s [32,9]=n at*
     by_cases hn:n= -1
     · subst hn
       exact⟨λh=>absurd h (by decide),λ_=>by rw[show s.takeWhile (λc=> !tq c)=s from ih.2 (by decide)]⟩
     · have h0:0 <=n:=by omega
       rw[if_neg (by simpa using hn)]
       obtain⟨k,rfl⟩:=Int.eq_ofNat_of_zero_le h0
       refine⟨λ_=>?_,λh=>absurd (show(0:Int) <=(k:Int)+1 by omega) h⟩
       have e:((k:Int)+1).toNat=k+1:=by omega
       have h1:=ih.1 h0
       rw[Int.toNat_natCast]at h1
       rw[e,List.take_succ_cons,h1.2]
       exact⟨by simp;omega,rfl⟩
theorem KJ (s:List UInt8):(trimB s).length <=s.length:=tO _ _
theorem Iq (s:List UInt8):(rE s).length <=s.length:=ko _ _
theorem LK (s:List UInt8):(nT s).2.length <=s.length:=by
 unfold nT;split
 · simp
 split
 · simp
 · exact Nat.le_refl _
theorem zX {s:List UInt8}{h:Hst}(e:bR s=some h):h.name.length <=253:=by
 unfold bR at e
 split at e
 · split at e
   · cases hv:v6A ((s.drop 1).take (s.length-2))with
     | none=>rw[hv]at e;cases e
     | some a=>rw[hv]at e;cases e;exact Nat.zero_le _
   · cases e
 split at e
 · cases hv:v4V s with
   | none=>rw[hv]at e;cases e
   | some a=>rw[hv]at e;cases e;exact Nat.zero_le _
 split at e
 · rename_i h1;cases e;simp only[cF,List.length_map];exact h1.1
 · cases e
theorem mH:Whl prog aG 2:=⟨⟨_,_,yh⟩,by kernel_rfl⟩
theorem EY (r:Rul):uX (Cn r):=br rfl (br rfl jZ)
theorem I4:prog.eqGuardType prog.depth aG=false:=by kernel_rfl
theorem Nz (r q:Rul):eqV prog 10000 aG (Kk r) (Kk q)=some (Hr r q):=by
 obtain⟨a,b⟩:=r
 obtain⟨c,d⟩:=q
 kernel_rfl
theorem PG (r q:Rul){x y:Operand}(w:World):((do eqGuard .eql aG x y (Kk r) (Kk q);binOp .eql aG (Kk r) (Kk q):Sem Value)).run prog w=.ok (.bool (Hr r q)) w:=
 Ae I4 (Nz r q) w
theorem MT (s p:List UInt8)(w:World):Cf dy #[vS s,vS p] w (Ret λv w'=>v=.bool (Lib.hasPrefix s p)/\w'=w):=
 (Tryz.strings_HasPrefix (mkS s) (mkS p) w).mono λe w' ⟨h1,h2⟩=>⟨_,h1,rfl,h2⟩
theorem Ej (s p:List UInt8)(w:World):Cf bS #[vS s,vS p] w (Ret λv w'=>v=.tuple #[vS (Lib.trimPrefix s p),.bool (Lib.hasPrefix s p)]/\w'=w):=
 (Tryz.strings_CutPrefix (mkS s) (mkS p) w).mono λe w' ⟨h1,h2⟩=>⟨_,h1,rfl,h2⟩
theorem nZ (k:Int)(w:World):Cf mh #[vI k] w (Ret λv w'=>v=vS (vf k)/\w'=w):=by
 apply BI
 unfold uG vf
 refine ab.of (λh=>⟨by rw[if_pos (eq_of_beq h)],rfl⟩) (λh=>?_)
 rw[if_neg (beq_eq_false_iff_ne.1 h)]
 exact ab.of (λh=>⟨by rw[if_pos (eq_of_beq h)],rfl⟩) (λh=>⟨by rw[if_neg (beq_eq_false_iff_ne.1 h)],rfl⟩)
theorem yW (u:List UInt8)(w:World):Cf mg #[vS u] w (Ret λv w'=>v=.tuple #[vI (nT u).1,.string (mkS (nT u).2)]/\w'=w):=by
 apply xV
 refine⟨λm i w'=>w'=w/\(m=2/\i=0\/m=1/\i=1/\ ¬ Lib.hasPrefix u [42,46]=true\/m=0/\i=2/\ ¬ Lib.hasPrefix u [42,46]=true/\ ¬ Lib.hasPrefix u [33]=true),⟨2,rfl,.inl ⟨rfl,rfl⟩⟩,?_⟩
 intro m i
 refine aX.of ?_ _
 rintro w' ⟨hw',h⟩
 rw[hw'];clear hw'
 rcases h with⟨rfl,rfl⟩|⟨rfl,rfl,h1⟩|⟨rfl,rfl,h1,h2⟩
 · refine ab.yes (by decide) ⟨2,by kernel_rfl,?_⟩
   refine ax (nZ 2 w) ?_
   rintro _ w1 ⟨rfl,hw1⟩
   rw[hw1];clear hw1
   refine⟨_,rfl,?_⟩
   refine ax (Ej u (vf 2) w) ?_
   rintro _ w1 ⟨rfl,hw1⟩
   rw[hw1];clear hw1
   refine⟨_,_,rfl,?_⟩
   show ab (Lib.hasPrefix u [42,46]) _ _
   refine ab.of (λh=>⟨?_,rfl⟩) (λh=>⟨1,by decide,rfl,.inr (.inl ⟨rfl,rfl,by rw[h];decide⟩)⟩)
   have e:Lib.trimPrefix u (vf 2)=u.drop 2:=by exact if_pos h
   unfold nT;rw[if_pos h,e]
 · refine ab.yes (by decide) ⟨3,by kernel_rfl,?_⟩
   refine ax (nZ 3 w) ?_
   rintro _ w1 ⟨rfl,hw1⟩
   rw[hw1];clear hw1
   refine⟨_,rfl,?_⟩
   refine ax (Ej u (vf 3) w) ?_
   rintro _ w1 ⟨rfl,hw1⟩
   rw[hw1];clear hw1
   refine⟨_,_,rfl,?_⟩
   show ab (Lib.hasPrefix u [33]) _ _
   refine ab.of (λh=>⟨?_,rfl⟩) (λh=>⟨0,by decide,rfl,.inr (.inr ⟨rfl,rfl,h1,by rw[h];decide⟩)⟩)
   have e:Lib.trimPrefix u (vf 3)=u.drop 1:=by exact if_pos h
   unfold nT;rw[if_neg h1,if_pos h,e]
 · exact ab.no (by decide) ⟨by unfold nT;rw[if_neg h1,if_neg h2],rfl⟩
theorem Dp (r:Rul)(hr:r.2.length <=4611686018427387904)(w:World):Cf qI #[Kk r] w (Ret λv w'=>v=vS (vn r)/\bW w w'):=by
 obtain⟨k,n⟩:=r
 apply BH
 intro k1 w1 hk1 hw1
 have hB1:=(hw1▸ai w _:bW w w1)
 have h1:am w1 k1 aG (Cn (k,n)):=am.new hk1 hw1
 have hm:(vf k).length <=2:=by unfold vf;split;decide;split;decide;decide
 refine⟨rfl,k,λu hu=>(h1.below hu).load1 bT rfl rfl,vf k,λu hu=>?_,rfl,n,λu hu=>(h1.below hu).load1 aw rfl rfl,fits (by simp at hr;omega),?_⟩
 · refine gT ?_ hu
   exact(nZ k u).mono λe w' ⟨v,h1,h2,h3⟩=>⟨v,h1,h2,h3▸Below.refl _ _⟩
 rintro _ rfl wq hq
 exact⟨rfl,aa hB1 hq hB1.size⟩
def KY (s:List UInt8)(w:World)(v:Value)(w':World):Prop:=v=Pn (nU s)/\bW w w'
theorem EX (r:Rul){w w':World}{k2:Nat}{vs:List Value}(h2:am w' k2 aG vs)(hl:vs.length=2)(hb:bW w w')(hk:w.heap.size <=k2){b:Bool}{e:Int}{K:Value->World->Prop}
   (hK:∀wx,bW w wx->K (Pn (r,b,e)) wx):
   ∃(wx:World),(Instr.storeAt aG (.pointer (some ⟨k2,0,none⟩)) (Kk r)).run prog w'=.ok () wx/\
     ∃(n0:Int) (s1:List UInt8),(bG aG (.pointer (some ⟨k2,0,none⟩))).run prog wx=.ok (.agg #[vI n0,vS s1]) wx/\
       K (.tuple #[.agg #[vI n0,vS s1],.bool b,vI e]) wx:=by
 obtain⟨wx,hs,h3,hg⟩:=mH.store0 (cs:=Cn r) rfl (EY r) h2 hl
 exact⟨wx,hs,r.1,r.2,am.res (mH.load0 h3 rfl),hK wx (Below.put hb hg hk)⟩
theorem Do (s:List UInt8)(hs:s.length <=2000000000)(w:World)(he:Env w):Cf qH #[vS s] w (Ret (KY s w)):=by
 apply BG
 intro k2 w2 hk2 hw2
 have hB2:=(hw2▸ai w _:bW w w2)
 have h2:am w2 k2 aG (Cn (0,[])):=am.new hk2 hw2
 have hk2w:w.heap.size <=k2:=by omega
 have tl:=KJ s
 refine ax (jy s (by omega) w2) ?_
 rintro _ w3 ⟨rfl,hb3⟩
 have hB3:=aa hB2 hb3 hB2.size
 have h23:=h2.below hb3
 refine⟨_,rfl,?_⟩
 have hV:nU s=if trimB s=[]\/Lib.hasPrefix (trimB s) [47,47]=true then((0,[]),false,0)else NX (nT (rE (trimB s))).1 (bR (nT (rE (trimB s))).2):=rfl
 generalize trimB s=t at*
 refine wZ (w:=w3) (¬ (t=[]\/Lib.hasPrefix t [47,47]=true)) ?_ (λhc=>?_)
 · refine qC (w:=w3) (decide (t=[]\/Lib.hasPrefix t [47,47]=true)) ?_ ?_
   · refine ab.of (λh=>⟨rfl,by rw[decide_eq_true (.inl (eq_of_beq h))]⟩) (λh=>?_)
     refine ax (MT t [47,47] w3) ?_
     rintro _ w4 ⟨rfl,hw4⟩
     refine⟨_,rfl,hw4,?_⟩
     rw[Bool.eq_iff_iff,dTx]
     exact⟨.inr,λhx=>hx.elim (λhx=>absurd hx (beq_eq_false_iff_ne.1 h)) id⟩
   · refine ab.of (λh=>?_) (λh=>⟨rfl,of_decide_eq_false h⟩)
     exact EX (0,[]) h23 rfl hB3 hk2w λwx hb=>⟨by rw[hV,if_pos (of_decide_eq_true h)],hb⟩
 · rw[if_neg hc]at hV
   have hu:=Jg t
   have hul:=Iq t
   refine⟨λu w'=>u=rE t/\bW w3 w',?_,?_⟩
   · refine ax (tp t (by omega) w3) ?_
     rintro _ w4 ⟨rfl,hb4⟩
     refine⟨_,rfl,ab.of (λh=>?_) (λh=>?_)⟩
     · have h:=of_decide_eq_true h
       refine⟨⟨h,by have:=(hu.1 h).1;omega⟩,?_⟩
       rintro _ rfl
       exact⟨(hu.1 h).2,hb4⟩
     · exact⟨(hu.2 (of_decide_eq_false h)).symm,hb4⟩
   · intro u
     refine aX.of ?_ _
     rintro w4 ⟨rfl,hb4⟩
     have hB4:=aa hB3 hb4 hB3.size
     have h24:=h23.below hb4
     refine ax (yW (rE t) w4) ?_
     rintro _ w5 ⟨rfl,hw5⟩
     rw[hw5];clear hw5
     have hkl:=LK (rE t)
     refine⟨_,_,rfl,?_⟩
     generalize nT (rE t)=kn at*
     obtain⟨k,n⟩:=kn
     refine ax (gP n (by simp at hkl;omega) w4 (he.step hB4)) ?_
     rintro _ w6 ⟨rfl,hb6⟩
     have hB6:=aa hB4 hb6 hB4.size
     rw[jv]
     refine⟨_,_,rfl,?_⟩
     have hok:=nS λx hx=>gO (s:=n) hx
     refine aY.new (zs:=iq.cells) (cs:=((bR n).getD iq).cells) rfl (Hst.len hok) (Hst.one _) w6 λk8 w8 hk8 h8 hb8=>?_
     have hB8:=aa hB6 hb8 hB6.size
     have h28:=(h24.below hb6).below hb8
     simp only at hV
     refine lJ (λw'=>∃h:Hst,bR n=some h/\nU s=((k,h.name),true,0)/\bW w8 w') ?_ ?_
     · refine wH (λb w'=>b=decide (nU s=((0,[]),false,51))/\bW w8 w'/\(b=false->∃h:Hst,bR n=some h/\nU s=((k,h.name),true,0))) ?_ ?_
       · cases hn:bR n with
         | none=>
           rw[hn]at hV
           exact ab.yes rfl ⟨by rw[hV];rfl,Below.refl _ _,λhx=>by cases hx⟩
         | some h=>
           rw[hn]at hV h8 hok
           have hV:nU s=if h.kind=1/\ ¬ (k=3/\(aC h).length<2)then((k,h.name),true,0)else((0,[]),false,51):=hV
           have bad: ¬ (h.kind=1/\ ¬ (k=3/\(aC h).length<2))->(true:Bool)=decide (nU s=((0,[]),false,51)):=λhx=>by rw[hV,if_neg hx];rfl
           have good:(h.kind=1/\ ¬ (k=3/\(aC h).length<2))->(false:Bool)=decide (nU s=((0,[]),false,51))/\(∃h':Hst,some h=some h'/\nU s=((k,h'.name),true,0)):=λhx=>by
             rw[hV,if_pos hx];exact⟨(decide_eq_false (by intro hx;have:=congrArg (λz=>z.2.1) hx;cases this)).symm,h,rfl,rfl⟩
           refine ab.no rfl ⟨rfl,_,h8.load1 bT rfl rfl,ab.of (λc1=>⟨bad λhx=>?_,Below.refl _ _,λhx=>by cases hx⟩) (λc1=>?_)⟩
           · have c1:(h.kind !=1)=true:=c1
             rw[hx.1]at c1;simp at c1
           have c1:(h.kind !=1)=false:=c1
           have c1:h.kind=1:=by simpa using c1
           refine ab.of (λc2=>?_) (λc2=>?_)
           · have c2:k=3:=eq_of_beq c2
             refine⟨_,aY.load0 h8 (Hst.len hok),?_⟩
             have hnl:h.name.length <=1000000000:=by have:=zX hn;omega
             refine ax (eW hok hnl w8 (he.step hB8)) ?_
             rintro _ w9 ⟨a,l,c,rfl,ho,-,hb9⟩
             refine⟨_,_,_,rfl,?_⟩
             have ho1:=ho.len
             simp only[Option.getD_some]at ho1
             rw[ho1]
             by_cases c3:(aC h).length<2
             · try dsimp only
               rw[decide_eq_true (show(((aC h).length:Nat):Int)<2 by omega)]
               exact⟨bad λhx=>hx.2 ⟨c2,c3⟩,hb9,λhx=>by cases hx⟩
             · try dsimp only
               rw[decide_eq_false (show ¬ (((aC h).length:Nat):Int)<2 by omega)]
               have g:=good ⟨c1,λhx=>c3 hx.2⟩
               exact⟨g.1,hb9,λ_=>g.2⟩
           · have g:=good ⟨c1,λhx=>by rw[hx.1]at c2;cases c2⟩
             exact⟨g.1,Below.refl _ _,λ_=>g.2⟩
       · rintro b w9 ⟨hb,hb9,hg⟩
         refine ab.of (λc=>?_) (λc=>?_)
         · rw[c,eq_comm,dTx]at hb
           exact EX (0,[]) (h28.below hb9) rfl (aa hB8 hb9 hB8.size) hk2w λwx hb'=>⟨by rw[hb],hb'⟩
         · obtain⟨h,e1,e2⟩:=hg c
           exact⟨h,e1,e2,hb9⟩
     · rintro w9 ⟨h,e1,e2,hb9⟩
       rw[e1]at h8
       refine⟨rfl,_,(h8.below hb9).load1 aw rfl rfl,?_⟩
       exact EX (k,h.name) (h28.below hb9) rfl (aa hB8 hb9 hB8.size) hk2w λwx hb'=>⟨by rw[e2],hb'⟩
theorem jw (p:List UInt8):∀s:List UInt8,Lib.indexAny s p=if dC p s=s.length then -1 else((dC p s:Nat):Int)
 | []=>rfl
 | b::l=>by
   have ih:=jw p l
   have hle:=rJ p l
   have e:dC p (b::l)=if p.contains b then 0 else dC p l+1:=by
     unfold dC;rw[List.takeWhile_cons];cases p.contains b <;> rfl
   have e2:Lib.indexAny (b::l) p=if p.contains b then(0:Int)else if Lib.indexAny l p== -1 then -1 else Lib.indexAny l p+1:=rfl
   by_cases hb:p.contains b=true
   · rw[if_pos hb]at e e2
     rw[e2,e,List.length_cons,if_neg (by omega)];rfl
   · rw[if_neg hb]at e e2
     rw[e2,e,ih,List.length_cons]
     by_cases h:dC p l=l.length
     · simp only[h,if_true];rfl
     · have h2: ¬ dC p l+1=l.length+1:=by omega
       have h3:(((dC p l:Nat):Int)== -1)=false:=by rw[beq_eq_false_iff_ne];omega
       simp only[if_neg h,if_neg h2,h3]
       simp
theorem LA (s:List UInt8)(c:UInt8):Lib.hasPrefix s [c]=decide (s.head?=some c):=by
 cases s with
 | nil=>rfl
 | cons d r=>
   show(c==d&&true)=_
   rw[Bool.and_true,List.head?_cons]
   by_cases h:c=d
   · rw[h,beq_self_eq_true,decide_eq_true rfl]
   · rw[beq_eq_false_iff_ne.2 h,decide_eq_false (λe=>h (Option.some.inj e).symm)]
def eF (s:List UInt8)(sec:Bool):Hst×Int×Int:=match vb s with
 | none=>(iq,0,31)
 | some h=>match EU sec (s.drop (fh s))with
   | none=>(iq,0,42)
   | some n=>(h,n,0)
theorem Kb (s:List UInt8)(sec:Bool):(eF s sec).1.ok:=by
 unfold eF
 split
 · rfl
 · rename_i h hh
   split
   · rfl
   · exact FQ hh
theorem HH (r:List UInt8)(sec:Bool):Mr r sec=if(eF (r.take (dC [47,63,35] r)) sec).2.2≠0 then(li,(eF (r.take (dC [47,63,35] r)) sec).2.2)
   else if qY (vk (r.drop (dC [47,63,35] r)))=true then(⟨sec,(eF (r.take (dC [47,63,35] r)) sec).1,(eF (r.take (dC [47,63,35] r)) sec).2.1,vk (r.drop (dC [47,63,35] r))⟩,0)else(li,43):=by
 unfold Mr eF
 generalize vb (r.take (dC [47,63,35] r))=o
 cases o with
 | none=>rfl
 | some h=>
   show(match EU sec ((r.take (dC [47,63,35] r)).drop (fh (r.take (dC [47,63,35] r))))with|none=>_|some n=>_)=_
   generalize EU sec ((r.take (dC [47,63,35] r)).drop (fh (r.take (dC [47,63,35] r))))=q
   cases q <;> rfl
theorem Ie (b:Bool){h:Hst}(o:h.ok)(n:Int)(p:List UInt8)(w:World):(Instr.build ba #[(0,.bool b),(1,h.v),(2,vI n),(3,vS p)]).run prog w=.ok (⟨b,h,n,p⟩:Url).v w:=by
 obtain⟨kd,nm,a⟩:=h
 obtain⟨x0,x1,x2,x3,x4,x5,x6,x7,x8,x9,x10,x11,x12,x13,x14,x15,rfl⟩:=fg a o
 kernel_rfl
theorem uh (s:List UInt8)(c:UInt8)(w:World):Cf dz #[vS s,.int .u8 (c.toNat:Nat)] w (Ret λv w'=>v=vI (if dC [c] s=s.length then -1 else((dC [c] s:Nat):Int))/\w'=w):=by
 refine(Tryz.strings_IndexByte (mkS s) (c.toNat:Nat) w).mono ?_
 rintro _ _ ⟨rfl,rfl⟩
 refine⟨_,rfl,?_,rfl⟩
 rw[<- jw,Lib.indexAny_one]
 simp only[Int.toNat_natCast]
 rw[show c.toNat.toUInt8=c by simp];rfl
theorem uw (s p:List UInt8)(hs:s.length <=9223372036854775800)(hp:p.length <=9223372036854775800)(w:World):Cf ml #[vS s,vS p] w (Ret λv w'=>(∃(x:List UInt8) (b:Bool),v=.tuple #[vS x,.bool b]/\(b=decide (cF (s.take p.length)=cF p))/\(b=true->x=s.drop p.length))/\bW w w'):=by
 apply BN
 refine lJ (λw'=>cF (s.take p.length)=cF p/\bW w w') ?_ ?_
 · refine ab.of (λh=>⟨⟨s,false,rfl,?_,λe=>by cases e⟩,Below.refl _ _⟩) (λh=>?_) <;> simp only[dTx,dFx]at h
   · rw[eq_comm,dFx]
     intro e
     have:=QS e
     simp[cF]at this;omega
   · refine⟨⟨by omega,by omega⟩,?_⟩
     rw[Int.toNat_natCast]
     rintro _ rfl
     refine ax (mv _ p (by simp;omega) hp w) ?_
     rintro _ w1 ⟨rfl,hb1⟩
     refine⟨_,rfl,ab.of (λc=>⟨⟨s,false,rfl,?_,λe=>by cases e⟩,hb1⟩) (λc=>⟨?_,hb1⟩)⟩
     · rw[eq_comm,dFx]
       simpa using c
     · simpa using c
 · rintro w1 ⟨h,hb1⟩
   have hl:=QS h
   simp[cF]at hl
   refine⟨⟨by omega,by omega⟩,?_⟩
   rw[Int.toNat_natCast]
   rintro _ rfl
   exact⟨⟨_,true,rfl,(decide_eq_true h).symm,λ_=>rfl⟩,hb1⟩
theorem DS (s:List UInt8)(hs:s.length <=9223372036854775000)(w:World):Cf qL #[vS s] w (Ret λv w'=>v=.tuple #[vS (s.take (fh s)),vS (s.drop (fh s))]/\bW w w'):=by
 apply BO
 refine ax (MT s [91] w) ?_
 rintro _ w1 ⟨rfl,hw1⟩
 rw[hw1];clear hw1
 refine⟨_,rfl,?_⟩
 rw[LA]
 refine ab.of (λh=>?_) (λh=>?_) <;> simp only[dTx,dFx]at h
 · have hE:fh s=min (dC [93] s+1) s.length:=by unfold fh;rw[if_pos h]
   have hf:=rJ [93] s
   refine ax (uh s 93 w) ?_
   rintro _ w2 ⟨rfl,hw2⟩
   rw[hw2];clear hw2
   refine⟨_,rfl,?_⟩
   by_cases c:dC [93] s=s.length
   · rw[if_pos c]
     refine ab.no rfl ⟨?_,Below.refl _ _⟩
     rw[show fh s=s.length by omega,List.take_length,List.drop_length]
   · rw[if_neg c]
     have e:i64.wrap (((dC [93] s:Nat):Int)+1)=((fh s:Nat):Int):=by rw[wrap_i64 (by omega) (by omega)];omega
     try dsimp only
     rw[e,Int.toNat_natCast]
     refine ab.yes (decide_eq_true (by omega)) ⟨⟨by omega,by omega⟩,?_⟩
     rintro _ rfl
     refine⟨⟨by omega,by omega⟩,?_⟩
     rintro _ rfl w3 hb3
     exact⟨rfl,hb3⟩
 · have hE:fh s=dC [58] s:=by unfold fh;rw[if_neg h]
   have hf:=rJ [58] s
   refine ax (uh s 58 w) ?_
   rintro _ w2 ⟨rfl,hw2⟩
   rw[hw2];clear hw2
   refine⟨_,rfl,?_⟩
   rw[<- hE]
   by_cases c:fh s=s.length
   · rw[if_pos c]
     refine ab.no rfl ⟨?_,Below.refl _ _⟩
     rw[c,List.take_length,List.drop_length]
   · try dsimp only
     rw[if_neg c,Int.toNat_natCast]
     refine ab.yes (decide_eq_true (by omega)) ⟨⟨by omega,by omega⟩,?_⟩
     rintro _ rfl
     refine⟨⟨by omega,by omega⟩,?_⟩
     rintro _ rfl w3 hb3
     exact⟨rfl,hb3⟩
theorem DT (s:List UInt8)(sec:Bool)(hs:s.length <=2000000000)(w:World)(he:Env w):Cf qM #[vS s,vI (if sec then 443 else 80)] w (Ret λv w'=>v=.tuple #[(eF s sec).1.v,vI (eF s sec).2.1,vI (eF s sec).2.2]/\bW w w'):=by
 apply BP
 intro k4 w4 hk4 hw4
 have hB4:=(hw4▸ai w _:bW w w4)
 have h4:am w4 k4 ae iq.cells:=am.new hk4 hw4
 refine ax (DS s (by omega) w4) ?_
 rintro _ w5 ⟨rfl,hb5⟩
 have hB5:=aa hB4 hb5 hB4.size
 refine⟨_,_,rfl,?_⟩
 have hW:vb s=if s.drop (fh s)≠[]/\(s.drop (fh s)).head?≠some 58 then none else bR (s.take (fh s)):=rfl
 have hV:eF s sec=match vb s with
   | none=>(iq,0,31)
   | some h=>match EU sec (s.drop (fh s))with
     | none=>(iq,0,42)
     | some n=>(h,n,0):=rfl
 have hcl:(s.take (fh s)).length <=s.length:=by simp;omega
 have hql:(s.drop (fh s)).length <=s.length:=by simp
 generalize s.take (fh s)=c at*
 generalize s.drop (fh s)=q at*
 refine ax (gP c (by omega) w5 (he.step hB5)) ?_
 rintro _ w6 ⟨rfl,hb6⟩
 have hB6:=aa hB5 hb6 hB5.size
 have hok:=nS λx hx=>gO (s:=c) hx
 rw[jv]
 refine⟨_,_,rfl,?_⟩
 refine aY.new (zs:=iq.cells) (cs:=((bR c).getD iq).cells) rfl (Hst.len hok) (Hst.one _) w6 λk9 w9 hk9 h9 hb9=>?_
 have hB9:=aa hB6 hb9 hB6.size
 have h49:=((h4.below hb5).below hb6).below hb9
 have hk4w:w.heap.size <=k4:=by omega
 have bad:∀{e:Int} {wx:World},bW w9 wx->eF s sec=(iq,0,e)->∃wy,(Instr.storeAt ae (.pointer (some ⟨k4,0,none⟩)) (.agg bF)).run prog wx=.ok () wy/\
     ∃vr:Value,(bG ae (.pointer (some ⟨k4,0,none⟩))).run prog wy=.ok vr wy/\(Value.tuple #[vr,vI 0,vI e]=.tuple #[(eF s sec).1.v,vI (eF s sec).2.1,vI (eF s sec).2.2]/\bW w wy):=fun{e wx} hb he=>
   aY.fin (K:=λvr wy=>Value.tuple #[vr,vI 0,vI e]=.tuple #[(eF s sec).1.v,vI (eF s sec).2.1,vI (eF s sec).2.2]/\bW w wy) (cs:=iq.cells) rfl (Hst.one _) (h49.below hb) rfl (aa hB9 hb hB9.size) hk4w λwy hy=>⟨by rw[he];rfl,hy⟩
 have good:∀{h:Hst} {n:Int} {wx:World},bR c=some h->bW w9 wx->eF s sec=(h,n,0)->∃v,(Instr.loadAt ae (.pointer (some ⟨k9,0,none⟩))).run prog wx=.ok v wx/\∃wy,(Instr.storeAt ae (.pointer (some ⟨k4,0,none⟩)) v).run prog wx=.ok () wy/\
     ∃vr:Value,(bG ae (.pointer (some ⟨k4,0,none⟩))).run prog wy=.ok vr wy/\(Value.tuple #[vr,vI n,vI 0]=.tuple #[(eF s sec).1.v,vI (eF s sec).2.1,vI (eF s sec).2.2]/\bW w wy):=fun{h n wx} hh hb he=>by
   rw[hh]at h9 hok
   exact⟨_,aY.load0 (h9.below hb) (Hst.len hok),aY.fin (K:=λvr wy=>Value.tuple #[vr,vI n,vI 0]=.tuple #[(eF s sec).1.v,vI (eF s sec).2.1,vI (eF s sec).2.2]/\bW w wy) (cs:=h.cells) (Hst.len hok) (Hst.one _) (h49.below hb) rfl (aa hB9 hb hB9.size) hk4w λwy hy=>⟨by rw[he];rfl,hy⟩⟩
 refine lJ (λw'=>w'=w9/\∃h,bR c=some h/\vb s=some h) ?_ ?_
 · refine qC (w:=w9) (decide (vb s=none)) ?_ ?_
   · have hc:∀(c1:bR c=none),vb s=none:=λc1=>by rw[hW,c1];split <;> rfl
     refine ab.of (λh=>⟨rfl,?_⟩) (λh=>ab.of (λh2=>⟨⟨by decide,?_⟩,rfl,?_⟩) (λh2=>⟨rfl,?_⟩))
     · have:bR c=none:=by
         cases hv:bR c with
         | none=>rfl
         | some x=>rw[hv]at h;cases h
       rw[decide_eq_true (hc this)]
     all_goals
       have hv:bR c≠none:=λhv=>by rw[hv]at h;cases h
     · have:q≠[]:=by simpa using h2
       have:=List.length_pos_iff.2 this
       omega
     · have hne:q≠[]:=by simpa using h2
       have hl:=List.length_pos_iff.2 hne
       have hb:=byte_at (s:=q) (k:=0) hl
       rw[show((0:Nat):Int)=0 from rfl]at hb
       have hu:=zI q[0] 58
       rw[show(((58:UInt8).toNat:Nat):Int)=58 from rfl]at hu
       have hh:q.head?=some q[0]:=by rw[List.head?_eq_getElem?,List.getElem?_eq_getElem hl]
       have e:((dp q 0) !=(58:Int))= !(q[0]==58):=by rw[hb];show(!_)=_;rw[hu]
       rw[e,hW,hh]
       by_cases c:q[0]=58
       · rw[if_neg (by rintro⟨-,hx⟩;exact hx (by rw[c])),decide_eq_false hv,c];rfl
       · rw[if_pos ⟨hne,λhx=>c (Option.some.inj hx)⟩,beq_eq_false_iff_ne.2 c];rfl
     · have:q=[]:=by simpa using h2
       rw[hW,if_neg (λhx=>hx.1 this),decide_eq_false hv]
   · refine ab.of (λh=>?_) (λh=>⟨rfl,?_⟩)
     · exact bad (Below.refl _ _) (by rw[hV,of_decide_eq_true h])
     · have hn:=of_decide_eq_false h
       cases hw:vb s with
       | none=>exact absurd hw hn
       | some x=>
         refine⟨x,?_,rfl⟩
         rw[hW]at hw
         split at hw
         · cases hw
         · exact hw
 · rintro w10 ⟨rfl,h,hv,hw⟩
   rw[hw]at hV
   refine ab.of (λc1=>?_) (λc1=>?_)
   · have c1:q=[]:=by simpa using c1
     exact good hv (Below.refl _ _) (by rw[hV,c1];rfl)
   · have c1:q≠[]:=by simpa using c1
     have hl:=List.length_pos_iff.2 c1
     refine⟨⟨by decide,by omega⟩,?_⟩
     intro d hd
     rw[show Int.toNat 1=1 from rfl]at hd
     have hdl:d.length <=q.length:=by rw[hd];simp
     have hP:EU sec q=if vj d/\1 <=gj d/\gj d <=65535 then some (gj d)else none:=by unfold EU;rw[if_neg c1,<- hd]
     refine ax (gS d (by omega) w10) ?_
     rintro _ w11 ⟨rfl,hb11⟩
     by_cases c2:vj d
     · rw[if_pos c2]
       refine⟨_,_,rfl,?_⟩
       refine wZ (w:=w11) (1 <=gj d/\gj d <=65535) ?_ ?_
       · refine qC (w:=w11) (decide (¬ (1 <=gj d/\gj d <=65535))) ?_ ?_
         · refine ab.no rfl (ab.of (λc3=>⟨rfl,?_⟩) (λc3=>⟨rfl,?_⟩))
           · rw[eq_comm,dTx];simp at c3;omega
           · rw[Bool.eq_iff_iff,dTx,dTx];simp at c3;omega
         · refine ab.of (λc3=>?_) (λc3=>⟨rfl,Decidable.not_not.1 (of_decide_eq_false c3)⟩)
           rw[dTx]at c3
           exact bad hb11 (by rw[hV,hP,if_neg (λhx=>c3 hx.2)])
       · intro c4
         exact good hv hb11 (by rw[hV,hP,if_pos ⟨c2,c4⟩])
     · rw[if_neg c2]
       refine⟨_,_,rfl,?_⟩
       refine wZ (w:=w11) False ?_ (λh=>h.elim)
       refine qC (w:=w11) true (ab.yes rfl ⟨rfl,rfl⟩) (ab.yes rfl ?_)
       exact bad hb11 (by rw[hV,hP,if_neg (λhx=>c2 hx.1)])
theorem DR (s:List UInt8)(hs:s.length <=1000000000)(w:World)(he:Env w):Cf qK #[vS s] w (Ret (D5 s w)):=by
 apply BL
 intro k2 w2 hk2 hw2
 have hB2:=(hw2▸ai w _:bW w w2)
 have h2:am w2 k2 ba li.cells:=am.new hk2 hw2
 have hk2w:w.heap.size <=k2:=by omega
 have fin:∀{u:Url} {e:Int} {wx:World},u.ok->bW w2 wx->uv s=(u,e)->∃wy,(Instr.storeAt ba (.pointer (some ⟨k2,0,none⟩)) u.v).run prog wx=.ok () wy/\
     ∃vr:Value,(bG ba (.pointer (some ⟨k2,0,none⟩))).run prog wy=.ok vr wy/\D5 s w (.tuple #[vr,vI e]) wy:=fun{u e wx} o hb he=>
   sW.fin (K:=λvr wy=>D5 s w (.tuple #[vr,vI e]) wy) (cs:=u.cells) (Url.len o) (Url.one _) (h2.below hb) rfl (aa hB2 hb hB2.size) hk2w λwy hy=>⟨by rw[he];rfl,hy⟩
 refine ax (uw s [104,116,116,112,115,58,47,47] (by omega) (by decide) w2) ?_
 rintro _ w3 ⟨⟨x,sec,rfl,hsec,hx⟩,hb3⟩
 rw[show([104,116,116,112,115,58,47,47]:List UInt8).length=8 from rfl,show cF [104,116,116,112,115,58,47,47]=[104,116,116,112,115,58,47,47] from rfl]at hsec
 refine⟨_,_,rfl,?_⟩
 refine⟨λr w'=>OB s=some (r,sec)/\bW w2 w',?_,λr=>aX.of ?_ _⟩
 · refine ab.of (λc=>?_) (λc=>?_)
   · have c:sec=false:=by simpa using c
     rw[c]at hsec
     have h8: ¬ cF (s.take 8)=[104,116,116,112,115,58,47,47]:=of_decide_eq_false hsec.symm
     refine ax (uw s [104,116,116,112,58,47,47] (by omega) (by decide) w3) ?_
     rintro _ w4 ⟨⟨y,b,rfl,hb,hy⟩,hb4⟩
     rw[show([104,116,116,112,58,47,47]:List UInt8).length=7 from rfl,show cF [104,116,116,112,58,47,47]=[104,116,116,112,58,47,47] from rfl]at hb
     have hb24:=aa hb3 hb4 hb3.size
     refine⟨_,_,rfl,ab.of (λc2=>?_) (λc2=>⟨?_,hb24⟩)⟩
     · have c2:b=false:=by simpa using c2
       rw[c2]at hb
       exact fin (u:=li) rfl hb24 (by unfold uv OB;rw[if_neg (of_decide_eq_false hb.symm),if_neg h8])
     · have c2:b=true:=by simpa using c2
       have e:=hy c2
       rw[c2]at hb
       unfold OB
       rw[if_pos (of_decide_eq_true hb.symm),e,c];rfl
   · have c:sec=true:=by simpa using c
     have e:=hx c
     rw[c]at hsec
     have h8:=of_decide_eq_true hsec.symm
     refine⟨?_,hb3⟩
     unfold OB
     rw[if_neg,if_pos h8,e,c];rfl
     intro h7
     have:cF (s.take 7)=(cF (s.take 8)).take 7:=by simp[cF,List.map_take,List.take_take]
     rw[this,h8]at h7
     revert h7;decide
 · rintro w4 ⟨hH,hb4⟩
   have hrl:r.length <=s.length:=by
     unfold OB at hH
     split at hH
     · cases hH;simp
     split at hH
     · cases hH;simp
     · cases hH
   have hV:uv s=Mr r sec:=by unfold uv;rw[hH]
   rw[HH]at hV
   have hat:=rJ [47,63,35] r
   refine ax (qR [47,63,35] (by decide) (by decide) (by decide) r (by omega) w4) ?_
   rintro _ w5 ⟨rfl,hb5⟩
   have hb25:=aa hb4 hb5 hb4.size
   rw[jw]
   refine⟨_,rfl,P3 (w:=w5) ((dC [47,63,35] r:Nat):Int) ?_ ?_⟩
   · by_cases c:dC [47,63,35] r=r.length
     · rw[if_pos c]
       exact ab.yes rfl ⟨rfl,by rw[c]⟩
     · rw[if_neg c]
       exact ab.no (decide_eq_false (by omega)) ⟨rfl,rfl⟩
   refine ax (DU sec w5) ?_
   rintro _ w5' ⟨rfl,hw5⟩
   rw[hw5];clear hw5 w5'
   refine⟨_,_,rfl,⟨by omega,by omega⟩,?_⟩
   rw[Int.toNat_natCast]
   rintro _ rfl
   have hp:(r.take (dC [47,63,35] r)).length <=s.length:=by simp;omega
   have hd:(r.drop (dC [47,63,35] r)).length <=s.length:=by simp;omega
   refine ax (DT _ sec (by omega) w5 ((he.step hB2).step hb25)) ?_
   rintro _ w6 ⟨rfl,hb6⟩
   have hb26:=aa hb25 hb6 hb25.size
   refine⟨_,_,_,rfl,?_⟩
   have po:=Kb (r.take (dC [47,63,35] r)) sec
   revert hV po
   generalize eF (r.take (dC [47,63,35] r)) sec=p
   intro hV po
   refine aY.new (zs:=iq.cells) (cs:=p.1.cells) rfl (Hst.len po) (Hst.one _) w6 λk10 w10 hk10 h10 hb10=>?_
   have hb2A:=aa hb26 hb10 hb26.size
   refine ab.of (λc=>?_) (λc=>?_)
   · have c:p.2.2≠0:=by simpa using c
     rw[if_pos c]at hV
     exact fin (u:=li) rfl hb2A hV
   have c:p.2.2=0:=by simpa using c
   rw[if_neg (by rw[c];decide)]at hV
   refine⟨⟨by omega,by omega⟩,?_⟩
   generalize r.drop (dC [47,63,35] r)=x at*
   intro y hy
   rw[hy];clear hy y
   have hfl:=rJ [63,35] x
   refine⟨λt w'=>t=x.take (dC [63,35] x)/\bW w10 w',?_,λt=>aX.of ?_ _⟩
   · refine ax (qR [63,35] (by decide) (by decide) (by decide) x (by omega) w10) ?_
     rintro _ w11 ⟨rfl,hb11⟩
     rw[jw]
     refine⟨_,rfl,?_⟩
     by_cases c:dC [63,35] x=x.length
     · rw[if_pos c,c,List.take_length]
       exact ab.no rfl ⟨rfl,hb11⟩
     · try dsimp only
       rw[if_neg c,Int.toNat_natCast]
       refine ab.yes (decide_eq_true (by omega)) ⟨⟨by omega,by omega⟩,?_⟩
       rintro _ rfl
       exact⟨rfl,hb11⟩
   · rintro w11 ⟨rfl,hb11⟩
     have hb2B:=aa hb2A hb11 hb2A.size
     have h1B:=h10.below hb11
     refine⟨λt w'=>w'=w11/\t=vk x,?_,λt=>aX.of ?_ _⟩
     · unfold vk
       refine ab.of (λc=>⟨rfl,?_⟩) (λc=>⟨rfl,?_⟩)
       · rw[if_pos (by simpa using c)]
       · rw[if_neg (by simpa using c)]
     · rintro _ ⟨rfl,rfl⟩
       refine ax (rm (vk x) _) ?_
       rintro _ w12 ⟨rfl,hb12⟩
       have hb2C:=aa hb2B hb12 hb2B.size
       refine⟨_,rfl,ab.of (λc3=>?_) (λc3=>?_)⟩
       · have c3:qY (vk x)=false:=by simpa using c3
         rw[if_neg (by rw[c3];decide)]at hV
         exact fin (u:=li) rfl hb2C hV
       · have c3:qY (vk x)=true:=by simpa using c3
         rw[if_pos c3]at hV
         exact⟨_,aY.load0 (h1B.below hb12) (Hst.len po),_,Ie _ po _ _ _,fin (show Url.ok ⟨_,_,_,_⟩ from po) hb2C hV⟩
theorem Gl {u:Url}(o:u.ok)(t:List UInt8):(⟨1,u,t,qZ,0⟩:OpR).cells.length=45:=by
 unfold OpR.cells
 rw[List.length_cons,List.length_append,Url.len o];rfl
theorem Ic {u:Url}(o:u.ok)(t:List UInt8)(w:World):(Instr.build ao #[(0,vI 1),(1,u.v),(2,vS t)]).run prog w=.ok (⟨1,u,t,qZ,0⟩:OpR).v w:=by
 obtain⟨us,⟨ukd,un,ua⟩,uport,upath⟩:=u
 obtain⟨x0,x1,x2,x3,x4,x5,x6,x7,x8,x9,x10,x11,x12,x13,x14,x15,rfl⟩:=fg ua o
 kernel_rfl
theorem BS {A:Bl}{a:Option Addr}{l c:Nat}{x y:List UInt8}{w:World}(ho:Sl tS w A a l c [x,y])(hx:x.length <=10000000)(hy:y.length <=10000000)(he:Env w):
   Cf gz #[.slice a l c] w (Ret λv w'=>v=.tuple #[(⟨1,(uv x).1,(unP y).getD [],qZ,0⟩:OpR).v,.bool ((unP y).isSome&&((uv x).2==0))]/\bW w w'):=by
 have hl:=ho.1
 obtain rfl:l=2:=hl
 apply zu
 intro k2 w2 hk2 hw2
 have hB2:bW w w2:=hw2▸ai w _
 have h2:am w2 k2 ao yU.cells:=am.new hk2 hw2
 obtain⟨v,hv,hrep⟩:=(ho.below hB2).load1 (P:=prog) (i:=0) aw rfl rfl (by simp)
 obtain⟨rfl,_⟩:=kX hrep
 refine⟨⟨⟨by decide,by decide⟩,ho.isSome (i:=0) (by simp)⟩,x,hv,?_⟩
 refine ax (DR x (by omega) w2 (he.step hB2)) ?_
 rintro _ w3 ⟨rfl,hb3⟩
 have hB3:=aa hB2 hb3 hB2.size
 refine⟨_,_,rfl,?_⟩
 have uo:(uv x).1.ok:=Fk x
 refine sW.new (zs:=li.cells) (cs:=(uv x).1.cells) rfl (Url.len uo) (Url.one _) w3 λk4 w4 hk4 h4 hb4=>?_
 have hB4:=aa hB3 hb4 hB3.size
 obtain⟨v,hv,hrep⟩:=(ho.below hB4).load1 (P:=prog) (i:=1) aw rfl rfl (by simp)
 obtain⟨rfl,_⟩:=kX hrep
 refine⟨⟨⟨by decide,by decide⟩,ho.isSome (i:=1) (by simp)⟩,y,hv,?_⟩
 refine ax (xx y hy w4) ?_
 rintro _ w5 ⟨rfl,hb5⟩
 have hB5:=aa hB4 hb5 hB4.size
 refine⟨_,_,rfl,_,sW.load0 (h4.below hb5) (Url.len uo),_,Ic uo _ _,?_⟩
 have h5:=((h2.below hb3).below hb4).below hb5
 refine ab.of (λc1=>?_) (λc1=>?_)
 · exact gX.fin (cs:=(⟨1,(uv x).1,(unP y).getD [],qZ,0⟩:OpR).cells) (Gl uo _) (OpR.one _) h5 eN hB5 (by omega) λwx hb=>⟨by rw[c1];rfl,hb⟩
 · exact gX.fin (cs:=(⟨1,(uv x).1,(unP y).getD [],qZ,0⟩:OpR).cells) (Gl uo _) (OpR.one _) h5 eN hB5 (by omega) λwx hb=>⟨by rw[c1];rfl,hb⟩
def OA (u v:Url):Bool:=(u.sec==v.sec)&&(ir u.host v.host&&((u.port==v.port)&&((u.path==v.path)&&true)))
def Hn (r q:Req):Bool:=(r.sec==q.sec)&&(ir r.host q.host&&((r.path==q.path)&&((r.cross==q.cross)&&true)))
def JU (o p:OpR):Bool:=(o.kind==p.kind)&&(OA o.url p.url&&((o.text==p.text)&&(Hn o.req p.req&&((o.n==p.n)&&true))))
theorem DQ {u v:Url}(o:u.ok)(p:v.ok):OA u v=true ↔ u=v:=by
 unfold OA
 simp only[Bool.and_eq_true,beq_iff_eq,and_true,iK o p]
 cases u;cases v;simp
theorem Kf {u v:Req}(o:u.ok)(p:v.ok):Hn u v=true ↔ u=v:=by
 unfold Hn
 simp only[Bool.and_eq_true,beq_iff_eq,and_true,iK o p]
 cases u;cases v;simp
structure OpR.fit (o:OpR):Prop where
 uo:o.url.ok
 ro:o.req.ok
theorem OpR.ok.fit {o:OpR}(k:o.ok):o.fit:=⟨k.uo,k.ro⟩
theorem Gc {o p:OpR}(h:o.fit)(k:p.fit):JU o p=true ↔ o=p:=by
 unfold JU
 simp only[Bool.and_eq_true,beq_iff_eq,and_true,DQ h.uo k.uo,Kf h.ro k.ro]
 cases o;cases p;simp
def vi (o:OpR):OpR:=if o.kind=1 then⟨1,o.url,o.text,qZ,0⟩ else if o.kind=2 then⟨2,li,[],o.req,0⟩ else if o.kind=3 then⟨3,li,[],qZ,o.n⟩ else di
theorem Dc {o:OpR}(h:o.fit):(vi o).fit:=by
 unfold vi
 split
 · exact⟨h.uo,rfl⟩
 split
 · exact⟨rfl,h.ro⟩
 split <;> exact⟨rfl,rfl⟩
def eG (o:OpR):Bool:=fF o&&JU o (vi o)
theorem Hp {o:OpR}(h:o.fit):eG o=true ↔ fF o=true/\o=vi o:=by
 unfold eG
 rw[Bool.and_eq_true,Gc h (Dc h)]
theorem EW {o:OpR}(h:o.fit)(e:o=vi o):eG o=fF o:=by
 unfold eG
 rw[(Gc h (Dc h)).2 e,Bool.and_true]
theorem OpR.len' {o:OpR}(k:o.fit):o.cells.length=45:=by
 unfold OpR.cells
 rw[List.length_cons,List.length_append,List.length_cons,List.length_append,Url.len k.uo,Req.len k.ro]
 rfl
theorem O9 {o p:OpR}(h:o.fit)(k:p.fit):eqV prog 10000 ao o.v p.v=some (JU o p):=by
 obtain⟨a1,⟨b1,⟨c1,c2,c3⟩,b2,b3⟩,a2,⟨d1,⟨e1,e2,e3⟩,d2,d3⟩,a3⟩:=o
 obtain⟨a1',⟨b1',⟨c1',c2',c3'⟩,b2',b3'⟩,a2',⟨d1',⟨e1',e2',e3'⟩,d2',d3'⟩,a3'⟩:=p
 obtain⟨h1,h2⟩:=h
 obtain⟨k1,k2⟩:=k
 obtain⟨x0,x1,x2,x3,x4,x5,x6,x7,x8,x9,x10,x11,x12,x13,x14,x15,rfl⟩:=fg c3 h1
 obtain⟨y0,y1,y2,y3,y4,y5,y6,y7,y8,y9,y10,y11,y12,y13,y14,y15,rfl⟩:=fg e3 h2
 obtain⟨x0',x1',x2',x3',x4',x5',x6',x7',x8',x9',x10',x11',x12',x13',x14',x15',rfl⟩:=fg c3' k1
 obtain⟨y0',y1',y2',y3',y4',y5',y6',y7',y8',y9',y10',y11',y12',y13',y14',y15',rfl⟩:=fg e3' k2
 kernel_rfl
theorem Lz:prog.eqGuardType prog.depth ao=false:=by kernel_rfl
theorem N0 {c d:OpR}(o:c.fit)(p:d.fit){x y:Operand}(w:World):((do eqGuard .eql ao x y c.v d.v;binOp .eql ao c.v d.v:Sem Value)).run prog w=.ok (.bool (JU c d)) w:=
 Ae Lz (O9 o p) w
theorem Ny {c d:Req}(o:c.ok)(p:d.ok):eqV prog 10000 aR c.v d.v=some (Hn c d):=by
 obtain⟨d1,⟨e1,e2,e3⟩,d2,d3⟩:=c
 obtain⟨d1',⟨e1',e2',e3'⟩,d2',d3'⟩:=d
 obtain⟨x0,x1,x2,x3,x4,x5,x6,x7,x8,x9,x10,x11,x12,x13,x14,x15,rfl⟩:=fg e3 o
 obtain⟨y0,y1,y2,y3,y4,y5,y6,y7,y8,y9,y10,y11,y12,y13,y14,y15,rfl⟩:=fg e3' p
 kernel_rfl
theorem I3:prog.eqGuardType prog.depth aR=false:=by kernel_rfl
theorem PB {c d:Req}(o:c.ok)(p:d.ok){x y:Operand}(w:World):((do eqGuard .eql aR x y c.v d.v;binOp .eql aR c.v d.v:Sem Value)).run prog w=.ok (.bool (Hn c d)) w:=
 Ae I3 (Ny o p) w
theorem PC {o:OpR}(k:o.ok)(c:o.kind=1):eG o=(qb o.url&&JU o ⟨1,o.url,o.text,qZ,0⟩):=by
 unfold eG fF vi;rw[if_pos c,if_pos c]
theorem PD {o:OpR}(c:o.kind=2):eG o=((cW o.req.host&&(qY o.req.path&&(decide (0 <=o.req.cross)&&decide (o.req.cross <=2))))&&JU o ⟨2,li,[],o.req,0⟩):=by
 unfold eG fF vi;rw[if_neg (by omega),if_pos c,if_neg (by omega),if_pos c]
theorem PE {o:OpR}(c:o.kind=3):eG o=((decide (0 <=o.n)&&decide (o.n <=1099511627776))&&JU o ⟨3,li,[],qZ,o.n⟩):=by
 unfold eG fF vi;rw[if_neg (by omega),if_neg (by omega),if_pos c,if_neg (by omega),if_neg (by omega),if_pos c]
theorem PF {o:OpR}(c1:o.kind≠1)(c2:o.kind≠2)(c3:o.kind≠3):eG o=JU o di:=by
 unfold eG fF vi;rw[if_neg c1,if_neg c2,if_neg c3,if_neg c1,if_neg c2,if_neg c3,Bool.true_and]
theorem Ib {r:Req}(k:r.ok)(w:World):(Instr.build ao #[(0,vI 2),(3,r.v)]).run prog w=.ok (⟨2,li,[],r,0⟩:OpR).v w:=by
 obtain⟨d1,⟨e1,e2,e3⟩,d2,d3⟩:=r
 obtain⟨x0,x1,x2,x3,x4,x5,x6,x7,x8,x9,x10,x11,x12,x13,x14,x15,rfl⟩:=fg e3 k
 kernel_rfl
theorem oD {o:OpR}(k:o.ok)(w:World)(he:Env w):Cf iz #[o.v] w (Ret λv w'=>v=.bool (eG o)/\bW w w'):=by
 apply vH
 intro k1 w1 hk1 hw1
 have hB1:=(hw1▸ai w _:bW w w1)
 have h1:am w1 k1 ao o.cells:=am.new hk1 hw1
 have hun:=k.un
 have hrn:=k.rn
 refine⟨rfl,_,h1.load1 bT rfl (i:=0) rfl,ab.of (λc1=>?_) (λc1=>?_)⟩
 · have c1:o.kind=1:=by simpa using c1
   have hE:JU o ⟨1,o.url,o.text,qZ,0⟩=(o.n==0&&Hn o.req qZ):=by
     unfold JU
     rw[(DQ k.uo k.uo).2 rfl,c1];simp[Bool.and_comm]
   rw[PC k c1,hE]
   refine⟨rfl,_,sW.load h1 (i:=1) (us:=o.url.cells) (Url.len k.uo) (λj hj=>MS k hj),?_⟩
   refine ax (oK k.uo (by omega) w1 (he.step hB1)) ?_
   rintro _ w2 ⟨rfl,hb2⟩
   have hB2:=aa hB1 hb2 hB1.size
   have h2:=h1.below hb2
   refine⟨_,rfl,ab.of (λc2=>?_) (λc2=>⟨by rw[c2];rfl,hB2⟩)⟩
   refine⟨rfl,_,h2.load1 bQ rfl (Pz k),ab.of (λc3=>?_) (λc3=>⟨by rw[c2,c3];rfl,hB2⟩)⟩
   exact⟨rfl,_,jE.load h2 (i:=23) (us:=o.req.cells) (Req.len k.ro) (λj hj=>JV k hj),_,PB (d:=qZ) k.ro rfl w2,by rw[c2,c3];rfl,hB2⟩
 have c1:o.kind≠1:=by simpa using c1
 refine ab.of (λc2=>?_) (λc2=>?_)
 · have c2:o.kind=2:=by simpa using c2
   rw[PD c2]
   refine⟨rfl,_,jE.load h1 (i:=23) (us:=o.req.cells) (Req.len k.ro) (λj hj=>JV k hj),?_⟩
   refine jE.new (zs:=qZ.cells) (cs:=o.req.cells) rfl (Req.len k.ro) (Req.one _) w1 λk3 w3 hk3 h3 hb3=>?_
   have hB3:=aa hB1 hb3 hB1.size
   have h13:=h1.below hb3
   refine⟨rfl,_,aY.load h3 (i:=1) (us:=o.req.host.cells) (Hst.len k.ro) (λj hj=>Gh k.ro hj),?_⟩
   refine ax (fE k.ro (by omega) w3 (he.step hB3)) ?_
   rintro _ w4 ⟨rfl,hb4⟩
   have hB4:=aa hB3 hb4 hB3.size
   refine⟨_,rfl,ab.of (λc3=>?_) (λc3=>⟨by rw[c3];rfl,hB4⟩)⟩
   refine⟨rfl,_,(h3.below hb4).load1 aw rfl (r6 k.ro 0),?_⟩
   refine ax (rm o.req.path w4) ?_
   rintro _ w5 ⟨rfl,hb5⟩
   have hB5:=aa hB4 hb5 hB4.size
   have h15:=(h13.below hb4).below hb5
   have h35:=(h3.below hb4).below hb5
   refine⟨_,rfl,ab.of (λc4=>?_) (λc4=>⟨by rw[c3,c4];rfl,hB5⟩)⟩
   refine⟨rfl,_,h35.load1 bT rfl (r6 k.ro 1),ab.of (λc5=>?_) (λc5=>⟨by rw[c3,c4,show decide (0 <=o.req.cross)=false from c5];rfl,hB5⟩)⟩
   refine⟨rfl,_,h35.load1 bT rfl (r6 k.ro 1),ab.of (λc6=>?_) (λc6=>⟨by rw[c3,c4,show decide (0 <=o.req.cross)=true from c5,c6];rfl,hB5⟩)⟩
   exact⟨_,gX.load0 h15 (OpR.len k),_,jE.load0 h35 (Req.len k.ro),_,Ib k.ro _,_,N0 (d:=⟨2,li,[],o.req,0⟩) k.fit ⟨rfl,k.ro⟩ w5,by rw[c3,c4,show decide (0 <=o.req.cross)=true from c5,c6];rfl,hB5⟩
 have c2:o.kind≠2:=by simpa using c2
 refine ab.of (λc3=>?_) (λc3=>?_)
 · have c3:o.kind=3:=by simpa using c3
   rw[PE c3]
   refine⟨rfl,_,h1.load1 bQ rfl (Pz k),ab.of (λc4=>?_) (λc4=>⟨by rw[show decide (0 <=o.n)=false from c4];rfl,hB1⟩)⟩
   refine⟨rfl,_,h1.load1 bQ rfl (Pz k),ab.of (λc5=>?_) (λc5=>⟨by rw[show decide (0 <=o.n)=true from c4,c5];rfl,hB1⟩)⟩
   exact⟨_,gX.load0 h1 (OpR.len k),rfl,_,h1.load1 bQ rfl (Pz k),_,N0 (d:=⟨3,li,[],qZ,o.n⟩) k.fit ⟨rfl,rfl⟩ w1,by rw[show decide (0 <=o.n)=true from c4,c5];rfl,hB1⟩
 have c3:o.kind≠3:=by simpa using c3
 exact⟨_,gX.load0 h1 (OpR.len k),_,N0 (d:=di) k.fit ⟨rfl,rfl⟩ w1,by rw[PF c1 c2 c3],hB1⟩
theorem JH {x y:List UInt8} :mkS x=mkS y ↔ x=y:=⟨JJ,λh=>by rw[h]⟩
theorem Q4 (a b c x:List UInt8):Lib.idxOfS ([a,b,c].map mkS) (mkS x)=if x=a then 0 else if x=b then 1 else if x=c then 2 else -1:=by
 simp only[List.map_cons,List.map_nil,Lib.idxOfS,Lib.idxFromS,JH,eq_comm (a:=x)]
 split
 · rfl
 · split
   · rfl
   · split <;> rfl
theorem Q3 (a b x:List UInt8):Lib.idxOfS ([a,b].map mkS) (mkS x)=if x=a then 0 else if x=b then 1 else -1:=by
 simp only[List.map_cons,List.map_nil,Lib.idxOfS,Lib.idxFromS,JH,eq_comm (a:=x)]
 split
 · rfl
 · split <;> rfl
theorem FU {w:World}{A:Bl}{a:Option Addr}{n c:Nat}{xs:List (List UInt8)}(ho:Sl tS w A a n c xs)(hne:xs≠[])(x:List UInt8)(hx:xs.length <=9223372036854775807):
   Cf au #[.slice a n c,vS x] w (Ret λv w'=>v=vI (Lib.idxOfS (xs.map mkS) (mkS x))/\w'=w):=by
 have hn:=ho.1
 subst hn
 obtain⟨b,off,rfl,hc⟩:=Eg ho hne
 refine(Tryz.slices_Index_string b off xs.length c (xs.map mkS) (mkS x) w (by simp) hx hc).mono ?_
 rintro _ _ ⟨rfl,rfl⟩
 rw[List.take_of_length_le (by simp)]
 exact⟨_,rfl,rfl,rfl⟩
set_option maxRecDepth 100000
theorem zt (a:Option Addr)(b c:Nat){w K}(h:nA w (.cells cA ao) λd e=>(bx (1:Int) ((b:Nat):Int)/\Option.isSome a=true)/\∃f,Ld ah (an a (1:Int) 1) e (vS f)/\Cf ft #[vS f] e λg i=>∃j k,g=rT #[j,vI k]/\nA i (.cells bF ae) λl m=>∃n,Sv ae (vA l 0) j m n/\∃o:FP [.one (.int .i64),.one (.int .i64)],((bx (0:Int) ((b:Nat):Int)/\Option.isSome a=true)/\(bx (3:Int) ((b:Nat):Int)/\Option.isSome a=true)/\(uL bV #[] (World.drew n) λp q r s=>(∃t,Ld ah (an a (0:Int) 1) s (vS t)/\(uI au #[.slice p q r,vS t] s λu v=>(uL bl #[] v λx y z A=>∃B,Ld ah (an a (3:Int) 1) A (vS B)/\uI au #[.slice x y z,vS B] A λC D=>o u C D)/\∃x,Ld ah (an a (3:Int) 1) v (vS x)/\uL bl #[] v λy z A B=>uI au #[.slice y z A,vS x] B λC D=>o u C D)/\∃u,Ld ah (an a (3:Int) 1) s (vS u)/\uI au #[.slice p q r,vS t] s λv x=>uL bl #[] x λy z A B=>uI au #[.slice y z A,vS u] B λC D=>o v C D)/\∃t,Ld ah (an a (3:Int) 1) s (vS t)/\∃u,Ld ah (an a (0:Int) 1) s (vS u)/\uI au #[.slice p q r,vS u] s λv x=>uL bl #[] x λy z A B=>uI au #[.slice y z A,vS t] B λC D=>o v C D)/\(∃p,Ld ah (an a (0:Int) 1) (World.drew n) (vS p)/\(uL bV #[] (World.drew n) λq r s t=>(uI au #[.slice q r s,vS p] t λu v=>(uL bl #[] v λx y z A=>∃B,Ld ah (an a (3:Int) 1) A (vS B)/\uI au #[.slice x y z,vS B] A λC D=>o u C D)/\∃x,Ld ah (an a (3:Int) 1) v (vS x)/\uL bl #[] v λy z A B=>uI au #[.slice y z A,vS x] B λC D=>o u C D)/\∃u,Ld ah (an a (3:Int) 1) t (vS u)/\uI au #[.slice q r s,vS p] t λv x=>uL bl #[] x λy z A B=>uI au #[.slice y z A,vS u] B λC D=>o v C D)/\∃q,Ld ah (an a (3:Int) 1) (World.drew n) (vS q)/\uL bV #[] (World.drew n) λr s t u=>uI au #[.slice r s t,vS p] u λv x=>uL bl #[] x λy z A B=>uI au #[.slice y z A,vS q] B λC D=>o v C D)/\∃p,Ld ah (an a (3:Int) 1) (World.drew n) (vS p)/\(uL bV #[] (World.drew n) λq r s t=>∃u,Ld ah (an a (0:Int) 1) t (vS u)/\uI au #[.slice q r s,vS u] t λv x=>uL bl #[] x λy z A B=>uI au #[.slice y z A,vS p] B λC D=>o v C D)/\∃q,Ld ah (an a (0:Int) 1) (World.drew n) (vS q)/\uL bV #[] (World.drew n) λr s t u=>uI au #[.slice r s t,vS q] u λv x=>uL bl #[] x λy z A B=>uI au #[.slice y z A,vS p] B λC D=>o v C D)/\∀p q,aX 10 (∀r,o p q r->(bx (2:Int) ((b:Nat):Int)/\Option.isSome a=true)/\ab (k==(0:Int)) (∃s,(∀t,bW r t->Ld ae (vA l 0) t s)/\∃t,(∀u,bW r u->Ld ah (an a (2:Int) 1) u (vS t))/\∃u,(∀v,bW r v->(Instr.build aR #[(0,.bool (p==(1:Int))),(1,s),(2,vS t),(3,vI q)]).run prog v=.ok u v)/\∃v,(∀x,bW r x->(Instr.build ao #[(0,vI 2),(3,u)]).run prog x=.ok v x)/\∀x,bW r x->∃y,Sv ao (vA d 0) v x y/\∃z,Rv ao (vA d 0) y z/\K (.tuple #[z,.bool (decide (p >=(0:Int)))]) y) (∃s,(∀t,bW r t->Ld ae (vA l 0) t s)/\∃t,(∀u,bW r u->Ld ah (an a (2:Int) 1) u (vS t))/\∃u,(∀v,bW r v->(Instr.build aR #[(0,.bool (p==(1:Int))),(1,s),(2,vS t),(3,vI q)]).run prog v=.ok u v)/\∃v,(∀x,bW r x->(Instr.build ao #[(0,vI 2),(3,u)]).run prog x=.ok v x)/\∀x,bW r x->∃y,Sv ao (vA d 0) v x y/\∃z,Rv ao (vA d 0) y z/\K (.tuple #[z,.bool false]) y))):Cf gy #[.slice a b c] w (Ret K):=ru func98 [(4,[(6,.one (.int .i64)),(7,.one (.int .i64))]),(1000005,[]),(3000007,[(0,.one .bool),(1,.one .bool),(3,.one .bool),(4,.one .bool),(6,.one .bool),(9,.one .bool),(10,.one .bool),(11,.one .bool),(12,.one .bool),(13,.one .bool),(14,.one .bool),(2,.one .bool),(5,.one .bool),(7,.one .bool),(8,.one .bool)])] h
theorem tK (a:lU){w K}(h:nA w (.cells cA ao) λb c=>Cf mf #[vS a] c λd e=>∃f g i j,d=rT #[.slice f g i,.bool j]/\ab (!j) (∃k,Sv ao (vA b 0) (.agg cA) e k/\∃l,Rv ao (vA b 0) k l/\K (.tuple #[l,.bool false]) k) (∃k:FP [.one .ptr,.one .bool],((bx (0:Int) ((g:Nat):Int)/\Option.isSome f=true)/\(Cf cQ #[] (World.drew e) λl m=>∃n,l=.returned (.map n)/\(∃o,Ld ah (an f (0:Int) 1) m (vS o)/\(∃p q r,(Instr.lookup aA (.map n) (vS o) true).run prog m=.ok (.tuple #[.agg #[vI p,q],.bool r]) m/\nA m (.cells #[vI 0,.nilFunc] aN) λs t=>∃u,Sv aN (vA s 0) (.agg #[vI p,q]) t u/\k (vA s 0) r u)/\nA m (.cells #[vI 0,.nilFunc] aN) λp q=>∃r s t,(Instr.lookup aA (.map n) (vS o) true).run prog q=.ok (.tuple #[.agg #[vI r,s],.bool t]) q/\∃u,Sv aN (vA p 0) (.agg #[vI r,s]) q u/\k (vA p 0) t u)/\nA m (.cells #[vI 0,.nilFunc] aN) λo p=>∃q,Ld ah (an f (0:Int) 1) p (vS q)/\∃r s t,(Instr.lookup aA (.map n) (vS q) true).run prog p=.ok (.tuple #[.agg #[vI r,s],.bool t]) p/\∃u,Sv aN (vA o 0) (.agg #[vI r,s]) p u/\k (vA o 0) t u)/\(∃l,Ld ah (an f (0:Int) 1) (World.drew e) (vS l)/\(Cf cQ #[] (World.drew e) λm n=>∃o,m=.returned (.map o)/\(∃p q r,(Instr.lookup aA (.map o) (vS l) true).run prog n=.ok (.tuple #[.agg #[vI p,q],.bool r]) n/\nA n (.cells #[vI 0,.nilFunc] aN) λs t=>∃u,Sv aN (vA s 0) (.agg #[vI p,q]) t u/\k (vA s 0) r u)/\nA n (.cells #[vI 0,.nilFunc] aN) λp q=>∃r s t,(Instr.lookup aA (.map o) (vS l) true).run prog q=.ok (.tuple #[.agg #[vI r,s],.bool t]) q/\∃u,Sv aN (vA p 0) (.agg #[vI r,s]) q u/\k (vA p 0) t u)/\∀m n,m=(World.drew e).heap.size->n=(World.drew e).alloc (.cells #[vI 0,.nilFunc] aN)->Cf cQ #[] n λo p=>∃q,o=.returned (.map q)/\∃r s t,(Instr.lookup aA (.map q) (vS l) true).run prog p=.ok (.tuple #[.agg #[vI r,s],.bool t]) p/\∃u,Sv aN (vA m 0) (.agg #[vI r,s]) p u/\k (vA m 0) t u)/\∀l m,l=(World.drew e).heap.size->m=(World.drew e).alloc (.cells #[vI 0,.nilFunc] aN)->(Cf cQ #[] m λn o=>∃p,n=.returned (.map p)/\∃q,Ld ah (an f (0:Int) 1) o (vS q)/\∃r s t,(Instr.lookup aA (.map p) (vS q) true).run prog o=.ok (.tuple #[.agg #[vI r,s],.bool t]) o/\∃u,Sv aN (vA l 0) (.agg #[vI r,s]) o u/\k (vA l 0) t u)/\∃n,Ld ah (an f (0:Int) 1) m (vS n)/\Cf cQ #[] m λo p=>∃q,o=.returned (.map q)/\∃r s t,(Instr.lookup aA (.map q) (vS n) true).run prog p=.ok (.tuple #[.agg #[vI r,s],.bool t]) p/\∃u,Sv aN (vA l 0) (.agg #[vI r,s]) p u/\k (vA l 0) t u)/\∀l m,aX 8 (∀n,k l m n->∃o:FP [],(ab (!m) (∃p,Sv ao (vA b 0) (.agg cA) n p/\∃q,Rv ao (vA b 0) p q/\K (.tuple #[q,.bool false]) p) ((Option.isSome l=true)/\∃p,Ld bp (Option.map (λq=>q.add 0) l) n (vI p)/\ab (((g:Nat):Int) !=(i64.wrap (p+(1:Int)))) (∃q,Sv ao (vA b 0) (.agg cA) n q/\∃r,Rv ao (vA b 0) q r/\K (.tuple #[r,.bool false]) q) (o n)))/\aX 12 (∀p,o p->∃q:FP [.one .bool,.one .ptr],((Option.isSome l=true)/\bd (1:Int) ((g:Nat):Int)/\(∃r,Ld bA (Option.map (λs=>s.add 1) l) (World.drew p) r/\(mI prog r #[.slice (fM f i (Int.toNat 1) 1) (g-(Int.toNat 1)) (i-(Int.toNat 1))] (World.drew p) λs t=>∃u v,s=rT #[u,.bool v]/\nA t (.cells cA ao) λx y=>∃z,Sv ao (vA x 0) u y z/\q v (vA x 0) z)/\∀s t,s=(World.drew p).heap.size->t=(World.drew p).alloc (.cells cA ao)->mI prog r #[.slice (fM f i (Int.toNat 1) 1) (g-(Int.toNat 1)) (i-(Int.toNat 1))] t λu v=>∃x y,u=rT #[x,.bool y]/\∃z,Sv ao (vA s 0) x v z/\q y (vA s 0) z)/\∀r s,r=(World.drew p).heap.size->s=(World.drew p).alloc (.cells cA ao)->∃t,Ld bA (Option.map (λu=>u.add 1) l) s t/\mI prog t #[.slice (fM f i (Int.toNat 1) 1) (g-(Int.toNat 1)) (i-(Int.toNat 1))] s λu v=>∃x y,u=rT #[x,.bool y]/\∃z,Sv ao (vA r 0) x v z/\q y (vA r 0) z)/\∀r s,aX 8 (∀t,q r s t->∃u,(∀v,bW t v->Ld ao s v u)/\ab r (∃v,(∀x,bW t x->Ld ao s x v)/\∃x,(∀y,bW t y->Cf iz #[v] y λz A=>z=.returned (.bool x)/\bW y A)/\∀y,bW t y->∃z,Sv ao (vA b 0) u y z/\∃A,Rv ao (vA b 0) z A/\K (.tuple #[A,.bool x]) z) (∀v,bW t v->∃x,Sv ao (vA b 0) u v x/\∃y,Rv ao (vA b 0) x y/\K (.tuple #[y,.bool false]) x)))))):Cf jO #[vS a] w (Ret K):=ru func20 [(12,[(6,.one .ptr),(7,.one .bool)]),(14,[]),(22,[(5,.one .bool),(8,.one .ptr)]),(3000025,[(1,.one .bool),(2,.one .bool),(0,.one .bool),(3,.one .bool),(4,.one .bool),(5,.one .bool)])] h
set_option maxRecDepth 20000
theorem Lu {r:Req}(o:r.ok):(⟨2,li,[],r,0⟩:OpR).cells.length=45:=by
 unfold OpR.cells
 rw[List.length_cons,List.length_append,List.length_cons,List.length_append,Req.len o];rfl
theorem Hv (x:List UInt8):Lib.idxOfS ([H7,Cw].map mkS) (mkS x)=dR x:=Q3 _ _ _
theorem Ip (x:List UInt8):Lib.idxOfS ([H8,OZ,OY].map mkS) (mkS x)=lj x:=Q4 _ _ _ _
theorem Sl.str {A:Bl}{a:Option Addr}{l c:Nat}{xs:List (List UInt8)}{w:World}(ho:Sl tS w A a l c xs){i:Int}{s:List UInt8}(h:xs[i.toNat]? =some s):
   (Instr.loadAt ah (.pointer (an a i 1))).run prog w=.ok (vS s) w:=by
 obtain⟨hi,e⟩:=List.getElem?_eq_some_iff.1 h
 obtain⟨v,hv,hrep⟩:=ho.load1 (P:=prog) (i:=i) aw rfl rfl hi
 obtain⟨rfl,_⟩:=kX hrep
 rw[hv,e]
theorem zP (b:Bool){h:Hst}(o:h.ok)(p:List UInt8)(n:Int)(w:World):(Instr.build aR #[(0,.bool b),(1,h.v),(2,vS p),(3,vI n)]).run prog w=.ok (Req.v ⟨b,h,p,n⟩) w:=by
 obtain⟨k,n,a⟩:=h
 obtain⟨x0,x1,x2,x3,x4,x5,x6,x7,x8,x9,x10,x11,x12,x13,x14,x15,rfl⟩:=fg a o
 kernel_rfl
theorem Cy {r:Req}(k:r.ok)(w:World):(Instr.build ao #[(0,vI 2),(3,r.v)]).run prog w=.ok (⟨2,li,[],r,0⟩:OpR).v w:=by
 obtain⟨d1,⟨e1,e2,e3⟩,d2,d3⟩:=r
 obtain⟨x0,x1,x2,x3,x4,x5,x6,x7,x8,x9,x10,x11,x12,x13,x14,x15,rfl⟩:=fg e3 k
 kernel_rfl
theorem BR {A:Bl}{a:Option Addr}{l c:Nat}{x y p z:List UInt8}{w:World}(ho:Sl tS w A a l c [x,y,p,z])(hy:y.length <=10000000)(he:Env w):
   Cf gy #[.slice a l c] w (Ret λv w'=>v=.tuple #[(⟨2,li,[],⟨dR x==1,(bR y).getD iq,p,lj z⟩,0⟩:OpR).v,.bool ((bR y).isSome&&decide (0 <=dR x))]/\bW w w'):=by
 have hl:=ho.1
 obtain rfl:l=4:=hl
 apply zt
 intro k2 w2 hk2 hw2
 have hB2:bW w w2:=hw2▸ai w _
 have h2:am w2 k2 ao yU.cells:=am.new hk2 hw2
 have hs:=ho.isSome (i:=0) (by simp)
 refine⟨⟨⟨by decide,by decide⟩,hs⟩,y,Sl.str (ho.below hB2) rfl,?_⟩
 refine ax (gP y (by omega) w2 (he.step hB2)) ?_
 rintro _ w3 ⟨rfl,hb3⟩
 have hB3:=aa hB2 hb3 hB2.size
 have ok:=nS λx hx=>gO (s:=y) hx
 rw[jv]
 refine⟨_,_,rfl,?_⟩
 refine aY.new (zs:=iq.cells) (cs:=((bR y).getD iq).cells) rfl (Hst.len ok) (Hst.one _) w3 λk4 w4 hk4 h4 hb4=>?_
 have hB4:=aa hB3 hb4 hB3.size
 have h24:=(h2.below hb3).below hb4
 have ho4:=ho.below hB4
 have hd:bW w4 (World.drew w4):=ec w4
 refine⟨λn m w'=>n=dR x/\m=lj z/\bW w4 w',⟨⟨⟨by decide,by decide⟩,hs⟩,⟨⟨by decide,by decide⟩,hs⟩,?_⟩,λn m=>aX.of ?_ _⟩
 · clear h24 h4 h2 ok hB3 hb3 hB2 hb4
   have ld0:∀{u:World},bW w4 u->(Instr.loadAt ah (.pointer (an a (0:Int) 1))).run prog u=.ok (vS x) u:=λhb=>Sl.str (ho4.below hb) rfl
   have ld3:∀{u:World},bW w4 u->(Instr.loadAt ah (.pointer (an a (3:Int) 1))).run prog u=.ok (vS z) u:=λhb=>Sl.str (ho4.below hb) rfl
   have sc:∀{u:World} {R:Ending->World->Prop},bW w4 u->(∀(b:Option Addr) (u':World),Ow tS ah u' NoB b 2 2 [H7,Cw]->bW w4 u'->R (.returned (.slice b 2 2)) u')->Cf bV #[] u R:=fun{u R} hb h=>ax (tN u) (by
     rintro _ u' ⟨b,rfl,o,_,hb'⟩
     exact h b u' o (aa hb hb' hb.size))
   have cr:∀{u:World} {R:Ending->World->Prop},bW w4 u->(∀(b:Option Addr) (u':World),Ow tS ah u' NoB b 3 3 [H8,OZ,OY]->bW w4 u'->R (.returned (.slice b 3 3)) u')->Cf bl #[] u R:=fun{u R} hb h=>ax (tL u) (by
     rintro _ u' ⟨b,rfl,o,_,hb'⟩
     exact h b u' o (aa hb hb' hb.size))
   have i2:∀{u:World} {b:Option Addr} {t:List UInt8} {R:Ending->World->Prop},Ow tS ah u NoB b 2 2 [H7,Cw]->R (.returned (vI (dR t))) u->Cf au #[.slice b 2 2,vS t] u R:=fun{u b t R} o h=>ax (FU o.all (by simp) t (by simp)) (by
     rintro _ _ ⟨rfl,rfl⟩
     rw[Hv];exact h)
   have i3:∀{u:World} {b:Option Addr} {t:List UInt8} {R:Ending->World->Prop},Ow tS ah u NoB b 3 3 [H8,OZ,OY]->R (.returned (vI (lj t))) u->Cf au #[.slice b 3 3,vS t] u R:=fun{u b t R} o h=>ax (FU o.all (by simp) t (by simp)) (by
     rintro _ _ ⟨rfl,rfl⟩
     rw[Ip];exact h)
   repeat' (with_reducible first
     | exact⟨rfl,rfl,by assumption⟩
     | refine And.intro ?_ ?_
     | refine⟨x,ld0 (by assumption),?_⟩
     | refine⟨z,ld3 (by assumption),?_⟩
     | (refine sc (by assumption) λ_ _ _ _=>⟨_,_,_,rfl,?_⟩)
     | (refine cr (by assumption) λ_ _ _ _=>⟨_,_,_,rfl,?_⟩)
     | (refine i2 (by assumption) ⟨_,rfl,?_⟩)
     | (refine i3 (by assumption) ⟨_,rfl,?_⟩))
 · rintro w5 ⟨rfl,rfl,hb5⟩
   have hB5:=aa hB4 hb5 hB4.size
   have h25:=h24.below hb5
   have ok':Req.ok ⟨dR x==1,(bR y).getD iq,p,lj z⟩:=ok
   refine⟨⟨⟨by decide,by decide⟩,hs⟩,?_⟩
   have tail:∀(b:Bool) (hb:b=((bR y).isSome&&decide (0 <=dR x))) (wq:World),bW w5 wq->∃wx,(Instr.storeAt ao (.pointer (some ⟨k2,0,none⟩)) (⟨2,li,[],⟨dR x==1,(bR y).getD iq,p,lj z⟩,0⟩:OpR).v).run prog wq=.ok () wx/\
       ∃vr:Value,(bG ao (.pointer (some ⟨k2,0,none⟩))).run prog wx=.ok vr wx/\(Value.tuple #[vr,.bool b]=.tuple #[(⟨2,li,[],⟨dR x==1,(bR y).getD iq,p,lj z⟩,0⟩:OpR).v,.bool ((bR y).isSome&&decide (0 <=dR x))]/\bW w wx):=λb hb wq hq=>
     gX.fin (K:=λvr wx=>Value.tuple #[vr,.bool b]=.tuple #[(⟨2,li,[],⟨dR x==1,(bR y).getD iq,p,lj z⟩,0⟩:OpR).v,.bool ((bR y).isSome&&decide (0 <=dR x))]/\bW w wx) (cs:=(⟨2,li,[],⟨dR x==1,(bR y).getD iq,p,lj z⟩,0⟩:OpR).cells) (Lu ok') (OpR.one _) (h25.below hq) eN (aa hB5 hq hB5.size) (by omega) λwx hb'=>⟨by rw[hb];rfl,hb'⟩
   refine ab.of (λc=>?_) (λc=>?_)
   · refine⟨_,λu hu=>aY.load0 ((h4.below hb5).below hu) (Hst.len ok),p,λu hu=>Sl.str ((ho4.below hb5).below hu) rfl,_,λu hu=>zP _ ok _ _ u,_,λu hu=>Cy ok' u,tail _ ?_⟩
     cases hv:bR y with
     | none=>rw[hv]at c;cases c
     | some h=>rfl
   · refine⟨_,λu hu=>aY.load0 ((h4.below hb5).below hu) (Hst.len ok),p,λu hu=>Sl.str ((ho4.below hb5).below hu) rfl,_,λu hu=>zP _ ok _ _ u,_,λu hu=>Cy ok' u,tail _ ?_⟩
     cases hv:bR y with
     | none=>rfl
     | some h=>rw[hv]at c;cases c
end Go.Pk
