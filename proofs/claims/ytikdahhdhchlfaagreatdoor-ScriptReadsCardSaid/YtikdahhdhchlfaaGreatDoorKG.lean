/- What the laws lean on: V21, ScrA, ScrB, ScrC, WrdA, WrdB, WrdC, UrlX, UrlY, Idx, RulA, UrlC, ScrD, EqO, V26, ScrE, WrdG, V25, ScrF; what is used. Its conditions: none. -/
import Derived.Test.YtikdahhdhchlfaaGreatDoorKF
import Derived.Laws.RangeAny
import Derived.WalkMore
import Derived.Lib.OthersKept
import Derived.Shelf.RegionOpenPlain
set_option linter.unusedVariables false
set_option linter.unusedSimpArgs false
set_option linter.unusedSectionVars false
set_option maxRecDepth 100000
open Go.IntKind (i64)
open Go.Proofs.Tryz
open List (length)
open Option (isSome)
namespace Go.Pk
open Go.RowKit (Below)
open Go.Proofs
theorem vU {w K}(h:nA w (.cells #[vS [115,97,109,101],vS [116,111,112],vS [115,117,98]] ah) λa b=>K (.slice (vA a 0) 3 3) b):Cf bB #[] w (Ret K):=ru func92 [] h
theorem vW {w K}(h:nA w (.cells #[vS [104,116,116,112],vS [104,116,116,112,115]] ah) λa b=>K (.slice (vA a 0) 2 2) b):Cf cy #[] w (Ret K):=ru func90 [] h
theorem BT (a:Int){w K}(h:ab (a==(0:Int)) (K (vS [111,107]) w) (uS ic #[vI a] w λb c=>(((List.length [101,114,114,111,114,32]+List.length b:Nat):Int) <=i64.max)/\∀d,d=([101,114,114,111,114,32]++b)->K (vS d) c)):Cf fL #[vI a] w (Ret K):=ru func24 [] h
theorem vV {w K}(h:nA w (.map #[] 0) λa b=>∃c,(Instr.mapUpdate aI (.map (some a)) (vS [115,101,116]) (.agg #[vI 2,.func (.func iN) #[] #[]])).run prog b=.ok () c/\∃d,(Instr.mapUpdate aI (.map (some a)) (vS [103,101,116]) (.agg #[vI 4,.func (.func iM) #[] #[]])).run prog c=.ok () d/\∃e,(Instr.mapUpdate aI (.map (some a)) (vS [116,105,99,107]) (.agg #[vI 1,.func (.func gF) #[] #[]])).run prog d=.ok () e/\∃f,(Instr.mapUpdate aI (.map (some a)) (vS [99,108,101,97,114]) (.agg #[vI 0,.func (.func dx) #[] #[]])).run prog e=.ok () f/\K (.map (some a)) f):Cf dr #[] w (Ret K):=ru func48 [] h
theorem qX (a:Option Addr)(b c:Nat){w K}(h:nA w (.cells dt ak) λd e=>∃f,Sv ak (vA d 0) (.agg #[vI 4,.bool false,vI 0,vS [],.int .u8 0,.int .u8 0,.int .u8 0,.int .u8 0,.int .u8 0,.int .u8 0,.int .u8 0,.int .u8 0,.int .u8 0,.int .u8 0,.int .u8 0,.int .u8 0,.int .u8 0,.int .u8 0,.int .u8 0,.int .u8 0,vI 0,vS [],vS [],.bool false,vI 0,vS [],.int .u8 0,.int .u8 0,.int .u8 0,.int .u8 0,.int .u8 0,.int .u8 0,.int .u8 0,.int .u8 0,.int .u8 0,.int .u8 0,.int .u8 0,.int .u8 0,.int .u8 0,.int .u8 0,.int .u8 0,.int .u8 0,vS [],vI 0,vI 0]) e f/\∃g,Rv ak (vA d 0) f g/\K (.tuple #[g,.bool true]) f):Cf dx #[.slice a b c] w (Ret K):=ru func100 [] h
theorem BS (a:Option Addr)(b c:Nat){w K}(h:nA w (.cells dt ak) λd e=>(bx (0:Int) ((b:Nat):Int)/\Option.isSome a=true)/\∃f,Ld ah (aq a (0:Int) 1) e (vS f)/\Cf fV #[vS f] e λg i=>∃j k,g=rT #[vI j,.bool k]/\∃l,Sv ak (vA d 0) (.agg #[vI 3,.bool false,vI 0,vS [],.int .u8 0,.int .u8 0,.int .u8 0,.int .u8 0,.int .u8 0,.int .u8 0,.int .u8 0,.int .u8 0,.int .u8 0,.int .u8 0,.int .u8 0,.int .u8 0,.int .u8 0,.int .u8 0,.int .u8 0,.int .u8 0,vI 0,vS [],vS [],.bool false,vI 0,vS [],.int .u8 0,.int .u8 0,.int .u8 0,.int .u8 0,.int .u8 0,.int .u8 0,.int .u8 0,.int .u8 0,.int .u8 0,.int .u8 0,.int .u8 0,.int .u8 0,.int .u8 0,.int .u8 0,.int .u8 0,.int .u8 0,vS [],vI 0,vI j]) i l/\∃m,Rv ak (vA d 0) l m/\K (.tuple #[m,.bool k]) l):Cf gF #[.slice a b c] w (Ret K):=ru func99 [] h
theorem DJ (a:Option Addr)(b c:Nat){w K}(h:nA w (.cells dt ak) λd e=>(bx (0:Int) ((b:Nat):Int)/\Option.isSome a=true)/\∃f,Ld ah (aq a (0:Int) 1) e (vS f)/\Cf uh #[vS f] e λg i=>∃j k,g=rT #[j,vI k]/\nA i (.cells eh ay) λl m=>∃n,Sv ay (vA l 0) j m n/\(bx (1:Int) ((b:Nat):Int)/\Option.isSome a=true)/\∃o,Ld ah (aq a (1:Int) 1) n (vS o)/\Cf nf #[vS o] n λp q=>∃r s,p=rT #[vS r,.bool s]/\∃t,Ld ay (vA l 0) q t/\∃u,(Instr.build ak #[(0,vI 1),(1,t),(2,vS r)]).run prog q=.ok u q/\ab s (∃v,Sv ak (vA d 0) u q v/\∃x,Rv ak (vA d 0) v x/\K (.tuple #[x,.bool (k==(0:Int))]) v) (∃v,Sv ak (vA d 0) u q v/\∃x,Rv ak (vA d 0) v x/\K (.tuple #[x,.bool false]) v)):Cf iN #[.slice a b c] w (Ret K):=ru func97 [] h
theorem zr (a:lU){w K}(h:nA w (.cells #[vI 0,vI 0,vI 0] aF) λb c=>ab (decide (((List.length a:Nat):Int)>(20000:Int))) (∃d,Sv aF (vA b 0) (.agg #[vI 54,vI 1,vI 1]) c d/\∃e f g,Rv aF (vA b 0) d (.agg #[vI e,vI f,vI g])/\K (.tuple #[.slice none 0 0,.agg #[vI e,vI f,vI g]]) d) (uL oL #[vS a] c λd e f g=>∃i:Nat->FP [.one .slice,.one (.int .i64)],(∃j,i j none 0 0 (0:Int) g)/\∀j k l m n,aJ 29 (∀o,i j k l m n o->ab (decide (n<((e:Nat):Int))) ((bx n ((e:Nat):Int)/\Option.isSome d=true)/\∃p,Ld ah (aq d n 1) o (vS p)/\ab (n==(200:Int)) (∃q,Sv aF (vA b 0) (.agg #[vI 53,vI (i64.wrap (n+(1:Int))),vI 1]) o q/\∃r s t,Rv aF (vA b 0) q (.agg #[vI r,vI s,vI t])/\K (.tuple #[.slice none 0 0,.agg #[vI r,vI s,vI t]]) q) (Cf lF #[vS p] o λq r=>∃s t,q=rT #[s,.bool t]/\nA r (.cells dt ak) λu v=>∃x,Sv ak (vA u 0) s v x/\ab (!t) (∃y,Sv aF (vA b 0) (.agg #[vI 131,vI (i64.wrap (n+(1:Int))),vI 1]) x y/\∃z A B,Rv aF (vA b 0) y (.agg #[vI z,vI A,vI B])/\K (.tuple #[.slice none 0 0,.agg #[vI z,vI A,vI B]]) y) (∃y,Ld ak (vA u 0) x y/\∃z A B C,(Instr.buildSlice cE 1 #[(0,y)]).run prog x=.ok (.slice A B C) z/\∃D E F G,(Builtin.append_ #[cE,cE] cE #[.slice k l m,.slice A B C]).run prog z=.ok (.slice E F G) D/\∃H:Nat,H<j/\i H E F G (i64.wrap (n+(1:Int))) D))) (∃p,Sv aF (vA b 0) (.agg #[vI 0,vI 0,vI 0]) o p/\∃q r s,Rv aF (vA b 0) p (.agg #[vI q,vI r,vI s])/\K (.tuple #[.slice k l m,.agg #[vI q,vI r,vI s]]) p)))):Cf fW #[vS a] w (Ret K):=ru func9 [(16,[(4,.one .slice),(16,.one (.int .i64))])] h
theorem DH (a b:Option Addr)(c d:Nat){w K}(h:uP AC #[.pointer a] w λe f=>∃g:Nat->FP [.one .slice,.one (.int .i64)],(∃i,g i none 0 0 (0:Int) f)/\∀i j k l m,aJ 41 (∀n,g i j k l m n->ab (decide (m<((c:Nat):Int))) ((bx m ((c:Nat):Int)/\Option.isSome b=true)/\∃o,Ld ak (aq b m 45) n o/\nA n (.cells dt ak) λp q=>∃r,Sv ak (vA p 0) o q r/\uS fL #[vI 0] r λs t=>∃u:FP [.one .str],(true/\∃v,Ld bh (vA p 0) t (vI v)/\ab (v==(1:Int)) (true/\∃x,Ld ay (vA p 1) t x/\true/\∃y,Ld ah (vA p 22) t (vS y)/\uI oG #[.pointer e,x,vS y] t λz A=>uS fL #[vI z] A λB C=>u B C) (ab (v==(2:Int)) (true/\∃x,Ld aN (vA p 23) t x/\uS oF #[.pointer e,x] t λy z=>uS jQ #[vS y] z λA B=>u A B) (ab (v==(3:Int)) (true/\∃x,Ld bu (vA p 44) t (vI x)/\uI mZ #[.pointer e,vI x] t λy z=>uS fL #[vI y] z λA B=>u A B) (ab (v==(4:Int)) (uU lC #[.pointer e] t λx=>u s x) (uS fL #[vI 131] t λx y=>u x y)))))/\∀v,aJ 30 (∀x,u v x->nA x (.cells #[vS v] ah) λy z=>∃A B C D,(Builtin.append_ #[aH,aH] aH #[.slice j k l,.slice (vA y 0) 1 1]).run prog z=.ok (.slice B C D) A/\∃E:Nat,E<i/\g E B C D (i64.wrap (m+(1:Int))) A)) (K (.slice j k l) n))):Cf qC #[.pointer a,.slice b c d] w (Ret K):=ru func14 [(10,[(6,.one .slice),(14,.one (.int .i64))]),(23,[(9,.one .str)])] h
theorem zt (a:Value){w K}(h:nA w (.cells (Value.cells a) ak) λb c=>true/\∃d,Ld bh (vA b 0) c (vI d)/\ab (d==(1:Int)) (true/\∃e,Ld ay (vA b 1) c e/\uB jz #[e] c λf g=>ab f (true/\∃i,Ld bu (vA b 44) g (vI i)/\ab (i==(0:Int)) (true/\∃j,Ld aN (vA b 23) g j/\∃k,(do eqGuard .eql aN (.tmp 18) (.tmp 19) j (.agg kz);binOp .eql aN j (.agg kz):Sem Value).run prog g=.ok (.bool k) g/\K (.bool k) g) (K (.bool false) g)) (K (.bool false) g)) (ab (d==(2:Int)) (true/\∃e,Ld aN (vA b 23) c e/\nA c (.cells kz aN) λf g=>∃i,Sv aN (vA f 0) e g i/\true/\∃j,Ld ae (vA f 1) i j/\uB fA #[j] i λk l=>ab k (true/\∃m,Ld ah (vA f 19) l (vS m)/\uB nH #[vS m] l λn o=>ab n (true/\∃p,Ld bh (vA f 20) o (vI p)/\ab (decide (p >=(0:Int))) (true/\∃q,Ld bh (vA f 20) o (vI q)/\ab (decide (q <=(2:Int))) (∃r,Ld ak (vA b 0) o r/\∃s,Ld aN (vA f 0) o s/\∃t,(Instr.build ak #[(0,vI 2),(3,s)]).run prog o=.ok t o/\∃u,(do eqGuard .eql ak (.tmp 45) (.tmp 47) r t;binOp .eql ak r t:Sem Value).run prog o=.ok (.bool u) o/\K (.bool u) o) (K (.bool false) o)) (K (.bool false) o)) (K (.bool false) o)) (K (.bool false) l)) (ab (d==(3:Int)) (true/\∃e,Ld bu (vA b 44) c (vI e)/\ab (decide (e >=(0:Int))) (true/\∃f,Ld bu (vA b 44) c (vI f)/\ab (decide (f <=(1099511627776:Int))) (∃g,Ld ak (vA b 0) c g/\true/\∃i,Ld bu (vA b 44) c (vI i)/\∃j,(do eqGuard .eql ak (.tmp 61) (.tmp 64) g (.agg #[vI 3,.bool false,vI 0,vS [],.int .u8 0,.int .u8 0,.int .u8 0,.int .u8 0,.int .u8 0,.int .u8 0,.int .u8 0,.int .u8 0,.int .u8 0,.int .u8 0,.int .u8 0,.int .u8 0,.int .u8 0,.int .u8 0,.int .u8 0,.int .u8 0,vI 0,vS [],vS [],.bool false,vI 0,vS [],.int .u8 0,.int .u8 0,.int .u8 0,.int .u8 0,.int .u8 0,.int .u8 0,.int .u8 0,.int .u8 0,.int .u8 0,.int .u8 0,.int .u8 0,.int .u8 0,.int .u8 0,.int .u8 0,.int .u8 0,.int .u8 0,vS [],vI 0,vI i]);binOp .eql ak g (.agg #[vI 3,.bool false,vI 0,vS [],.int .u8 0,.int .u8 0,.int .u8 0,.int .u8 0,.int .u8 0,.int .u8 0,.int .u8 0,.int .u8 0,.int .u8 0,.int .u8 0,.int .u8 0,.int .u8 0,.int .u8 0,.int .u8 0,.int .u8 0,.int .u8 0,vI 0,vS [],vS [],.bool false,vI 0,vS [],.int .u8 0,.int .u8 0,.int .u8 0,.int .u8 0,.int .u8 0,.int .u8 0,.int .u8 0,.int .u8 0,.int .u8 0,.int .u8 0,.int .u8 0,.int .u8 0,.int .u8 0,.int .u8 0,.int .u8 0,.int .u8 0,vS [],vI 0,vI i]):Sem Value).run prog c=.ok (.bool j) c/\K (.bool j) c) (K (.bool false) c)) (K (.bool false) c)) (∃e,Ld ak (vA b 0) c e/\∃f,(do eqGuard .eql ak (.tmp 67) (.tmp 68) e (.agg #[vI 4,.bool false,vI 0,vS [],.int .u8 0,.int .u8 0,.int .u8 0,.int .u8 0,.int .u8 0,.int .u8 0,.int .u8 0,.int .u8 0,.int .u8 0,.int .u8 0,.int .u8 0,.int .u8 0,.int .u8 0,.int .u8 0,.int .u8 0,.int .u8 0,vI 0,vS [],vS [],.bool false,vI 0,vS [],.int .u8 0,.int .u8 0,.int .u8 0,.int .u8 0,.int .u8 0,.int .u8 0,.int .u8 0,.int .u8 0,.int .u8 0,.int .u8 0,.int .u8 0,.int .u8 0,.int .u8 0,.int .u8 0,.int .u8 0,.int .u8 0,vS [],vI 0,vI 0]);binOp .eql ak e (.agg #[vI 4,.bool false,vI 0,vS [],.int .u8 0,.int .u8 0,.int .u8 0,.int .u8 0,.int .u8 0,.int .u8 0,.int .u8 0,.int .u8 0,.int .u8 0,.int .u8 0,.int .u8 0,.int .u8 0,.int .u8 0,.int .u8 0,.int .u8 0,.int .u8 0,vI 0,vS [],vS [],.bool false,vI 0,vS [],.int .u8 0,.int .u8 0,.int .u8 0,.int .u8 0,.int .u8 0,.int .u8 0,.int .u8 0,.int .u8 0,.int .u8 0,.int .u8 0,.int .u8 0,.int .u8 0,.int .u8 0,.int .u8 0,.int .u8 0,.int .u8 0,vS [],vI 0,vI 0]):Sem Value).run prog c=.ok (.bool f) c/\K (.bool f) c)))):Cf ib #[a] w (Ret K):=ru func18 [] h
def Wk:List UInt8:=[101,114,114,111,114,32]
def Pn (n:Nat):List UInt8:=if n=0 then[111,107]else Wk++mA n
theorem Gx {w:World}{A:Bl}{a b c:List UInt8} :gh tS w A [vS a,vS b,vS c] [a,b,c]:=
 ((gh.one (eN trivial)).append (gh.one (eN trivial))).append (gh.one (eN trivial))
theorem UV {w:World}{A:Bl}{a b:List UInt8} :gh tS w A [vS a,vS b] [a,b]:=
 (gh.one (eN trivial)).append (gh.one (eN trivial))
theorem DO (n:Nat)(hn:n <=9223372036854775807)(w:World)(he:Env w):Cf fL #[vI (n:Int)] w (Ret λv w'=>v=vS (Pn n)/\bW w w'):=by
 apply BT
 refine ab.of (λh=>?_) (λh=>?_)
 · have h:(n:Int)=0:=eq_of_beq h
   refine⟨?_,Below.refl _ _⟩
   unfold Pn;rw[if_pos (by omega)]
 · have h: ¬ (n:Int)=0:=by simpa using h
   refine aw (Jm n hn w he) ?_
   rintro _ w1 ⟨rfl,hb⟩
   have:=gi hn
   refine⟨_,rfl,fits (by simp only[List.length_cons,List.length_nil];omega),?_⟩
   rintro _ rfl
   refine⟨?_,hb⟩
   unfold Pn;rw[if_neg (by omega)];rfl
theorem nR (w:World):Cf bB #[] w (Ret λv w'=>∃a,v=.slice a 3 3/\Ow tS ah w' NoB a 3 3 [[115,97,109,101],[116,111,112],[115,117,98]]/\bU w.heap.size a/\bW w w'):=by
 apply vU
 intro k1 w1 hk1 hw1
 exact⟨_,rfl,Ow.newF (dN _) hk1 hw1 Gx (by decide),jc hk1,hw1▸ai _ _⟩
theorem jD (w:World):Cf cy #[] w (Ret λv w'=>∃a,v=.slice a 2 2/\Ow tS ah w' NoB a 2 2 [[104,116,116,112],[104,116,116,112,115]]/\bU w.heap.size a/\bW w w'):=by
 apply vW
 intro k1 w1 hk1 hw1
 exact⟨_,rfl,Ow.newF (dN _) hk1 hw1 UV (by decide),jc hk1,hw1▸ai _ _⟩
def evR (p:Int×FuncId):Value:=.agg #[vI p.1,.func (.func p.2) #[] #[]]
def qO:List (List UInt8×(Int×FuncId)):=[([115,101,116],(2,iN)),([103,101,116],(4,iM)),([116,105,99,107],(1,gF)),([99,108,101,97,114],(0,dx))]
theorem xQ (w:World):Cf dr #[] w (Ret λv w'=>∃r,v=.map (some r)/\w.heap.size <=r/\sy evS evR w' r qO/\bW w w'):=by
 apply vV
 intro k1 w1 hk1 hw1
 have hk:qb prog ah evS:=qb.str av
 have hb1:bW w w1:=hw1▸ai w _
 have hf:bU w.heap.size (some ⟨k1,0,none⟩):=jc hk1
 have m0:sy evS evR w1 k1 ([]:List (List UInt8×(Int×FuncId))):=sy.new hk1 hw1
 obtain⟨w2,r2,m2,g2⟩:=m0.put cx hk (k:=[115,101,116]) rfl (2,iN)
 obtain⟨w3,r3,m3,g3⟩:=m2.put cx hk (k:=[103,101,116]) (by decide) (4,iM)
 obtain⟨w4,r4,m4,g4⟩:=m3.put cx hk (k:=[116,105,99,107]) (by decide) (1,gF)
 obtain⟨w5,r5,m5,g5⟩:=m4.put cx hk (k:=[99,108,101,97,114]) (by decide) (0,dx)
 have hb2:=hb1.grown g2 hb1.size hf
 have hb3:=hb2.grown g3 hb2.size hf
 have hb4:=hb3.grown g4 hb3.size hf
 have hb5:=hb4.grown g5 hb4.size hf
 exact⟨w2,r2,w3,r3,w4,r4,w5,r5,k1,rfl,by omega,m5,hb5⟩
def uy:OpR:=⟨0,eX,[],j6,0⟩
theorem cG:uy.cells.length=45:=rfl
theorem Ch (n:Int):(⟨3,eX,[],j6,n⟩:OpR).cells.length=45:=rfl
theorem D7:eP.cells.length=45:=rfl
theorem BV (a:Option Addr)(l c:Nat)(w:World):Cf dx #[.slice a l c] w (Ret λv w'=>v=.tuple #[eP.v,.bool true]/\bW w w'):=by
 apply qX
 intro k2 w2 hk2 hw2
 have hB2:bW w w2:=hw2▸ai w _
 have h2:ao w2 k2 ak uy.cells:=ao.new hk2 hw2
 exact ec.fin (cs:=eP.cells) D7 (OpR.one _) h2 cG hB2 (by omega) λwx hb=>⟨rfl,hb⟩
theorem DN {A:Bl}{a:Option Addr}{l c:Nat}{x:List UInt8}{w:World}(ho:Sl tS w A a l c [x])(hx:x.length <=10000000):Cf gF #[.slice a l c] w (Ret λv w'=>v=.tuple #[(⟨3,eX,[],j6,if nK x then ez x else 0⟩:OpR).v,.bool (decide (nK x))]/\bW w w'):=by
 have hl:=ho.1
 obtain rfl:l=1:=hl
 apply BS
 intro k2 w2 hk2 hw2
 have hB2:bW w w2:=hw2▸ai w _
 have h2:ao w2 k2 ak uy.cells:=ao.new hk2 hw2
 obtain⟨v,hv,hrep⟩:=(ho.below hB2).load1 (P:=prog) (i:=0) av rfl rfl (by simp)
 obtain⟨rfl,_⟩:=lZ hrep
 refine⟨⟨⟨by decide,by decide⟩,ho.isSome (i:=0) (by simp)⟩,x,hv,?_⟩
 refine aw (jh x (by omega) w2) ?_
 rintro _ w3 ⟨rfl,hb3⟩
 have hB3:=aa hB2 hb3 hB2.size
 have h3:=h2.below hb3
 by_cases hp:nK x
 · rw[if_pos hp]
   refine⟨_,_,rfl,?_⟩
   exact ec.fin (cs:=(⟨3,eX,[],j6,ez x⟩:OpR).cells) (Ch _) (OpR.one _) h3 cG hB3 (by omega) λwx hb=>⟨by rw[if_pos hp,decide_eq_true hp];rfl,hb⟩
 · rw[if_neg hp]
   refine⟨_,_,rfl,?_⟩
   exact ec.fin (cs:=(⟨3,eX,[],j6,0⟩:OpR).cells) (Ch _) (OpR.one _) h3 cG hB3 (by omega) λwx hb=>⟨by rw[if_neg hp,decide_eq_false hp];rfl,hb⟩
theorem Src.here {α:Type}{T:Ty α}{w:World}{A:Bl}{t:TypeId}{b:Nat}{l:List Value}{xs:List α}(h:w.heap[b]? =some (.cells l.toArray t))(hr:gh T w A l xs):Src T w A (some ⟨b,0,none⟩) xs.length xs:=
 ⟨rfl,.inr ⟨b,0,rfl,l,hr,λj hj=>by rw[rS h,Nat.zero_add];simp⟩⟩
def Ex (c:UInt8):Bool:=decide (33 <=c.toNat/\c.toNat <=126/\c≠37)
theorem Iw {c:UInt8}(h:Ex c=true):eU c=[c]:=if_pos (of_decide_eq_true h)
theorem Li {c:UInt8}(h:Ex c=false):eU c=[37,yS (c.toNat/16),yS (c.toNat%16)]:=if_neg (of_decide_eq_false h)
theorem Mw (c:UInt8):
   Int.fdiv ((c.toNat:Nat):Int) (2 ^ (min (Int.toNat (4:Int)) (IntKind.bits .u8)))=((c.toNat/16:Nat):Int)/\
   IntKind.u8.wrap (((BitVec.ofInt (IntKind.bits .u8) ((c.toNat:Nat):Int)) &&& (BitVec.ofInt (IntKind.bits .u8) (15:Int))).toNat:Nat)=((c.toNat%16:Nat):Int)/\
   bf [48,49,50,51,52,53,54,55,56,57,65,66,67,68,69,70] ((c.toNat/16:Nat):Int)=(((yS (c.toNat/16)).toNat:Nat):Int)/\
   bf [48,49,50,51,52,53,54,55,56,57,65,66,67,68,69,70] ((c.toNat%16:Nat):Int)=(((yS (c.toNat%16)).toNat:Nat):Int):=
 tX (p:=λc=>Int.fdiv ((c.toNat:Nat):Int) (2 ^ (min (Int.toNat (4:Int)) (IntKind.bits .u8)))=((c.toNat/16:Nat):Int)/\
   IntKind.u8.wrap (((BitVec.ofInt (IntKind.bits .u8) ((c.toNat:Nat):Int)) &&& (BitVec.ofInt (IntKind.bits .u8) (15:Int))).toNat:Nat)=((c.toNat%16:Nat):Int)/\
   bf [48,49,50,51,52,53,54,55,56,57,65,66,67,68,69,70] ((c.toNat/16:Nat):Int)=(((yS (c.toNat/16)).toNat:Nat):Int)/\
   bf [48,49,50,51,52,53,54,55,56,57,65,66,67,68,69,70] ((c.toNat%16:Nat):Int)=(((yS (c.toNat%16)).toNat:Nat):Int)) (by decide+kernel) c
theorem La {w:World}{A:Bl}{a b c:UInt8} :gh tU8 w A [.int .u8 ((a.toNat:Nat):Int),.int .u8 ((b.toNat:Nat):Int),.int .u8 ((c.toNat:Nat):Int)] [a,b,c]:=
 ((gh.one (pK rfl)).append (gh.one (pK rfl))).append (gh.one (pK rfl))
theorem pi (s:List UInt8)(hs:s.length <=1000000000000)(w:World):
   Cf jQ #[vS s] w (Ret λv w'=>v=vS (j8 s)/\bW w w'):=by
 apply Dv
 refine ab.of (λh=>?_) (λh=>?_)
 · obtain rfl:s=[]:=eq_of_beq h
   exact⟨rfl,Below.refl _ _⟩
 have hne:s≠[]:=by rintro rfl;cases h
 obtain⟨w2,a,n,c,hr,ho,hb2,hf⟩:=ov av bw bS w s (by omega) NoB
 have hnn:=ho.len
 subst hnn
 refine⟨w2,a,_,c,hr,?_⟩
 refine⟨λm a3 l3 c3 i w'=>∃k:Nat,k <=s.length/\i=(k:Int)/\m=s.length-k/\Ow tU8 aQ w' NoB a3 l3 c3 (cF (s.take k))/\bU w2.heap.size a3/\bW w2 w',
   ⟨_,0,by omega,rfl,rfl,Ow.nil _ _ _ _,bU.none _,Below.refl _ _⟩,?_⟩
 intro m a3 l3 c3 i
 refine aJ.of ?_ _
 rintro w3 ⟨k,hk,rfl,rfl,ho3,hf3,hB3⟩
 have hwl:=(mr (s.take k)).2
 rw[List.length_take]at hwl
 refine ab.of (λh=>?_) (λh=>?_) <;> simp only[dTx,dFx]at h
 · have hlt:k<s.length:=by omega
   have hw1:cF (s.take (k+1))=cF (s.take k)++eU s[k]:=by rw[List.take_succ_eq_append_getElem hlt,oa]
   obtain⟨v,hv,hrep⟩:=(ho.below hB3).all.load1 (i:=(k:Int)) bS rfl rfl (by simpa using hlt)
   have:=Ck hrep
   subst this
   simp only[Int.toNat_natCast]at hv
   have hu:=nS s[k]
   refine⟨⟨⟨by omega,h⟩,ho.all.isSome hlt⟩,_,hv,?_⟩
   refine iU (w:=w3) (Ex s[k]) ?_ ?_
   · unfold Ex
     refine ab.of (λh2=>?_) (λh2=>?_) <;> simp only[gt_iff_lt,dTx,dFx]at h2
     · refine ab.of (λh3=>?_) (λh3=>?_) <;> simp only[dTx,dFx]at h3
       · refine⟨rfl,?_⟩
         rw[Bool.eq_iff_iff,bne_iff_ne,dTx]
         constructor
         · intro h4;exact⟨by omega,by omega,λe=>h4 (by rw[e];rfl)⟩
         · rintro⟨_,_,h4⟩ e;exact h4 (Cj (by simpa using e))
       · exact⟨rfl,(decide_eq_false (by omega)).symm⟩
     · exact⟨rfl,(decide_eq_false (by omega)).symm⟩
   · refine ab.of (λh2=>?_) (λh2=>?_)
     · intro k4 w4 hk4 hw4
       obtain⟨w5,a5,n5,c5,hr5,ho5,hf5,hb5⟩:=C4 (ty:=aG) (w0:=w2) (cm:=1) (vs:=[_]) ni bw gn (by decide) ho3 hf3 hB3 hk4 hw4 (pK rfl) (by omega)
       refine⟨w5,a5,n5,c5,hr5,s.length-(k+1),by omega,k+1,by omega,by rw[wrap_i64 (by omega) (by omega)];omega,rfl,?_,hf5,hb5⟩
       rw[hw1,Iw h2];exact ho5
     · obtain⟨f1,f2,f3,f4⟩:=Mw s[k]
       rw[f1,f2]
       have q1:s[k].toNat/16<16:=by omega
       have q2:s[k].toNat%16<16:=Nat.mod_lt _ (by decide)
       refine⟨by decide,⟨by omega,by simp only[List.length_cons,List.length_nil];omega⟩,⟨by omega,by simp only[List.length_cons,List.length_nil];omega⟩,?_⟩
       rw[f3,f4]
       intro k4 hk4 w4 hw4 hc4
       have hsrc:Src tU8 w4 NoB (some ⟨k4,0,none⟩) 3 [37,yS (s[k].toNat/16),yS (s[k].toNat%16)]:=Src.here (l:=[.int .u8 (((37:UInt8).toNat:Nat):Int),.int .u8 (((yS (s[k].toNat/16)).toNat:Nat):Int),.int .u8 (((yS (s[k].toNat%16)).toNat:Nat):Int)]) hc4 La
       obtain⟨w5,a5,n5,c5,hr5,ho5,hgr,hfr⟩:=eZ (ty:=aG) bw gn (by decide) (ho3.below hw4) (λ_ _ h=>h) (cm:=3) hsrc (by simp;omega)
       have hB4:=aa hB3 hw4 hB3.size
       refine⟨w5,a5,n5,c5,hr5,s.length-(k+1),by omega,k+1,by omega,by rw[wrap_i64 (by omega) (by omega)];omega,rfl,?_,hf3.app hB4.size hfr,hB4.grown hgr hB4.size hf3⟩
       rw[hw1,Li h2];exact ho5
 · have:k=s.length:=by omega
   subst this
   rw[List.take_length]at ho3 hwl
   refine⟨_,me bw av bS ho3.all,?_,aa hb2 hB3 hb2.size⟩
   rw[j8,if_neg hne]
def unT (s:List UInt8):Value:=.tuple #[vS ((unP s).getD []),.bool (unP s).isSome]
theorem LM (c:UInt8):IntKind.u8.wrap (Lib.indexByte [48,49,50,51,52,53,54,55,56,57,65,66,67,68,69,70] c)=((AH c:Nat):Int):=
 tX (p:=λc=>IntKind.u8.wrap (Lib.indexByte [48,49,50,51,52,53,54,55,56,57,65,66,67,68,69,70] c)=((AH c:Nat):Int)) (by decide+kernel) c
theorem NJ (c:UInt8):AH c<16\/AH c=255:=by
 unfold AH
 split
 · left;omega
 · split
   · left;omega
   · right;rfl
theorem LR (a b:Nat)(ha:a<16\/a=255)(hb:b<16\/b=255):
   IntKind.u8.wrap (((BitVec.ofInt (IntKind.bits .u8) (IntKind.u8.wrap (((a:Nat):Int)*2 ^ (min (Int.toNat (4:Int)) (IntKind.bits .u8))))) ||| (BitVec.ofInt (IntKind.bits .u8) (IntKind.u8.wrap (((BitVec.ofInt (IntKind.bits .u8) ((b:Nat):Int)) &&& (BitVec.ofInt (IntKind.bits .u8) (15:Int))).toNat:Nat)))).toNat:Nat)=(((NZ a b).toNat:Nat):Int):=by
 have key:∀a,a<17->∀b,b<17->IntKind.u8.wrap (((BitVec.ofInt (IntKind.bits .u8) (IntKind.u8.wrap ((((if a=16 then 255 else a:Nat)):Int)*2 ^ (min (Int.toNat (4:Int)) (IntKind.bits .u8))))) ||| (BitVec.ofInt (IntKind.bits .u8) (IntKind.u8.wrap (((BitVec.ofInt (IntKind.bits .u8) (((if b=16 then 255 else b:Nat)):Int)) &&& (BitVec.ofInt (IntKind.bits .u8) (15:Int))).toNat:Nat)))).toNat:Nat)=(((NZ (if a=16 then 255 else a) (if b=16 then 255 else b)).toNat:Nat):Int):=by decide+kernel
 have h1:∃a',a'<17/\(if a'=16 then 255 else a')=a:=by
   rcases ha with h|h
   · exact⟨a,by omega,if_neg (by omega)⟩
   · exact⟨16,by decide,by rw[if_pos rfl,h]⟩
 have h2:∃b',b'<17/\(if b'=16 then 255 else b')=b:=by
   rcases hb with h|h
   · exact⟨b,by omega,if_neg (by omega)⟩
   · exact⟨16,by decide,by rw[if_pos rfl,h]⟩
 obtain⟨a',ha',rfl⟩:=h1
 obtain⟨b',hb',rfl⟩:=h2
 exact key a' ha' b' hb'
theorem vD (c:UInt8)(w:World):Cf mD #[.int .u8 ((c.toNat:Nat):Int)] w (Ret λv w'=>v=.int .u8 ((AH c:Nat):Int)/\w'=w):=by
 apply Dw
 refine(Tryz.strings_IndexByte (mkS [48,49,50,51,52,53,54,55,56,57,65,66,67,68,69,70]) _ w).mono ?_
 rintro e w' ⟨rfl,rfl⟩
 refine⟨_,rfl,?_,rfl⟩
 rw[show((c.toNat:Nat):Int).toNat.toUInt8=c by simp]
 show Value.int .u8 (IntKind.u8.wrap (Lib.indexByte [48,49,50,51,52,53,54,55,56,57,65,66,67,68,69,70] c))=_
 rw[LM]
theorem P6 (s:List UInt8):Lib.trimSuffix s [37]=yP s:=by
 rw[(zT s 37).2]
 unfold yP
 split
 · rw[List.dropLast_eq_take]
 · rfl
theorem A2 (s:List UInt8)(hs:s.length <=10000000)(w:World):
   Cf nf #[vS s] w (Ret λv w'=>v=unT s/\bW w w'):=by
 apply zn
 refine(Tryz.strings_TrimSuffix (mkS s) (mkS [37]) w (by show s.length <=_;omega)).mono ?_
 rintro e w1 ⟨rfl,rfl⟩
 refine⟨yP s,by rw[<- P6];rfl,?_⟩
 have hcl:(yP s).length <=s.length:=by unfold yP;split <;> simp
 have bad:∀{u:World},unD (yP s)=none->bW w1 u->(.tuple #[vS [],.bool false]:Value)=unT s/\bW w1 u:=λe hb=>⟨by unfold unT unP;rw[e];rfl,hb⟩
 refine⟨λm a l c r w'=>∃out:List UInt8,unD (yP s)=(unD r).map (λt=>out++t)/\out.length+r.length <=(yP s).length/\m=r.length/\Ow tU8 aQ w' NoB a l c out/\bU w1.heap.size a/\bW w1 w',
   ⟨_,[],by simp,by simp,rfl,Ow.nil _ _ _ _,bU.none _,Below.refl _ _⟩,?_⟩
 intro m a l c r
 refine aJ.of ?_ _
 rintro w2 ⟨out,hD,hl,rfl,ho,hf,hB⟩
 refine ab.of (λh=>?_) (λh=>?_)
 · match r,h with
   | x::r,_=>
     have hx:bf (x::r) 0=((x.toNat:Nat):Int):=rfl
     simp only[List.length_cons]at hl
     refine⟨⟨by decide,by simp only[List.length_cons];omega⟩,?_⟩
     refine⟨λn u w'=>∃(y:UInt8) (q:List UInt8),n=((y.toNat:Nat):Int)/\u=((((x::r).length-q.length:Nat)):Int)/\q=(x::r).drop ((x::r).length-q.length)/\q.length<(x::r).length/\unD (x::r)=(unD q).map (λt=>y::t)/\bW w2 w',?_,?_⟩
     · rw[hx]
       refine ab.of (λh2=>?_) (λh2=>?_)
       · obtain rfl:x=37:=Cj (by simpa using h2)
         refine ab.of (λh3=>?_) (λh3=>?_) <;> simp only[dTx,dFx]at h3
         · refine bad ?_ hB
           rw[hD,unD.eq_def]
           match r,h3 with
           | [],_=>rfl
           | [a],_=>rfl
           | a::b::r,h3=>simp only[List.length_cons]at h3;omega
         · match r,h3,hl with
           | [],h3,_=>simp at h3
           | [a],h3,_=>simp at h3
           | y::z::q,_,hl=>
             have hy:bf (37::y::z::q) 1=((y.toNat:Nat):Int):=rfl
             have hz:bf (37::y::z::q) 2=((z.toNat:Nat):Int):=rfl
             rw[hy,hz]
             refine⟨⟨by decide,by simp only[List.length_cons];omega⟩,_,λu hu=>aw (vD y u) (by rintro _ w' ⟨rfl,rfl⟩;exact⟨rfl,Below.refl _ _⟩),by decide,⟨by decide,by simp only[List.length_cons];omega⟩,_,λu hu=>aw (vD z u) (by rintro _ w' ⟨rfl,rfl⟩;exact⟨rfl,Below.refl _ _⟩),?_⟩
             intro wq hwq
             refine⟨NZ (AH y) (AH z),q,LR _ _ (NJ y) (NJ z),by simp only[List.length_cons];omega,by simp only[List.length_cons];rw[show q.length+1+1+1-q.length=3 by omega];rfl,by simp only[List.length_cons];omega,?_,hwq⟩
             rw[unD.eq_def];rfl
       · have hne:x≠37:=λe=>by subst e;cases h2
         refine⟨x,r,rfl,by simp only[List.length_cons];omega,by simp only[List.length_cons];rw[show r.length+1-r.length=1 by omega];rfl,by simp,?_,Below.refl _ _⟩
         rw[unD.eq_def]
         show(if x=37 then _ else _)=_
         rw[if_neg hne]
     · intro n u
       refine aJ.of ?_ _
       rintro w3 ⟨y,q,rfl,rfl,hq,hql,hqD,hb3⟩
       have hB3:=aa hB hb3 hB.size
       intro k4 w4 hk4 hw4
       obtain⟨w5,a5,n5,c5,hr5,ho5,hf5,hb5⟩:=C4 (ty:=aG) (w0:=w1) (cm:=1) (vs:=[_]) ni bw gn (by decide) (ho.below hb3) hf hB3 hk4 hw4 (pK rfl) (by omega)
       refine⟨w5,a5,n5,c5,hr5,⟨by omega,by omega⟩,?_⟩
       rintro _ rfl
       rw[Int.toNat_natCast,<- hq]
       refine⟨q.length,hql,out++[y],?_,?_,rfl,ho5,hf5,hb5⟩
       · rw[hD,hqD,Option.map_map]
         congr 1
         funext t
         simp
       · simp only[List.length_append,List.length_cons,List.length_nil]at hql ⊢;omega
 · obtain rfl:r=[]:=by simpa using h
   have hD:unD (yP s)=some out:=by rw[hD,unD];simp
   have hol:out.length <=10000000:=by simp at hl;omega
   refine⟨_,me bw av bS ho.all,?_⟩
   refine aw (pi out (by omega) w2) ?_
   rintro _ w3 ⟨rfl,hb3⟩
   have hB3:=aa hB hb3 hB.size
   refine⟨_,rfl,?_⟩
   refine ab.of (λh2=>?_) (λh2=>?_)
   · have h2:(j8 out==s)=false:=by simpa using h2
     refine⟨?_,hB3⟩
     unfold unT unP
     rw[hD,Option.filter_some,h2];rfl
   · have h2:(j8 out==s)=true:=by simpa using h2
     refine⟨_,me bw av bS (ho.below hb3).all,?_,hB3⟩
     unfold unT unP
     rw[hD,Option.filter_some,h2];rfl
theorem xj:∀(k n:Nat),n<10 ^ (k+1)->(mA n).length <=k+1
 | 0,n,h=>by rw[mB (by omega)];exact Nat.le_refl _
 | k+1,n,h=>by
   by_cases h1:n<10
   · rw[mB h1];simp
   · rw[nB h1,List.length_append]
     have:=xj k (n/10) (by rw[Nat.div_lt_iff_lt_mul (by decide)];rw[Nat.pow_succ]at h;omega)
     simp;omega
def fZ (sec:Bool)(n:Int):List UInt8:=if n=(if sec then 443 else 80)then[]else 58::mA n.toNat
def eT (u:Url):List UInt8:=(if u.sec then[104,116,116,112,115,58,47,47]else[104,116,116,112,58,47,47])++(cD u.host++(fZ u.sec u.port++u.path))
def gr (u:Url):List UInt8:=if fm u=true then eT u else[]
theorem yr (b:Bool)(w:World):Cf pb #[.bool b] w (Ret λv w'=>v=.tuple #[vS (if b then[104,116,116,112,115,58,47,47]else[104,116,116,112,58,47,47]),vI (if b then 443 else 80)]/\w'=w):=by
 apply Gm
 cases b
 · exact⟨rfl,rfl⟩
 · exact⟨rfl,rfl⟩
section
open Go.Shelf Go.RowKit Go.Lib Go.Pk
variable {P:Program} {ρ:Ren}
def Asc (cs:ByteArray):Prop:=∀(j:Nat) b,cs.data.toList[j]? =some b->b.toNat<128
theorem SR {r:Int}(h0:128 <=r)(hv:Lib.validRune r=true):∃(rs:ByteArray) (x:UInt8),Utf8.encode r=rs/\2 <=rs.size/\rs.size <=4/\rs.data.toList[rs.size-1]? =some x/\128 <=x.toNat:=by
 have hu:Utf8.valid r=true:=by
   unfold Lib.validRune at hv;unfold Utf8.valid
   simp at hv ⊢;omega
 have e:Utf8.encode r=if r.toNat<0x80 then⟨#[UInt8.ofNat r.toNat]⟩ else if r.toNat<0x800 then⟨#[UInt8.ofNat (0xC0+r.toNat/64),UInt8.ofNat (0x80+r.toNat%64)]⟩
     else if r.toNat<0x10000 then⟨#[UInt8.ofNat (0xE0+r.toNat/4096),UInt8.ofNat (0x80+r.toNat/64%64),UInt8.ofNat (0x80+r.toNat%64)]⟩
     else⟨#[UInt8.ofNat (0xF0+r.toNat/262144),UInt8.ofNat (0x80+r.toNat/4096%64),UInt8.ofNat (0x80+r.toNat/64%64),UInt8.ofNat (0x80+r.toNat%64)]⟩:=by
   unfold Utf8.encode;rw[hu];rfl
 rw[if_neg (by omega)]at e
 have hx:128 <=(UInt8.ofNat (0x80+r.toNat%64)).toNat:=by rw[UInt8.toNat_ofNat'];omega
 by_cases c1:r.toNat<0x800
 · rw[if_pos c1]at e
   exact⟨_,_,e,(show 2 <=2 by decide),(show 2 <=4 by decide),rfl,hx⟩
 rw[if_neg c1]at e
 by_cases c2:r.toNat<0x10000
 · rw[if_pos c2]at e
   exact⟨_,_,e,(show 2 <=3 by decide),(show 3 <=4 by decide),rfl,hx⟩
 · rw[if_neg c2]at e
   exact⟨_,_,e,(show 2 <=4 by decide),(show 4 <=4 by decide),rfl,hx⟩
theorem NV {t:TypeId}(ht:P.underlying t=some .string)(s:ByteArray)(i:Int)(x:UInt8)(h0:0 <=i)(hx:s.data.toList[i.toNat]? =some x)(w:World):
   (Instr.index t (.string s) (vI i)).run P w=.ok (.int .u8 (x.toNat:Nat)) w:=by
 have hl:i.toNat<s.size:=by
   have:=(List.getElem?_eq_some_iff.1 hx).1
   rwa [<- Lib.size_eq]at this
 rw[run_index_string _ _ _ _ _ ht,dif_pos ⟨h0,by omega⟩]
 have:=Lib.data_getElem? s i.toNat hl
 rw[hx]at this
 rw[<- Option.some.inj this]
set_option maxHeartbeats 4000000 in
set_option maxRecDepth 1000000 in
theorem FB (L:Lays.n152 P ρ)(cs:ByteArray)(r:Int)(w:World)(h0:128 <=r)(hne:r≠65533)(hv:Lib.validRune r=false):
   Calls P (ρ.f 152) #[.string cs,.int .i32 r] w λe w'=>e=.returned (vI (-1))/\∃n,w'=w.drewN n:=by
 have mixed:=L.mixed
 have t3:=L.t3;have a3:=L.a3;have z3:=L.z3;have v3:=L.v3;have u3:=run_underlying L.t3
 have t4:=L.t4;have a4:=L.a4;have z4:=L.z4;have v4:=L.v4;have u4:=run_underlying L.t4
 have t5:=L.t5;have a5:=L.a5;have z5:=L.z5;have v5:=L.v5;have u5:=run_underlying L.t5
 have t9:=L.t9;have a9:=L.a9;have z9:=L.z9;have v9:=L.v9;have u9:=run_underlying L.t9
 have t21:=L.t21;have a21:=L.a21;have z21:=L.z21;have v21:=L.v21;have u21:=run_underlying L.t21
 have e137:∀args w,(callFunc (ρ.f 137) args).run P w=.ok (.enter (ρ.f 137) args) w:=enters_of L.f137 (by kernel_rfl) rfl
 have e119:∀args w,(callFunc (ρ.f 119) args).run P w=.ok (.enter (ρ.f 119) args) w:=enters_of L.f119 (by kernel_rfl) rfl
 have hr1: ¬ (r<128):=by omega
 have hr2:(r==65533)=false:=beq_eq_false_iff_ne.2 hne
 go_enter L.f152,Body.n152_ntmps ρ
 go_wp2_with (first
   | (go_at_fn (ρ.f 119);refine(Any.utf8_ValidRune { L with } _ _).mono ?_;rintro e w' ⟨rfl,hw⟩;rw[hw,hv])
   | (go_at_fn (ρ.f 137);refine(Any.strings_IndexByte { L with } _ _ _).mono ?_;rintro e w' ⟨rfl,hw⟩;rw[hw]))
 go_ret
 exact⟨rfl,0,rfl⟩
set_option maxHeartbeats 4000000 in
set_option maxRecDepth 1000000 in
theorem FD (L:Lays.n152 P ρ)(cs:ByteArray)(ha:Asc cs)(hcs:cs.size <=1000)(r:Int)(w:World)(h0:128 <=r)(hne:r≠65533)(hv:Lib.validRune r=true):
   Calls P (ρ.f 152) #[.string cs,.int .i32 r] w λe w'=>e=.returned (vI (-1))/\∃n,w'=w.drewN n:=by
 have mixed:=L.mixed
 have t3:=L.t3;have a3:=L.a3;have z3:=L.z3;have v3:=L.v3;have u3:=run_underlying L.t3
 have t4:=L.t4;have a4:=L.a4;have z4:=L.z4;have v4:=L.v4;have u4:=run_underlying L.t4
 have t5:=L.t5;have a5:=L.a5;have z5:=L.z5;have v5:=L.v5;have u5:=run_underlying L.t5
 have t9:=L.t9;have a9:=L.a9;have z9:=L.z9;have v9:=L.v9;have u9:=run_underlying L.t9
 have t21:=L.t21;have a21:=L.a21;have z21:=L.z21;have v21:=L.v21;have u21:=run_underlying L.t21
 have e137:∀args w,(callFunc (ρ.f 137) args).run P w=.ok (.enter (ρ.f 137) args) w:=enters_of L.f137 (by kernel_rfl) rfl
 have e119:∀args w,(callFunc (ρ.f 119) args).run P w=.ok (.enter (ρ.f 119) args) w:=enters_of L.f119 (by kernel_rfl) rfl
 obtain⟨rs,x,hrs,h2,h4,hx,hx128⟩:=SR h0 hv
 have hr1: ¬ (r<128):=by omega
 have hr2:(r==65533)=false:=beq_eq_false_iff_ne.2 hne
 have hcv:=λw=>run_convert_int_string (P:=P) w (ρ.t 21) (ρ.t 9) .i32 r (by rw[t21];rfl) t9
 rw[hrs]at hcv
 have hR:=λw=>NV (P:=P) t9 rs ((rs.size:Int)-1) x (by omega) (by rw[show((rs.size:Int)-1).toNat=rs.size-1 by omega];exact hx) w
 clear hx hrs
 go_enter L.f152,Body.n152_ntmps ρ
 go_wp2_with (first
   | (go_at_fn (ρ.f 119);refine(Any.utf8_ValidRune { L with } _ _).mono ?_;rintro e w' ⟨rfl,hw⟩;rw[hw,hv])
   | (go_at_fn (ρ.f 137);refine(Any.strings_IndexByte { L with } _ _ _).mono ?_;rintro e w' ⟨rfl,hw⟩;rw[hw]))
 go_wp2_with (go_at_fn (ρ.f 137);refine(Any.strings_IndexByte { L with } _ _ _).mono ?_;rintro e w' ⟨rfl,hw⟩;rw[hw])
 go_step3
 go_wp2_with (go_at_fn (ρ.f 137);refine(Any.strings_IndexByte { L with } _ _ _).mono ?_;rintro e w' ⟨rfl,hw⟩;rw[hw])
 go_loopg [9,10,11,12] 1 (λg s9 _ _ _ wx=>s9=vI ((rs.size:Int)-1)/\wx=w)
 case atStart=>exact⟨rfl,rfl⟩
 case round=>
   obtain⟨rfl,rfl⟩:=hrel
   by_cases hlt:rs.size-1<cs.size
   · obtain⟨y,hy⟩:∃y,cs.data.toList[rs.size-1]? =some y:=⟨_,Lib.data_getElem? cs (rs.size-1) hlt⟩
     have hy128:=ha _ _ hy
     have hS:=λw=>NV (P:=P) t9 cs ((rs.size:Int)-1) y (by omega) (by rw[show((rs.size:Int)-1).toNat=rs.size-1 by omega];exact hy) w
     have hl:(rs.size:Int)-1<(cs.size:Int):=by omega
     have hne2:((y.toNat:Int)==(x.toNat:Int))=false:=beq_eq_false_iff_ne.2 (by omega)
     have hwr:i64.wrap (rs.size:Int)=(rs.size:Int):=wrap_i64 (by omega) (by omega)
     have hle:(0 <=(rs.size:Int)/\(rs.size:Int) <=(cs.size:Int)):=by omega
     have hmi:Lib.indexByte (List.take (cs.size-rs.size) (List.drop rs.size cs.data.toList)) x= -1:=by
       rw[<- Lib.indexAny_one]
       refine Lib.indexAny_none λj b _ hb=>?_
       obtain⟨k,hk⟩:=List.getElem?_of_mem (List.mem_of_mem_drop (List.mem_of_mem_take (List.mem_of_getElem? hb)))
       have:=ha k b hk
       have hne:b≠x:=λe=>by rw[e]at this;omega
       simpa using hne
     clear hy
     go_wp2_with (go_at_fn (ρ.f 137);refine(Any.strings_IndexByte { L with } _ _ _).mono ?_;rintro e w' ⟨rfl,hw⟩;rw[hw])
     go_step3
     go_wp2
     go_quiet_o (fail)
     go_wp2
     go_quiet_o (exact(Any.strings_IndexByte { L with } _ _ _).mono λe w' h=>⟨h.1,_,h.2⟩)
     go_wp2
     change bodyPost P (Body.n152 ρ) (λe w'=>e=Ending.returned (Value.int i64 (-1))/\∃n,w'=wr.drewN n) Exit.ret _ _
     go_ret
     exact⟨rfl,_,rfl⟩
   · have hn: ¬ ((rs.size:Int)-1<(cs.size:Int)):=by omega
     go_wp2
     go_ret
     exact⟨rfl,0,rfl⟩
set_option maxHeartbeats 4000000 in
set_option maxRecDepth 1000000 in
theorem FC (L:Lays.n152 P ρ)(cs:ByteArray)(ha:Asc cs)(hcs:cs.size <=1000)(w:World):
   Calls P (ρ.f 152) #[.string cs,.int .i32 65533] w λe w'=>e=.returned (vI (-1))/\bW w w':=by
 have mixed:=L.mixed
 have t3:=L.t3;have a3:=L.a3;have z3:=L.z3;have v3:=L.v3;have u3:=run_underlying L.t3
 have t4:=L.t4;have a4:=L.a4;have z4:=L.z4;have v4:=L.v4;have u4:=run_underlying L.t4
 have t9:=L.t9;have a9:=L.a9;have z9:=L.z9;have v9:=L.v9;have u9:=run_underlying L.t9
 have t21:=L.t21;have a21:=L.a21;have z21:=L.z21;have v21:=L.v21;have u21:=run_underlying L.t21
 go_enter L.f152,Body.n152_ntmps ρ
 go_wp2
 go_loopg [5,6] cs.size (λg _ _ wx=>∃i:Nat,i+g=cs.size/\wx=w.iter cs i)
 case atStart=>exact⟨0,by omega,rfl⟩
 case round=>
   obtain⟨i,hig,rfl⟩:=hrel
   by_cases hi:i<cs.size
   · have h128:=ha i _ (Lib.data_getElem? cs i hi)
     have hnx:∀ty,(Instr.next (.pointer (some ⟨w.heap.size,0,none⟩)) true ty).run P (w.iter cs i)=.ok (.tuple #[.bool true,vI i,.int .i32 ((cs[i]'hi).toNat:Nat)]) (w.iter cs (i+1)):=λty=>run_next_ascii (P:=P) w cs i ty hi h128
     generalize cs[i]'hi=y at*
     have hy:((y.toNat:Int)==65533)=false:=beq_eq_false_iff_ne.2 (by omega)
     go_wp2
     go_roundg (cs.size-(i+1))
     case measure=>omega
     case rel=>exact⟨i+1,by omega,rfl⟩
   · have e:i=cs.size:=by omega
     subst e
     have hnx:=run_next_end (P:=P) w cs cs.size
     go_wp2
     go_ret
     exact⟨rfl,(Below.refl _ _).alloc (Nat.le_refl _) _⟩
theorem FA (L:Lays.n152 P ρ)(cs:ByteArray)(ha:Asc cs)(hcs:cs.size <=1000)(r:Int)(w:World)(h0:128 <=r):
   Calls P (ρ.f 152) #[.string cs,.int .i32 r] w λe w'=>e=.returned (vI (-1))/\bW w w':=by
 have dn:∀n,bW w (w.drewN n):=λn=>⟨rfl,rfl,rfl,Nat.le_refl _,λ_ _=>rfl⟩
 by_cases he:r=65533
 · rw[he];exact FC L cs ha hcs w
 cases hv:Lib.validRune r with
 | false=>exact(FB L cs r w h0 he hv).mono λe w' ⟨h1,n,h2⟩=>⟨h1,h2▸dn n⟩
 | true=>exact(FD L cs ha hcs r w h0 he hv).mono λe w' ⟨h1,n,h2⟩=>⟨h1,h2▸dn n⟩
theorem LG (s:ByteArray)(i:Nat)(h:i<s.size)(hb:128 <=(s[i]'h).toNat):
   128 <=(Utf8.decode s i).1/\1 <=(Utf8.decode s i).2/\i+(Utf8.decode s i).2 <=s.size/\∀j,i <=j->(hj:j<i+(Utf8.decode s i).2)->∀hs:j<s.size,128 <=(s[j]'hs).toNat:=by
 have hg:∀k (hk:k<s.size),s.get! k=s[k]'hk:=λk hk=>by
   simp[ByteArray.get!,getElem!_pos,hk];rfl
 unfold Utf8.decode
 have e0:(s.get! (i+0)).toNat=(s[i]'h).toNat:=by rw[Nat.add_zero,hg i h]
 simp only[e0]
 rw[if_neg (by omega)]
 have one:∀j,i <=j->j<i+1->∀hs:j<s.size,128 <=(s[j]'hs).toNat:=λj h1 h2 hs=>by
   have:j=i:=by omega
   subst this;exact hb
 have cont:∀k,(decide (i+k<s.size)&&(s.get! (i+k)).toNat/64==2)=true->∃hk:i+k<s.size,128 <=(s[i+k]'hk).toNat:=λk hc=>by
   simp only[Bool.and_eq_true,dTx,beq_iff_eq]at hc
   refine⟨hc.1,?_⟩
   have:=hc.2
   rw[hg _ hc.1]at this
   omega
 have bad:128 <=Utf8.runeError:=by decide
 split
 · rename_i hc
   rw[Bool.and_eq_true]at hc
   obtain⟨k1,b1⟩:=cont 1 hc.2
   split
   · rename_i hc2
     refine⟨hc2,show 1 <=2 by decide,by show i+2 <=_;omega,λj h1 h2 hs=>?_⟩
     have h2:j<i+2:=h2
     have:j=i\/j=i+1:=by omega
     rcases this with rfl|rfl
     · exact hb
     · exact b1
   · exact⟨bad,by decide,by show i+1 <=_;omega,one⟩
 split
 · rename_i hc
   rw[Bool.and_eq_true,Bool.and_eq_true]at hc
   obtain⟨k1,b1⟩:=cont 1 hc.1.2
   obtain⟨k2,b2⟩:=cont 2 hc.2
   split
   · rename_i hc2
     rw[Bool.and_eq_true,dTx]at hc2
     refine⟨by show 128 <=_;omega,show 1 <=3 by decide,by show i+3 <=_;omega,λj h1 h2 hs=>?_⟩
     have h2:j<i+3:=h2
     have:j=i\/j=i+1\/j=i+2:=by omega
     rcases this with rfl|rfl|rfl
     · exact hb
     · exact b1
     · exact b2
   · exact⟨bad,by decide,by show i+1 <=_;omega,one⟩
 split
 · rename_i hc
   rw[Bool.and_eq_true,Bool.and_eq_true,Bool.and_eq_true]at hc
   obtain⟨k1,b1⟩:=cont 1 hc.1.1.2
   obtain⟨k2,b2⟩:=cont 2 hc.1.2
   obtain⟨k3,b3⟩:=cont 3 hc.2
   split
   · rename_i hc2
     rw[Bool.and_eq_true,dTx]at hc2
     refine⟨by show 128 <=_;omega,show 1 <=4 by decide,by show i+4 <=_;omega,λj h1 h2 hs=>?_⟩
     have h2:j<i+4:=h2
     have:j=i\/j=i+1\/j=i+2\/j=i+3:=by omega
     rcases this with rfl|rfl|rfl|rfl
     · exact hb
     · exact b1
     · exact b2
     · exact b3
   · exact⟨bad,by decide,by show i+1 <=_;omega,one⟩
 · exact⟨bad,by decide,by show i+1 <=_;omega,one⟩
set_option maxHeartbeats 8000000 in
set_option maxRecDepth 1000000 in
theorem CR (L:Lays.n153 P ρ)(cs:ByteArray)(ha:Asc cs)(h2:2 <=cs.size)(hcs:cs.size <=1000)(s:ByteArray)(w:World)(h8:s.size <=8):
   Calls P (ρ.f 153) #[.string s,.string cs] w λe w'=>e=.returned (vI (Lib.indexAny s.data.toList cs.data.toList))/\bW w w':=by
 have hemp:cs.toList.isEmpty=false:=by
   rw[Lib.toList_data]
   cases h:cs.data.toList with
   | nil=>have:=Lib.size_eq cs;rw[h,List.length_nil]at this;omega
   | cons _ _=>rfl
 have hn1:((cs.size:Int)==1)=false:=beq_eq_false_iff_ne.2 (by omega)
 have h8z:decide ((8:Int)<(s.size:Int))=false:=decide_eq_false (by omega)
 have t3:=L.t3;have a3:=L.a3;have z3:=L.z3;have v3:=L.v3
 have t4:=L.t4;have a4:=L.a4;have z4:=L.z4;have v4:=L.v4
 have t5:=L.t5;have a5:=L.a5;have z5:=L.z5;have v5:=L.v5
 have t9:=L.t9;have a9:=L.a9;have z9:=L.z9;have v9:=L.v9
 have t21:=L.t21;have a21:=L.a21;have z21:=L.z21;have v21:=L.v21
 have e152:∀args w,(callFunc (ρ.f 152) args).run P w=.ok (.enter (ρ.f 152) args) w:=enters_of L.f152 (by kernel_rfl) rfl
 have e226:∀args w,(callFunc (ρ.f 226) args).run P w=.ok (.enter (ρ.f 226) args) w:=enters_of L.f226 (by kernel_rfl) rfl
 have L152:Lays.n152 P ρ:= { L with }
 have HA:Aside (Asc cs):=ha
 clear ha
 go_enter L.f153,Body.n153_ntmps ρ
 go_wp2_with (go_at_fn (ρ.f 226);refine(Any.strings_shouldUseASCIISet { L with } _ _).mono ?_;rintro e w' ⟨rfl,hw⟩;rw[hw,h8z])
 go_loopg [9,10] s.size (λg _ _ wx=>∃i:Nat,i+g=s.size/\wx.heap[w.heap.size]? =some (.stringIter s i)/\bW w wx/\Lib.NoAny s.data.toList cs.data.toList i)
 case atStart=>exact⟨0,by omega,World.iter_heap w s 0,(Below.refl _ _).alloc (Nat.le_refl _) _,Lib.NoAny.zero _ _⟩
 case round=>
   obtain⟨i,hig,hit,hB,hno⟩:=hrel
   have HN:Aside (Lib.NoAny s.data.toList cs.data.toList i):=hno
   clear hno
   by_cases hi:i<s.size
   · obtain⟨x,hx⟩:∃x:UInt8,s[i]'hi=x:=⟨_,rfl⟩
     have hxl:s.data.toList[i]? =some x:=by rw[<- hx];exact Lib.data_getElem? s i hi
     by_cases hx128:x.toNat<128
     · have hnx:=λty=>run_next_ascii_at (P:=P) wr w.heap.size s i ty hit hi (by rw[hx];exact hx128)
       rw[hx]at hnx
       have hit2:=iterAt_heap wr w.heap.size s i (i+1) hit
       have hB2:=below_iterAt hB (Nat.le_refl w.heap.size) s (i+1)
       have Hx:Aside (s.data.toList[i]? =some x):=hxl
       clear hxl hx hit
       have hcon:=Lib.contains_iff_indexByte cs.data.toList x
       have hback:((x.toNat:Int)).toNat.toUInt8=x:=by simp
       cases hin:cs.data.toList.contains x
       · rw[hin]at hcon
         have hlt: ¬ ((0:Int) <=Lib.indexByte cs.data.toList x):=of_decide_eq_false hcon.symm
         clear hcon
         generalize hgw:wr.iterAt w.heap.size s (i+1)=wi at*
         go_wp2_with (go_at_fn (ρ.f 152);refine(Any.strings_IndexRune_ascii { L with } _ _ _ (by omega) (by omega)).mono ?_;rintro e w' ⟨rfl,hw⟩;rw[hw,hback])
         go_roundg (s.size-(i+1))
         case measure=>omega
         case rel=>exact⟨i+1,by omega,hit2,hB2,HN.out.succ Hx.out hin⟩
       · rw[hin]at hcon
         have hge:(0:Int) <=Lib.indexByte cs.data.toList x:=of_decide_eq_true hcon.symm
         clear hcon
         generalize hgw:wr.iterAt w.heap.size s (i+1)=wi at*
         go_wp2_with (go_at_fn (ρ.f 152);refine(Any.strings_IndexRune_ascii { L with } _ _ _ (by omega) (by omega)).mono ?_;rintro e w' ⟨rfl,hw⟩;rw[hw,hback])
         go_ret
         exact⟨by rw[Lib.indexAny_hit HN.out Hx.out hin];rfl,hB2⟩
     · have hd:=LG s i hi (by rw[hx];omega)
       have hnx:=λty=>run_next_any_at (P:=P) wr w.heap.size s i ty hit hi
       have hit2:=iterAt_heap wr w.heap.size s i (i+(Utf8.decode s i).2) hit
       have hB2:=below_iterAt hB (Nat.le_refl w.heap.size) s (i+(Utf8.decode s i).2)
       generalize hgw:wr.iterAt w.heap.size s (i+(Utf8.decode s i).2)=wi at*
       generalize Utf8.decode s i=cn at*
       obtain⟨c,n⟩:=cn
       obtain⟨d1,d2,d3,d4⟩:=hd
       simp only at d1 d2 d3 d4 hnx hit2
       have hL:=FA L152 cs HA.out hcs (c:Int) wi (by omega)
       have HD:Aside (∀j,i <=j->(hj:j<i+n)->∀hs:j<s.size,128 <=(s[j]'hs).toNat):=d4
       clear d4 hx hxl hit
       go_wp2_with (go_at_fn (ρ.f 152);refine hL.mono ?_;rintro e w' ⟨rfl,hw⟩)
       go_roundg (s.size-(i+n))
       case measure=>omega
       case rel=>
         rename_i hw
         refine⟨i+n,by omega,?_,aa hB2 hw hB2.size,?_⟩
         · rw[hw.block _ (Array.getElem?_eq_some_iff.1 hit2).1];exact hit2
         · intro j b hj hjb
           by_cases hji:j<i
           · exact HN.out j b hji hjb
           · have hjs:j<s.size:=by omega
             have h1:=HD.out j (by omega) hj hjs
             have h2:s.data.toList[j]? =some (s[j]'hjs):=Lib.data_getElem? s j hjs
             rw[h2]at hjb
             rw[Option.some.inj hjb]at h1
             rw[Bool.eq_false_iff]
             intro hc
             rw[List.contains_iff_mem]at hc
             obtain⟨k,hk⟩:=List.getElem?_of_mem hc
             have:=HA.out k b hk
             omega
   · have hnx:=λty=>run_next_end_at (P:=P) wr w.heap.size s i ty hit hi
     go_wp2
     go_ret
     have e:i=s.size:=by omega
     have hno:=HN.out
     rw[e]at hno
     exact⟨by rw[Lib.indexAny_none (by rw[<- Lib.size_eq];exact hno)];rfl,hB⟩
theorem um (cs:List UInt8)(h2:2 <=cs.length)(hcs:cs.length <=1000)(ha:∀c∈cs,c.toNat<128)(s:List UInt8)(hs:s.length<4294967281)(w:World):
   Cf eF #[vS s,vS cs] w (Ret λv w'=>v=vI (Lib.indexAny s cs)/\bW w w'):=by
 have hsz:∀s,(mkS s).size=s.length:=λs=>by show s.toArray.size=_;simp
 have hA:Asc (mkS cs):=λj b h=>ha b (List.mem_of_getElem? h)
 by_cases h8:(mkS s).size <=8
 · exact(CR Tryz.lays153 (mkS cs) hA (by rw[hsz];exact h2) (by rw[hsz];exact hcs) (mkS s) w h8).mono λe w' ⟨h1,h2⟩=>⟨_,h1,rfl,h2⟩
 · have hi:(prog.info? (Tryz.lays153_ren.t 116)).map (λi=>(i.zero,i.size))=some (some (.agg (Array.replicate 256 (.bool false))),256):=by kernel_rfl
   refine(Any.strings_IndexAny_long Tryz.lays153 (zero_of_info hi).1 (zero_of_info hi).2 (mkS s) (mkS cs) w (by rw[hsz];exact h2) (by omega) (by rw[hsz];exact hs) (by rw[hsz];omega) hA).mono λe w' ⟨h1,h2⟩=>⟨_,h1,rfl,?_⟩
   rw[h2]
   exact((Below.refl _ _).alloc (Nat.le_refl _) _).alloc (by simp) _
theorem xz (s:List UInt8)(hs:s.length<4294967281)(w:World):
   Cf eF #[vS s,vS [32,9]] w (Ret λv w'=>v=vI (Lib.indexAny s [32,9])/\bW w w'):=um [32,9] (by decide) (by decide) (by decide) s hs w
end
abbrev Rul:=Int×List UInt8
def yU (k:Int):List UInt8:=if k=2 then[42,46]else if k=3 then[33]else[]
def yZ (r:Rul):List UInt8:=yU r.1++r.2
def ve (s:List UInt8):List UInt8:=s.takeWhile λc=> !xA c
def qJ (u:List UInt8):Rul:=if Lib.hasPrefix u [42,46]=true then(2,u.drop 2)else if Lib.hasPrefix u [33]=true then(3,u.drop 1)else(1,u)
def Tt (k:Int)(o:Option Hst):Rul×Bool×Int:=match o with
 | none=>((0,[]),false,51)
 | some h=>if h.kind=1/\ ¬ (k=3/\(aK h).length<2)then((k,h.name),true,0)else((0,[]),false,51)
def qK (s:List UInt8):Rul×Bool×Int:=
 if trimB s=[]\/Lib.hasPrefix (trimB s) [47,47]=true then((0,[]),false,0)else Tt (qJ (ve (trimB s))).1 (bt (qJ (ve (trimB s))).2)
def KZ (r:Rul):List Value:=[vI r.1,vS r.2]
def zZc (r:Rul):Value:=.agg (KZ r).toArray
def UE (x:Rul×Bool×Int):Value:=.tuple #[zZc x.1,.bool x.2.1,vI x.2.2]
def Mf (r q:Rul):Bool:=(r.1==q.1)&&((r.2==q.2)&&true)
theorem OQ (r q:Rul):Mf r q=true ↔ r=q:=by
 unfold Mf
 rw[Bool.and_eq_true,Bool.and_true,beq_iff_eq,beq_iff_eq]
 exact⟨λh=>Prod.ext h.1 h.2,λh=>by rw[h];exact⟨rfl,rfl⟩⟩
def Q8 (r:Rul):Bool:=((qK (yZ r)).2.2==0)&&((qK (yZ r)).2.1&&Mf (qK (yZ r)).1 r)
theorem QA (c:UInt8):([32,9]:List UInt8).contains c=xA c:=by
 unfold xA
 rw[Bool.eq_iff_iff];simp
theorem NU:∀s:List UInt8,(0 <=Lib.indexAny s [32,9]->(Lib.indexAny s [32,9]).toNat <=s.length/\s.take (Lib.indexAny s [32,9]).toNat=ve s)/\(¬ 0 <=Lib.indexAny s [32,9]->ve s=s)
 | []=>⟨λh=>absurd h (by decide),λ_=>rfl⟩
 | c::s=>by
   have ih:=NU s
   unfold Lib.indexAny ve
   rw[QA,List.takeWhile_cons]
   cases hb:xA c with
   | true=>exact⟨λ_=>⟨by simp,by simp⟩,λh=>absurd (show(0:Int) <=0 by decide) h⟩
   | false=>
     simp only[Bool.not_false,if_true,Bool.false_eq_true,if_false]
     have hge:=Lib.indexAny_ge [32,9] s
     generalize Lib.indexAny s [32,9]=n at*
     by_cases hn:n= -1
     · subst hn
       exact⟨λh=>absurd h (by decide),λ_=>by rw[show s.takeWhile (λc=> !xA c)=s from ih.2 (by decide)]⟩
     · have h0:0 <=n:=by omega
       rw[if_neg (by simpa using hn)]
       obtain⟨k,rfl⟩:=Int.eq_ofNat_of_zero_le h0
       refine⟨λ_=>?_,λh=>absurd (show(0:Int) <=(k:Int)+1 by omega) h⟩
       have e:((k:Int)+1).toNat=k+1:=by omega
       have h1:=ih.1 h0
       rw[Int.toNat_natCast]at h1
       rw[e,List.take_succ_cons,h1.2]
       exact⟨by simp;omega,rfl⟩
theorem Pp (s:List UInt8):(trimB s).length <=s.length:=xR _ _
theorem M2 (s:List UInt8):(ve s).length <=s.length:=mJ _ _
theorem QE (s:List UInt8):(qJ s).2.length <=s.length:=by
 unfold qJ;split
 · simp
 split
 · simp
 · exact Nat.le_refl _
theorem Eg {s:List UInt8}{h:Hst}(e:bt s=some h):h.name.length <=253:=by
 unfold bt at e
 split at e
 · split at e
   · cases hv:v6A ((s.drop 1).take (s.length-2))with
     | none=>rw[hv]at e;cases e
     | some a=>rw[hv]at e;cases e;exact Nat.zero_le _
   · cases e
 split at e
 · cases hv:v4V s with
   | none=>rw[hv]at e;cases e
   | some a=>rw[hv]at e;cases e;exact Nat.zero_le _
 split at e
 · rename_i h1;cases e;simp only[co,List.length_map];exact h1.1
 · cases e
theorem rP:Whl prog aW 2:=⟨⟨_,_,Ce⟩,by kernel_rfl⟩
theorem JL (r:Rul):yM (KZ r):=bI rfl (bI rfl nj)
theorem NI:prog.eqGuardType prog.depth aW=false:=by kernel_rfl
theorem SW (r q:Rul):eqV prog 10000 aW (zZc r) (zZc q)=some (Mf r q):=by
 obtain⟨a,b⟩:=r
 obtain⟨c,d⟩:=q
 kernel_rfl
theorem UO (r q:Rul){x y:Operand}(w:World):((do eqGuard .eql aW x y (zZc r) (zZc q);binOp .eql aW (zZc r) (zZc q):Sem Value)).run prog w=.ok (.bool (Mf r q)) w:=
 Ez NI (SW r q) w
theorem RZ (s p:List UInt8)(w:World):Cf ej #[vS s,vS p] w (Ret λv w'=>v=.bool (Lib.hasPrefix s p)/\w'=w):=
 (Tryz.strings_HasPrefix (mkS s) (mkS p) w).mono λe w' ⟨h1,h2⟩=>⟨_,h1,rfl,h2⟩
theorem IY (s p:List UInt8)(w:World):Cf cv #[vS s,vS p] w (Ret λv w'=>v=.tuple #[vS (Lib.trimPrefix s p),.bool (Lib.hasPrefix s p)]/\w'=w):=
 (Tryz.strings_CutPrefix (mkS s) (mkS p) w).mono λe w' ⟨h1,h2⟩=>⟨_,h1,rfl,h2⟩
theorem qQ (k:Int)(w:World):Cf oX #[vI k] w (Ret λv w'=>v=vS (yU k)/\w'=w):=by
 apply Ge
 unfold yC yU
 refine ab.of (λh=>⟨by rw[if_pos (eq_of_beq h)],rfl⟩) (λh=>?_)
 rw[if_neg (beq_eq_false_iff_ne.1 h)]
 exact ab.of (λh=>⟨by rw[if_pos (eq_of_beq h)],rfl⟩) (λh=>⟨by rw[if_neg (beq_eq_false_iff_ne.1 h)],rfl⟩)
theorem Dd (u:List UInt8)(w:World):Cf oW #[vS u] w (Ret λv w'=>v=.tuple #[vI (qJ u).1,.string (mkS (qJ u).2)]/\w'=w):=by
 apply BP
 refine⟨λm i w'=>w'=w/\(m=2/\i=0\/m=1/\i=1/\ ¬ Lib.hasPrefix u [42,46]=true\/m=0/\i=2/\ ¬ Lib.hasPrefix u [42,46]=true/\ ¬ Lib.hasPrefix u [33]=true),⟨2,rfl,.inl ⟨rfl,rfl⟩⟩,?_⟩
 intro m i
 refine aJ.of ?_ _
 rintro w' ⟨hw',h⟩
 rw[hw'];clear hw'
 rcases h with⟨rfl,rfl⟩|⟨rfl,rfl,h1⟩|⟨rfl,rfl,h1,h2⟩
 · refine ab.yes (by decide) ⟨2,by kernel_rfl,?_⟩
   refine aw (qQ 2 w) ?_
   rintro _ w1 ⟨rfl,hw1⟩
   rw[hw1];clear hw1
   refine⟨_,rfl,?_⟩
   refine aw (IY u (yU 2) w) ?_
   rintro _ w1 ⟨rfl,hw1⟩
   rw[hw1];clear hw1
   refine⟨_,_,rfl,?_⟩
   show ab (Lib.hasPrefix u [42,46]) _ _
   refine ab.of (λh=>⟨?_,rfl⟩) (λh=>⟨1,by decide,rfl,.inr (.inl ⟨rfl,rfl,by rw[h];decide⟩)⟩)
   have e:Lib.trimPrefix u (yU 2)=u.drop 2:=by exact if_pos h
   unfold qJ;rw[if_pos h,e]
 · refine ab.yes (by decide) ⟨3,by kernel_rfl,?_⟩
   refine aw (qQ 3 w) ?_
   rintro _ w1 ⟨rfl,hw1⟩
   rw[hw1];clear hw1
   refine⟨_,rfl,?_⟩
   refine aw (IY u (yU 3) w) ?_
   rintro _ w1 ⟨rfl,hw1⟩
   rw[hw1];clear hw1
   refine⟨_,_,rfl,?_⟩
   show ab (Lib.hasPrefix u [33]) _ _
   refine ab.of (λh=>⟨?_,rfl⟩) (λh=>⟨0,by decide,rfl,.inr (.inr ⟨rfl,rfl,h1,by rw[h];decide⟩)⟩)
   have e:Lib.trimPrefix u (yU 3)=u.drop 1:=by exact if_pos h
   unfold qJ;rw[if_neg h1,if_pos h,e]
 · exact ab.no (by decide) ⟨by unfold qJ;rw[if_neg h1,if_neg h2],rfl⟩
theorem HT (r:Rul)(hr:r.2.length <=4611686018427387904)(w:World):Cf uf #[zZc r] w (Ret λv w'=>v=vS (yZ r)/\bW w w'):=by
 obtain⟨k,n⟩:=r
 apply Gd
 intro k1 w1 hk1 hw1
 have hB1:=(hw1▸ai w _:bW w w1)
 have h1:ao w1 k1 aW (KZ (k,n)):=ao.new hk1 hw1
 have hm:(yU k).length <=2:=by unfold yU;split;decide;split;decide;decide
 refine⟨rfl,k,λu hu=>(h1.below hu).load1 bG rfl rfl,yU k,λu hu=>?_,rfl,n,λu hu=>(h1.below hu).load1 av rfl rfl,fits (by simp at hr;omega),?_⟩
 · refine cw ?_ hu
   exact(qQ k u).mono λe w' ⟨v,h1,h2,h3⟩=>⟨v,h1,h2,h3▸Below.refl _ _⟩
 rintro _ rfl wq hq
 exact⟨rfl,aa hB1 hq hB1.size⟩
def PM (s:List UInt8)(w:World)(v:Value)(w':World):Prop:=v=UE (qK s)/\bW w w'
theorem JK (r:Rul){w w':World}{k2:Nat}{vs:List Value}(h2:ao w' k2 aW vs)(hl:vs.length=2)(hb:bW w w')(hk:w.heap.size <=k2){b:Bool}{e:Int}{K:Value->World->Prop}
   (hK:∀wx,bW w wx->K (UE (r,b,e)) wx):
   ∃(wx:World),(Instr.storeAt aW (.pointer (some ⟨k2,0,none⟩)) (zZc r)).run prog w'=.ok () wx/\
     ∃(n0:Int) (s1:List UInt8),(bg aW (.pointer (some ⟨k2,0,none⟩))).run prog wx=.ok (.agg #[vI n0,vS s1]) wx/\
       K (.tuple #[.agg #[vI n0,vS s1],.bool b,vI e]) wx:=by
 obtain⟨wx,hs,h3,hg⟩:=rP.store0 (cs:=KZ r) rfl (JL r) h2 hl
 exact⟨wx,hs,r.1,r.2,ao.res (rP.load0 h3 rfl),hK wx (Below.put hb hg hk)⟩
theorem HS (s:List UInt8)(hs:s.length <=2000000000)(w:World)(he:Env w):Cf ue #[vS s] w (Ret (PM s w)):=by
 apply Gc
 intro k2 w2 hk2 hw2
 have hB2:=(hw2▸ai w _:bW w w2)
 have h2:ao w2 k2 aW (KZ (0,[])):=ao.new hk2 hw2
 have hk2w:w.heap.size <=k2:=by omega
 have tl:=Pp s
 refine aw (kT s (by omega) w2) ?_
 rintro _ w3 ⟨rfl,hb3⟩
 have hB3:=aa hB2 hb3 hB2.size
 have h23:=h2.below hb3
 refine⟨_,rfl,?_⟩
 have hV:qK s=if trimB s=[]\/Lib.hasPrefix (trimB s) [47,47]=true then((0,[]),false,0)else Tt (qJ (ve (trimB s))).1 (bt (qJ (ve (trimB s))).2):=rfl
 generalize trimB s=t at*
 refine si (w:=w3) (¬ (t=[]\/Lib.hasPrefix t [47,47]=true)) ?_ (λhc=>?_)
 · refine iU (w:=w3) (decide (t=[]\/Lib.hasPrefix t [47,47]=true)) ?_ ?_
   · refine ab.of (λh=>⟨rfl,by rw[decide_eq_true (.inl (eq_of_beq h))]⟩) (λh=>?_)
     refine aw (RZ t [47,47] w3) ?_
     rintro _ w4 ⟨rfl,hw4⟩
     refine⟨_,rfl,hw4,?_⟩
     rw[Bool.eq_iff_iff,dTx]
     exact⟨.inr,λhx=>hx.elim (λhx=>absurd hx (beq_eq_false_iff_ne.1 h)) id⟩
   · refine ab.of (λh=>?_) (λh=>⟨rfl,of_decide_eq_false h⟩)
     exact JK (0,[]) h23 rfl hB3 hk2w λwx hb=>⟨by rw[hV,if_pos (of_decide_eq_true h)],hb⟩
 · rw[if_neg hc]at hV
   have hu:=NU t
   have hul:=M2 t
   refine⟨λu w'=>u=ve t/\bW w3 w',?_,?_⟩
   · refine aw (xz t (by omega) w3) ?_
     rintro _ w4 ⟨rfl,hb4⟩
     refine⟨_,rfl,ab.of (λh=>?_) (λh=>?_)⟩
     · have h:=of_decide_eq_true h
       refine⟨⟨h,by have:=(hu.1 h).1;omega⟩,?_⟩
       rintro _ rfl
       exact⟨(hu.1 h).2,hb4⟩
     · exact⟨(hu.2 (of_decide_eq_false h)).symm,hb4⟩
   · intro u
     refine aJ.of ?_ _
     rintro w4 ⟨rfl,hb4⟩
     have hB4:=aa hB3 hb4 hB3.size
     have h24:=h23.below hb4
     refine aw (Dd (ve t) w4) ?_
     rintro _ w5 ⟨rfl,hw5⟩
     rw[hw5];clear hw5
     have hkl:=QE (ve t)
     refine⟨_,_,rfl,?_⟩
     generalize qJ (ve t)=kn at*
     obtain⟨k,n⟩:=kn
     refine aw (jd n (by simp at hkl;omega) w4 (he.step hB4)) ?_
     rintro _ w6 ⟨rfl,hb6⟩
     have hB6:=aa hB4 hb6 hB4.size
     rw[io]
     refine⟨_,_,rfl,?_⟩
     have hok:=lN λx hx=>fM (s:=n) hx
     refine aP.new (zs:=gJ.cells) (cs:=((bt n).getD gJ).cells) rfl (Hst.len hok) (Hst.one _) w6 λk8 w8 hk8 h8 hb8=>?_
     have hB8:=aa hB6 hb8 hB6.size
     have h28:=(h24.below hb6).below hb8
     simp only at hV
     refine gE (λw'=>∃h:Hst,bt n=some h/\qK s=((k,h.name),true,0)/\bW w8 w') ?_ ?_
     · refine uX (λb w'=>b=decide (qK s=((0,[]),false,51))/\bW w8 w'/\(b=false->∃h:Hst,bt n=some h/\qK s=((k,h.name),true,0))) ?_ ?_
       · cases hn:bt n with
         | none=>
           rw[hn]at hV
           exact ab.yes rfl ⟨by rw[hV];rfl,Below.refl _ _,λhx=>by cases hx⟩
         | some h=>
           rw[hn]at hV h8 hok
           have hV:qK s=if h.kind=1/\ ¬ (k=3/\(aK h).length<2)then((k,h.name),true,0)else((0,[]),false,51):=hV
           have bad: ¬ (h.kind=1/\ ¬ (k=3/\(aK h).length<2))->(true:Bool)=decide (qK s=((0,[]),false,51)):=λhx=>by rw[hV,if_neg hx];rfl
           have good:(h.kind=1/\ ¬ (k=3/\(aK h).length<2))->(false:Bool)=decide (qK s=((0,[]),false,51))/\(∃h':Hst,some h=some h'/\qK s=((k,h'.name),true,0)):=λhx=>by
             rw[hV,if_pos hx];exact⟨(decide_eq_false (by intro hx;have:=congrArg (λz=>z.2.1) hx;cases this)).symm,h,rfl,rfl⟩
           refine ab.no rfl ⟨rfl,_,h8.load1 bG rfl rfl,ab.of (λc1=>⟨bad λhx=>?_,Below.refl _ _,λhx=>by cases hx⟩) (λc1=>?_)⟩
           · have c1:(h.kind !=1)=true:=c1
             rw[hx.1]at c1;simp at c1
           have c1:(h.kind !=1)=false:=c1
           have c1:h.kind=1:=by simpa using c1
           refine ab.of (λc2=>?_) (λc2=>?_)
           · have c2:k=3:=eq_of_beq c2
             refine⟨_,aP.load0 h8 (Hst.len hok),?_⟩
             have hnl:h.name.length <=1000000000:=by have:=Eg hn;omega
             refine aw (fX hok hnl w8 (he.step hB8)) ?_
             rintro _ w9 ⟨a,l,c,rfl,ho,-,hb9⟩
             refine⟨_,_,_,rfl,?_⟩
             have ho1:=ho.len
             simp only[Option.getD_some]at ho1
             rw[ho1]
             by_cases c3:(aK h).length<2
             · try dsimp only
               rw[decide_eq_true (show(((aK h).length:Nat):Int)<2 by omega)]
               exact⟨bad λhx=>hx.2 ⟨c2,c3⟩,hb9,λhx=>by cases hx⟩
             · try dsimp only
               rw[decide_eq_false (show ¬ (((aK h).length:Nat):Int)<2 by omega)]
               have g:=good ⟨c1,λhx=>c3 hx.2⟩
               exact⟨g.1,hb9,λ_=>g.2⟩
           · have g:=good ⟨c1,λhx=>by rw[hx.1]at c2;cases c2⟩
             exact⟨g.1,Below.refl _ _,λ_=>g.2⟩
       · rintro b w9 ⟨hb,hb9,hg⟩
         refine ab.of (λc=>?_) (λc=>?_)
         · rw[c,eq_comm,dTx]at hb
           exact JK (0,[]) (h28.below hb9) rfl (aa hB8 hb9 hB8.size) hk2w λwx hb'=>⟨by rw[hb],hb'⟩
         · obtain⟨h,e1,e2⟩:=hg c
           exact⟨h,e1,e2,hb9⟩
     · rintro w9 ⟨h,e1,e2,hb9⟩
       rw[e1]at h8
       refine⟨rfl,_,(h8.below hb9).load1 av rfl rfl,?_⟩
       exact JK (k,h.name) (h28.below hb9) rfl (aa hB8 hb9 hB8.size) hk2w λwx hb'=>⟨by rw[e2],hb'⟩
theorem kQ (p:List UInt8):∀s:List UInt8,Lib.indexAny s p=if cz p s=s.length then -1 else((cz p s:Nat):Int)
 | []=>rfl
 | b::l=>by
   have ih:=kQ p l
   have hle:=jH p l
   have e:cz p (b::l)=if p.contains b then 0 else cz p l+1:=by
     unfold cz;rw[List.takeWhile_cons];cases p.contains b <;> rfl
   have e2:Lib.indexAny (b::l) p=if p.contains b then(0:Int)else if Lib.indexAny l p== -1 then -1 else Lib.indexAny l p+1:=rfl
   by_cases hb:p.contains b=true
   · rw[if_pos hb]at e e2
     rw[e2,e,List.length_cons,if_neg (by omega)];rfl
   · rw[if_neg hb]at e e2
     rw[e2,e,ih,List.length_cons]
     by_cases h:cz p l=l.length
     · simp only[h,if_true];rfl
     · have h2: ¬ cz p l+1=l.length+1:=by omega
       have h3:(((cz p l:Nat):Int)== -1)=false:=by rw[beq_eq_false_iff_ne];omega
       simp only[if_neg h,if_neg h2,h3]
       simp
theorem Qv (s:List UInt8)(c:UInt8):Lib.hasPrefix s [c]=decide (s.head?=some c):=by
 cases s with
 | nil=>rfl
 | cons d r=>
   show(c==d&&true)=_
   rw[Bool.and_true,List.head?_cons]
   by_cases h:c=d
   · rw[h,beq_self_eq_true,decide_eq_true rfl]
   · rw[beq_eq_false_iff_ne.2 h,decide_eq_false (λe=>h (Option.some.inj e).symm)]
def fE (s:List UInt8)(sec:Bool):Hst×Int×Int:=match nI s with
 | none=>(gJ,0,31)
 | some h=>match uC sec (s.drop (df s))with
   | none=>(gJ,0,42)
   | some n=>(h,n,0)
theorem OG (s:List UInt8)(sec:Bool):(fE s sec).1.ok:=by
 unfold fE
 split
 · rfl
 · rename_i h hh
   split
   · rfl
   · exact KF hh
theorem Ms (r:List UInt8)(sec:Bool):Lh r sec=if(fE (r.take (cz [47,63,35] r)) sec).2.2≠0 then(eX,(fE (r.take (cz [47,63,35] r)) sec).2.2)
   else if gV (kV (r.drop (cz [47,63,35] r)))=true then(⟨sec,(fE (r.take (cz [47,63,35] r)) sec).1,(fE (r.take (cz [47,63,35] r)) sec).2.1,kV (r.drop (cz [47,63,35] r))⟩,0)else(eX,43):=by
 unfold Lh fE
 generalize nI (r.take (cz [47,63,35] r))=o
 cases o with
 | none=>rfl
 | some h=>
   show(match uC sec ((r.take (cz [47,63,35] r)).drop (df (r.take (cz [47,63,35] r))))with|none=>_|some n=>_)=_
   generalize uC sec ((r.take (cz [47,63,35] r)).drop (df (r.take (cz [47,63,35] r))))=q
   cases q <;> rfl
theorem MS (b:Bool){h:Hst}(o:h.ok)(n:Int)(p:List UInt8)(w:World):(Instr.build ay #[(0,.bool b),(1,h.v),(2,vI n),(3,vS p)]).run prog w=.ok (⟨b,h,n,p⟩:Url).v w:=by
 obtain⟨kd,nm,a⟩:=h
 obtain⟨x0,x1,x2,x3,x4,x5,x6,x7,x8,x9,x10,x11,x12,x13,x14,x15,rfl⟩:=fi a o
 kernel_rfl
theorem yf (s:List UInt8)(c:UInt8)(w:World):Cf eo #[vS s,.int .u8 (c.toNat:Nat)] w (Ret λv w'=>v=vI (if cz [c] s=s.length then -1 else((cz [c] s:Nat):Int))/\w'=w):=by
 refine(Tryz.strings_IndexByte (mkS s) (c.toNat:Nat) w).mono ?_
 rintro _ _ ⟨rfl,rfl⟩
 refine⟨_,rfl,?_,rfl⟩
 rw[<- kQ,Lib.indexAny_one]
 simp only[Int.toNat_natCast]
 rw[show c.toNat.toUInt8=c by simp];rfl
theorem yq (s p:List UInt8)(hs:s.length <=9223372036854775800)(hp:p.length <=9223372036854775800)(w:World):Cf pa #[vS s,vS p] w (Ret λv w'=>(∃(x:List UInt8) (b:Bool),v=.tuple #[vS x,.bool b]/\(b=decide (co (s.take p.length)=co p))/\(b=true->x=s.drop p.length))/\bW w w'):=by
 apply Gj
 refine gE (λw'=>co (s.take p.length)=co p/\bW w w') ?_ ?_
 · refine ab.of (λh=>⟨⟨s,false,rfl,?_,λe=>by cases e⟩,Below.refl _ _⟩) (λh=>?_) <;> simp only[dTx,dFx]at h
   · rw[eq_comm,dFx]
     intro e
     have:=Uc e
     simp[co]at this;omega
   · refine⟨⟨by omega,by omega⟩,?_⟩
     rw[Int.toNat_natCast]
     rintro _ rfl
     refine aw (pg _ p (by simp;omega) hp w) ?_
     rintro _ w1 ⟨rfl,hb1⟩
     refine⟨_,rfl,ab.of (λc=>⟨⟨s,false,rfl,?_,λe=>by cases e⟩,hb1⟩) (λc=>⟨?_,hb1⟩)⟩
     · rw[eq_comm,dFx]
       simpa using c
     · simpa using c
 · rintro w1 ⟨h,hb1⟩
   have hl:=Uc h
   simp[co]at hl
   refine⟨⟨by omega,by omega⟩,?_⟩
   rw[Int.toNat_natCast]
   rintro _ rfl
   exact⟨⟨_,true,rfl,(decide_eq_true h).symm,λ_=>rfl⟩,hb1⟩
theorem Iq (s:List UInt8)(hs:s.length <=9223372036854775000)(w:World):Cf ui #[vS s] w (Ret λv w'=>v=.tuple #[vS (s.take (df s)),vS (s.drop (df s))]/\bW w w'):=by
 apply Gk
 refine aw (RZ s [91] w) ?_
 rintro _ w1 ⟨rfl,hw1⟩
 rw[hw1];clear hw1
 refine⟨_,rfl,?_⟩
 rw[Qv]
 refine ab.of (λh=>?_) (λh=>?_) <;> simp only[dTx,dFx]at h
 · have hE:df s=min (cz [93] s+1) s.length:=by unfold df;rw[if_pos h]
   have hf:=jH [93] s
   refine aw (yf s 93 w) ?_
   rintro _ w2 ⟨rfl,hw2⟩
   rw[hw2];clear hw2
   refine⟨_,rfl,?_⟩
   by_cases c:cz [93] s=s.length
   · rw[if_pos c]
     refine ab.no rfl ⟨?_,Below.refl _ _⟩
     rw[show df s=s.length by omega,List.take_length,List.drop_length]
   · rw[if_neg c]
     have e:i64.wrap (((cz [93] s:Nat):Int)+1)=((df s:Nat):Int):=by rw[wrap_i64 (by omega) (by omega)];omega
     try dsimp only
     rw[e,Int.toNat_natCast]
     refine ab.yes (decide_eq_true (by omega)) ⟨⟨by omega,by omega⟩,?_⟩
     rintro _ rfl
     refine⟨⟨by omega,by omega⟩,?_⟩
     rintro _ rfl w3 hb3
     exact⟨rfl,hb3⟩
 · have hE:df s=cz [58] s:=by unfold df;rw[if_neg h]
   have hf:=jH [58] s
   refine aw (yf s 58 w) ?_
   rintro _ w2 ⟨rfl,hw2⟩
   rw[hw2];clear hw2
   refine⟨_,rfl,?_⟩
   rw[<- hE]
   by_cases c:df s=s.length
   · rw[if_pos c]
     refine ab.no rfl ⟨?_,Below.refl _ _⟩
     rw[c,List.take_length,List.drop_length]
   · try dsimp only
     rw[if_neg c,Int.toNat_natCast]
     refine ab.yes (decide_eq_true (by omega)) ⟨⟨by omega,by omega⟩,?_⟩
     rintro _ rfl
     refine⟨⟨by omega,by omega⟩,?_⟩
     rintro _ rfl w3 hb3
     exact⟨rfl,hb3⟩
theorem Ir (s:List UInt8)(sec:Bool)(hs:s.length <=2000000000)(w:World)(he:Env w):Cf uj #[vS s,vI (if sec then 443 else 80)] w (Ret λv w'=>v=.tuple #[(fE s sec).1.v,vI (fE s sec).2.1,vI (fE s sec).2.2]/\bW w w'):=by
 apply Gl
 intro k4 w4 hk4 hw4
 have hB4:=(hw4▸ai w _:bW w w4)
 have h4:ao w4 k4 ae gJ.cells:=ao.new hk4 hw4
 refine aw (Iq s (by omega) w4) ?_
 rintro _ w5 ⟨rfl,hb5⟩
 have hB5:=aa hB4 hb5 hB4.size
 refine⟨_,_,rfl,?_⟩
 have hW:nI s=if s.drop (df s)≠[]/\(s.drop (df s)).head?≠some 58 then none else bt (s.take (df s)):=rfl
 have hV:fE s sec=match nI s with
   | none=>(gJ,0,31)
   | some h=>match uC sec (s.drop (df s))with
     | none=>(gJ,0,42)
     | some n=>(h,n,0):=rfl
 have hcl:(s.take (df s)).length <=s.length:=by simp;omega
 have hql:(s.drop (df s)).length <=s.length:=by simp
 generalize s.take (df s)=c at*
 generalize s.drop (df s)=q at*
 refine aw (jd c (by omega) w5 (he.step hB5)) ?_
 rintro _ w6 ⟨rfl,hb6⟩
 have hB6:=aa hB5 hb6 hB5.size
 have hok:=lN λx hx=>fM (s:=c) hx
 rw[io]
 refine⟨_,_,rfl,?_⟩
 refine aP.new (zs:=gJ.cells) (cs:=((bt c).getD gJ).cells) rfl (Hst.len hok) (Hst.one _) w6 λk9 w9 hk9 h9 hb9=>?_
 have hB9:=aa hB6 hb9 hB6.size
 have h49:=((h4.below hb5).below hb6).below hb9
 have hk4w:w.heap.size <=k4:=by omega
 have bad:∀{e:Int} {wx:World},bW w9 wx->fE s sec=(gJ,0,e)->∃wy,(Instr.storeAt ae (.pointer (some ⟨k4,0,none⟩)) (.agg bj)).run prog wx=.ok () wy/\
     ∃vr:Value,(bg ae (.pointer (some ⟨k4,0,none⟩))).run prog wy=.ok vr wy/\(Value.tuple #[vr,vI 0,vI e]=.tuple #[(fE s sec).1.v,vI (fE s sec).2.1,vI (fE s sec).2.2]/\bW w wy):=fun{e wx} hb he=>
   aP.fin (K:=λvr wy=>Value.tuple #[vr,vI 0,vI e]=.tuple #[(fE s sec).1.v,vI (fE s sec).2.1,vI (fE s sec).2.2]/\bW w wy) (cs:=gJ.cells) rfl (Hst.one _) (h49.below hb) rfl (aa hB9 hb hB9.size) hk4w λwy hy=>⟨by rw[he];rfl,hy⟩
 have good:∀{h:Hst} {n:Int} {wx:World},bt c=some h->bW w9 wx->fE s sec=(h,n,0)->∃v,(Instr.loadAt ae (.pointer (some ⟨k9,0,none⟩))).run prog wx=.ok v wx/\∃wy,(Instr.storeAt ae (.pointer (some ⟨k4,0,none⟩)) v).run prog wx=.ok () wy/\
     ∃vr:Value,(bg ae (.pointer (some ⟨k4,0,none⟩))).run prog wy=.ok vr wy/\(Value.tuple #[vr,vI n,vI 0]=.tuple #[(fE s sec).1.v,vI (fE s sec).2.1,vI (fE s sec).2.2]/\bW w wy):=fun{h n wx} hh hb he=>by
   rw[hh]at h9 hok
   exact⟨_,aP.load0 (h9.below hb) (Hst.len hok),aP.fin (K:=λvr wy=>Value.tuple #[vr,vI n,vI 0]=.tuple #[(fE s sec).1.v,vI (fE s sec).2.1,vI (fE s sec).2.2]/\bW w wy) (cs:=h.cells) (Hst.len hok) (Hst.one _) (h49.below hb) rfl (aa hB9 hb hB9.size) hk4w λwy hy=>⟨by rw[he];rfl,hy⟩⟩
 refine gE (λw'=>w'=w9/\∃h,bt c=some h/\nI s=some h) ?_ ?_
 · refine iU (w:=w9) (decide (nI s=none)) ?_ ?_
   · have hc:∀(c1:bt c=none),nI s=none:=λc1=>by rw[hW,c1];split <;> rfl
     refine ab.of (λh=>⟨rfl,?_⟩) (λh=>ab.of (λh2=>⟨⟨by decide,?_⟩,rfl,?_⟩) (λh2=>⟨rfl,?_⟩))
     · have:bt c=none:=by
         cases hv:bt c with
         | none=>rfl
         | some x=>rw[hv]at h;cases h
       rw[decide_eq_true (hc this)]
     all_goals
       have hv:bt c≠none:=λhv=>by rw[hv]at h;cases h
     · have:q≠[]:=by simpa using h2
       have:=List.length_pos_iff.2 this
       omega
     · have hne:q≠[]:=by simpa using h2
       have hl:=List.length_pos_iff.2 hne
       have hb:=byte_at (s:=q) (k:=0) hl
       rw[show((0:Nat):Int)=0 from rfl]at hb
       have hu:=my q[0] 58
       rw[show(((58:UInt8).toNat:Nat):Int)=58 from rfl]at hu
       have hh:q.head?=some q[0]:=by rw[List.head?_eq_getElem?,List.getElem?_eq_getElem hl]
       have e:((bf q 0) !=(58:Int))= !(q[0]==58):=by rw[hb];show(!_)=_;rw[hu]
       rw[e,hW,hh]
       by_cases c:q[0]=58
       · rw[if_neg (by rintro⟨-,hx⟩;exact hx (by rw[c])),decide_eq_false hv,c];rfl
       · rw[if_pos ⟨hne,λhx=>c (Option.some.inj hx)⟩,beq_eq_false_iff_ne.2 c];rfl
     · have:q=[]:=by simpa using h2
       rw[hW,if_neg (λhx=>hx.1 this),decide_eq_false hv]
   · refine ab.of (λh=>?_) (λh=>⟨rfl,?_⟩)
     · exact bad (Below.refl _ _) (by rw[hV,of_decide_eq_true h])
     · have hn:=of_decide_eq_false h
       cases hw:nI s with
       | none=>exact absurd hw hn
       | some x=>
         refine⟨x,?_,rfl⟩
         rw[hW]at hw
         split at hw
         · cases hw
         · exact hw
 · rintro w10 ⟨rfl,h,hv,hw⟩
   rw[hw]at hV
   refine ab.of (λc1=>?_) (λc1=>?_)
   · have c1:q=[]:=by simpa using c1
     exact good hv (Below.refl _ _) (by rw[hV,c1];rfl)
   · have c1:q≠[]:=by simpa using c1
     have hl:=List.length_pos_iff.2 c1
     refine⟨⟨by decide,by omega⟩,?_⟩
     intro d hd
     rw[show Int.toNat 1=1 from rfl]at hd
     have hdl:d.length <=q.length:=by rw[hd];simp
     have hP:uC sec q=if nK d/\1 <=ez d/\ez d <=65535 then some (ez d)else none:=by unfold uC;rw[if_neg c1,<- hd]
     refine aw (jh d (by omega) w10) ?_
     rintro _ w11 ⟨rfl,hb11⟩
     by_cases c2:nK d
     · rw[if_pos c2]
       refine⟨_,_,rfl,?_⟩
       refine si (w:=w11) (1 <=ez d/\ez d <=65535) ?_ ?_
       · refine iU (w:=w11) (decide (¬ (1 <=ez d/\ez d <=65535))) ?_ ?_
         · refine ab.no rfl (ab.of (λc3=>⟨rfl,?_⟩) (λc3=>⟨rfl,?_⟩))
           · rw[eq_comm,dTx];simp at c3;omega
           · rw[Bool.eq_iff_iff,dTx,dTx];simp at c3;omega
         · refine ab.of (λc3=>?_) (λc3=>⟨rfl,Decidable.not_not.1 (of_decide_eq_false c3)⟩)
           rw[dTx]at c3
           exact bad hb11 (by rw[hV,hP,if_neg (λhx=>c3 hx.2)])
       · intro c4
         exact good hv hb11 (by rw[hV,hP,if_pos ⟨c2,c4⟩])
     · rw[if_neg c2]
       refine⟨_,_,rfl,?_⟩
       refine si (w:=w11) False ?_ (λh=>h.elim)
       refine iU (w:=w11) true (ab.yes rfl ⟨rfl,rfl⟩) (ab.yes rfl ?_)
       exact bad hb11 (by rw[hV,hP,if_neg (λhx=>c2 hx.1)])
theorem Ip (s:List UInt8)(hs:s.length <=1000000000)(w:World)(he:Env w):Cf uh #[vS s] w (Ret (qk s w)):=by
 apply Gh
 intro k2 w2 hk2 hw2
 have hB2:=(hw2▸ai w _:bW w w2)
 have h2:ao w2 k2 ay eX.cells:=ao.new hk2 hw2
 have hk2w:w.heap.size <=k2:=by omega
 have fin:∀{u:Url} {e:Int} {wx:World},u.ok->bW w2 wx->iR s=(u,e)->∃wy,(Instr.storeAt ay (.pointer (some ⟨k2,0,none⟩)) u.v).run prog wx=.ok () wy/\
     ∃vr:Value,(bg ay (.pointer (some ⟨k2,0,none⟩))).run prog wy=.ok vr wy/\qk s w (.tuple #[vr,vI e]) wy:=fun{u e wx} o hb he=>
   gP.fin (K:=λvr wy=>qk s w (.tuple #[vr,vI e]) wy) (cs:=u.cells) (Url.len o) (Url.one _) (h2.below hb) rfl (aa hB2 hb hB2.size) hk2w λwy hy=>⟨by rw[he];rfl,hy⟩
 refine aw (yq s [104,116,116,112,115,58,47,47] (by omega) (by decide) w2) ?_
 rintro _ w3 ⟨⟨x,sec,rfl,hsec,hx⟩,hb3⟩
 rw[show([104,116,116,112,115,58,47,47]:List UInt8).length=8 from rfl,show co [104,116,116,112,115,58,47,47]=[104,116,116,112,115,58,47,47] from rfl]at hsec
 refine⟨_,_,rfl,?_⟩
 refine⟨λr w'=>Lg s=some (r,sec)/\bW w2 w',?_,λr=>aJ.of ?_ _⟩
 · refine ab.of (λc=>?_) (λc=>?_)
   · have c:sec=false:=by simpa using c
     rw[c]at hsec
     have h8: ¬ co (s.take 8)=[104,116,116,112,115,58,47,47]:=of_decide_eq_false hsec.symm
     refine aw (yq s [104,116,116,112,58,47,47] (by omega) (by decide) w3) ?_
     rintro _ w4 ⟨⟨y,b,rfl,hb,hy⟩,hb4⟩
     rw[show([104,116,116,112,58,47,47]:List UInt8).length=7 from rfl,show co [104,116,116,112,58,47,47]=[104,116,116,112,58,47,47] from rfl]at hb
     have hb24:=aa hb3 hb4 hb3.size
     refine⟨_,_,rfl,ab.of (λc2=>?_) (λc2=>⟨?_,hb24⟩)⟩
     · have c2:b=false:=by simpa using c2
       rw[c2]at hb
       exact fin (u:=eX) rfl hb24 (by unfold iR Lg;rw[if_neg (of_decide_eq_false hb.symm),if_neg h8])
     · have c2:b=true:=by simpa using c2
       have e:=hy c2
       rw[c2]at hb
       unfold Lg
       rw[if_pos (of_decide_eq_true hb.symm),e,c];rfl
   · have c:sec=true:=by simpa using c
     have e:=hx c
     rw[c]at hsec
     have h8:=of_decide_eq_true hsec.symm
     refine⟨?_,hb3⟩
     unfold Lg
     rw[if_neg,if_pos h8,e,c];rfl
     intro h7
     have:co (s.take 7)=(co (s.take 8)).take 7:=by simp[co,List.map_take,List.take_take]
     rw[this,h8]at h7
     revert h7;decide
 · rintro w4 ⟨hH,hb4⟩
   have hrl:r.length <=s.length:=by
     unfold Lg at hH
     split at hH
     · cases hH;simp
     split at hH
     · cases hH;simp
     · cases hH
   have hV:iR s=Lh r sec:=by unfold iR;rw[hH]
   rw[Ms]at hV
   have hat:=jH [47,63,35] r
   refine aw (um [47,63,35] (by decide) (by decide) (by decide) r (by omega) w4) ?_
   rintro _ w5 ⟨rfl,hb5⟩
   have hb25:=aa hb4 hb5 hb4.size
   rw[kQ]
   refine⟨_,rfl,UD (w:=w5) ((cz [47,63,35] r:Nat):Int) ?_ ?_⟩
   · by_cases c:cz [47,63,35] r=r.length
     · rw[if_pos c]
       exact ab.yes rfl ⟨rfl,by rw[c]⟩
     · rw[if_neg c]
       exact ab.no (decide_eq_false (by omega)) ⟨rfl,rfl⟩
   refine aw (yr sec w5) ?_
   rintro _ w5' ⟨rfl,hw5⟩
   rw[hw5];clear hw5 w5'
   refine⟨_,_,rfl,⟨by omega,by omega⟩,?_⟩
   rw[Int.toNat_natCast]
   rintro _ rfl
   have hp:(r.take (cz [47,63,35] r)).length <=s.length:=by simp;omega
   have hd:(r.drop (cz [47,63,35] r)).length <=s.length:=by simp;omega
   refine aw (Ir _ sec (by omega) w5 ((he.step hB2).step hb25)) ?_
   rintro _ w6 ⟨rfl,hb6⟩
   have hb26:=aa hb25 hb6 hb25.size
   refine⟨_,_,_,rfl,?_⟩
   have po:=OG (r.take (cz [47,63,35] r)) sec
   revert hV po
   generalize fE (r.take (cz [47,63,35] r)) sec=p
   intro hV po
   refine aP.new (zs:=gJ.cells) (cs:=p.1.cells) rfl (Hst.len po) (Hst.one _) w6 λk10 w10 hk10 h10 hb10=>?_
   have hb2A:=aa hb26 hb10 hb26.size
   refine ab.of (λc=>?_) (λc=>?_)
   · have c:p.2.2≠0:=by simpa using c
     rw[if_pos c]at hV
     exact fin (u:=eX) rfl hb2A hV
   have c:p.2.2=0:=by simpa using c
   rw[if_neg (by rw[c];decide)]at hV
   refine⟨⟨by omega,by omega⟩,?_⟩
   generalize r.drop (cz [47,63,35] r)=x at*
   intro y hy
   rw[hy];clear hy y
   have hfl:=jH [63,35] x
   refine⟨λt w'=>t=x.take (cz [63,35] x)/\bW w10 w',?_,λt=>aJ.of ?_ _⟩
   · refine aw (um [63,35] (by decide) (by decide) (by decide) x (by omega) w10) ?_
     rintro _ w11 ⟨rfl,hb11⟩
     rw[kQ]
     refine⟨_,rfl,?_⟩
     by_cases c:cz [63,35] x=x.length
     · rw[if_pos c,c,List.take_length]
       exact ab.no rfl ⟨rfl,hb11⟩
     · try dsimp only
       rw[if_neg c,Int.toNat_natCast]
       refine ab.yes (decide_eq_true (by omega)) ⟨⟨by omega,by omega⟩,?_⟩
       rintro _ rfl
       exact⟨rfl,hb11⟩
   · rintro w11 ⟨rfl,hb11⟩
     have hb2B:=aa hb2A hb11 hb2A.size
     have h1B:=h10.below hb11
     refine⟨λt w'=>w'=w11/\t=kV x,?_,λt=>aJ.of ?_ _⟩
     · unfold kV
       refine ab.of (λc=>⟨rfl,?_⟩) (λc=>⟨rfl,?_⟩)
       · rw[if_pos (by simpa using c)]
       · rw[if_neg (by simpa using c)]
     · rintro _ ⟨rfl,rfl⟩
       refine aw (uO (kV x) _) ?_
       rintro _ w12 ⟨rfl,hb12⟩
       have hb2C:=aa hb2B hb12 hb2B.size
       refine⟨_,rfl,ab.of (λc3=>?_) (λc3=>?_)⟩
       · have c3:gV (kV x)=false:=by simpa using c3
         rw[if_neg (by rw[c3];decide)]at hV
         exact fin (u:=eX) rfl hb2C hV
       · have c3:gV (kV x)=true:=by simpa using c3
         rw[if_pos c3]at hV
         exact⟨_,aP.load0 (h1B.below hb12) (Hst.len po),_,MS _ po _ _ _,fin (show Url.ok ⟨_,_,_,_⟩ from po) hb2C hV⟩
theorem K4 {u:Url}(o:u.ok)(t:List UInt8):(⟨1,u,t,j6,0⟩:OpR).cells.length=45:=by
 unfold OpR.cells
 rw[List.length_cons,List.length_append,Url.len o];rfl
theorem GZ {u:Url}(o:u.ok)(t:List UInt8)(w:World):(Instr.build ak #[(0,vI 1),(1,u.v),(2,vS t)]).run prog w=.ok (⟨1,u,t,j6,0⟩:OpR).v w:=by
 obtain⟨us,⟨ukd,un,ua⟩,uport,upath⟩:=u
 obtain⟨x0,x1,x2,x3,x4,x5,x6,x7,x8,x9,x10,x11,x12,x13,x14,x15,rfl⟩:=fi ua o
 kernel_rfl
theorem Gq {A:Bl}{a:Option Addr}{l c:Nat}{x y:List UInt8}{w:World}(ho:Sl tS w A a l c [x,y])(hx:x.length <=10000000)(hy:y.length <=10000000)(he:Env w):
   Cf iN #[.slice a l c] w (Ret λv w'=>v=.tuple #[(⟨1,(iR x).1,(unP y).getD [],j6,0⟩:OpR).v,.bool ((unP y).isSome&&((iR x).2==0))]/\bW w w'):=by
 have hl:=ho.1
 obtain rfl:l=2:=hl
 apply DJ
 intro k2 w2 hk2 hw2
 have hB2:bW w w2:=hw2▸ai w _
 have h2:ao w2 k2 ak uy.cells:=ao.new hk2 hw2
 obtain⟨v,hv,hrep⟩:=(ho.below hB2).load1 (P:=prog) (i:=0) av rfl rfl (by simp)
 obtain⟨rfl,_⟩:=lZ hrep
 refine⟨⟨⟨by decide,by decide⟩,ho.isSome (i:=0) (by simp)⟩,x,hv,?_⟩
 refine aw (Ip x (by omega) w2 (he.step hB2)) ?_
 rintro _ w3 ⟨rfl,hb3⟩
 have hB3:=aa hB2 hb3 hB2.size
 refine⟨_,_,rfl,?_⟩
 have uo:(iR x).1.ok:=GA x
 refine gP.new (zs:=eX.cells) (cs:=(iR x).1.cells) rfl (Url.len uo) (Url.one _) w3 λk4 w4 hk4 h4 hb4=>?_
 have hB4:=aa hB3 hb4 hB3.size
 obtain⟨v,hv,hrep⟩:=(ho.below hB4).load1 (P:=prog) (i:=1) av rfl rfl (by simp)
 obtain⟨rfl,_⟩:=lZ hrep
 refine⟨⟨⟨by decide,by decide⟩,ho.isSome (i:=1) (by simp)⟩,y,hv,?_⟩
 refine aw (A2 y hy w4) ?_
 rintro _ w5 ⟨rfl,hb5⟩
 have hB5:=aa hB4 hb5 hB4.size
 refine⟨_,_,rfl,_,gP.load0 (h4.below hb5) (Url.len uo),_,GZ uo _ _,?_⟩
 have h5:=((h2.below hb3).below hb4).below hb5
 refine ab.of (λc1=>?_) (λc1=>?_)
 · exact ec.fin (cs:=(⟨1,(iR x).1,(unP y).getD [],j6,0⟩:OpR).cells) (K4 uo _) (OpR.one _) h5 cG hB5 (by omega) λwx hb=>⟨by rw[c1];rfl,hb⟩
 · exact ec.fin (cs:=(⟨1,(iR x).1,(unP y).getD [],j6,0⟩:OpR).cells) (K4 uo _) (OpR.one _) h5 cG hB5 (by omega) λwx hb=>⟨by rw[c1];rfl,hb⟩
def TW (u v:Url):Bool:=(u.sec==v.sec)&&(jA u.host v.host&&((u.port==v.port)&&((u.path==v.path)&&true)))
def Mc (r q:Req):Bool:=(r.sec==q.sec)&&(jA r.host q.host&&((r.path==q.path)&&((r.cross==q.cross)&&true)))
def KU (o p:OpR):Bool:=(o.kind==p.kind)&&(TW o.url p.url&&((o.text==p.text)&&(Mc o.req p.req&&((o.n==p.n)&&true))))
theorem Io {u v:Url}(o:u.ok)(p:v.ok):TW u v=true ↔ u=v:=by
 unfold TW
 simp only[Bool.and_eq_true,beq_iff_eq,and_true,je o p]
 cases u;cases v;simp
theorem OL {u v:Req}(o:u.ok)(p:v.ok):Mc u v=true ↔ u=v:=by
 unfold Mc
 simp only[Bool.and_eq_true,beq_iff_eq,and_true,je o p]
 cases u;cases v;simp
structure OpR.fit (o:OpR):Prop where
 uo:o.url.ok
 ro:o.req.ok
theorem OpR.ok.fit {o:OpR}(k:o.ok):o.fit:=⟨k.uo,k.ro⟩
theorem zO {o p:OpR}(h:o.fit)(k:p.fit):KU o p=true ↔ o=p:=by
 unfold KU
 simp only[Bool.and_eq_true,beq_iff_eq,and_true,Io h.uo k.uo,OL h.ro k.ro]
 cases o;cases p;simp
def vC (o:OpR):OpR:=if o.kind=1 then⟨1,o.url,o.text,j6,0⟩ else if o.kind=2 then⟨2,eX,[],o.req,0⟩ else if o.kind=3 then⟨3,eX,[],j6,o.n⟩ else eP
theorem HG {o:OpR}(h:o.fit):(vC o).fit:=by
 unfold vC
 split
 · exact⟨h.uo,rfl⟩
 split
 · exact⟨rfl,h.ro⟩
 split <;> exact⟨rfl,rfl⟩
def cP (o:OpR):Bool:=cX o&&KU o (vC o)
theorem ls {o:OpR}(h:o.fit):cP o=true ↔ cX o=true/\o=vC o:=by
 unfold cP
 rw[Bool.and_eq_true,zO h (HG h)]
theorem A9 {o:OpR}(h:o.fit)(e:o=vC o):cP o=cX o:=by
 unfold cP
 rw[(zO h (HG h)).2 e,Bool.and_true]
theorem OpR.len' {o:OpR}(k:o.fit):o.cells.length=45:=by
 unfold OpR.cells
 rw[List.length_cons,List.length_append,List.length_cons,List.length_append,Url.len k.uo,Req.len k.ro]
 rfl
theorem RT {o p:OpR}(h:o.fit)(k:p.fit):eqV prog 10000 ak o.v p.v=some (KU o p):=by
 obtain⟨a1,⟨b1,⟨c1,c2,c3⟩,b2,b3⟩,a2,⟨d1,⟨e1,e2,e3⟩,d2,d3⟩,a3⟩:=o
 obtain⟨a1',⟨b1',⟨c1',c2',c3'⟩,b2',b3'⟩,a2',⟨d1',⟨e1',e2',e3'⟩,d2',d3'⟩,a3'⟩:=p
 obtain⟨h1,h2⟩:=h
 obtain⟨k1,k2⟩:=k
 obtain⟨x0,x1,x2,x3,x4,x5,x6,x7,x8,x9,x10,x11,x12,x13,x14,x15,rfl⟩:=fi c3 h1
 obtain⟨y0,y1,y2,y3,y4,y5,y6,y7,y8,y9,y10,y11,y12,y13,y14,y15,rfl⟩:=fi e3 h2
 obtain⟨x0',x1',x2',x3',x4',x5',x6',x7',x8',x9',x10',x11',x12',x13',x14',x15',rfl⟩:=fi c3' k1
 obtain⟨y0',y1',y2',y3',y4',y5',y6',y7',y8',y9',y10',y11',y12',y13',y14',y15',rfl⟩:=fi e3' k2
 kernel_rfl
theorem KC:prog.eqGuardType prog.depth ak=false:=by kernel_rfl
theorem JB {c d:OpR}(o:c.fit)(p:d.fit){x y:Operand}(w:World):((do eqGuard .eql ak x y c.v d.v;binOp .eql ak c.v d.v:Sem Value)).run prog w=.ok (.bool (KU c d)) w:=
 Ez KC (RT o p) w
theorem VA {c d:OpR}(o:c.fit)(p:d.fit){x y:Operand}(w:World):((do eqGuard .neq ak x y c.v d.v;binOp .neq ak c.v d.v:Sem Value)).run prog w=.ok (.bool (!KU c d)) w:=
 OT KC (RT o p) w
theorem SV {c d:Req}(o:c.ok)(p:d.ok):eqV prog 10000 aN c.v d.v=some (Mc c d):=by
 obtain⟨d1,⟨e1,e2,e3⟩,d2,d3⟩:=c
 obtain⟨d1',⟨e1',e2',e3'⟩,d2',d3'⟩:=d
 obtain⟨x0,x1,x2,x3,x4,x5,x6,x7,x8,x9,x10,x11,x12,x13,x14,x15,rfl⟩:=fi e3 o
 obtain⟨y0,y1,y2,y3,y4,y5,y6,y7,y8,y9,y10,y11,y12,y13,y14,y15,rfl⟩:=fi e3' p
 kernel_rfl
theorem NH:prog.eqGuardType prog.depth aN=false:=by kernel_rfl
theorem UN {c d:Req}(o:c.ok)(p:d.ok){x y:Operand}(w:World):((do eqGuard .eql aN x y c.v d.v;binOp .eql aN c.v d.v:Sem Value)).run prog w=.ok (.bool (Mc c d)) w:=
 Ez NH (SV o p) w
theorem DF (a:Option Addr)(b c:Nat)(d:Option Addr)(e f:Nat){w K}(h:ab (((b:Nat):Int) !=((e:Nat):Int)) (K (.bool false) w) (∃g:Nat->FP [.one (.int .i64)],(∃i,g i (0:Int) w)/\∀i j,aJ 14 (∀k,g i j k->ab (decide (j<((b:Nat):Int))) ((bx j ((b:Nat):Int)/\Option.isSome a=true)/\∃l,(∀m,bW k m->Ld ak (aq a j 45) m l)/\(bx j ((e:Nat):Int)/\Option.isSome d=true)/\∃m,(∀n,bW k n->Ld ak (aq d j 45) n m)/\∃n,(∀o,bW k o->(do eqGuard .neq ak (.tmp 19) (.tmp 23) l m;binOp .neq ak l m:Sem Value).run prog o=.ok (.bool n) o)/\∀o,bW k o->ab n (K (.bool false) o) (∃p:Nat,p<i/\g p (i64.wrap (j+(1:Int))) o)) (K (.bool true) k)))):Cf mG #[.slice a b c,.slice d e f] w (Ret K):=ru func11 [(14,[(13,.one (.int .i64))])] h
theorem R1 {o:OpR}(k:o.ok)(c:o.kind=1):cP o=(fm o.url&&KU o ⟨1,o.url,o.text,j6,0⟩):=by
 unfold cP cX vC;rw[if_pos c,if_pos c]
theorem R2 {o:OpR}(c:o.kind=2):cP o=((cC o.req.host&&(gV o.req.path&&(decide (0 <=o.req.cross)&&decide (o.req.cross <=2))))&&KU o ⟨2,eX,[],o.req,0⟩):=by
 unfold cP cX vC;rw[if_neg (by omega),if_pos c,if_neg (by omega),if_pos c]
theorem R3 {o:OpR}(c:o.kind=3):cP o=((decide (0 <=o.n)&&decide (o.n <=1099511627776))&&KU o ⟨3,eX,[],j6,o.n⟩):=by
 unfold cP cX vC;rw[if_neg (by omega),if_neg (by omega),if_pos c,if_neg (by omega),if_neg (by omega),if_pos c]
theorem OO {o:OpR}(c1:o.kind≠1)(c2:o.kind≠2)(c3:o.kind≠3):cP o=KU o eP:=by
 unfold cP cX vC;rw[if_neg c1,if_neg c2,if_neg c3,if_neg c1,if_neg c2,if_neg c3,Bool.true_and]
theorem GY {r:Req}(k:r.ok)(w:World):(Instr.build ak #[(0,vI 2),(3,r.v)]).run prog w=.ok (⟨2,eX,[],r,0⟩:OpR).v w:=by
 obtain⟨d1,⟨e1,e2,e3⟩,d2,d3⟩:=r
 obtain⟨x0,x1,x2,x3,x4,x5,x6,x7,x8,x9,x10,x11,x12,x13,x14,x15,rfl⟩:=fi e3 k
 kernel_rfl
theorem lX {o:OpR}(k:o.ok)(w:World)(he:Env w):Cf ib #[o.v] w (Ret λv w'=>v=.bool (cP o)/\bW w w'):=by
 apply zt
 intro k1 w1 hk1 hw1
 have hB1:=(hw1▸ai w _:bW w w1)
 have h1:ao w1 k1 ak o.cells:=ao.new hk1 hw1
 have hun:=k.un
 have hrn:=k.rn
 refine⟨rfl,_,h1.load1 bG rfl (i:=0) rfl,ab.of (λc1=>?_) (λc1=>?_)⟩
 · have c1:o.kind=1:=by simpa using c1
   have hE:KU o ⟨1,o.url,o.text,j6,0⟩=(o.n==0&&Mc o.req j6):=by
     unfold KU
     rw[(Io k.uo k.uo).2 rfl,c1];simp[Bool.and_comm]
   rw[R1 k c1,hE]
   refine⟨rfl,_,gP.load h1 (i:=1) (us:=o.url.cells) (Url.len k.uo) (λj hj=>En k hj),?_⟩
   refine aw (mN k.uo (by omega) w1 (he.step hB1)) ?_
   rintro _ w2 ⟨rfl,hb2⟩
   have hB2:=aa hB1 hb2 hB1.size
   have h2:=h1.below hb2
   refine⟨_,rfl,ab.of (λc2=>?_) (λc2=>⟨by rw[c2];rfl,hB2⟩)⟩
   refine⟨rfl,_,h2.load1 bP rfl (PI k),ab.of (λc3=>?_) (λc3=>⟨by rw[c2,c3];rfl,hB2⟩)⟩
   exact⟨rfl,_,gH.load h2 (i:=23) (us:=o.req.cells) (Req.len k.ro) (λj hj=>pJ k hj),_,UN (d:=j6) k.ro rfl w2,by rw[c2,c3];rfl,hB2⟩
 have c1:o.kind≠1:=by simpa using c1
 refine ab.of (λc2=>?_) (λc2=>?_)
 · have c2:o.kind=2:=by simpa using c2
   rw[R2 c2]
   refine⟨rfl,_,gH.load h1 (i:=23) (us:=o.req.cells) (Req.len k.ro) (λj hj=>pJ k hj),?_⟩
   refine gH.new (zs:=j6.cells) (cs:=o.req.cells) rfl (Req.len k.ro) (Req.one _) w1 λk3 w3 hk3 h3 hb3=>?_
   have hB3:=aa hB1 hb3 hB1.size
   have h13:=h1.below hb3
   refine⟨rfl,_,aP.load h3 (i:=1) (us:=o.req.host.cells) (Hst.len k.ro) (λj hj=>vM k.ro hj),?_⟩
   refine aw (gG k.ro (by omega) w3 (he.step hB3)) ?_
   rintro _ w4 ⟨rfl,hb4⟩
   have hB4:=aa hB3 hb4 hB3.size
   refine⟨_,rfl,ab.of (λc3=>?_) (λc3=>⟨by rw[c3];rfl,hB4⟩)⟩
   refine⟨rfl,_,(h3.below hb4).load1 av rfl (jj k.ro 0),?_⟩
   refine aw (uO o.req.path w4) ?_
   rintro _ w5 ⟨rfl,hb5⟩
   have hB5:=aa hB4 hb5 hB4.size
   have h15:=(h13.below hb4).below hb5
   have h35:=(h3.below hb4).below hb5
   refine⟨_,rfl,ab.of (λc4=>?_) (λc4=>⟨by rw[c3,c4];rfl,hB5⟩)⟩
   refine⟨rfl,_,h35.load1 bG rfl (jj k.ro 1),ab.of (λc5=>?_) (λc5=>⟨by rw[c3,c4,show decide (0 <=o.req.cross)=false from c5];rfl,hB5⟩)⟩
   refine⟨rfl,_,h35.load1 bG rfl (jj k.ro 1),ab.of (λc6=>?_) (λc6=>⟨by rw[c3,c4,show decide (0 <=o.req.cross)=true from c5,c6];rfl,hB5⟩)⟩
   exact⟨_,ec.load0 h15 (OpR.len k),_,gH.load0 h35 (Req.len k.ro),_,GY k.ro _,_,JB (d:=⟨2,eX,[],o.req,0⟩) k.fit ⟨rfl,k.ro⟩ w5,by rw[c3,c4,show decide (0 <=o.req.cross)=true from c5,c6];rfl,hB5⟩
 have c2:o.kind≠2:=by simpa using c2
 refine ab.of (λc3=>?_) (λc3=>?_)
 · have c3:o.kind=3:=by simpa using c3
   rw[R3 c3]
   refine⟨rfl,_,h1.load1 bP rfl (PI k),ab.of (λc4=>?_) (λc4=>⟨by rw[show decide (0 <=o.n)=false from c4];rfl,hB1⟩)⟩
   refine⟨rfl,_,h1.load1 bP rfl (PI k),ab.of (λc5=>?_) (λc5=>⟨by rw[show decide (0 <=o.n)=true from c4,c5];rfl,hB1⟩)⟩
   exact⟨_,ec.load0 h1 (OpR.len k),rfl,_,h1.load1 bP rfl (PI k),_,JB (d:=⟨3,eX,[],j6,o.n⟩) k.fit ⟨rfl,rfl⟩ w1,by rw[show decide (0 <=o.n)=true from c4,c5];rfl,hB1⟩
 have c3:o.kind≠3:=by simpa using c3
 exact⟨_,ec.load0 h1 (OpR.len k),_,JB (d:=eP) k.fit ⟨rfl,rfl⟩ w1,by rw[OO c1 c2 c3],hB1⟩
theorem Oc {x y:List UInt8} :mkS x=mkS y ↔ x=y:=⟨Od,λh=>by rw[h]⟩
theorem Wa (a b c x:List UInt8):Lib.idxOfS ([a,b,c].map mkS) (mkS x)=if x=a then 0 else if x=b then 1 else if x=c then 2 else -1:=by
 simp only[List.map_cons,List.map_nil,Lib.idxOfS,Lib.idxFromS,Oc,eq_comm (a:=x)]
 split
 · rfl
 · split
   · rfl
   · split <;> rfl
theorem V9 (a b x:List UInt8):Lib.idxOfS ([a,b].map mkS) (mkS x)=if x=a then 0 else if x=b then 1 else -1:=by
 simp only[List.map_cons,List.map_nil,Lib.idxOfS,Lib.idxFromS,Oc,eq_comm (a:=x)]
 split
 · rfl
 · split <;> rfl
theorem KK {w:World}{A:Bl}{a:Option Addr}{n c:Nat}{xs:List (List UInt8)}(ho:Sl tS w A a n c xs)(hne:xs≠[])(x:List UInt8)(hx:xs.length <=9223372036854775807):
   Cf az #[.slice a n c,vS x] w (Ret λv w'=>v=vI (Lib.idxOfS (xs.map mkS) (mkS x))/\w'=w):=by
 have hn:=ho.1
 subst hn
 obtain⟨b,off,rfl,hc⟩:=IV ho hne
 refine(Tryz.slices_Index_string b off xs.length c (xs.map mkS) (mkS x) w (by simp) hx hc).mono ?_
 rintro _ _ ⟨rfl,rfl⟩
 rw[List.take_of_length_le (by simp)]
 exact⟨_,rfl,rfl,rfl⟩
theorem DI (a:Option Addr)(b c:Nat){w K}(h:nA w (.cells dt ak) λd e=>(bx (1:Int) ((b:Nat):Int)/\Option.isSome a=true)/\∃f,Ld ah (aq a (1:Int) 1) e (vS f)/\Cf gy #[vS f] e λg i=>∃j k,g=rT #[j,vI k]/\nA i (.cells bj ae) λl m=>∃n,Sv ae (vA l 0) j m n/\∃o:FP [.one (.int .i64),.one (.int .i64)],((bx (0:Int) ((b:Nat):Int)/\Option.isSome a=true)/\(bx (3:Int) ((b:Nat):Int)/\Option.isSome a=true)/\(uL cy #[] (World.drew n) λp q r s=>(∃t,Ld ah (aq a (0:Int) 1) s (vS t)/\(uI az #[.slice p q r,vS t] s λu v=>(uL bB #[] v λx y z A=>∃B,Ld ah (aq a (3:Int) 1) A (vS B)/\uI az #[.slice x y z,vS B] A λC D=>o u C D)/\∃x,Ld ah (aq a (3:Int) 1) v (vS x)/\uL bB #[] v λy z A B=>uI az #[.slice y z A,vS x] B λC D=>o u C D)/\∃u,Ld ah (aq a (3:Int) 1) s (vS u)/\uI az #[.slice p q r,vS t] s λv x=>uL bB #[] x λy z A B=>uI az #[.slice y z A,vS u] B λC D=>o v C D)/\∃t,Ld ah (aq a (3:Int) 1) s (vS t)/\∃u,Ld ah (aq a (0:Int) 1) s (vS u)/\uI az #[.slice p q r,vS u] s λv x=>uL bB #[] x λy z A B=>uI az #[.slice y z A,vS t] B λC D=>o v C D)/\(∃p,Ld ah (aq a (0:Int) 1) (World.drew n) (vS p)/\(uL cy #[] (World.drew n) λq r s t=>(uI az #[.slice q r s,vS p] t λu v=>(uL bB #[] v λx y z A=>∃B,Ld ah (aq a (3:Int) 1) A (vS B)/\uI az #[.slice x y z,vS B] A λC D=>o u C D)/\∃x,Ld ah (aq a (3:Int) 1) v (vS x)/\uL bB #[] v λy z A B=>uI az #[.slice y z A,vS x] B λC D=>o u C D)/\∃u,Ld ah (aq a (3:Int) 1) t (vS u)/\uI az #[.slice q r s,vS p] t λv x=>uL bB #[] x λy z A B=>uI az #[.slice y z A,vS u] B λC D=>o v C D)/\∃q,Ld ah (aq a (3:Int) 1) (World.drew n) (vS q)/\uL cy #[] (World.drew n) λr s t u=>uI az #[.slice r s t,vS p] u λv x=>uL bB #[] x λy z A B=>uI az #[.slice y z A,vS q] B λC D=>o v C D)/\∃p,Ld ah (aq a (3:Int) 1) (World.drew n) (vS p)/\(uL cy #[] (World.drew n) λq r s t=>∃u,Ld ah (aq a (0:Int) 1) t (vS u)/\uI az #[.slice q r s,vS u] t λv x=>uL bB #[] x λy z A B=>uI az #[.slice y z A,vS p] B λC D=>o v C D)/\∃q,Ld ah (aq a (0:Int) 1) (World.drew n) (vS q)/\uL cy #[] (World.drew n) λr s t u=>uI az #[.slice r s t,vS q] u λv x=>uL bB #[] x λy z A B=>uI az #[.slice y z A,vS p] B λC D=>o v C D)/\∀p q,aJ 10 (∀r,o p q r->(bx (2:Int) ((b:Nat):Int)/\Option.isSome a=true)/\ab (k==(0:Int)) (∃s,(∀t,bW r t->Ld ae (vA l 0) t s)/\∃t,(∀u,bW r u->Ld ah (aq a (2:Int) 1) u (vS t))/\∃u,(∀v,bW r v->(Instr.build aN #[(0,.bool (p==(1:Int))),(1,s),(2,vS t),(3,vI q)]).run prog v=.ok u v)/\∃v,(∀x,bW r x->(Instr.build ak #[(0,vI 2),(3,u)]).run prog x=.ok v x)/\∀x,bW r x->∃y,Sv ak (vA d 0) v x y/\∃z,Rv ak (vA d 0) y z/\K (.tuple #[z,.bool (decide (p >=(0:Int)))]) y) (∃s,(∀t,bW r t->Ld ae (vA l 0) t s)/\∃t,(∀u,bW r u->Ld ah (aq a (2:Int) 1) u (vS t))/\∃u,(∀v,bW r v->(Instr.build aN #[(0,.bool (p==(1:Int))),(1,s),(2,vS t),(3,vI q)]).run prog v=.ok u v)/\∃v,(∀x,bW r x->(Instr.build ak #[(0,vI 2),(3,u)]).run prog x=.ok v x)/\∀x,bW r x->∃y,Sv ak (vA d 0) v x y/\∃z,Rv ak (vA d 0) y z/\K (.tuple #[z,.bool false]) y))):Cf iM #[.slice a b c] w (Ret K):=ru func98 [(4,[(6,.one (.int .i64)),(7,.one (.int .i64))]),(1000005,[]),(3000007,[(0,.one .bool),(1,.one .bool),(3,.one .bool),(4,.one .bool),(6,.one .bool),(9,.one .bool),(10,.one .bool),(11,.one .bool),(12,.one .bool),(13,.one .bool),(14,.one .bool),(2,.one .bool),(5,.one .bool),(7,.one .bool),(8,.one .bool)])] h
theorem xP (a:lU){w K}(h:nA w (.cells dt ak) λb c=>Cf oM #[vS a] c λd e=>∃f g i j,d=rT #[.slice f g i,.bool j]/\ab (!j) (∃k,Sv ak (vA b 0) (.agg dt) e k/\∃l,Rv ak (vA b 0) k l/\K (.tuple #[l,.bool false]) k) (∃k:FP [.one .ptr,.one .bool],((bx (0:Int) ((g:Nat):Int)/\Option.isSome f=true)/\(Cf dr #[] (World.drew e) λl m=>∃n,l=.returned (.map n)/\(∃o,Ld ah (aq f (0:Int) 1) m (vS o)/\(∃p q r,(Instr.lookup aI (.map n) (vS o) true).run prog m=.ok (.tuple #[.agg #[vI p,q],.bool r]) m/\nA m (.cells #[vI 0,.nilFunc] aU) λs t=>∃u,Sv aU (vA s 0) (.agg #[vI p,q]) t u/\k (vA s 0) r u)/\nA m (.cells #[vI 0,.nilFunc] aU) λp q=>∃r s t,(Instr.lookup aI (.map n) (vS o) true).run prog q=.ok (.tuple #[.agg #[vI r,s],.bool t]) q/\∃u,Sv aU (vA p 0) (.agg #[vI r,s]) q u/\k (vA p 0) t u)/\nA m (.cells #[vI 0,.nilFunc] aU) λo p=>∃q,Ld ah (aq f (0:Int) 1) p (vS q)/\∃r s t,(Instr.lookup aI (.map n) (vS q) true).run prog p=.ok (.tuple #[.agg #[vI r,s],.bool t]) p/\∃u,Sv aU (vA o 0) (.agg #[vI r,s]) p u/\k (vA o 0) t u)/\(∃l,Ld ah (aq f (0:Int) 1) (World.drew e) (vS l)/\(Cf dr #[] (World.drew e) λm n=>∃o,m=.returned (.map o)/\(∃p q r,(Instr.lookup aI (.map o) (vS l) true).run prog n=.ok (.tuple #[.agg #[vI p,q],.bool r]) n/\nA n (.cells #[vI 0,.nilFunc] aU) λs t=>∃u,Sv aU (vA s 0) (.agg #[vI p,q]) t u/\k (vA s 0) r u)/\nA n (.cells #[vI 0,.nilFunc] aU) λp q=>∃r s t,(Instr.lookup aI (.map o) (vS l) true).run prog q=.ok (.tuple #[.agg #[vI r,s],.bool t]) q/\∃u,Sv aU (vA p 0) (.agg #[vI r,s]) q u/\k (vA p 0) t u)/\∀m n,m=(World.drew e).heap.size->n=(World.drew e).alloc (.cells #[vI 0,.nilFunc] aU)->Cf dr #[] n λo p=>∃q,o=.returned (.map q)/\∃r s t,(Instr.lookup aI (.map q) (vS l) true).run prog p=.ok (.tuple #[.agg #[vI r,s],.bool t]) p/\∃u,Sv aU (vA m 0) (.agg #[vI r,s]) p u/\k (vA m 0) t u)/\∀l m,l=(World.drew e).heap.size->m=(World.drew e).alloc (.cells #[vI 0,.nilFunc] aU)->(Cf dr #[] m λn o=>∃p,n=.returned (.map p)/\∃q,Ld ah (aq f (0:Int) 1) o (vS q)/\∃r s t,(Instr.lookup aI (.map p) (vS q) true).run prog o=.ok (.tuple #[.agg #[vI r,s],.bool t]) o/\∃u,Sv aU (vA l 0) (.agg #[vI r,s]) o u/\k (vA l 0) t u)/\∃n,Ld ah (aq f (0:Int) 1) m (vS n)/\Cf dr #[] m λo p=>∃q,o=.returned (.map q)/\∃r s t,(Instr.lookup aI (.map q) (vS n) true).run prog p=.ok (.tuple #[.agg #[vI r,s],.bool t]) p/\∃u,Sv aU (vA l 0) (.agg #[vI r,s]) p u/\k (vA l 0) t u)/\∀l m,aJ 8 (∀n,k l m n->∃o:FP [],(ab (!m) (∃p,Sv ak (vA b 0) (.agg dt) n p/\∃q,Rv ak (vA b 0) p q/\K (.tuple #[q,.bool false]) p) ((Option.isSome l=true)/\∃p,Ld bh (Option.map (λq=>q.add 0) l) n (vI p)/\ab (((g:Nat):Int) !=(i64.wrap (p+(1:Int)))) (∃q,Sv ak (vA b 0) (.agg dt) n q/\∃r,Rv ak (vA b 0) q r/\K (.tuple #[r,.bool false]) q) (o n)))/\aJ 12 (∀p,o p->∃q:FP [.one .bool,.one .ptr],((Option.isSome l=true)/\bd (1:Int) ((g:Nat):Int)/\(∃r,Ld bM (Option.map (λs=>s.add 1) l) (World.drew p) r/\(pC prog r #[.slice (iG f i (Int.toNat 1) 1) (g-(Int.toNat 1)) (i-(Int.toNat 1))] (World.drew p) λs t=>∃u v,s=rT #[u,.bool v]/\nA t (.cells dt ak) λx y=>∃z,Sv ak (vA x 0) u y z/\q v (vA x 0) z)/\∀s t,s=(World.drew p).heap.size->t=(World.drew p).alloc (.cells dt ak)->pC prog r #[.slice (iG f i (Int.toNat 1) 1) (g-(Int.toNat 1)) (i-(Int.toNat 1))] t λu v=>∃x y,u=rT #[x,.bool y]/\∃z,Sv ak (vA s 0) x v z/\q y (vA s 0) z)/\∀r s,r=(World.drew p).heap.size->s=(World.drew p).alloc (.cells dt ak)->∃t,Ld bM (Option.map (λu=>u.add 1) l) s t/\pC prog t #[.slice (iG f i (Int.toNat 1) 1) (g-(Int.toNat 1)) (i-(Int.toNat 1))] s λu v=>∃x y,u=rT #[x,.bool y]/\∃z,Sv ak (vA r 0) x v z/\q y (vA r 0) z)/\∀r s,aJ 8 (∀t,q r s t->∃u,(∀v,bW t v->Ld ak s v u)/\ab r (∃v,(∀x,bW t x->Ld ak s x v)/\∃x,(∀y,bW t y->Cf ib #[v] y λz A=>z=.returned (.bool x)/\bW y A)/\∀y,bW t y->∃z,Sv ak (vA b 0) u y z/\∃A,Rv ak (vA b 0) z A/\K (.tuple #[A,.bool x]) z) (∀v,bW t v->∃x,Sv ak (vA b 0) u v x/\∃y,Rv ak (vA b 0) x y/\K (.tuple #[y,.bool false]) x)))))):Cf lF #[vS a] w (Ret K):=ru func20 [(12,[(6,.one .ptr),(7,.one .bool)]),(14,[]),(22,[(5,.one .bool),(8,.one .ptr)]),(3000025,[(1,.one .bool),(2,.one .bool),(0,.one .bool),(3,.one .bool),(4,.one .bool),(5,.one .bool)])] h
theorem Qr {r:Req}(o:r.ok):(⟨2,eX,[],r,0⟩:OpR).cells.length=45:=by
 unfold OpR.cells
 rw[List.length_cons,List.length_append,List.length_cons,List.length_append,Req.len o];rfl
theorem Mh (x:List UInt8):Lib.idxOfS ([II,gv].map mkS) (mkS x)=cS x:=V9 _ _ _
theorem M0 (x:List UInt8):Lib.idxOfS ([IJ,GJ,GW].map mkS) (mkS x)=gI x:=Wa _ _ _ _
theorem Sl.str {A:Bl}{a:Option Addr}{l c:Nat}{xs:List (List UInt8)}{w:World}(ho:Sl tS w A a l c xs){i:Int}{s:List UInt8}(h:xs[i.toNat]? =some s):
   (Instr.loadAt ah (.pointer (aq a i 1))).run prog w=.ok (vS s) w:=by
 obtain⟨hi,e⟩:=List.getElem?_eq_some_iff.1 h
 obtain⟨v,hv,hrep⟩:=ho.load1 (P:=prog) (i:=i) av rfl rfl hi
 obtain⟨rfl,_⟩:=lZ hrep
 rw[hv,e]
theorem D4 (b:Bool){h:Hst}(o:h.ok)(p:List UInt8)(n:Int)(w:World):(Instr.build aN #[(0,.bool b),(1,h.v),(2,vS p),(3,vI n)]).run prog w=.ok (Req.v ⟨b,h,p,n⟩) w:=by
 obtain⟨k,n,a⟩:=h
 obtain⟨x0,x1,x2,x3,x4,x5,x6,x7,x8,x9,x10,x11,x12,x13,x14,x15,rfl⟩:=fi a o
 kernel_rfl
theorem Ai {r:Req}(k:r.ok)(w:World):(Instr.build ak #[(0,vI 2),(3,r.v)]).run prog w=.ok (⟨2,eX,[],r,0⟩:OpR).v w:=by
 obtain⟨d1,⟨e1,e2,e3⟩,d2,d3⟩:=r
 obtain⟨x0,x1,x2,x3,x4,x5,x6,x7,x8,x9,x10,x11,x12,x13,x14,x15,rfl⟩:=fi e3 k
 kernel_rfl
theorem Gp {A:Bl}{a:Option Addr}{l c:Nat}{x y p z:List UInt8}{w:World}(ho:Sl tS w A a l c [x,y,p,z])(hy:y.length <=10000000)(he:Env w):
   Cf iM #[.slice a l c] w (Ret λv w'=>v=.tuple #[(⟨2,eX,[],⟨cS x==1,(bt y).getD gJ,p,gI z⟩,0⟩:OpR).v,.bool ((bt y).isSome&&decide (0 <=cS x))]/\bW w w'):=by
 have hl:=ho.1
 obtain rfl:l=4:=hl
 apply DI
 intro k2 w2 hk2 hw2
 have hB2:bW w w2:=hw2▸ai w _
 have h2:ao w2 k2 ak uy.cells:=ao.new hk2 hw2
 have hs:=ho.isSome (i:=0) (by simp)
 refine⟨⟨⟨by decide,by decide⟩,hs⟩,y,Sl.str (ho.below hB2) rfl,?_⟩
 refine aw (jd y (by omega) w2 (he.step hB2)) ?_
 rintro _ w3 ⟨rfl,hb3⟩
 have hB3:=aa hB2 hb3 hB2.size
 have ok:=lN λx hx=>fM (s:=y) hx
 rw[io]
 refine⟨_,_,rfl,?_⟩
 refine aP.new (zs:=gJ.cells) (cs:=((bt y).getD gJ).cells) rfl (Hst.len ok) (Hst.one _) w3 λk4 w4 hk4 h4 hb4=>?_
 have hB4:=aa hB3 hb4 hB3.size
 have h24:=(h2.below hb3).below hb4
 have ho4:=ho.below hB4
 have hd:bW w4 (World.drew w4):=eC w4
 refine⟨λn m w'=>n=cS x/\m=gI z/\bW w4 w',⟨⟨⟨by decide,by decide⟩,hs⟩,⟨⟨by decide,by decide⟩,hs⟩,?_⟩,λn m=>aJ.of ?_ _⟩
 · clear h24 h4 h2 ok hB3 hb3 hB2 hb4
   have ld0:∀{u:World},bW w4 u->(Instr.loadAt ah (.pointer (aq a (0:Int) 1))).run prog u=.ok (vS x) u:=λhb=>Sl.str (ho4.below hb) rfl
   have ld3:∀{u:World},bW w4 u->(Instr.loadAt ah (.pointer (aq a (3:Int) 1))).run prog u=.ok (vS z) u:=λhb=>Sl.str (ho4.below hb) rfl
   have sc:∀{u:World} {R:Ending->World->Prop},bW w4 u->(∀(b:Option Addr) (u':World),Ow tS ah u' NoB b 2 2 [II,gv]->bW w4 u'->R (.returned (.slice b 2 2)) u')->Cf cy #[] u R:=fun{u R} hb h=>aw (jD u) (by
     rintro _ u' ⟨b,rfl,o,_,hb'⟩
     exact h b u' o (aa hb hb' hb.size))
   have cr:∀{u:World} {R:Ending->World->Prop},bW w4 u->(∀(b:Option Addr) (u':World),Ow tS ah u' NoB b 3 3 [IJ,GJ,GW]->bW w4 u'->R (.returned (.slice b 3 3)) u')->Cf bB #[] u R:=fun{u R} hb h=>aw (nR u) (by
     rintro _ u' ⟨b,rfl,o,_,hb'⟩
     exact h b u' o (aa hb hb' hb.size))
   have i2:∀{u:World} {b:Option Addr} {t:List UInt8} {R:Ending->World->Prop},Ow tS ah u NoB b 2 2 [II,gv]->R (.returned (vI (cS t))) u->Cf az #[.slice b 2 2,vS t] u R:=fun{u b t R} o h=>aw (KK o.all (by simp) t (by simp)) (by
     rintro _ _ ⟨rfl,rfl⟩
     rw[Mh];exact h)
   have i3:∀{u:World} {b:Option Addr} {t:List UInt8} {R:Ending->World->Prop},Ow tS ah u NoB b 3 3 [IJ,GJ,GW]->R (.returned (vI (gI t))) u->Cf az #[.slice b 3 3,vS t] u R:=fun{u b t R} o h=>aw (KK o.all (by simp) t (by simp)) (by
     rintro _ _ ⟨rfl,rfl⟩
     rw[M0];exact h)
   repeat' (with_reducible first
     | exact⟨rfl,rfl,by assumption⟩
     | refine And.intro ?_ ?_
     | refine⟨x,ld0 (by assumption),?_⟩
     | refine⟨z,ld3 (by assumption),?_⟩
     | (refine sc (by assumption) λ_ _ _ _=>⟨_,_,_,rfl,?_⟩)
     | (refine cr (by assumption) λ_ _ _ _=>⟨_,_,_,rfl,?_⟩)
     | (refine i2 (by assumption) ⟨_,rfl,?_⟩)
     | (refine i3 (by assumption) ⟨_,rfl,?_⟩))
 · rintro w5 ⟨rfl,rfl,hb5⟩
   have hB5:=aa hB4 hb5 hB4.size
   have h25:=h24.below hb5
   have ok':Req.ok ⟨cS x==1,(bt y).getD gJ,p,gI z⟩:=ok
   refine⟨⟨⟨by decide,by decide⟩,hs⟩,?_⟩
   have tail:∀(b:Bool) (hb:b=((bt y).isSome&&decide (0 <=cS x))) (wq:World),bW w5 wq->∃wx,(Instr.storeAt ak (.pointer (some ⟨k2,0,none⟩)) (⟨2,eX,[],⟨cS x==1,(bt y).getD gJ,p,gI z⟩,0⟩:OpR).v).run prog wq=.ok () wx/\
       ∃vr:Value,(bg ak (.pointer (some ⟨k2,0,none⟩))).run prog wx=.ok vr wx/\(Value.tuple #[vr,.bool b]=.tuple #[(⟨2,eX,[],⟨cS x==1,(bt y).getD gJ,p,gI z⟩,0⟩:OpR).v,.bool ((bt y).isSome&&decide (0 <=cS x))]/\bW w wx):=λb hb wq hq=>
     ec.fin (K:=λvr wx=>Value.tuple #[vr,.bool b]=.tuple #[(⟨2,eX,[],⟨cS x==1,(bt y).getD gJ,p,gI z⟩,0⟩:OpR).v,.bool ((bt y).isSome&&decide (0 <=cS x))]/\bW w wx) (cs:=(⟨2,eX,[],⟨cS x==1,(bt y).getD gJ,p,gI z⟩,0⟩:OpR).cells) (Qr ok') (OpR.one _) (h25.below hq) cG (aa hB5 hq hB5.size) (by omega) λwx hb'=>⟨by rw[hb];rfl,hb'⟩
   refine ab.of (λc=>?_) (λc=>?_)
   · refine⟨_,λu hu=>aP.load0 ((h4.below hb5).below hu) (Hst.len ok),p,λu hu=>Sl.str ((ho4.below hb5).below hu) rfl,_,λu hu=>D4 _ ok _ _ u,_,λu hu=>Ai ok' u,tail _ ?_⟩
     cases hv:bt y with
     | none=>rw[hv]at c;cases c
     | some h=>rfl
   · refine⟨_,λu hu=>aP.load0 ((h4.below hb5).below hu) (Hst.len ok),p,λu hu=>Sl.str ((ho4.below hb5).below hu) rfl,_,λu hu=>D4 _ ok _ _ u,_,λu hu=>Ai ok' u,tail _ ?_⟩
     cases hv:bt y with
     | none=>rfl
     | some h=>rw[hv]at c;cases c
end Go.Pk
