/- What the laws lean on: DateT, HdrA, HdrB, HdrC, AddrA, AddrP, AddrB, AddrC, AddrD, AddrE, AddrF, AddrG, AddrH, AddrI, Eq, HostA, HostB, HostC, Sub; what is used. Its conditions: none. -/
import Derived.Test.YthbkoifpgkjadaaGreatDoorKD
import Derived.Laws.CopyRow
import Derived.Lib.ItoaLen
import Derived.Laws.StructEq
set_option linter.unusedVariables false
set_option linter.unusedSimpArgs false
set_option linter.unusedSectionVars false
set_option maxRecDepth 100000
open Go.IntKind (i64)
open Go.Proofs.Tryz
namespace Go.Pk
open Go.RowKit (Below)
open Go.Proofs
theorem vb (w:World)(k:Nat)(os:Array Obj):bW w (Go.Sort.grow (w.drewN k) os):=by
 refine qL rfl rfl rfl (by simp[Go.Sort.grow,World.drewN]) λj hj=>?_
 show(w.heap++os)[j]? =_
 rw[Array.getElem?_append_left hj]
abbrev Lu (P:Program)(w:World):Prop:=Lib.TabIs P w "internal/strconv.uint64pow10" .u64 Lib.pow10Tab
theorem jF (n:Int)(h0:0 <=n)(h1:n<100)(w:World):Cf fm #[vI n,vI 2] w (Ret λv w'=>v=vS (El n)/\bW w w'):=by
 obtain⟨k,rfl⟩:∃k:Nat,n=(k:Int):=⟨n.toNat,by omega⟩
 apply sI
 refine(Tryz.strconv_Itoa_small k (by omega) w).mono ?_
 rintro _ _ ⟨rfl,rfl⟩
 refine⟨Lib.decDigits k,rfl,?_⟩
 by_cases h:k<10
 · have hl:=Qs k h
   have e1:i64.wrap ((2:Int)-(((Lib.decDigits k).length:Nat):Int))=((1:Nat):Int):=by rw[hl,wrap_i64 (by omega) (by omega)];omega
   try dsimp only
   rw[e1]
   refine(Tryz.strings_Repeat (mkS [48]) 1 _ (by decide) (by decide)).mono ?_
   rintro _ w1 ⟨rfl,hb⟩
   refine⟨[48],rfl,by rw[hl];decide,?_⟩
   rintro _ rfl
   exact⟨by rw[<- Ol k h];rfl,hb⟩
 · have e2:=HT k (by omega) (by omega)
   have hl:(Lib.decDigits k).length=2:=by rw[e2];rfl
   have e1:i64.wrap ((2:Int)-(((Lib.decDigits k).length:Nat):Int))=((0:Nat):Int):=by rw[hl,wrap_i64 (by omega) (by omega)];omega
   try dsimp only
   rw[e1]
   refine(Tryz.strings_Repeat (mkS [48]) 0 _ (by decide) (by decide)).mono ?_
   rintro _ w1 ⟨rfl,hb⟩
   refine⟨[],rfl,by rw[hl];decide,?_⟩
   rintro _ rfl
   exact⟨by rw[<- e2];rfl,hb⟩
theorem BE (n:Int)(h0:1000 <=n)(h1:n <=9999)(w:World)(ht:Lu prog w):Cf fm #[vI n,vI 4] w (Ret λv w'=>v=vS (El (n/100)++El (n%100))/\bW w w'):=by
 apply sI
 refine(Tryz.strconv_Itoa n (by omega) (by omega) w ht).mono ?_
 rintro _ _ ⟨rfl,k,os,rfl⟩
 have e2:=WV h0 h1
 refine⟨Lib.itoa n,rfl,?_⟩
 have hl:(Lib.itoa n).length=4:=by rw[e2];rfl
 have e1:i64.wrap ((4:Int)-(((Lib.itoa n).length:Nat):Int))=((0:Nat):Int):=by rw[hl,wrap_i64 (by omega) (by omega)];omega
 try dsimp only
 rw[e1]
 refine(Tryz.strings_Repeat (mkS [48]) 0 _ (by decide) (by decide)).mono ?_
 rintro _ w1 ⟨rfl,hb⟩
 refine⟨[],rfl,by rw[hl];decide,?_⟩
 rintro _ rfl
 have hb0:=vb w k os
 exact⟨by rw[<- e2];rfl,ab hb0 hb hb0.size⟩
theorem RN:∀k,k<7->(([84,104,117,70,114,105,83,97,116,83,117,110,77,111,110,84,117,101,87,101,100]:List UInt8).take (3*k+3)).drop (3*k)=Pw (k:Int):=by decide
theorem TQ:∀k,k<12->(([74,97,110,70,101,98,77,97,114,65,112,114,77,97,121,74,117,110,74,117,108,65,117,103,83,101,112,79,99,116,78,111,118,68,101,99]:List UInt8).take (3*k+3)).drop (3*k)=Vv ((k:Int)+1):=by decide
theorem RO:∀k:Nat,k<7->(Pw (k:Int)).length=3:=by decide
theorem TR:∀k:Nat,k<12->(Vv ((k:Int)+1)).length=3:=by decide
theorem Px {k:Int}(h0:0 <=k)(h1:k<7):(Pw k).length=3:=by
 have:=RO k.toNat (by omega)
 rwa [show((k.toNat:Nat):Int)=k by omega]at this
theorem Q2 {k:Int}(h0:1 <=k)(h1:k <=12):(Vv k).length=3:=by
 have:=TR (k-1).toNat (by omega)
 rwa [show(((k-1).toNat:Nat):Int)+1=k by omega]at this
theorem Hp (t:Int)(h0: -9223372036854775808 <=t)(h1:t <=9223372036854775807)(w:World)(ht:Lu prog w):Cf mN #[vI t] w (Ret λv w'=>v=vS (GF t)/\bW w w'):=by
 apply Gi
 obtain⟨e1,e2⟩:=ID (t:=t) (b:=86400) (by decide)
 refine⟨by decide,?_⟩
 rintro _ rfl
 refine⟨by decide,?_⟩
 rintro _ rfl
 refine⟨λn s w'=>w'=w/\n=t/86400/\s=t%86400,?_,?_⟩
 · refine ae.of (λh=>?_) (λh=>?_) <;> simp only[dTx,dFx]at h
   · have hneg:t<0:=by
       by_cases c:0 <=t
       · have:=(e1 c).2;omega
       · omega
     obtain⟨e3,e4⟩:=e2 hneg
     rw[e4]at h
     rw[e3,e4,wrap_i64 (n:= -(-t/86400)) (by omega) (by omega),wrap_i64 (by omega) (by omega),wrap_i64 (by omega) (by omega)]
     exact⟨rfl,by omega,by omega⟩
   · by_cases c:0 <=t
     · rw[(e1 c).1,(e1 c).2,wrap_i64 (by omega) (by omega)];exact⟨rfl,rfl,rfl⟩
     · obtain⟨e3,e4⟩:=e2 (by omega)
       rw[e4]at h
       rw[e3,e4,wrap_i64 (by omega) (by omega)];exact⟨rfl,by omega,by omega⟩
 · clear e1 e2
   intro n s
   refine aN.of ?_ _
   rintro w ⟨rfl,rfl,rfl⟩
   refine aB (Fw _ w (by omega)) ?_
   rintro _ w1 ⟨rfl,hb1⟩
   by_cases hr:t/86400 < -134774\/2932896<t/86400
   · rw[Bz hr]
     refine⟨_,_,_,_,rfl,ae.yes rfl ⟨by rw[EW hr],hb1⟩⟩
   obtain⟨y,m,d,hd,he⟩:=R5 (n:=t/86400) (by omega) (by omega)
   rw[Li hd he,<- he,Ju hd,he]
   refine⟨y,m,d,true,rfl,ae.no rfl ?_⟩
   have hdd:=hd
   obtain⟨hy1,hy2,hm1,hm2,hd1,hd2⟩:=hdd
   have hd3:=JS y m
   generalize hn:t/86400=n at*
   generalize hs:t%86400=s at*
   have hs0:0 <=s/\s<86400:=by omega
   clear h0 h1 hn hs he
   obtain⟨e1,e2⟩:=ID (t:=n) (b:=7) (by decide)
   have e7: -7<Int.tmod n 7/\Int.tmod n 7<7/\(Int.tmod n 7+7)%7=n%7:=by
     by_cases c:0 <=n
     · rw[(e1 c).2];omega
     · rw[(e2 (by omega)).2];omega
   clear e1 e2
   refine⟨by decide,?_⟩
   rintro _ rfl
   refine⟨by decide,?_⟩
   rintro _ rfl
   have e8:Int.tmod (i64.wrap (Int.tmod n 7+7)) 7=n%7:=by rw[wrap_i64 (by omega) (by omega),oa (by omega),e7.2.2]
   try dsimp only
   rw[e8]
   clear e7 e8
   have hk0:0 <=n%7/\n%7<7:=by omega
   have hwl:=Px hk0.1 hk0.2
   have hml:=Q2 hm1 hm2
   obtain⟨k,hk⟩:∃k:Nat,n%7=(k:Int):=⟨(n%7).toNat,by omega⟩
   obtain⟨j,hj⟩:∃j:Nat,m=(j:Int)+1:=⟨(m-1).toNat,by omega⟩
   have hwk:=RN k (by omega)
   have hmk:=TQ j (by omega)
   rw[<- hk]at hwk
   rw[<- hj]at hmk
   rw[wrap_i64 (n:=3*(n%7)) (by omega) (by omega),wrap_i64 (n:=3*(n%7)+3) (by omega) (by omega),show(3*(n%7)+3).toNat=3*k+3 by omega,show(3*(n%7)).toNat=3*k by omega,hwk]
   refine⟨⟨⟨by omega,by simp only[List.length_cons,List.length_nil];omega⟩,by omega,by omega⟩,?_⟩
   rintro _ rfl
   refine⟨fits (by simp only[List.length_append,j3,hwl,hml,List.length_cons,List.length_nil];omega),?_⟩
   rintro _ rfl
   refine⟨El d,λu hu=>jY (jF d (by omega) (by omega) u) hu,?_⟩
   refine⟨fits (by simp only[List.length_append,j3,hwl,hml,List.length_cons,List.length_nil];omega),?_⟩
   rintro _ rfl
   refine⟨fits (by simp only[List.length_append,j3,hwl,hml,List.length_cons,List.length_nil];omega),?_⟩
   rintro _ rfl
   rw[wrap_i64 (n:=3*m) (by omega) (by omega),wrap_i64 (n:=3*m-3) (by omega) (by omega),show(3*m).toNat=3*j+3 by omega,show(3*m-3).toNat=3*j by omega,hmk]
   refine⟨⟨⟨by omega,by simp only[List.length_cons,List.length_nil];omega⟩,by omega,by omega⟩,?_⟩
   rintro _ rfl
   refine⟨fits (by simp only[List.length_append,j3,hwl,hml,List.length_cons,List.length_nil];omega),?_⟩
   rintro _ rfl
   refine⟨fits (by simp only[List.length_append,j3,hwl,hml,List.length_cons,List.length_nil];omega),?_⟩
   rintro _ rfl
   refine⟨El (y/100)++El (y%100),λu hu=>jY (BE y (by omega) (by omega) u (Lf (Lf ht hb1) hu)) hu,?_⟩
   refine⟨fits (by simp only[List.length_append,j3,hwl,hml,List.length_cons,List.length_nil];omega),?_⟩
   rintro _ rfl
   refine⟨fits (by simp only[List.length_append,j3,hwl,hml,List.length_cons,List.length_nil];omega),?_⟩
   rintro _ rfl
   refine⟨by decide,?_⟩
   rintro _ rfl
   rw[gG hs0.1,wrap_i64 (n:=s/3600) (by omega) (by omega)]
   refine⟨El (s/3600),λu hu=>jY (jF _ (by omega) (by omega) u) hu,?_⟩
   refine⟨fits (by simp only[List.length_append,j3,hwl,hml,List.length_cons,List.length_nil];omega),?_⟩
   rintro _ rfl
   refine⟨fits (by simp only[List.length_append,j3,hwl,hml,List.length_cons,List.length_nil];omega),?_⟩
   rintro _ rfl
   refine⟨by decide,?_⟩
   rintro _ rfl
   refine⟨by decide,?_⟩
   rintro _ rfl
   rw[gG hs0.1,wrap_i64 (n:=s/60) (by omega) (by omega),oa (a:=s/60) (by omega)]
   refine⟨El (s/60%60),λu hu=>jY (jF _ (by omega) (by omega) u) hu,?_⟩
   refine⟨fits (by simp only[List.length_append,j3,hwl,hml,List.length_cons,List.length_nil];omega),?_⟩
   rintro _ rfl
   refine⟨fits (by simp only[List.length_append,j3,hwl,hml,List.length_cons,List.length_nil];omega),?_⟩
   rintro _ rfl
   refine⟨by decide,?_⟩
   rintro _ rfl
   rw[oa (a:=s) hs0.1]
   refine⟨El (s%60),λu hu=>jY (jF _ (by omega) (by omega) u) hu,?_⟩
   refine⟨fits (by simp only[List.length_append,j3,hwl,hml,List.length_cons,List.length_nil];omega),?_⟩
   rintro _ rfl
   refine⟨fits (by simp only[List.length_append,j3,hwl,hml,List.length_cons,List.length_nil];omega),?_⟩
   rintro _ rfl
   intro wq hq
   refine⟨?_,ab hb1 hq hb1.size⟩
   congr 2
   simp[RB,Nu,List.append_assoc]
def stripR (p:UInt8->Bool)(s:List UInt8):List UInt8:=(s.reverse.dropWhile p).reverse
def pZ (p:UInt8->Bool)(s:List UInt8):List UInt8:=stripR p (s.dropWhile p)
theorem vK (p:UInt8->Bool)(x:UInt8)(s:List UInt8):stripR p (x::s)=if stripR p s=[]then(if p x then[]else[x])else x::stripR p s:=by
 unfold stripR
 rw[List.reverse_cons]
 have key:∀t:List UInt8,List.dropWhile p (t++[x])=if List.dropWhile p t=[]then(if p x then[]else[x])else List.dropWhile p t++[x]:=by
   intro t
   induction t with
   | nil=>simp[List.dropWhile_cons]
   | cons y t ih=>
     rw[List.cons_append,List.dropWhile_cons,List.dropWhile_cons]
     split
     · exact ih
     · rw[if_neg (by simp)];rfl
 rw[key]
 by_cases h:List.dropWhile p s.reverse=[]
 · have h':(List.dropWhile p s.reverse).reverse=[]:=by rw[h];rfl
   rw[if_pos h,if_pos h']
   split <;> rfl
 · have h': ¬ (List.dropWhile p s.reverse).reverse=[]:=by simpa using h
   rw[if_neg h,if_neg h']
   simp
theorem yN (p:UInt8->Bool):∀s:List UInt8,(stripR p s).dropWhile p=pZ p s
 | []=>rfl
 | x::s=>by
   have ih:=yN p s
   unfold pZ at ih ⊢
   cases hx:p x with
   | true=>
     have e1:List.dropWhile p (x::s)=List.dropWhile p s:=by rw[List.dropWhile_cons,if_pos hx]
     rw[e1,<- ih,vK]
     by_cases h:stripR p s=[]
     · rw[if_pos h,if_pos hx,h]
     · rw[if_neg h,List.dropWhile_cons,if_pos hx]
   | false=>
     have hx': ¬ p x=true:=by rw[hx];decide
     have e1:List.dropWhile p (x::s)=x::s:=by rw[List.dropWhile_cons,if_neg hx']
     rw[e1,vK]
     by_cases h:stripR p s=[]
     · rw[if_pos h,if_neg hx',List.dropWhile_cons,if_neg hx']
     · rw[if_neg h,List.dropWhile_cons,if_neg hx']
theorem uz (p:UInt8->Bool):∀s:List UInt8,stripR p s=[] ↔ s.all p=true
 | []=>by simp[stripR]
 | x::s=>by
   have ih:=uz p s
   rw[vK,List.all_cons,Bool.and_eq_true,<- ih]
   by_cases h:stripR p s=[]
   · rw[if_pos h]
     cases p x <;> simp[h]
   · rw[if_neg h];simp[h]
theorem lg (p:UInt8->Bool):∀s:List UInt8,pZ p s=[] ↔ s.all p=true
 | []=>by simp[pZ,stripR]
 | x::s=>by
   unfold pZ
   rw[List.dropWhile_cons]
   cases hx:p x with
   | true=>rw[if_pos rfl,List.all_cons,hx,Bool.true_and];exact lg p s
   | false=>rw[if_neg (by decide),uz]
theorem yM (p:UInt8->Bool)(s:List UInt8):(pZ p s).length <=s.length:=by
 unfold pZ stripR
 rw[List.length_reverse]
 have h1:=(List.dropWhile_sublist p (l:=(s.dropWhile p).reverse)).length_le
 have h2:=(List.dropWhile_sublist p (l:=s)).length_le
 rw[List.length_reverse]at h1;omega
theorem C0 (s cs:List UInt8):Lib.trimS s cs=pZ (cs.contains ·) s:=yN _ s
def JN (c:UInt8):Bool:=c==32 || c==9
def trimB (s:List UInt8):List UInt8:=pZ JN s
theorem LB:∀n,n<256->([32,9]:List UInt8).contains (UInt8.ofNat n)=JN (UInt8.ofNat n):=by decide+kernel
theorem U7 (c:UInt8):([32,9]:List UInt8).contains c=JN c:=by
 have:=LB c.toNat (by have:=c.toNat_lt;omega)
 rwa [UInt8.ofNat_toNat]at this
theorem Uu (s:List UInt8):Lib.trimS s [32,9]=trimB s:=by
 rw[C0];unfold trimB;congr 1;exact funext U7
def jm (s:List UInt8):Bool:= !(s==[])&&s.all mA
theorem Ke (s:List UInt8):(Lib.trimS s [48,49,50,51,52,53,54,55,56,57]==[])=s.all mA:=by
 rw[C0]
 have e:(λx=>([48,49,50,51,52,53,54,55,56,57]:List UInt8).contains x)=mA:=funext NL
 rw[e,Bool.eq_iff_iff,beq_iff_eq,lg]
def JY (s:List UInt8):Prop:=jm s=true/\s.length <=18/\ ¬ (s.head?=some 48/\1<s.length)
instance  (s:List UInt8):Decidable (JY s):=by unfold JY;infer_instance
theorem mC (s:List UInt8)(hs:s.length <=9223372036854775807)(w:World):Cf jt #[vS s] w (Ret λv w'=>v=vS (trimB s)/\bW w w'):=by
 apply D7
 refine(Tryz.strings_Trim_laid (mkS s) (mkS [32,9]) w hs (by decide) (ascii_of_all (by decide))).mono ?_
 rintro _ w1 ⟨rfl,hb⟩
 have e:Lib.trimS (mkS s).data.toList (mkS [32,9]).data.toList=trimB s:=Uu s
 rw[e]
 exact⟨_,rfl,rfl,hb⟩
theorem nr (s:List UInt8)(hs:s.length <=9223372036854775807)(w:World):Cf jc #[vS s] w (Ret λv w'=>v=.bool (jm s)/\bW w w'):=by
 apply An
 unfold jm
 refine ae.of (λh=>?_) (λh=>?_)
 · refine⟨⟨by decide,by decide⟩,?_⟩
   rintro _ rfl
   refine(Tryz.strings_Trim_laid (mkS s) (mkS [48,49,50,51,52,53,54,55,56,57]) w hs (by decide) (ascii_of_all (by decide))).mono ?_
   rintro _ w1 ⟨rfl,hb⟩
   refine⟨_,rfl,?_,hb⟩
   have e:=Ke s
   rw[h,Bool.true_and,<- e];rfl
 · rw[h];exact⟨rfl,Below.refl _ _⟩
theorem ns (s:List UInt8)(hs:s.length <=9223372036854775000)(w:World):
   Cf jd #[vS s] w (Ret λv w'=>v=(if JY s then .tuple #[vI (lI s),.bool true]else .tuple #[vI 0,.bool false])/\bW w w'):=by
 apply Ao
 have bad:∀{w':World},¬ JY s->bW w w'->(.tuple #[vI 0,.bool false]:Value)=(if JY s then .tuple #[vI (lI s),.bool true]else .tuple #[vI 0,.bool false])/\bW w w':=λhn hb=>⟨by rw[if_neg hn],hb⟩
 refine j8 (λw'=>JY s/\bW w w') ?_ ?_
 · refine aB (nr s (by omega) w) ?_
   rintro _ w1 ⟨rfl,hb⟩
   refine⟨_,rfl,?_⟩
   refine ae.of (λh=>?_) (λh=>?_) <;> simp only[Bool.not_eq_true',Bool.not_eq_false']at h
   · exact bad (λhc=>by rw[hc.1]at h;cases h) hb
   refine ae.of (λh2=>?_) (λh2=>?_) <;> simp only[gt_iff_lt,dTx,dFx]at h2
   · exact bad (λhc=>by have:=hc.2.1;omega) hb
   have hne:s≠[]:=λe=>by rw[e]at h;cases h
   match s,hne with
   | c::r,_=>
     have hx:eF (c::r) 0=((c.toNat:Nat):Int):=rfl
     rw[hx]
     refine⟨⟨by decide,by simp only[List.length_cons];omega⟩,?_⟩
     refine ae.of (λh3=>?_) (λh3=>?_)
     · have hc:c=48:=IE (by simpa using h3)
       refine ae.of (λh4=>?_) (λh4=>?_) <;> simp only[gt_iff_lt,dTx,dFx]at h4
       · exact bad (λhcn=>hcn.2.2 ⟨by rw[hc];rfl,by omega⟩) hb
       · exact⟨⟨h,by omega,λhcn=>by omega⟩,hb⟩
     · have hc:c≠48:=λe=>by subst e;cases h3
       exact⟨⟨h,by omega,λhcn=>hc (by simpa using hcn.1)⟩,hb⟩
 · rintro w1 ⟨hn,hb⟩
   rw[if_pos hn]
   obtain⟨hd,hl,_⟩:=hn
   have hall:∀c∈s,mA c=true:=λc hc=>by
     unfold jm at hd
     rw[Bool.and_eq_true]at hd
     exact List.all_eq_true.1 hd.2 c hc
   obtain⟨w2,a,n,c,hr,ho,hb2,hf⟩:=mq aF cg cH w1 s (by omega) NoB
   have hnn:=ho.len
   subst hnn
   have hb12:=ab hb hb2 hb.size
   refine⟨w2,a,_,c,hr,?_⟩
   refine⟨λm n i w'=>∃k:Nat,k <=s.length/\i=(k:Int)/\n=lI (s.take k)/\m=s.length-k/\w'=w2,⟨_,0,by omega,rfl,rfl,rfl,rfl⟩,?_⟩
   intro m n i
   refine aN.of ?_ _
   rintro w' ⟨k,hk,rfl,rfl,rfl,rfl⟩
   refine ae.of (λh=>?_) (λh=>?_) <;> simp only[dTx,dFx]at h
   · have hlt:k<s.length:=by omega
     have hc:=pL.1 (hall s[k] (List.getElem_mem hlt))
     have hbd:=py (s.take k) 0 (by decide) λc hc=>hall c (List.mem_of_mem_take hc)
     have hp:(10:Int) ^ (s.take k).length <=10 ^ 17:=F8 (by rw[List.length_take];omega)
     have e17:(10:Int) ^ 17=100000000000000000:=by decide
     have hV:(s.take k).foldl (λn c=>n*10+((c.toNat:Int)-48)) 0=lI (s.take k):=rfl
     rw[hV]at hbd
     have hbb:=hbd.2
     rw[Int.zero_add,Int.one_mul]at hbb
     obtain⟨v,hv,hrep⟩:=ho.all.load1 (i:=(k:Int)) cH rfl rfl (by simpa using hlt)
     have:=xg hrep
     subst this
     simp only[Int.toNat_natCast]at hv
     refine⟨⟨⟨by omega,h⟩,ho.all.isSome hlt⟩,_,hv,s.length-(k+1),by omega,k+1,by omega,by rw[wrap_i64 (by omega) (by omega)];omega,?_,rfl,rfl⟩
     rw[List.take_succ_eq_append_getElem hlt,NI,wrap_i64 (n:=10*lI (s.take k)) (by omega) (by omega),wrap_u8 (n:=((s[k].toNat:Nat):Int)-48) (by omega) (by omega),wrap_i64 (n:=((s[k].toNat:Nat):Int)-48) (by omega) (by omega),wrap_i64 (by omega) (by omega)]
     omega
   · have:k=s.length:=by omega
     subst this
     rw[List.take_length];exact⟨rfl,hb12⟩
theorem dQ (s:List UInt8)(c:UInt8)(hs:s.length<4294967281)(w:World)(he:Env w):
   Cf du #[vS s,.int .u8 ((c.toNat:Nat):Int)] w (Ret λv w'=>∃a n cp,v=.slice a n cp/\Ow tS ak w' NoB a n cp (dz c [] s)/\bg w.heap.size a/\bW w w'):=by
 apply CN
 intro k w1 hk hw
 have hB:=(hw▸ah w _:bW w w1)
 have ho:Ow tU8 bX w1 NoB (some ⟨k,0,none⟩) 1 1 [c]:=Ow.newF (l:=[_]) FG hk hw (kg.one (zl rfl)) (show 1 <=maxLen by decide)
 refine⟨_,vL cg aF cH ho.all,?_⟩
 obtain⟨m,hm⟩:=(he.step hB).max
 refine(Tryz.strings_Split (mkS s) (mkS [c]) m w1 hs hm (Nat.le_refl 1)).mono ?_
 rintro _ w2 ⟨rfl,hw2⟩
 have hcnt:=dZ c s []
 rw[CT,J9]at*
 refine⟨_,_,_,rfl,_,_,_,rfl,Ow.newF (jS _) rfl hw2 (mj λ_ _=>trivial) (by show _ <=2 ^ 63-1;omega),HC rfl |>.mono hB.size,ab hB (hw2▸ah _ _) hB.size⟩
def G6 (s:List UInt8):List UInt8:=trimB (s.takeWhile (· !=61))
def Bn (s:List UInt8):List UInt8:=trimB ((s.dropWhile (· !=61)).drop 1)
def N6 (s:List UInt8):Bool:=decide ((61:UInt8)∈s)
theorem XE (c:UInt8):((c !=61)=true) ↔ c≠61:=by simp
theorem Vx {s:List UInt8}(h:(61:UInt8) ∉ s):s.takeWhile (· !=61)=s/\s.dropWhile (· !=61)=[]:=by
 have hp:∀x∈s,(x !=61)=true:=λx hx=>(XE x).2 λe=>h (e▸hx)
 have h1:s.takeWhile (· !=61)=s:=by
   have:=List.takeWhile_append_of_pos (p:=(· !=61)) (l₁:=s) (l₂:=[]) hp
   simpa using this
 have h2:=List.takeWhile_append_dropWhile (p:=(· !=(61:UInt8))) (l:=s)
 refine⟨h1,?_⟩
 rw[h1]at h2
 exact List.append_cancel_left (h2.trans (List.append_nil s).symm)
def yf (c:UInt8):Bool:=(decide (c.toNat<32) && !(c==9)) || c==127
theorem GK (c n:UInt8):((((c.toNat:Nat):Int))==((n.toNat:Nat):Int))=(c==n):=by
 rw[Bool.eq_iff_iff,beq_iff_eq,beq_iff_eq]
 exact⟨λh=>IE h,λh=>by rw[h]⟩
theorem byte_at {s:List UInt8}{k:Nat}(h:k<s.length):eF s (k:Int)=((s[k].toNat:Nat):Int):=by
 rw[Eu (i:=(k:Int)) (by simpa using h)];simp only[Int.toNat_natCast]
theorem uw (s:List UInt8)(hs:s.length<4294967281)(w:World)(he:Env w):
   Cf mr #[vS s] w (Ret λv w'=>v=.tuple #[vS (G6 s),vS (Bn s),.bool (N6 s)]/\bW w w'):=by
 apply CH
 obtain⟨m,hm⟩:=he.max
 refine(Tryz.strings_Cut (mkS s) (mkS [61]) m w hs hm).mono ?_
 rintro _ w1 ⟨rfl,n,rfl⟩
 have e:Lib.cut (mkS s).data.toList (mkS [61]).data.toList=(s.takeWhile (· !=61),(s.dropWhile (· !=61)).drop 1,N6 s):=by
   show Lib.cut s [61]=_
   rw[Qp]
   unfold N6
   by_cases hm:(61:UInt8)∈s
   · rw[if_pos hm,decide_eq_true hm]
   · rw[if_neg hm,decide_eq_false hm,(Vx hm).1,(Vx hm).2];rfl
 rw[e]
 refine⟨s.takeWhile (· !=61),(s.dropWhile (· !=61)).drop 1,_,rfl,?_⟩
 have h1:=nY (· !=(61:UInt8)) s
 have h2:=(List.dropWhile_sublist (· !=(61:UInt8)) (l:=s)).length_le
 refine aB (mC _ (by omega) _) ?_
 rintro _ w2 ⟨rfl,hb2⟩
 refine⟨_,rfl,?_⟩
 refine aB (mC _ (by rw[List.length_drop];omega) w2) ?_
 rintro _ w3 ⟨rfl,hb3⟩
 have hb0:bW w (w.drewN n):=qL rfl rfl rfl (Nat.le_refl _) (λ_ _=>rfl)
 have hb02:=ab hb0 hb2 hb0.size
 exact⟨_,rfl,rfl,ab hb02 hb3 hb02.size⟩
theorem xX (s:List UInt8)(hs:s.length <=9223372036854775807)(w:World):Cf lJ #[vS s] w (Ret λv w'=>v=.bool (s.any yf)/\bW w w'):=by
 apply wU
 obtain⟨w2,a,n,c,hr,ho,hb2,hf⟩:=mq aF cg cH w s hs NoB
 have hnn:=ho.len
 subst hnn
 refine⟨w2,a,_,c,hr,?_⟩
 refine⟨λm i w'=>∃k:Nat,k <=s.length/\i=(k:Int)/\m=s.length-k/\(s.take k).any yf=false/\w'=w2,⟨_,0,by omega,rfl,rfl,rfl,rfl⟩,?_⟩
 intro m i
 refine aN.of ?_ _
 rintro w' ⟨k,hk,rfl,rfl,hno,rfl⟩
 refine ae.of (λh=>?_) (λh=>?_) <;> simp only[dTx,dFx]at h
 · have hlt:k<s.length:=by omega
   obtain⟨v,hv,hrep⟩:=ho.all.load1 (i:=(k:Int)) cH rfl rfl (by simpa using hlt)
   have:=xg hrep
   subst this
   simp only[Int.toNat_natCast]at hv
   have bad:yf s[k]=true->(.bool true:Value)=.bool (s.any yf)/\bW w w':=λhc=>⟨by
     congr 1;symm
     exact List.any_eq_true.2 ⟨_,List.getElem_mem hlt,hc⟩,hb2⟩
   have qK:yf s[k]=false->∃m':Nat,m'<s.length-k/\∃k2:Nat,k2 <=s.length/\i64.wrap ((k:Int)+1)=(k2:Int)/\m'=s.length-k2/\(s.take k2).any yf=false/\w'=w':=λhc=>
     ⟨s.length-(k+1),by omega,k+1,by omega,by rw[wrap_i64 (by omega) (by omega)];omega,rfl,by rw[List.take_succ_eq_append_getElem hlt,List.any_append,hno];simp[hc],rfl⟩
   have e9:=GK s[k] 9
   have e127:=GK s[k] 127
   refine⟨⟨⟨by omega,h⟩,ho.all.isSome hlt⟩,_,hv,?_⟩
   refine ae.of (λh2=>?_) (λh2=>?_)
   · simp only[dTx]at h2
     refine ae.of (λh3=>?_) (λh3=>?_)
     · refine bad ?_
       have h9:(s[k]==9)=false:=by rw[<- e9];simpa using h3
       unfold yf
       rw[h9,decide_eq_true (show s[k].toNat<32 by omega)];rfl
     · have h9:(s[k]==9)=true:=by rw[<- e9];simpa using h3
       refine ae.of (λh4=>?_) (λh4=>?_)
       · refine bad ?_
         unfold yf
         rw[<- e127,show((((s[k].toNat:Nat):Int))==((UInt8.toNat 127:Nat):Int))=true from h4,Bool.or_true]
       · refine qK ?_
         unfold yf
         rw[<- e127,show((((s[k].toNat:Nat):Int))==((UInt8.toNat 127:Nat):Int))=false from h4,h9]
         simp
   · simp only[dFx]at h2
     refine ae.of (λh4=>?_) (λh4=>?_)
     · refine bad ?_
       unfold yf
       rw[<- e127,show((((s[k].toNat:Nat):Int))==((UInt8.toNat 127:Nat):Int))=true from h4,Bool.or_true]
     · refine qK ?_
       unfold yf
       rw[<- e127,show((((s[k].toNat:Nat):Int))==((UInt8.toNat 127:Nat):Int))=false from h4,decide_eq_false (show ¬ s[k].toNat<32 by omega)]
       rfl
 · have:k=s.length:=by omega
   subst this
   rw[List.take_length]at hno
   exact⟨by rw[hno],hb2⟩
def UL (s:List UInt8):Option Int:=if s.head?=some 45 then(if jm (s.drop 1)then some 0 else none)else if jm s then some (min (lI s) 34560000)else none
theorem tZ (s:List UInt8)(c:UInt8):Lib.hasPrefix s [c]=decide (s.head?=some c)/\Lib.trimPrefix s [c]=if s.head?=some c then s.drop 1 else s:=by
 cases s with
 | nil=>exact⟨by simp[Lib.hasPrefix],rfl⟩
 | cons x s=>
   by_cases h:x=c
   · subst h
     have ht:Lib.hasPrefix (x::s) [x]=true:=by simp[Lib.hasPrefix,List.isPrefixOf]
     refine⟨by rw[ht];simp,?_⟩
     unfold Lib.trimPrefix;rw[ht];simp
   · have hf:Lib.hasPrefix (x::s) [c]=false:=by simp[Lib.hasPrefix,List.isPrefixOf,Ne.symm h]
     refine⟨by rw[hf];simp[h],?_⟩
     unfold Lib.trimPrefix;rw[hf];simp[h]
theorem Sa (p:UInt8->Bool):∀s:List UInt8,s.dropWhile p=[] ↔ s.all p=true
 | []=>by simp
 | x::s=>by
   rw[List.dropWhile_cons,List.all_cons]
   cases h:p x with
   | true=>rw[if_pos rfl,Bool.true_and];exact Sa p s
   | false=>simp
theorem Hs:∀(l:List UInt8) (acc:Int),l.foldl (λn c=>n*10+((c.toNat:Int)-48)) acc=(l.dropWhile (· ==48)).foldl (λn c=>n*10+((c.toNat:Int)-48)) acc\/acc≠0
 | [],acc=>.inl rfl
 | c::l,acc=>by
   by_cases ha:acc=0
   · subst ha
     left
     rw[List.dropWhile_cons]
     split
     · rename_i h
       have:c=48:=by simpa using h
       subst this
       rw[List.foldl_cons]
       have e:(0:Int)*10+(((48:UInt8).toNat:Int)-48)=0:=by decide
       rw[e]
       rcases Hs l 0 with h|h
       · exact h
       · exact absurd rfl h
     · rfl
   · exact .inr ha
theorem LO (l:List UInt8):lI l=lI (l.dropWhile (· ==48)):=by
 rcases Hs l 0 with h|h
 · exact h
 · exact absurd rfl h
theorem NJ:∀(l:List UInt8) (acc:Int),0 <=acc->(∀c∈l,mA c=true)->acc*10 ^ l.length <=l.foldl (λn c=>n*10+((c.toNat:Int)-48)) acc
 | [],acc,h,_=>by simp
 | c::l,acc,h,hd=>by
   have hc:=pL.1 (hd c List.mem_cons_self)
   have h1:=NJ l (acc*10+((c.toNat:Int)-48)) (by omega) λx hx=>hd x (List.mem_cons_of_mem _ hx)
   rw[List.foldl_cons]
   refine Int.le_trans ?_ h1
   rw[List.length_cons,Int.pow_succ,Int.mul_comm (10 ^ l.length) 10,<- Int.mul_assoc]
   exact Int.mul_le_mul_of_nonneg_right (by omega) (Int.pow_nonneg (by decide))
theorem Qt {l:List UInt8}(hd:∀c∈l,mA c=true)(h0:l.head?≠some 48)(hl:19 <=l.length):34560000<lI l:=by
 match l,hl with
 | c::r,hl=>
   have hc:=pL.1 (hd c List.mem_cons_self)
   have hne:c.toNat≠48:=λe=>h0 (by have:c=48:=UInt8.toNat_inj.1 e;rw[this];rfl)
   have h1:=NJ r (0*10+((c.toNat:Int)-48)) (by omega) λx hx=>hd x (List.mem_cons_of_mem _ hx)
   have h2:lI (c::r)=r.foldl (λn c=>n*10+((c.toNat:Int)-48)) (0*10+((c.toNat:Int)-48)):=rfl
   rw[h2]
   have h3:(10:Int) ^ 18 <=10 ^ r.length:=F8 (by simp at hl;omega)
   have e18:(10:Int) ^ 18=1000000000000000000:=by decide
   have h4:(1:Int)*10 ^ r.length <=(0*10+((c.toNat:Int)-48))*10 ^ r.length:=Int.mul_le_mul_of_nonneg_right (by omega) (Int.pow_nonneg (by decide))
   omega
structure Hdr where
 name:List UInt8
 value:List UInt8
 domain:List UInt8
 path:List UInt8
 hasE:Bool
 exp:Int
 hasA:Bool
 age:Int
 sec:Bool
 http:Bool
 same:Int
def Hdr.cells (h:Hdr):List Value:=[vS h.name,vS h.value,vS h.domain,vS h.path,.bool h.hasE,vI h.exp,.bool h.hasA,vI h.age,.bool h.sec,.bool h.http,vI h.same]
def Hdr.v (h:Hdr):Value:=.agg h.cells.toArray
def ED:Hdr:=⟨[],[],[],[],false,0,false,0,false,false,0⟩
def Rs (v:List UInt8):Int:=if eH v=[110,111,110,101]then 1 else if eH v=[108,97,120]then 2 else if eH v=[115,116,114,105,99,116]then 3 else 0
def Fp (h:Hdr)(key value:List UInt8):Hdr:=
 if key=[101,120,112,105,114,101,115]then(if Hi (Ek value)then{ h with hasE:=true,exp:=Nx (Ek value) } else h)
 else if key=[109,97,120,45,97,103,101]then(match UL value with|some n=> { h with hasA:=true,age:=n }|none=>h)
 else if key=[100,111,109,97,105,110]then{ h with domain:=eH (if value.head?=some 46 then value.drop 1 else value) }
 else if key=[112,97,116,104]then{ h with path:=if value.head?=some 47 then value else[] }
 else if key=[115,101,99,117,114,101]then{ h with sec:=true }
 else if key=[104,116,116,112,111,110,108,121]then{ h with http:=true }
 else if key=[115,97,109,101,115,105,116,101]then{ h with same:=Rs value }
 else h
theorem ai.put {P:Program}{u:TypeId}{bytes:Nat}{z:Value}(tf:TF P u 1 bytes z){w:World}{k:Nat}{t:TypeId}{vs:List Value}(h:ai w k t vs){i:Nat}{v:Value}(hi:i<vs.length)(h1:v.oneCell'=true)(hc:v.cells= #[v]):
   ∃w',(Instr.storeAt u (.pointer (some ⟨k,i,none⟩)) v).run P w=.ok () w'/\ai w' k t (vs.set i v)/\w.grownBy w' (some k):=by
 obtain⟨w',hs,ha,hg⟩:=h.store tf (i:=i) (v:=v) (by rw[hc];rfl) (by omega) (by rw[hc];intro c hcc;simp at hcc;subst hcc;exact h1)
 refine⟨w',hs,?_,hg⟩
 rw[hc]at ha
 have:vs.set i v=vs.take i++[v]++vs.drop (i+1):=by
   rw[List.set_eq_take_append_cons_drop,if_pos hi];simp
 rw[this];exact ha
theorem Hn (s:List UInt8)(c:UInt8)(w:World):Cf cI #[vS s,vS [c]] w (Ret λv w'=>v=.tuple #[vS (if s.head?=some c then s.drop 1 else s),.bool (decide (s.head?=some c))]/\w'=w):=by
 refine(Tryz.strings_CutPrefix (mkS s) (mkS [c]) w).mono ?_
 rintro _ _ ⟨rfl,rfl⟩
 refine⟨_,rfl,?_,rfl⟩
 have h:=tZ s c
 have e:(mkS s).data.toList=s:=rfl
 have e2:(mkS [c]).data.toList=[c]:=rfl
 rw[e,e2,h.1]
 by_cases hc:s.head?=some c
 · rw[if_pos hc]
   have h2:=h.2
   rw[if_pos hc]at h2
   rw[h2];rfl
 · rw[if_neg hc]
   have h2:=h.2
   rw[if_neg hc]at h2
   rw[h2];rfl
def VY (s:List UInt8):Value:=match UL s with|some n=>.tuple #[vI n,.bool true]|none=>.tuple #[vI 0,.bool false]
theorem FM (s:List UInt8)(hs:s.length <=10000000)(w:World):Cf si #[vS s] w (Ret λv w'=>v=VY s/\bW w w'):=by
 apply DX
 refine aB (Hn s 45 w) ?_
 rintro _ w ⟨rfl,rfl⟩
 refine⟨_,_,rfl,?_⟩
 have hl:(if s.head?=some 45 then s.drop 1 else s).length <=s.length:=by split <;> simp
 refine aB (nr _ (by omega) w) ?_
 rintro _ w1 ⟨rfl,hb1⟩
 refine⟨_,rfl,?_⟩
 by_cases h45:s.head?=some 45
 · rw[if_pos h45,decide_eq_true h45]
   unfold VY UL
   rw[if_pos h45]
   cases hd:jm (s.drop 1)
   · exact ae.yes rfl ⟨rfl,hb1⟩
   · exact ae.no rfl (ae.yes rfl ⟨rfl,hb1⟩)
 · rw[if_neg h45,decide_eq_false h45]
   unfold VY UL
   rw[if_neg h45]
   cases hd:jm s
   · exact ae.yes rfl ⟨rfl,hb1⟩
   · refine ae.no rfl (ae.no rfl ?_)
     refine(Tryz.strings_TrimLeft_one (mkS s) 48 (by decide) w1).mono ?_
     rintro _ _ ⟨rfl,rfl⟩
     have e:Lib.trimLeftB (mkS s).data.toList 48=s.dropWhile (· ==48):=rfl
     rw[e]
     refine⟨s.dropWhile (· ==48),rfl,?_⟩
     have hall:∀c∈s,mA c=true:=λc hc=>by
       unfold jm at hd
       rw[Bool.and_eq_true]at hd
       exact List.all_eq_true.1 hd.2 c hc
     have hsub:=List.dropWhile_sublist (λc:UInt8=>c==48) (l:=s)
     have hall2:∀c∈s.dropWhile (· ==48),mA c=true:=λc hc=>hall c (hsub.subset hc)
     have hhead:(s.dropWhile (· ==48)).head?≠some 48:=λe=>by
       have:=List.head?_dropWhile_not (λc:UInt8=>c==48) s
       rw[e]at this
       simp at this
     have hlen:=hsub.length_le
     have hz:=LO s
     refine aB (ns _ (by omega) _) ?_
     rintro _ w3 ⟨rfl,hb3⟩
     have hb13:=ab hb1 hb3 hb1.size
     rw[hz]
     have htrim:(s.dropWhile (· ==48)=[]) ↔ s.all (· ==48)=true:=by
       exact Sa _ s
     generalize s.dropWhile (· ==48)=t at*
     have hbd:=py t 0 (by decide) hall2
     have hge:0 <=lI t:=hbd.1
     by_cases hn:JY t
     · rw[if_pos hn]
       refine⟨_,_,rfl,ae.no rfl ?_⟩
       refine ae.of (λh=>?_) (λh=>?_) <;> simp only[gt_iff_lt,dTx,dFx]at h
       · exact⟨by rw[if_pos rfl];simp only[];rw[Int.min_eq_right (by omega)],hb13⟩
       · exact⟨by rw[if_pos rfl];simp only[];rw[Int.min_eq_left (by omega)],hb13⟩
     · rw[if_neg hn]
       refine⟨_,_,rfl,ae.yes rfl ?_⟩
       refine(Tryz.strings_Trim_one (mkS s) 48 (by decide) w3 (by show s.length <=_;omega)).mono ?_
       rintro _ w4 ⟨rfl,hw4⟩
       have hb4:bW w3 w4:=by
         rcases hw4 with rfl|rfl
         · exact Below.refl _ _
         · exact cF _
       have hb14:=ab hb13 hb4 hb13.size
       have e2:Lib.trimB (mkS s).data.toList 48=pZ (· ==48) s:=yN _ s
       rw[e2]
       refine⟨pZ (· ==48) s,rfl,?_⟩
       by_cases ht:t=[]
       · have hst:pZ (· ==48) s=[]:=(lg _ s).2 (htrim.1 ht)
         rw[hst]
         refine ae.no rfl (ae.no rfl ⟨?_,hb14⟩)
         rw[ht,if_pos rfl];rfl
       · have hst:pZ (· ==48) s≠[]:=λe=>ht (htrim.2 ((lg _ s).1 e))
         have hdt:jm t=true:=by
           unfold jm
           rw[Bool.and_eq_true]
           exact⟨by simpa using ht,List.all_eq_true.2 hall2⟩
         have hbig:34560000<lI t:=Qt hall2 hhead (by
           by_cases c:t.length <=18
           · exact absurd ⟨hdt,c,λh=>hhead h.1⟩ hn
           · omega)
         refine ae.yes (by simpa using hst) ⟨?_,hb14⟩
         rw[if_pos rfl];simp only[];rw[Int.min_eq_right (by omega)]
def adC (a:List UInt8):List Value:=a.map λc=>Value.int .u8 ((c.toNat:Nat):Int)
def adV (a:List UInt8):Value:=.agg (adC a).toArray
def ad0:List UInt8:=List.replicate 16 0
theorem iq (a:List UInt8):(adC a).length=a.length:=by simp[adC]
theorem rR (a:List UInt8):vX (adC a):=Vy a
theorem Fg (a:List UInt8)(i:Nat)(c:UInt8):(adC a).set i (.int .u8 ((c.toNat:Nat):Int))=adC (a.set i c):=by unfold adC;rw[List.map_set]
theorem M6 {a:List UInt8}{i:Nat}(h:i<a.length):(adC a)[i]? =some (.int .u8 ((a[i].toNat:Nat):Int)):=by unfold adC;rw[List.getElem?_map,List.getElem?_eq_getElem h];rfl
def adT:Option (List UInt8)->Value
 | some a=>.tuple #[adV a,.bool true]
 | none=>.tuple #[adV ad0,.bool false]
def L4 (x:List UInt8):Prop:=JY x/\lI x <=255
instance  (x:List UInt8):Decidable (L4 x):=by unfold L4;infer_instance
def ipB (x:List UInt8):UInt8:=UInt8.ofNat (lI x).toNat
def v4V (s:List UInt8):Option (List UInt8):=if(dz 46 [] s).length=4/\∀x∈dz 46 [] s,L4 x then some (List.replicate 12 0++(dz 46 [] s).map ipB)else none
theorem Vr {x:List UInt8}(h:L4 x):IntKind.u8.wrap (lI x)=(((ipB x).toNat:Nat):Int):=by
 have hd:0 <=lI x:=by
   have:=h.1.1
   unfold jm at this
   rw[Bool.and_eq_true]at this
   exact(py x 0 (by decide) (λc hc=>List.all_eq_true.1 this.2 c hc)).1
 have h2:=h.2
 rw[wrap_u8 hd h2]
 unfold ipB
 rw[UInt8.toNat_ofNat']
 omega
def v4S (L:List (List UInt8))(k:Nat):List UInt8:=List.replicate 12 0++(L.take k).map ipB++List.replicate (4-k) 0
theorem Pr {L:List (List UInt8)}(h:L.length=4){k:Nat}(hk:k <=4):(v4S L k).length=16:=by simp[v4S];omega
theorem UA {L:List (List UInt8)}(h:L.length=4){k:Nat}(hk:k<4):(v4S L k).set (12+k) (ipB (L[k]'(by omega)))=v4S L (k+1):=by
 unfold v4S
 have hl:(List.replicate 12 (0:UInt8)++(L.take k).map ipB).length=12+k:=by simp;omega
 rw[List.set_append_right _ _ (by omega),hl,Nat.sub_self,List.take_succ_eq_append_getElem (by omega),List.map_append]
 rw[show 4-k=(4-(k+1))+1 by omega,List.replicate_succ (n:=4-(k+1)),List.set_cons_zero]
 simp
theorem Xi {L:List (List UInt8)}(h:L.length=4):v4S L 4=List.replicate 12 0++L.map ipB:=by unfold v4S;rw[List.take_of_length_le (by omega)];simp
theorem VT {s:List UInt8}(h: ¬ ((dz 46 [] s).length=4/\∀x∈dz 46 [] s,L4 x)):v4V s=none:=if_neg h
theorem j7:Whl prog aH 16:=⟨⟨_,_,Kc⟩,by kernel_rfl⟩
theorem Lx (s:List UInt8)(hs:s.length<4294967281)(w:World)(he:Env w):Cf BI #[vS s] w (Ret λv w'=>v=adT (v4V s)/\bW w w'):=by
 apply J7
 intro k2 w2 hk2 hw2
 have hB2:=(hw2▸ah w _:bW w w2)
 have h2:ai w2 k2 aH (adC ad0):=ai.new hk2 hw2
 refine aB (dQ s 46 hs w2 (he.step hB2)) ?_
 rintro _ w3 ⟨a,n,c,rfl,ho,hf,hb3⟩
 have hB3:=ab hB2 hb3 hB2.size
 have h23:=h2.below hb3
 have hn:=ho.len
 have hlens:∀x∈dz 46 [] s,x.length <=s.length:=λx hx=>by simpa using jE 46 s [] x hx
 have none_end:∀{wx:World},v4V s=none->ai wx k2 aH (adC ad0)->bW w wx->_:=fun{wx} hv h2x hBx=>j7.fin (K:=λvr wy=>(.tuple #[vr,.bool false]:Value)=adT (v4V s)/\bW w wy) (cs:=adC ad0) rfl (rR _) h2x rfl hBx (by omega) λwy hb=>⟨by rw[hv];rfl,hb⟩
 refine⟨_,_,_,rfl,ae.of (λh4=>?_) (λh4=>?_)⟩
 · refine none_end (VT λhc=>?_) h23 hB3
   rw[bne_iff_ne]at h4;omega
 have hl4:(dz 46 [] s).length=4:=by simp at h4;omega
 intro k5 w5 hk5 hw5
 have hb5:=(hw5▸ah w3 _:bW w3 w5)
 have hB5:=ab hB3 hb5 hB3.size
 have h25:=h23.below hb5
 have h55:ai w5 k5 aH (adC ad0):=ai.new hk5 hw5
 have ho5:=ho.below hb5
 have hlt2:=h23.lt
 have hog:∀g,dV a=some g->g≠k5:=λg hg e=>by have:=ho.lt g hg;omega
 have hk5w:w.heap.size <=k5:=by have:=hB3.size;omega
 obtain⟨L,hL⟩:∃L,L=dz 46 [] s:=⟨_,rfl⟩
 rw[<- hL]at ho5 hl4 hlens hn
 have hv4:v4V s=if L.length=4/\∀x∈L,L4 x then some (List.replicate 12 0++L.map ipB)else none:=by rw[hL];rfl
 refine⟨λm i w'=>∃k:Nat,k <=4/\i=(k:Int)/\m=4-k/\(∀j (hj:j<k) (h:j<L.length),L4 L[j])/\ai w' k5 aH (adC (v4S L k))/\ai w' k2 aH (adC ad0)/\Ow tS ak w' NoB a n c L/\bW w w',
   ⟨_,0,by omega,rfl,rfl,λj hj=>by omega,h55,h25,ho5,hB5⟩,?_⟩
 intro m i
 refine aN.of ?_ _
 rintro w6 ⟨k,hk,rfl,rfl,hok,h56,h26,ho6,hB6⟩
 refine ae.of (λh=>?_) (λh=>?_) <;> simp only[dTx,dFx]at h
 · have hk4:k<4:=by omega
   have hkL:k<L.length:=by omega
   refine⟨⟨⟨by omega,h⟩,ho6.all.isSome (by omega)⟩,_,ho6.all.text aF hkL,?_⟩
   have hlk:=hlens L[k] (List.getElem_mem hkL)
   refine aB (ns L[k] (by omega) w6) ?_
   rintro _ w7 ⟨rfl,hb7⟩
   have hB7:=ab hB6 hb7 hB6.size
   have hnone: ¬ L4 L[k]->v4V s=none:=λhx=>by
     rw[hv4,if_neg λhc=>hx (hc.2 _ (List.getElem_mem hkL))]
   refine⟨if JY L[k]then lI L[k]else 0,if JY L[k]then true else false,by split <;> rfl,?_⟩
   refine⟨λw'=>w'=w7/\L4 L[k],?_,?_⟩
   · refine nK (B:=λJ=>ae _ (J true w7) (J _ w7)) (!decide (L4 L[k])) (ae.of (λh1=>⟨rfl,?_⟩) (λh1=>⟨rfl,?_⟩)) ?_
     · have: ¬ JY L[k]:=λhc=>by rw[if_pos hc]at h1;cases h1
       have h2: ¬ L4 L[k]:=λhc=>this hc.1
       simp[h2]
     · have hnp:JY L[k]:=Decidable.byContradiction λhc=>by rw[if_neg hc]at h1;cases h1
       rw[if_pos hnp,Bool.eq_iff_iff]
       simp[L4,hnp]
     · refine ae.of (λh1=>none_end (hnone (by simpa using h1)) (h26.below hb7) hB7) (λh1=>⟨rfl,by simpa using h1⟩)
   · refine aN.of ?_ _
     rintro wj ⟨hwj,hip⟩
     rw[hwj];clear hwj
     have e12:i64.wrap (12+(k:Int))=((12+k:Nat):Int):=by rw[wrap_i64 (by omega) (by omega)];omega
     try dsimp only
     rw[e12,oH,if_pos hip.1,Vr hip,Nat.zero_add]
     refine⟨⟨⟨by omega,by omega⟩,rfl⟩,?_⟩
     have h57:=h56.below hb7
     obtain⟨w8,hs8,h58,hg8⟩:=h57.put (P:=prog) mD (i:=12+k) (v:=.int .u8 (((ipB L[k]).toNat:Nat):Int)) (by rw[iq,Pr hl4 (by omega)];omega) rfl rfl
     rw[Fg,UA hl4 hk4]at h58
     refine⟨w8,hs8,4-(k+1),by omega,k+1,by omega,by rw[wrap_i64 (by omega) (by omega)];omega,rfl,?_,h58,(h26.below hb7).grown hg8 (mc (by omega)),(ho6.below hb7).put hog hg8,Below.put hB7 hg8 hk5w⟩
     intro j hj hjl
     by_cases e:j=k
     · subst e;exact hip
     · exact hok j (by omega) hjl
 · have:k=4:=by omega
   subst this
   have hall:∀x∈L,L4 x:=λx hx=>by
     obtain⟨j,hj,rfl⟩:=List.mem_iff_getElem.1 hx
     exact hok j (by omega) hj
   have hv:v4V s=some (v4S L 4):=by rw[hv4,if_pos ⟨hl4,hall⟩,Xi hl4]
   have hlen:(adC (v4S L 4)).length=16:=by rw[iq,Pr hl4 (by omega)]
   refine⟨_,j7.load0 h56 hlen,?_⟩
   exact j7.fin (K:=λvr wy=>(.tuple #[vr,.bool true]:Value)=adT (v4V s)/\bW w wy) hlen (rR _) h26 rfl hB6 (by omega) λwy hb=>⟨by rw[hv];rfl,hb⟩
def L1 (c:UInt8):Nat:=if 48 <=c.toNat/\c.toNat <=57 then c.toNat-48 else if 97 <=c.toNat/\c.toNat <=102 then c.toNat-87 else if 65 <=c.toNat/\c.toNat <=70 then c.toNat-55 else 16
def Cc (c:UInt8):Bool:=decide (L1 c<16)
def HI (s:List UInt8):Nat:=s.foldl (λn c=>n*16+L1 c) 0
def ls (s:List UInt8):Bool:=decide (1 <=s.length)&&decide (s.length <=4)&&s.all Cc
def i1 (s:List UInt8):List (List UInt8):=if s=[]then[]else dz 58 [] s
def at2 (s:List UInt8)(i:Nat):Prop:=s[i]? =some 58/\s[i+1]? =some 58
def e8 (s:List UInt8):Bool:=decide ((dz 58 [] s).length=8)&&(dz 58 [] s).all ls
def v6L (A B:List (List UInt8)):List Nat:=A.map HI++List.replicate (8-A.length-B.length) 0++B.map HI
def MM (gap:Bool)(A B:List (List UInt8)):Bool:=A.all ls&&B.all ls&&(if gap then decide (A.length+B.length<8)else decide (A.length+B.length=8))
def v6V (s:List UInt8):Option (List Nat):=
 if MM (Lib.cut s [58,58]).2.2 (i1 (Lib.cut s [58,58]).1) (i1 (Lib.cut s [58,58]).2.1)=true then some (v6L (i1 (Lib.cut s [58,58]).1) (i1 (Lib.cut s [58,58]).2.1))else none
theorem Wf (s:List UInt8)(i:Nat):Lib.occAt s [58,58] i=true ↔ at2 s i:=by
 unfold Lib.occAt at2
 have e0:s[i]? =(s.drop i)[0]? :=by rw[List.getElem?_drop];rfl
 have e1:s[i+1]? =(s.drop i)[1]? :=by rw[List.getElem?_drop]
 rw[e0,e1]
 generalize s.drop i=d
 match d with
 | []=>simp
 | [a]=>simp
 | a::b::r=>
   simp only[List.isPrefixOf,Bool.and_true,Bool.and_eq_true,beq_iff_eq,List.getElem?_cons_zero,List.getElem?_cons_succ,Option.some.injEq]
   exact⟨λh=>⟨h.1.symm,h.2.symm⟩,λh=>⟨h.1.symm,h.2.symm⟩⟩
theorem Qq (s:List UInt8):(Lib.cut s [58,58]=(s,[],false)/\∀i,¬ at2 s i)\/∃p,Lib.cut s [58,58]=(s.take p,s.drop (p+2),true)/\at2 s p/\(∀j,j<p-> ¬ at2 s j)/\p+2 <=s.length:=by
 rcases Lib.index_spec s [58,58]with⟨h1,h2⟩|⟨p,h1,h2,h3,h4⟩
 · refine .inl ⟨?_,λi hi=>?_⟩
   · unfold Lib.cut;rw[if_neg (by omega)]
   · by_cases hl:i <=s.length
     · have:=h2 i hl
       rw[(Wf s i).2 hi]at this;cases this
     · have:=hi.1
       rw[List.getElem?_eq_none (by omega)]at this;cases this
 · refine .inr ⟨p,?_,(Wf s p).1 h3,λj hj hc=>?_,?_⟩
   · unfold Lib.cut;rw[if_pos (by omega),h1];rfl
   · have:=h4 j hj
     rw[(Wf s j).2 hc]at this;cases this
   · have:=((Wf s p).1 h3).2
     have h5:=(List.getElem?_eq_some_iff.1 this).1
     omega
theorem VU {s:List UInt8}{g:List Nat}(h:v6V s=some g):g.length=8:=by
 unfold v6V at h
 split at h
 · rename_i hf
   rw[<- Option.some.inj h]
   unfold v6L
   unfold MM at hf
   rw[Bool.and_eq_true]at hf
   have:(i1 (Lib.cut s [58,58]).1).length+(i1 (Lib.cut s [58,58]).2.1).length <=8:=by
     have:=hf.2
     split at this
     · have:=of_decide_eq_true this;omega
     · have:=of_decide_eq_true this;omega
   simp;omega
 · cases h
theorem wE:∀(s:List UInt8) (n:Nat),s.all Cc=true->s.foldl (λn c=>n*16+L1 c) n<(n+1)*16 ^ s.length
 | [],n,_=>by simp
 | c::s,n,h=>by
   rw[List.all_cons,Bool.and_eq_true]at h
   have hc:L1 c<16:=by simpa[Cc]using h.1
   have:=wE s (n*16+L1 c) h.2
   rw[List.foldl_cons,List.length_cons,Nat.pow_succ]
   refine Nat.lt_of_lt_of_le this ?_
   rw[Nat.mul_comm (16 ^ s.length) 16,<- Nat.mul_assoc]
   exact Nat.mul_le_mul_right _ (by omega)
theorem Sf {s:List UInt8}(h:ls s=true):HI s<65536:=by
 unfold ls at h
 simp only[Bool.and_eq_true,dTx]at h
 have:=wE s 0 h.2
 have h2:16 ^ s.length <=16 ^ 4:=Nat.pow_le_pow_right (by decide) h.1.2
 unfold HI
 have h3:(16:Nat) ^ 4=65536:=rfl
 omega
def ue (l:List Nat):List UInt8:=l.flatMap λn=>[UInt8.ofNat (n/256),UInt8.ofNat (n%256)]
theorem wF:∀l:List Nat,(ue l).length=2*l.length
 | []=>rfl
 | n::l=>by
   have:=wF l
   unfold ue at this ⊢
   rw[List.flatMap_cons,List.length_append,this];simp;omega
theorem N0 (a b:List Nat):ue (a++b)=ue a++ue b:=by unfold ue;rw[List.flatMap_append]
def NZ (gs:List Nat)(k:Nat):List UInt8:=ue (gs.take k)++List.replicate (16-2*k) 0
theorem KJ {gs:List Nat}(h:gs.length=8){k:Nat}(hk:k <=8):(NZ gs k).length=16:=by
 unfold NZ;rw[List.length_append,wF,List.length_take,List.length_replicate];omega
theorem QJ {gs:List Nat}(h:gs.length=8){k:Nat}(hk:k<8):((NZ gs k).set (2*k) (UInt8.ofNat ((gs[k]'(by omega))/256))).set (2*k+1) (UInt8.ofNat ((gs[k]'(by omega))%256))=NZ gs (k+1):=by
 unfold NZ
 have hl:(ue (gs.take k)).length=2*k:=by rw[wF,List.length_take];omega
 rw[show 16-2*k=(16-2*(k+1))+1+1 by omega,List.replicate_succ (n:=16-2*(k+1)+1),List.replicate_succ (n:=16-2*(k+1))]
 rw[List.set_append_right _ _ (by omega),hl,Nat.sub_self,List.set_cons_zero,List.set_append_right _ _ (by omega),hl,show 2*k+1-2*k=0+1 by omega,List.set_cons_succ,List.set_cons_zero,
   List.take_succ_eq_append_getElem (by omega),N0]
 simp[ue]
theorem Vk {gs:List Nat}(h:gs.length=8):NZ gs 8=ue gs:=by unfold NZ;rw[List.take_of_length_le (by omega)];simp
theorem QK (x:List UInt8){j:Nat}(h:j<x.length):HI (x.take (j+1))=HI (x.take j)*16+L1 x[j]:=by
 unfold HI;rw[List.take_succ_eq_append_getElem h,List.foldl_append];rfl
theorem JI {x:List UInt8}{j:Nat}(h:∀i (hi:i<j) (h:i<x.length),Cc x[i]=true)(hj:j <=4):HI (x.take j)<65536:=by
 have ha:(x.take j).all Cc=true:=List.all_eq_true.2 λc hc=>by
   obtain⟨i,hi,rfl⟩:=List.mem_iff_getElem.1 hc
   rw[List.length_take]at hi
   rw[List.getElem_take]
   exact h i (by omega) (by omega)
 have h1:=wE (x.take j) 0 ha
 have h2:16 ^ (x.take j).length <=16 ^ 4:=Nat.pow_le_pow_right (by decide) (by rw[List.length_take];omega)
 have h3:(16:Nat) ^ 4=65536:=rfl
 unfold HI;omega
theorem Ss {n:Nat}(h:n<256):((UInt8.ofNat n).toNat:Int)=(n:Int):=by rw[UInt8.toNat_ofNat'];omega
def v6A (s:List UInt8):Option (List UInt8):=(v6V s).map ue
def Ws (o:Option (List UInt8)):Prop:=∀a,o=some a->a.length=16
theorem RY (o:Option (List UInt8)):adT o=.tuple #[adV (o.getD ad0),.bool o.isSome]:=by cases o <;> rfl
theorem RZ {o:Option (List UInt8)}(h:Ws o):(adC (o.getD ad0)).length=16:=by
 rw[iq]
 cases o with
 | none=>rfl
 | some a=>exact h a rfl
theorem UB (s:List UInt8):Ws (v6A s):=λa h=>by
 unfold v6A at h
 cases hv:v6V s with
 | none=>rw[hv]at h;cases h
 | some g=>
   rw[hv]at h
   rw[<- Option.some.inj h,wF,VU hv]
theorem VS (s:List UInt8):Ws (v4V s):=λa h=>by
 unfold v4V at h
 split at h
 · rename_i h4
   rw[<- Option.some.inj h];simp;omega
 · cases h
def Uj:Ty Int:=Xe .u16 λ_=>True
theorem QD:Flat Uj:=λ_ _ _ _ _ _ h=>h
def i16 (l:List Int):List Value:=l.map λn=>Value.int .u16 n
theorem Uc {w:World}{A:Bl}{n:Int} :Uj.rep w A [.int .u16 n] n:=⟨rfl,trivial⟩
theorem O5:∀n,n<256->Lib.indexByte [48,49,50,51,52,53,54,55,56,57,97,98,99,100,101,102] (EJ (UInt8.ofNat n))=if L1 (UInt8.ofNat n)<16 then(L1 (UInt8.ofNat n):Int)else -1:=by decide+kernel
theorem O6 (c:UInt8):Lib.indexByte [48,49,50,51,52,53,54,55,56,57,97,98,99,100,101,102] (EJ c)=if L1 c<16 then(L1 c:Int)else -1:=by
 have:=O5 c.toNat (by have:=c.toNat_lt;omega)
 rwa [UInt8.ofNat_toNat]at this
theorem XG {a d:Nat}(ha:a<4096)(hd:d<16):IntKind.u16.wrap (((BitVec.ofInt (IntKind.bits .u16) (IntKind.u16.wrap ((a:Int)*2 ^ (min (Int.toNat (4:Int)) (IntKind.bits .u16))))) ||| (BitVec.ofInt (IntKind.bits .u16) (IntKind.u16.wrap (d:Int)))).toNat:Nat)=((a*16+d:Nat):Int):=by
 have e1:(2:Int) ^ (min (Int.toNat (4:Int)) (IntKind.bits .u16))=16:=by decide
 have w16:∀n:Nat,n<65536->IntKind.u16.wrap (n:Int)=(n:Int):=λn hn=>by
   have:IntKind.u16.wrap (n:Int)=(n:Int)%65536:=rfl
   rw[this];omega
 have e2:(a:Int)*16=((a*16:Nat):Int):=by omega
 have b16:∀n:Nat,n<65536->(BitVec.ofInt (IntKind.bits .u16) (n:Int)).toNat=n:=λn hn=>by
   show(BitVec.ofInt 16 (n:Int)).toNat=n
   rw[BitVec.toNat_ofInt]
   have:((n:Int)%((2 ^ 16:Nat):Int)).toNat=n:=by
     have h:((2 ^ 16:Nat):Int)=65536:=by decide
     rw[h];omega
   exact this
 rw[e1,e2,w16 (a*16) (by omega),w16 d (by omega),BitVec.toNat_or,b16 (a*16) (by omega),b16 d (by omega)]
 have h3:a*16 ||| d=a*16+d:=by
   have:=Nat.two_pow_add_eq_or_of_lt (i:=4) hd a
   rw[Nat.mul_comm a 16];exact this.symm
 rw[h3,w16 _ (by omega)]
def ES (s:List UInt8):List Int:=(i1 s).map λx=>(HI x:Int)
theorem Fj (s:List UInt8)(hs:s.length <=9223372036854775800)(w:World):Cf r8 #[vS s] w
   (Ret λv w'=>v=(if ls s=true then .tuple #[.int .u16 (HI s:Int),.bool true]else .tuple #[.int .u16 0,.bool false])/\bW w w'):=by
 apply DP
 have bad:∀{wx:World},ls s=false->bW w wx->(.tuple #[.int .u16 0,.bool false]:Value)=(if ls s=true then .tuple #[.int .u16 (HI s:Int),.bool true]else .tuple #[.int .u16 0,.bool false])/\bW w wx:=λhg hb=>⟨by rw[hg];rfl,hb⟩
 refine wu (w:=w) (1 <=s.length/\s.length <=4) ?_ (λhl=>?_)
 · refine ae.of (λh=>bad ?_ (Below.refl _ _)) (λh=>ae.of (λh2=>bad ?_ (Below.refl _ _)) (λh2=>⟨rfl,?_⟩))
   · unfold ls;rw[decide_eq_false (by simp only[dTx]at h;omega),Bool.false_and,Bool.false_and]
   · unfold ls;rw[decide_eq_false (p:=s.length <=4) (by simp only[dTx]at h2;omega),Bool.and_false,Bool.false_and]
   · simp only[dFx]at h h2
     exact⟨by omega,by omega⟩
 refine aB (eU s hs w) ?_
 rintro _ w1 ⟨rfl,hb1⟩
 refine⟨_,rfl,?_⟩
 have ll:(eH s).length=s.length:=by simp[eH]
 obtain⟨w2,a,n,c,hr,ho,hb2,hf⟩:=mq (P:=prog) aF cg cH w1 (eH s) (by omega) NoB
 have hB2:=ab hb1 hb2 hb1.size
 have hnn:=ho.len
 subst hnn
 refine⟨w2,a,_,c,hr,?_⟩
 refine⟨λm v i w'=>∃j:Nat,j <=s.length/\i=(j:Int)/\m=s.length-j/\v=((HI (s.take j):Nat):Int)/\(∀q (hq:q<j) (h:q<s.length),Cc s[q]=true)/\w'=w2,⟨_,0,by omega,rfl,rfl,rfl,λq hq=>by omega,rfl⟩,?_⟩
 intro m v i
 refine aN.of ?_ _
 rintro w' ⟨j,hj,rfl,rfl,rfl,hx,hw'⟩
 rw[hw'];clear hw'
 rw[ll]
 refine ae.of (λh=>?_) (λh=>?_) <;> simp only[dTx,dFx]at h
 · have hlt:j<s.length:=by omega
   have hgl:=JI hx (by omega)
   have hlt':j<(eH s).length:=by omega
   obtain⟨v,hv,hrep⟩:=ho.all.load1 (i:=(j:Int)) cH rfl rfl (by simpa using hlt')
   have:=xg hrep
   subst this
   simp only[Int.toNat_natCast]at hv
   have elow:(eH s)[j]=EJ s[j]:=by simp[eH]
   rw[elow]at hv
   refine⟨⟨⟨by omega,h⟩,ho.all.isSome hlt'⟩,_,hv,?_⟩
   refine(Tryz.strings_IndexByte (mkS [48,49,50,51,52,53,54,55,56,57,97,98,99,100,101,102]) _ w2).mono ?_
   rintro _ w3 ⟨rfl,hw3⟩
   rw[hw3];clear hw3
   have e5:Lib.indexByte (mkS [48,49,50,51,52,53,54,55,56,57,97,98,99,100,101,102]).data.toList (Int.toNat (((EJ s[j]).toNat:Nat):Int)).toUInt8=if L1 s[j]<16 then(L1 s[j]:Int)else -1:=by
     rw[Int.toNat_natCast,show(EJ s[j]).toNat.toUInt8=EJ s[j] from UInt8.ofNat_toNat]
     exact O6 s[j]
   rw[e5]
   refine⟨_,rfl,?_⟩
   by_cases hh:L1 s[j]<16
   · rw[if_pos hh]
     have hhx:Cc s[j]=true:=by simpa[Cc]using hh
     have h4096:HI (s.take j)<4096:=by
       have ha:(s.take j).all Cc=true:=List.all_eq_true.2 λc hc=>by
         obtain⟨i,hi,rfl⟩:=List.mem_iff_getElem.1 hc
         rw[List.length_take]at hi
         rw[List.getElem_take]
         exact hx i (by omega) (by omega)
       have h1:=wE (s.take j) 0 ha
       have h2:16 ^ (s.take j).length <=16 ^ 3:=Nat.pow_le_pow_right (by decide) (by rw[List.length_take];omega)
       have h3:(16:Nat) ^ 3=4096:=rfl
       unfold HI;omega
     refine ae.no (by simp) ⟨by decide,s.length-(j+1),by omega,j+1,by omega,by rw[wrap_i64 (by omega) (by omega)];omega,rfl,?_,λq hq hql=>?_,rfl⟩
     · rw[XG h4096 hh,QK _ hlt]
     · by_cases e:q=j
       · subst e;exact hhx
       · exact hx q (by omega) hql
   · rw[if_neg hh]
     refine ae.yes (by decide) (bad ?_ hB2)
     unfold ls
     have:s.all Cc=false:=by
       rw[Bool.eq_false_iff]
       intro hc
       have:=List.all_eq_true.1 hc _ (List.getElem_mem hlt)
       exact hh (by simpa[Cc]using this)
     rw[this,Bool.and_false]
 · have:j=s.length:=by omega
   subst this
   have hg:ls s=true:=by
     unfold ls
     rw[decide_eq_true hl.1,decide_eq_true hl.2,Bool.true_and,Bool.true_and]
     exact List.all_eq_true.2 λc hc=>by
       obtain⟨q,hq,rfl⟩:=List.mem_iff_getElem.1 hc
       exact hx q hq hq
   rw[List.take_length,if_pos hg]
   exact⟨rfl,hB2⟩
def MZ (s:List UInt8)(w:World)(v:Value)(w':World):Prop:=
 ∃(a:Option Addr) (n c:Nat),v=.tuple #[.slice a n c,.bool ((i1 s).all ls)]/\((i1 s).all ls=true->Ow Uj gv w' NoB a n c (ES s)/\bg w.heap.size a/\(ES s=[]->a=none/\n=0/\c=0))/\((i1 s).all ls=false->n=0)/\bW w w'
theorem Bh (s:List UInt8)(hs:s.length<4294967281)(w:World)(he:Env w):Cf tT #[vS s] w (Ret (MZ s w)):=by
 apply Ik
 refine ae.of (λh=>?_) (λh=>?_)
 · have h0:s=[]:=by simpa using h
   subst h0
   exact⟨none,0,0,rfl,λ_=>⟨Ow.nil _ _ _ _,bg.none _,λ_=>⟨rfl,rfl,rfl⟩⟩,λ_=>rfl,Below.refl _ _⟩
 have hne:s≠[]:=by simpa using h
 have hrow:i1 s=dz 58 [] s:=by unfold i1;rw[if_neg hne]
 have hI:ES s=(dz 58 [] s).map λx=>(HI x:Int):=by unfold ES;rw[hrow]
 unfold MZ
 rw[hrow,hI]
 refine aB (dQ s 58 hs w he) ?_
 rintro _ w3 ⟨a,n,c,rfl,ho,hf,hb3⟩
 have hn:=ho.len
 have hlens:∀x∈dz 58 [] s,x.length <=s.length:=λx hx=>by simpa using jE 58 s [] x hx
 have hcn:=dZ 58 s []
 have hnz:=oF 58 s []
 refine⟨_,_,_,rfl,?_⟩
 generalize dz 58 [] s=L at*
 refine⟨λm a4 l4 c4 i w'=>∃k:Nat,k <=L.length/\i=(k:Int)/\m=L.length-k/\(∀j (hj:j<k) (h:j<L.length),ls L[j]=true)/\Ow Uj gv w' NoB a4 l4 c4 ((L.take k).map λx=>(HI x:Int))/\bg w3.heap.size a4/\bW w3 w',
   ⟨_,0,by omega,rfl,rfl,λj hj=>by omega,Ow.nil _ _ _ _,bg.none _,Below.refl _ _⟩,?_⟩
 intro m a4 l4 c4 i
 refine aN.of ?_ _
 rintro w6 ⟨k,hk,rfl,rfl,hok,ho4,hf4,hB6⟩
 have ho6:=ho.below hB6
 refine ae.of (λh=>?_) (λh=>?_) <;> simp only[dTx,dFx]at h
 · have hkL:k<L.length:=by omega
   have hlk:=hlens L[k] (List.getElem_mem hkL)
   refine⟨⟨⟨by omega,h⟩,ho6.all.isSome (by omega)⟩,_,ho6.all.text aF hkL,?_⟩
   refine aB (Fj L[k] (by omega) w6) ?_
   rintro _ w7 ⟨rfl,hb7⟩
   have hB7:=ab hB6 hb7 hB6.size
   by_cases hg:ls L[k]=true
   · rw[if_pos hg]
     refine⟨_,_,rfl,ae.no rfl ?_⟩
     intro k1 w8 hk1 hw8
     have ho47:=ho4.below hb7
     obtain⟨w9,a9,n9,c9,hr,ho9,hf9,hb9⟩:=Cz (ty:=eY) (w0:=w3) (cm:=1) (vs:=[_]) QD sX IC (by decide) ho47 hf4 hB7 hk1 hw8 (Uc) (by simp;omega)
     refine⟨w9,a9,n9,c9,hr,L.length-(k+1),by omega,k+1,by omega,by rw[wrap_i64 (by omega) (by omega)];omega,rfl,λj hj hjl=>?_,?_,hf9,hb9⟩
     · by_cases e:j=k
       · subst e;exact hg
       · exact hok j (by omega) hjl
     · rw[List.take_succ_eq_append_getElem hkL,List.map_append];exact ho9
   · rw[if_neg hg]
     refine⟨_,_,rfl,ae.yes rfl ?_⟩
     have hall:L.all ls=false:=by
       rw[Bool.eq_false_iff]
       intro hc
       exact hg (List.all_eq_true.1 hc _ (List.getElem_mem hkL))
     rw[hall]
     exact⟨none,0,0,rfl,(λh=>by cases h),(λ_=>rfl),ab hb3 hB7 hb3.size⟩
 · have:k=L.length:=by omega
   subst this
   have hall:L.all ls=true:=List.all_eq_true.2 λx hx=>by
     obtain⟨j,hj,rfl⟩:=List.mem_iff_getElem.1 hx
     exact hok j (by omega) hj
   rw[List.take_length]at ho4
   rw[hall]
   refine⟨a4,l4,c4,rfl,(λ_=>⟨ho4,hf4.mono hb3.size,λh0=>?_⟩),(λh=>by cases h),ab hb3 hB6 hb3.size⟩
   exact absurd (List.map_eq_nil_iff.1 h0) hnz
theorem Ob (l:List Int):vX (i16 l):=λc hc=>by
 obtain⟨x,_,rfl⟩:=List.mem_map.1 hc;rfl
theorem LV (w:World)(k:Nat):w.grownBy w (some k):=⟨rfl,rfl,rfl,Nat.le_refl _,λ_ _ _=>rfl⟩
theorem Ku {P:Program}{dT sT ty elem:TypeId}(hu:P.underlying dT=some (.slice elem))(hs:(P.info? elem).map (·.size)=some 1){w:World}{k:Nat}{T:TypeId}{vs:List Value}(h:ai w k T vs)
   {a:Option Addr} {n c:Nat} {xs:List Int} (ho:Ow Uj elem w NoB a n c xs) (hnil:xs=[]->a=none/\n=0/\c=0) {o dLen dCap:Nat} {A:Addr} (hA:xs≠[]->A=⟨k,o,none⟩) (hd:xs.length <=dLen) (hfit:o+xs.length <=vs.length):
   ∃w',(Builtin.copy_ #[dT,sT] ty #[.slice (some A) dLen dCap,.slice a n c]).run P w=.ok (vI ((xs.length:Nat):Int)) w'/\ai w' k T (vs.take o++i16 xs++vs.drop (o+xs.length))/\w.grownBy w' (some k):=by
 by_cases hx:xs=[]
 · obtain⟨rfl,rfl,rfl⟩:=hnil hx
   subst hx
   refine⟨w,run_copy_nil P w dT sT ty elem A dLen dCap hu (by rw[hs];rfl),?_,LV w k⟩
   simpa[i16]using h
 · have hn:=ho.len
   obtain⟨h1,h2,h3,h4⟩:=ho.all
   obtain⟨b,off,rfl,hb,-,l,hr,hcells⟩:=h4.resolve_left hx
   have hl:l=i16 xs:=fx (h1:=λ_=>rfl) hr
   subst hl
   rw[hA hx]
   have hln:(i16 xs).length=xs.length:=by simp[i16]
   have hsrc:∀(j:Nat) (v:Value),(i16 xs)[j]? =some v->w.cell? ((⟨b,off,none⟩:Addr).add j)=some v:=by
     intro j v hj
     have hjl:j<(i16 xs).length:=(List.getElem?_eq_some_iff.1 hj).1
     have e:(⟨b,off,none⟩:Addr).add j=⟨b,off+j,none⟩:=by unfold Addr.add;split <;> simp_all
     rw[e,hcells j hjl,hj]
   have hmin:(i16 xs).length=Nat.min n dLen:=by rw[hln,hn];exact(Nat.min_eq_left (by omega)).symm
   have hrun:=run_copy_row P w dT sT ty elem k o dLen dCap ⟨b,off,none⟩ n c vs.toArray T (i16 xs) hu hs h hmin hsrc (by rw[hln];simpa using hfit) (Ob xs)
   rw[hln]at hrun
   have hh:=setRow_heap w k vs.toArray (vs.take o++i16 xs++vs.drop (o+xs.length)).toArray T (0,0) h
   exact⟨_,hrun,hh,fw w k _⟩
theorem Kf {n:Nat} :IntKind.u8.wrap (n:Int)=(((UInt8.ofNat (n%256)).toNat:Nat):Int):=by
 have e:IntKind.u8.wrap (n:Int)=(n:Int)%256:=rfl
 try dsimp only
 rw[e,Ss (by omega)];omega
theorem Xh {n:Nat}(h:n<65536):IntKind.u8.wrap (Int.fdiv (n:Int) (2 ^ (min (Int.toNat (8:Int)) (IntKind.bits .u16))))=(((UInt8.ofNat (n/256)).toNat:Nat):Int):=by
 have e1:(2:Int) ^ (min (Int.toNat (8:Int)) (IntKind.bits .u16))=256:=by decide
 have e2:Int.fdiv (n:Int) 256=((n/256:Nat):Int):=by rw[Int.fdiv_eq_ediv_of_nonneg _ (by decide)];omega
 rw[e1,e2,wrap_u8 (by omega) (by omega),Ss (by omega)]
theorem G4 (g0 g1 g2 g3 g4 g5 g6 g7:Nat)(hb:∀g∈[g0,g1,g2,g3,g4,g5,g6,g7],g<65536)(w:World):
   Cf vd #[.agg #[.int .u16 (g0:Int),.int .u16 (g1:Int),.int .u16 (g2:Int),.int .u16 (g3:Int),.int .u16 (g4:Int),.int .u16 (g5:Int),.int .u16 (g6:Int),.int .u16 (g7:Int)]] w
     (Ret λv w'=>v=adV (ue [g0,g1,g2,g3,g4,g5,g6,g7])/\bW w w'):=by
 apply Gg
 intro k1 w1 hk1 hw1
 have hB1:=(hw1▸ah w _:bW w w1)
 have h11:ai w1 k1 aU (i16 ([g0,g1,g2,g3,g4,g5,g6,g7].map λg:Nat=>(g:Int))):=ai.new hk1 hw1
 obtain⟨G,hG⟩:∃G,G=[g0,g1,g2,g3,g4,g5,g6,g7]:=⟨_,rfl⟩
 have hl8:G.length=8:=by rw[hG];rfl
 rw[<- hG]at h11 hb ⊢
 clear hG
 intro k2 w2 hk2 hw2
 have hb2:=(hw2▸ah w1 _:bW w1 w2)
 have hB2:=ab hB1 hb2 hB1.size
 have h22:ai w2 k2 aH (adC ad0):=ai.new hk2 hw2
 intro k3 w3 hk3 hw3
 have hb3:=(hw3▸ah w2 _:bW w2 w3)
 have hB3:=ab hB2 hb3 hB2.size
 have h33:ai w3 k3 aH (adC ad0):=ai.new hk3 hw3
 have h23:=h22.below hb3
 have h13:=(h11.below hb2).below hb3
 have l1:=h11.lt
 have l2:=h22.lt
 have hk3w:w.heap.size <=k3:=by have:=hB2.size;omega
 refine⟨λm i w'=>∃k:Nat,k <=8/\i=(k:Int)/\m=8-k/\ai w' k3 aH (adC (NZ G k))/\ai w' k2 aH (adC ad0)/\ai w' k1 aU (i16 (G.map λg:Nat=>(g:Int)))/\bW w w',
   ⟨_,0,by omega,rfl,rfl,h33,h23,h13,hB3⟩,?_⟩
 intro m i
 refine aN.of ?_ _
 rintro w6 ⟨k,hk,rfl,rfl,h36,h26,h16,hB6⟩
 refine ae.of (λh=>?_) (λh=>?_) <;> simp only[dTx,dFx]at h
 · have hk8:k<8:=by omega
   have hgk:=hb G[k] (List.getElem_mem (by omega))
   have e1:i64.wrap (2*(k:Int))=((2*k:Nat):Int):=by rw[wrap_i64 (by omega) (by omega)];omega
   have e2:i64.wrap (((2*k:Nat):Int)+1)=((2*k+1:Nat):Int):=by rw[wrap_i64 (by omega) (by omega)];omega
   rw[e1,e2,oH,oH,oH]
   simp only[Nat.zero_add]
   have hin:(0 <=(k:Int)/\(k:Int)<((8:Nat):Int))/\True:=⟨⟨by omega,by omega⟩,trivial⟩
   have hin1:(0 <=((2*k:Nat):Int)/\((2*k:Nat):Int)<((16:Nat):Int))/\True:=⟨⟨by omega,by omega⟩,trivial⟩
   have hin2:(0 <=((2*k+1:Nat):Int)/\((2*k+1:Nat):Int)<((16:Nat):Int))/\True:=⟨⟨by omega,by omega⟩,trivial⟩
   have hd:bW w (World.drew w6):=ab hB6 (qL rfl rfl rfl (Nat.le_refl _) (λ_ _=>rfl)) hB6.size
   have d3:ai (World.drew w6) k3 aH (adC (NZ G k)):=h36
   have d2:ai (World.drew w6) k2 aH (adC ad0):=h26
   have d1:ai (World.drew w6) k1 aU (i16 (G.map λg:Nat=>(g:Int))):=h16
   have hget:(i16 (G.map λg:Nat=>(g:Int)))[k]? =some (.int .u16 ((G[k]'(by omega):Nat):Int)):=by
     unfold i16
     rw[List.getElem?_map,List.getElem?_map,List.getElem?_eq_getElem (by omega)];rfl
   have ld:∀{wx:World},ai wx k1 aU (i16 (G.map λg:Nat=>(g:Int)))->(Instr.loadAt gv (.pointer (some ⟨k1,k,none⟩))).run prog wx=.ok (.int .u16 ((G[k]'(by omega):Nat):Int)) wx:=λhx=>hx.load1 C6 rfl hget
   have hlen:=KJ hl8 hk
   obtain⟨w8,hs8,h58,hg8⟩:=d3.put (P:=prog) mD (i:=2*k) (v:=.int .u8 (((UInt8.ofNat (G[k]/256)).toNat:Nat):Int)) (by rw[iq,hlen];omega) rfl rfl
   rw[Fg]at h58
   have d18:=d1.grown hg8 (mc (by omega))
   obtain⟨w9,hs9,h59,hg9⟩:=h58.put (P:=prog) mD (i:=2*k+1) (v:=.int .u8 (((UInt8.ofNat (G[k]%256)).toNat:Nat):Int)) (by rw[iq,List.length_set,hlen];omega) rfl rfl
   rw[Fg,QJ hl8 hk8]at h59
   have hfin:∃m':Nat,m'<8-k/\∃k':Nat,k' <=8/\i64.wrap ((k:Int)+1)=(k':Int)/\m'=8-k'/\ai w9 k3 aH (adC (NZ G k'))/\ai w9 k2 aH (adC ad0)/\ai w9 k1 aU (i16 (G.map λg:Nat=>(g:Int)))/\bW w w9:=
     ⟨8-(k+1),by omega,k+1,by omega,by rw[wrap_i64 (by omega) (by omega)];omega,rfl,h59,(d2.grown hg8 (mc (by omega))).grown hg9 (mc (by omega)),d18.grown hg9 (mc (by omega)),Below.put (Below.put hd hg8 hk3w) hg9 hk3w⟩
   rw[<- Xh hgk]at hs8
   rw[<- Kf]at hs9
   refine⟨hin,hin,⟨_,ld d1,by decide,hin1,⟨_,ld d1,w8,hs8,hin2,w9,hs9,hfin⟩,w8,hs8,_,ld d18,hin2,w9,hs9,hfin⟩,_,ld d1,_,ld d1,by decide,hin1,w8,hs8,hin2,w9,hs9,hfin⟩
 · have:k=8:=by omega
   subst this
   have hlen:(adC (NZ G 8)).length=16:=by rw[iq,KJ hl8 (by omega)]
   refine⟨_,j7.load0 h36 hlen,?_⟩
   exact j7.fin (K:=λvr wy=>vr=adV (ue G)/\bW w wy) hlen (rR _) h26 rfl hB6 (by omega) λwy hb=>⟨by rw[Vk hl8];rfl,hb⟩
theorem yU:Whl prog aU 8:=⟨⟨_,_,Ei⟩,by kernel_rfl⟩
theorem Ly (s:List UInt8)(hs:s.length<4294967281)(w:World)(he:Env w):Cf BJ #[vS s] w (Ret λv w'=>v=adT (v6A s)/\bW w w'):=by
 apply J8
 intro k2 w2 hk2 hw2
 have hB2:=(hw2▸ah w _:bW w w2)
 have h2:ai w2 k2 aH (adC ad0):=ai.new hk2 hw2
 obtain⟨m,hm⟩:=(he.step hB2).max
 refine(Tryz.strings_Cut (mkS s) (mkS [58,58]) m w2 hs hm).mono ?_
 rintro _ w3 ⟨rfl,q,rfl⟩
 have hb3:bW w2 (w2.drewN q):=qL rfl rfl rfl (Nat.le_refl _) (λ_ _=>rfl)
 have hB3:=ab hB2 hb3 hB2.size
 have h23:=h2.below hb3
 have hlen:(Lib.cut s [58,58]).1.length <=s.length/\(Lib.cut s [58,58]).2.1.length <=s.length:=by
   rcases Qq s with⟨h1,-⟩|⟨p,h1,-⟩ <;> rw[h1]
   · exact⟨Nat.le_refl _,Nat.zero_le _⟩
   · exact⟨by rw[List.length_take];omega,by rw[List.length_drop];omega⟩
 have hv6:v6A s=(if MM (Lib.cut s [58,58]).2.2 (i1 (Lib.cut s [58,58]).1) (i1 (Lib.cut s [58,58]).2.1)=true then some (v6L (i1 (Lib.cut s [58,58]).1) (i1 (Lib.cut s [58,58]).2.1))else none).map ue:=rfl
 show ∃(s15_0:List UInt8) (s15_1:List UInt8) (b15_2:Bool),(Ending.returned (.tuple #[.string (mkS (Lib.cut s [58,58]).1),.string (mkS (Lib.cut s [58,58]).2.1),.bool (Lib.cut s [58,58]).2.2]):Ending)=.returned (.tuple #[vS s15_0,vS s15_1,.bool b15_2])/\_
 generalize Lib.cut s [58,58]=C at*
 obtain⟨f,b,g⟩:=C
 refine⟨f,b,g,rfl,?_⟩
 have hlf:f.length <=s.length:=hlen.1
 have hlb:b.length <=s.length:=hlen.2
 have hv:v6A s=(if MM g (i1 f) (i1 b)=true then some (v6L (i1 f) (i1 b))else none).map ue:=hv6
 clear hv6 hlen
 refine aB (Bh f (by omega) _ (he.step hB3)) ?_
 rintro _ w4 ⟨a4,n4,c4,rfl,hok4,hno4,hb4⟩
 have hB4:=ab hB3 hb4 hB3.size
 refine⟨_,_,_,_,rfl,?_⟩
 refine aB (Bh b (by omega) w4 (he.step hB4)) ?_
 rintro _ w5 ⟨a5,n5,c5,rfl,hok5,hno5,hb5⟩
 have hB5:=ab hB4 hb5 hB4.size
 have h25:=(h23.below hb4).below hb5
 refine⟨_,_,_,_,rfl,?_⟩
 have hrl:∀t:List UInt8,(i1 t).length <=t.length+1:=λt=>by
   unfold i1
   split
   · simp
   · exact dZ 58 t []
 have hIl:∀t:List UInt8,(ES t).length=(i1 t).length:=λt=>by simp[ES]
 have hrf:=hrl f
 have hrb:=hrl b
 have hn4:(i1 f).all ls=true->n4=(i1 f).length:=λh=>by rw[<- hIl];exact(hok4 h).1.len
 have hn5:(i1 b).all ls=true->n5=(i1 b).length:=λh=>by rw[<- hIl];exact(hok5 h).1.len
 have none_end:∀{wx:World},MM g (i1 f) (i1 b)=false->ai wx k2 aH (adC ad0)->bW w wx->_:=fun{wx} hf h2x hBx=>j7.fin (K:=λvr wy=>(.tuple #[vr,.bool false]:Value)=adT (v6A s)/\bW w wy) (cs:=adC ad0) rfl (rR _) h2x rfl hBx (by omega) λwy hb=>⟨by rw[hv,hf];rfl,hb⟩
 refine wu (w:=w5) (MM g (i1 f) (i1 b)=true) ?_ (λhfit=>?_)
 · refine⟨λx w'=>w'=w5/\x= !(MM g (i1 f) (i1 b)),?_,?_⟩
   · refine ae.of (λh1=>⟨rfl,?_⟩) (λh1=>?_)
     · have h1':(i1 f).all ls=false:=by simpa only[Bool.not_eq_true']using h1
       unfold MM;rw[h1',Bool.false_and,Bool.false_and];rfl
     have h1':(i1 f).all ls=true:=by simpa only[Bool.not_eq_false']using h1
     refine ae.of (λh2=>⟨rfl,?_⟩) (λh2=>?_)
     · have h2':(i1 b).all ls=false:=by simpa only[Bool.not_eq_true']using h2
       unfold MM;rw[h2',Bool.and_false,Bool.false_and];rfl
     have h2':(i1 b).all ls=true:=by simpa only[Bool.not_eq_false']using h2
     have ef:MM g (i1 f) (i1 b)=if g then decide ((i1 f).length+(i1 b).length<8)else decide ((i1 f).length+(i1 b).length=8):=by unfold MM;rw[h1',h2',Bool.and_self,Bool.true_and]
     rw[ef,hn4 h1',hn5 h2',wrap_i64 (by omega) (by omega)]
     cases g with
     | true=>
       refine ae.yes rfl (ae.of (λh3=>⟨rfl,?_⟩) (λh3=>ae.no rfl ⟨rfl,?_⟩)) <;> simp at h3 ⊢ <;> omega
     | false=>
       refine ae.no rfl (ae.yes rfl ⟨rfl,?_⟩)
       rw[Bool.eq_iff_iff];simp;omega
   · intro x
     refine aN.of ?_ _
     rintro wj ⟨hwj,hx⟩
     rw[hwj,hx];clear hwj hx
     exact ae.of (λh1=>none_end (by simpa only[Bool.not_eq_true']using h1) h25 hB5) (λh1=>⟨rfl,by simpa only[Bool.not_eq_false']using h1⟩)
 · have hf2:=hfit
   unfold MM at hf2
   rw[Bool.and_eq_true,Bool.and_eq_true]at hf2
   obtain⟨⟨ga,gb⟩,gl⟩:=hf2
   have hl8:(i1 f).length+(i1 b).length <=8:=by
     split at gl
     · have:=of_decide_eq_true gl;omega
     · have:=of_decide_eq_true gl;omega
   obtain⟨ho4,hf4,hz4⟩:=hok4 ga
   obtain⟨ho5,hf5,hz5⟩:=hok5 gb
   rw[hn5 gb]
   intro k12 w12 hk12 hw12
   have hb12:=(hw12▸ah w5 _:bW w5 w12)
   have hB12:=ab hB5 hb12 hB5.size
   have h12:ai w12 k12 aU (i16 [0,0,0,0,0,0,0,0]):=ai.new hk12 hw12
   have ho42:=(ho4.below hb5).below hb12
   have ho52:=ho5.below hb12
   have og4:∀g,dV a4=some g->g≠k12:=λg hg e=>by have:=ho4.lt g hg;have:=hb5.size;omega
   have og5:∀g,dV a5=some g->g≠k12:=λg hg e=>by have:=ho5.lt g hg;omega
   have hk12w:w.heap.size <=k12:=by have:=hB5.size;omega
   have l2:=h25.lt
   obtain⟨w6,hr6,h16,hg6⟩:=Ku (P:=prog) (sT:=eY) (ty:=aP) (dLen:=8) (dCap:=8) (o:=0) (A:=⟨k12,0,none⟩) sX (by kernel_rfl) h12 ho42 hz4 (λ_=>rfl) (by rw[hIl];omega) (by rw[hIl];simp[i16];omega)
   have e5:Int.toNat (i64.wrap ((8:Int)-(((i1 b).length:Nat):Int)))=8-(i1 b).length:=by rw[wrap_i64 (by omega) (by omega)];omega
   have e5':i64.wrap ((8:Int)-(((i1 b).length:Nat):Int))=((8-(i1 b).length:Nat):Int):=by rw[wrap_i64 (by omega) (by omega)];omega
   refine⟨trivial,w6,_,hr6,⟨by rw[e5'];omega,by rw[e5'];omega⟩,?_⟩
   rw[e5]
   have ho56:=ho52.put og5 hg6
   have hlen16:(List.take 0 (i16 [0,0,0,0,0,0,0,0])++i16 (ES f)++List.drop (0+(ES f).length) (i16 [0,0,0,0,0,0,0,0])).length=8:=by
     have:=hIl f
     simp[i16];omega
   obtain⟨w7,hr7,h17,hg7⟩:=Ku (P:=prog) (sT:=eY) (ty:=aP) (dLen:=8-(8-(i1 b).length)) (dCap:=8-(8-(i1 b).length)) (o:=8-(i1 b).length) (A:=if 8=8-(i1 b).length then⟨k12,0,none⟩ else Addr.add ⟨k12,0,none⟩ ((8-(i1 b).length)*1)) sX (by kernel_rfl) h16 ho56 hz5
     (λhne=>by
       have:(i1 b).length≠0:=λe=>hne (List.length_eq_zero_iff.1 (by rw[hIl];exact e))
       rw[if_neg (by omega)]
       unfold Addr.add;split <;> simp_all) (by rw[hIl];omega) (by rw[hIl,hlen16];omega)
   rw[hn5 gb]at hr7
   refine⟨w7,_,hr7,?_⟩
   obtain⟨G,hG⟩:∃G,G=v6L (i1 f) (i1 b):=⟨_,rfl⟩
   have hGl:G.length=8:=by rw[hG];simp[v6L];omega
   have hGb:∀x∈G,x<65536:=λx hx=>by
     rw[hG]at hx
     unfold v6L at hx
     rcases List.mem_append.1 hx with hx|hx
     · rcases List.mem_append.1 hx with hx|hx
       · obtain⟨y,hy,rfl⟩:=List.mem_map.1 hx;exact Sf (List.all_eq_true.1 ga y hy)
       · rw[(List.mem_replicate.1 hx).2];decide
     · obtain⟨y,hy,rfl⟩:=List.mem_map.1 hx;exact Sf (List.all_eq_true.1 gb y hy)
   have hcells:(List.take 0 (i16 [0,0,0,0,0,0,0,0])++i16 (ES f)++List.drop (0+(ES f).length) (i16 [0,0,0,0,0,0,0,0])).take (8-(i1 b).length)++i16 (ES b)++(List.take 0 (i16 [0,0,0,0,0,0,0,0])++i16 (ES f)++List.drop (0+(ES f).length) (i16 [0,0,0,0,0,0,0,0])).drop (8-(i1 b).length+(ES b).length)=i16 (G.map λx:Nat=>(x:Int)):=by
     have hz:i16 [0,0,0,0,0,0,0,0]=List.replicate 8 (Value.int .u16 0):=rfl
     rw[hz,List.take_zero,List.nil_append,List.drop_replicate,hIl,hIl,Nat.zero_add,hG]
     rw[show 8-(i1 b).length+(i1 b).length=8 by omega,List.drop_eq_nil_of_le (by simp[i16,ES];omega),List.append_nil]
     rw[List.take_append,List.take_of_length_le (by simp[i16,ES];omega),List.take_replicate]
     have e1:min (8-(i1 b).length-(i16 (ES f)).length) (8-(i1 f).length)=8-(i1 f).length-(i1 b).length:=by
       have:(i16 (ES f)).length=(i1 f).length:=by simp[i16,ES]
       omega
     rw[e1]
     unfold v6L i16 ES
     simp
     rfl
   rw[hcells]at h17
   have hB7:=Below.put (Below.put hB12 hg6 hk12w) hg7 hk12w
   have h27:=((h25.below hb12).grown hg6 (mc (by omega))).grown hg7 (mc (by omega))
   have hvG:v6A s=some (ue G):=by rw[hv,hfit,hG];rfl
   clear hG hcells hlen16
   match G,hGl,hGb,h17,hvG with
   | [g0,g1,g2,g3,g4,g5,g6,g7],_,hGb,h17,hvG=>
     refine⟨_,_,_,_,_,_,_,_,yU.load0 h17 rfl,?_⟩
     refine aB (G4 g0 g1 g2 g3 g4 g5 g6 g7 hGb w7) ?_
     rintro _ w8 ⟨rfl,hb8⟩
     have hB8:=ab hB7 hb8 hB7.size
     refine⟨_,rfl,?_⟩
     exact j7.fin (K:=λvr wy=>(.tuple #[vr,.bool true]:Value)=adT (v6A s)/\bW w wy) (by rw[iq];exact UB s _ hvG) (rR _) (h27.below hb8) rfl hB8 (by omega) λwy hb=>⟨by rw[hvG];rfl,hb⟩
abbrev R8 (n:Nat):List UInt8:=Lib.decDigits n
theorem KS {n:Nat} :Lib.itoa (n:Int)=R8 n:=by unfold Lib.itoa;rw[if_neg (by omega)];rfl
theorem Ky {n:Nat}(h:n <=9223372036854775807):(R8 n).length <=21:=by rw[<- KS];exact Lib.itoa_length_le n (by omega) (by omega)
def Lh (a:List UInt8):List UInt8:=Lib.join ((a.drop 12).map λc=>R8 c.toNat) [46]
theorem Cg (xs:List (List UInt8))(c:UInt8)(M:Nat)(h:∀x∈xs,x.length <=M):(Lib.join xs [c]).length <=xs.length*(M+1):=by
 cases xs with
 | nil=>simp[Lib.join_nil]
 | cons x r=>
   rw[Lib.join_cons]
   have:∀r:List (List UInt8),(∀x∈r,x.length <=M)->(Lib.joinTail [c] r).length <=r.length*(M+1):=by
     intro r
     induction r with
     | nil=>intro _;simp[Lib.joinTail]
     | cons y r ih=>
       intro hr
       have h1:=ih λx hx=>hr x (List.mem_cons_of_mem _ hx)
       have h2:=hr y List.mem_cons_self
       have e:Lib.joinTail [c] (y::r)=[c]++y++Lib.joinTail [c] r:=by simp[Lib.joinTail]
       rw[e]
       simp only[List.length_append,List.length_cons,List.length_nil,Nat.add_mul];omega
   have h1:=this r λy hy=>h y (List.mem_cons_of_mem _ hy)
   have h2:=h x List.mem_cons_self
   simp only[List.length_append,List.length_cons,Nat.add_mul];omega
theorem FZ {w:World}{A:Bl}{a:Option Addr}{n c:Nat}{xs:List (List UInt8)}(ho:Sl tS w A a n c xs)(sep:List UInt8)(hx:xs.length <=140737488355328)(hl:(Lib.join xs sep).length <=140737488355328):
   Cf dN #[.slice a n c,vS sep] w (Ret λv w'=>v=vS (Lib.join xs sep)/\bW w w'):=by
 obtain⟨hn,hnc,hcm,h4⟩:=ho
 subst hn
 rcases h4 with h4|⟨b,off,rfl,hbl,_,cs,hcs,hcell⟩
 · subst h4
   refine(Tryz.strings_Join_none a c (mkS sep) w).mono ?_
   rintro _ _ ⟨rfl,rfl⟩
   exact⟨_,rfl,rfl,Below.refl _ _⟩
 · have he:=fx hcs
   have e:(xs.map mkS).map (λs=>s.data.toList)=xs:=by rw[List.map_map];exact List.map_id xs
   have hj:=Tryz.strings_Join b off c (xs.map mkS) (mkS sep) w (λj x hx=>by
     rw[List.getElem?_map]at hx
     cases hxj:xs[j]? with
     | none=>rw[hxj]at hx;cases hx
     | some y=>
       rw[hxj]at hx
       cases hx
       have hjl:=(List.getElem?_eq_some_iff.1 hxj).1
       rw[hcell j (by rw[he];simpa using hjl),he,List.getElem?_map,hxj];rfl) hbl (by rw[List.length_map];omega) (by rw[List.length_map];exact hnc) (by
       rw[e];exact hl)
   rw[List.length_map]at hj
   refine hj.mono ?_
   rintro _ w' ⟨rfl,hb'⟩
   rw[e]
   exact⟨_,rfl,rfl,hb'⟩
theorem Tz (n:Nat)(h:n <=9223372036854775807)(w:World)(he:Env w):Cf o4 #[vI (n:Int)] w (Ret λv w'=>v=vS (R8 n)/\bW w w'):=by
 refine(Tryz.strconv_Itoa n (by omega) (by omega) w he.tab).mono ?_
 rintro _ _ ⟨rfl,k,os,rfl⟩
 rw[KS]
 exact⟨_,rfl,rfl,vb w k os⟩
theorem Fh (a:List UInt8)(ha:a.length=16)(w:World)(he:Env w):Cf rY #[adV a] w (Ret λv w'=>v=vS (Lh a)/\bW w w'):=by
 apply DN
 intro k1 w1 hk1 hw1
 have hB1:=(hw1▸ah w _:bW w w1)
 have h1:ai w1 k1 aH (adC a):=ai.new hk1 hw1
 have e12:(if 16=(Int.toNat (12:Int))then(⟨k1,0,none⟩:Addr)else Addr.add ⟨k1,0,none⟩ ((Int.toNat (12:Int))*1))=⟨k1,12,none⟩:=by
   rw[if_neg (by decide)];unfold Addr.add;split <;> simp_all
 have e4:(16-(Int.toNat (12:Int)):Nat)=4:=rfl
 rw[e12,e4]
 refine⟨⟨by decide,by decide⟩,?_⟩
 refine⟨λm a3 l3 c3 i w'=>∃k:Nat,k <=4/\i=(k:Int)/\m=4-k/\Ow tS ak w' NoB a3 l3 c3 (((a.drop 12).take k).map λc=>R8 c.toNat)/\bg w1.heap.size a3/\bW w1 w',
   ⟨_,0,by omega,rfl,rfl,Ow.nil _ _ _ _,bg.none _,Below.refl _ _⟩,?_⟩
 intro m a3 l3 c3 i
 refine aN.of ?_ _
 rintro w2 ⟨k,hk,rfl,rfl,ho2,hf2,hB2⟩
 have hl4:(a.drop 12).length=4:=by rw[List.length_drop];omega
 refine ae.of (λh=>?_) (λh=>?_) <;> simp only[dTx,dFx]at h
 · have hk4:k<4:=by omega
   rw[oH]
   have hu:=Em (a[12+k]'(by omega))
   refine⟨⟨⟨by omega,h⟩,rfl⟩,_,(h1.below hB2).load1 cH rfl (M6 (i:=12+k) (by omega)),?_⟩
   rw[wrap_i64 (by omega) (by omega)]
   refine aB (Tz _ (by omega) w2 ((he.step hB1).step hB2)) ?_
   rintro _ w3 ⟨rfl,hb3⟩
   have hB3:=ab hB2 hb3 hB2.size
   refine⟨_,rfl,?_⟩
   intro k4 w4 hk4' hw4
   have hll:(((a.drop 12).take k).map λc=>R8 c.toNat).length <=4:=by simp;omega
   obtain⟨w5,a5,n5,c5,hr,ho5,hf5,hb5⟩:=Cz (ty:=aw) (w0:=w1) (cm:=1) (vs:=[_]) (jS _) bG eG (by decide) (ho2.below hb3) hf2 hB3 hk4' hw4 (qO trivial) (by omega)
   refine⟨w5,a5,n5,c5,hr,4-(k+1),by omega,k+1,by omega,by rw[wrap_i64 (by omega) (by omega)];omega,rfl,?_,hf5,hb5⟩
   rw[List.take_succ_eq_append_getElem (by omega),List.map_append]
   have:(a.drop 12)[k]'(by omega)=a[12+k]'(by omega):=by rw[List.getElem_drop]
   rw[this];exact ho5
 · have:k=4:=by omega
   subst this
   rw[List.take_of_length_le (by omega)]at ho2
   have hlen:(Lh a).length <=4*(21+1):=by
     have:=Cg ((a.drop 12).map λc=>R8 c.toNat) 46 21 (λx hx=>by
       obtain⟨c,_,rfl⟩:=List.mem_map.1 hx
       have:=Em c
       exact Ky (by omega))
     rw[List.length_map,hl4]at this
     exact this
   refine aB (FZ ho2.all [46] (by rw[List.length_map];omega) (Nat.le_trans hlen (by decide))) ?_
   rintro _ w3 ⟨rfl,hb3⟩
   have hB3:=ab hB2 hb3 hB2.size
   exact⟨_,rfl,rfl,ab hB1 hB3 hB1.size⟩
def QN (d:Nat):UInt8:=UInt8.ofNat (if d<10 then 48+d else 87+d)
def Dz (n:Nat):List UInt8:=if n<16 then[QN n]else Dz (n/16)++[QN (n%16)]
termination_by n
theorem FN {n:Nat}(h:n<16):Dz n=[QN n]:=by rw[Dz,if_pos h]
theorem su {n:Nat}(h: ¬ n<16):Dz n=Dz (n/16)++[QN (n%16)]:=by rw[Dz,if_neg h]
theorem KL {n:Nat}(h:n<65536):(Dz n).length <=4:=by
 have step:∀m M:Nat,(m/16<M->(Dz (m/16)).length <=3)->True:=λ_ _ _=>trivial
 have l1:∀n,n<16->(Dz n).length=1:=λn h=>by rw[FN h];rfl
 have l2:∀n,n<256->(Dz n).length <=2:=λn h=>by
   by_cases c:n<16
   · rw[l1 n c];omega
   · rw[su c,List.length_append,l1 (n/16) (by omega)];simp
 have l3:∀n,n<4096->(Dz n).length <=3:=λn h=>by
   by_cases c:n<16
   · rw[l1 n c];omega
   · have:=l2 (n/16) (by omega)
     rw[su c,List.length_append];simp;omega
 by_cases c:n<16
 · rw[l1 n c];omega
 · have:=l3 (n/16) (by omega)
   rw[su c,List.length_append];simp;omega
def WI:List UInt8:=[48,49,50,51,52,53,54,55,56,57,97,98,99,100,101,102,103,104,105,106,107,108,109,110,111,112,113,114,115,116,117,118,119,120,121,122]
theorem Ht:∀d:Nat,d<16->eF WI (d:Int)=(((QN d).toNat:Nat):Int):=by decide
theorem u64_in {n:Int}(h0:0 <=n)(h1:n<18446744073709551616):IntKind.u64.wrap n=n:=by
 have e:IntKind.u64.wrap n=n%18446744073709551616:=rfl
 try dsimp only
 rw[e];omega
theorem Wu {u:Nat}(h:u<65536):IntKind.u64.wrap (((BitVec.ofInt (IntKind.bits .u64) (u:Int)) &&& (BitVec.ofInt (IntKind.bits .u64) (IntKind.u64.wrap ((IntKind.u64.wrap (16:Int))-(1:Int))))).toNat:Nat)=((u%16:Nat):Int):=by
 have e15:IntKind.u64.wrap ((IntKind.u64.wrap (16:Int))-(1:Int))=((15:Nat):Int):=by decide
 have b64:∀n:Nat,n<65536->(BitVec.ofInt (IntKind.bits .u64) (n:Int)).toNat=n:=λn hn=>by
   show(BitVec.ofInt 64 (n:Int)).toNat=n
   rw[BitVec.toNat_ofInt]
   have h:((2 ^ 64:Nat):Int)=18446744073709551616:=by decide
   rw[h];omega
 rw[e15,BitVec.toNat_and,b64 u h,b64 15 (by decide)]
 have:u &&& 15=u%16:=Nat.and_two_pow_sub_one_eq_mod u 4
 rw[this,u64_in (by omega) (by omega)]
theorem XH {u:Nat} :Int.fdiv (u:Int) (2 ^ (min (Int.toNat (IntKind.u64.wrap (4:Int))) (IntKind.bits .u64)))=((u/16:Nat):Int):=by
 have e1:(2:Int) ^ (min (Int.toNat (IntKind.u64.wrap (4:Int))) (IntKind.bits .u64))=16:=by decide
 try dsimp only
 rw[e1,Int.fdiv_eq_ediv_of_nonneg _ (by decide)];omega
theorem R0 (k o j:Nat):Addr.add ⟨k,o,none⟩ j=⟨k,o+j,none⟩:=by unfold Addr.add;split <;> simp_all
theorem ai.sl8 {w:World}{k:Nat}{T:TypeId}{p xs:List UInt8}(h:ai w k T (adC (p++xs)))(hl:xs.length <=maxLen):Sl tU8 w uc (some ⟨k,p.length,none⟩) xs.length xs.length xs:=by
 refine⟨rfl,Nat.le_refl _,hl,.inr ⟨k,p.length,rfl,h.lt,trivial,adC xs,mj (λ_ _=>trivial),λj hj=>?_⟩⟩
 rw[h.cell]
 unfold adC
 rw[List.map_append,List.getElem?_append_right (by simp)]
 simp
theorem rU (w:World)(he:Env w):Cf fy #[.int .u64 (IntKind.u64.wrap (16:Int))] w (Ret λv w'=>v=vI 4/\w'=w):=by
 have e16:IntKind.u64.wrap (16:Int)=16:=by decide
 try dsimp only
 rw[e16]
 apply nv
 refine aB (K:=λv w'=>v=vI 4/\w'=w) ?_ ?_
 · apply lP
   refine ae.no (by decide) ⟨by decide,⟨⟨by decide+kernel,by decide+kernel⟩,rfl⟩,4,?_,rfl,rfl⟩
   have hE:∀E:Int,E=15->(Instr.loadAt bX (.pointer (am (some ⟨5,0,none⟩) E 1))).run prog w=.ok (.int .u8 4) w:=by
     rintro _ rfl
     exact gE cH rfl he.tz
   exact hE _ (by decide+kernel)
 · rintro _ w1 ⟨rfl,hw⟩
   exact⟨_,rfl,rfl,hw⟩
theorem FH (n:Nat)(hn:n<65536)(w:World)(he:Env w):Cf ez #[.slice none 0 0,.int .u64 (n:Int),vI 16,.bool false,.bool false] w
   (Ret λv w'=>v=.tuple #[.slice none 0 0,vS (Dz n)]/\bW w w'):=by
 apply kO
 refine wu (w:=w) True ?_ (λ_=>?_)
 · refine⟨λb w'=>w'=w/\b=false,ae.no (by decide) (ae.no (by decide) ⟨rfl,by decide⟩),λb=>aN.of ?_ _⟩
   rintro wj ⟨hw,hb⟩
   rw[hw,hb]
   exact ae.no rfl ⟨rfl,trivial⟩
 intro k w1 hk hw1
 have hB1:=(hw1▸ah w _:bW w w1)
 have h1:ai w1 k mn (adC (List.replicate 65 0++[])):=ai.new hk hw1
 have hk0:w.heap.size <=k:=by omega
 refine Wb (w:=w1) (n:Int) (ae.no rfl ⟨rfl,rfl⟩) ?_
 refine⟨λi w'=>∃xs:List UInt8,i=((65-xs.length:Nat):Int)/\xs=Dz n/\ai w' k mn (adC (List.replicate (65-xs.length) 0++xs))/\bW w w',?_,λi=>aN.of ?_ _⟩
 · refine aB (K:=λv w'=>v=.bool true/\w'=w1) ?_ ?_
   · apply jZ
     exact⟨congrArg Value.bool (by decide+kernel),rfl⟩
   rintro _ w2 ⟨rfl,hw2⟩
   rw[hw2]
   refine⟨_,rfl,ae.yes rfl ?_⟩
   refine aB (rU w1 (he.step hB1)) ?_
   rintro _ w3 ⟨rfl,hw3⟩
   rw[hw3]
   refine⟨_,rfl,?_⟩
   refine⟨λm u i w'=>∃(q t:Nat) (xs:List UInt8),u=(q:Int)/\m=q/\t=xs.length/\i=((65-t:Nat):Int)/\Dz n=Dz q++xs/\q*16 ^ t <=65535/\(t=0\/0<q)/\ai w' k mn (adC (List.replicate (65-t) 0++xs))/\bW w w',
     ⟨_,n,0,[],rfl,rfl,rfl,rfl,by rw[List.append_nil],by omega,.inl rfl,h1,hB1⟩,?_⟩
   intro m u i
   refine aN.of ?_ _
   rintro w4 ⟨q,t,xs,rfl,hm,rfl,rfl,hx,hq,ht,h4,hB4⟩
   obtain rfl:q=m:=hm.symm
   have ht3:xs.length <=3:=by
     rcases ht with h0|h0
     · omega
     · refine Decidable.byContradiction λhc=>?_
       have h16:16 ^ 4 <=16 ^ xs.length:=Nat.pow_le_pow_right (by decide) (by omega)
       have:16 ^ xs.length <=q*16 ^ xs.length:=Nat.le_mul_of_pos_left _ h0
       have e:(16:Nat) ^ 4=65536:=rfl
       omega
   have hq6:q<65536:=by
     have:q <=q*16 ^ xs.length:=Nat.le_mul_of_pos_right _ (Nat.pos_of_ne_zero (by simp))
     omega
   have e16:IntKind.u64.wrap (16:Int)=16:=by decide
   have ei:i64.wrap (((65-xs.length:Nat):Int)-1)=((65-(xs.length+1):Nat):Int):=by rw[wrap_i64 (by omega) (by omega)];omega
   have hset:∀c:UInt8,(adC (List.replicate (65-xs.length) 0++xs)).set (65-(xs.length+1)) (.int .u8 ((c.toNat:Nat):Int))=adC (List.replicate (65-(xs.length+1)) 0++(c::xs)):=λc=>by
     rw[Fg,show 65-xs.length=(65-(xs.length+1))+1 by omega,List.replicate_succ' (n:=65-(xs.length+1)),List.append_assoc,List.set_append_right _ _ (by simp),List.length_replicate,Nat.sub_self];rfl
   have hput:=λc:UInt8=>h4.put (P:=prog) mD (i:=65-(xs.length+1)) (v:=.int .u8 ((c.toNat:Nat):Int)) (by rw[iq];simp;omega) rfl rfl
   rw[ei,oH,Nat.zero_add]
   have hin:(0 <=((65-(xs.length+1):Nat):Int)/\((65-(xs.length+1):Nat):Int)<((65:Nat):Int))/\true=true:=⟨⟨by omega,by omega⟩,rfl⟩
   refine ae.of (λh=>?_) (λh=>?_)
   · rw[e16]at h
     simp only[ge_iff_le,dTx]at h
     have hq16:16 <=q:=by omega
     rw[Wu hq6,XH,show eF [48,49,50,51,52,53,54,55,56,57,97,98,99,100,101,102,103,104,105,106,107,108,109,110,111,112,113,114,115,116,117,118,119,120,121,122] ((q%16:Nat):Int)=_ from Ht (q%16) (by omega)]
     obtain⟨w5,hs5,h5,hg5⟩:=hput (QN (q%16))
     rw[hset]at h5
     refine⟨⟨by omega,by simp;omega⟩,hin,w5,hs5,by decide,q/16,by omega,q/16,xs.length+1,QN (q%16)::xs,rfl,rfl,by simp,rfl,?_,?_,.inr (by omega),h5,Below.put hB4 hg5 hk0⟩
     · rw[hx,su (n:=q) (by omega)];simp
     · have e:q/16*16 ^ (xs.length+1)=(q/16*16)*16 ^ xs.length:=by rw[Nat.pow_succ,Nat.mul_comm (16 ^ xs.length) 16,Nat.mul_assoc]
       rw[e]
       exact Nat.le_trans (Nat.mul_le_mul_right _ (by omega)) hq
   · rw[e16]at h
     simp only[ge_iff_le,dFx]at h
     have hq16:q<16:=by omega
     rw[show eF [48,49,50,51,52,53,54,55,56,57,97,98,99,100,101,102,103,104,105,106,107,108,109,110,111,112,113,114,115,116,117,118,119,120,121,122] (q:Int)=_ from Ht q hq16]
     obtain⟨w5,hs5,h5,hg5⟩:=hput (QN q)
     rw[hset]at h5
     refine⟨⟨by omega,by simp;omega⟩,hin,w5,hs5,QN q::xs,rfl,?_,h5,Below.put hB4 hg5 hk0⟩
     rw[hx,FN hq16];rfl
 · rintro w5 ⟨xs,rfl,hxs,h5,hB5⟩
   have hl:=KL hn
   rw[<- hxs]at hl
   refine Wb (w:=w5) ((65-xs.length:Nat):Int) (ae.no rfl ⟨rfl,rfl⟩) ?_
   refine ae.no rfl ⟨⟨by omega,by omega⟩,?_⟩
   have hpos:0<xs.length:=by
     rw[hxs]
     by_cases c:n<16
     · rw[FN c];exact Nat.one_pos
     · rw[su c];simp
   have ea:(if 65=(Int.toNat ((65-xs.length:Nat):Int))then(⟨k,0,none⟩:Addr)else Addr.add ⟨k,0,none⟩ ((Int.toNat ((65-xs.length:Nat):Int))*1))=⟨k,(List.replicate (65-xs.length) (0:UInt8)).length,none⟩:=by
     rw[List.length_replicate,Int.toNat_natCast,if_neg (by omega),R0,Nat.zero_add,Nat.mul_one]
   have en:65-(Int.toNat ((65-xs.length:Nat):Int))=xs.length:=by rw[Int.toNat_natCast];omega
   rw[ea,en]
   refine⟨xs,vL cg aF cH (h5.sl8 (by unfold maxLen;omega)),?_⟩
   rw[hxs]
   exact⟨rfl,hB5⟩
theorem FI (n:Nat)(hn:n<65536)(w:World)(he:Env w):Cf iY #[.int .u64 (n:Int),vI 16] w (Ret λv w'=>v=vS (Dz n)/\bW w w'):=by
 apply rM
 refine aB (K:=λv w'=>v=vS (Dz n)/\bW w w') ?_ ?_
 · apply kN
   refine ae.no (by decide) ?_
   refine aB (FH n hn w he) ?_
   rintro _ w1 ⟨rfl,hb1⟩
   exact⟨_,_,_,_,rfl,rfl,hb1⟩
 · rintro _ w1 ⟨rfl,hb1⟩
   exact⟨_,rfl,rfl,hb1⟩
def BS (a:List UInt8)(k:Nat):Nat:=(a.getD (2*k) 0).toNat*256+(a.getD (2*k+1) 0).toNat
def gL (a:List UInt8):List Nat:=[BS a 0,BS a 1,BS a 2,BS a 3,BS a 4,BS a 5,BS a 6,BS a 7]
theorem HE (a:List UInt8):(gL a).length=8:=rfl
theorem Tm (a:List UInt8)(k:Nat):BS a k<65536:=by
 have h1:=Em (a.getD (2*k) 0);have h2:=Em (a.getD (2*k+1) 0)
 unfold BS;omega
theorem Sc (a:List UInt8):∀(k:Nat) (h:k<(gL a).length),(gL a)[k]=BS a k
 | 0,_=>rfl
 | 1,_=>rfl
 | 2,_=>rfl
 | 3,_=>rfl
 | 4,_=>rfl
 | 5,_=>rfl
 | 6,_=>rfl
 | 7,_=>rfl
 | n+8,h=>by rw[HE]at h;omega
theorem LR (a:List UInt8):∀x∈gL a,x<65536:=λx hx=>by
 obtain⟨i,hi,rfl⟩:=List.mem_iff_getElem.1 hx
 rw[Sc];exact Tm a i
def wrL (l:List Nat):List UInt8:=Lib.join (l.map Dz) [58]
theorem yX {l:List Nat}(h:∀x∈l,x<65536):(wrL l).length <=l.length*5:=by
 have:=Cg (l.map Dz) 58 4 (λx hx=>by
   obtain⟨c,hc,rfl⟩:=List.mem_map.1 hx
   exact KL (h c hc))
 rwa [List.length_map]at this
def zst (s:Nat×Nat×Nat)(i:Nat)(z:Bool):Nat×Nat×Nat:=
 if s.2.1<(if z=true then s.2.2+1 else 0)then(i+1-(if z=true then s.2.2+1 else 0),(if z=true then s.2.2+1 else 0),(if z=true then s.2.2+1 else 0))else(s.1,s.2.1,(if z=true then s.2.2+1 else 0))
def nI (zs:List Bool):Nat->Nat×Nat×Nat
 | 0=>(0,0,0)
 | k+1=>zst (nI zs k) k (zs.getD k false)
def eV (zs:List Bool):Nat×Nat:=((nI zs 8).1,(nI zs 8).2.1)
def VZ (zs:List Bool)(p l:Nat):Bool:=(List.range l).all λj=>zs.getD (p+j) false
def zok (zs:List Bool):Bool:=
 decide ((eV zs).1+(eV zs).2 <=8)&&(decide ((eV zs).2<2) || VZ zs (eV zs).1 (eV zs).2) &&
   (List.range 9).all λL=>(List.range 9).all λA=> !(decide (2 <=L)&&decide (A+L <=8)&&VZ zs A L) || (decide (L<(eV zs).2) || (decide (L=(eV zs).2)&&decide ((eV zs).1 <=A)))
theorem UG:∀b0 b1 b2 b3 b4 b5 b6 b7:Bool,zok [b0,b1,b2,b3,b4,b5,b6,b7]=true:=by decide+kernel
theorem MG {zs:List Bool}(h:zs.length=8):(eV zs).1+(eV zs).2 <=8/\(2 <=(eV zs).2->VZ zs (eV zs).1 (eV zs).2=true)/\
   ∀L A,2 <=L->A+L <=8->VZ zs A L=true->L<(eV zs).2\/(L=(eV zs).2/\(eV zs).1 <=A):=by
 match zs,h with
 | [b0,b1,b2,b3,b4,b5,b6,b7],_=>
   have:=UG b0 b1 b2 b3 b4 b5 b6 b7
   unfold zok at this
   rw[Bool.and_eq_true,Bool.and_eq_true]at this
   obtain⟨⟨h1,h2⟩,h3⟩:=this
   refine⟨of_decide_eq_true h1,λhl=>?_,λL A hL hA hz=>?_⟩
   · rw[Bool.or_eq_true,dTx]at h2
     exact h2.resolve_left (by omega)
   · have:=List.all_eq_true.1 (List.all_eq_true.1 h3 L (List.mem_range.2 (by omega))) A (List.mem_range.2 (by omega))
     rw[decide_eq_true hL,decide_eq_true hA,hz]at this
     simpa using this
theorem IY (zs:List Bool):∀k,(nI zs k).2.2 <=k/\(nI zs k).2.1 <=k/\(nI zs k).1 <=k
 | 0=>⟨Nat.le_refl _,Nat.le_refl _,Nat.le_refl _⟩
 | k+1=>by
   obtain⟨h1,h2,h3⟩:=IY zs k
   unfold nI zst
   cases zs.getD k false <;> simp only[Bool.false_eq_true,if_false,if_true] <;> split <;> simp <;> omega
def zsA (a:List UInt8):List Bool:=(gL a).map (· ==0)
theorem UH (a:List UInt8):(zsA a).length=8:=rfl
def Iu (a:List UInt8):List UInt8:=
 if(eV (zsA a)).2<2 then wrL (gL a)else wrL ((gL a).take (eV (zsA a)).1)++[58,58]++wrL ((gL a).drop ((eV (zsA a)).1+(eV (zsA a)).2))
theorem W4 {a d:Nat}(ha:a<256)(hd:d<256):IntKind.u16.wrap (((BitVec.ofInt (IntKind.bits .u16) (IntKind.u16.wrap ((IntKind.u16.wrap (a:Int))*2 ^ (min (Int.toNat (8:Int)) (IntKind.bits .u16))))) ||| (BitVec.ofInt (IntKind.bits .u16) (IntKind.u16.wrap (d:Int)))).toNat:Nat)=((a*256+d:Nat):Int):=by
 have e1:(2:Int) ^ (min (Int.toNat (8:Int)) (IntKind.bits .u16))=256:=by decide
 have w16:∀n:Nat,n<65536->IntKind.u16.wrap (n:Int)=(n:Int):=λn hn=>by
   have:IntKind.u16.wrap (n:Int)=(n:Int)%65536:=rfl
   rw[this];omega
 have e2:(a:Int)*256=((a*256:Nat):Int):=by omega
 have b16:∀n:Nat,n<65536->(BitVec.ofInt (IntKind.bits .u16) (n:Int)).toNat=n:=λn hn=>by
   show(BitVec.ofInt 16 (n:Int)).toNat=n
   rw[BitVec.toNat_ofInt]
   have h:((2 ^ 16:Nat):Int)=65536:=by decide
   rw[h];omega
 rw[e1,w16 a (by omega),e2,w16 (a*256) (by omega),w16 d (by omega),BitVec.toNat_or,b16 (a*256) (by omega),b16 d (by omega)]
 have h3:a*256 ||| d=a*256+d:=by
   have:=Nat.two_pow_add_eq_or_of_lt (i:=8) hd a
   rw[Nat.mul_comm a 256];exact this.symm
 rw[h3,w16 _ (by omega)]
def DD (l:List Nat):List Value:=i16 (l.map λx:Nat=>(x:Int))
theorem FR (l:List Nat):(DD l).length=l.length:=by simp[DD,i16]
theorem KP (l:List Nat):vX (DD l):=Ob _
theorem QO (l:List Nat)(i x:Nat):(DD l).set i (.int .u16 (x:Int))=DD (l.set i x):=by unfold DD i16;rw[List.map_set,List.map_set]
theorem FQ {l:List Nat}{i:Nat}(h:i<l.length):(DD l)[i]? =some (.int .u16 ((l[i]:Nat):Int)):=by
 unfold DD i16;rw[List.getElem?_map,List.getElem?_map,List.getElem?_eq_getElem h];rfl
theorem ai.sl16 {w:World}{k:Nat}{T:TypeId}{l:List Nat}(h:ai w k T (DD l)){o n c:Nat}{A:Addr}(hA:0<n->A=⟨k,o,none⟩)(hn:o+n <=l.length)(hc:n <=c)(hm:c <=maxLen):Sl Uj w uc (some A) n c (((l.drop o).take n).map λx:Nat=>(x:Int)):=by
 have hl:(((l.drop o).take n).map λx:Nat=>(x:Int)).length=n:=by simp;omega
 refine⟨hl.symm,hc,hm,?_⟩
 by_cases h0:0<n
 · refine .inr ⟨k,o,by rw[hA h0],h.lt,trivial,DD ((l.drop o).take n),mj (h1:=λ_=>rfl) (λ_ _=>trivial),λj hj=>?_⟩
   rw[FR]at hj
   have hj2:j<n:=by rw[List.length_take]at hj;omega
   rw[h.cell,FQ (by omega),FQ hj]
   simp
 · exact .inl (List.length_eq_zero_iff.1 (by omega))
theorem Dt (a:List UInt8)(ha:a.length=16)(w:World):Cf qo #[adV a] w (Ret λv w'=>v=.agg (DD (gL a)).toArray/\bW w w'):=by
 apply CC
 intro k1 w1 hk1 hw1
 have hB1:=(hw1▸ah w _:bW w w1)
 have h11:ai w1 k1 aH (adC a):=ai.new hk1 hw1
 intro k2 w2 hk2 hw2
 have hb2:=(hw2▸ah w1 _:bW w1 w2)
 have hB2:=ab hB1 hb2 hB1.size
 have h22:ai w2 k2 aU (DD [0,0,0,0,0,0,0,0]):=ai.new hk2 hw2
 intro k3 w3 hk3 hw3
 have hb3:=(hw3▸ah w2 _:bW w2 w3)
 have hB3:=ab hB2 hb3 hB2.size
 have h33:ai w3 k3 aU (DD [0,0,0,0,0,0,0,0]):=ai.new hk3 hw3
 have h23:=h22.below hb3
 have h13:=(h11.below hb2).below hb3
 have l1:=h11.lt
 have l2:=h22.lt
 have hk3w:w.heap.size <=k3:=by have:=hB2.size;omega
 refine⟨λm i w'=>∃k:Nat,k <=8/\i=(k:Int)/\m=8-k/\ai w' k3 aU (DD ((gL a).take k++List.replicate (8-k) 0))/\ai w' k2 aU (DD [0,0,0,0,0,0,0,0])/\ai w' k1 aH (adC a)/\bW w w',
   ⟨_,0,by omega,rfl,rfl,h33,h23,h13,hB3⟩,?_⟩
 intro m i
 refine aN.of ?_ _
 rintro w6 ⟨k,hk,rfl,rfl,h36,h26,h16,hB6⟩
 refine ae.of (λh=>?_) (λh=>?_) <;> simp only[dTx,dFx]at h
 · have hk8:k<8:=by omega
   have e1:i64.wrap (2*(k:Int))=((2*k:Nat):Int):=by rw[wrap_i64 (by omega) (by omega)];omega
   have e2:i64.wrap (((2*k:Nat):Int)+1)=((2*k+1:Nat):Int):=by rw[wrap_i64 (by omega) (by omega)];omega
   rw[e1,e2,oH,oH,oH]
   simp only[Nat.zero_add]
   have hin:(0 <=(k:Int)/\(k:Int)<((8:Nat):Int))/\True:=⟨⟨by omega,by omega⟩,trivial⟩
   have hin1:(0 <=((2*k:Nat):Int)/\((2*k:Nat):Int)<((16:Nat):Int))/\True:=⟨⟨by omega,by omega⟩,trivial⟩
   have hin2:(0 <=((2*k+1:Nat):Int)/\((2*k+1:Nat):Int)<((16:Nat):Int))/\True:=⟨⟨by omega,by omega⟩,trivial⟩
   have ld:∀(i:Nat) (hi:i<a.length) (u:World),bW w6 u->(Instr.loadAt bX (.pointer (some ⟨k1,i,none⟩))).run prog u=.ok (.int .u8 ((a[i].toNat:Nat):Int)) u:=λi hi u hu=>(h16.below hu).load1 cH rfl (M6 hi)
   refine⟨hin1,_,ld _ (by omega),by decide,hin2,_,ld _ (by omega),hin,?_⟩
   intro wq hq
   have hd:=ab hB6 hq hB6.size
   have d3:=h36.below hq
   have d2:=h26.below hq
   have d1:=h16.below hq
   have hval:(a[2*k]'(by omega)).toNat*256+(a[2*k+1]'(by omega)).toNat=BS a k:=by
     unfold BS
     rw[List.getD_eq_getElem?_getD,List.getD_eq_getElem?_getD,List.getElem?_eq_getElem (by omega),List.getElem?_eq_getElem (by omega)];rfl
   have hor:=W4 (a:=(a[2*k]'(by omega)).toNat) (d:=(a[2*k+1]'(by omega)).toNat) (by have:=Em (a[2*k]'(by omega));omega) (by have:=Em (a[2*k+1]'(by omega));omega)
   rw[hval]at hor
   have hgl:=HE a
   have hlen:((gL a).take k++List.replicate (8-k) 0).length=8:=by simp[hgl];omega
   obtain⟨w8,hs8,h58,hg8⟩:=d3.put (P:=prog) IC (i:=k) (v:=.int .u16 ((BS a k:Nat):Int)) (by rw[FR,hlen];omega) rfl rfl
   have hset:((gL a).take k++List.replicate (8-k) 0).set k (BS a k)=(gL a).take (k+1)++List.replicate (8-(k+1)) 0:=by
     have hl:((gL a).take k).length=k:=by rw[List.length_take,hgl];omega
     rw[List.set_append_right _ _ (by omega),hl,Nat.sub_self,show 8-k=(8-(k+1))+1 by omega,List.replicate_succ (n:=8-(k+1)),List.set_cons_zero,List.take_succ_eq_append_getElem (by omega),Sc,List.append_assoc];rfl
   rw[QO,hset]at h58
   rw[<- hor]at hs8
   have hfin:∃m':Nat,m'<8-k/\∃k':Nat,k' <=8/\i64.wrap ((k:Int)+1)=(k':Int)/\m'=8-k'/\ai w8 k3 aU (DD ((gL a).take k'++List.replicate (8-k') 0))/\ai w8 k2 aU (DD [0,0,0,0,0,0,0,0])/\ai w8 k1 aH (adC a)/\bW w w8:=
     ⟨8-(k+1),by omega,k+1,by omega,by rw[wrap_i64 (by omega) (by omega)];omega,rfl,h58,d2.grown hg8 (mc (by omega)),d1.grown hg8 (mc (by omega)),Below.put hd hg8 hk3w⟩
   exact⟨w8,hs8,hfin⟩
 · have:k=8:=by omega
   subst this
   have e8:(gL a).take 8++List.replicate (8-8) 0=gL a:=by rw[List.take_of_length_le (by rw[HE];exact Nat.le_refl _)];simp
   rw[e8]at h36
   have hlen:(DD (gL a)).length=8:=by rw[FR];rfl
   obtain⟨w7,hs7,h27,hg7⟩:=yU.store0 hlen (KP _) h26 rfl
   refine⟨_,_,_,_,_,_,_,_,yU.load0 h36 hlen,w7,hs7,_,_,_,_,_,_,_,_,ai.res (yU.load0 h27 hlen),rfl,Below.put hB6 hg7 (by omega)⟩
theorem mJ {w:World}{A:Bl}{a:Option Addr}{n c:Nat}{l:List Nat}(hs:Sl Uj w uc a n c (l.map λx:Nat=>(x:Int)))(hl:l.length <=8)(hb:∀x∈l,x<65536)(he:Env w):
   Cf i7 #[.slice a n c] w (Ret λv w'=>v=vS (wrL l)/\bW w w'):=by
 apply z8
 have hn:=hs.len
 rw[List.length_map]at hn
 refine⟨λm a3 l3 c3 i w'=>∃k:Nat,k <=l.length/\i=(k:Int)/\m=l.length-k/\Ow tS ak w' NoB a3 l3 c3 ((l.take k).map Dz)/\bg w.heap.size a3/\bW w w',
   ⟨_,0,by omega,rfl,rfl,Ow.nil _ _ _ _,bg.none _,Below.refl _ _⟩,?_⟩
 intro m a3 l3 c3 i
 refine aN.of ?_ _
 rintro w2 ⟨k,hk,rfl,rfl,ho2,hf2,hB2⟩
 refine ae.of (λh=>?_) (λh=>?_) <;> simp only[dTx,dFx]at h
 · have hkl:k<l.length:=by omega
   have hs2:=hs.below hB2
   obtain⟨v,hv,hrep⟩:=hs2.load1 (i:=(k:Int)) C6 rfl rfl (by simp;omega)
   simp only[Int.toNat_natCast,List.getElem_map]at hv hrep
   obtain⟨hv',-⟩:=hrep
   obtain rfl:=(List.cons.inj hv').1
   have hgk:=hb l[k] (List.getElem_mem hkl)
   refine⟨⟨⟨by omega,h⟩,hs2.isSome (by simp;omega)⟩,_,hv,?_⟩
   rw[u64_in (by omega) (by omega)]
   refine aB (FI _ hgk w2 (he.step hB2)) ?_
   rintro _ w3 ⟨rfl,hb3⟩
   have hB3:=ab hB2 hb3 hB2.size
   refine⟨_,rfl,?_⟩
   intro k4 w4 hk4' hw4
   have hll:((l.take k).map Dz).length <=8:=by simp;omega
   obtain⟨w5,a5,n5,c5,hr,ho5,hf5,hb5⟩:=Cz (ty:=aw) (w0:=w) (cm:=1) (vs:=[_]) (jS _) bG eG (by decide) (ho2.below hb3) hf2 hB3 hk4' hw4 (qO trivial) (by omega)
   refine⟨w5,a5,n5,c5,hr,l.length-(k+1),by omega,k+1,by omega,by rw[wrap_i64 (by omega) (by omega)];omega,rfl,?_,hf5,hb5⟩
   rw[List.take_succ_eq_append_getElem hkl,List.map_append]
   exact ho5
 · have:k=l.length:=by omega
   subst this
   rw[List.take_length]at ho2
   have hlen:=yX hb
   refine aB (FZ ho2.all [58] (by rw[List.length_map];omega) (by show(wrL l).length <=_;omega)) ?_
   rintro _ w3 ⟨rfl,hb3⟩
   exact⟨_,rfl,rfl,ab hB2 hb3 hB2.size⟩
theorem Fk (g0 g1 g2 g3 g4 g5 g6 g7:Nat)(w:World):
   Cf r9 #[.agg #[.int .u16 (g0:Int),.int .u16 (g1:Int),.int .u16 (g2:Int),.int .u16 (g3:Int),.int .u16 (g4:Int),.int .u16 (g5:Int),.int .u16 (g6:Int),.int .u16 (g7:Int)]] w
     (Ret λv w'=>v=.tuple #[vI ((eV ([g0,g1,g2,g3,g4,g5,g6,g7].map (· ==0))).1:Int),vI ((eV ([g0,g1,g2,g3,g4,g5,g6,g7].map (· ==0))).2:Int)]/\bW w w'):=by
 apply DQ
 intro k1 w1 hk1 hw1
 have hB1:=(hw1▸ah w _:bW w w1)
 have h11:ai w1 k1 aU (DD [g0,g1,g2,g3,g4,g5,g6,g7]):=ai.new hk1 hw1
 obtain⟨G,hG⟩:∃G,G=[g0,g1,g2,g3,g4,g5,g6,g7]:=⟨_,rfl⟩
 have hl8:G.length=8:=by rw[hG];rfl
 rw[<- hG]at h11 ⊢
 clear hG
 refine⟨λm p lo ru i w'=>∃k:Nat,k <=8/\i=(k:Int)/\m=8-k/\p=((nI (G.map (· ==0)) k).1:Int)/\lo=((nI (G.map (· ==0)) k).2.1:Int)/\ru=((nI (G.map (· ==0)) k).2.2:Int)/\w'=w1,⟨_,0,by omega,rfl,rfl,rfl,rfl,rfl,rfl⟩,?_⟩
 intro m p lo ru i
 refine aN.of ?_ _
 rintro w2 ⟨k,hk,rfl,rfl,rfl,rfl,rfl,hw2⟩
 rw[hw2];clear hw2
 obtain⟨b1,b2,b3⟩:=IY (G.map (· ==0)) k
 refine ae.of (λh=>?_) (λh=>?_) <;> simp only[dTx,dFx]at h
 · have hk8:k<G.length:=by omega
   have hzk:(G.map (· ==0)).getD k false=(G[k]==0):=by
     rw[List.getD_eq_getElem?_getD,List.getElem?_map,List.getElem?_eq_getElem hk8];rfl
   rw[oH,Nat.zero_add]
   have ew:i64.wrap ((k:Int)+1)=((k+1:Nat):Int):=by rw[wrap_i64 (by omega) (by omega)];omega
   try dsimp only
   rw[ew]
   refine Wb (B:=λJ=>_/\∃n15:Int,_/\ae (n15 !=0) (J 0 w1) (J _ w1)) ((if(G[k]==0)=true then(nI (G.map (· ==0)) k).2.2+1 else 0:Nat):Int) ⟨⟨⟨by omega,by omega⟩,rfl⟩,_,h11.load1 C6 rfl (FQ hk8),ae.of (λh2=>⟨rfl,?_⟩) (λh2=>⟨rfl,?_⟩)⟩ ?_
   · rw[if_neg (by simp at h2 ⊢;omega)];rfl
   · rw[if_pos (by simp at h2 ⊢;omega),wrap_i64 (by omega) (by omega)];omega
   · have hz:nI (G.map (· ==0)) (k+1)=zst (nI (G.map (· ==0)) k) k (G[k]==0):=by rw[<- hzk];rfl
     have hru:(if(G[k]==0)=true then(nI (G.map (· ==0)) k).2.2+1 else 0) <=k+1:=by split <;> omega
     unfold zst at hz
     generalize (if(G[k]==0)=true then(nI (G.map (· ==0)) k).2.2+1 else 0)=ru at*
     refine ae.of (λh2=>?_) (λh2=>?_) <;> simp only[gt_iff_lt,dTx,dFx]at h2
     · rw[if_pos (by omega)]at hz
       refine⟨8-(k+1),by omega,k+1,by omega,rfl,rfl,?_,?_,?_,rfl⟩
       · rw[hz,wrap_i64 (by omega) (by omega)];show _=((k+1-ru:Nat):Int);omega
       · rw[hz]
       · rw[hz]
     · rw[if_neg (by omega)]at hz
       exact⟨8-(k+1),by omega,k+1,by omega,rfl,rfl,by rw[hz],by rw[hz],by rw[hz],rfl⟩
 · have:k=8:=by omega
   subst this
   exact⟨rfl,hB1⟩
theorem Fi (a:List UInt8)(ha:a.length=16)(w:World)(he:Env w):Cf rZ #[adV a] w (Ret λv w'=>v=vS (Iu a)/\bW w w'):=by
 apply DO
 intro k1 w1 hk1 hw1
 have hB1:=(hw1▸ah w _:bW w w1)
 have h11:ai w1 k1 aH (adC a):=ai.new hk1 hw1
 refine⟨_,j7.load0 h11 (by rw[iq,ha]),?_⟩
 refine aB (Dt a ha w1) ?_
 rintro _ w2 ⟨rfl,hb2⟩
 have hB2:=ab hB1 hb2 hB1.size
 refine⟨_,_,_,_,_,_,_,_,rfl,?_⟩
 refine yU.new (zs:=DD [0,0,0,0,0,0,0,0]) (cs:=DD (gL a)) rfl rfl (KP _) w2 λk3 w3 hk3 h3 hb3=>?_
 have hB3:=ab hB2 hb3 hB2.size
 refine⟨_,_,_,_,_,_,_,_,yU.load0 h3 rfl,?_⟩
 refine aB (Fk (BS a 0) (BS a 1) (BS a 2) (BS a 3) (BS a 4) (BS a 5) (BS a 6) (BS a 7) w3) ?_
 rintro _ w4 ⟨rfl,hb4⟩
 have hB4:=ab hB3 hb4 hB3.size
 have h4:=h3.below hb4
 have hz:=MG (UH a)
 show ∃n10_0 n10_1:Int,(Ending.returned (.tuple #[vI ((eV (zsA a)).1:Int),vI ((eV (zsA a)).2:Int)]):Ending)=.returned (.tuple #[vI n10_0,vI n10_1])/\_
 have ht:Iu a=if(eV (zsA a)).2<2 then wrL (gL a)else wrL ((gL a).take (eV (zsA a)).1)++[58,58]++wrL ((gL a).drop ((eV (zsA a)).1+(eV (zsA a)).2)):=rfl
 rw[ht];clear ht
 generalize eV (zsA a)=Z at*
 obtain⟨p,lo⟩:=Z
 have hsum:p+lo <=8:=hz.1
 refine⟨(p:Int),(lo:Int),rfl,?_⟩
 show ae _ _ _
 have hgl:=HE a
 refine ae.of (λh=>?_) (λh=>?_) <;> simp only[dTx,dFx]at h
 · rw[if_pos (show lo<2 by omega)]
   have hs:=h4.sl16 (o:=0) (n:=8) (c:=8) (A:=⟨k3,0,none⟩) (λ_=>rfl) (by rw[hgl];omega) (Nat.le_refl _) (by unfold maxLen;omega)
   have e8:((gL a).drop 0).take 8=gL a:=by rw[List.drop_zero,List.take_of_length_le (by omega)]
   rw[e8]at hs
   refine⟨trivial,?_⟩
   refine aB (mJ (A:=uc) hs (by omega) (LR a) (he.step hB4)) ?_
   rintro _ w5 ⟨rfl,hb5⟩
   exact⟨_,rfl,rfl,ab hB4 hb5 hB4.size⟩
 · rw[if_neg (show ¬ lo<2 by omega)]
   have e1:i64.wrap ((p:Int)+(lo:Int))=((p+lo:Nat):Int):=by rw[wrap_i64 (by omega) (by omega)];omega
   try dsimp only
   rw[e1]
   simp only[Int.toNat_natCast]
   have hb1:∀x∈(gL a).take p,x<65536:=λx hx=>LR a x (List.mem_of_mem_take hx)
   have hb2':∀x∈(gL a).drop (p+lo),x<65536:=λx hx=>LR a x (List.mem_of_mem_drop hx)
   have l1:=yX hb1
   have l2:=yX hb2'
   rw[List.length_take]at l1
   rw[List.length_drop]at l2
   refine⟨⟨by omega,by omega⟩,wrL ((gL a).take p),λu hu=>?_,fits (by simp;omega),?_⟩
   · have hs:=(h4.below hu).sl16 (o:=0) (n:=p) (c:=8) (A:=⟨k3,0,none⟩) (λ_=>rfl) (by rw[hgl];omega) (by omega) (by unfold maxLen;omega)
     rw[List.drop_zero]at hs
     exact jY (mJ (A:=uc) hs (by rw[List.length_take];omega) hb1 ((he.step hB4).step hu)) hu
   rintro _ rfl
   refine⟨⟨by omega,by omega⟩,wrL ((gL a).drop (p+lo)),λu hu=>?_,fits (by simp;omega),?_⟩
   · have hs:=(h4.below hu).sl16 (o:=p+lo) (n:=8-(p+lo)) (c:=8-(p+lo)) (A:=if 8=p+lo then⟨k3,0,none⟩ else Addr.add ⟨k3,0,none⟩ ((p+lo)*1)) (λhpos=>by rw[if_neg (by omega),R0,Nat.zero_add,Nat.mul_one]) (by rw[hgl];omega) (Nat.le_refl _) (by unfold maxLen;omega)
     rw[List.take_of_length_le (by rw[List.length_drop];omega)]at hs
     exact jY (mJ (A:=uc) hs (by rw[List.length_drop];omega) hb2' ((he.step hB4).step hu)) hu
   rintro _ rfl
   intro wq hwq
   exact⟨by simp only[List.append_assoc],ab hB4 hwq hB4.size⟩
def eqV (P:Program):Nat->TypeId->Value->Value->Option Bool
 | 0,_,_,_=>none
 | d+1,t,x,y=>match P.underlying t,x,y with
   | some .bool,.bool a,.bool b=>some (a==b)
   | some (.int _),.int k a,.int k' b=>if k=k' then some (a==b)else none
   | some .string,.string a,.string b=>some (toL a==toL b)
   | some (.struct fs),.agg xs,.agg ys=>if P.stoodInHeld t then none else
       fs.toList.foldr (λf r=>if f.name= "_" then r else match H7 P f.type xs f.offset,H7 P f.type ys f.offset with
         | some a,some b=>match eqV P d f.type a b,r with
           | some p,some q=>some (p&&q)
           | _,_=>none
         | _,_=>none) (some true)
   | some (.array n e),.agg xs,.agg ys=>match P.info? e with
     | some i=>(List.range n).foldr (λj r=>match H7 P e xs (j*i.size),H7 P e ys (j*i.size)with
         | some a,some b=>match eqV P d e a b,r with
           | some p,some q=>some (p&&q)
           | _,_=>none
         | _,_=>none) (some true)
     | none=>none
   | _,_,_=>none
theorem NQ {P:Program} :∀(d:Nat) (t:TypeId) (x y:Value) (b:Bool) (w:World),eqV P d t x y=some b->(Op.equalIn d t x y).run P w=.ok b w:=by
 intro d
 induction d with
 | zero=>intro t x y b w h;cases h
 | succ d ih=>
   intro t x y b w h
   unfold eqV at h
   split at h
   · rename_i hu;cases h
     exact run_equalIn_bool' w d t _ _ hu
   · rename_i k0 k a k' c hu
     split at h
     · rename_i e;subst e;cases h
       exact run_equalIn_int w d t _ _ _ _ hu
     · cases h
   · rename_i a c hu;cases h
     rw[run_equalIn_string w d t _ _ hu]
     rw[ByteArray.toList_eq,ByteArray.toList_eq];rfl
   · rename_i fs xs ys hu
     split at h
     · cases h
     · rename_i hp
       have hf:P.fieldsOf t=fs:=by unfold Program.fieldsOf;rw[hu]
       rw[run_equalIn_struct w d t xs ys (by rw[hf];exact hu) (by simpa using hp),hf]
       revert h
       generalize fs.toList=l
       induction l generalizing b with
       | nil=>intro h;cases h;rfl
       | cons f l ihl=>
         intro h
         rw[List.foldr_cons]at h
         unfold Op.eqFields
         by_cases hn:f.name= "_"
         · rw[if_pos hn]at h
           rw[if_neg (by simpa using hn)]
           exact ihl b h
         · rw[if_neg hn]at h
           rw[if_pos hn]
           split at h
           · rename_i a c ha hc
             split at h
             · rename_i p q hpq hq
               cases h
               have h1:=ih f.type a c p w hpq
               have h2:=ihl q hq
               simp only[Sem.run_bind,wQ ha,wQ hc,Result.andThen_ok,h1]
               cases p
               · simp
               · simpa using h2
             · cases h
           · cases h
   · rename_i n e xs ys hu
     split at h
     · rename_i i hi
       simp only[Op.equalIn,Sem.run_bind,bK hu,Result.andThen_ok,fJ hi]
       rw[Std.Legacy.Range.forIn_eq_forIn_range']
       have er:List.range' 0 ([0:n]:Std.Legacy.Range).size 1=List.range n:=by
         rw[List.range_eq_range'];simp[Std.Legacy.Range.size]
       rw[er]
       clear er
       revert h
       generalize List.range n=l
       induction l generalizing b with
       | nil=>intro h;cases h;simp
       | cons j l ihl=>
         intro h
         rw[List.foldr_cons]at h
         split at h
         · rename_i a c ha hc
           split at h
           · rename_i p q hpq hq
             cases h
             have h1:=ih e a c p w hpq
             have h2:=ihl q hq
             simp only[List.forIn_cons,Sem.run_bind,wQ ha,wQ hc,Result.andThen_ok,h1]
             cases p
             · simp
             · simpa using h2
           · cases h
         · cases h
     · cases h
   · cases h
theorem Le {P:Program}{t:TypeId}{x y:Operand}{xs ys:Array Value}{b:Bool}(hm:P.eqGuardType P.depth t=false)(h:eqV P 10000 t (.agg xs) (.agg ys)=some b)(w:World):
   ((do eqGuard .eql t x y (.agg xs) (.agg ys);binOp .eql t (.agg xs) (.agg ys):Sem Value)).run P w=.ok (.bool b) w:=by
 rw[Sem.run_bind,run_eqGuard_agg w .eql t x y xs ys hm,Result.andThen_ok,run_eql_struct,NQ _ _ _ _ _ w h,Result.andThen_ok]
theorem VI {P:Program}{t:TypeId}{x y:Operand}{xs ys:Array Value}{b:Bool}(hm:P.eqGuardType P.depth t=false)(h:eqV P 10000 t (.agg xs) (.agg ys)=some b)(w:World):
   ((do eqGuard .neq t x y (.agg xs) (.agg ys);binOp .neq t (.agg xs) (.agg ys):Sem Value)).run P w=.ok (.bool (!b)) w:=by
 rw[Sem.run_bind,run_eqGuard_agg w .neq t x y xs ys hm,Result.andThen_ok,run_neq_struct,NQ _ _ _ _ _ w h,Result.andThen_ok]
structure Hst where
 kind:Int
 name:List UInt8
 ad:List UInt8
def Hst.cells (h:Hst):List Value:=vI h.kind::vS h.name::adC h.ad
def Hst.v (h:Hst):Value:=.agg h.cells.toArray
def nJ:Hst:=⟨0,[],ad0⟩
def Hst.ok (h:Hst):Prop:=h.ad.length=16
theorem Hst.len {h:Hst}(o:h.ok):h.cells.length=18:=by unfold Hst.cells;rw[List.length_cons,List.length_cons,iq,o]
theorem Hst.one (h:Hst):vX h.cells:=aJ rfl (aJ rfl (rR _))
def U1:List UInt8->List UInt8->Bool
 | x::xs,y::ys=>((((x.toNat:Nat):Int))==((y.toNat:Nat):Int))&&U1 xs ys
 | _,_=>true
theorem Km:∀(xs ys:List UInt8),xs.length=ys.length->(U1 xs ys=true ↔ xs=ys)
 | [],[],_=>by simp[U1]
 | x::xs,[],h=>by simp at h
 | [],y::ys,h=>by simp at h
 | x::xs,y::ys,h=>by
   unfold U1
   rw[Bool.and_eq_true,Km xs ys (by simpa using h),beq_iff_eq]
   have e:((x.toNat:Nat):Int)=((y.toNat:Nat):Int) ↔ x=y:=⟨λh=>UInt8.toNat_inj.1 (by omega),λh=>by rw[h]⟩
   rw[e]
   simp
theorem pN {α:Type} :∀(a:List α),a.length=16->∃x0 x1 x2 x3 x4 x5 x6 x7 x8 x9 x10 x11 x12 x13 x14 x15,a=[x0,x1,x2,x3,x4,x5,x6,x7,x8,x9,x10,x11,x12,x13,x14,x15]
 | [x0,x1,x2,x3,x4,x5,x6,x7,x8,x9,x10,x11,x12,x13,x14,x15],_=>⟨x0,x1,x2,x3,x4,x5,x6,x7,x8,x9,x10,x11,x12,x13,x14,x15,rfl⟩
def pK (h g:Hst):Bool:=(h.kind==g.kind)&&((h.name==g.name)&&(U1 h.ad g.ad&&true))
theorem wH {h g:Hst}(o:h.ok)(p:g.ok):pK h g=true ↔ h=g:=by
 unfold pK
 rw[Bool.and_eq_true,Bool.and_eq_true,Bool.and_true,Km _ _ (o.trans p.symm),beq_iff_eq,beq_iff_eq]
 cases h;cases g;simp
def DG (c:UInt8):Bool:=(decide (97 <=c.toNat)&&decide (c.toNat <=122)) || (decide (48 <=c.toNat)&&decide (c.toNat <=57)) || c==45 || c==95
def ki (s:List UInt8):Bool:=decide (1 <=s.length)&&decide (s.length <=63)&&s.all DG
def JQ (L:List (List UInt8)):List UInt8:=L[L.length-1]?.getD []
def di (s:List UInt8):Option Hst:=
 if s.head?=some 91 then(if s.getLast?=some 93 then(v6A ((s.drop 1).take (s.length-2))).map λa=>⟨3,[],a⟩ else none)
 else if jm (JQ (dz 46 [] (eH s)))=true then(v4V s).map λa=>⟨2,[],a⟩
 else if s.length <=253/\(dz 46 [] (eH s)).all ki=true then some ⟨1,eH s,ad0⟩ else none
def N9:Option Hst->Value
 | some h=>.tuple #[h.v,.int .i64 0]
 | none=>.tuple #[nJ.v,.int .i64 31]
theorem jT {s:List UInt8}{h:Hst}(e:di s=some h):h.ok:=by
 unfold di at e
 split at e
 · split at e
   · cases hv:v6A ((s.drop 1).take (s.length-2))with
     | none=>rw[hv]at e;cases e
     | some a=>rw[hv]at e;cases e;exact UB _ a hv
   · cases e
 split at e
 · cases hv:v4V s with
   | none=>rw[hv]at e;cases e
   | some a=>rw[hv]at e;cases e;exact VS _ a hv
 split at e
 · cases e;rfl
 · cases e
theorem wI (c:UInt8):∀(s cur:List UInt8),Lib.join (dz c cur s) [c]=cur++s
 | [],cur=>by simp[dz,Lib.join_one]
 | x::r,cur=>by
   show Lib.join (if x=c then cur::dz c [] r else dz c (cur++[x]) r) [c]=_
   split
   · rename_i h
     subst h
     have ih:=wI x r []
     have hne:=oF x r []
     cases hL:dz x [] r with
     | nil=>exact absurd hL hne
     | cons y l=>
       rw[hL,Lib.join_cons,List.nil_append]at ih
       rw[Lib.join_cons]
       have e:Lib.joinTail [x] (y::l)=[x]++y++Lib.joinTail [x] l:=by simp[Lib.joinTail]
       rw[e,List.append_assoc [x] y,ih];rfl
   · rw[wI c r (cur++[x])];simp
theorem AX (s:List UInt8)(c:UInt8):Lib.hasSuffix s [c]=decide (s.getLast?=some c)/\Lib.trimSuffix s [c]=if s.getLast?=some c then s.take (s.length-1)else s:=by
 have h1:Lib.hasSuffix s [c]=decide (s.getLast?=some c):=by
   unfold Lib.hasSuffix
   rw[Bool.eq_iff_iff,dTx,List.isSuffixOf_iff_suffix]
   constructor
   · rintro⟨t,rfl⟩;simp
   · intro h
     obtain⟨t,rfl⟩:=List.getLast?_eq_some_iff.1 h
     exact⟨t,rfl⟩
 refine⟨h1,?_⟩
 unfold Lib.trimSuffix
 rw[h1]
 by_cases h:s.getLast?=some c
 · rw[if_pos (decide_eq_true h),if_pos h];rfl
 · rw[if_neg (by rw[decide_eq_false h];decide),if_neg h]
theorem Oq {s:List UInt8}(h:s.head?=some 91):((s.drop 1).getLast?=some 93 ↔ s.getLast?=some 93):=by
 cases s with
 | nil=>cases h
 | cons x r=>
   obtain rfl:x=91:=Option.some.inj h
   cases r with
   | nil=>simp
   | cons y r=>simp[List.getLast?_cons_cons]
theorem HV {L:List (List UInt8)}(h:0<L.length):JQ L=L[L.length-1]'(by omega):=by unfold JQ;rw[List.getElem?_eq_getElem (by omega)];rfl
theorem bc:Whl prog af 18:=⟨⟨_,_,Kd⟩,by kernel_rfl⟩
theorem NP {h g:Hst}(o:h.ok)(p:g.ok):eqV prog 10000 af h.v g.v=some (pK h g):=by
 obtain⟨k,n,a⟩:=h
 obtain⟨k',n',a'⟩:=g
 obtain⟨x0,x1,x2,x3,x4,x5,x6,x7,x8,x9,x10,x11,x12,x13,x14,x15,rfl⟩:=pN a o
 obtain⟨y0,y1,y2,y3,y4,y5,y6,y7,y8,y9,y10,y11,y12,y13,y14,y15,rfl⟩:=pN a' p
 kernel_rfl
theorem HJ:prog.eqGuardType prog.depth af=false:=by kernel_rfl
theorem KO {h g:Hst}(o:h.ok)(p:g.ok){x y:Operand}(w:World):((do eqGuard .eql af x y h.v g.v;binOp .eql af h.v g.v:Sem Value)).run prog w=.ok (.bool (pK h g)) w:=
 Le HJ (NP o p) w
theorem Vo {h g:Hst}(o:h.ok)(p:g.ok){x y:Operand}(w:World):((do eqGuard .neq af x y h.v g.v;binOp .neq af h.v g.v:Sem Value)).run prog w=.ok (.bool (!pK h g)) w:=
 VI HJ (NP o p) w
theorem LC (k:Int){a:List UInt8}(o:a.length=16)(w:World):(Instr.build af #[(0,vI k),(2,adV a)]).run prog w=.ok (Hst.v ⟨k,[],a⟩) w:=by
 obtain⟨x0,x1,x2,x3,x4,x5,x6,x7,x8,x9,x10,x11,x12,x13,x14,x15,rfl⟩:=pN a o
 kernel_rfl
theorem DB (c:UInt8)(w:World):Cf qw #[.int .u8 ((c.toNat:Nat):Int)] w (Ret λv w'=>v=.bool (DG c)/\w'=w):=by
 apply CJ
 have e45:=GK c 45
 have e95:=GK c 95
 rw[show(((45:UInt8).toNat:Nat):Int)=45 from rfl]at e45
 rw[show(((95:UInt8).toNat:Nat):Int)=95 from rfl]at e95
 rw[e45,e95]
 unfold DG
 have lf:∀{b:Bool} {x:Bool},b=x->(.bool b:Value)=.bool x/\w=w:=λh=>⟨by rw[h],rfl⟩
 refine ae.of (λh=>?_) (λh=>?_) <;> simp only[ge_iff_le,dTx,dFx]at h
 · refine ae.of (λh2=>lf ?_) (λh2=>?_) <;> simp only[ge_iff_le,dTx,dFx]at h2
   · rw[decide_eq_true (p:=97 <=c.toNat) (by omega),decide_eq_true (p:=c.toNat <=122) (by omega)];rfl
   · rw[decide_eq_false (p:=c.toNat <=122) (by omega),Bool.and_false,Bool.false_or]
     refine ae.yes (by simp;omega) (ae.no (by simp;omega) ?_)
     rw[decide_eq_false (p:=c.toNat <=57) (by omega),Bool.and_false,Bool.false_or]
     exact ae.of (λh3=>lf (by rw[h3];rfl)) (λh3=>lf (by rw[h3,Bool.false_or]))
 · rw[decide_eq_false (p:=97 <=c.toNat) (by omega),Bool.false_and,Bool.false_or]
   refine ae.of (λh2=>?_) (λh2=>?_) <;> simp only[ge_iff_le,dTx,dFx]at h2
   · rw[decide_eq_true (p:=48 <=c.toNat) (by omega),Bool.true_and]
     refine ae.of (λh3=>lf ?_) (λh3=>?_) <;> simp only[ge_iff_le,dTx,dFx]at h3
     · rw[decide_eq_true (p:=c.toNat <=57) (by omega)];rfl
     · rw[decide_eq_false (p:=c.toNat <=57) (by omega),Bool.false_or]
       exact ae.of (λh4=>lf (by rw[h4];rfl)) (λh4=>lf (by rw[h4,Bool.false_or]))
   · rw[decide_eq_false (p:=48 <=c.toNat) (by omega),Bool.false_and,Bool.false_or]
     exact ae.of (λh4=>lf (by rw[h4];rfl)) (λh4=>lf (by rw[h4,Bool.false_or]))
theorem FO (s:List UInt8)(hs:s.length <=9223372036854775800)(w:World):Cf sj #[vS s] w (Ret λv w'=>v=.bool (ki s)/\bW w w'):=by
 apply D5
 refine ae.of (λh=>?_) (λh=>⟨?_,Below.refl _ _⟩)
 · have hne:s≠[]:=by simpa using h
   have h1:1 <=s.length:=List.length_pos_iff.2 hne
   refine ae.of (λh2=>?_) (λh2=>⟨?_,Below.refl _ _⟩) <;> simp only[dTx,dFx]at h2
   · obtain⟨w2,a,n,c,hr,ho,hb2,hf⟩:=mq (P:=prog) aF cg cH w s (by omega) NoB
     have hnn:=ho.len
     subst hnn
     refine⟨w2,a,_,c,hr,?_⟩
     have hl:ki s=s.all DG:=by unfold ki;rw[decide_eq_true h1,decide_eq_true (by omega),Bool.true_and,Bool.true_and]
     refine aB (K:=λv w'=>v=.bool (!(s.all DG))/\w'=w2) ?_ ?_
     · apply fA
       refine aB (K:=λv w'=>∃i:Int,v=vI i/\(decide (i >=0))=(!(s.all DG))/\w'=w2) ?_ ?_
       · apply gg
         refine⟨λm i w'=>∃k:Nat,k <=s.length/\i=(k:Int)/\m=s.length-k/\(s.take k).all DG=true/\w'=w2,⟨_,0,by omega,rfl,rfl,rfl,rfl⟩,?_⟩
         intro m i
         refine aN.of ?_ _
         rintro w' ⟨k,hk,rfl,rfl,hno,hw'⟩
         rw[hw'];clear hw'
         refine ae.of (λh=>?_) (λh=>?_) <;> simp only[dTx,dFx]at h
         · have hlt:k<s.length:=by omega
           obtain⟨v,hv,hrep⟩:=ho.all.load1 (i:=(k:Int)) cH rfl rfl (by simpa using hlt)
           have:=xg hrep
           subst this
           simp only[Int.toNat_natCast]at hv
           refine⟨⟨⟨by omega,h⟩,ho.all.isSome hlt⟩,_,hv,?_⟩
           refine aB (K:=λv w'=>v=.bool (!DG s[k])/\w'=w2) ?_ ?_
           · apply yt
             refine aB (DB _ w2) ?_
             rintro _ w3 ⟨rfl,hw3⟩
             exact⟨_,rfl,rfl,hw3⟩
           rintro _ w3 ⟨rfl,hw3⟩
           rw[hw3]
           refine⟨_,rfl,ae.of (λh3=>?_) (λh3=>?_)⟩
           · refine⟨_,rfl,?_,rfl⟩
             have:s.all DG=false:=by
               rw[Bool.eq_false_iff]
               intro hc
               rw[List.all_eq_true.1 hc _ (List.getElem_mem hlt)]at h3;cases h3
             rw[this,decide_eq_true (by omega)];rfl
           · refine⟨s.length-(k+1),by omega,k+1,by omega,by rw[wrap_i64 (by omega) (by omega)];omega,rfl,?_,rfl⟩
             rw[List.take_succ_eq_append_getElem hlt,List.all_append,hno]
             simpa using h3
         · have:k=s.length:=by omega
           subst this
           rw[List.take_length]at hno
           exact⟨_,rfl,by rw[hno];decide,rfl⟩
       · rintro _ w3 ⟨i,rfl,hi,hw3⟩
         exact⟨_,rfl,by rw[hi],hw3⟩
     · rintro _ w3 ⟨rfl,hw3⟩
       rw[hw3]
       exact⟨_,rfl,by rw[hl,Bool.not_not],hb2⟩
   · unfold ki;rw[decide_eq_false (p:=s.length <=63) (by omega),Bool.and_false,Bool.false_and]
 · have hne:s=[]:=by simpa using h
   subst hne;rfl
theorem my (o:Option Hst):N9 o=.tuple #[(o.getD nJ).v,vI (if o.isSome then 0 else 31)]:=by cases o <;> rfl
theorem B1 {o:Option Hst}(h:∀x,o=some x->x.ok):(o.getD nJ).ok:=by
 cases o with
 | none=>rfl
 | some x=>exact h x rfl
theorem ni (k:Int)(a:List UInt8)(o:a.length=16)(b:Bool)(w:World):Cf jb #[vI k,adV a,.bool b] w (Ret λv w'=>v=N9 (if b=true then some ⟨k,[],a⟩ else none)/\bW w w'):=by
 apply Ai
 intro k4 w4 hk4 hw4
 have hB4:=(hw4▸ah w _:bW w w4)
 have h4:ai w4 k4 aH (adC a):=ai.new hk4 hw4
 intro k6 w6 hk6 hw6
 have hb6:=(hw6▸ah w4 _:bW w4 w6)
 have hB6:=ab hB4 hb6 hB4.size
 have h6:ai w6 k6 af nJ.cells:=ai.new hk6 hw6
 have hk:w.heap.size <=k6:=by have:=hB4.size;omega
 refine ae.of (λh=>?_) (λh=>?_)
 · have hb:b=false:=by simpa using h
   rw[hb]
   exact bc.fin (K:=λvr wy=>(.tuple #[vr,vI 31]:Value)=N9 (if false=true then some ⟨k,[],a⟩ else none)/\bW w wy) (cs:=nJ.cells) rfl (Hst.one _) h6 rfl hB6 hk λwy hb=>⟨rfl,hb⟩
 · have hb:b=true:=by simpa using h
   rw[hb]
   refine⟨_,j7.load0 (h4.below hb6) (by rw[iq,o]),_,LC k o w6,?_⟩
   exact bc.fin (K:=λvr wy=>(.tuple #[vr,vI 0]:Value)=N9 (if true=true then some ⟨k,[],a⟩ else none)/\bW w wy) (cs:=Hst.cells ⟨k,[],a⟩) (Hst.len o) (Hst.one _) h6 rfl hB6 hk λwy hb=>⟨rfl,hb⟩
theorem On {w:World}{A:Bl}{a:Option Addr}{n c:Nat}{L:List (List UInt8)}(hs:Sl tS w uc a n c L)(hl:∀x∈L,x.length <=9223372036854775800)(hL:L.length <=9223372036854775800):
   Cf dd #[.slice a n c,.func (.func dt) #[] #[]] w (Ret λv w'=>v=.bool (!(L.all ki))/\bW w w'):=by
 have hn:=hs.len
 apply fc
 refine aB (K:=λv w'=>∃i:Int,v=vI i/\(decide (i >=0))=(!(L.all ki))/\bW w w') ?_ ?_
 · apply fv
   refine⟨λm i w'=>∃k:Nat,k <=L.length/\i=(k:Int)/\m=L.length-k/\(L.take k).all ki=true/\bW w w',⟨_,0,by omega,rfl,rfl,rfl,Below.refl _ _⟩,?_⟩
   intro m i
   refine aN.of ?_ _
   rintro w2 ⟨k,hk,rfl,rfl,hno,hB2⟩
   refine ae.of (λh=>?_) (λh=>?_) <;> simp only[dTx,dFx]at h
   · have hlt:k<L.length:=by omega
     have hs2:=hs.below hB2
     refine⟨⟨⟨by omega,h⟩,hs2.isSome (by omega)⟩,_,hs2.text aF hlt,?_⟩
     refine aB (K:=λv w'=>v=.bool (!ki L[k])/\bW w2 w') ?_ ?_
     · apply yr
       refine aB (FO _ (hl _ (List.getElem_mem hlt)) w2) ?_
       rintro _ w3 ⟨rfl,hb3⟩
       exact⟨_,rfl,rfl,hb3⟩
     rintro _ w3 ⟨rfl,hb3⟩
     have hB3:=ab hB2 hb3 hB2.size
     refine⟨_,rfl,ae.of (λh3=>?_) (λh3=>?_)⟩
     · refine⟨_,rfl,?_,hB3⟩
       have:L.all ki=false:=by
         rw[Bool.eq_false_iff]
         intro hc
         rw[List.all_eq_true.1 hc _ (List.getElem_mem hlt)]at h3;cases h3
       rw[this,decide_eq_true (by omega)];rfl
     · refine⟨L.length-(k+1),by omega,k+1,by omega,by rw[wrap_i64 (by omega) (by omega)];omega,rfl,?_,hB3⟩
       rw[List.take_succ_eq_append_getElem hlt,List.all_append,hno]
       simpa using h3
   · have:k=L.length:=by omega
     subst this
     rw[List.take_length]at hno
     exact⟨_,rfl,by rw[hno];decide,hB2⟩
 · rintro _ w3 ⟨i,rfl,hi,hB3⟩
   exact⟨_,rfl,by rw[hi],hB3⟩
def E5 (s:List UInt8)(w:World)(v:Value)(w':World):Prop:=v=N9 (di s)/\bW w w'
theorem jU (s:List UInt8)(hs:s.length <=2000000000)(w:World)(he:Env w):Cf iv #[vS s] w (Ret (E5 s w)):=by
 apply DY
 intro k2 w2 hk2 hw2
 have hB2:=(hw2▸ah w _:bW w w2)
 have h2:ai w2 k2 af nJ.cells:=ai.new hk2 hw2
 have hk2w:w.heap.size <=k2:=by omega
 refine aB (Hn s 91 w2) ?_
 rintro _ w3 ⟨rfl,hw3⟩
 rw[hw3];clear hw3
 refine⟨_,_,rfl,?_⟩
 have fin:∀{wx:World} (o:Option Hst),(∀x,o=some x->x.ok)->di s=o->ai wx k2 af nJ.cells->bW w wx->
     ∃wy,(Instr.storeAt af (.pointer (some ⟨k2,0,none⟩)) (o.getD nJ).v).run prog wx=.ok () wy/\∃vr:Value,(aV af (.pointer (some ⟨k2,0,none⟩))).run prog wy=.ok vr wy/\E5 s w (.tuple #[vr,vI (if o.isSome then 0 else 31)]) wy:=fun{wx} o ho hv h2x hBx=>
   bc.fin (K:=λvr wy=>E5 s w (.tuple #[vr,vI (if o.isSome then 0 else 31)]) wy) (cs:=(o.getD nJ).cells) (Hst.len (B1 ho)) (Hst.one _) h2x rfl hBx hk2w λwy hb=>⟨by rw[hv,my];rfl,hb⟩
 by_cases h91:s.head?=some 91
 · rw[if_pos h91,decide_eq_true h91]
   refine ae.yes rfl ?_
   have hv:di s=if s.getLast?=some 93 then(v6A ((s.drop 1).take (s.length-2))).map λa=>⟨3,[],a⟩ else none:=by unfold di;rw[if_pos h91]
   have hlt:=Oq h91
   refine(Tryz.strings_CutSuffix (mkS (s.drop 1)) (mkS [93]) w2 (by show(s.drop 1).length <=_;rw[List.length_drop];omega)).mono ?_
   rintro _ w3 ⟨rfl,hw3⟩
   rw[hw3];clear hw3
   have hsb:=AX (s.drop 1) 93
   have e1:(mkS (s.drop 1)).data.toList=s.drop 1:=rfl
   have e2:(mkS [93]).data.toList=[93]:=rfl
   rw[e1,e2,hsb.1,hsb.2]
   obtain⟨inner,hin⟩:∃inner,inner=if(s.drop 1).getLast?=some 93 then(s.drop 1).take ((s.drop 1).length-1)else s.drop 1:=⟨_,rfl⟩
   rw[<- hin]
   have hil:inner.length <=s.length:=by rw[hin];split <;> simp <;> omega
   refine⟨inner,_,rfl,?_⟩
   refine aB (Ly inner (by omega) w2 (he.step hB2)) ?_
   rintro _ w4 ⟨rfl,hb4⟩
   have hB4:=ab hB2 hb4 hB2.size
   refine⟨_,_,by rw[RY],?_⟩
   have hal:=RZ (UB inner)
   refine j7.new (zs:=adC ad0) (cs:=adC ((v6A inner).getD ad0)) rfl hal (rR _) w4 λk8 w8 hk8 h8 hb8=>?_
   have hB8:=ab hB4 hb8 hB4.size
   have h28:=(h2.below hb4).below hb8
   refine⟨_,j7.load0 h8 hal,?_⟩
   have hvo:di s=if(v6A inner).isSome=true/\(s.drop 1).getLast?=some 93 then some ⟨3,[],(v6A inner).getD ad0⟩ else none:=by
     rw[hv]
     by_cases hc:s.getLast?=some 93
     · have hc':=hlt.2 hc
       rw[if_pos hc,if_pos hc']at*
       rw[List.length_drop,show s.length-1-1=s.length-2 by omega]at hin
       rw[<- hin]
       cases v6A inner with
       | none=>rw[if_neg (λh=>by cases h.1)];rfl
       | some x=>rw[if_pos ⟨rfl,hc'⟩];rfl
     · rw[if_neg hc,if_neg (λh=>hc (hlt.1 h.2))]
   refine ae.of (λhs1=>?_) (λhs1=>?_)
   · refine aB (ni 3 _ (by rw[<- iq];exact hal) _ w8) ?_
     rintro _ w9 ⟨rfl,hb9⟩
     have hB9:=ab hB8 hb9 hB8.size
     refine⟨_,_,by rw[my],?_⟩
     refine fin _ (λx hx=>?_) ?_ (h28.below hb9) hB9
     · split at hx
       · cases hx;show((v6A inner).getD ad0).length=16;rw[<- iq];exact hal
       · cases hx
     · rw[hvo,hs1]
       by_cases hc:(s.drop 1).getLast?=some 93
       · rw[if_pos ⟨rfl,hc⟩,if_pos (by simpa using hc)]
       · rw[if_neg (λh=>hc h.2),if_neg (by simpa using hc)]
   · refine aB (ni 3 _ (by rw[<- iq];exact hal) _ w8) ?_
     rintro _ w9 ⟨rfl,hb9⟩
     have hB9:=ab hB8 hb9 hB8.size
     refine⟨_,_,by rw[my],?_⟩
     refine fin _ (λx hx=>by cases hx) ?_ (h28.below hb9) hB9
     rw[hvo,hs1,if_neg (λh=>by cases h.1)];rfl
 · rw[if_neg h91,decide_eq_false h91]
   refine ae.no rfl ?_
   have hv:di s=if jm (JQ (dz 46 [] (eH s)))=true then(v4V s).map λa=>⟨2,[],a⟩ else if s.length <=253/\(dz 46 [] (eH s)).all ki=true then some ⟨1,eH s,ad0⟩ else none:=by unfold di;rw[if_neg h91]
   refine aB (eU s (by omega) w2) ?_
   rintro _ w3 ⟨rfl,hb3⟩
   have hB3:=ab hB2 hb3 hB2.size
   refine⟨_,rfl,?_⟩
   have ll:(eH s).length=s.length:=by simp[eH]
   refine aB (dQ (eH s) 46 (by omega) w3 (he.step hB3)) ?_
   rintro _ w4 ⟨a,n,c,rfl,ho,hf,hb4⟩
   have hB4:=ab hB3 hb4 hB3.size
   have h24:=(h2.below hb3).below hb4
   have hn:=ho.len
   subst hn
   have hlens:∀x∈dz 46 [] (eH s),x.length <=s.length:=λx hx=>by have:=jE 46 (eH s) [] x hx;simp[ll]at this;omega
   have hcn:=dZ 46 (eH s) []
   have hnz:0<(dz 46 [] (eH s)).length:=List.length_pos_iff.2 (oF 46 (eH s) [])
   have hjoin:=wI 46 (eH s) []
   refine⟨_,_,_,rfl,?_⟩
   generalize dz 46 [] (eH s)=L at*
   have ei:i64.wrap (((L.length:Nat):Int)-1)=((L.length-1:Nat):Int):=by rw[wrap_i64 (by omega) (by omega)];omega
   try dsimp only
   rw[ei]
   refine⟨⟨⟨by omega,by omega⟩,ho.all.isSome hnz⟩,_,ho.all.text aF (by omega),?_⟩
   rw[<- HV hnz]
   have hll:(JQ L).length <=s.length:=by rw[HV hnz];exact hlens _ (List.getElem_mem _)
   refine aB (nr (JQ L) (by omega) w4) ?_
   rintro _ w5 ⟨rfl,hb5⟩
   have hB5:=ab hB4 hb5 hB4.size
   have h25:=h24.below hb5
   refine⟨_,rfl,ae.of (λhd=>?_) (λhd=>?_)⟩
   · rw[if_pos hd]at hv
     refine aB (Lx s (by omega) w5 (he.step hB5)) ?_
     rintro _ w6 ⟨rfl,hb6⟩
     have hB6:=ab hB5 hb6 hB5.size
     refine⟨_,_,by rw[RY],?_⟩
     have hal:=RZ (VS s)
     refine j7.new (zs:=adC ad0) (cs:=adC ((v4V s).getD ad0)) rfl hal (rR _) w6 λk8 w8 hk8 h8 hb8=>?_
     have hB8:=ab hB6 hb8 hB6.size
     have h28:=(h25.below hb6).below hb8
     refine⟨_,j7.load0 h8 hal,?_⟩
     refine aB (ni 2 _ (by rw[<- iq];exact hal) _ w8) ?_
     rintro _ w9 ⟨rfl,hb9⟩
     have hB9:=ab hB8 hb9 hB8.size
     refine⟨_,_,by rw[my],?_⟩
     refine fin _ (λx hx=>?_) ?_ (h28.below hb9) hB9
     · split at hx
       · cases hx;show((v4V s).getD ad0).length=16;rw[<- iq];exact hal
       · cases hx
     · rw[hv]
       cases v4V s <;> rfl
   · rw[if_neg (by rw[hd];decide)]at hv
     have hbad: ¬ (s.length <=253/\L.all ki=true)->di s=none:=λh=>by rw[hv,if_neg h]
     refine j8 (λw'=>(s.length <=253/\L.all ki=true)/\bW w5 w') ?_ ?_
     · refine Kq (λb w'=>b=(!decide (s.length <=253/\L.all ki=true))/\bW w5 w') ?_ ?_
       · refine ae.of (λh=>⟨?_,Below.refl _ _⟩) (λh=>?_) <;> simp only[gt_iff_lt,dTx,dFx]at h
         · rw[decide_eq_false (λhc=>by have:=hc.1;omega)];rfl
         · refine aB (On (A:=uc) (ho.below hb5).all (λx hx=>by have:=hlens x hx;omega) (by omega)) ?_
           rintro _ w6 ⟨rfl,hb6⟩
           refine⟨_,rfl,?_,hb6⟩
           have h253:s.length <=253:=by omega
           congr 1
           rw[Bool.eq_iff_iff,dTx]
           exact⟨λh=>⟨h253,h⟩,λh=>h.2⟩
       · rintro b w6 ⟨rfl,hb6⟩
         refine ae.of (λh=>?_) (λh=>⟨by rw[Bool.not_eq_false']at h;exact of_decide_eq_true h,hb6⟩)
         exact fin none (λx hx=>by cases hx) (hbad (by rw[Bool.not_eq_true']at h;exact of_decide_eq_false h)) (h25.below hb6) (ab hB5 hb6 hB5.size)
     · rintro w6 ⟨hgood,hb6⟩
       have hB6:=ab hB5 hb6 hB5.size
       refine aB (FZ ((ho.below hb5).below hb6).all [46] (by omega) (by rw[hjoin];simp[ll];omega)) ?_
       rintro _ w7 ⟨rfl,hb7⟩
       have hB7:=ab hB6 hb7 hB6.size
       rw[hjoin,List.nil_append]
       refine⟨_,rfl,?_⟩
       exact fin (some ⟨1,eH s,ad0⟩) (λx hx=>by cases hx;rfl) (by rw[hv,if_pos hgood]) ((h25.below hb6).below hb7) hB7
def lq (h:Hst):List UInt8:=if h.kind=1 then h.name else if h.kind=2 then Lh h.ad else if h.kind=3 then[91]++Iu h.ad++[93]else[]
def eQ (h:Hst):Bool:=match di (lq h)with|some g=>pK g h|none=>false
def aO (h:Hst):List (List UInt8):=if h.kind=1/\eQ h=true then dz 46 [] h.name else[]
theorem O9 {a:List UInt8}(h:a.length=16):(Lh a).length <=88:=by
 have:=Cg ((a.drop 12).map λc=>R8 c.toNat) 46 21 (λx hx=>by
   obtain⟨c,_,rfl⟩:=List.mem_map.1 hx
   have:=Em c
   exact Ky (by omega))
 rw[List.length_map,List.length_drop,h]at this
 exact this
theorem Iv (a:List UInt8):(Iu a).length <=90:=by
 have hgl:=HE a
 unfold Iu
 split
 · have:=yX (LR a);omega
 · have l1:=yX (l:=(gL a).take (eV (zsA a)).1) λx hx=>LR a x (List.mem_of_mem_take hx)
   have l2:=yX (l:=(gL a).drop ((eV (zsA a)).1+(eV (zsA a)).2)) λx hx=>LR a x (List.mem_of_mem_drop hx)
   rw[List.length_take]at l1
   rw[List.length_drop]at l2
   simp;omega
theorem HM {h:Hst}(o:h.ok):(lq h).length <=h.name.length+100:=by
 have h4:=O9 o
 have h6:=Iv h.ad
 unfold lq
 split
 · omega
 split
 · omega
 split
 · simp;omega
 · simp
theorem Qe {h:Hst}(j:Nat):h.cells[2+j]? =(adC h.ad)[j]? :=by rw[Nat.add_comm];rfl
theorem Sg {h:Hst}(o:h.ok){w:World}{k:Nat}{T:TypeId}(ha:ai w k T h.cells):(Instr.loadAt aH (.pointer (some ⟨k,2,none⟩))).run prog w=.ok (adV h.ad) w:=
 j7.load ha (i:=2) (us:=adC h.ad) (by rw[iq,o]) λj _=>Qe j
theorem sw {h:Hst}(o:h.ok)(w:World)(he:Env w):Cf qv #[h.v] w (Ret λv w'=>v=vS (lq h)/\bW w w'):=by
 apply Gm
 intro k1 w1 hk1 hw1
 have hB1:=(hw1▸ah w _:bW w w1)
 have h1:ai w1 k1 af h.cells:=ai.new hk1 hw1
 refine⟨rfl,_,h1.load1 cD rfl rfl,?_⟩
 unfold lq
 refine ae.of (λc1=>?_) (λc1=>?_) <;> simp only[beq_iff_eq,beq_eq_false_iff_ne,ne_eq]at c1
 · rw[if_pos c1]
   exact⟨rfl,_,h1.load1 aF rfl rfl,rfl,hB1⟩
 rw[if_neg c1]
 refine ae.of (λc2=>?_) (λc2=>?_) <;> simp only[beq_iff_eq,beq_eq_false_iff_ne,ne_eq]at c2
 · rw[if_pos c2]
   refine⟨rfl,_,Sg o h1,?_⟩
   refine aB (Fh h.ad o w1 (he.step hB1)) ?_
   rintro _ w2 ⟨rfl,hb2⟩
   exact⟨_,rfl,rfl,ab hB1 hb2 hB1.size⟩
 rw[if_neg c2]
 refine ae.of (λc3=>?_) (λc3=>?_) <;> simp only[beq_iff_eq,beq_eq_false_iff_ne,ne_eq]at c3
 · rw[if_pos c3]
   refine⟨rfl,_,Sg o h1,?_⟩
   refine aB (Fi h.ad o w1 (he.step hB1)) ?_
   rintro _ w2 ⟨rfl,hb2⟩
   have h6:=Iv h.ad
   refine⟨_,rfl,fits (by simp;omega),?_⟩
   rintro _ rfl
   refine⟨fits (by simp;omega),?_⟩
   rintro _ rfl
   exact⟨rfl,ab hB1 hb2 hB1.size⟩
 · rw[if_neg c3]
   exact⟨rfl,hB1⟩
theorem jV {h:Hst}(o:h.ok)(hn:h.name.length <=1000000000)(w:World)(he:Env w):Cf jr #[h.v] w (Ret λv w'=>v=.bool (eQ h)/\bW w w'):=by
 apply DZ
 have hxl:=HM o
 intro k1 w1 hk1 hw1
 have hB1:=(hw1▸ah w _:bW w w1)
 have h1:ai w1 k1 af h.cells:=ai.new hk1 hw1
 refine⟨_,bc.load0 h1 (Hst.len o),?_⟩
 refine aB (sw o w1 (he.step hB1)) ?_
 rintro _ w2 ⟨rfl,hb2⟩
 have hB2:=ab hB1 hb2 hB1.size
 refine⟨_,rfl,?_⟩
 refine aB (jU (lq h) (by omega) w2 (he.step hB2)) ?_
 rintro _ w3 ⟨rfl,hb3⟩
 have hB3:=ab hB2 hb3 hB2.size
 refine⟨_,_,by rw[my],?_⟩
 have hok:((di (lq h)).getD nJ).ok:=B1 λx hx=>jT hx
 refine bc.new (zs:=nJ.cells) (cs:=((di (lq h)).getD nJ).cells) rfl (Hst.len hok) (Hst.one _) w3 λk4 w4 hk4 h4 hb4=>?_
 have hB4:=ab hB3 hb4 hB3.size
 have h14:=((h1.below hb2).below hb3).below hb4
 unfold eQ
 cases hv:di (lq h)with
 | none=>exact ae.no rfl ⟨rfl,hB4⟩
 | some g=>
   rw[hv]at h4 hok
   exact ae.yes rfl ⟨_,bc.load0 h4 (Hst.len hok),_,bc.load0 h14 (Hst.len o),_,KO hok o w4,rfl,hB4⟩
def MU (h:Hst)(w:World)(v:Value)(w':World):Prop:=∃(a:Option Addr) (n c:Nat),v=.slice a n c/\Ow tS ak w' NoB a n c (aO h)/\bg w.heap.size a/\bW w w'
theorem eS {h:Hst}(o:h.ok)(hn:h.name.length <=1000000000)(w:World)(he:Env w):Cf cr #[h.v] w (Ret (MU h w)):=by
 apply CI
 intro k1 w1 hk1 hw1
 have hB1:=(hw1▸ah w _:bW w w1)
 have h1:ai w1 k1 af h.cells:=ai.new hk1 hw1
 have none_end:∀{wx:World},¬ (h.kind=1/\eQ h=true)->bW w wx->MU h w (.slice none 0 0) wx:=λhc hb=>⟨none,0,0,rfl,by unfold aO;rw[if_neg hc];exact Ow.nil _ _ _ _,bg.none _,hb⟩
 refine j8 (λw'=>(h.kind=1/\eQ h=true)/\bW w1 w') ⟨rfl,_,h1.load1 cD rfl rfl,?_⟩ ?_
 · refine ae.of (λc=>none_end (λhc=>?_) hB1) (λc=>?_)
   · rw[hc.1]at c;simp at c
   · have hk:h.kind=1:=by simpa using c
     refine⟨_,bc.load0 h1 (Hst.len o),?_⟩
     refine aB (jV o hn w1 (he.step hB1)) ?_
     rintro _ w2 ⟨rfl,hb2⟩
     refine⟨_,rfl,ae.of (λc2=>none_end (λhc=>?_) (ab hB1 hb2 hB1.size)) (λc2=>⟨⟨hk,by simpa using c2⟩,hb2⟩)⟩
     rw[hc.2]at c2;cases c2
 · rintro w2 ⟨hc,hb2⟩
   have hB2:=ab hB1 hb2 hB1.size
   refine⟨rfl,_,(h1.below hb2).load1 aF rfl rfl,?_⟩
   refine aB (dQ h.name 46 (by omega) w2 (he.step hB2)) ?_
   rintro _ w3 ⟨a,n,c,rfl,ho,hf,hb3⟩
   exact⟨_,_,_,rfl,_,_,_,rfl,by unfold aO;rw[if_pos hc];exact ho,hf.mono hB2.size,ab hB2 hb3 hB2.size⟩
theorem kg.drop {α:Type}{T:Ty α}{w:World}{A:Bl}{l:List Value}{xs:List α}(h:kg T w A l xs)(j:Nat):kg T w A (l.drop (j*T.k)) (xs.drop j):=by
 refine⟨by rw[List.length_drop,List.length_drop,h.len,Nat.sub_mul],λi hi=>?_⟩
 have hi':j+i<xs.length:=by rw[List.length_drop]at hi;omega
 have:=h.rep (j+i) hi'
 rw[List.drop_drop,List.getElem_drop]
 rw[Nat.add_mul]at this
 exact this
theorem Sl.from {α:Type}{T:Ty α}{w:World}{A:Bl}{a:Option Addr}{n c:Nat}{xs:List α}(h:Sl T w A a n c xs)(j:Nat)(hj:j <=xs.length){k:Nat}(hk:T.k=k):Sl T w A (sS a c j k) (n-j) (c-j) (xs.drop j):=by
 subst hk
 obtain⟨h1,h2,h3,h4⟩:=h
 refine⟨by rw[List.length_drop,h1],by omega,by omega,?_⟩
 rcases h4 with h4|⟨b,off,e,hb,hab,l,h5,h6⟩
 · left;rw[h4];simp
 · by_cases hc:c=j
   · left
     exact List.drop_eq_nil_of_le (by omega)
   · right
     refine⟨b,off+j*T.k,?_,hb,hab,l.drop (j*T.k),h5.drop j,λi hi=>?_⟩
     · unfold sS;rw[if_neg hc,e,Option.map_some,gw]
     · rw[List.length_drop]at hi
       rw[Nat.add_assoc,h6 _ (by omega),List.getElem?_drop]
end Go.Pk
