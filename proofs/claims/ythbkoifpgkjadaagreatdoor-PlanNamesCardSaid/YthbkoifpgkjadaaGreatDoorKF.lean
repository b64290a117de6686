/- What the laws lean on: HostD, V4, UrlA, WordP, Fnd, TplP, Chg, PushC, Elem, V52, TplA; what is used. Its conditions: none. -/
import Derived.Test.YthbkoifpgkjadaaGreatDoorKE
set_option linter.unusedVariables false
set_option linter.unusedSimpArgs false
set_option linter.unusedSectionVars false
set_option maxRecDepth 100000
open Go.IntKind (i64)
open Go.Proofs.Tryz
open List (length)
open Option (isSome)
namespace Go.Pk
open Go.RowKit (Below)
open Go.Proofs
def Ef (L:List (List UInt8))(n:Nat):List UInt8:=Lib.join (L.drop (L.length-n)) [46]
def Un (L:List (List UInt8))(n:Nat):Value:=if 1 <=n/\n <=L.length then .tuple #[(⟨1,Ef L n,ad0⟩:Hst).v,.bool true]else .tuple #[nJ.v,.bool false]
def om (h d:Hst):Bool:=if(aO d).length=0\/(aO h).length <=(aO d).length then false else pK ⟨1,Ef (aO h) (aO d).length,ad0⟩ d
theorem IP {o:Option (List UInt8)}{h:Hst}(e:(o.map λa=>(⟨3,[],a⟩:Hst))=some h):h.kind=3:=by
 cases o with
 | none=>cases e
 | some a=>cases e;rfl
theorem ER {d:Hst}(o:d.ok)(hk:d.kind=1)(hr:eQ d=true):d=⟨1,d.name,ad0⟩/\eH d.name=d.name/\(dz 46 [] d.name).all ki=true/\d.name.length <=253/\jm (JQ (dz 46 [] d.name))=false/\di d.name=some d:=by
 have hx:lq d=d.name:=by unfold lq;rw[if_pos hk]
 unfold eQ at hr
 rw[hx]at hr
 cases hv:di d.name with
 | none=>rw[hv]at hr;cases hr
 | some g=>
   rw[hv]at hr
   obtain rfl:=(wH (jT hv) o).1 hr
   have hv':=hv
   unfold di at hv'
   split at hv'
   · split at hv'
     · have:=IP hv';omega
     · cases hv'
   split at hv'
   · cases h4:v4V g.name with
     | none=>rw[h4]at hv';cases hv'
     | some a=>
       rw[h4]at hv'
       have:g.kind=2:=by rw[<- Option.some.inj hv']
       omega
   rename_i hd
   split at hv'
   · rename_i hc
     have e:=Option.some.inj hv'
     have e2:eH g.name=g.name:=congrArg Hst.name e
     rw[e2]at hc e hd
     exact⟨e.symm,e2,hc.2,hc.1,by simpa using hd,rfl⟩
   · cases hv'
theorem HU (c:UInt8):∀(L:List (List UInt8)) (k:Nat),(Lib.join (L.drop k) [c]).length <=(Lib.join L [c]).length
 | L,0=>by simp
 | [],k+1=>by simp
 | x::r,k+1=>by
   rw[List.drop_succ_cons]
   refine Nat.le_trans (HU c r k) ?_
   cases r with
   | nil=>simp[Lib.join_nil]
   | cons y l=>
     rw[Lib.join_cons,Lib.join_cons]
     unfold Lib.joinTail
     simp;omega
theorem nj (h:Hst):(aO h).length <=h.name.length+1:=by
 unfold aO
 split
 · exact dZ 46 _ _
 · simp
theorem HO {h:Hst}(o:h.ok)(hn:h.name.length <=1000000000)(n:Nat)(hn2:n <=4000000000)(w:World)(he:Env w):Cf kG #[h.v,vI (n:Int)] w (Ret λv w'=>v=Un (aO h) n/\bW w w'):=by
 apply Gl
 intro k2 w2 hk2 hw2
 have hB2:=(hw2▸ah w _:bW w w2)
 have h2:ai w2 k2 af h.cells:=ai.new hk2 hw2
 intro k4 w4 hk4 hw4
 have hb4:=(hw4▸ah w2 _:bW w2 w4)
 have hB4:=ab hB2 hb4 hB2.size
 have h4:ai w4 k4 af nJ.cells:=ai.new hk4 hw4
 have hk:w.heap.size <=k4:=by have:=hB2.size;omega
 refine⟨_,bc.load0 (h2.below hb4) (Hst.len o),?_⟩
 refine aB (eS o hn w4 (he.step hB4)) ?_
 rintro _ w5 ⟨a,l,c,rfl,ho,hf,hb5⟩
 have hB5:=ab hB4 hb5 hB4.size
 have h45:=h4.below hb5
 have hll:=nj h
 have hjl:∀n,(Ef (aO h) n).length <=140737488355328:=λn=>by
   unfold Ef
   refine Nat.le_trans (HU 46 (aO h) _) ?_
   unfold aO
   split
   · rw[wI,List.nil_append];omega
   · simp[Lib.join_nil]
 have hl:=ho.len
 subst hl
 generalize aO h=L at*
 refine⟨_,_,_,rfl,?_⟩
 unfold Un
 refine wu (w:=w5) (1 <=n/\n <=L.length) ?_ (λhc=>?_)
 · refine orJ (ae.of (λh=>?_) (λh=>⟨rfl,?_⟩))
   · rw[if_neg (λhc=>by simp at h;omega)]
     exact bc.fin (K:=λvr wy=>(.tuple #[vr,.bool false]:Value)=.tuple #[nJ.v,.bool false]/\bW w wy) (cs:=nJ.cells) rfl (Hst.one _) h45 rfl hB5 hk λwy hb=>⟨rfl,hb⟩
   · simp at h;omega
 · rw[if_pos hc]
   have e:i64.wrap (((L.length:Nat):Int)-(n:Int))=((L.length-n:Nat):Int):=by rw[wrap_i64 (by omega) (by omega)];omega
   try dsimp only
   rw[e]
   simp only[Int.toNat_natCast]
   refine⟨⟨by omega,by omega⟩,?_⟩
   refine aB (FZ ((ho.all).from (L.length-n) (by omega) rfl) [46] (by simp;omega) (hjl n)) ?_
   rintro _ w6 ⟨rfl,hb6⟩
   have hB6:=ab hB5 hb6 hB5.size
   refine⟨_,rfl,?_⟩
   exact bc.fin (K:=λvr wy=>(.tuple #[vr,.bool true]:Value)=.tuple #[(⟨1,Ef L n,ad0⟩:Hst).v,.bool true]/\bW w wy) (cs:=(⟨1,Ef L n,ad0⟩:Hst).cells) rfl (Hst.one _) (h45.below hb6) rfl hB6 hk λwy hb=>⟨rfl,hb⟩
theorem wG {h d:Hst}(oh:h.ok)(od:d.ok)(hn:h.name.length <=1000000000)(dn:d.name.length <=1000000000)(w:World)(he:Env w):Cf js #[h.v,d.v] w (Ret λv w'=>v=.bool (om h d)/\bW w w'):=by
 apply D0
 intro k2 w2 hk2 hw2
 have hB2:=(hw2▸ah w _:bW w w2)
 have h2:ai w2 k2 af h.cells:=ai.new hk2 hw2
 intro k3 w3 hk3 hw3
 have hb3:=(hw3▸ah w2 _:bW w2 w3)
 have hB3:=ab hB2 hb3 hB2.size
 have h3:ai w3 k3 af d.cells:=ai.new hk3 hw3
 have h23:=h2.below hb3
 have hd:bW w (World.drew w3):=ab hB3 (qL rfl rfl rfl (Nat.le_refl _) (λ_ _=>rfl)) hB3.size
 have d2:ai (World.drew w3) k2 af h.cells:=h23
 have d3:ai (World.drew w3) k3 af d.cells:=h3
 have ld2:=bc.load0 (P:=prog) d2 (Hst.len oh)
 have ld3:=bc.load0 (P:=prog) d3 (Hst.len od)
 have hll:=nj h
 have hld:=nj d
 have lab1:∀{Q:Nat->World->Prop},(∀wx,Below (World.drew w3).heap.size (World.drew w3) wx->Q (aO h).length wx)->
     Cf cr #[h.v] (World.drew w3) λe w'=>∃(a:Option Addr) (l c:Nat),e=.returned (.slice a l c)/\Q l w':=λhQ=>by
   refine aB (eS oh hn _ (he.step hd)) ?_
   rintro _ w4 ⟨a,l,c,rfl,ho,-,hb4⟩
   refine⟨_,_,_,rfl,?_⟩
   rw[ho.len]
   exact hQ w4 hb4
 have lab2:∀{Q:Nat->World->Prop} (wy:World),Below (World.drew w3).heap.size (World.drew w3) wy->(∀wx,Below (World.drew w3).heap.size (World.drew w3) wx->Q (aO d).length wx)->
     Cf cr #[d.v] wy λe w'=>∃(a:Option Addr) (l c:Nat),e=.returned (.slice a l c)/\Q l w':=λwy hwy hQ=>by
   refine aB (eS od dn wy (he.step (ab hd hwy hd.size))) ?_
   rintro _ w4 ⟨a,l,c,rfl,ho,-,hb4⟩
   refine⟨_,_,_,rfl,?_⟩
   rw[ho.len]
   exact hQ w4 (ab hwy hb4 hwy.size)
 have rest:∀wx,Below (World.drew w3).heap.size (World.drew w3) wx->∃J:FP [],
     (ae ((((aO d).length:Nat):Int)==(0:Int)) ((.bool false:Value)=.bool (om h d)/\bW w wx)
       (ae (decide ((((aO d).length:Nat):Int) >=(((aO h).length:Nat):Int))) ((.bool false:Value)=.bool (om h d)/\bW w wx) (J wx)))/\
     aN 11 (∀(wj:World),J wj->∃(v24:Value),(Instr.loadAt af (.pointer (some ⟨k2,0,none⟩))).run prog wj=.ok v24 wj/\
       Cf kG #[v24,vI (((aO d).length:Nat):Int)] wj λe27 w27=>∃(v27_0:Value) (b27_1:Bool),e27=.returned (.tuple #[v27_0,.bool b27_1])/\
       ∀(k7:Nat) (w7:World),k7=w27.heap.size->w7=w27.alloc (.cells cq af)->
       ∃(wx:World),(Instr.storeAt af (.pointer (some ⟨k7,0,none⟩)) v27_0).run prog w7=.ok () wx/\
       ∃(v30:Value),(Instr.loadAt af (.pointer (some ⟨k7,0,none⟩))).run prog wx=.ok v30 wx/\
       ∃(v31:Value),(Instr.loadAt af (.pointer (some ⟨k3,0,none⟩))).run prog wx=.ok v31 wx/\
       ∃(b32:Bool),((do eqGuard .eql af (.tmp 30) (.tmp 31) v30 v31;binOp .eql af v30 v31:Sem Value)).run prog wx=.ok (.bool b32) wx/\
       ((.bool b32:Value)=.bool (om h d)/\bW w wx)):=λwx hbx=>by
   have hBx:=ab hd hbx hd.size
   have u:om h d=if(aO d).length=0\/(aO h).length <=(aO d).length then false else pK ⟨1,Ef (aO h) (aO d).length,ad0⟩ d:=rfl
   refine wu (w:=wx) (¬ ((aO d).length=0\/(aO h).length <=(aO d).length)) ?_ (λhc=>?_)
   · refine ae.of (λc1=>⟨?_,hBx⟩) (λc1=>ae.of (λc2=>⟨?_,hBx⟩) (λc2=>⟨rfl,?_⟩))
     · rw[u,if_pos (.inl (by simp at c1;simp[c1]))]
     · rw[u,if_pos (.inr (by simp at c2;omega))]
     · simp at c1 c2
       rintro(hx|hx)
       · exact c1 (List.length_eq_zero_iff.1 hx)
       · omega
   · refine⟨_,bc.load0 (d2.below hbx) (Hst.len oh),?_⟩
     refine aB (HO oh hn (aO d).length (by omega) wx (he.step hBx)) ?_
     rintro _ w6 ⟨rfl,hb6⟩
     have hB6:=ab hBx hb6 hBx.size
     have et:Un (aO h) (aO d).length=.tuple #[(⟨1,Ef (aO h) (aO d).length,ad0⟩:Hst).v,.bool true]:=if_pos ⟨by omega,by omega⟩
     rw[et,u,if_neg hc]
     refine⟨_,_,rfl,?_⟩
     refine bc.new (zs:=nJ.cells) (cs:=(⟨1,Ef (aO h) (aO d).length,ad0⟩:Hst).cells) rfl rfl (Hst.one _) w6 λk7 w7 hk7 h7 hb7=>?_
     have hB7:=ab hB6 hb7 hB6.size
     exact⟨_,bc.load0 h7 rfl,_,bc.load0 (((d3.below hbx).below hb6).below hb7) (Hst.len od),_,KO (show(⟨1,Ef (aO h) (aO d).length,ad0⟩:Hst).ok from rfl) od w7,rfl,hB7⟩
 refine⟨⟨_,ld2,?_,_,ld3,?_⟩,_,ld3,_,ld2,?_⟩
 · exact lab1 λwx hbx=>⟨_,bc.load0 (d3.below hbx) (Hst.len od),lab2 wx hbx rest⟩
 · exact lab1 λwx hbx=>lab2 wx hbx rest
 · exact lab1 λwx hbx=>lab2 wx hbx rest
theorem Eb (a:Option Addr)(b c:Nat){w K}(h:nA w (.map #[] 0) λd e=>∃f g i j,(Instr.makeSlice bU (vI 1) (vI 1)).run prog e=.ok (.slice g i j) f/\nA f (.cells #[.map (some d),.slice g i j] bC) λk l=>∃m:Nat->FP [.one (.int .i64)],(∃n,m n (0:Int) l)/\∀n o,aN 28 (∀p,m n o p->ae (decide (o<((b:Nat):Int))) ((bx o ((b:Nat):Int)/\Option.isSome a=true)/\∃q r,Ld aE (am a o 2) p (.agg #[vI q,vS r])/\nA p (.cells #[vI 0,vS []] aE) λs t=>∃u,Sv aE (vA s 0) (.agg #[vI q,vS r]) t u/\∃v x,Ld aE (vA s 0) u (.agg #[vI v,vS x])/\uS vg #[.agg #[vI v,vS x]] u λy z=>Cf qE #[vS y] z λA B=>∃C D E F,A=rT #[.agg #[vI C,vS D],.bool E,vI F]/\nA B (.cells #[vI 0,vS []] aE) λG H=>∃I,Sv aE (vA G 0) (.agg #[vI C,vS D]) H I/\∃J:FP [.one .bool],(ae (F==(0:Int)) (ae E (∃L M,Ld aE (vA G 0) I (.agg #[vI L,vS M])/\∃N O,Ld aE (vA s 0) I (.agg #[vI N,vS O])/\∃P,(do eqGuard .eql aE (.tmp 32) (.tmp 33) (.agg #[vI L,vS M]) (.agg #[vI N,vS O]);binOp .eql aE (.agg #[vI L,vS M]) (.agg #[vI N,vS O]):Sem Value).run prog I=.ok (.bool P) I/\J P I) (J false I)) (J false I))/\∀L,aN 9 (∀M,J L M->ae L (∃N O,Ld aE (vA s 0) M (.agg #[vI N,vS O])/\uU jP #[.pointer (vA k 0),.agg #[vI N,vS O]] M λP=>∃Q:Nat,Q<n/\m Q (i64.wrap (o+(1:Int))) P) (∃N:Nat,N<n/\m N (i64.wrap (o+(1:Int))) M))) (K (.pointer (vA k 0)) p))):Cf sn #[.slice a b c] w (Ret K):=ru func36 [(8,[(15,.one (.int .i64))]),(21,[(35,.one .bool)])] h
theorem qS (a:Option Addr)(b:Value){w K}(h:nA w (.cells (Value.cells b) af) λc d=>∃e,Ld af (vA c 0) d e/\uL cr #[e] d λf g i j=>∃k,(Builtin.min_ #[aP,aP] aP #[vI 1,vI ((g:Nat):Int)]).run prog j=.ok (vI k) j/\∃l:FP [.one (.int .i64),.one (.int .i64)],(∃m:Nat->FP [.one (.int .i64),.one (.int .i64),.one (.int .i64),.one (.int .i64)],(∃n,m n (0:Int) k (0:Int) (1:Int) j)/\∀n o p q r,aN 56 (∀s,m n o p q r s->ae (decide (r <=((g:Nat):Int))) (∃t:FP [.one (.int .i64)],((Option.isSome a=true)/\(Option.isSome a=true)/\∃u v x,Ld bU (Option.map (λy=>y.add 1) a) s (.slice u v x)/\(bx o ((v:Nat):Int)/\Option.isSome u=true)/\(bx (2:Int) ((4:Nat):Int)/\isSome (am u o 4))/\∃y,Ld cd (am (am u o 4) (2:Int) 1) s (.bool y)/\ae y (t r s) (t p s))/\∀u,aN 9 (∀v,t u v->(Option.isSome a=true)/\(Option.isSome a=true)/\∃x,(∀y,bW v y->Ld bF (Option.map (λz=>z.add 0) a) y (.map x))/\(bx (i64.wrap (((g:Nat):Int)-r)) ((g:Nat):Int)/\Option.isSome f=true)/\∃y,(∀z,bW v z->Ld ak (am f (i64.wrap (((g:Nat):Int)-r)) 1) z (vS y))/\∃z A,(∀B,bW v B->(Instr.lookup bF (.map x) (.agg #[vI o,vS y]) true).run prog B=.ok (.tuple #[vI z,.bool A]) B)/\∀B,bW v B->ae (!A) (l u q B) (∃C:FP [.one (.int .i64)],((Option.isSome a=true)/\(Option.isSome a=true)/\∃D E F,Ld bU (Option.map (λG=>G.add 1) a) B (.slice D E F)/\(bx z ((E:Nat):Int)/\Option.isSome D=true)/\(bx (1:Int) ((4:Nat):Int)/\isSome (am D z 4))/\∃G,Ld cd (am (am D z 4) (1:Int) 1) B (.bool G)/\ae G (C r B) (C u B))/\∀D,aN 9 (∀E,C D E->(Option.isSome a=true)/\(Option.isSome a=true)/\∃F G H,Ld bU (Option.map (λI=>I.add 1) a) E (.slice F G H)/\(bx z ((G:Nat):Int)/\Option.isSome F=true)/\(bx (3:Int) ((4:Nat):Int)/\isSome (am F z 4))/\∃I,Ld cd (am (am F z 4) (3:Int) 1) E (.bool I)/\ae I (∃J:Nat,J<n/\m J z D (i64.wrap (r-(1:Int))) (i64.wrap (r+(1:Int))) E) (∃J:Nat,J<n/\m J z D q (i64.wrap (r+(1:Int))) E))))) (l p q s)))/\∀m n,aN 58 (∀o,l m n o->ae (decide (n>(0:Int))) (K (vI n) o) (K (vI m) o))):Cf iC #[.pointer a,b] w (Ret K):=ru func59 [(6,[(7,.one (.int .i64)),(8,.one (.int .i64))]),(10,[(6,.one (.int .i64)),(7,.one (.int .i64)),(8,.one (.int .i64)),(9,.one (.int .i64))]),(19,[(7,.one (.int .i64))]),(35,[(7,.one (.int .i64))])] h
theorem Gr (a:lU){w K}(h:nA w (.cells #[vI 0,vS []] aE) λb c=>uS jt #[vS a] c λd e=>∃f:FP [],(∃g:FP [.one .bool],(ae (d==[]) (g true e) (uB cJ #[vS d,vS [47,47]] e λi j=>g i j))/\∀i,aN 5 (∀j,g i j->ae i (∃k,Sv aE (vA b 0) (.agg #[vI 0,vS []]) j k/\∃l m,Rv aE (vA b 0) k (.agg #[vI l,vS m])/\K (.tuple #[.agg #[vI l,vS m],.bool false,vI 0]) k) (f j)))/\aN 9 (∀g,f g->∃i:FP [.one .str],(uI fq #[vS d,vS [32,9]] g λj k=>ae (decide (j >=(0:Int))) (bd j (((List.length d):Nat):Int)/\∀l,l=(List.take (Int.toNat j) d)->i l k) (i d k))/\∀j,aN 8 (∀k,i j k->Cf qG #[vS j] k λl m=>∃n o,l=rT #[vI n,vS o]/\Cf iv #[vS o] m λp q=>∃r s,p=rT #[r,vI s]/\nA q (.cells cq af) λt u=>∃v,Sv af (vA t 0) r u v/\∃x:FP [],(∃y:FP [.one .bool],(ae (s !=(0:Int)) (y true v) (true/\∃z,Ld aP (vA t 0) v (vI z)/\ae (z !=(1:Int)) (y true v) (ae (n==(3:Int)) (∃A,Ld af (vA t 0) v A/\uL cr #[A] v λB C D E=>y (decide (((C:Nat):Int)<(2:Int))) E) (y false v))))/\∀z,aN 16 (∀A,y z A->ae z (∃B,Sv aE (vA b 0) (.agg #[vI 0,vS []]) A B/\∃C D,Rv aE (vA b 0) B (.agg #[vI C,vS D])/\K (.tuple #[.agg #[vI C,vS D],.bool false,vI 51]) B) (x A)))/\aN 20 (∀y,x y->true/\∃z,Ld ak (vA t 1) y (vS z)/\∃A,Sv aE (vA b 0) (.agg #[vI n,vS z]) y A/\∃B C,Rv aE (vA b 0) A (.agg #[vI B,vS C])/\K (.tuple #[.agg #[vI B,vS C],.bool true,vI 0]) A)))):Cf qE #[vS a] w (Ret K):=ru func77 [(4,[]),(5,[(17,.one .bool)]),(12,[(0,.one .str)]),(24,[]),(25,[(52,.one .bool)])] h
theorem Gs (a:Int)(b:lU){w K}(h:nA w (.cells #[vI a,vS b] aE) λc d=>true/\∃e,(∀f,bW d f->Ld aP (vA c 0) f (vI e))/\∃f,(∀g,bW d g->Cf qH #[vI e] g λi j=>i=.returned (vS f)/\Below d.heap.size g j)/\true/\∃g,(∀i,bW d i->Ld ak (vA c 1) i (vS g))/\(((List.length f+List.length g:Nat):Int) <=i64.max)/\∀i,i=(f++g)->∀j,bW d j->K (vS i) j):Cf vg #[.agg #[vI a,vS b]] w (Ret K):=ru func83 [] h
theorem uj (a:Option Addr)(b:Int)(c:lU){w K}(h:nA w (.cells #[vI b,vS c] aE) λd e=>true/\∃f,Ld ak (vA d 1) e (vS f)/\uL du #[vS f,.int .u8 46] e λg i j k=>∃l:Nat->FP [.one (.int .i64),.one (.int .i64)],(∃m,l m (0:Int) (i64.wrap (((i:Nat):Int)-(1:Int))) k)/\∀m n o,aN 50 (∀p,l m n o p->ae (decide (o >=(0:Int))) ((bx o ((i:Nat):Int)/\Option.isSome g=true)/\∃q,Ld ak (am g o 1) p (vS q)/\nA p (.cells #[vI 0,vS []] cP) λr s=>∃t,Sv cP (vA r 0) (.agg #[vI n,vS q]) s t/\∃u:FP [],((Option.isSome a=true)/\(Option.isSome a=true)/\∃v,(∀x,bW t x->Ld bF (Option.map (λy=>y.add 0) a) x (.map v))/\∃x y,(∀z,bW t z->Ld cP (vA r 0) z (.agg #[vI x,vS y]))/\∃z A,(∀B,bW t B->(Instr.lookup bF (.map v) (.agg #[vI x,vS y]) true).run prog B=.ok (.tuple #[vI z,.bool A]) B)/\∀B,bW t B->ae (!A) ((Option.isSome a=true)/\(Option.isSome a=true)/\∃C,(∀D,bW B D->Ld bF (Option.map (λE=>E.add 0) a) D (.map C))/\∃D E,(∀F,bW B F->Ld cP (vA r 0) F (.agg #[vI D,vS E]))/\(Option.isSome a=true)/\(Option.isSome a=true)/\∃F G H,(∀I,bW B I->Ld bU (Option.map (λJ=>J.add 1) a) I (.slice F G H))/\∀I,bW B I->∃J,(Instr.mapUpdate bF (.map C) (.agg #[vI D,vS E]) (vI ((G:Nat):Int))).run prog I=.ok () J/\(Option.isSome a=true)/\(Option.isSome a=true)/\∃L M N,Ld bU (Option.map (λO=>O.add 1) a) J (.slice L M N)/\nA J (.cells #[.bool false,.bool false,.bool false,.bool false] bP) λO P=>∃Q R S T,(Builtin.append_ #[bU,bU] bU #[.slice L M N,.slice (vA O 0) 1 1]).run prog P=.ok (.slice R S T) Q/\(Option.isSome a=true)/\(Option.isSome a=true)/\∃U,Sv bU (Option.map (λV=>V.add 1) a) (.slice R S T) Q U/\u U) (u B))/\aN 33 (∀v,u v->(Option.isSome a=true)/\(Option.isSome a=true)/\∃x,(∀y,bW v y->Ld bF (Option.map (λz=>z.add 0) a) y (.map x))/\∃y z,(∀A,bW v A->Ld cP (vA r 0) A (.agg #[vI y,vS z]))/\∃A,(∀B,bW v B->(Instr.lookup bF (.map x) (.agg #[vI y,vS z]) false).run prog B=.ok (vI A) B)/\∀B,bW v B->∃C:Nat,C<m/\l C A (i64.wrap (o-(1:Int))) B)) ((Option.isSome a=true)/\(Option.isSome a=true)/\∃q r s,(∀t,bW p t->Ld bU (Option.map (λu=>u.add 1) a) t (.slice q r s))/\true/\∃t,(∀u,bW p u->Ld aP (vA d 0) u (vI t))/\(bx n ((r:Nat):Int)/\Option.isSome q=true)/\(bx t ((4:Nat):Int)/\isSome (am q n 4))/\∀u,bW p u->∃v,Sv cd (am (am q n 4) t 1) (.bool true) u v/\K (.tuple #[]) v))):Cf jP #[.pointer a,.agg #[vI b,vS c]] w (Ret K):=ru func84 [(10,[(4,.one (.int .i64)),(6,.one (.int .i64))]),(21,[]),(2000028,[(10,.one .bool)]),(2000033,[(9,.one .bool)])] h
theorem Ip (a:lU){w K}(h:∃b:FP [],(ae (a==[]) (K (.bool false) w) (ae (decide (((List.length a:Nat):Int)>(2048:Int))) (K (.bool false) w) (bx (0:Int) ((List.length a:Nat):Int)/\ae ((eF a (0:Int)) !=(47:Int)) (K (.bool false) w) (b w))))/\aN 13 (∀c,b c->∃d e f g,(convert ak aY (vS a)).run prog c=.ok (.slice e f g) d/\∃i:Nat->FP [.one (.int .i64)],(∃j,i j (0:Int) d)/\∀j k,aN 20 (∀l,i j k l->ae (decide (k<((f:Nat):Int))) ((bx k ((f:Nat):Int)/\Option.isSome e=true)/\∃m,Ld bX (am e k 1) l (.int .u8 m)/\ae (decide (m<(33:Int))) (K (.bool false) l) (ae (decide (m>(126:Int))) (K (.bool false) l) (ae (m==(63:Int)) (K (.bool false) l) (ae (m==(35:Int)) (K (.bool false) l) (∃n:Nat,n<j/\i n (i64.wrap (k+(1:Int))) l))))) (K (.bool true) l)))):Cf mE #[vS a] w (Ret K):=ru func97 [(2,[]),(14,[(20,.one (.int .i64))])] h
theorem DR (a:Option Addr)(b:Value)(c d e f:lU)(g:Bool)(i:Int)(j:Bool)(k:Int)(l m:Bool)(n o:Int){w K}(h:nA w (.cells (Value.cells b) bt) λp q=>nA q (.cells #[vS c,vS d,vS e,vS f,.bool g,vI i,.bool j,vI k,.bool l,.bool m,vI n] az) λr s=>nA s (.cells nT br) λt u=>∃v,Ld bt (vA p 0) u v/\∃x y z A B C D E F G H,Ld az (vA r 0) u (hV x y z A B C D E F G H)/\uI qp #[v,(hV x y z A B C D E F G H),vI o] u λI J=>ae (I !=(0:Int)) (∃L,Sv br (vA t 0) (.agg nT) J L/\∃M,Rv br (vA t 0) L M/\K (.tuple #[M,vI I]) L) (true/\∃L,Ld af (vA p 1) J L/\true/\∃M,Ld ak (vA r 2) J (vS M)/\Cf oN #[.pointer a,L,vS M] J λN O=>∃P Q R,N=rT #[P,.bool Q,vI R]/\nA O (.cells cq af) λS T=>∃U,Sv af (vA S 0) P T U/\∃V:FP [.one (.int .i64)],(ae (R !=(0:Int)) (V R U) (∃X:FP [.one .bool],(true/\∃Y,Ld cd (vA r 8) U (.bool Y)/\ae Y (true/\∃Z,Ld cd (vA p 0) U (.bool Z)/\X (!Z) U) (X false U))/\∀Y,aN 7 (∀Z,X Y Z->ae Y (V (104:Int) Z) (∃aa:FP [.one .bool],(true/\∃ac,Ld aP (vA r 10) Z (vI ac)/\ae (ac==(1:Int)) (true/\∃ad,Ld cd (vA r 8) Z (.bool ad)/\aa (!ad) Z) (aa false Z))/\∀ac,aN 8 (∀ad,aa ac ad->ae ac (V (105:Int) ad) (∃ag al an ba bb bd bj bk bl bo bq,Ld az (vA r 0) ad (hV ag al an ba bb bd bj bk bl bo bq)/\uB oK #[(hV ag al an ba bb bd bj bk bl bo bq),.bool Q] ad λbs bu=>ae bs (V (106:Int) bu) (V R bu)))))))/\∀X,aN 24 (∀Y,V X Y->ae (X !=(0:Int)) (∃Z,Sv br (vA t 0) (.agg nT) Y Z/\∃aa,Rv br (vA t 0) Z aa/\K (.tuple #[aa,vI X]) Z) (true/\∃Z,Ld ak (vA r 3) Y (vS Z)/\∃aa:FP [.one .str],(ae (Z==[]) (true/\∃ac,Ld ak (vA p 20) Y (vS ac)/\uS mP #[vS ac] Y λad ag=>aa ad ag) (aa Z Y))/\∀ac,aN 5 (∀ad,aa ac ad->true/\∃ag,(∀al,bW ad al->Ld ak (vA r 0) al (vS ag))/\true/\∃al,(∀an,bW ad an->Ld ak (vA r 1) an (vS al))/\∃an,(∀ba,bW ad ba->Ld af (vA S 0) ba an)/\true/\∃ba,(∀bb,bW ad bb->Ld cd (vA r 8) bb (.bool ba))/\true/\∃bb,(∀bd,bW ad bd->Ld cd (vA r 9) bd (.bool bb))/\true/\∃bd,(∀bj,bW ad bj->Ld aP (vA r 10) bj (vI bd))/\∃bj bk bl bo bq bs bu bw bx bz cb,(∀cc,bW ad cc->Ld az (vA r 0) cc (hV bj bk bl bo bq bs bu bw bx bz cb))/\∃cc,(∀cf,bW ad cf->Cf mL #[(hV bj bk bl bo bq bs bu bw bx bz cb),vI o] cf λch ck=>ch=.returned (vI cc)/\Below ad.heap.size cf ck)/\∃cf,(∀ch,bW ad ch->(Instr.build br #[(0,vS ag),(1,vS al),(2,an),(3,.bool Q),(4,vS ac),(5,.bool ba),(6,.bool bb),(7,vI bd),(8,vI cc),(9,vI o),(10,vI o)]).run prog ch=.ok cf ch)/\∀ch,bW ad ch->∃ck,Sv br (vA t 0) cf ch ck/\∃cl,Rv br (vA t 0) ck cl/\K (.tuple #[cl,vI 0]) ck))))):Cf sb #[.pointer a,b,.agg #[vS c,vS d,vS e,vS f,.bool g,vI i,.bool j,vI k,.bool l,.bool m,vI n],vI o] w (Ret K):=ru func109 [(14,[(13,.one (.int .i64))]),(20,[(36,.one .bool)]),(24,[(44,.one .bool)]),(43,[(14,.one .str)]),(2000050,[(19,.one .bool)])] h
theorem CR (a:lU){w K}(h:∃b:Nat->FP [.one (.int .i64)],(∃c,b c (0:Int) w)/\∀c d,aN 18 (∀e,b c d e->ae (decide (d<(2:Int))) (∃f,(Instr.index Lt (.agg #[vI 2,vI 3]) (vI d)).run prog e=.ok (vI f) e/\uS qH #[vI f] e λg i=>Cf cI #[vS a,vS g] i λj k=>∃l m,j=rT #[vS l,.bool m]/\ae m (K (.tuple #[vI f,vS l]) k) (∃n:Nat,n<c/\b n (i64.wrap (d+(1:Int))) k)) (K (.tuple #[vI 1,vS a]) e))):Cf qG #[vS a] w (Ret K):=ru func154 [(6,[(9,.one (.int .i64))])] h
def zE (a:Int)(b:World)(c:VP):Prop:=ae (a==(2:Int)) (c (vS [42,46]) b) (ae (a==(3:Int)) (c (vS [33]) b) (c (vS []) b))
theorem Gt (a:Int){w K}(h:zE a w K):Cf qH #[vI a] w (Ret K):=ru func160 [] h
theorem CD (a:Value)(b c d e:lU)(f:Bool)(g:Int)(i:Bool)(j:Int)(k l:Bool)(m n:Int){w K}(h:nA w (.cells (Value.cells a) bt) λo p=>nA p (.cells #[vS b,vS c,vS d,vS e,.bool f,vI g,.bool i,vI j,.bool k,.bool l,vI m] az) λq r=>∃s,Ld bt (vA o 0) r s/\uB vj #[s] r λt u=>ae (!t) (K (vI 41) u) (∃v x y z A B C D E F G,Ld az (vA q 0) u (hV v x y z A B C D E F G)/\uB oO #[(hV v x y z A B C D E F G)] u λH I=>ae (!H) (K (vI 82) I) (ae (decide (n<(0:Int))) (K (vI 122) I) (ae (decide (n>(1099511627776:Int))) (K (vI 122) I) (K (vI 0) I))))):Cf qp #[a,.agg #[vS b,vS c,vS d,vS e,.bool f,vI g,.bool i,vI j,.bool k,.bool l,vI m],vI n] w (Ret K):=ru func187 [] h
theorem Ac (a:Option Addr)(b:Value)(c:lU){w K}(h:nA w (.cells (Value.cells b) af) λd e=>nA e (.cells cq af) λf g=>ae (c==[]) (∃i,Ld af (vA d 0) g i/\∃j,Sv af (vA f 0) i g j/\∃k,Rv af (vA f 0) j k/\K (.tuple #[k,.bool true,vI 0]) j) (Cf iv #[vS c] g λi j=>∃k l,i=rT #[k,vI l]/\nA j (.cells cq af) λm n=>∃o,Sv af (vA m 0) k n o/\∃p:FP [],(ae (l !=(0:Int)) (∃q,Ld af (vA m 0) o q/\∃r,Sv af (vA f 0) q o r/\∃s,Rv af (vA f 0) r s/\K (.tuple #[s,.bool false,vI 101]) r) (∃q:FP [.one .bool],(∃r,Ld af (vA m 0) o r/\uB dh #[.pointer a,r] o λs t=>ae s (∃u,Ld af (vA m 0) t u/\∃v,Ld af (vA d 0) t v/\∃x,(do eqGuard .neq af (.tmp 28) (.tmp 29) u v;binOp .neq af u v:Sem Value).run prog t=.ok (.bool x) t/\q x t) (q false t))/\∀r,aN 8 (∀s,q r s->ae r (∃t,Ld af (vA m 0) s t/\∃u,Sv af (vA f 0) t s u/\∃v,Rv af (vA f 0) u v/\K (.tuple #[v,.bool false,vI 102]) u) (∃t,Ld af (vA d 0) s t/\∃u,Ld af (vA m 0) s u/\uB oQ #[t,u] s λv x=>ae (!v) (∃y,Ld af (vA m 0) x y/\∃z,Sv af (vA f 0) y x z/\∃A,Rv af (vA f 0) z A/\K (.tuple #[A,.bool false,vI 103]) z) (p x)))))/\aN 22 (∀q,p q->(∃r,Ld af (vA m 0) (World.drew q) r/\∃s,Ld af (vA m 0) (World.drew q) s/\uB dh #[.pointer a,s] (World.drew q) λt u=>∃v,Sv af (vA f 0) r u v/\∃x,Rv af (vA f 0) v x/\K (.tuple #[x,.bool t,vI 0]) v)/\∃r,Ld af (vA m 0) (World.drew q) r/\(∃s,Ld af (vA m 0) (World.drew q) s/\uB dh #[.pointer a,r] (World.drew q) λt u=>∃v,Sv af (vA f 0) s u v/\∃x,Rv af (vA f 0) v x/\K (.tuple #[x,.bool t,vI 0]) v)/\uB dh #[.pointer a,r] (World.drew q) λs t=>∃u,Ld af (vA m 0) t u/\∃v,Sv af (vA f 0) u t v/\∃x,Rv af (vA f 0) v x/\K (.tuple #[x,.bool s,vI 0]) v))):Cf oN #[.pointer a,b,vS c] w (Ret K):=ru func188 [(12,[]),(20,[(23,.one .bool)])] h
theorem Ab (a b c d:lU)(e:Bool)(f:Int)(g:Bool)(i:Int)(j k:Bool)(l:Int)(m:Bool){w K}(h:nA w (.cells #[vS a,vS b,vS c,vS d,.bool e,vI f,.bool g,vI i,.bool j,.bool k,vI l] az) λn o=>true/\∃p,Ld ak (vA n 0) o (vS p)/\∃q:FP [.one .str],(ae (p==[]) (true/\∃r,Ld ak (vA n 1) o (vS r)/\q r o) (q p o))/\∀r,aN 4 (∀s,q r s->uI oJ #[vS r] s λt u=>ae (t==(1:Int)) (true/\∃v,Ld cd (vA n 8) u (.bool v)/\K (.bool (!v)) u) (ae (t==(2:Int)) (true/\∃v,Ld cd (vA n 8) u (.bool v)/\ae (!v) (K (.bool true) u) (ae (!m) (K (.bool true) u) (true/\∃x,Ld ak (vA n 3) u (vS x)/\K (.bool (!(x==[47]))) u))) (K (.bool false) u)))):Cf oK #[.agg #[vS a,vS b,vS c,vS d,.bool e,vI f,.bool g,vI i,.bool j,.bool k,vI l],.bool m] w (Ret K):=ru func189 [(4,[(5,.one .str)])] h
theorem yw (a:lU){w K}(h:uI qI #[vS a,.int .u8 47] w λb c=>∃d:FP [.one .bool],(ae (decide (b>(0:Int))) (bx (0:Int) ((List.length a:Nat):Int)/\d ((eF a (0:Int))==(47:Int)) c) (d false c))/\∀e,aN 6 (∀f,d e f->ae e (bd b (((List.length a):Nat):Int)/\∀g,g=(List.take (Int.toNat b) a)->K (vS g) f) (K (vS [47]) f))):Cf mP #[vS a] w (Ret K):=ru func190 [(5,[(12,.one .bool)])] h
theorem yl (a b c d:lU)(e:Bool)(f:Int)(g:Bool)(i:Int)(j k:Bool)(l m:Int){w K}(h:nA w (.cells #[vS a,vS b,vS c,vS d,.bool e,vI f,.bool g,vI i,.bool j,.bool k,vI l] az) λn o=>true/\∃p,Ld cd (vA n 6) o (.bool p)/\ae p (true/\∃q,Ld jC (vA n 7) o (vI q)/\K (vI (i64.wrap (m+q))) o) (true/\∃q,Ld cd (vA n 4) o (.bool q)/\ae q (true/\∃r,Ld jC (vA n 5) o (vI r)/\∃s,(Builtin.min_ #[jC,jC] jC #[vI r,vI (i64.wrap (m+(34560000:Int)))]).run prog o=.ok (vI s) o/\K (vI s) o) (K (vI 9223372036854775807) o))):Cf mL #[.agg #[vS a,vS b,vS c,vS d,.bool e,vI f,.bool g,vI i,.bool j,.bool k,vI l],vI m] w (Ret K):=ru func191 [] h
theorem Gv (a:lU){w K}(h:nA w (.cells rQ bt) λb c=>Cf qJ #[vS a,vS [104,116,116,112,115,58,47,47]] c λd e=>∃f g,d=rT #[vS f,.bool g]/\∃i:FP [.one .str],(ae (!g) (Cf qJ #[vS a,vS [104,116,116,112,58,47,47]] e λj k=>∃l m,j=rT #[vS l,.bool m]/\ae (!m) (∃n,Sv bt (vA b 0) (.agg rQ) k n/\∃o,Rv bt (vA b 0) n o/\K (.tuple #[o,vI 41]) n) (i l k)) (i f e))/\∀j,aN 12 (∀k,i j k->uI fq #[vS j,vS [47,63,35]] k λl m=>∃n:FP [.one (.int .i64)],(ae (decide (l<(0:Int))) (n ((List.length j:Nat):Int) m) (n l m))/\∀o,aN 4 (∀p,n o p->Cf vn #[.bool g] p λq r=>∃s t,q=rT #[vS s,vI t]/\bd o (((List.length j):Nat):Int)/\∀u,u=(List.take (Int.toNat o) j)->Cf vm #[vS u,vI t] r λv x=>∃y z A,v=rT #[y,vI z,vI A]/\nA x (.cells cq af) λB C=>∃D,Sv af (vA B 0) y C D/\ae (A !=(0:Int)) (∃E,Sv bt (vA b 0) (.agg rQ) D E/\∃F,Rv bt (vA b 0) E F/\K (.tuple #[F,vI A]) E) (bd o (((List.length j):Nat):Int)/\∀E,E=(List.drop (Int.toNat o) j)->∃F:FP [.one .str],(uI fq #[vS E,vS [63,35]] D λG H=>ae (decide (G >=(0:Int))) (bd G (((List.length E):Nat):Int)/\∀I,I=(List.take (Int.toNat G) E)->F I H) (F E H))/\∀G,aN 8 (∀H,F G H->∃I:FP [.one .str],(ae (G==[]) (I [47] H) (I G H))/\∀J,aN 2 (∀L,I J L->uB mE #[vS J] L λM N=>ae (!M) (∃O,Sv bt (vA b 0) (.agg rQ) N O/\∃P,Rv bt (vA b 0) O P/\K (.tuple #[P,vI 43]) O) (∃O,Ld af (vA B 0) N O/\∃P,(Instr.build bt #[(0,.bool g),(1,O),(2,vI z),(3,vS J)]).run prog N=.ok P N/\∃Q,Sv bt (vA b 0) P N Q/\∃R,Rv bt (vA b 0) Q R/\K (.tuple #[R,vI 0]) Q))))))):Cf vi #[vS a] w (Ret K):=ru func251 [(4,[(4,.one .str)]),(22,[(7,.one (.int .i64))]),(42,[(13,.one .str)]),(50,[(13,.one .str)])] h
theorem Gw (a:Value){w K}(h:nA w (.cells (Value.cells a) bt) λb c=>true/\∃d,Ld af (vA b 1) c d/\uB jr #[d] c λe f=>ae e (true/\∃g,Ld aP (vA b 19) f (vI g)/\ae (decide (g >=(1:Int))) (true/\∃i,Ld aP (vA b 19) f (vI i)/\ae (decide (i <=(65535:Int))) (true/\∃j,Ld ak (vA b 20) f (vS j)/\uB mE #[vS j] f λk l=>K (.bool k) l) (K (.bool false) f)) (K (.bool false) f)) (K (.bool false) f)):Cf vj #[a] w (Ret K):=ru func270 [] h
theorem qR (a:Option Addr)(b:Value){w K}(h:nA w (.cells (Value.cells b) af) λc d=>∃e,Ld af (vA c 0) d e/\uL cr #[e] d λf g i j=>ae (decide (((g:Nat):Int)>(0:Int))) (∃k,Ld af (vA c 0) j k/\uI iC #[.pointer a,k] j λl m=>K (.bool (l==((g:Nat):Int))) m) (K (.bool false) j)):Cf dh #[.pointer a,b] w (Ret K):=ru func272 [] h
theorem Am (a b:Value){w K}(h:nA w (.cells (Value.cells a) af) λc d=>nA d (.cells (Value.cells b) af) λe f=>∃g,Ld af (vA c 0) f g/\∃i,Ld af (vA e 0) f i/\∃j,(do eqGuard .eql af (.tmp 5) (.tmp 6) g i;binOp .eql af g i:Sem Value).run prog f=.ok (.bool j) f/\ae j (∃k,Ld af (vA c 0) f k/\uB jr #[k] f λl m=>ae l (K (.bool true) m) (∃n,Ld af (vA c 0) m n/\∃o,Ld af (vA e 0) m o/\uB js #[n,o] m λp q=>K (.bool p) q)) (∃k,Ld af (vA c 0) f k/\∃l,Ld af (vA e 0) f l/\uB js #[k,l] f λm n=>K (.bool m) n)):Cf oQ #[a,b] w (Ret K):=ru func273 [] h
theorem Aa (a:lU){w K}(h:∃b:Nat->FP [.one (.int .i64)],(∃c,b c (0:Int) w)/\∀c d,aN 26 (∀e,b c d e->ae (decide (d<(3:Int))) (∃f,(Instr.index Fb (.agg #[vS [],vS [95,95,115,101,99,117,114,101,45],vS [95,95,104,111,115,116,45]]) (vI d)).run prog e=.ok (vS f) e/\ae (decide (d>(0:Int))) (ae (decide (((List.length a:Nat):Int) >=((List.length f:Nat):Int))) (bd ((List.length f:Nat):Int) (((List.length a):Nat):Int)/\∀g,g=(List.take (Int.toNat ((List.length f:Nat):Int)) a)->uS eJ #[vS g] e λi j=>ae (i==f) (K (vI d) j) (∃k:Nat,k<c/\b k (i64.wrap (d+(1:Int))) j)) (∃g:Nat,g<c/\b g (i64.wrap (d+(1:Int))) e)) (∃g:Nat,g<c/\b g (i64.wrap (d+(1:Int))) e)) (K (vI 0) e))):Cf oJ #[vS a] w (Ret K):=ru func274 [(6,[(6,.one (.int .i64))])] h
theorem Gx (a b:lU){w K}(h:∃c:FP [],(ae (decide (((List.length a:Nat):Int)<((List.length b:Nat):Int))) (K (.tuple #[vS a,.bool false]) w) (bd ((List.length b:Nat):Int) (((List.length a):Nat):Int)/\∀d,d=(List.take (Int.toNat ((List.length b:Nat):Int)) a)->uB lm #[vS d,vS b] w λe f=>ae (!e) (K (.tuple #[vS a,.bool false]) f) (c f)))/\aN 17 (∀d,c d->bd ((List.length b:Nat):Int) (((List.length a):Nat):Int)/\∀e,e=(List.drop (Int.toNat ((List.length b:Nat):Int)) a)->K (.tuple #[vS e,.bool true]) d)):Cf qJ #[vS a,vS b] w (Ret K):=ru func312 [(2,[])] h
theorem GA (a:Bool){w K}(h:ae a (K (.tuple #[vS [104,116,116,112,115,58,47,47],vI 443]) w) (K (.tuple #[vS [104,116,116,112,58,47,47],vI 80]) w)):Cf vn #[.bool a] w (Ret K):=ru func313 [] h
theorem Gz (a:lU)(b:Int){w K}(h:nA w (.cells cq af) λc d=>Cf vk #[vS a] d λe f=>∃g i,e=rT #[vS g,vS i]/\Cf iv #[vS g] f λj k=>∃l m,j=rT #[l,vI m]/\nA k (.cells cq af) λn o=>∃p,Sv af (vA n 0) l o p/\∃q:FP [],(∃r:FP [.one .bool],(ae (m !=(0:Int)) (r true p) (ae (!(i==[])) (bx (0:Int) ((List.length i:Nat):Int)/\r ((eF i (0:Int)) !=(58:Int)) p) (r false p)))/\∀s,aN 10 (∀t,r s t->ae s (∃u,Sv af (vA c 0) (.agg cq) t u/\∃v,Rv af (vA c 0) u v/\K (.tuple #[v,vI 0,vI 31]) u) (q t)))/\aN 14 (∀r,q r->ae (i==[]) (∃s,Ld af (vA n 0) r s/\∃t,Sv af (vA c 0) s r t/\∃u,Rv af (vA c 0) t u/\K (.tuple #[u,vI b,vI 0]) t) (bd (1:Int) (((List.length i):Nat):Int)/\∀s,s=(List.drop (Int.toNat 1) i)->Cf jd #[vS s] r λt u=>∃v x,t=rT #[vI v,.bool x]/\∃y:FP [],(∃z:FP [.one .bool],(ae (!x) (z true u) (ae (decide (v<(1:Int))) (z true u) (z (decide (v>(65535:Int))) u)))/\∀A,aN 9 (∀B,z A B->ae A (∃C,Sv af (vA c 0) (.agg cq) B C/\∃D,Rv af (vA c 0) C D/\K (.tuple #[D,vI 0,vI 42]) C) (y B)))/\aN 13 (∀z,y z->∃A,Ld af (vA n 0) z A/\∃B,Sv af (vA c 0) A z B/\∃C,Rv af (vA c 0) B C/\K (.tuple #[C,vI v,vI 0]) B)))):Cf vm #[vS a,vI b] w (Ret K):=ru func314 [(6,[]),(7,[(33,.one .bool)]),(24,[]),(25,[(54,.one .bool)])] h
theorem Gy (a:lU){w K}(h:uB cJ #[vS a,vS [91]] w λb c=>ae b (uI dH #[vS a,.int .u8 93] c λd e=>ae (decide (d >=(0:Int))) (bd (i64.wrap (d+(1:Int))) (((List.length a):Nat):Int)/\∀f,f=(List.take (Int.toNat (i64.wrap (d+(1:Int)))) a)->bd (i64.wrap (d+(1:Int))) (((List.length a):Nat):Int)/\∀g,g=(List.drop (Int.toNat (i64.wrap (d+(1:Int)))) a)->∀i,bW e i->K (.tuple #[vS f,vS g]) i) (K (.tuple #[vS a,vS []]) e)) (uI dH #[vS a,.int .u8 58] c λd e=>ae (decide (d >=(0:Int))) (bd d (((List.length a):Nat):Int)/\∀f,f=(List.take (Int.toNat d) a)->bd d (((List.length a):Nat):Int)/\∀g,g=(List.drop (Int.toNat d) a)->∀i,bW e i->K (.tuple #[vS f,vS g]) i) (K (.tuple #[vS a,vS []]) e))):Cf vk #[vS a] w (Ret K):=ru func343 [] h
def wR (c:UInt8):Bool:= !(decide (((c.toNat:Nat):Int)<33) || (decide (((c.toNat:Nat):Int)>126) || (c==63 || c==35)))
def ug (s:List UInt8):Bool:=decide (s.head?=some 47)&&(decide (s.length <=2048)&&s.all wR)
structure Url where
 sec:Bool
 host:Hst
 port:Int
 path:List UInt8
def Url.cells (u:Url):List Value:=.bool u.sec::(u.host.cells++[vI u.port,vS u.path])
def Url.v (u:Url):Value:=.agg u.cells.toArray
def AZ:Url:=⟨false,nJ,0,[]⟩
def Url.ok (u:Url):Prop:=u.host.ok
theorem Url.len {u:Url}(o:u.ok):u.cells.length=21:=by unfold Url.cells;rw[List.length_cons,List.length_append,Hst.len o];rfl
theorem Url.one (u:Url):vX u.cells:=aJ rfl (sD (Hst.one _) (aJ rfl (aJ rfl gX)))
theorem Ba {u:Url}(o:u.ok){j:Nat}(h:j<18):u.cells[1+j]? =u.host.cells[j]? :=by
 unfold Url.cells
 rw[Nat.add_comm,List.getElem?_cons_succ,List.getElem?_append_left (by rw[Hst.len o];exact h)]
theorem Lr {u:Url}(o:u.ok):u.cells[19]? =some (vI u.port):=by
 unfold Url.cells
 rw[List.getElem?_cons_succ,List.getElem?_append_right (by rw[Hst.len o];exact Nat.le_refl _),Hst.len o];rfl
theorem GL {u:Url}(o:u.ok):u.cells[20]? =some (vS u.path):=by
 unfold Url.cells
 rw[List.getElem?_cons_succ,List.getElem?_append_right (by rw[Hst.len o];decide),Hst.len o];rfl
def Pm (u:Url):Bool:=eQ u.host&&(decide (u.port >=1)&&(decide (u.port <=65535)&&ug u.path))
def ft (p s:List UInt8):Nat:=(s.takeWhile λc=> !p.contains c).length
theorem wv (p s:List UInt8):ft p s <=s.length:=nY _ _
def UW (s:List UInt8):Option (List UInt8×Bool):=
 if eH (s.take 7)=[104,116,116,112,58,47,47]then some (s.drop 7,false)else if eH (s.take 8)=[104,116,116,112,115,58,47,47]then some (s.drop 8,true)else none
def ia (p:List UInt8):Nat:=if p.head?=some 91 then min (ft [93] p+1) p.length else ft [58] p
def zV (p:List UInt8):Option Hst:=if p.drop (ia p)≠[]/\(p.drop (ia p)).head?≠some 58 then none else di (p.take (ia p))
def J2 (sec:Bool)(b:List UInt8):Option Int:=if b=[]then some (if sec then 443 else 80)else if JY (b.drop 1)/\1 <=lI (b.drop 1)/\lI (b.drop 1) <=65535 then some (lI (b.drop 1))else none
def F7 (r:List UInt8):List UInt8:=if r.take (ft [63,35] r)=[]then[47]else r.take (ft [63,35] r)
def Sx (r:List UInt8)(sec:Bool):Url×Int:=
 match zV (r.take (ft [47,63,35] r))with
 | none=>(AZ,31)
 | some h=>match J2 sec ((r.take (ft [47,63,35] r)).drop (ia (r.take (ft [47,63,35] r))))with
   | none=>(AZ,42)
   | some n=>if ug (F7 (r.drop (ft [47,63,35] r)))=true then(⟨sec,h,n,F7 (r.drop (ft [47,63,35] r))⟩,0)else(AZ,43)
def I9 (s:List UInt8):Url×Int:=match UW s with
 | none=>(AZ,41)
 | some (r,b)=>Sx r b
theorem KN {p:List UInt8}{h:Hst}(e:zV p=some h):h.ok:=by
 unfold zV at e
 split at e
 · cases e
 · exact jT e
theorem Uy (r:List UInt8)(b:Bool):(Sx r b).1.ok:=by
 unfold Sx
 split
 · rfl
 · rename_i h hh
   split
   · rfl
   · split
     · exact KN hh
     · rfl
theorem Uz (s:List UInt8):(I9 s).1.ok:=by
 unfold I9
 split
 · rfl
 · exact Uy _ _
theorem Q9 {s:List UInt8}{k:Nat}(hlt:k<s.length)(h:wR s[k]=false):ug s=false:=by
 have:s.all wR=false:=by
   rw[Bool.eq_false_iff];intro hx;rw[List.all_eq_true.1 hx _ (List.getElem_mem hlt)]at h;cases h
 unfold ug;rw[this,Bool.and_false,Bool.and_false]
theorem Ml (c:UInt8)(H:Prop)(hH:H){Y N:Prop}(hy:wR c=true->Y)(hn:wR c=false->N):
   ae (decide (((c.toNat:Nat):Int)<33)) N (H/\ae (decide (((c.toNat:Nat):Int)>126)) N (H/\ae (((c.toNat:Nat):Int)==(63:Int)) N (H/\ae (((c.toNat:Nat):Int)==(35:Int)) N Y))):=by
 have e63:=GK c 63
 have e35:=GK c 35
 rw[show(((63:UInt8).toNat:Nat):Int)=63 from rfl]at e63
 rw[show(((35:UInt8).toNat:Nat):Int)=35 from rfl]at e35
 rw[e63,e35]
 refine ae.of (λh=>hn ?_) (λh=>⟨hH,ae.of (λh2=>hn ?_) (λh2=>⟨hH,ae.of (λh3=>hn ?_) (λh3=>⟨hH,ae.of (λh4=>hn ?_) (λh4=>hy ?_)⟩)⟩)⟩)
 · unfold wR;rw[h];rfl
 · unfold wR;rw[h,h2];rfl
 · unfold wR;rw[h,h2,h3];rfl
 · unfold wR;rw[h,h2,h3,h4];rfl
 · unfold wR;rw[h,h2,h3,h4];rfl
theorem J0 (c:UInt8){Y N:Prop}(hy:wR c=true->Y)(hn:wR c=false->N):
   ae (decide (((c.toNat:Nat):Int)<33)) N (ae (decide (((c.toNat:Nat):Int)>126)) N (ae (((c.toNat:Nat):Int)==(63:Int)) N (ae (((c.toNat:Nat):Int)==(35:Int)) N Y))):=by
 have:=Ml c True trivial hy hn
 simpa only[true_and]using this
theorem zL:Whl prog bt 21:=⟨⟨_,_,Mx⟩,by kernel_rfl⟩
theorem qX (s:List UInt8)(w:World):Cf mE #[vS s] w (Ret λv w'=>v=.bool (ug s)/\bW w w'):=by
 apply Ip
 refine wu (w:=w) (s.head?=some 47/\s.length <=2048) ?_ ?_
 · refine ae.of (λh=>⟨?_,Below.refl _ _⟩) (λh=>?_)
   · have:s=[]:=by simpa using h
     subst this;rfl
   have hne:s≠[]:=by simpa using h
   have hl:0<s.length:=List.length_pos_iff.2 hne
   have hh:s.head?=some s[0]:=by rw[List.head?_eq_getElem?,List.getElem?_eq_getElem hl]
   refine ae.of (λh=>⟨?_,Below.refl _ _⟩) (λh2=>⟨⟨by decide,by omega⟩,?_⟩)
   · unfold ug;rw[decide_eq_false (p:=s.length <=2048) (by simp at h;omega),Bool.false_and,Bool.and_false]
   have hb:=byte_at (s:=s) (k:=0) hl
   rw[show((0:Nat):Int)=0 from rfl]at hb
   have hu:=GK s[0] 47
   rw[show(((47:UInt8).toNat:Nat):Int)=47 from rfl]at hu
   simp only[bne,hb,hu]
   refine ae.of (λh3=>⟨?_,Below.refl _ _⟩) (λh3=>⟨trivial,?_,by simp at h2;omega⟩)
   · unfold ug;rw[hh,decide_eq_false (p:=some s[0]=some 47) (by simpa using h3),Bool.false_and]
   · rw[hh];simpa using h3
 · rintro⟨hh,hl⟩
   have hp:ug s=s.all wR:=by unfold ug;rw[decide_eq_true hh,decide_eq_true hl,Bool.true_and,Bool.true_and]
   obtain⟨w2,a,n,c,hr,ho,hb2,hf⟩:=mq (P:=prog) aF cg cH w s (by omega) NoB
   have hnn:=ho.len
   subst hnn
   refine⟨w2,a,_,c,hr,?_⟩
   refine⟨λm i w'=>∃k:Nat,k <=s.length/\i=(k:Int)/\m=s.length-k/\(s.take k).all wR=true/\w'=w2,⟨_,0,by omega,rfl,rfl,rfl,rfl⟩,?_⟩
   intro m i
   refine aN.of ?_ _
   rintro w' ⟨k,hk,rfl,rfl,hno,hw'⟩
   rw[hw'];clear hw'
   refine ae.of (λh=>?_) (λh=>?_) <;> simp only[dTx,dFx]at h
   · have hlt:k<s.length:=by omega
     obtain⟨v,hv,hrep⟩:=ho.all.load1 (i:=(k:Int)) cH rfl rfl (by simpa using hlt)
     have:=xg hrep
     subst this
     simp only[Int.toNat_natCast]at hv
     refine⟨⟨⟨by omega,h⟩,ho.all.isSome hlt⟩,_,hv,J0 _ (λhc=>?_) (λhc=>⟨by rw[Q9 hlt hc],hb2⟩)⟩
     exact⟨s.length-(k+1),by omega,k+1,by omega,by rw[wrap_i64 (by omega) (by omega)];omega,rfl,by rw[List.take_succ_eq_append_getElem hlt,List.all_append,hno];simp[hc],rfl⟩
   · have:k=s.length:=by omega
     subst this
     rw[List.take_length]at hno
     exact⟨by rw[hp,hno],hb2⟩
theorem IJ {u:Url}(o:u.ok)(hn:u.host.name.length <=1000000000)(w:World)(he:Env w):Cf vj #[u.v] w (Ret λv w'=>v=.bool (Pm u)/\bW w w'):=by
 apply Gw
 intro k1 w1 hk1 hw1
 have hB1:=(hw1▸ah w _:bW w w1)
 have h1:ai w1 k1 bt u.cells:=ai.new hk1 hw1
 refine⟨rfl,_,bc.load h1 (i:=1) (us:=u.host.cells) (Hst.len o) (λj hj=>Ba o hj),?_⟩
 refine aB (jV o hn w1 (he.step hB1)) ?_
 rintro _ w2 ⟨rfl,hb2⟩
 have hB2:=ab hB1 hb2 hB1.size
 have h2:=h1.below hb2
 refine⟨_,rfl,?_⟩
 unfold Pm
 refine ae.of (λc1=>?_) (λc1=>⟨by rw[c1];rfl,hB2⟩)
 refine⟨rfl,_,h2.load1 cD rfl (Lr o),ae.of (λc2=>?_) (λc2=>⟨by rw[c1,c2];rfl,hB2⟩)⟩
 refine⟨rfl,_,h2.load1 cD rfl (Lr o),ae.of (λc3=>?_) (λc3=>⟨by rw[c1,c2,c3];rfl,hB2⟩)⟩
 refine⟨rfl,_,h2.load1 aF rfl (GL o),?_⟩
 refine aB (qX _ w2) ?_
 rintro _ w3 ⟨rfl,hb3⟩
 exact⟨_,rfl,by rw[c1,c2,c3];rfl,ab hB2 hb3 hB2.size⟩
def GT (n:Nat):UInt8:=if n<10 then UInt8.ofNat (48+n)else UInt8.ofNat (55+n)
def yV (c:UInt8):List UInt8:=if 33 <=c.toNat/\c.toNat <=126/\c≠37 then[c]else[37,GT (c.toNat/16),GT (c.toNat%16)]
def lH:List UInt8->List UInt8
 | []=>[]
 | c::s=>yV c++lH s
def IV (s:List UInt8):List UInt8:=if s=[]then[37]else lH s
theorem zM:∀s t:List UInt8,lH (s++t)=lH s++lH t
 | [],_=>rfl
 | c::s,t=>by rw[List.cons_append,lH,lH,zM s t,List.append_assoc]
theorem MD (s:List UInt8)(c:UInt8):lH (s++[c])=lH s++yV c:=by
 rw[zM,lH,lH,List.append_nil]
theorem PB (c:UInt8):1 <=(yV c).length/\(yV c).length <=3:=by
 unfold yV;split <;> simp
theorem Dj:∀s:List UInt8,s.length <=(lH s).length/\(lH s).length <=3*s.length
 | []=>⟨Nat.le_refl _,Nat.le_refl _⟩
 | c::s=>by
   have h1:=PB c;have h2:=Dj s
   rw[lH,List.length_append,List.length_cons];omega
theorem Nl {p:UInt8->Prop}(h:∀n,n<256->p (UInt8.ofNat n))(c:UInt8):p c:=by
 have:=h c.toNat c.toNat_lt
 rwa [UInt8.ofNat_toNat]at this
theorem N8:∀n,n<16->GT n≠37:=by decide
theorem MC (c:UInt8):∃l x,yV c=l++[x]/\x≠37:=by
 unfold yV
 split
 · rename_i h;exact⟨[],c,rfl,h.2.2⟩
 · exact⟨[37,GT (c.toNat/16)],GT (c.toNat%16),rfl,N8 _ (Nat.mod_lt _ (by decide))⟩
theorem E1:∀s:List UInt8,s≠[]->∃l x,lH s=l++[x]/\x≠37
 | [c],_=>by obtain⟨l,x,h,hx⟩:=MC c;exact⟨l,x,by rw[lH,lH,List.append_nil,h],hx⟩
 | c::d::s,_=>by
   obtain⟨l,x,h,hx⟩:=E1 (d::s) (by simp)
   exact⟨yV c++l,x,by rw[lH,h,List.append_assoc],hx⟩
def BT (c:UInt8):Nat:=if 48 <=c.toNat/\c.toNat <=57 then c.toNat-48 else if 65 <=c.toNat/\c.toNat <=70 then c.toNat-55 else 255
theorem EC:∀n,n<16->BT (GT n)=n:=by decide
def Om (a b:Nat):UInt8:=UInt8.ofNat ((a*16%256) ||| (b%16))
theorem QR:∀n,n<256->Om (n/16) (n%16)=UInt8.ofNat n:=by decide+kernel
def unD:List UInt8->Option (List UInt8)
 | []=>some []
 | c::r=>if c=37 then match r with
     | a::b::r=>(unD r).map λt=>Om (BT a) (BT b)::t
     | _=>none
   else(unD r).map λt=>c::t
theorem RK (c:UInt8)(r:List UInt8):unD (yV c++r)=(unD r).map λt=>c::t:=by
 unfold yV
 split
 · rename_i h
   show unD (c::r)=_
   rw[unD.eq_def]
   show(if c=37 then _ else _)=_
   rw[if_neg h.2.2]
 · show unD (37::GT (c.toNat/16)::GT (c.toNat%16)::r)=_
   rw[unD,if_pos rfl]
   have hc:=c.toNat_lt
   rw[EC _ (by omega),EC _ (Nat.mod_lt _ (by decide)),QR _ hc,UInt8.ofNat_toNat]
theorem IF:∀s:List UInt8,unD (lH s)=some s
 | []=>by rw[lH,unD]
 | c::s=>by rw[lH,RK,IF s];rfl
def zR (s:List UInt8):List UInt8:=if s.getLast?=some 37 then s.dropLast else s
def unP (s:List UInt8):Option (List UInt8):=(unD (zR s)).filter λt=>IV t==s
theorem Uv (s t:List UInt8):unP s=some t ↔ IV t=s:=by
 unfold unP
 rw[Option.filter_eq_some_iff]
 refine⟨λh=>eq_of_beq h.2,λh=>⟨?_,by rw[h];exact beq_self_eq_true s⟩⟩
 subst h
 unfold IV
 split
 · rename_i h;subst h;rfl
 · rename_i h
   obtain⟨l,x,hl,hx⟩:=E1 t h
   have:zR (lH t)=lH t:=by
     unfold zR
     rw[if_neg (by rw[hl,List.getLast?_concat];simpa using hx)]
   rw[this,IF]
def L2 {α:Type}(p:α->Bool)(xs:List α):Int:=match xs.findIdx? p with|some i=>(i:Int)|none=> -1
theorem Cb {α:Type}{p:α->Bool}{xs:List α}{j:Nat}(h:xs.findIdx? p=some j):L2 p xs=(j:Int):=by unfold L2;rw[h]
theorem Ca {α:Type}{p:α->Bool}{xs:List α}(h:xs.findIdx? p=none):L2 p xs= -1:=by unfold L2;rw[h]
theorem zZa {α:Type}(p:α->Bool)(xs:List α):decide (L2 p xs >=0)=xs.any p:=by
 cases h:xs.findIdx? p with
 | none=>
   rw[Ca h]
   rw[List.findIdx?_eq_none_iff]at h
   rw[decide_eq_false (by decide),eq_comm,List.any_eq_false]
   exact λx hx=>by rw[h x hx];decide
 | some i=>
   rw[Cb h]
   obtain⟨hi,hp,_⟩:=List.findIdx?_eq_some_iff_getElem.1 h
   try dsimp only
   rw[decide_eq_true (show((i:Nat):Int) >=0 by omega),eq_comm,List.any_eq_true]
   exact⟨_,List.getElem_mem hi,hp⟩
theorem Tt {α:Type}(p:α->Bool)(xs:List α):L2 p xs<xs.length:=by
 cases h:xs.findIdx? p with
 | none=>rw[Ca h];omega
 | some i=>
   rw[Cb h]
   obtain⟨hi,_⟩:=List.findIdx?_eq_some_iff_getElem.1 h
   omega
theorem QP {α:Type}(p:α->Bool)(xs:List α):(!xs.any p)=xs.all λx=> !p x:=by
 rw[Bool.eq_iff_iff]
 simp
def u0 {α:Type}(p:α->Bool)(xs:List α)(w:World)(m:Nat)(i:Int)(w':World):Prop:=
 ∃j:Nat,i=(j:Int)/\m=xs.length-j/\j <=xs.length/\(∀t,t<j->∀h:t<xs.length,p xs[t]=false)/\bW w w'
theorem u0.start {α:Type}(p:α->Bool)(xs:List α)(w:World):∃m,u0 p xs w m 0 w:=⟨_,0,rfl,rfl,Nat.zero_le _,λt h=>absurd h (Nat.not_lt_zero _),Below.refl _ _⟩
theorem u0.go {α:Type}{p:α->Bool}{xs:List α}{w:World}{m:Nat}{i:Int}{wl:World}(h:u0 p xs w m i wl)(hl:xs.length <=9223372036854775807):
   (∃(j:Nat) (hj:j<xs.length),i=(j:Int)/\bW w wl/\decide (i<((xs.length:Nat):Int))=true/\(0 <=i/\i<((xs.length:Nat):Int))/\(p xs[j]=true->L2 p xs=i)/\
     (p xs[j]=false->∀w',bW w w'->∃m',m'<m/\u0 p xs w m' (i64.wrap (i+(1:Int))) w'))\/
   (decide (i<((xs.length:Nat):Int))=false/\L2 p xs= -1/\bW w wl):=by
 obtain⟨j,rfl,rfl,hj,hno,B⟩:=h
 by_cases hlt:j<xs.length
 · refine .inl ⟨j,hlt,rfl,B,decide_eq_true (by omega),⟨by omega,by omega⟩,λhp=>?_,λhp w' B'=>⟨xs.length-(j+1),by omega,j+1,by rw[wrap_i64 (by omega) (by omega)];omega,rfl,by omega,λt ht hl=>?_,B'⟩⟩
   · exact Cb (List.findIdx?_eq_some_iff_getElem.2 ⟨hlt,hp,λt ht=>by rw[hno t ht (by omega)];decide⟩)
   · rcases Nat.lt_or_ge t j with h3|h3
     · exact hno t h3 hl
     · obtain rfl:t=j:=by omega
       exact hp
 · refine .inr ⟨decide_eq_false (by omega),Ca (List.findIdx?_eq_none_iff.2 λx hx=>?_),B⟩
   obtain⟨t,ht,rfl⟩:=List.getElem_of_mem hx
   exact hno t (by omega) ht
structure Cho where
 name:List UInt8
 vals:List (List UInt8)
structure Tpl where
 name:List UInt8
 url:Url
 text:List UInt8
 line:Int
def Tpl.tail (t:Tpl):List Value:=[vS t.text,vI t.line]
def Tpl.cells (t:Tpl):List Value:=vS t.name::(t.url.cells++t.tail)
def Tpl.v (t:Tpl):Value:=.agg t.cells.toArray
def Tpl.ok (t:Tpl):Prop:=t.url.ok
theorem Tpl.len {t:Tpl}(o:t.ok):t.cells.length=24:=by unfold Tpl.cells;rw[List.length_cons,List.length_append,Url.len o];rfl
theorem Tpl.one (t:Tpl):vX t.cells:=aJ rfl (sD (Url.one _) (aJ rfl (aJ rfl gX)))
theorem GJ {t:Tpl}(o:t.ok){j:Nat}(h:j<21):t.cells[1+j]? =t.url.cells[j]? :=by
 unfold Tpl.cells
 rw[Nat.add_comm,List.getElem?_cons_succ,List.getElem?_append_left (by rw[Url.len o];exact h)]
theorem Lo {t:Tpl}(o:t.ok)(j:Nat):t.cells[22+j]? =t.tail[j]? :=by
 unfold Tpl.cells
 rw[show 22+j=(21+j)+1 by omega,List.getElem?_cons_succ,List.getElem?_append_right (by rw[Url.len o];omega),Url.len o]
 congr 1;omega
def vW:Ty Tpl where
 k:=24
 pos:=by decide
 rep:=λ_ _ vs o=>vs=o.cells/\o.ok
 len:=λh=>by rw[h.1];exact Tpl.len h.2
 one:=fun{_ _ _ x} h v hv=>by rw[h.1]at hv;exact Tpl.one x v hv
 keep:=λh _=>h
 mono:=λh _=>h
theorem FF:Flat vW:=λ_ _ _ _ _ _ h=>h
def Ee:Ty Cho where
 k:=2
 pos:=by decide
 rep:=λw A vs o=>∃(a:Option Addr) (n c:Nat),vs=[vS o.name,.slice a n c]/\Sl tS w A a n c o.vals
 len:=λ⟨_,_,_,h,_⟩=>by rw[h];rfl
 one:=λ⟨_,_,_,h,_⟩ v hv=>by rw[h]at hv;simp at hv;rcases hv with rfl|rfl <;> rfl
 keep:=λ⟨a,n,c,h,hs⟩ hk=>⟨a,n,c,h,hs.keep hk⟩
 mono:=λ⟨a,n,c,h,hs⟩ ha=>⟨a,n,c,h,hs.mono ha⟩
def Si (c:UInt8):Bool:=(decide (97 <=c.toNat)&&decide (c.toNat <=122)) || (decide (48 <=c.toNat)&&decide (c.toNat <=57))
def nmB (s:List UInt8):Bool:= !(s==[])&&(decide (s.length <=20)&&s.all Si)
def atC (l:List Cho)(k:List UInt8):Int:=L2 (λc=>c.name==k) l
abbrev Prt:=List UInt8×Int
def MO (l:List Cho):Nat->List UInt8->Option (List Prt)
 | 0,_=>some []
 | k+1,s=>if s=[]then some []else
     if(123:UInt8)∈s then
       let rest:=(s.dropWhile (· !=123)).drop 1
       let key:=rest.takeWhile (· !=125)
       if(125:UInt8)∈rest/\nmB key=true/\0 <=atC l key then(MO l k ((rest.dropWhile (· !=125)).drop 1)).map λr=>(s.takeWhile (· !=123),-1)::([],atC l key)::r
       else none
     else some [(s,-1)]
def Cy (l:List Cho)(s:List UInt8):Option (List Prt):=MO l s.length s
def iK (c:UInt8)(s:List UInt8):List UInt8:=(s.dropWhile (· !=c)).drop 1
theorem lu (c:UInt8)(s:List UInt8):(iK c s).length <=s.length-1:=by
 unfold iK
 rw[List.length_drop]
 have:=(List.dropWhile_sublist (· !=c) (l:=s)).length_le
 omega
theorem AP (l:List Cho):∀k,MO l k []=some []
 | 0=>rfl
 | k+1=>by unfold MO;rw[if_pos rfl]
theorem Ic (l:List Cho):∀(k:Nat) (s:List UInt8) (m:Nat),s.length <=k->s.length <=m->MO l k s=MO l m s
 | 0,s,m,hk,hm=>by
   obtain rfl:s=[]:=List.eq_nil_of_length_eq_zero (by omega)
   rw[AP,AP]
 | k+1,s,0,hk,hm=>by
   obtain rfl:s=[]:=List.eq_nil_of_length_eq_zero (by omega)
   rw[AP,AP]
 | k+1,s,m+1,hk,hm=>by
   unfold MO
   have h1:=lu 123 s
   have h2:=lu 125 (iK 123 s)
   have ih:=Ic l k (iK 125 (iK 123 s)) m (by omega) (by omega)
   unfold iK at ih
   simp only[ih]
theorem Ri (l:List Cho):Cy l []=some []:=rfl
theorem Mn {l:List Cho}{s:List UInt8}(h:s≠[])(h2:(123:UInt8) ∉ s):Cy l s=some [(s,-1)]:=by
 unfold Cy
 obtain⟨k,hk⟩:∃k,s.length=k+1:=⟨s.length-1,by have:=List.length_pos_iff.2 h;omega⟩
 rw[hk]
 unfold MO
 rw[if_neg h,if_neg h2]
def VD (l:List Cho)(s:List UInt8):Prop:=(125:UInt8)∈iK 123 s/\nmB ((iK 123 s).takeWhile (· !=125))=true/\0 <=atC l ((iK 123 s).takeWhile (· !=125))
theorem Rh {l:List Cho}{s:List UInt8}(h:s≠[])(h2:(123:UInt8)∈s)(h3: ¬ VD l s):Cy l s=none:=by
 unfold Cy
 obtain⟨k,hk⟩:∃k,s.length=k+1:=⟨s.length-1,by have:=List.length_pos_iff.2 h;omega⟩
 rw[hk]
 unfold MO
 rw[if_neg h,if_pos h2]
 exact if_neg h3
theorem OR {l:List Cho}{s:List UInt8}(h:s≠[])(h2:(123:UInt8)∈s)(h3:VD l s):
   Cy l s=(Cy l (iK 125 (iK 123 s))).map λr=>(s.takeWhile (· !=123),-1)::([],atC l ((iK 123 s).takeWhile (· !=125)))::r:=by
 unfold Cy
 obtain⟨k,hk⟩:∃k,s.length=k+1:=⟨s.length-1,by have:=List.length_pos_iff.2 h;omega⟩
 have h4:=lu 123 s
 have h5:=lu 125 (iK 123 s)
 rw[Ic l (iK 125 (iK 123 s)).length (iK 125 (iK 123 s)) k (Nat.le_refl _) (by omega),hk]
 conv=>lhs;unfold MO
 rw[if_neg h,if_pos h2]
 have h3':=h3
 unfold VD iK at h3'
 show ite _ _ _=_
 rw[if_pos h3'];rfl
theorem TM {α:Type}(o:Option (List α))(a b:List α):(o.map λr=>b++r).map (λr=>a++r)=o.map λr=>(a++b)++r:=by
 cases o
 · rfl
 · simp
def sY (ps:List Prt):List Int:=ps.foldl (λout p=>if 0 <=p.2/\p.2 ∉ out then out++[p.2]else out) []
def gm (l:List Cho)(i:Int):List (List UInt8):=(l[i.toNat]?.map Cho.vals).getD []
def OT (l:List Cho):List Int->Int->Int
 | [],n=>n
 | i::r,n=>if 24<n*((gm l i).length:Nat)then n*((gm l i).length:Nat)else OT l r (n*((gm l i).length:Nat))
def Ge (l:List Cho)(us:List Int):Int:=OT l us 1
def DI (vs:List (List UInt8)):Nat:=vs.foldl (λm v=>max m v.length) 0
def JT (l:List Cho):List Prt->Int->Int
 | [],n=>n
 | p::r,n=>if p.2<0 then JT l r (n+(p.1.length:Nat))else
     if 2000<n+(p.1.length:Nat)+(DI (gm l p.2):Nat)then n+(p.1.length:Nat)+(DI (gm l p.2):Nat)else JT l r (n+(p.1.length:Nat)+(DI (gm l p.2):Nat))
def H1 (l:List Cho)(ps:List Prt):Int:=JT l ps 0
def I1:Nat->List (List UInt8)->List (List UInt8)->List (List UInt8) ⊕ (Int×Nat)
 | _,[],vs=>.inl vs
 | i,x::r,vs=>match unP x with
   | none=>.inr (131,i)
   | some s=>if s∈vs then .inr (52,i)else if vs.length=6 then .inr (53,i)else I1 (i+1) r (vs++[s])
def Jt (L:List (List UInt8))(cs:List Cho):Cho ⊕ (Int×Nat):=
 if nmB (L.getD 1 [])=false then .inr (221,1)
 else if(cs.any λc=>c.name==L.getD 1 [])=true then .inr (52,1)
 else match I1 2 (L.drop 2) []with
   | .inr e=>.inr e
   | .inl vs=>if cs.length=6 then .inr (53,0)else .inl ⟨L.getD 1 [],vs⟩
def GI (L:List (List UInt8))(ln:Int)(ts:List Tpl)(cs:List Cho):Tpl ⊕ (Int×Nat):=
 if nmB (L.getD 1 [])=false then .inr (221,1)
 else if(ts.any λt=>t.name==L.getD 1 [])=true then .inr (52,1)
 else if(I9 (L.getD 2 [])).2≠0 then .inr ((I9 (L.getD 2 [])).2,2)
 else match unP (L.getD 3 [])with
   | none=>.inr (131,3)
   | some s=>match Cy cs s with
     | none=>.inr (222,3)
     | some ps=>if 24<Ge cs (sY ps)then .inr (53,3)else if 2000<H1 cs ps then .inr (54,3)else if ts.length=8 then .inr (53,0)
       else .inl ⟨L.getD 1 [],(I9 (L.getD 2 [])).1,s,ln⟩
abbrev vR:List UInt8:=[99,104,111,105,99,101]
abbrev Df:List UInt8:=[99,111,111,107,105,101]
def rdV (L:List (List UInt8))(ln:Int)(st:List Tpl×List Cho):(List Tpl×List Cho) ⊕ (Int×Nat):=
 if[]∈L then .inr (131,0)
 else if L.head?=some vR/\2<L.length then(match Jt L st.2 with|.inr e=>.inr e|.inl c=>.inl (st.1,st.2++[c]))
 else if L.head?=some Df/\L.length=4 then(match GI L ln st.1 st.2 with|.inr e=>.inr e|.inl t=>.inl (st.1++[t],st.2))
 else .inr (131,0)
def PK (i:Nat)(st:List Tpl×List Cho)(x:List UInt8):(List Tpl×List Cho) ⊕ (Int×Int):=
 if x=[]\/x.head?=some 35 then .inl st
 else match rdV (dz 32 [] x) ((i:Int)+1) st with
   | .inl st'=>.inl st'
   | .inr (e,k)=>.inr (e,(AH (dz 32 [] x) k:Nat))
def xf (s:List UInt8):(List Tpl×List Cho) ⊕ Flt:=FC PK ([],[]) s
def Xn (l:List Cho):List Int->Nat->List (Int×List UInt8)
 | [],_=>[]
 | i::r,n=>(i,(gm l i).getD (n%(gm l i).length) [])::Xn l r (n/(gm l i).length)
def Wh (l:List Cho)(ps:List Prt)(n:Nat):List UInt8:=ps.flatMap λp=>p.1++((Xn l (sY ps).reverse n).lookup p.2).getD []
def DF (l:List Cho)(s:List UInt8):List (List UInt8):=match Cy l s with
 | none=>[]
 | some ps=>if((sY ps).all λi=>decide (0<(gm l i).length))=false\/24<Ge l (sY ps)\/2000<H1 l ps then[]else(List.range (Ge l (sY ps)).toNat).map (Wh l ps)
structure Chg (S:List Nat)(w w':World):Prop where
 os:w'.os=w.os
 tape:w'.tape=w.tape
 output:w'.output=w.output
 size:w.heap.size <=w'.heap.size
 block:∀k,k<w.heap.size->k ∉ S->w'.heap[k]? =w.heap[k]?
theorem Chg.refl (S:List Nat)(w:World):Chg S w w:=⟨rfl,rfl,rfl,Nat.le_refl _,λ_ _ _=>rfl⟩
theorem Chg.trans {S:List Nat}{a b c:World}(h:Chg S a b)(k:Chg S b c):Chg S a c:=
 ⟨k.os.trans h.os,k.tape.trans h.tape,k.output.trans h.output,Nat.le_trans h.size k.size,λi hi hs=>(k.block i (Nat.lt_of_lt_of_le hi h.size) hs).trans (h.block i hi hs)⟩
theorem Chg.of {S:List Nat}{w w':World}(h:bW w w'):Chg S w w':=⟨h.os,h.tape,h.output,h.size,λk hk _=>h.block k hk⟩
theorem Chg.grown {S:List Nat}{w w':World}{r:Nat}(h:w.grownBy w' (some r))(hr:r∈S):Chg S w w':=
 ⟨h.os,h.tape,h.output,h.size,λk hk hs=>h.block k hk λe=>hs (by cases e;exact hr)⟩
theorem Chg.mono {S S':List Nat}{w w':World}(h:Chg S w w')(hs:∀k∈S,k∈S'):Chg S' w w':=⟨h.os,h.tape,h.output,h.size,λk hk hn=>h.block k hk λhm=>hn (hs k hm)⟩
theorem Chg.below {S:List Nat}{B:Nat}{w w':World}(h:Chg S w w')(hB:B <=w.heap.size)(hs:∀k∈S,B <=k):Below B w w':=
 ⟨h.os,h.tape,h.output,h.size,λk hk=>h.block k (by omega) λhm=>by have:=hs k hm;omega⟩
theorem Chg.none {w w':World}(h:Chg [] w w'):bW w w':=h.below (Nat.le_refl _) λk hk=>by cases hk
theorem Chg.keep {S:List Nat}{w w':World}(h:Chg S w w'):vV (λb=>b ∉ S) w w':=⟨h.size,λb hb ha=>h.block b hb ha⟩
theorem Chg.arr {S:List Nat}{w w':World}(h:Chg S w w'){k:Nat}{t:TypeId}{vs:List Value}(ha:ai w k t vs)(hk:k ∉ S):ai w' k t vs:=ha.block (h.block k ha.lt hk)
theorem Chg.step {S:List Nat}{a b c:World}(h:Chg S a b)(k:bW b c):Chg S a c:=h.trans (Chg.of k)
theorem Chg.put {S:List Nat}{a b c:World}{r:Nat}(h:Chg S a b)(k:b.grownBy c (some r))(hr:a.heap.size <=r):Chg S a c:=
   ⟨k.os.trans h.os,k.tape.trans h.tape,k.output.trans h.output,Nat.le_trans h.size k.size,λi hi hs=>(k.block i (Nat.lt_of_lt_of_le hi h.size) (λe=>by cases e;omega)).trans (h.block i hi hs)⟩
theorem W8 {α:Type}{T:Ty α}(hfl:Flat T){P:Program}{st t ty:TypeId}{bytes:Nat}{z:Value}(hu:P.underlying st=some (.slice t))(tf:TF P t T.k bytes z)(hb0:0<bytes)
   {w0 w w1:World} {S:List Nat} {a:Option Addr} {n c:Nat} {xs:List α} (ho:Ow T t w NoB a n c xs) (hf:bg w0.heap.size a) (hc:Chg S w0 w) {k1:Nat} {vs:List Value} {x:α} (hk:k1=w.heap.size)
   (hw:w1=w.alloc (.cells vs.toArray t)) (hx:T.rep w NoB vs x) {cm:Nat} (hbound:(xs.length+1)*bytes <=140737488355328):
   ∃(w2:World) (a':Option Addr) (n' c':Nat),(Builtin.append_ #[st,st] ty #[.slice a n c,.slice (some ⟨k1,0,none⟩) 1 cm]).run P w1=.ok (.slice a' n' c') w2/\Ow T t w2 NoB a' n' c' (xs++[x])/\bg w0.heap.size a'/\Chg S w0 w2/\∀b,b<w0.heap.size->w2.heap[b]? =w.heap[b]? :=by
 have hB1:bW w w1:=hw▸ah w _
 have ho3:=ho.below hB1
 have hsrc:Src T w1 NoB (some ⟨k1,0,none⟩) 1 [x]:=Src.new1F hfl hk hw hx
 obtain⟨w4,a4,n4,c4,hr,ho4,hgr,hfr⟩:=dF (ty:=ty) hu tf hb0 ho3 (λ_ _ h=>h) (cm:=cm) hsrc (by simpa using hbound)
 have s1:=hc.size
 have s2:=hB1.size
 have h1:Below w0.heap.size w w4:=(hB1.mono s1).grown hgr (by omega) hf
 exact⟨w4,a4,n4,c4,hr,ho4,hf.app (by omega) hfr,⟨h1.os.trans hc.os,h1.tape.trans hc.tape,h1.output.trans hc.output,Nat.le_trans s1 h1.size,λk hk hn=>(h1.block k hk).trans (hc.block k hk hn)⟩,h1.block⟩
theorem Whl.elem {α:Type}{T:Ty α}{P:Program}{t:TypeId}{n:Nat}(hw:Whl P t n)(hk:T.k=n){w:World}{A:Bl}{a:Option Addr}{l c:Nat}{xs:List α}(h:Sl T w A a l c xs){i:Nat}(hi:i<xs.length):
   ∃vs,(Instr.loadAt t (.pointer (am a (i:Int) n))).run P w=.ok (.agg vs.toArray) w/\T.rep w A vs xs[i]:=by
 obtain⟨bytes,z,tf⟩:=hw.tf
 obtain⟨ti,hti,hsz,_,_⟩:=tf.info
 have hag:=hw.ag
 cases hu:P.underlying t with
 | none=>rw[hu]at hag;cases hag
 | some d=>
   rw[hu]at hag
   simp only[Option.map_some,Option.some.injEq]at hag
   have:=h.loadA hu hag hti hk hsz (i:=(i:Int)) (by simpa using hi)
   simpa using this
theorem uk (a:Int){w K}(h:ae (decide (a<(97:Int))) (ae (decide (a<(48:Int))) (K (.bool true) w) (K (.bool (decide (a>(57:Int)))) w)) (ae (decide (a>(122:Int))) (ae (decide (a<(48:Int))) (K (.bool true) w) (K (.bool (decide (a>(57:Int)))) w)) (K (.bool false) w))):Cf cy #[.int .u8 a] w (Ret K):=ru func262 [] h
theorem fB (a:Option Addr)(b c:Nat){w K}(h:∃d:Nat->FP [.one (.int .i64)],(∃e,d e (0:Int) w)/\∀e f,aN 12 (∀g,d e f g->ae (decide (f<((b:Nat):Int))) ((bx f ((b:Nat):Int)/\Option.isSome a=true)/\∃i,Ld bX (am a f 1) g (.int .u8 i)/\uB cy #[.int .u8 i] g λj k=>ae j (K (vI f) k) (∃l:Nat,l<e/\d l (i64.wrap (f+(1:Int))) k)) (K (vI (-1)) g))):Cf dm #[.slice a b c,.func (.func cy) #[] #[]] w (Ret K):=ru func321 [(6,[(8,.one (.int .i64))])] h
theorem fj (a:Option Addr)(b c:Nat){w K}(h:uI dm #[.slice a b c,.func (.func cy) #[] #[]] w λd e=>K (.bool (decide (d >=(0:Int)))) e):Cf cR #[.slice a b c,.func (.func cy) #[] #[]] w (Ret K):=ru func261 [] h
theorem yD (a:lU){w K}(h:∃b:FP [],(ae (a==[]) (K (.bool false) w) (ae (decide (((List.length a:Nat):Int)>(20:Int))) (K (.bool false) w) (b w)))/\aN 8 (∀c,b c->∃d e f g,(convert ak aY (vS a)).run prog c=.ok (.slice e f g) d/\uB cR #[.slice e f g,.func (.func cy) #[] #[]] d λi j=>K (.bool (!i)) j)):Cf iD #[vS a] w (Ret K):=ru func179 [(2,[])] h
theorem sP (a:lU)(b:Option Addr)(c d:Nat)(e:Option Addr){w K}(h:nA w (.cells #[vS a,.slice b c d] aG) λf g=>true/\∃i,Ld ak (vA f 0) g (vS i)/\∃j,Ld ak e g (vS j)/\K (.bool (i==j)) g):Cf de #[.agg #[vS a,.slice b c d],.pointer e] w (Ret K):=ru func178 [] h
theorem dC (a:Option Addr)(b c:Nat)(d:Option Addr){w K}(h:∃e:Nat->FP [.one (.int .i64)],(∃f,e f (0:Int) w)/\∀f g,aN 12 (∀i,e f g i->ae (decide (g<((b:Nat):Int))) ((bx g ((b:Nat):Int)/\Option.isSome a=true)/\∃j k l m,Ld aG (am a g 2) i (.agg #[vS j,.slice k l m])/\uB de #[.agg #[vS j,.slice k l m],.pointer d] i λn o=>ae n (K (vI g) o) (∃p:Nat,p<f/\e p (i64.wrap (g+(1:Int))) o)) (K (vI (-1)) i))):Cf bi #[.slice a b c,.func (.func de) #[] #[.pointer d]] w (Ret K):=ru func177 [(6,[(8,.one (.int .i64))])] h
theorem wY (a:lU)(b:Option Addr)(c d:Nat){w K}(h:∃e:Nat->FP [.one .str,.one .slice],(∃f,e f a none 0 0 w)/\∀f g i j k,aN 50 (∀l,e f g i j k l->ae (!(g==[])) (Cf jN #[vS g,vS [123]] l λm n=>∃o p q,m=rT #[vS o,vS p,.bool q]/\nA n (.cells #[vS o,vI (-1)] be) λr s=>∃t u v x,(Builtin.append_ #[cj,cj] cj #[.slice i j k,.slice (vA r 0) 1 1]).run prog s=.ok (.slice u v x) t/\ae (!q) (K (.tuple #[.slice u v x,.bool true]) t) (Cf jN #[vS p,vS [125]] t λy z=>∃A B C,y=rT #[vS A,vS B,.bool C]/\nA z (.cells #[vS []] ak) λD E=>∃F,Sv ak (vA D 0) (vS A) E F/\uI bi #[.slice b c d,.func (.func de) #[] #[.pointer (vA D 0)]] F λG H=>∃I:FP [],(ae (!C) (K (.tuple #[.slice none 0 0,.bool false]) H) (∃J,Ld ak (vA D 0) H (vS J)/\uB iD #[vS J] H λL M=>ae (!L) (K (.tuple #[.slice none 0 0,.bool false]) M) (ae (decide (G<(0:Int))) (K (.tuple #[.slice none 0 0,.bool false]) M) (I M))))/\aN 13 (∀J,I J->nA J (.cells #[vS [],vI G] be) λL M=>∃N O P Q,(Builtin.append_ #[cj,cj] cj #[.slice u v x,.slice (vA L 0) 1 1]).run prog M=.ok (.slice O P Q) N/\∃R:Nat,R<f/\e R B O P Q N))) (K (.tuple #[.slice i j k,.bool true]) l))):Cf ji #[vS a,.slice b c d] w (Ret K):=ru func101 [(6,[(0,.one .str),(6,.one .slice)]),(28,[])] h
theorem yF (a:Option Addr)(b c:Nat){w K}(h:∃d:Nat->FP [.one .slice,.one (.int .i64)],(∃e,d e none 0 0 (0:Int) w)/\∀e f g i j,aN 20 (∀k,d e f g i j k->ae (decide (j<((b:Nat):Int))) ((bx j ((b:Nat):Int)/\Option.isSome a=true)/\∃l m,Ld be (am a j 2) k (.agg #[vS l,vI m])/\nA k (.cells #[vS [],vI 0] be) λn o=>∃p,Sv be (vA n 0) (.agg #[vS l,vI m]) o p/\∃q:FP [.one .bool],(true/\∃r,Ld aP (vA n 1) p (vI r)/\ae (decide (r >=(0:Int))) (true/\∃s,Ld aP (vA n 1) p (vI s)/\uB dM #[.slice f g i,vI s] p λt u=>q (!t) u) (q false p))/\∀r,aN 9 (∀s,q r s->ae r (true/\∃t,Ld aP (vA n 1) s (vI t)/\nA s (.cells #[vI t] aP) λu v=>∃x y z A,(Builtin.append_ #[aZ,aZ] aZ #[.slice f g i,.slice (vA u 0) 1 1]).run prog v=.ok (.slice y z A) x/\∃B:Nat,B<e/\d B y z A (i64.wrap (j+(1:Int))) x) (∃t:Nat,t<e/\d t f g i (i64.wrap (j+(1:Int))) s))) (K (.slice f g i) k))):Cf jQ #[.slice a b c] w (Ret K):=ru func102 [(8,[(3,.one .slice),(8,.one (.int .i64))]),(19,[(21,.one .bool)])] h
theorem yE (a:Option Addr)(b c:Nat)(d:Option Addr)(e f:Nat){w K}(h:∃g:Nat->FP [.one (.int .i64),.one (.int .i64)],(∃i,g i (1:Int) (0:Int) w)/\∀i j k,aN 17 (∀l,g i j k l->ae (decide (k<((b:Nat):Int))) ((bx k ((b:Nat):Int)/\Option.isSome a=true)/\∃m,Ld aP (am a k 1) l (vI m)/\(bx m ((e:Nat):Int)/\Option.isSome d=true)/\(isSome (am d m 2))/\∃n o p,Ld aw (Option.map (λq=>q.add 1) (am d m 2)) l (.slice n o p)/\ae (decide ((i64.wrap (j*((o:Nat):Int)))>(24:Int))) (K (vI (i64.wrap (j*((o:Nat):Int)))) l) (∃q:Nat,q<i/\g q (i64.wrap (j*((o:Nat):Int))) (i64.wrap (k+(1:Int))) l)) (K (vI j) l))):Cf iE #[.slice a b c,.slice d e f] w (Ret K):=ru func103 [(8,[(5,.one (.int .i64)),(10,.one (.int .i64))])] h
theorem vG (a:Option Addr)(b c:Nat)(d:Option Addr)(e f:Nat){w K}(h:∃g:Nat->FP [.one (.int .i64),.one (.int .i64)],(∃i,g i (0:Int) (0:Int) w)/\∀i j k,aN 36 (∀l,g i j k l->ae (decide (k<((b:Nat):Int))) ((bx k ((b:Nat):Int)/\Option.isSome a=true)/\∃m n,Ld be (am a k 2) l (.agg #[vS m,vI n])/\nA l (.cells #[vS [],vI 0] be) λo p=>∃q,Sv be (vA o 0) (.agg #[vS m,vI n]) p q/\true/\∃r,Ld ak (vA o 0) q (vS r)/\true/\∃s,Ld aP (vA o 1) q (vI s)/\ae (decide (s<(0:Int))) (∃t:Nat,t<i/\g t (i64.wrap (j+((List.length r:Nat):Int))) (i64.wrap (k+(1:Int))) q) (true/\∃t,Ld aP (vA o 1) q (vI t)/\(bx t ((e:Nat):Int)/\Option.isSome d=true)/\(isSome (am d t 2))/\∃u v x,Ld aw (Option.map (λy=>y.add 1) (am d t 2)) q (.slice u v x)/\∃y:Nat->FP [.one (.int .i64),.one (.int .i64)],(∃z,y z (0:Int) (0:Int) q)/\∀z A B,aN 9 (∀C,y z A B C->ae (decide (B<((v:Nat):Int))) ((bx B ((v:Nat):Int)/\Option.isSome u=true)/\∃D,Ld ak (am u B 1) C (vS D)/\∃E,(Builtin.max_ #[aP,aP] aP #[vI A,vI ((List.length D:Nat):Int)]).run prog C=.ok (vI E) C/\∃F:Nat,F<z/\y F E (i64.wrap (B+(1:Int))) C) (ae (decide ((i64.wrap ((i64.wrap (j+((List.length r:Nat):Int)))+A))>(2000:Int))) (K (vI (i64.wrap ((i64.wrap (j+((List.length r:Nat):Int)))+A))) C) (∃D:Nat,D<i/\g D (i64.wrap ((i64.wrap (j+((List.length r:Nat):Int)))+A)) (i64.wrap (k+(1:Int))) C))))) (K (vI j) l))):Cf iI #[.slice a b c,.slice d e f] w (Ret K):=ru func104 [(8,[(5,.one (.int .i64)),(13,.one (.int .i64))]),(33,[(8,.one (.int .i64)),(32,.one (.int .i64))])] h
theorem NE (c:UInt8):∀s:List UInt8,(c∈s->0 <=Lib.indexByte s c/\s.take (Lib.indexByte s c).toNat=s.takeWhile (· !=c)/\s.drop ((Lib.indexByte s c).toNat+1)=(s.dropWhile (· !=c)).drop 1)/\(c ∉ s->Lib.indexByte s c= -1)
 | []=>⟨λh=>(by cases h),λ_=>rfl⟩
 | x::s=>by
   obtain⟨ih1,ih2⟩:=NE c s
   unfold Lib.indexByte
   by_cases hx:x=c
   · subst hx
     rw[beq_self_eq_true,if_pos rfl]
     exact⟨λ_=>⟨by decide,by simp,by simp⟩,λh=>absurd List.mem_cons_self h⟩
   · rw[beq_eq_false_iff_ne.2 hx,if_neg (by decide)]
     by_cases hm:c∈s
     · obtain⟨h0,h1,h2⟩:=ih1 hm
       have hne: ¬ (Lib.indexByte s c== -1)=true:=by rw[beq_iff_eq];omega
       refine⟨λ_=>?_,λh=>absurd (List.mem_cons_of_mem _ hm) h⟩
       rw[if_neg hne]
       obtain⟨k,hk⟩:=Int.eq_ofNat_of_zero_le h0
       rw[hk]at h1 h2 ⊢
       have e:((k:Int)+1).toNat=k+1:=by omega
       rw[Int.toNat_natCast]at h1 h2
       rw[e,List.take_succ_cons,h1,show k+1+1=(k+1)+1 from rfl,List.drop_succ_cons,h2,List.takeWhile_cons_of_pos (by simpa using hx),List.dropWhile_cons_of_pos (by simpa using hx)]
       exact⟨by omega,rfl,rfl⟩
     · have:=ih2 hm
       refine⟨λh=>?_,λ_=>by rw[this];rfl⟩
       rcases List.mem_cons.1 h with e|h
       · exact absurd e.symm hx
       · exact absurd h hm
theorem Qn (s:List UInt8)(c:UInt8):Lib.cut s [c]=if c∈s then(s.takeWhile (· !=c),(s.dropWhile (· !=c)).drop 1,true)else(s,[],false):=by
 obtain⟨h1,h2⟩:=NE c s
 unfold Lib.cut
 rw[Lib.index_one]
 by_cases h:c∈s
 · obtain⟨h0,h3,h4⟩:=h1 h
   rw[if_pos h0,if_pos h,h3,<- h4];rfl
 · rw[h2 h,if_neg (by decide),if_neg h]
theorem Jl (w:World)(n:Nat):bW w (w.drewN n):=⟨rfl,rfl,rfl,Nat.le_refl _,λ_ _=>rfl⟩
def I5 (p:Prt):List Value:=[vS p.1,vI p.2]
def Rz:Ty Prt where
 k:=2
 pos:=by decide
 rep:=λ_ _ vs o=>vs=I5 o
 len:=λh=>by rw[h];rfl
 one:=fun{_ _ _ x} h v hv=>by rw[h]at hv;simp[I5]at hv;rcases hv with rfl|rfl <;> rfl
 keep:=λh _=>h
 mono:=λh _=>h
theorem FE:Flat Rz:=λ_ _ _ _ _ _ h=>h
theorem TU (s:List UInt8)(h1: ¬ s=[])(h2:s.length <=20):nmB s=s.all Si:=by
 unfold nmB
 rw[beq_eq_false_iff_ne.2 h1,decide_eq_true h2];rfl
theorem R6 (s:List UInt8)(c:UInt8)(hs:s.length<4294967281)(w:World)(he:Env w):Cf jN #[vS s,vS [c]] w (Ret λv w'=>v=.tuple #[vS (if c∈s then s.takeWhile (· !=c)else s),vS (if c∈s then(s.dropWhile (· !=c)).drop 1 else[]),.bool (decide (c∈s))]/\bW w w'):=by
 obtain⟨m,hm⟩:=he.max
 refine(Tryz.strings_Cut (mkS s) (mkS [c]) m w hs hm).mono ?_
 rintro _ _ ⟨rfl,n,rfl⟩
 refine⟨_,rfl,?_,Jl w n⟩
 have e:Lib.cut (mkS s).data.toList (mkS [c]).data.toList=Lib.cut s [c]:=rfl
 rw[e,Qn]
 by_cases h:c∈s
 · simp only[if_pos h,decide_eq_true h];rfl
 · simp only[if_neg h,decide_eq_false h];rfl
theorem Mg (c:UInt8)(w:World):Cf cy #[.int .u8 ((c.toNat:Nat):Int)] w (Ret λv w'=>v=.bool (!Si c)/\w'=w):=by
 apply uk
 have key:∀b:Bool,(b=true ↔ ¬ ((97 <=c.toNat/\c.toNat <=122)\/(48 <=c.toNat/\c.toNat <=57)))->Value.bool b=.bool (!Si c):=λb hb=>by
   congr 1
   rw[Bool.eq_iff_iff,hb,Bool.not_eq_true',<- Bool.not_eq_true]
   unfold Si
   simp only[Bool.or_eq_true,Bool.and_eq_true,dTx]
 refine ae.of (λh=>ae.of (λh2=>⟨key _ ?_,rfl⟩) (λh2=>⟨key _ ?_,rfl⟩)) (λh=>ae.of (λh2=>ae.of (λh3=>⟨key _ ?_,rfl⟩) (λh3=>⟨key _ ?_,rfl⟩)) (λh2=>⟨key _ ?_,rfl⟩))
 all_goals(simp only[dTx,dFx,true_iff,Bool.false_eq_true,false_iff]at*;omega)
theorem JX (s:List UInt8)(w:World):Cf iD #[vS s] w (Ret λv w'=>v=.bool (nmB s)/\bW w w'):=by
 apply yD
 refine wu (w:=w) (¬ s=[]/\s.length <=20) (ae.of (λh=>⟨?_,Below.refl _ _⟩) (λh=>ae.of (λh2=>⟨?_,Below.refl _ _⟩) (λh2=>⟨rfl,by simpa using h,by have:=of_decide_eq_false h2;omega⟩))) ?_
 · rw[show s=[] from eq_of_beq h];rfl
 · have:=of_decide_eq_true h2
   unfold nmB
   rw[decide_eq_false (p:=s.length <=20) (by omega),Bool.false_and,Bool.and_false]
 rintro⟨h1,h2⟩
 obtain⟨w2,a,n,c,hr,ho,b2,hf⟩:=mq (P:=prog) aF cg cH w s (by omega) NoB
 have hn:=ho.len
 subst hn
 have S:=ho.all
 refine⟨w2,a,_,c,hr,?_⟩
 refine aB (K:=λv w'=>v=.bool (s.any λx=> !Si x)/\bW w2 w') ?_ ?_
 · apply fj
   refine aB (K:=λv w'=>v=vI (L2 (λx=> !Si x) s)/\bW w2 w') ?_ ?_
   · apply fB
     refine⟨u0 (λx=> !Si x) s w2,u0.start _ _ _,λm i=>aN.of ?_ _⟩
     intro wl hI
     rcases hI.go (by omega)with⟨j,hj,rfl,B,h3,hb,hy,hn⟩|⟨h3,h4,B⟩
     · obtain⟨v,hv,hrep⟩:=(S.below B).load1 (P:=prog) (i:=(j:Int)) cH rfl rfl (by simpa using hj)
       have:=xg hrep
       subst this
       simp only[Int.toNat_natCast]at hv
       refine ae.yes h3 ⟨⟨hb,S.isSome hj⟩,_,hv,aB (Mg s[j] wl) ?_⟩
       rintro _ _ ⟨rfl,rfl⟩
       exact⟨_,rfl,ae.of (λh4=>⟨by rw[hy h4],B⟩) (λh4=>hn h4 _ B)⟩
     · exact ae.no h3 ⟨by rw[h4],B⟩
   · rintro _ w7 ⟨rfl,b7⟩
     exact⟨_,rfl,by rw[zZa],b7⟩
 · rintro _ w12 ⟨rfl,b12⟩
   refine⟨_,rfl,?_,ab b2 b12 b2.size⟩
   rw[TU s h1 h2,QP]
   congr 1
   congr 1
   funext x
   simp
theorem Dh:Whl prog aG 2:=⟨⟨_,_,wZ⟩,by kernel_rfl⟩
theorem KZ {w:World}{A:Bl}{a:Option Addr}{l c:Nat}{xs:List Cho}(h:Sl Ee w A a l c xs){i:Nat}(hi:i<xs.length):
   ∃(b:Option Addr) (n e:Nat),(Instr.loadAt aG (.pointer (am a (i:Int) 2))).run prog w=.ok (.agg #[.string (mkS xs[i].name),.slice b n e]) w/\Sl tS w A b n e xs[i].vals:=by
 obtain⟨vs,h1,b,n,e,rfl,hs⟩:=Dh.elem (T:=Ee) rfl h hi
 exact⟨b,n,e,h1,hs⟩
theorem JZ (c:Cho)(a:Option Addr)(l e:Nat){w:World}{k:Nat}{key:List UInt8}(hk:ai w k ak [vS key]):
   Cf de #[.agg #[vS c.name,.slice a l e],.pointer (some ⟨k,0,none⟩)] w (Ret λv w'=>v=.bool (c.name==key)/\bW w w'):=by
 apply sP
 intro k2 w2 hk2 hw2
 have b2:=(hw2▸ah w _:bW w w2)
 have A2:ai w2 k2 aG [vS c.name,.slice a l e]:=ai.new hk2 hw2
 exact⟨rfl,_,A2.load1 aF rfl rfl,_,(hk.below b2).load1 aF rfl rfl,rfl,b2⟩
theorem HR {w:World}{A:Bl}{a:Option Addr}{n c:Nat}{xs:List Cho}(hs:Sl Ee w A a n c xs){k:Nat}{key:List UInt8}(hk:ai w k ak [vS key]):
   Cf bi #[.slice a n c,.func (.func de) #[] #[.pointer (some ⟨k,0,none⟩)]] w (Ret λv w'=>v=vI (atC xs key)/\bW w w'):=by
 apply dC
 have hn:=hs.len
 have hle:=hs.le
 subst hn
 refine⟨u0 (λc=>c.name==key) xs w,u0.start _ _ _,λm i=>aN.of ?_ _⟩
 intro wl hI
 rcases hI.go hle with⟨j,hj,rfl,B,h3,hb,hy,hn⟩|⟨h3,h4,B⟩
 · obtain⟨b,l,e,hv,_⟩:=KZ (hs.below B) hj
   refine ae.yes h3 ⟨⟨hb,hs.isSome hj⟩,_,_,_,_,hv,aB (JZ xs[j] b l e (hk.below B)) ?_⟩
   rintro _ w' ⟨rfl,b'⟩
   have B':=ab B b' B.size
   exact⟨_,rfl,ae.of (λh4=>⟨by rw[<- hy h4];rfl,B'⟩) (λh4=>hn h4 _ B')⟩
 · exact ae.no h3 ⟨by rw[<- h4];rfl,B⟩
def MY (l:List Cho)(s:List UInt8)(w:World)(v:Value)(w':World):Prop:=bW w w'/\match Cy l s with
 | none=>v=.tuple #[.slice none 0 0,.bool false]
 | some ps=>∃a n c,v=.tuple #[.slice a n c,.bool true]/\Ow Rz be w' NoB a n c ps/\bg w.heap.size a
theorem K5 (s:List UInt8)(hs:s.length <=1000000){w:World}{A:Bl}{a1:Option Addr}{l1 c1:Nat}{cs:List Cho}(hc:Sl Ee w A a1 l1 c1 cs)(he:Env w):
   Cf ji #[vS s,.slice a1 l1 c1] w (Ret (MY cs s w)):=by
 apply wY
 refine⟨λm r a n c w'=>∃out:List Prt,m=r.length/\out.length+r.length <=s.length/\Ow Rz be w' NoB a n c out/\bg w.heap.size a/\bW w w'/\Cy cs s=(Cy cs r).map λr=>out++r,
   ⟨_,[],rfl,by simp,Ow.nil _ _ _ _,bg.none _,Below.refl _ _,by simp⟩,λm r a n c=>aN.of ?_ _⟩
 rintro wl ⟨out,rfl,hol,oo,fo,B,hP⟩
 refine ae.of (λh1=>?_) (λh1=>?_)
 rotate_left
 · have h1:r=[]:=by simpa using h1
   subst h1
   rw[Ri]at hP
   refine⟨B,?_⟩
   rw[hP]
   exact⟨a,n,c,rfl,by simpa using oo,fo⟩
 have h1:r≠[]:=by simpa using h1
 have hr1:1 <=r.length:=List.length_pos_iff.2 h1
 refine aB (R6 r 123 (by omega) wl (he.step B)) ?_
 rintro _ w18 ⟨rfl,b18⟩
 have B18:=ab B b18 B.size
 refine⟨_,_,_,rfl,λk25 w25 hk25 hw25=>?_⟩
 by_cases hm:(123:UInt8)∈r
 rotate_left
 · rw[if_neg hm,decide_eq_false hm]at*
   obtain⟨w26,a26,n26,c26,r26,o26,f26,b26⟩:=Cz (ty:=cj) FE jp jk (by decide) (oo.below b18) fo B18 hk25 hw25 (x:=(r,-1)) (vs:=I5 (r,-1)) rfl (cm:=1) (by omega)
   refine⟨w26,a26,n26,c26,r26,ae.yes rfl ⟨b26,?_⟩⟩
   rw[hP,Mn h1 hm]
   exact⟨_,_,_,rfl,o26,f26⟩
 rw[if_pos hm,decide_eq_true hm]at*
 obtain⟨w26,a26,n26,c26,r26,o26,f26,b26⟩:=Cz (ty:=cj) FE jp jk (by decide) (oo.below b18) fo B18 hk25 hw25 (x:=(r.takeWhile (· !=123),-1)) (vs:=I5 (r.takeWhile (· !=123),-1)) rfl (cm:=1) (by omega)
 refine⟨w26,a26,n26,c26,r26,ae.no rfl ?_⟩
 have hl1:=lu 123 r
 have hl2:=lu 125 (iK 123 r)
 show Calls _ _ #[vS (iK 123 r),_] _ _
 refine aB (R6 (iK 123 r) 125 (by omega) w26 (he.step b26)) ?_
 rintro _ w31 ⟨rfl,b31⟩
 have B31:=ab b26 b31 b26.size
 refine⟨_,_,_,rfl,λk10 w10 hk10 hw10=>?_⟩
 have b10:=(hw10▸ah w31 _:bW w31 w10)
 have A10:ai w10 k10 ak [vS []]:=ai.new hk10 hw10
 generalize hK:(if(125:UInt8)∈iK 123 r then(iK 123 r).takeWhile (· !=125)else iK 123 r)=K
 obtain⟨wx,rx,Ax,gx⟩:=A10.store eG (i:=0) (v:=vS K) rfl (by decide) (λc hc=>by simp[Value.cells]at hc;subst hc;rfl)
 have Ax:ai wx k10 ak [vS K]:=Ax
 have bxq:bW w31 wx:=Below.put b10 gx (by omega)
 have Bx:=ab B31 bxq B31.size
 have o26x:=(o26.below b31).below bxq
 refine⟨wx,rx,?_⟩
 refine aB (HR (hc.below Bx) Ax) ?_
 rintro _ w37 ⟨rfl,b37⟩
 have B37:=ab Bx b37 Bx.size
 have bad:∀{W:World},bW w W-> ¬ VD cs r->MY cs s w (.tuple #[.slice none 0 0,.bool false]) W:=fun{W} hB hn=>⟨hB,by rw[hP,Rh h1 hm hn];rfl⟩
 refine⟨_,rfl,j8 (λW=>bW w37 W/\VD cs r) ?_ ?_⟩
 · by_cases h125:(125:UInt8)∈iK 123 r
   rotate_left
   · rw[decide_eq_false h125]
     exact ae.yes rfl (bad B37 λh=>h125 h.1)
   rw[decide_eq_true h125]
   rw[if_pos h125]at hK
   refine ae.no rfl ⟨K,(Ax.below b37).load1 aF rfl rfl,?_⟩
   refine aB (JX K w37) ?_
   rintro _ w42 ⟨rfl,b42⟩
   have B42:=ab B37 b42 B37.size
   refine⟨_,rfl,ae.of (λh2=>bad B42 λh=>?_) (λh2=>ae.of (λh3=>bad B42 λh=>?_) (λh3=>⟨b42,h125,?_,?_⟩))⟩
   · have h2:nmB K=false:=by simpa using h2
     have:=h.2.1
     rw[hK,h2]at this
     cases this
   · have h3:=of_decide_eq_true h3
     have:=h.2.2
     rw[hK]at this
     omega
   · rw[hK];simpa using h2
   · have h3:=of_decide_eq_false h3
     rw[hK];omega
 rintro W ⟨bWq,hpl⟩ k52 w52 hk52 hw52
 have h125:=hpl.1
 rw[if_pos h125]at hK
 have oW:=(o26x.below b37).below bWq
 obtain⟨w53,a53,n53,c53,r53,o53,f53,b53⟩:=Cz (ty:=cj) FE jp jk (by decide) oW f26 (ab B37 bWq B37.size) hk52 hw52 (x:=([],atC cs K)) (vs:=I5 ([],atC cs K)) rfl (cm:=1) (by simp;omega)
 refine⟨w53,a53,n53,c53,r53,(iK 125 (iK 123 r)).length,by omega,_,?_,?_,o53,f53,b53,?_⟩
 · rw[if_pos h125];rfl
 · rw[if_pos h125]
   show _+(iK 125 (iK 123 r)).length <=_
   have hl3:2 <=r.length:=by
     have:1 <=(iK 123 r).length:=List.length_pos_iff.2 (List.ne_nil_of_mem h125)
     omega
   simp;omega
 · rw[if_pos h125,hP,OR h1 hm hpl,hK]
   exact(TM (Cy cs (iK 125 (iK 123 r))) out [(r.takeWhile (· !=123),-1),([],atC cs K)]).trans (by rw[List.append_assoc out];rfl)
end Go.Pk
