/- What the laws lean on: SymP, SymE, SymQ, SymF, SymG, SymK, PathQ, PthP, V38, PthA, PthB, DfaF, MapG, DaD, DaE, Fnv, V39, RegA, Lst; what is used. Its conditions: none. -/
import Derived.Test.YtpafoodmpjlkhaaGreatDoorKE
import Derived.Lib.SlicesCompact
import Derived.Lib.RowBridge
import Derived.RangeFuncNested
import Derived.Shelf.AbstractIn
import Derived.RegionIn
set_option linter.unusedVariables false
set_option linter.unusedSimpArgs false
set_option linter.unusedSectionVars false
set_option maxRecDepth 100000
open Go.IntKind (i64)
open Go.Proofs.Tryz
open List (length)
open Option (isSome)
namespace Go.Pk
open Go.RowKit (Below)
open Go.Proofs
abbrev Txt:=List UInt8
def BL (l:List Txt):List Txt:=Lib.compact (l.mergeSort λx y=>decide (x <=y))
theorem vz {a b:Txt}(h:a <=b)(hne:a≠b):a<b:=by
 have:=List.le_iff_lt_or_eq.1 h
 exact this.resolve_right hne
theorem Ia (l:List Txt):(l.mergeSort λx y=>decide (x <=y)).Pairwise (· <= ·):=by
 have h:=List.pairwise_mergeSort (le:=fun(x y:Txt)=>decide (x <=y)) (λa b c h1 h2=>by simp only[dTx]at*;exact List.le_trans h1 h2)
   (λa b=>by simp only[Bool.or_eq_true,dTx];exact List.le_total a b) l
 exact h.imp λh=>by simpa using h
theorem CY (d:List Txt)(hs:d.Pairwise (· <= ·)):∀m,m <=d.length->(Lib.compactUpTo d.toArray m).Pairwise (· < ·)/\(∀x,x∈Lib.compactUpTo d.toArray m ↔ x∈d.take m):=by
 intro m
 induction m with
 | zero=>intro _;simp[Lib.compactUpTo]
 | succ m ih=>
   intro hm
   obtain⟨h1,h2⟩:=ih (by omega)
   have hlt:m<d.length:=by omega
   have hd:d.toArray[m]! =d[m]:=by simp[hlt]
   rw[Lib.compactUpTo_succ,List.take_succ_eq_append_getElem hlt,hd]
   by_cases hk:Lib.keeps d.toArray m=true
   · rw[if_pos hk]
     refine⟨List.pairwise_append.2 ⟨h1,by simp,?_⟩,λx=>by rw[List.mem_append,h2,List.mem_append]⟩
     intro x hx y hy
     have hy':y=d[m]:=by simpa using hy
     subst hy'
     have hx':=(h2 x).1 hx
     obtain⟨i,hi,rfl⟩:=List.getElem_of_mem hx'
     rw[List.length_take]at hi
     rw[List.getElem_take]
     have hm0:m≠0:=by omega
     simp only[Lib.keeps,dTx]at hk
     have hne:=hk.resolve_left hm0
     have hd1:d.toArray[m-1]! =d[m-1]:=by simp[show m-1<d.length by omega]
     rw[hd,hd1]at hne
     have hle1:d[m-1] <=d[m]:=List.pairwise_iff_getElem.1 hs (m-1) m (by omega) hlt (by omega)
     have hlt1:=vz hle1 (λe=>hne e.symm)
     by_cases hi1:i=m-1
     · subst hi1;exact hlt1
     · have hle0:d[i] <=d[m-1]:=List.pairwise_iff_getElem.1 hs i (m-1) (by omega) (by omega) (by omega)
       exact List.lt_of_le_of_lt hle0 hlt1
   · rw[if_neg hk]
     refine⟨by simpa using h1,λx=>?_⟩
     rw[List.append_nil,h2,List.mem_append]
     refine⟨.inl,λh=>h.elim id λh=>?_⟩
     have hx:x=d[m]:=by simpa using h
     subst hx
     simp only[Lib.keeps,dTx,not_or,Classical.not_not]at hk
     obtain⟨hm0,he⟩:=hk
     have hd1:d.toArray[m-1]! =d[m-1]:=by simp[show m-1<d.length by omega]
     rw[hd,hd1]at he
     rw[he]
     exact List.mem_take_iff_getElem.2 ⟨m-1,by omega,rfl⟩
theorem BM (l:List Txt):(BL l).Pairwise (· < ·):=(CY _ (Ia l) _ (Nat.le_refl _)).1
theorem Hn {l:List Txt}{x:Txt} :x∈BL l ↔ x∈l:=by
 have:=(CY _ (Ia l) _ (Nat.le_refl _)).2 x
 unfold BL Lib.compact
 rw[this,List.take_length,List.mem_mergeSort]
theorem Hy (l:List Txt):(BL l).length <=l.length:=by
 have:=Lib.compact_length_le (l.mergeSort λx y=>decide (x <=y))
 rw[List.length_mergeSort]at this
 exact this
def zO (ts:List Txt):List (Txt×Int):=ts.zipIdx.map λp=>(p.1,((p.2:Nat):Int))
theorem zP (ts:List Txt)(x:Txt):zO (ts++[x])=zO ts++[(x,(ts.length:Int))]:=by
 unfold zO
 rw[List.zipIdx_append]
 simp
theorem ns (k:Txt):∀(l m:List (Txt×Int)),mg k (l++m)=(mg k l).orElse λ_=>mg k m
 | [],m=>by simp[mg]
 | (k',v)::l,m=>by
   simp only[List.cons_append,mg]
   split
   · rfl
   · exact ns k l m
theorem xe {k:Txt} :∀{ts:List Txt},k ∉ ts->∀(l:List (Txt×Int)),l.map (·.1)=ts->mg k l=none
 | _,h,[],e=>rfl
 | [],h,(k',v)::l,e=>by simp at e
 | t::ts,h,(k',v)::l,e=>by
   simp only[List.map_cons,List.cons.injEq]at e
   obtain⟨rfl,e⟩:=e
   simp only[List.mem_cons,not_or]at h
   unfold mg
   rw[if_neg h.1]
   exact xe h.2 l e
theorem Fnq (ts:List Txt):(zO ts).map (·.1)=ts:=by
 unfold zO
 rw[List.map_map]
 exact List.zipIdx_map_fst 0 ts
theorem jZ {ts:List Txt}{k:Txt}(h:k ∉ ts):mg k (zO ts)=none:=xe h _ (Fnq ts)
theorem Ar {α:Type}{l:List α}{k:Nat}(h:k<l.length):l.take (k+1)=l.take k++[l[k]]:=List.take_succ_eq_append_getElem h
def fH (w:World)(p:Option Addr)(ts:List Txt):Prop:=
 ∃b a n c m cs fr,p=some ⟨b,0,none⟩/\w.heap[b]? =some (.cells cs dZ fr)/\cs= #[.slice a n c,.map (some m)]/\Sl tS w jD a n c ts/\mQ w m (zO ts)/\ts.Pairwise (· < ·)
theorem fH.below {w w':World}{p:Option Addr}{ts:List Txt}(h:fH w p ts)(hb:bW w w'):fH w' p ts:=by
 obtain⟨b,a,n,c,m,cs,fr,e1,e2,e3,e4,e5,e6⟩:=h
 exact⟨b,a,n,c,m,cs,fr,e1,(hb.block b (Array.getElem?_eq_some_iff.1 e2).1).trans e2,e3,e4.below hb,e5.below hb,e6⟩
theorem yY (a:Option Addr)(n c:Nat)(l:List Txt)(hl:l.length <=1000000)(w:World)(hs:Sl tS w jD a n c l):
   Cf nf #[.slice a n c] w (Ret λv w'=>∃p,v=.pointer p/\fH w' p (BL l)/\bW w w'):=by
 apply wK
 refine aw (Gk a n c w) ?_
 rintro _ _ ⟨rfl,rfl⟩
 refine⟨_,rfl,?_⟩
 have hB0:bW w (w.alloc (.cells #[.slice a n c] az)):=af _ _
 have hs0:=hs.below hB0
 have hc0:(w.alloc (.cells #[.slice a n c] az)).cell? ⟨w.heap.size,0,none⟩=some (.slice a n c):=by
   rw[eQ (heap_alloc_new w _)];rfl
 refine aw (F4 w.heap.size (.slice a n c) l hl _ (by simp) hc0 (Sl.texts hs0)) ?_
 rintro _ w1 ⟨a1,n1,c1,rfl,ho1,hf1,hb1⟩
 have hB1:=ab hB0 hb1 hB0.size
 refine⟨a1,n1,c1,rfl,?_⟩
 refine aw (Dj a1 n1 c1 _ (by simpa[srt]using hl) w1 ho1) ?_
 rintro _ w2 ⟨n2,rfl,ho2,hg2⟩
 have hB2:bW w w2:=hB1.grown hg2 hB1.size (hf1.mono hB0.size)
 refine⟨a1,n2,c1,rfl,?_⟩
 have ho2:Ow tS aI w2 NoB a1 n2 c1 (BL l):=ho2
 intro k3 w3 hk3 hw3
 intro k4 w4 hk4 hw4
 have hB3:bW w2 w3:=hw3▸af _ _
 have hB4:bW w3 w4:=hw4▸af _ _
 have hs3:w3.heap.size=w2.heap.size+1:=by rw[hw3];simp
 have hs4:w4.heap.size=w3.heap.size+1:=by rw[hw4];simp
 have hBB:bW w2 w4:=ab hB3 hB4 hB3.size
 have hm3:mQ w3 k3 []:=mQ.new hk3 hw3
 have hm4:mQ w4 k3 []:=hm3.below hB4
 have hh4:w4.heap[k4]? =some (.cells #[.slice a1 n2 c1,.map (some k3)] dZ (0,0)):=by
   rw[hw4,hk4];exact heap_alloc_new w3 _
 have ho4:=ho2.below hBB
 have hn:=ho4.len
 have hlen:=Hy l
 have hlt1:=ho2.lt
 refine⟨rfl,rfl,a1,n2,c1,?_,?_⟩
 · exact dh cM rfl (by rw[eQ hh4];rfl)
 refine⟨λm i w'=>∃n:Nat,n <=(BL l).length/\i=(n:Int)/\m=(BL l).length-n/\mQ w' k3 (zO ((BL l).take n))/\w4.grownBy w' (some k3),
   ⟨_,0,by omega,rfl,rfl,by simpa[zO]using hm4,⟨rfl,rfl,rfl,Nat.le_refl _,λ_ _ _=>rfl⟩⟩,?_⟩
 intro m i
 refine aL.of ?_ _
 rintro w' ⟨j,hj,rfl,rfl,hm,hg⟩
 have hk34:k4≠k3:=by omega
 have hh':w'.heap[k4]? =some (.cells #[.slice a1 n2 c1,.map (some k3)] dZ (0,0)):=by
   rw[hg.block k4 (by omega) (λe=>hk34 (Option.some.inj e))];exact hh4
 have ho':Ow tS aI w' NoB a1 n2 c1 (BL l):=ho4.keep (iC hg λb hb e=>by
   rcases hb with hb|hb
   · exact hb
   · have:=hlt1 b hb.symm
     simp at e;omega)
 refine ah.of (λh=>?_) (λh=>?_) <;> simp at h
 · have hsl:=ho'.all
   have hj':j<(BL l).length:=by omega
   refine⟨⟨⟨by omega,by omega⟩,hsl.isSome hj'⟩,?_⟩
   obtain⟨v,hv,hrep⟩:=hsl.load1 (i:=(j:Int)) bC rfl rfl (by simpa using hj')
   obtain⟨rfl,-⟩:=vo hrep
   simp only[Int.toNat_natCast]at hv
   refine⟨_,hv,rfl,rfl,some k3,?_,?_⟩
   · exact dh cA rfl (by rw[eQ hh'];rfl)
   have hno:mg (BL l)[j] (zO ((BL l).take j))=none:=jZ λhmem=>by
     obtain⟨i,hi,e⟩:=List.getElem_of_mem hmem
     rw[List.length_take]at hi
     rw[List.getElem_take]at e
     have:=List.pairwise_iff_getElem.1 (BM l) i j (by omega) hj' (by omega)
     rw[e]at this
     exact List.lt_irrefl _ this
   obtain⟨w5,hr,hm5,hg5⟩:=yB (P:=prog) cA bC hm hno (j:Int)
   refine⟨w5,hr,_,?_,j+1,by omega,?_,rfl,?_,?_⟩
   · omega
   · rw[ar (by omega) (by omega)];omega
   · rw[Ar hj',zP,List.length_take,Nat.min_eq_left (by omega)];exact hm5
   · exact⟨hg5.os.trans hg.os,hg5.tape.trans hg.tape,hg5.output.trans hg.output,Nat.le_trans hg.size hg5.size,λk hk hne=>(hg5.block k (Nat.lt_of_lt_of_le hk hg.size) hne).trans (hg.block k hk hne)⟩
 · have:j=(BL l).length:=by omega
   subst this
   rw[List.take_length]at hm
   refine⟨_,rfl,⟨k4,a1,n2,c1,k3,_,_,rfl,hh',rfl,ho'.all,hm,BM l⟩,?_⟩
   refine(ab hB2 hBB hB2.size).grown hg (by have:=hB2.size;omega) λk e=>?_
   cases e
   rw[hk3];exact hB2.size
theorem zY {α:Type}[DecidableEq α]:∀{l m:List α},l.Nodup->(∀x∈l,x∈m)->l.length <=m.length
 | [],m,_,_=>Nat.zero_le _
 | x::l,m,h,hs=>by
   have hx:=hs x List.mem_cons_self
   have h':=List.nodup_cons.1 h
   have:=zY (l:=l) (m:=m.erase x) h'.2 λy hy=>(List.mem_erase_of_ne (λe=>h'.1 (by rw[<- e];exact hy))).2 (hs y (List.mem_cons_of_mem _ hy))
   rw[List.length_erase_of_mem hx]at this
   have:=List.length_pos_of_mem hx
   simp;omega
def yz:Txt:=[97,98,99,100,101,102,103,104,105,106,107,108,109,110,111,112,113,114,115,116,117,118,119,120,121,122,48,49,50,51,52,53,54,55,56,57,45,95]
def qw (i:Nat):UInt8:=yz[i]?.getD 0
def Ef (n:Nat):Txt:=if h:n=0 then[]else qw ((n-1)%38)::Ef ((n-1)/38)
termination_by n
decreasing_by omega
theorem qf:Ef 0=[]:=by rw[Ef];rfl
theorem qe {n:Nat}(h:n≠0):Ef n=qw ((n-1)%38)::Ef ((n-1)/38):=by rw[Ef,dif_neg h]
def ii (n:Nat):Txt:=(Ef n).reverse
def CJ (c:UInt8):Nat:=yz.findIdx (· ==c)
def K9:Txt->Nat
 | []=>0
 | c::t=>CJ c+1+38*K9 t
theorem uy:∀i,i<38->CJ (qw i)=i:=by decide
theorem AE (n:Nat):K9 (Ef n)=n:=by
 induction n using Nat.strongRecOn with
 | _ n ih=>
   by_cases h:n=0
   · subst h;rw[qf];rfl
   · rw[qe h,K9,ih _ (by omega),uy _ (by omega)];omega
theorem FC {a b:Nat}(h:ii a=ii b):a=b:=by
 have:=congrArg List.reverse h
 simp only[ii,List.reverse_reverse]at this
 rw[<- AE a,this,AE]
def rg (l:List Txt)(n:Nat):Prop:=1 <=n/\ii n ∉ l/\∀k,1 <=k->k<n->ii k∈l
theorem yj {l:List Txt}{n:Nat}(h:∀k,1 <=k->k<n->ii k∈l):n <=l.length+1:=by
 have:=zY (l:=(List.range' 1 (n-1)).map ii) (m:=l) (by
   refine List.pairwise_map.2 ((List.nodup_range' (s:=1) (n:=n-1)).imp fun{a b} hab e=>hab (FC e))) (by
   intro x hx
   obtain⟨k,hk,rfl⟩:=List.mem_map.1 hx
   rw[List.mem_range'_1]at hk
   exact h k (by omega) (by omega))
 simp at this;omega
theorem Cz (l:List Txt):∃n,rg l n:=by
 have key:∀m,(∀k,1 <=k->k <=m->ii k∈l)\/∃n,rg l n:=by
   intro m
   induction m with
   | zero=>exact .inl λk h1 h2=>by omega
   | succ m ih=>
     rcases ih with ih|ih
     · by_cases h:ii (m+1)∈l
       · refine .inl λk h1 h2=>?_
         by_cases hk:k=m+1
         · rw[hk];exact h
         · exact ih k h1 (by omega)
       · exact .inr ⟨m+1,by omega,h,λk h1 h2=>ih k h1 (by omega)⟩
     · exact .inr ih
 rcases key (l.length+1)with h|h
 · have:=yj (n:=l.length+2) λk h1 h2=>h k h1 (by omega)
   omega
 · exact h
noncomputable def uh (l:List Txt):Nat:=Classical.choose (Cz l)
theorem rq (l:List Txt):rg l (uh l):=Classical.choose_spec (Cz l)
theorem zR {l m:List Txt}(hs:∀x,x∈l ↔ x∈m){a b:Nat}(h:rg l a)(k:rg m b):a=b:=by
 obtain⟨h1,h2,h3⟩:=h
 obtain⟨k1,k2,k3⟩:=k
 rcases Nat.lt_trichotomy a b with c|c|c
 · exact absurd ((hs _).2 (k3 a h1 c)) h2
 · exact c
 · exact absurd ((hs _).1 (h3 b k1 c)) k2
noncomputable def ui (l:List Txt):Txt:=ii (uh l)
theorem E3 {l:List Txt}{n:Nat}(h:rg l n):ui l=ii n:=by
 unfold ui;rw[zR (λ_=>Iff.rfl) (rq l) h]
theorem Dq (l:List Txt):uh l <=l.length+1:=yj (rq l).2.2
def ofT (ts:List Txt)(s:Txt):Int:=if s∈ts then((ts.countP λx=>decide (x<s):Nat):Int)else(ts.length:Int)
theorem p9:∀{ts:List Txt},ts.Pairwise (· < ·)->∀(i:Nat) (h:i<ts.length),(ts.countP λx=>decide (x<ts[i]))=i
 | t::ts,hp,i,h=>by
   have hp':=List.pairwise_cons.1 hp
   cases i with
   | zero=>
     rw[List.countP_eq_zero]
     intro x hx
     simp only[dTx,List.getElem_cons_zero]
     intro hlt
     rcases List.mem_cons.1 hx with rfl|hx
     · exact List.lt_irrefl _ hlt
     · exact List.lt_irrefl _ (List.lt_trans hlt (hp'.1 x hx))
   | succ i=>
     have hi:i<ts.length:=by simpa using h
     simp only[List.getElem_cons_succ]
     rw[List.countP_cons,p9 hp'.2 i hi,if_pos]
     simp only[dTx];exact hp'.1 _ (List.getElem_mem hi)
theorem Jf {ts:List Txt}(hp:ts.Pairwise (· < ·)){i:Nat}(h:i<ts.length):ofT ts ts[i]=(i:Int):=by
 unfold ofT;rw[if_pos (List.getElem_mem h),p9 hp i h]
noncomputable def mO (ts:List Txt)(i:Int):Txt:=if i=(ts.length:Int)then ui ts else if 0 <=i/\i<(ts.length:Int)then ts[i.toNat]?.getD []else[]
theorem xd {ts:List Txt}(hp:ts.Pairwise (· < ·))(s:Txt):mg s (zO ts)=if s∈ts then some (ofT ts s)else none:=by
 by_cases h:s∈ts
 · rw[if_pos h]
   obtain⟨i,hi,rfl⟩:=List.getElem_of_mem h
   rw[Jf hp hi]
   have e:ts=ts.take i++[ts[i]]++ts.drop (i+1):=by
     rw[<- Ar hi,List.take_append_drop]
   have hno:ts[i] ∉ ts.take i:=λhmem=>by
     obtain⟨j,hj,e⟩:=List.getElem_of_mem hmem
     rw[List.length_take]at hj
     rw[List.getElem_take]at e
     have:=List.pairwise_iff_getElem.1 hp j i (by omega) hi (by omega)
     rw[e]at this
     exact List.lt_irrefl _ this
   have e2:zO ts=zO (ts.take i++[ts[i]])++((ts.drop (i+1)).zipIdx (i+1)).map λp=>(p.1,((p.2:Nat):Int)):=by
     conv=>lhs;rw[e]
     unfold zO
     rw[List.zipIdx_append,List.map_append]
     congr 2
     simp;congr 1;omega
   rw[e2,ns,zP,ns,jZ hno]
   simp[mg];omega
 · rw[if_neg h];exact jZ h
theorem fH.pw {w:World}{p:Option Addr}{ts:List Txt}(h:fH w p ts):ts.Pairwise (· < ·):=by
 obtain⟨b,a,n,c,m,cs,fr,_,_,_,_,_,h⟩:=h;exact h
theorem fH.nd {w:World}{p:Option Addr}{ts:List Txt}(h:fH w p ts):ts.Nodup:=h.pw.imp fun{a b} h e=>by subst e;exact List.lt_irrefl a h
theorem fH.some {w:World}{p:Option Addr}{ts:List Txt}(h:fH w p ts):Option.isSome p=true:=by
 obtain⟨b,a,n,c,m,cs,fr,rfl,_⟩:=h;rfl
theorem fH.load0 {w:World}{p:Option Addr}{ts:List Txt}(h:fH w p ts):∃a n c,(Instr.loadAt az (.pointer (Option.map (λx=>x.add 0) p))).run prog w=.ok (.slice a n c) w/\Sl tS w jD a n c ts:=by
 obtain⟨b,a,n,c,m,cs,fr,rfl,h2,rfl,h4,_⟩:=h
 refine⟨a,n,c,?_,h4⟩
 show(Instr.loadAt az (.pointer (Option.some ((⟨b,0,none⟩:Addr).add 0)))).run prog w=_
 rw[dy]
 exact dh cM rfl (by rw[eQ h2];rfl)
theorem fH.load1 {w:World}{p:Option Addr}{ts:List Txt}(h:fH w p ts):∃m,(Instr.loadAt bt (.pointer (Option.map (λx=>x.add 1) p))).run prog w=.ok (.map (Option.some m)) w/\mQ w m (zO ts)/\p.isSome=true:=by
 obtain⟨b,a,n,c,m,cs,fr,rfl,h2,rfl,h4,h5,_⟩:=h
 refine⟨m,?_,h5,rfl⟩
 show(Instr.loadAt bt (.pointer (Option.some ((⟨b,0,none⟩:Addr).add 1)))).run prog w=_
 rw[dy]
 exact dh cA rfl (by rw[eQ h2];rfl)
theorem ci (p:Option Addr)(ts:List Txt)(hl:ts.length <=1000000)(w:World)(h:fH w p ts):
   Cf aO #[.pointer p] w (Ret λv w'=>v=vI ((ts.length:Int)+1)/\w'=w):=by
 apply mj
 obtain⟨a,n,c,hr,hs⟩:=h.load0
 have hn:=hs.len
 refine⟨h.some,h.some,a,n,c,hr,?_,rfl⟩
 rw[ar (by omega) (by omega),hn]
theorem Ap (p:Option Addr)(ts:List Txt)(s:Txt)(w:World)(h:fH w p ts):
   Cf ji #[.pointer p,vS s] w (Ret λv w'=>v=vI (ofT ts s)/\w'=w):=by
 apply mN
 obtain⟨m,hr1,hm,hp⟩:=h.load1
 refine⟨hp,hp,Option.some m,hr1,_,_,zW (z:=vI 0) cA bC dk hm s,?_⟩
 rw[xd h.pw]
 refine ah.of (λhc=>?_) (λhc=>?_)
 · by_cases hs:s∈ts
   · rw[if_pos hs];exact⟨rfl,rfl⟩
   · rw[if_neg hs]at hc;simp at hc
 · by_cases hs:s∈ts
   · rw[if_pos hs]at hc;simp at hc
   · obtain⟨a,n,c,hr,hsl⟩:=h.load0
     have hn:=hsl.len
     refine⟨hp,hp,a,n,c,hr,?_,rfl⟩
     rw[hn];unfold ofT;rw[if_neg hs]
def mL (xs:List UInt8)(i:Nat):List UInt8:=(List.range xs.length).map λk=>if k<i\/xs.length <=k+i then xs[xs.length-1-k]?.getD 0 else xs[k]?.getD 0
theorem i7 (xs:List UInt8)(i:Nat):(mL xs i).length=xs.length:=by simp[mL]
theorem DW (xs:List UInt8):mL xs 0=xs:=by
 apply List.ext_getElem
 · simp[mL]
 · intro k h1 h2
   have: ¬ xs.length <=k:=by omega
   simp[mL,this,h2]
theorem FT (xs:List UInt8)(i:Nat)(h:xs.length <=2*i+1):mL xs i=xs.reverse:=by
 apply List.ext_getElem
 · simp[mL]
 · intro k h1 h2
   have hk:k<xs.length:=by simpa using h2
   simp only[mL,List.getElem_map,List.getElem_range,List.getElem_reverse]
   by_cases c:k<i\/xs.length <=k+i
   · rw[if_pos c,List.getElem?_eq_getElem (by omega)];rfl
   · rw[if_neg c]
     have:xs.length-1-k=k:=by omega
     rw[List.getElem?_eq_getElem hk];simp only[this];rfl
theorem FV (xs:List UInt8)(i k:Nat)(hk:k<(mL xs i).length)(h: ¬ (k<i\/xs.length <=k+i)):(mL xs i)[k]=xs[k]'(by rw[i7]at hk;exact hk):=by
 have hk':k<xs.length:=by rw[i7]at hk;exact hk
 simp only[mL,List.getElem_map,List.getElem_range]
 rw[if_neg h,List.getElem?_eq_getElem hk'];rfl
theorem DU (xs:List UInt8)(i:Nat)(h:2*i+1<xs.length):
   ((mL xs i).set i (xs[xs.length-1-i]'(by omega))).set (xs.length-1-i) (xs[i]'(by omega))=mL xs (i+1):=by
 apply List.ext_getElem
 · simp[mL]
 · intro k h1 h2
   have hk:k<xs.length:=by rw[i7]at h2;exact h2
   rw[List.getElem_set,List.getElem_set]
   simp only[mL,List.getElem_map,List.getElem_range]
   by_cases c1:xs.length-1-i=k
   · rw[if_pos c1,if_pos (by omega),List.getElem?_eq_getElem (by omega)]
     have:xs.length-1-k=i:=by omega
     simp only[this];rfl
   · rw[if_neg c1]
     by_cases c2:i=k
     · subst c2
       rw[if_pos rfl,if_pos (by omega),List.getElem?_eq_getElem (by omega)];rfl
     · rw[if_neg c2]
       by_cases c3:k<i\/xs.length <=k+i
       · rw[if_pos c3,if_pos (by omega)]
       · rw[if_neg c3,if_neg (by omega)]
theorem DX (a:Option Addr)(n c:Nat)(xs:List UInt8)(hl:xs.length <=1000000)(w:World)(ho:Ow tU8 aW w NoB a n c xs):
   Cf du #[.slice a n c] w (Ret λv w'=>v=.tuple #[]/\Ow tU8 aW w' NoB a n c xs.reverse/\w.grownBy w' (bi a)):=by
 apply jB
 have hn:=ho.len
 subst hn
 refine⟨λm i j w'=>∃k:Nat,2*k <=xs.length/\i=(k:Int)/\j=(xs.length:Int)-1-k/\m=xs.length-k/\Ow tU8 aW w' NoB a xs.length c (mL xs k)/\w.grownBy w' (bi a),
   ⟨_,0,by omega,rfl,?_,rfl,by rw[DW];exact ho,⟨rfl,rfl,rfl,Nat.le_refl _,λ_ _ _=>rfl⟩⟩,?_⟩
 · rw[ar (by omega) (by omega)];omega
 intro m i j
 refine aL.of ?_ _
 rintro w' ⟨k,hk,rfl,rfl,rfl,ho',hg⟩
 refine ah.of (λh=>?_) (λh=>?_) <;> simp at h
 · have hk2:2*k+1<xs.length:=by omega
   have hsm:=(ho'.below (aQ w')).all.isSome (i:=0) (by rw[i7];omega)
   have hod:Ow tU8 aW w'.drew NoB a xs.length c (mL xs k):=ho'.below (aQ w')
   have hgd:w.grownBy w'.drew (bi a):=⟨hg.os,hg.tape,hg.output,hg.size,hg.block⟩
   have hin1:(0:Int) <=(xs.length:Int)-1-k/\(xs.length:Int)-1-k<(xs.length:Int):=by omega
   have hin2:(0:Int) <=(k:Int)/\(k:Int)<(xs.length:Int):=by omega
   have et:((xs.length:Int)-1-k).toNat=xs.length-1-k:=by omega
   obtain⟨v1,hv1,hr1⟩:=hod.all.load1 (i:=(xs.length:Int)-1-k) cI rfl rfl (by rw[i7,et];omega)
   obtain⟨v2,hv2,hr2⟩:=hod.all.load1 (i:=(k:Int)) cI rfl rfl (by rw[i7];simp;omega)
   have e1:=vB hr1
   have e2:=vB hr2
   simp only[et]at e1
   simp only[Int.toNat_natCast]at e2
   rw[FV _ _ _ _ (by omega)]at e1 e2
   subst e1 e2
   obtain⟨w3,hs3,ho3,hg3⟩:=hod.store (P:=prog) (bytes:=1) (z:=.int .u8 0) iT (λ_ _ h=>h) (i:=(k:Int)) (by rw[i7];simp;omega) (k:=1) rfl (v:=.int .u8 ((xs[xs.length-1-k]'(by omega)).toNat:Nat)) (uQ rfl)
   obtain⟨w4,hs4,ho4,hg4⟩:=ho3.store (P:=prog) (bytes:=1) (z:=.int .u8 0) iT (λ_ _ h=>h) (i:=(xs.length:Int)-1-k) (by rw[List.length_set,i7,et];omega) (k:=1) rfl (v:=.int .u8 ((xs[k]'(by omega)).toNat:Nat)) (uQ rfl)
   have hgt:w.grownBy w4 (bi a):=⟨(hg4.os.trans hg3.os).trans hgd.os,(hg4.tape.trans hg3.tape).trans hgd.tape,(hg4.output.trans hg3.output).trans hgd.output,Nat.le_trans hgd.size (Nat.le_trans hg3.size hg4.size),
     λq hq hne=>((hg4.block q (Nat.lt_of_lt_of_le hq (Nat.le_trans hgd.size hg3.size)) hne).trans (hg3.block q (Nat.lt_of_lt_of_le hq hgd.size) hne)).trans (hgd.block q hq hne)⟩
   have hend:∃m':Nat,m'<xs.length-k/\∃k':Nat,2*k' <=xs.length/\i64.wrap ((k:Int)+1)=(k':Int)/\i64.wrap ((xs.length:Int)-1-k-1)=(xs.length:Int)-1-k'/\m'=xs.length-k'/\Ow tU8 aW w4 NoB a xs.length c (mL xs k')/\w.grownBy w4 (bi a):=by
     refine⟨xs.length-(k+1),by omega,k+1,by omega,?_,?_,rfl,?_,hgt⟩
     · rw[ar (by omega) (by omega)];omega
     · rw[ar (by omega) (by omega)];omega
     · rw[<- DU xs k hk2]
       simp only[et,Int.toNat_natCast]at ho4
       exact ho4
   exact⟨⟨hin1,hsm⟩,⟨hin2,hsm⟩,⟨_,hv1,_,hv2,⟨hin2,hsm⟩,w3,hs3,⟨hin1,hsm⟩,w4,hs4,hend⟩,_,hv2,_,hv1,⟨hin2,hsm⟩,w3,hs3,⟨hin1,hsm⟩,w4,hs4,hend⟩
 · refine⟨rfl,?_,hg⟩
   rw[<- FT xs k (by omega)];exact ho'
theorem Fx (r:Nat)(h:r<38):jh [97,98,99,100,101,102,103,104,105,106,107,108,109,110,111,112,113,114,115,116,117,118,119,120,121,122,48,49,50,51,52,53,54,55,56,57,45,95] (r:Int)=(((qw r).toNat:Nat):Int):=by
 rw[De (by simpa using h)]
 unfold qw
 rw[List.getElem?_eq_getElem (by simpa[yz]using h)]
 rfl
theorem oS (n:Nat)(hn:n <=1000000)(w:World):Cf jy #[vI (n:Int)] w (Ret λv w'=>v=vS (ii n)/\bW w w'):=by
 apply vh
 refine⟨λm i a l c w'=>∃(k:Nat) (xs:List UInt8),k <=n/\xs.length+k <=n/\i=(k:Int)/\m=k+1/\Ef n=xs++Ef k/\Ow tU8 aW w' NoB a l c xs/\br w.heap.size a/\bW w w',
   ⟨_,n,[],Nat.le_refl _,by simp,rfl,rfl,rfl,Ow.nil _ _ _ _,br.none _,Below.refl _ _⟩,?_⟩
 intro m i a l c
 refine aL.of ?_ _
 rintro w' ⟨k,xs,hk,hx,rfl,rfl,hd,ho,hf,hb⟩
 refine ah.of (λh=>?_) (λh=>?_) <;> simp at h
 · have e1:i64.wrap ((k:Int)-1)=((k-1:Nat):Int):=by rw[ar (by omega) (by omega)];omega
   have e2:Int.tmod ((k-1:Nat):Int) 38=(((k-1)%38:Nat):Int):=rfl
   have e3:Int.tdiv ((k-1:Nat):Int) 38=(((k-1)/38:Nat):Int):=rfl
   refine⟨by decide,λq12 hq12=>?_⟩
   rw[e1,e2]at hq12
   subst hq12
   rw[Fx _ (by omega)]
   refine⟨⟨by omega,by simp;omega⟩,?_⟩
   intro k1 w3 hk1 hw3
   have ho3:Ow tU8 aW w3 NoB a l c xs:=ho.below (hw3▸af _ _)
   have hsrc:Src tU8 w3 NoB (some ⟨k1,0,none⟩) 1 [qw ((k-1)%38)]:=Src.new1F yg hk1 hw3 (uQ rfl)
   obtain⟨w4,a',n',c',hr,ho4,hgr,hfr⟩:=cr (ty:=aZ) cj iT (by decide) ho3 (λ_ _ h=>h) (cm:=1) hsrc (by simp;omega)
   refine⟨w4,a',n',c',hr,by decide,λq8 hq8=>?_⟩
   rw[e1,e3,ar (by omega) (by omega)]at hq8
   subst hq8
   refine⟨(k-1)/38+1,by omega,(k-1)/38,xs++[qw ((k-1)%38)],by omega,?_,rfl,rfl,?_,ho4,?_,?_⟩
   · simp;omega
   · rw[hd,qe (by omega)];simp
   · subst hw3;exact hf.app (by have:=hb.size;simp;omega) hfr
   · subst hw3;exact(ab hb (af _ _) hb.size).grown hgr (by have:=hb.size;simp;omega) hf
 · have:k=0:=by omega
   subst this
   rw[qf,List.append_nil]at hd
   refine aw (DX a l c xs (by omega) w' ho) ?_
   rintro _ w5 ⟨rfl,ho5,hg5⟩
   refine⟨rfl,_,rZ cj bC cI ho5.all,?_,hb.grown hg5 hb.size hf⟩
   unfold ii;rw[hd]
theorem vt (p:Option Addr)(ts:List Txt)(hl:ts.length <=100000)(w:World)(h:fH w p ts):
   Cf eW #[.pointer p] w (Ret λv w'=>v=vS (ui ts)/\bW w w'):=by
 apply kT
 refine⟨λm i w'=>∃k:Nat,1 <=k/\k <=ts.length+1/\i=(k:Int)/\m=ts.length+2-k/\(∀j,1 <=j->j<k->ii j∈ts)/\bW w w',
   ⟨_,1,by omega,by omega,rfl,rfl,λj h1 h2=>by omega,Below.refl _ _⟩,?_⟩
 intro m i
 refine aL.of ?_ _
 rintro w' ⟨k,hk1,hk2,rfl,rfl,hall,hb⟩
 have h':=h.below hb
 obtain⟨r,hr,hm,hp⟩:=h'.load1
 refine⟨hp,hp,some r,?_,ii k,?_,(mg (ii k) (zO ts)).getD 0,(mg (ii k) (zO ts)).isSome,?_,?_⟩
 · intro u hu
   have hb':=h'
   obtain⟨b,a,n,c,m,cs,fr,rfl,h2,rfl,h4,h5,_⟩:=h'
   have hh2:=(hu.block b (Array.getElem?_eq_some_iff.1 h2).1).trans h2
   have em:m=r:=by
     have hr0:(Instr.loadAt bt (.pointer (Option.map (fun(x:Addr)=>x.add 1) (some (⟨b,0,none⟩:Addr))))).run prog w'=.ok (.map (some m)) w':=by
       show(Instr.loadAt bt (.pointer (Option.some ((⟨b,0,none⟩:Addr).add 1)))).run prog w'=_
       rw[dy]
       exact dh cA rfl (by rw[eQ h2];rfl)
     rw[hr0]at hr
     injection hr with hr _
     injection hr with hr
     exact Option.some.inj hr
   subst em
   show(Instr.loadAt bt (.pointer (Option.some ((⟨b,0,none⟩:Addr).add 1)))).run prog u=_
   rw[dy]
   exact dh cA rfl (by rw[eQ hh2];rfl)
 · intro u hu
   refine(oS k (by omega) u).mono ?_
   rintro _ w2 ⟨_,rfl,rfl,hb2⟩
   exact⟨rfl,hb2.mono hu.size⟩
 · intro u hu
   exact zW (z:=vI 0) cA bC dk (hm.below hu) (ii k)
 · intro wq hwq
   rw[xd h.pw]
   refine ah.of (λhc=>?_) (λhc=>?_)
   · refine aw (oS k (by omega) wq) ?_
     rintro _ w3 ⟨rfl,hb3⟩
     have hno:ii k ∉ ts:=λhmem=>by rw[if_pos hmem]at hc;simp at hc
     have hB:=ab hb hwq hb.size
     exact⟨_,rfl,by rw[E3 ⟨hk1,hno,hall⟩],ab hB hb3 hB.size⟩
   · have hyes:ii k∈ts:=by
       by_cases hmem:ii k∈ts
       · exact hmem
       · rw[if_neg hmem]at hc;simp at hc
     have hall':∀j,1 <=j->j<k+1->ii j∈ts:=λj h1 h2=>by
       by_cases e:j=k
       · rw[e];exact hyes
       · exact hall j h1 (by omega)
     have hle:=yj hall'
     refine⟨ts.length+2-(k+1),by omega,k+1,by omega,hle,?_,rfl,hall',ab hb hwq hb.size⟩
     rw[ar (by omega) (by omega)];omega
theorem kV (p:Option Addr)(ts:List Txt)(hl:ts.length <=100000)(i:Int)(w:World)(h:fH w p ts):
   Cf dn #[.pointer p,vI i] w (Ret λv w'=>v=vS (mO ts i)/\bW w w'):=by
 apply lE
 obtain⟨a,n,c,hr,hs⟩:=h.load0
 have hn:=hs.len
 refine⟨λw'=>w'=w/\0 <=i/\i<(ts.length:Int),⟨λb w'=>w'=w/\b=decide (i<0\/i>(ts.length:Int)),?_,?_⟩,?_⟩
 · refine ah.of (λhc=>?_) (λhc=>?_) <;> simp at hc
   · exact⟨rfl,by simp[hc]⟩
   · refine⟨h.some,h.some,a,n,c,hr,rfl,?_⟩
     rw[hn];simp;omega
 · intro b
   refine aL.of ?_ _
   rintro _ ⟨rfl,rfl⟩
   refine ah.of (λhc=>?_) (λhc=>?_) <;> simp at hc
   · refine⟨?_,Below.refl _ _⟩
     unfold mO
     rw[if_neg (by omega),if_neg (by omega)]
   · refine⟨h.some,h.some,a,n,c,hr,?_⟩
     rw[hn]
     refine ah.of (λhc2=>?_) (λhc2=>?_) <;> simp at hc2
     · refine aw (vt p ts hl _ h) ?_
       rintro _ w2 ⟨rfl,hb⟩
       refine⟨_,rfl,?_,hb⟩
       unfold mO
       rw[if_pos hc2]
     · exact⟨rfl,by omega,by omega⟩
 · refine aL.of ?_ _
   rintro _ ⟨rfl,h0,h1⟩
   have hi:i.toNat<ts.length:=by omega
   obtain⟨v,hv,hrep⟩:=hs.load1 (i:=i) bC rfl rfl hi
   obtain⟨rfl,-⟩:=vo hrep
   refine⟨h.some,h.some,a,n,c,hr,⟨⟨by omega,by omega⟩,hs.isSome hi⟩,_,hv,?_,Below.refl _ _⟩
   unfold mO
   rw[if_neg (by omega),if_pos ⟨h0,h1⟩,List.getElem?_eq_getElem hi];rfl
theorem AZ:∀n,n<256->0 <=sym (UInt8.ofNat n)->wd (sym (UInt8.ofNat n))=true/\chr (sym (UInt8.ofNat n))=UInt8.ofNat n:=by decide+kernel
theorem EJ {c:UInt8}(h:0 <=sym c):wd (sym c)=true/\chr (sym c)=c:=by
 have:=AZ c.toNat (by have:=c.toNat_lt;omega)
 rw[UInt8.ofNat_toNat]at this
 exact this h
theorem BQ:∀n,n<92->sym (chr (n:Nat))=(n:Nat):=by decide+kernel
theorem F9 {i:Int}(h:wd i=true):sym (chr i)=i:=by
 unfold wd at h
 simp at h
 have:=BQ i.toNat (by omega)
 rwa [show((i.toNat:Nat):Int)=i by omega]at this
theorem CN (p o:List UInt8):DN p o=(Lib.hasPrefix p o&&((p.drop o.length==[]) || (decide ((p.drop o.length).head?=some 47) || decide (o.getLast?=some 47)))):=by
 have e1:Lib.hasPrefix p o=(decide (o.length <=p.length)&&(p.take o.length==o)):=(Lib.hasPrefix_of_take p o).symm
 unfold DN
 rw[e1,List.head?_drop]
 by_cases h:p.take o.length=o
 · have hl:o.length <=p.length:=by
     have:=congrArg List.length h
     rw[List.length_take]at this;omega
   by_cases h2:o.length<p.length
   · have h3:p≠o:=λe=>by rw[e]at h2;omega
     have h4:p.drop o.length≠[]:=λe=>by have:=congrArg List.length e;rw[List.length_drop,List.length_nil]at this;omega
     rw[beq_eq_false_iff_ne.2 h3,decide_eq_true h2,h,beq_self_eq_true,decide_eq_true hl,beq_eq_false_iff_ne.2 h4]
     simp only[Bool.false_or,Bool.true_and]
   · have h5:p.length=o.length:=by omega
     have h3:p=o:=by rw[<- h,<- h5,List.take_length]
     have h4:p.drop o.length=[]:=List.drop_eq_nil_of_le (by omega)
     simp[h3]
 · have h3:p≠o:=λe=>h (by rw[e,List.take_length])
   rw[beq_eq_false_iff_ne.2 h3,beq_eq_false_iff_ne.2 h]
   simp only[Bool.false_or,Bool.false_and,Bool.and_false]
def pw (s:List UInt8):List Nat:=s.map λc=>(sym c).toNat
theorem Ab:∀n,n<256->Ji (UInt8.ofNat n)=decide (0 <=sym (UInt8.ofNat n)):=by decide+kernel
theorem CO (c:UInt8):Ji c=decide (0 <=sym c):=by
 have:=Ab c.toNat (by have:=c.toNat_lt;omega)
 rwa [UInt8.ofNat_toNat]at this
theorem rE {p:List UInt8}(h:we p=true):kZ p=true/\p.head?=some 47/\p.length <=2048:=by
 unfold we at h
 simp only[Bool.and_eq_true,dTx,List.all_eq_true]at h
 refine⟨List.all_eq_true.2 λc hc=>?_,h.1,h.2.1⟩
 have:=h.2.2 c hc
 rwa [CO]at this
theorem qj {s:List UInt8}(h:kZ s=true){c:UInt8}(hc:c∈s):0 <=sym c:=by
 have:=List.all_eq_true.1 h c hc
 simpa using this
theorem yJ {s:List UInt8}(h:kZ s=true):∀x∈pw s,x<92:=by
 intro x hx
 obtain⟨c,hc,rfl⟩:=List.mem_map.1 hx
 have:=Kj c
 have:=qj h hc
 omega
theorem Jp {c d:UInt8}(hc:0 <=sym c)(hd:0 <=sym d)(e:(sym c).toNat=(sym d).toNat):c=d:=by
 have e':sym c=sym d:=by omega
 rw[<- (EJ hc).2,<- (EJ hd).2,e']
theorem ly:∀{s t:List UInt8},kZ s=true->kZ t=true->(pw s <+:pw t ↔ s <+:t)
 | [],t,_,_=>by simp[pw]
 | c::s,[],_,_=>by simp[pw]
 | c::s,d::t,hs,ht=>by
   have h1:=qj hs (c:=c) List.mem_cons_self
   have h2:=qj ht (c:=d) List.mem_cons_self
   have hs':kZ s=true:=List.all_eq_true.2 λx hx=>List.all_eq_true.1 hs x (List.mem_cons_of_mem _ hx)
   have ht':kZ t=true:=List.all_eq_true.2 λx hx=>List.all_eq_true.1 ht x (List.mem_cons_of_mem _ hx)
   have ih:=ly hs' ht'
   unfold pw at ih ⊢
   simp only[List.map_cons,List.cons_prefix_cons,ih]
   exact and_congr_left λ_=>⟨λe=>Jp h1 h2 e,λe=>by rw[e]⟩
theorem K1 {s t:List UInt8}(hs:kZ s=true)(ht:kZ t=true):pw s=pw t ↔ s=t:=by
 constructor
 · intro e
   have h1:=(ly hs ht).1 (by rw[e];exact List.prefix_refl _)
   exact h1.eq_of_length (by have:=congrArg List.length e;simpa[pw]using this)
 · intro e;rw[e]
theorem tt {s t:List UInt8}(h:kZ t=true)(hp:s <+:t):kZ s=true:=List.all_eq_true.2 λc hc=>List.all_eq_true.1 h c (hp.subset hc)
theorem nk {s:List UInt8}(h:kZ s=true):kZ (s++[47])=true:=List.all_eq_true.2 λc hc=>by
 rcases List.mem_append.1 hc with hc|hc
 · exact List.all_eq_true.1 h c hc
 · rw[List.mem_singleton]at hc;subst hc;decide
def dK (s:List UInt8):DA:=if kZ s=true then chD 92 (pw s) (((pw s).length+1:Nat):Int)else noD 92
theorem mS {s:List UInt8}(h:kZ s=true)(hl:s.length <=65534):tF (dK s) (pw s) 1:=by
 unfold dK
 rw[if_pos h]
 have:=Fq (k:=92) (by omega) (by omega) (w:=pw s) (yJ h) (by simpa[pw]using hl) 1 (by omega)
 simpa using this
theorem zo {s p:List UInt8}(hp:kZ p=true)(hl:s.length <=65534):(dK s).Lang (dK s).s (pw p) ↔ s <+:p:=by
 by_cases h:kZ s=true
 · have hc:=mS h hl
   have hk:(dK s).K=92:=by unfold dK;rw[if_pos h];rfl
   rw[hc.lang,hk]
   unfold GV
   rw[if_neg (by omega),if_pos rfl,ly h hp]
   exact⟨λh=>h.2,λh=>⟨yJ hp,h⟩⟩
 · unfold dK
   rw[if_neg h]
   exact⟨λh2=>absurd h2 (yF _ _),λh2=>absurd (tt hp h2) h⟩
def cK (o:List UInt8):DA:=
 if o=[]then dK [47]
 else if o.head?≠some 47 then noD 92
 else if o.getLast?=some 47 then dK o
 else if kZ o=true then⟨92,1,(dK (o++[47])).nx,(dK (o++[47])).ac.set (o.length+1) true⟩
 else noD 92
theorem BD (p o:List UInt8):Lib.hasPrefix p o=true ↔ o <+:p:=by
 rw[<- Lib.hasPrefix_of_take,Bool.and_eq_true,dTx,beq_iff_eq,List.prefix_iff_eq_take]
 constructor
 · rintro⟨_,h⟩;exact h.symm
 · intro h;exact⟨by have:=congrArg List.length h;rw[List.length_take]at this;omega,h.symm⟩
theorem uC {p o:List UInt8}(hp:we p=true)(hl:o.length <=60000):(cK o).Lang (cK o).s (pw p) ↔ DN p o=true:=by
 obtain⟨g,h47,_⟩:=rE hp
 obtain⟨q,rfl⟩:∃q,p=47::q:=by
   cases p with
   | nil=>simp at h47
   | cons c q=>simp at h47;exact⟨q,by rw[h47]⟩
 unfold cK
 by_cases h0:o=[]
 · subst h0
   rw[if_pos rfl,zo g (by decide)]
   simp[DN]
 rw[if_neg h0]
 by_cases h1:o.head?=some 47
 · rw[if_neg (by simpa using h1)]
   rw[CN]
   by_cases h2:o.getLast?=some 47
   · rw[if_pos h2,zo g (by omega),<- BD]
     simp[h2]
   · rw[if_neg h2]
     simp only[h2,decide_false,Bool.or_false,Bool.and_eq_true,Bool.or_eq_true,beq_iff_eq,dTx,BD]
     have key:(o <+:47::q/\(List.drop o.length (47::q)=[]\/(List.drop o.length (47::q)).head?=some 47)) ↔ (47::q=o\/o++[47] <+:47::q):=by
       constructor
       · rintro⟨⟨r,e⟩,h3⟩
         rw[<- e,List.drop_left]at h3
         rcases h3 with h3|h3
         · left;rw[<- e,h3,List.append_nil]
         · right
           obtain⟨r',rfl⟩:∃r',r=47::r':=by
             cases r with
             | nil=>simp at h3
             | cons c r'=>simp at h3;exact⟨r',by rw[h3]⟩
           exact⟨r',by rw[<- e,List.append_assoc];rfl⟩
       · rintro(h3|⟨r,e⟩)
         · rw[h3];exact⟨List.prefix_refl _,.inl (List.drop_eq_nil_of_le (Nat.le_refl _))⟩
         · rw[List.append_assoc]at e
           refine⟨⟨_,e⟩,.inr ?_⟩
           rw[<- e,List.drop_left];rfl
     rw[key]
     by_cases h3:kZ o=true
     · rw[if_pos h3]
       have hc:=mS (nk h3) (s:=o++[47]) (by simp;omega)
       have hb:dK (o++[47])=chD 92 (pw (o++[47])) (((pw (o++[47])).length+1:Nat):Int):=by unfold dK;rw[if_pos (nk h3)]
       have hlen:(pw (o++[47])).length=o.length+1:=by simp[pw]
       have hk:(dK (o++[47])).K=92:=by rw[hb];rfl
       have hs:(dK (o++[47])).s=1:=hc.st
       have hn:=hc.n
       have hset:=Hk (d:=dK (o++[47])) (a:=o.length+1) (by rw[hn,hlen];omega) (pw (47::q))
       have e92:(⟨92,1,(dK (o++[47])).nx,(dK (o++[47])).ac.set (o.length+1) true⟩:DA)=⟨(dK (o++[47])).k,(dK (o++[47])).st,(dK (o++[47])).nx,(dK (o++[47])).ac.set (o.length+1) true⟩:=by rw[hb];rfl
       have es:(⟨92,1,(dK (o++[47])).nx,(dK (o++[47])).ac.set (o.length+1) true⟩:DA).s=(dK (o++[47])).s:=by rw[hs];rfl
       rw[es,e92,hset,hs,hk]
       have hf:=hc.from (i:=0) (Nat.zero_le _) (v:=pw (47::q)) (by rw[hk];exact yJ g)
       have ha:=hc.run_at (i:=o.length) (by rw[hlen];omega) (j:=0) (Nat.zero_le _) (v:=pw (47::q)) (by rw[hk];exact yJ g)
       have et:(pw (o++[47])).take o.length=pw o:=by
         unfold pw
         rw[List.map_append,List.take_left' (by simp)]
       rw[Nat.zero_add]at hf ha
       rw[hf,ha,List.drop_zero,List.drop_zero,et,K1 g h3]
       unfold GV
       rw[if_neg (by omega),if_pos rfl,ly (nk h3) g]
       constructor
       · rintro⟨_,h4|h4⟩
         · exact .inr h4
         · exact .inl h4
       · rintro(h4|h4)
         · exact⟨yJ g,.inr h4⟩
         · exact⟨yJ g,.inl h4⟩
     · rw[if_neg h3]
       refine⟨λh4=>absurd h4 (yF _ _),λh4=>absurd ?_ h3⟩
       rcases h4 with h4|⟨r,e⟩
       · rw[<- h4];exact g
       · exact tt g ⟨[47]++r,by rw[<- e,List.append_assoc]⟩
 · rw[if_pos h1]
   refine⟨λh2=>absurd h2 (yF _ _),λh2=>?_⟩
   rw[CN,Bool.and_eq_true,BD]at h2
   obtain⟨⟨r,e⟩,_⟩:=h2
   cases o with
   | nil=>exact absurd rfl h0
   | cons c o=>
     simp only[List.cons_append,List.cons.injEq]at e
     exact absurd (by rw[e.1];rfl) h1
theorem rR (a:lU){w K}(h:nA w (.cells #[vI 0,vI 0,.slice none 0 0,.slice none 0 0] ae) λb c=>ah (decide (((List.length a:Nat):Int)>(60000:Int))) (∃d,Sv ae (vA b 0) (.agg #[vI 0,vI 0,.slice none 0 0,.slice none 0 0]) c d/\∃e f g i j k l m,Rv ae (vA b 0) d (.agg #[vI e,vI f,.slice g i j,.slice k l m])/\K (.tuple #[.agg #[vI e,vI f,.slice g i j,.slice k l m],vI 152]) d) (ah (a==[]) (Cf cg #[] c λd e=>∃f g i j k l m n,d=.returned (.agg #[vI f,vI g,.slice i j k,.slice l m n])/\∃o,Sv ae (vA b 0) (.agg #[vI f,vI g,.slice i j k,.slice l m n]) e o/\∃p q r s t u v x,Rv ae (vA b 0) o (.agg #[vI p,vI q,.slice r s t,.slice u v x])/\K (.tuple #[.agg #[vI p,vI q,.slice r s t,.slice u v x],vI 0]) o) (bx (0:Int) ((List.length a:Nat):Int)/\ah ((jh a (0:Int)) !=(47:Int)) (Cf lj #[vI 92] c λd e=>∃f g i j k l m n o,d=rT #[.agg #[vI f,vI g,.slice i j k,.slice l m n],vI o]/\∃p,Sv ae (vA b 0) (.agg #[vI f,vI g,.slice i j k,.slice l m n]) e p/\∃q r s t u v x y,Rv ae (vA b 0) p (.agg #[vI q,vI r,.slice s t u,.slice v x y])/\K (.tuple #[.agg #[vI q,vI r,.slice s t u,.slice v x y],vI o]) p) (uB jU #[vS a,vS [47]] c λd e=>ah d (Cf fe #[vS a] e λf g=>∃i j k l m n o p q,f=rT #[.agg #[vI i,vI j,.slice k l m,.slice n o p],vI q]/\∃r,Sv ae (vA b 0) (.agg #[vI i,vI j,.slice k l m,.slice n o p]) g r/\∃s t u v x y z A,Rv ae (vA b 0) r (.agg #[vI s,vI t,.slice u v x,.slice y z A])/\K (.tuple #[.agg #[vI s,vI t,.slice u v x,.slice y z A],vI q]) r) ((((List.length a+List.length [47]:Nat):Int) <=i64.max)/\∀f,f=(a++[47])->Cf fe #[vS f] e λg i=>∃j k l m n o p q r,g=rT #[.agg #[vI j,vI k,.slice l m n,.slice o p q],vI r]/\nA i (.cells #[vI 0,vI 0,.slice none 0 0,.slice none 0 0] ae) λs t=>∃u,Sv ae (vA s 0) (.agg #[vI j,vI k,.slice l m n,.slice o p q]) t u/\∃v:FP [],(Cf iL #[vS a] u λx y=>∃z A B C,x=rT #[.slice z A B,.bool C]/\∃D:FP [.one .bool],(ah C (D (r==(0:Int)) y) (D false y))/\∀E,aL 4 (∀F,D E F->ah E (true/\∃G,Ld aq (vA s 1) F (vI G)/\∃H:Nat->FP [.one (.int .i64),.one (.int .i64)],(∃I,H I G (0:Int) F)/\∀I J L,aL 15 (∀M,H I J L M->ah (decide (L<((A:Nat):Int))) ((bx L ((A:Nat):Int)/\Option.isSome z=true)/\∃N,Ld aq (ak z L 1) M (vI N)/\true/\∃O P Q,Ld aj (vA s 2) M (.slice O P Q)/\true/\∃R,Ld aq (vA s 0) M (vI R)/\(bx (i64.wrap ((i64.wrap (J*R))+N)) ((P:Nat):Int)/\Option.isSome O=true)/\∃S,Ld aq (ak O (i64.wrap ((i64.wrap (J*R))+N)) 1) M (vI S)/\∃T:Nat,T<I/\H T S (i64.wrap (L+(1:Int))) M) (true/\∃N O P,Ld aH (vA s 3) M (.slice N O P)/\(bx J ((O:Nat):Int)/\Option.isSome N=true)/\∃Q,Sv bv (ak N J 1) (.bool true) M Q/\v Q))) (v F)))/\aL 37 (∀x,v x->∃y z A B C D E F,Ld ae (vA s 0) x (.agg #[vI y,vI z,.slice A B C,.slice D E F])/\∃G,Sv ae (vA b 0) (.agg #[vI y,vI z,.slice A B C,.slice D E F]) x G/\∃H I J L M N O P,Rv ae (vA b 0) G (.agg #[vI H,vI I,.slice J L M,.slice N O P])/\K (.tuple #[.agg #[vI H,vI I,.slice J L M,.slice N O P],vI r]) G)))))):Cf jS #[vS a] w (Ret K):=ru func77 [(31,[]),(34,[(49,.one .bool)]),(43,[(8,.one (.int .i64)),(54,.one (.int .i64))])] h
theorem rS {w K}(h:nA w (.cells #[vI 0,vI 0,.slice none 0 0,.slice none 0 0] ae) λa b=>Cf fe #[vS [47]] b λc d=>∃e f g i j k l m n,c=rT #[.agg #[vI e,vI f,.slice g i j,.slice k l m],vI n]/\nA d (.cells #[vI 0,vI 0,.slice none 0 0,.slice none 0 0] ae) λo p=>∃q,Sv ae (vA o 0) (.agg #[vI e,vI f,.slice g i j,.slice k l m]) p q/\∃r s t u v x y z,Ld ae (vA o 0) q (.agg #[vI r,vI s,.slice t u v,.slice x y z])/\∃A,Sv ae (vA a 0) (.agg #[vI r,vI s,.slice t u v,.slice x y z]) q A/\∃B C D E F G H I,Rv ae (vA a 0) A (.agg #[vI B,vI C,.slice D E F,.slice G H I])/\K (.agg #[vI B,vI C,.slice D E F,.slice G H I]) A):Cf cg #[] w (Ret K):=ru func134 [] h
theorem qG (a:lU){w K}(h:nA w (.cells #[vI 0,vI 0,.slice none 0 0,.slice none 0 0] ae) λb c=>Cf iL #[vS a] c λd e=>∃f g i j,d=rT #[.slice f g i,.bool j]/\ah (!j) (Cf lj #[vI 92] e λk l=>∃m n o p q r s t u,k=rT #[.agg #[vI m,vI n,.slice o p q,.slice r s t],vI u]/\∃v,Sv ae (vA b 0) (.agg #[vI m,vI n,.slice o p q,.slice r s t]) l v/\∃x y z A B C D E,Rv ae (vA b 0) v (.agg #[vI x,vI y,.slice z A B,.slice C D E])/\K (.tuple #[.agg #[vI x,vI y,.slice z A B,.slice C D E],vI u]) v) (Cf ku #[vI 92,.slice f g i] e λk l=>∃m n o p q r s t u,k=rT #[.agg #[vI m,vI n,.slice o p q,.slice r s t],vI u]/\∃v,Sv ae (vA b 0) (.agg #[vI m,vI n,.slice o p q,.slice r s t]) l v/\∃x y z A B C D E,Rv ae (vA b 0) v (.agg #[vI x,vI y,.slice z A B,.slice C D E])/\K (.tuple #[.agg #[vI x,vI y,.slice z A B,.slice C D E],vI u]) v)):Cf fe #[vS a] w (Ret K):=ru func136 [] h
theorem zJ {s:List UInt8}(h:kZ s=true):Aq s=(pw s).map fun(x:Nat)=>(x:Int):=by
 unfold Aq pw
 rw[if_pos h,List.map_map]
 refine List.map_congr_left λc hc=>?_
 have:=qj h hc
 show sym c=(((sym c).toNat:Nat):Int)
 omega
theorem uM (s:List UInt8):(pw s).length=s.length:=by simp[pw]
theorem tK (s:List UInt8)(hs:s.length <=65534)(w:World):Cf fe #[vS s] w (Ret (pj w (dK s))):=by
 apply qG
 intro k2 w2 hk2 hw2
 have hb2:=(hw2▸af w _:bW w w2)
 have A2:ai w2 k2 ae [vI 0,vI 0,.slice none 0 0,.slice none 0 0]:=ai.new hk2 hw2
 have hlt:=A2.lt
 refine aw (nE s (by omega) w2) ?_
 rintro _ w8 ⟨a,n,c,rfl,ho,hf,hb8⟩
 have hB:=ab hb2 hb8 hb2.size
 refine⟨a,n,c,kZ s,rfl,ah.of (λh=>?_) (λh=>?_)⟩
 · have hg:kZ s=false:=by simpa using h
   refine aw (pz (k:=92) (by omega) (by omega)) ?_
   rintro _ w13 ⟨a1,n1,c1,b1,m1,e1,rfl,O,hb13⟩
   have s8:=hb8.size
   obtain⟨wx,s1,s2,g1⟩:=cR ((A2.below hb8).below hb13) rfl a1 n1 c1 b1 m1 e1 (noD 92)
   have hB13:=ab hB hb13 hB.size
   refine⟨_,_,a1,n1,c1,b1,m1,e1,_,rfl,wx,s1,_,_,a1,n1,c1,b1,m1,e1,s2,?_⟩
   have e:dK s=noD 92:=by unfold dK;rw[if_neg (by rw[hg];decide)]
   rw[e]
   exact⟨a1,n1,c1,b1,m1,e1,rfl,(O.put g1 (by omega)).mono hB.size,Below.put hB13 g1 (by omega)⟩
 · have hg:kZ s=true:=by simpa using h
   rw[zJ hg]at ho
   refine aw (qd (k:=92) ho.all (by omega) (by omega) (yJ hg) (by rw[uM];exact hs)) ?_
   rintro _ w13 ⟨a1,n1,c1,b1,m1,e1,rfl,O,hb13⟩
   have s8:=hb8.size
   obtain⟨wx,s1,s2,g1⟩:=cR ((A2.below hb8).below hb13) rfl a1 n1 c1 b1 m1 e1 (chD 92 (pw s) (((pw s).length+1:Nat):Int))
   have hB13:=ab hB hb13 hB.size
   refine⟨_,_,a1,n1,c1,b1,m1,e1,_,rfl,wx,s1,_,_,a1,n1,c1,b1,m1,e1,s2,?_⟩
   have e:dK s=chD 92 (pw s) (((pw s).length+1:Nat):Int):=by unfold dK;rw[if_pos hg]
   rw[e]
   exact⟨a1,n1,c1,b1,m1,e1,rfl,(O.put g1 (by omega)).mono hB.size,Below.put hB13 g1 (by omega)⟩
def JF (w:World)(d:DA)(v:Value)(w':World):Prop:=∃(a:Option Addr) (n c:Nat) (b:Option Addr) (m e:Nat),v=daV a n c b m e d/\ri w.heap.size w' a n c b m e d/\bW w w'
theorem Ch (w:World):Cf cg #[] w (Ret (JF w (dK [47]))):=by
 apply rS
 intro k0 w0 hk0 hw0
 have hb0:=(hw0▸af w _:bW w w0)
 have A0:ai w0 k0 ae [vI 0,vI 0,.slice none 0 0,.slice none 0 0]:=ai.new hk0 hw0
 have hlt:=A0.lt
 refine aw (tK [47] (by decide) w0) ?_
 rintro _ w4 ⟨a,n,c,b,m,e,rfl,O,hb4⟩
 have hB4:=ab hb0 hb4 hb0.size
 refine⟨_,_,a,n,c,b,m,e,_,rfl,?_⟩
 intro k1 w1 hk1 hw1
 have hb1:=(hw1▸af w4 _:bW w4 w1)
 have A1:ai w1 k1 ae [vI 0,vI 0,.slice none 0 0,.slice none 0 0]:=ai.new hk1 hw1
 have s4:=hb4.size
 obtain⟨wx,q1,v1,g1⟩:=bh.store0 (P:=prog) (cs:=daL a n c b m e (dK [47])) rfl (dt _ _ _ _ _ _ _) A1 rfl
 have bx:bW w4 wx:=Below.put hb1 g1 (by omega)
 refine⟨wx,q1,_,_,a,n,c,b,m,e,bh.load0 (cs:=daL a n c b m e (dK [47])) v1 rfl,?_⟩
 obtain⟨wy,s1,s2,g2⟩:=cR ((A0.below hb4).below bx) rfl a n c b m e (dK [47])
 have hBx:=ab hB4 bx hB4.size
 exact⟨wy,s1,_,_,a,n,c,b,m,e,s2,a,n,c,b,m,e,rfl,((O.below bx).put g2 hlt).mono hb0.size,Below.put hBx g2 (by omega)⟩
theorem K5 (s p:List UInt8)(hs:s.length <=9223372036854775807)(w:World):Cf jU #[vS s,vS p] w (Ret λv w'=>v=.bool (Lib.hasSuffix s p)/\w'=w):=
 (Tryz.strings_HasSuffix (mkS s) (mkS p) w hs).mono λe w' ⟨h1,h2⟩=>⟨_,h1,rfl,h2⟩
theorem IK {s:List UInt8}{c:UInt8}{r:List UInt8}(e:s=c::r):jh s (0:Int)=((c.toNat:Nat):Int):=by subst e;rfl
theorem tF.go {d:DA}{w:List Nat}{m:Nat}(h:tF d w m)(hw:∀x∈w,x<d.K){i:Nat}(hi:i<w.length):d.run 1 (w.take i)=i+1:=
 (h.run_at hi (j:=0) (Nat.zero_le _) (λx hx=>hw x (List.mem_of_mem_take hx))).2 rfl
set_option maxHeartbeats 1000000 in
theorem GE (o:List UInt8)(ho:o.length <=60000)(w:World):Cf jS #[vS o] w (Ret (pj w (cK o))):=by
 apply rR
 intro k2 w2 hk2 hw2
 have hb2:=(hw2▸af w _:bW w w2)
 have A2:ai w2 k2 ae [vI 0,vI 0,.slice none 0 0,.slice none 0 0]:=ai.new hk2 hw2
 have hlt:=A2.lt
 have s2':=hb2.size
 have back:∀{W:World} {d:DA} {a b:Option Addr} {n c m e:Nat},ri w2.heap.size W a n c b m e d->bW w2 W->∃wx,(Instr.storeAt ae (.pointer (some ⟨k2,0,none⟩)) (daV a n c b m e d)).run prog W=.ok () wx/\(bE ae (.pointer (some ⟨k2,0,none⟩))).run prog wx=.ok (daV a n c b m e d) wx/\pj w d (.tuple #[daV a n c b m e d,vI 0]) wx:=by
   intro W d a b n c m e O hb
   obtain⟨wx,s1,s2,g1⟩:=cR (A2.below hb) rfl a n c b m e d
   exact⟨wx,s1,s2,a,n,c,b,m,e,rfl,(O.put g1 hlt).mono hb2.size,Below.put (ab hb2 hb hb2.size) g1 (by omega)⟩
 refine ah.no (decide_eq_false (by omega)) (ah.of (λh0=>?_) (λh0=>?_))
 · have h0:o=[]:=by simpa using h0
   have e:cK o=dK [47]:=by unfold cK;rw[if_pos h0]
   rw[e]
   refine aw (Ch w2) ?_
   rintro _ w19 ⟨a,n,c,b,m,e,rfl,O,hb⟩
   obtain⟨wx,s1,s2,h⟩:=back O hb
   exact⟨_,_,a,n,c,b,m,e,rfl,wx,s1,_,_,a,n,c,b,m,e,s2,h⟩
 have h0:o≠[]:=by simpa using h0
 obtain⟨x,r,er⟩:=List.exists_cons_of_ne_nil h0
 have hlen:0<o.length:=by rw[er];simp
 refine⟨⟨by omega,by omega⟩,?_⟩
 rw[IK er]
 refine ah.of (λh1=>?_) (λh1=>?_)
 · have h1:x≠47:=λe=>by subst e;simp at h1
   have e:cK o=noD 92:=by unfold cK;rw[if_neg h0,if_pos (by rw[er];simpa using h1)]
   rw[e]
   refine aw (pz (k:=92) (by omega) (by omega)) ?_
   rintro _ w19 ⟨a,n,c,b,m,e,rfl,O,hb⟩
   obtain⟨wx,s1,s2,h⟩:=back O hb
   exact⟨_,_,a,n,c,b,m,e,_,rfl,wx,s1,_,_,a,n,c,b,m,e,s2,h⟩
 have h1:x=47:=by
   have h2:((x.toNat:Nat):Int)=47:=by simpa using h1
   exact UInt8.toNat_inj.1 (show x.toNat=47 by omega)
 subst h1
 have hd: ¬ (o.head?≠some 47):=by rw[er];simp
 refine aw (K5 o [47] (by omega) w2) ?_
 rintro _ w29 ⟨rfl,hw29⟩
 rw[hw29];clear hw29 w29
 rw[(CU o 47).1]
 refine⟨_,rfl,ah.of (λh2=>?_) (λh2=>?_)⟩
 · have h2:o.getLast?=some 47:=by simpa using h2
   have e:cK o=dK o:=by unfold cK;rw[if_neg h0,if_neg hd,if_pos h2]
   rw[e]
   refine aw (tK o (by omega) w2) ?_
   rintro _ w19 ⟨a,n,c,b,m,e,rfl,O,hb⟩
   obtain⟨wx,s1,s2,h⟩:=back O hb
   exact⟨_,_,a,n,c,b,m,e,_,rfl,wx,s1,_,_,a,n,c,b,m,e,s2,h⟩
 have h2: ¬ o.getLast?=some 47:=by simpa using h2
 have hl1:(o++[47]).length=o.length+1:=by simp
 refine⟨by show((o.length+[(47:UInt8)].length:Nat):Int) <=9223372036854775807;simp;omega,?_⟩
 rintro _ rfl
 refine aw (tK (o++[47]) (by omega) w2) ?_
 rintro _ w37 ⟨a,n,c,b,m,e,rfl,O,hb37⟩
 refine⟨_,_,a,n,c,b,m,e,_,rfl,?_⟩
 intro k4 w4 hk4 hw4
 have hb4:=(hw4▸af w37 _:bW w37 w4)
 have A4:ai w4 k4 ae [vI 0,vI 0,.slice none 0 0,.slice none 0 0]:=ai.new hk4 hw4
 have hlt4:=A4.lt
 have s37:=hb37.size
 obtain⟨wx,q1,v1,g1⟩:=bh.store0 (P:=prog) (cs:=daL a n c b m e (dK (o++[47]))) rfl (dt _ _ _ _ _ _ _) A4 rfl
 have bx:bW w37 wx:=Below.put hb4 g1 (by omega)
 have Bx:=ab hb37 bx hb37.size
 refine⟨wx,q1,λW=>bW w2 W/\k4<W.heap.size/\∃d,d=cK o/\d.k=92/\ri w2.heap.size W a n c b m e d/\ai W k4 ae (daL a n c b m e d),?_,?_⟩
 · refine aw (nE o (by omega) wx) ?_
   rintro _ w42 ⟨a5,n5,c5,rfl,ho5,hf5,hb42⟩
   have B42:=ab Bx hb42 Bx.size
   have A42:=v1.below hb42
   have O42:=(O.below bx).below hb42
   refine⟨a5,n5,c5,kZ o,rfl,λbb W=>bb=kZ o/\W=w42,ah.of (λh=>⟨h.symm,rfl⟩) (λh=>⟨h.symm,rfl⟩),λbb=>aL.of ?_ _⟩
   rintro wj ⟨rfl,hwj⟩
   rw[hwj];clear hwj wj
   refine ah.of (λhg=>?_) (λhg=>?_)
   · have hg2:=nk hg
     rw[zJ hg]at ho5
     have hc:=mS hg2 (by omega)
     have eb:dK (o++[47])=chD 92 (pw (o++[47])) (((pw (o++[47])).length+1:Nat):Int):=by unfold dK;rw[if_pos hg2]
     have eK:(dK (o++[47])).K=92:=by rw[eb];rfl
     have ek:(dK (o++[47])).k=92:=by rw[eb];rfl
     have est:(dK (o++[47])).st=1:=by rw[eb];rfl
     have hw:∀x∈pw (o++[47]),x<(dK (o++[47])).K:=by rw[eK];exact yJ hg2
     have epw:pw (o++[47])=pw o++pw [47]:=by unfold pw;rw[List.map_append]
     have hn5:n5=o.length:=by have:=ho5.len;rw[List.length_map,uM]at this;exact this
     refine⟨rfl,_,A42.load1 aC rfl rfl,?_⟩
     rw[est]
     refine⟨λM at_ i W=>∃j:Nat,j <=o.length/\i=(j:Int)/\M=o.length-j/\at_=((j+1:Nat):Int)/\W=w42,⟨_,0,by omega,rfl,rfl,rfl,rfl⟩,?_⟩
     intro M at_ i
     refine aL.of ?_ _
     rintro wl ⟨j,hj,rfl,rfl,rfl,hwl⟩
     rw[hwl];clear hwl wl
     refine ah.of (λh3=>?_) (λh3=>?_) <;> simp only[dTx,dFx]at h3
     · have hjl:j<o.length:=by omega
       have hj2:j<(pw o).length:=by rw[uM];exact hjl
       have hj3:j<((pw o).map fun(x:Nat)=>(x:Int)).length:=by rw[List.length_map];exact hj2
       have hj4:j<(pw (o++[47])).length:=by rw[uM,hl1];omega
       have hx92:(pw o)[j]<92:=yJ hg _ (List.getElem_mem hj2)
       have e1:((pw o).map fun(x:Nat)=>(x:Int))[j]=(((pw o)[j]:Nat):Int):=by rw[List.getElem_map]
       have e2:(pw (o++[47]))[j]=(pw o)[j]:=by simp only[epw];rw[List.getElem_append_left hj2]
       have hs1:j+1<(dK (o++[47])).n:=by rw[hc.n,uM,hl1];omega
       obtain⟨v,hv,v0,v2,ev⟩:=hc.ok.at hs1 (x:=(pw o)[j]) (by rw[eK];exact hx92)
       have hto:=hc.mid j _ hj4 (by rw[eK];exact hx92)
       rw[e2,if_pos rfl]at hto
       rw[eK]at hv
       have hvl:=(List.getElem?_eq_some_iff.1 hv).1
       have hve:=(List.getElem?_eq_some_iff.1 hv).2
       have hwr:i64.wrap (i64.wrap (((j+1:Nat):Int)*92)+(((pw o)[j]:Nat):Int))=(((j+1)*92+(pw o)[j]:Nat):Int):=by
         have h6:i64.wrap (((j+1:Nat):Int)*92)=((j+1:Nat):Int)*92:=ar (by omega) (by omega)
         try dsimp only
         rw[h6,ar (by omega) (by omega)];omega
       have hnl:=O42.nx.len
       refine⟨⟨⟨by omega,by omega⟩,ho5.all.isSome hj3⟩,_,ho5.all.num aC hj3,rfl,a,n,c,A42.load1 aA rfl rfl,rfl,_,A42.load1 aC rfl rfl,?_⟩
       rw[e1,ek,hwr]
       refine⟨⟨⟨by omega,by omega⟩,O42.nx.all.isSome hvl⟩,_,O42.nx.all.num aC hvl,o.length-(j+1),by omega,j+1,by omega,by rw[ar (by omega) (by omega)];omega,rfl,?_,rfl⟩
       rw[hve]
       omega
     · have hjl:j=o.length:=by omega
       subst hjl
       have hna:(dK (o++[47])).ac.length=o.length+3:=by
         have:=hc.n
         rw[uM,hl1]at this
         exact this
       have hacl:=O42.ac.len
       have hi:(((o.length+1:Nat):Int)).toNat<(dK (o++[47])).ac.length:=by rw[hna];omega
       obtain⟨w7,r7,o7,g7⟩:=Ow.store (P:=prog) kW O42.ac (λg _ h=>h) (i:=((o.length+1:Nat):Int)) hi (k:=1) rfl (v:=.bool true) (x:=true) od
       refine⟨rfl,b,m,e,A42.load1 aS rfl rfl,⟨⟨by omega,by omega⟩,O42.ac.all.isSome hi⟩,w7,r7,?_⟩
       have hbb:∀g,bi b=some g->w2.heap.size <=g:=λg hg=>O.fb g hg
       have e7:(o.length+1:Nat)=(((o.length+1:Nat):Int)).toNat:=by omega
       have em:cK o=⟨92,1,(dK (o++[47])).nx,(dK (o++[47])).ac.set (o.length+1) true⟩:=by
         unfold cK
         rw[if_neg h0,if_neg hd,if_neg h2,if_pos hg]
       have hk4b:∀g,bi b=some g->g≠k4:=λg hg ex=>by
         have:=O.ac.lt g hg
         omega
       have hk4r:some k4≠bi b:=λex=>hk4b k4 ex.symm rfl
       refine⟨B42.grown g7 B42.size hbb,by have:=g7.size;have:=hb42.size;have:=v1.lt;omega,_,em.symm,rfl,⟨?_,by rw[e7];exact o7,O42.ne,O42.fa,O42.fb⟩,?_⟩
       · exact O42.nx.other g7 O42.ne
       · have:=A42.grown g7 hk4r
         rw[show daL a n c b m e (dK (o++[47]))=daL a n c b m e ⟨92,1,(dK (o++[47])).nx,(dK (o++[47])).ac.set (o.length+1) true⟩ from by unfold daL;rw[ek,est]]at this
         exact this
   · have em:cK o=dK (o++[47]):=by
       have:kZ (o++[47])≠true:=λh=>by
         have:=tt h (List.prefix_append o [47])
         rw[hg]at this;cases this
       unfold cK dK
       rw[if_neg h0,if_neg hd,if_neg h2,if_neg (by rw[hg];decide),if_neg this]
     refine⟨B42,by have:=hb42.size;have:=v1.lt;omega,_,em.symm,?_,O42,A42⟩
     have:kZ (o++[47])≠true:=λh=>by
       have:=tt h (List.prefix_append o [47])
       rw[hg]at this;cases this
     unfold dK
     rw[if_neg this];rfl
 · refine aL.of ?_ _
   rintro wj ⟨hB,hk,d,rfl,hdk,OD,AD⟩
   refine⟨_,_,a,n,c,b,m,e,bh.load0 (cs:=daL a n c b m e (cK o)) AD rfl,?_⟩
   obtain⟨wy,s1,s2,h⟩:=back OD hB
   exact⟨wy,s1,_,_,a,n,c,b,m,e,s2,h⟩
def Few (a b:DA):Prop:=∀ps:List Pr,ps.Nodup->(∀p∈ps,∃w:List Nat,(∀x∈w,x<a.K)/\Gy a b (a.s,b.s) w=p)->ps.length <=65536
theorem Be {a b:DA}(ha:a.Ok)(hb:b.Ok)(hk:a.k=b.k)(h:a.n*b.n <=65536):Few a b:=λps hn hp=>by
 have hK:b.K=a.K:=by unfold DA.K;rw[hk]
 refine Nat.le_trans (FA hn λp hpm=>?_) h
 obtain⟨w,hw,rfl⟩:=hp p hpm
 exact⟨ha.run_lt ha.s_lt hw,hb.run_lt hb.s_lt (by rw[hK];exact hw)⟩
theorem lx {α:Type}[DecidableEq α]:∀{l m:List α},l.Nodup->(∀x∈l,x∈m)->l.length <=m.length
 | [],m,_,_=>Nat.zero_le _
 | x::l,m,hn,hs=>by
   obtain⟨hx,hl⟩:=List.nodup_cons.1 hn
   have hm:=hs x List.mem_cons_self
   have:=lx (m:=m.erase x) hl λy hy=>(List.mem_erase_of_ne (λe:y=x=>hx (by rw[<- e];exact hy))).2 (hs y (List.mem_cons_of_mem _ hy))
   rw[List.length_erase_of_mem hm]at this
   have:=List.length_pos_of_mem hm
   rw[List.length_cons];omega
theorem Few.congr {a b a' b':DA}(h:Few a b)(ka:a'.k=a.k)(sa:a'.st=a.st)(na:a'.nx=a.nx)(kb:b'.k=b.k)(sb:b'.st=b.st)(nb:b'.nx=b.nx):Few a' b':=λps hn hp=>by
 have Am:∀{d d':DA},d'.k=d.k->d'.nx=d.nx->∀(w:List Nat) (s:Nat),d'.run s w=d.run s w:=by
   intro d d' hk hx w
   induction w with
   | nil=>intro s;rfl
   | cons x w ih=>
     intro s
     show d'.run (d'.to s x) w=d.run (d.to s x) w
     rw[ih]
     unfold DA.to DA.K
     rw[hk,hx]
 refine h ps hn λp hpm=>?_
 obtain⟨w,hw,e⟩:=hp p hpm
 refine⟨w,by unfold DA.K at hw ⊢;rwa [ka]at hw,?_⟩
 rw[<- e]
 unfold Gy DA.s
 rw[Am ka na,Am kb nb,sa,sb]
section
variable {α β:Type} [DecidableEq α]
def KVg (ek:α->Value)(ev:β->Value)(es:List MapEntry)(kvs:List (α×β)):Prop:=es.map (λe=>(e.key,e.val))=kvs.map λp=>(ek p.1,ev p.2)
def sg (ek:α->Value)(ev:β->Value)(w:World)(r:Nat)(kvs:List (α×β)):Prop:=∃es clock,w.heap[r]? =some (.map es clock)/\KVg ek ev es.toList kvs
def gp (k:α):List (α×β)->Option β
 | []=>none
 | (k',v)::l=>if k=k' then some v else gp k l
def i6 (k:α):List (α×β)->Nat->Option (Nat×β)
 | [],_=>none
 | (k',v)::l,i=>if k=k' then some (i,v)else i6 k l (i+1)
theorem rA (k:α):∀(l:List (α×β)) (i:Nat),(i6 k l i).map (·.2)=gp k l
 | [],_=>rfl
 | (k',v)::l,i=>by
   unfold i6 gp
   split
   · rfl
   · exact rA k l (i+1)
structure pm (P:Program)(kt:TypeId)(ek:α->Value):Prop where
 check:∀(b:Bool) (k:α) (w:World),(Instr.checkKey b 10000 kt (ek k)).run P w=.ok () w
 find:∀{β:Type} (ev:β->Value) (k:α) (es:List MapEntry) (kvs:List (α×β)) (w:World),KVg ek ev es kvs->(Instr.findKey kt (ek k) es).run P w=.ok ((i6 k kvs 0).map λp=>(p.1,ev p.2)) w
theorem pm.struct {P:Program}{kt:TypeId}{fs:Array Field}(hu:P.underlying kt=some (.struct fs)){ek:α->Value}(heq:∀a b,eqV P 10000 kt (ek a) (ek b)=some (decide (a=b)))
   (check:∀(b:Bool) (k:α) (w:World),(Instr.checkKey b 10000 kt (ek k)).run P w=.ok () w):pm P kt ek where
 check:=check
 find:=by
   intro β ev k es kvs w h
   have ask:∀(es:List MapEntry) (kvs:List (α×β)) (i:Nat),KVg ek ev es kvs->(Instr.findAsking kt (ek k) es i).run P w=.ok ((i6 k kvs i).map λp=>(p.1,ev p.2)) w:=by
     intro es
     induction es with
     | nil=>
       intro kvs i h
       have:kvs=[]:=by unfold KVg at h;simp at h;exact h
       subst this;rfl
     | cons e es ih=>
       intro kvs i h
       cases kvs with
       | nil=>unfold KVg at h;simp at h
       | cons p kvs=>
         obtain⟨k',v⟩:=p
         unfold KVg at h
         simp only[List.map_cons,List.cons.injEq,Prod.mk.injEq]at h
         obtain⟨⟨hk,hv⟩,ht⟩:=h
         unfold Instr.findAsking i6
         rw[hk]
         have he:(Op.equal kt (ek k) (ek k')).run P w=.ok (decide (k=k')) w:=HV 10000 kt _ _ _ w (heq k k')
         rw[Sem.run_bind,he,Result.andThen_ok]
         by_cases e1:k=k'
         · simp[e1,hv]
         · simp only[e1,decide_false,if_false]
           exact ih kvs (i+1) ht
   unfold Instr.findKey
   rw[Sem.run_bind,aY hu,Result.andThen_ok]
   cases es with
   | nil=>
     have:kvs=[]:=by unfold KVg at h;simp at h;exact h
     subst this;rfl
   | cons e es=>exact ask (e::es) kvs 0 h
variable {ek:α->Value} {ev:β->Value}
theorem sg.below {w w':World}{r:Nat}{kvs:List (α×β)}(h:sg ek ev w r kvs)(hb:bW w w'):sg ek ev w' r kvs:=by
 obtain⟨es,c,hh,hkv⟩:=h
 exact⟨es,c,(hb.block r (Array.getElem?_eq_some_iff.1 hh).1).trans hh,hkv⟩
theorem sg.lt {w:World}{r:Nat}{kvs:List (α×β)}(h:sg ek ev w r kvs):r<w.heap.size:=by
 obtain⟨es,c,hh,hkv⟩:=h
 exact(Array.getElem?_eq_some_iff.1 hh).1
theorem sg.keep {w w':World}{r:Nat}{kvs:List (α×β)}(h:sg ek ev w r kvs)(hb:w'.heap[r]? =w.heap[r]?):sg ek ev w' r kvs:=by
 obtain⟨es,c,hh,hkv⟩:=h
 exact⟨es,c,hb.trans hh,hkv⟩
theorem sg.grown {w w':World}{r:Nat}{kvs:List (α×β)}(h:sg ek ev w r kvs){k:Nat}(hg:w.grownBy w' (some k))(hne:r≠k):sg ek ev w' r kvs:=h.keep (hg.block r h.lt λe=>hne (Option.some.inj e))
theorem sg.new {w w':World}{r:Nat}(hr:r=w.heap.size)(hw:w'=w.alloc (.map #[] 0)):sg ek ev w' r []:=by
 subst hr hw
 exact⟨#[],0,heap_alloc_new w _,rfl⟩
theorem rr {P:Program}{w:World}{r:Nat}{es:Array MapEntry}{c:Nat}(h:w.heap[r]? =some (.map es c)):(getObj r).run P w=.ok (.map es c) w:=by
 simp only[getObj,Sem.run,h]
theorem sg.look2 {P:Program}{mt kt et:TypeId}{n bytes:Nat}{z:Value}(hm:P.underlying mt=some (.map kt et))(hk:pm P kt ek)(he:TF P et n bytes z){w:World}{r:Nat}{kvs:List (α×β)}(h:sg ek ev w r kvs)(k:α):
   (Instr.lookup mt (.map (some r)) (ek k) true).run P w=.ok (.tuple #[((gp k kvs).map ev).getD z,.bool (gp k kvs).isSome]) w:=by
 obtain⟨es,c,hh,hkv⟩:=h
 obtain⟨i,hi,_,_,hz⟩:=he.info
 unfold Instr.lookup
 simp only[Sem.run_bind,aY hm,Result.andThen_ok,rr hh,Sem.run_pure,hk.check,hk.find ev k _ _ _ hkv]
 rw[<- rA k kvs 0]
 cases i6 k kvs 0 with
 | none=>simp[zeroValue,iS hi,hz]
 | some p=>simp
theorem sg.look1 {P:Program}{mt kt et:TypeId}{n bytes:Nat}{z:Value}(hm:P.underlying mt=some (.map kt et))(hk:pm P kt ek)(he:TF P et n bytes z){w:World}{r:Nat}{kvs:List (α×β)}(h:sg ek ev w r kvs)(k:α):
   (Instr.lookup mt (.map (some r)) (ek k) false).run P w=.ok (((gp k kvs).map ev).getD z) w:=by
 obtain⟨es,c,hh,hkv⟩:=h
 obtain⟨i,hi,_,_,hz⟩:=he.info
 unfold Instr.lookup
 simp only[Sem.run_bind,aY hm,Result.andThen_ok,rr hh,Sem.run_pure,hk.check,hk.find ev k _ _ _ hkv]
 rw[<- rA k kvs 0]
 cases i6 k kvs 0 with
 | none=>simp[zeroValue,iS hi,hz]
 | some p=>simp
theorem sg.put {P:Program}{mt kt et:TypeId}(hm:P.underlying mt=some (.map kt et))(hk:pm P kt ek){w:World}{r:Nat}{kvs:List (α×β)}(h:sg ek ev w r kvs){k:α}(hno:gp k kvs=none)(v:β):
   ∃w',(Instr.mapUpdate mt (.map (some r)) (ek k) (ev v)).run P w=.ok () w'/\sg ek ev w' r (kvs++[(k,v)])/\w.grownBy w' (some r):=by
 obtain⟨es,c,hh,hkv⟩:=h
 have hlt:r<w.heap.size:=(Array.getElem?_eq_some_iff.1 hh).1
 have hnone:i6 k kvs 0=none:=by
   have:=rA k kvs 0
   rw[hno]at this
   simpa using this
 refine⟨{ w with heap:=w.heap.setIfInBounds r (.map (es.push { key:=ek k,val:=ev v,born:=c }) (c+1)) },?_,⟨es.push { key:=ek k,val:=ev v,born:=c },c+1,by simp[hlt],?_⟩,⟨rfl,rfl,rfl,by simp,λj hj hne=>?_⟩⟩
 · unfold Instr.mapUpdate
   simp only[Sem.run_bind,aY hm,Result.andThen_ok,rr hh,hk.check,hk.find ev k _ _ _ hkv,hnone,Option.map_none]
   simp only[setObj,Sem.run,hh]
 · unfold KVg at hkv ⊢
   simp only[Array.toList_push,List.map_append,List.map_cons,List.map_nil,hkv]
 · have:r≠j:=λe=>hne (by rw[e])
   simp[Array.getElem?_setIfInBounds_ne this]
end
def ekP (p:Pr):Value:=.agg #[vI ((p.1:Nat):Int),vI ((p.2:Nat):Int)]
def evN (n:Nat):Value:=vI ((n:Nat):Int)
def xX (p:Pr):Pi:=(((p.1:Nat):Int),((p.2:Nat):Int))
theorem CK (q:Pr):∀(ps:List Pr) (n:Nat),(∀t,gp q (ps.zipIdx n)=some t->n <=t/\ps[t-n]? =some q)/\(gp q (ps.zipIdx n)=none->q ∉ ps)
 | [],n=>⟨λt h=>by simp[gp]at h,λ_ h=>by cases h⟩
 | p::ps,n=>by
   obtain⟨h1,h2⟩:=CK q ps (n+1)
   rw[List.zipIdx_cons]
   unfold gp
   by_cases e:q=p
   · rw[if_pos e]
     refine⟨λt h=>?_,λh=>by cases h⟩
     obtain rfl:=Option.some.inj h
     exact⟨Nat.le_refl _,by rw[Nat.sub_self,e];rfl⟩
   · rw[if_neg e]
     refine⟨λt h=>?_,λh hm=>?_⟩
     · obtain⟨h3,h4⟩:=h1 t h
       refine⟨by omega,?_⟩
       rw[show t-n=(t-(n+1))+1 by omega,List.getElem?_cons_succ]
       exact h4
     · rcases List.mem_cons.1 hm with h3|h3
       · exact e h3
       · exact h2 h h3
theorem HI (ps:List Pr)(q:Pr):(ps++[q]).zipIdx=ps.zipIdx++[(q,ps.length)]:=by
 rw[List.zipIdx_append];simp
theorem Ow.chg {α:Type}{T:Ty α}{t:TypeId}{w w':World}{a:Option Addr}{n c:Nat}{xs:List α}{L:List Nat}(h:Ow T t w NoB a n c xs)(hc:Chg L w w')(hne:∀g,bi a=some g->g ∉ L):Ow T t w' NoB a n c xs:=
 h.keep (hc.keep.mono λb hb=>by
   rcases hb with hb|hb
   · exact hb.elim
   · exact hne b hb.symm)
theorem nT:Whl prog aK 2:=⟨⟨_,_,vw⟩,by kernel_rfl⟩
theorem Js:∃fs,prog.underlying aK=some (.struct fs):=⟨_,rfl⟩
theorem yx:pm prog aK ekP:=by
 obtain⟨fs,h⟩:=Js
 refine pm.struct h (λa b=>?_) (λb k w=>?_)
 · obtain⟨a1,a2⟩:=a
   obtain⟨b1,b2⟩:=b
   have e:eqV prog 10000 aK (ekP (a1,a2)) (ekP (b1,b2))=some ((((a1:Nat):Int)==((b1:Nat):Int))&&((((a2:Nat):Int)==((b2:Nat):Int))&&true)):=by kernel_rfl
   rw[e]
   congr 1
   rw[Bool.eq_iff_iff]
   simp only[Bool.and_eq_true,beq_iff_eq,Bool.and_true,dTx,Prod.mk.injEq]
   omega
 · obtain⟨a1,a2⟩:=k
   kernel_rfl
theorem C0 (x y:Bool)(w:World):Cf eS #[.bool x,.bool y] w (Ret λv w'=>v=.bool (x&&y)/\w'=w):=by
 apply uT
 exact ah.of (λh=>⟨by rw[h];rfl,rfl⟩) (λh=>⟨by rw[h];rfl,rfl⟩)
def d0:DA:=⟨0,0,[],[]⟩
structure ov (w0:World)(da db:DA)(aa:Option Addr)(an ac:Nat)(ba:Option Addr)(bn bc:Nat)(ca:Option Addr)(cn cc:Nat)(ea:Option Addr)(en ec:Nat)(k3 k4 k6 k38 k44 B:Nat)(x:Option Addr)(xn xc:Nat)(y:Option Addr)(yn yc:Nat)(t:Option Addr)(tn tc:Nat)(ps:List Pr)(d:DA)(w:World):Prop where
 da:ai w k3 ae [vI da.k,vI da.st,.slice aa an ac,.slice ba bn bc]
 db:ai w k4 ae [vI db.k,vI db.st,.slice ca cn cc,.slice ea en ec]
 res:ai w k6 ae [vI 0,vI 0,.slice none 0 0,.slice none 0 0]
 mak:Mk w k38 x xn xc y yn yc d
 map:sg ekP evN w k44 ps.zipIdx
 row:Ow tP aK w NoB t tn tc (ps.map xX)
 o1:k3<k4
 o2:k4<k6
 o3:k6<k38
 o4:k38<k44
 o5:k44<B
 o6:B <=w.heap.size
 o7:w0.heap.size <=k3
 fx:br B x
 fy:br B y
 ft:br B t
 tx:∀g,bi t=some g->bi x≠some g/\bi y≠some g
 bw:bW w0 w
theorem ov.below {w0 w w':World}{da db:DA}{aa ba ca ea x y t:Option Addr}{an ac bn bc cn cc en ec k3 k4 k6 k38 k44 B xn xc yn yc tn tc:Nat}{ps:List Pr}{d:DA}
   (h:ov w0 da db aa an ac ba bn bc ca cn cc ea en ec k3 k4 k6 k38 k44 B x xn xc y yn yc t tn tc ps d w) (hb:bW w w'):ov w0 da db aa an ac ba bn bc ca cn cc ea en ec k3 k4 k6 k38 k44 B x xn xc y yn yc t tn tc ps d w':=
 { h with
   da:=h.da.below hb
   db:=h.db.below hb
   res:=h.res.below hb
   mak:=h.mak.below hb
   map:=h.map.below hb
   row:=h.row.below hb
   o6:=Nat.le_trans h.o6 hb.size
   bw:=ab h.bw hb h.bw.size }
theorem xP {d:DA}{s:Nat}(h:s<d.ac.length):d.ac[s]=d.acc s:=by
 unfold DA.acc
 rw[List.getD_eq_getElem?_getD,List.getElem?_eq_getElem h];rfl
theorem ov.made {w0 w w':World}{da db:DA}{aa ba ca ea x y t x' y':Option Addr}{an ac bn bc cn cc en ec k3 k4 k6 k38 k44 B xn xc yn yc tn tc xn' xc' yn' yc':Nat}{ps:List Pr}{d d':DA}
   (h:ov w0 da db aa an ac ba bn bc ca cn cc ea en ec k3 k4 k6 k38 k44 B x xn xc y yn yc t tn tc ps d w) (hM:Mk w' k38 x' xn' xc' y' yn' yc' d') (hc:Chg (jk k38 x y) w w') (f1:jI w x x') (f2:jI w y y'):
   ov w0 da db aa an ac ba bn bc ca cn cc ea en ec k3 k4 k6 k38 k44 B x' xn' xc' y' yn' yc' t tn tc ps d' w':=by
 have p1:=h.o1
 have p2:=h.o2
 have p3:=h.o3
 have p4:=h.o4
 have p5:=h.o5
 have p6:=h.o6
 have p7:=h.o7
 have out:∀k:Nat,k<k38\/k=k44->k ∉ jk k38 x y:=λk hk hm=>by
   rcases cy.1 hm with e|e|e
   · omega
   · have:=h.fx k e;omega
   · have:=h.fy k e;omega
 have hsz:=hc.size
 exact
   { da:=hc.arr h.da (out _ (by omega))
     db:=hc.arr h.db (out _ (by omega))
     res:=hc.arr h.res (out _ (by omega))
     mak:=hM
     map:=h.map.keep (hc.block _ h.map.lt (out _ (by omega)))
     row:=h.row.chg hc λg hg hm=>by
       rcases cy.1 hm with e|e|e
       · have:=h.ft g hg;omega
       · exact(h.tx g hg).1 e
       · exact(h.tx g hg).2 e
     o1:=p1,o2:=p2,o3:=p3,o4:=p4,o5:=p5,o6:=by omega,o7:=p7
     fx:=jI.fresh f1 h.fx p6
     fy:=jI.fresh f2 h.fy p6
     ft:=h.ft
     tx:=λg hg=>⟨λe=>by
       rcases f1 g e with e2|e2
       · exact(h.tx g hg).1 e2
       · have:=h.row.lt g hg;omega,λe=>by
       rcases f2 g e with e2|e2
       · exact(h.tx g hg).2 e2
       · have:=h.row.lt g hg;omega⟩
     bw:=h.bw.trans (hc.below h.bw.size λk hk=>by
       rcases cy.1 hk with e|e|e
       · omega
       · have:=h.fx k e;omega
       · have:=h.fy k e;omega) }
theorem ov.more {w0 w w':World}{da db:DA}{aa ba ca ea x y t t':Option Addr}{an ac bn bc cn cc en ec k3 k4 k6 k38 k44 B xn xc yn yc tn tc tn' tc':Nat}{ps ps':List Pr}{d:DA}
   (h:ov w0 da db aa an ac ba bn bc ca cn cc ea en ec k3 k4 k6 k38 k44 B x xn xc y yn yc t tn tc ps d w) (hM:sg ekP evN w' k44 ps'.zipIdx) (hR:Ow tP aK w' NoB t' tn' tc' (ps'.map xX)) (hc:Chg (k44::(bi t).toList) w w') (f:jI w t t'):
   ov w0 da db aa an ac ba bn bc ca cn cc ea en ec k3 k4 k6 k38 k44 B x xn xc y yn yc t' tn' tc' ps' d w':=by
 have p1:=h.o1
 have p2:=h.o2
 have p3:=h.o3
 have p4:=h.o4
 have p5:=h.o5
 have p6:=h.o6
 have p7:=h.o7
 have mem:∀k:Nat,k∈k44::(bi t).toList->k=k44\/bi t=some k:=λk hk=>by
   rcases List.mem_cons.1 hk with e|e
   · exact .inl e
   · exact .inr (by simpa using e)
 have out:∀k:Nat,k<k44->k ∉ k44::(bi t).toList:=λk hk hm=>by
   rcases mem k hm with e|e
   · omega
   · have:=h.ft k e;omega
 have hsz:=hc.size
 have rowx:∀g,bi x=some g->g ∉ k44::(bi t).toList:=λg hg hm=>by
   rcases mem g hm with e|e
   · have:=h.fx g hg;omega
   · exact(h.tx g e).1 hg
 have rowy:∀g,bi y=some g->g ∉ k44::(bi t).toList:=λg hg hm=>by
   rcases mem g hm with e|e
   · have:=h.fy g hg;omega
   · exact(h.tx g e).2 hg
 exact
   { da:=hc.arr h.da (out _ (by omega))
     db:=hc.arr h.db (out _ (by omega))
     res:=hc.arr h.res (out _ (by omega))
     mak:=⟨hc.arr h.mak.var (out _ p4),h.mak.nx.chg hc rowx,h.mak.ac.chg hc rowy,h.mak.na,h.mak.nb,h.mak.ne⟩
     map:=hM
     row:=hR
     o1:=p1,o2:=p2,o3:=p3,o4:=p4,o5:=p5,o6:=by omega,o7:=p7
     fx:=h.fx
     fy:=h.fy
     ft:=jI.fresh f h.ft p6
     tx:=λg hg=>⟨λe=>by
       rcases f g hg with e2|e2
       · exact(h.tx g e2).1 e
       · have:=h.mak.nx.lt g e;omega,λe=>by
       rcases f g hg with e2|e2
       · exact(h.tx g e2).2 e
       · have:=h.mak.ac.lt g e;omega⟩
     bw:=h.bw.trans (hc.below h.bw.size λk hk=>by
       rcases mem k hk with e|e
       · omega
       · have:=h.ft k e;omega) }
def dz (da db:DA):Bool:=okD da&&(okD db&&(da.k==db.k))
def xG (w:World)(v:Value)(w':World):Prop:=v=.tuple #[daV none 0 0 none 0 0 d0,vI 151]/\bW w w'
def lO (da db:DA)(w:World)(v:Value)(w':World):Prop:=if dz da db=true then ∃d ps,fN da db (λx y=>x&&y) d ps/\pj w d v w' else xG w v w'
theorem lO.yes {da db:DA}{w w':World}{v:Value}(h:dz da db=true)(k:∃d ps,fN da db (λx y=>x&&y) d ps/\pj w d v w'):lO da db w v w':=by
 unfold lO
 rw[if_pos h];exact k
theorem lO.no {da db:DA}{w w':World}{v:Value}(h:dz da db=false)(k:xG w v w'):lO da db w v w':=by
 unfold lO
 rw[if_neg (by rw[h];simp)];exact k
theorem jL {s x k N:Nat}(hs:s<N)(hx:x<k)(hN:N <=65536)(hk:k <=512):i64.wrap (i64.wrap (((s:Nat):Int)*((k:Nat):Int))+((x:Nat):Int))=((s*k+x:Nat):Int)/\s*k+x<N*k:=by
 have h1:=qt hs hx
 have h2:N*k <=65536*512:=Nat.mul_le_mul hN hk
 rw[show((s:Nat):Int)*((k:Nat):Int)=((s*k:Nat):Int) from(Int.natCast_mul _ _).symm,ar (n:=((s*k:Nat):Int)) (by omega) (by omega),ar (by omega) (by omega)]
 exact⟨by omega,h1⟩
theorem DP {w:World}{aa ba ca ea:Option Addr}{an ac bn bc cn cc en ec:Nat}{da db:DA}(hA:DaS w aa an ac ba bn bc da)(hB:DaS w ca cn cc ea en ec db)(hf:da.Ok->db.Ok->da.k=db.k->Few da db):
   Cf lV #[daV aa an ac ba bn bc da,daV ca cn cc ea en ec db,.func (.func eS) #[] #[]] w
     (Ret (lO da db w)):=by
 apply j3
 intro k3 w3 hk3 hw3 k4 w4 hk4 hw4 k6 w6 hk6 hw6
 have b3:=(hw3▸af w _:bW w w3)
 have b4:=(hw4▸af w3 _:bW w3 w4)
 have b6:=(hw6▸af w4 _:bW w4 w6)
 have A3':ai w3 k3 ae (daL aa an ac ba bn bc da):=ai.new hk3 hw3
 have A4':ai w4 k4 ae (daL ca cn cc ea en ec db):=ai.new hk4 hw4
 have A6:ai w6 k6 ae [vI 0,vI 0,.slice none 0 0,.slice none 0 0]:=ai.new hk6 hw6
 have l3:=A3'.lt
 have l4:=A4'.lt
 have A3:=(A3'.below b4).below b6
 have A4:=A4'.below b6
 have B6:bW w w6:=ab (ab b3 b4 b3.size) b6 (Nat.le_trans b3.size b4.size)
 have o34:k3<k4:=by omega
 have o46:k4<k6:=by omega
 have o3:w.heap.size <=k3:=by omega
 clear b3 b4 b6 hw3 hw4 hw6 A3' A4' l3 l4 hk3 hk4 hk6
 refine⟨λw'=>dz da db=true/\bW w6 w',⟨λb w'=>b= !dz da db/\bW w6 w',?_,λb=>aL.of ?_ _⟩,aL.of ?_ _⟩
 · refine⟨_,_,aa,an,ac,ba,bn,bc,bh.load0 (cs:=daL aa an ac ba bn bc da) A3 rfl,?_⟩
   refine aw (ks (hA.below B6)) ?_
   rintro _ w19 ⟨rfl,b19⟩
   refine⟨_,rfl,ah.of (λh=>?_) (λh=>?_)⟩
   · refine⟨?_,b19⟩
     unfold dz
     have:okD da=false:=by simpa using h
     rw[this];rfl
   have ha:okD da=true:=by simpa using h
   refine⟨_,_,ca,cn,cc,ea,en,ec,bh.load0 (cs:=daL ca cn cc ea en ec db) (A4.below b19) rfl,?_⟩
   refine aw (ks ((hB.below B6).below b19)) ?_
   rintro _ w23 ⟨rfl,b23⟩
   have B23:=ab b19 b23 b19.size
   refine⟨_,rfl,ah.of (λh=>?_) (λh=>?_)⟩
   · refine⟨?_,B23⟩
     unfold dz
     have:okD db=false:=by simpa using h
     rw[this,ha];rfl
   have hb:okD db=true:=by simpa using h
   refine⟨rfl,_,(A3.below B23).load1 aC rfl rfl,rfl,_,(A4.below B23).load1 aC rfl rfl,?_,B23⟩
   unfold dz
   rw[ha,hb]
   rfl
 · rintro wj ⟨rfl,bj⟩
   refine ah.of (λh=>?_) (λh=>⟨by simpa using h,bj⟩)
   obtain⟨wx,s1,s2,g1⟩:=cR (A6.below bj) rfl none 0 0 none 0 0 d0
   exact⟨wx,s1,_,_,none,0,0,none,0,0,s2,lO.no (by simpa using h) ⟨rfl,Below.put (ab B6 bj B6.size) g1 (by omega)⟩⟩
 rintro wj ⟨hok,bj⟩
 obtain⟨oa,ob,hk⟩:da.Ok/\db.Ok/\da.k=db.k:=by
   unfold dz at hok
   rw[Bool.and_eq_true,Bool.and_eq_true,beq_iff_eq]at hok
   exact⟨eY.1 hok.1,eY.1 hok.2.1,hok.2.2⟩
 have few:=hf oa ob hk
 have hK1:1 <=da.K/\da.K <=512:=by have:=oa.k1;have:=oa.k2;show 1 <=da.k.toNat/\da.k.toNat <=512;omega
 have hKa:=oa.kk
 have hKb:db.k=((da.K:Nat):Int):=by rw[hKa,hk]
 have hbK:db.K=da.K:=by unfold DA.K;rw[hk]
 have Bj:=ab B6 bj B6.size
 have A3j:=A3.below bj
 have A4j:=A4.below bj
 have A6j:=A6.below bj
 clear A3 A4 A6 bj B6
 refine⟨rfl,_,A3j.load1 aC rfl rfl,?_⟩
 intro k38 w38 hk38 hw38
 have b38:=(hw38▸af wj _:bW wj w38)
 have o6:k6<k38:=by have:=A6j.lt;omega
 have M38:Mk w38 k38 none 0 0 none 0 0 ⟨da.k,0,[],[]⟩:=⟨ai.new hk38 hw38,Ow.nil _ _ _ _,Ow.nil _ _ _ _,(λg hg=>by cases hg),(λg hg=>by cases hg),λg hg=>by cases hg⟩
 refine⟨rfl,_,(A3j.below b38).load1 aC rfl rfl,rfl,_,(A4j.below b38).load1 aC rfl rfl,?_⟩
 intro k9 w9 hk9 hw9
 have b9:=(hw9▸af w38 _:bW w38 w9)
 have es:da.st=((da.s:Nat):Int):=by have:=oa.s0;show da.st=((da.st.toNat:Nat):Int);omega
 have es':db.st=((db.s:Nat):Int):=by have:=ob.s0;show db.st=((db.st.toNat:Nat):Int);omega
 obtain⟨wx1,s1,P1,g1⟩:=nT.store0 (P:=prog) (cs:=[vI da.st,vI db.st]) rfl (aN rfl (aN rfl gA)) (ai.new hk9 hw9:ai w9 k9 aK [vI 0,vI 0]) rfl
 refine⟨wx1,s1,?_⟩
 have bx1:bW w38 wx1:=Below.put b9 g1 (by omega)
 intro k44 w44 hk44 hw44
 have b44:=(hw44▸af wx1 _:bW wx1 w44)
 have o9:k38<k44:=by have:=M38.var.lt;have:=bx1.size;omega
 have o944:k9<k44:=by have:=P1.lt;omega
 refine⟨_,_,nT.load0 (cs:=[vI da.st,vI db.st]) (P1.below b44) rfl,?_⟩
 obtain⟨wx2,s2,Mp,g2⟩:=(sg.new (ek:=ekP) (ev:=evN) hk44 hw44).put (P:=prog) gC yx (k:=(da.s,db.s)) rfl 0
 rw[es,es']
 refine⟨wx2,s2,?_⟩
 have P2:ai wx2 k9 aK [vI da.st,vI db.st]:=(P1.below b44).grown g2 (j0 (by omega))
 rw[es,es']at P2
 refine⟨_,_,nT.load0 (cs:=[vI ((da.s:Nat):Int),vI ((db.s:Nat):Int)]) P2 rfl,?_⟩
 intro k48 w48 hk48 hw48
 have b48:=(hw48▸af wx2 _:bW wx2 w48)
 have b2:bW wx1 wx2:=Below.put b44 g2 (by omega)
 have bx2:bW w38 w48:=ab (ab bx1 b2 bx1.size) b48 (Nat.le_trans bx1.size b2.size)
 have bB:bW wj w48:=ab b38 bx2 b38.size
 have lm:=Mp.lt
 have R0:Ow tP aK w48 NoB (some ⟨k48,0,none⟩) 1 1 ([(da.s,db.s)].map xX):=by
   have:=Ow.newF (A:=NoB) yf (t:=aK) (l:=prC (xX (da.s,db.s))) (xs:=[xX (da.s,db.s)]) hk48 hw48 (gr.one rfl) (by show 1 <=9223372036854775807;omega)
   exact this
 have S0:ov w da db aa an ac ba bn bc ca cn cc ea en ec k3 k4 k6 k38 k44 k48 none 0 0 none 0 0 (some ⟨k48,0,none⟩) 1 1 [(da.s,db.s)] ⟨da.k,0,[],[]⟩ w48:=
   { da:=A3j.below bB
     db:=A4j.below bB
     res:=A6j.below bB
     mak:=M38.below bx2
     map:=Mp.below b48
     row:=R0
     o1:=o34,o2:=o46,o3:=o6,o4:=o9,o5:=by omega
     o6:=by rw[hw48];simp;omega
     o7:=o3
     fx:=br.none _
     fy:=br.none _
     ft:=λg hg=>by simp[bi]at hg;omega
     tx:=λg hg=>⟨(λh=>by cases h),(λh=>by cases h)⟩
     bw:=ab Bj bB Bj.size }
 have I0:ze da db (λx y=>x&&y) [(da.s,db.s)] [] [] 0 0:=ze.start oa ob
 clear A3j A4j A6j M38 P1 P2 Mp R0 bB bx2 b48 b2 b44 bx1 b9 b38 Bj
 refine⟨λm ta tn tc wl=>∃(ps:List Pr) (nx:List Int) (acs:List Bool) (x:Option Addr) (xn xc:Nat) (y:Option Addr) (yn yc:Nat),m=65536-acs.length/\
   ze da db (λx y=>x&&y) ps acs nx acs.length 0/\ov w da db aa an ac ba bn bc ca cn cc ea en ec k3 k4 k6 k38 k44 k48 x xn xc y yn yc ta tn tc ps ⟨da.k,0,nx,acs⟩ wl,
   ⟨_,[(da.s,db.s)],[],[],none,0,0,none,0,0,rfl,I0,S0⟩,?_⟩
 clear S0 I0
 intro m ta tn tc
 refine aL.of ?_ _
 rintro wl ⟨ps,nx,acs,x,xn,xc,y,yn,yc,rfl,PI,S⟩
 have hyn:=S.mak.ac.len
 have htn:=S.row.len
 rw[List.length_map]at htn
 have hps:=few ps PI.nd PI.reach
 have hacs:yn=acs.length:=hyn
 refine⟨rfl,rfl,rfl,y,yn,yc,S.mak.var.load1 aS rfl rfl,ah.of (λh=>?_) (λh=>?_)⟩ <;> simp only[dTx,dFx]at h
 · have hi:acs.length<ps.length:=by omega
   have hi':acs.length<(ps.map xX).length:=by rw[List.length_map];exact hi
   obtain⟨p,hp⟩:∃p,ps[acs.length]? =some p:=⟨_,List.getElem?_eq_getElem hi⟩
   have hpe:ps[acs.length]=p:=(List.getElem?_eq_some_iff.1 hp).2
   have hpin:=PI.inn p (List.mem_of_getElem? hp)
   have ldp:(Instr.loadAt aK (.pointer (ak ta ((yn:Nat):Int) 2))).run prog wl=.ok (.agg #[vI ((p.1:Nat):Int),vI ((p.2:Nat):Int)]) wl:=by
     have:=S.row.all.pair nT hi'
     rw[List.getElem_map,hpe,<- hacs]at this
     exact this
   refine⟨rfl,rfl,rfl,y,yn,yc,S.mak.var.load1 aS rfl rfl,⟨⟨by omega,by omega⟩,S.row.all.isSome hi'⟩,_,_,ldp,?_⟩
   intro k12 w12 hk12 hw12
   have b12:=(hw12▸af wl _:bW wl w12)
   obtain⟨wx3,s3,P12,g3⟩:=nT.store0 (P:=prog) (cs:=[vI ((p.1:Nat):Int),vI ((p.2:Nat):Int)]) rfl (aN rfl (aN rfl gA)) (ai.new hk12 hw12:ai w12 k12 aK [vI 0,vI 0]) rfl
   have bx3:bW wl wx3:=Below.put b12 g3 (by omega)
   have S3:=S.below bx3
   have hk12B:k48 <=k12:=by have:=S.o6;omega
   have h12t:∀g,bi ta=some g->g≠k12:=λg hg=>by have:=S.row.lt g hg;omega
   have h12x:∀g,bi x=some g->g≠k12:=λg hg=>by have:=S.mak.nx.lt g hg;omega
   have h12y:∀g,bi y=some g->g≠k12:=λg hg=>by have:=S.mak.ac.lt g hg;omega
   have h12m:k38≠k12/\k44≠k12:=by have:=S.mak.var.lt;have:=S.map.lt;omega
   refine⟨wx3,s3,⟨λs w'=>s=((acs.length:Nat):Int)/\∃(x:Option Addr) (xn xc:Nat) (y:Option Addr) (yn yc:Nat),ov w da db aa an ac ba bn bc ca cn cc ea en ec k3 k4 k6 k38 k44 k48 x xn xc y yn yc ta tn tc ps ⟨da.k,0,nx++List.replicate da.K 0,acs++[da.acc p.1&&db.acc p.2]⟩ w'/\ai w' k12 aK [vI ((p.1:Nat):Int),vI ((p.2:Nat):Int)]/\(∀g,bi x=some g->g≠k12)/\(∀g,bi y=some g->g≠k12),?_,λsN=>aL.of ?_ _⟩⟩
   · have dA:=fun{u:World} (hu:bW wx3 u)=>(hA.below (ab S3.bw hu S3.bw.size)).ac
     have dB:=fun{u:World} (hu:bW wx3 u)=>(hB.below (ab S3.bw hu S3.bw.size)).ac
     have la:=(dA (Below.refl _ _)).len
     have lb:=(dB (Below.refl _ _)).len
     have p1:p.1<da.ac.length:=hpin.1
     have p2:p.2<db.ac.length:=hpin.2
     refine⟨rfl,rfl,rfl,rfl,ba,bn,bc,λu hu=>(S3.da.below hu).load1 aS rfl rfl,_,λu hu=>(P12.below hu).load1 aC rfl rfl,⟨⟨by omega,by omega⟩,(dA (Below.refl _ _)).isSome p1⟩,_,λu hu=>(dA hu).tru dl p1,
       ea,en,ec,λu hu=>(S3.db.below hu).load1 aS rfl rfl,_,λu hu=>(P12.below hu).load1 aC rfl rfl,⟨⟨by omega,by omega⟩,(dB (Below.refl _ _)).isSome p2⟩,_,λu hu=>(dB hu).tru dl p2,λwq hq=>?_⟩
     rw[xP p1,xP p2]
     refine aw (C0 _ _ wq) ?_
     rintro _ w81 ⟨rfl,e81⟩
     rw[e81];clear e81 w81
     refine⟨_,rfl,?_⟩
     have S4:=S3.below hq
     have hnx:=PI.len
     have hmul:acs.length*da.K <=65536*512:=Nat.mul_le_mul (by omega) hK1.2
     refine aw (tB S4.mak (by show(1:Int) <=da.k;exact oa.k1) (by show da.k <=512;exact oa.k2) (by show acs.length <=200000;omega) (by show nx.length <=_;omega) (da.acc p.1&&db.acc p.2) 0) ?_
     rintro _ w82 ⟨rfl,x',xn',xc',y',yn',yc',M',hc,f1,f2⟩
     refine⟨_,rfl,rfl,x',xn',xc',y',yn',yc',S4.made M' hc f1 f2,hc.arr (P12.below hq) λhm=>?_,λg hg=>?_,λg hg=>?_⟩
     · rcases cy.1 hm with e|e|e
       · exact h12m.1 e.symm
       · exact h12x k12 e rfl
       · exact h12y k12 e rfl
     · rcases f1 g hg with e|e
       · exact h12x g e
       · have:=P12.lt;have:=hq.size;omega
     · rcases f2 g hg with e|e
       · exact h12y g e
       · have:=P12.lt;have:=hq.size;omega
   rintro wj2 ⟨rfl,x2,xn2,xc2,y2,yn2,yc2,S2,P2,n2x,n2y⟩
   have PI2:=PI.state rfl hp
   have hal:(acs++[da.acc p.1&&db.acc p.2]).length=acs.length+1:=by simp
   generalize hacs':acs++[da.acc p.1&&db.acc p.2]=acs' at*
   refine⟨rfl,((da.K:Nat):Int),by rw[hKa];exact S2.da.load1 aC rfl rfl,?_⟩
   refine⟨λm ta tn tc xx wl=>∃(j:Nat) (ps:List Pr) (nx:List Int) (x:Option Addr) (xn xc:Nat) (y:Option Addr) (yn yc:Nat),xx=(j:Int)/\j <=da.K/\m=da.K-j/\ze da db (λx y=>x&&y) ps acs' nx acs.length j/\ps[acs.length]? =some p/\
     ov w da db aa an ac ba bn bc ca cn cc ea en ec k3 k4 k6 k38 k44 k48 x xn xc y yn yc ta tn tc ps ⟨da.k,0,nx,acs'⟩ wl/\ai wl k12 aK [vI ((p.1:Nat):Int),vI ((p.2:Nat):Int)]/\(∀g,bi x=some g->g≠k12)/\(∀g,bi y=some g->g≠k12)/\(∀g,bi ta=some g->g≠k12),
     ⟨_,0,ps,_,x2,xn2,xc2,y2,yn2,yc2,rfl,Nat.zero_le _,rfl,PI2,hp,S2,P2,n2x,n2y,h12t⟩,?_⟩
   clear PI2 S2 P2 n2x n2y
   intro m1 ta1 tn1 tc1 xx
   refine aL.of ?_ _
   rintro wl1 ⟨j,ps1,nx1,x1,xn1,xc1,y1,yn1,yc1,rfl,hj,rfl,Q,hp1,S1,P1,n1x,n1y,n1t⟩
   have htn1:=S1.row.len
   rw[List.length_map]at htn1
   have hps1:=few ps1 Q.nd Q.reach
   refine ah.of (λh5=>?_) (λh5=>?_) <;> simp only[dTx,dFx]at h5
   · have hjK:j<da.K:=by omega
     have ia:=jL hpin.1 hjK oa.n2 hK1.2
     have ib:=jL hpin.2 hjK ob.n2 hK1.2
     obtain⟨va,va1,va2,va3,va4⟩:=oa.at hpin.1 hjK
     obtain⟨vb,vb1,vb2,vb3,vb4⟩:=ob.at hpin.2 (by rw[hbK];exact hjK)
     rw[hbK]at vb1
     have dA:=fun{u:World} (hu:bW wl1 u)=>(hA.below (ab S1.bw hu S1.bw.size)).nx
     have dB:=fun{u:World} (hu:bW wl1 u)=>(hB.below (ab S1.bw hu S1.bw.size)).nx
     have la:=(dA (Below.refl _ _)).len
     have lb:=(dB (Below.refl _ _)).len
     have ga:p.1*da.K+j<da.nx.length:=bP va1
     have gb:p.2*da.K+j<db.nx.length:=bP vb1
     have ea':da.nx[p.1*da.K+j]=((da.to p.1 j:Nat):Int):=by
       rw[List.getElem?_eq_getElem ga]at va1
       rw[Option.some.inj va1,va4];omega
     have eb':db.nx[p.2*da.K+j]=((db.to p.2 j:Nat):Int):=by
       rw[List.getElem?_eq_getElem gb]at vb1
       rw[Option.some.inj vb1,vb4];omega
     refine⟨rfl,rfl,rfl,rfl,rfl,rfl,aa,an,ac,λu hu=>(S1.da.below hu).load1 aA rfl rfl,((p.1:Nat):Int),λu hu=>(P1.below hu).load1 aC rfl rfl,((da.K:Nat):Int),λu hu=>by rw[hKa];exact(S1.da.below hu).load1 aC rfl rfl,?_⟩
     rw[ia.1]
     refine⟨⟨⟨by omega,by omega⟩,(dA (Below.refl _ _)).isSome ga⟩,((da.to p.1 j:Nat):Int),λu hu=>by rw[<- ea'];exact(dA hu).num aC ga,ca,cn,cc,λu hu=>(S1.db.below hu).load1 aA rfl rfl,((p.2:Nat):Int),λu hu=>(P1.below hu).load1 aC rfl rfl,((da.K:Nat):Int),λu hu=>by rw[<- hKb];exact(S1.db.below hu).load1 aC rfl rfl,?_⟩
     rw[ib.1]
     refine⟨⟨⟨by omega,by omega⟩,(dB (Below.refl _ _)).isSome gb⟩,((db.to p.2 j:Nat):Int),λu hu=>by rw[<- eb'];exact(dB hu).num aC gb,λk15 hk15 wq hq hcell=>?_⟩
     obtain⟨q,hq'⟩:∃q,q=toP da db p j:=⟨_,rfl⟩
     have q1:da.to p.1 j=q.1:=by rw[hq'];rfl
     have q2:db.to p.2 j=q.2:=by rw[hq'];rfl
     rw[q1,q2]
     have Z15:ai wq k15 aK [vI 0,vI 0]:=hcell
     obtain⟨wx4,s4,P15,g4⟩:=nT.store0 (P:=prog) (cs:=[vI ((q.1:Nat):Int),vI ((q.2:Nat):Int)]) rfl (aN rfl (aN rfl gA)) Z15 rfl
     have b4:bW wl1 wx4:=Below.put hq g4 hk15
     have S4:=S1.below b4
     have P4:=P1.below b4
     have lq:=nT.load0 (P:=prog) (cs:=[vI ((q.1:Nat):Int),vI ((q.2:Nat):Int)]) P15 rfl
     have look:=S4.map.look2 (P:=prog) gC yx dk q
     have lz:=CK q ps1 0
     have t15:∀g,bi ta1=some g->g≠k15:=λg hg=>by have:=S1.row.lt g hg;omega
     have k1215:k12≠k15:=by have:=P1.lt;omega
     have fin:∀(ps':List Pr) (t:Nat) (ta2:Option Addr) (tn2 tc2:Nat) (W:World),(ps'=ps1\/ps'=ps1++[q]/\q ∉ ps1)->ps'[t]? =some q->ov w da db aa an ac ba bn bc ca cn cc ea en ec k3 k4 k6 k38 k44 k48 x1 xn1 xc1 y1 yn1 yc1 ta2 tn2 tc2 ps' ⟨da.k,0,nx1,acs'⟩ W->
         ai W k12 aK [vI ((p.1:Nat):Int),vI ((p.2:Nat):Int)]->(∀g,bi ta2=some g->g≠k12)->
         (∀wq_2:World,bW W wq_2->∃(wx_6:World),(Instr.storeAt aq (.pointer (ak x1 ((acs.length*da.K+j:Nat):Int) 1)) (vI ((t:Nat):Int))).run prog wq_2=.ok () wx_6/\
           ∃nx2,ze da db (λx y=>x&&y) ps' acs' nx2 acs.length (j+1)/\ps'[acs.length]? =some p/\ov w da db aa an ac ba bn bc ca cn cc ea en ec k3 k4 k6 k38 k44 k48 x1 xn1 xc1 y1 yn1 yc1 ta2 tn2 tc2 ps' ⟨da.k,0,nx2,acs'⟩ wx_6/\ai wx_6 k12 aK [vI ((p.1:Nat):Int),vI ((p.2:Nat):Int)]):=by
       intro ps' t ta2 tn2 tc2 W hps' ht SW PW ntW wq2 hq2
       have S6:=SW.below hq2
       have hnl:nx1.length=(acs.length+1)*da.K:=by rw[Q.len,hal]
       have hidx:acs.length*da.K+j<nx1.length:=by rw[hnl];exact qt (Nat.lt_succ_self _) hjK
       obtain⟨wx6,s6,o6,g6⟩:=S6.mak.nx.store dk (λ_ _ h=>h) (i:=((acs.length*da.K+j:Nat):Int)) (by rw[Int.toNat_natCast];exact hidx) (k:=1) rfl (v:=vI ((t:Nat):Int)) (x:=((t:Nat):Int)) cS
       rw[Int.toNat_natCast]at o6
       have hc6:Chg (jk k38 x1 y1) wq2 wx6:=(Chg.row g6).mono λk hk=>cy.2 (.inr (.inl (by simpa using hk)))
       refine⟨wx6,s6,nx1.set (acs.length*da.K+j) ((t:Nat):Int),Q.put oa ob hk hal hjK hp1 (by rw[<- hq'];exact hps') (by rw[<- hq'];exact ht),?_,?_,hc6.arr (PW.below hq2) λhm=>?_⟩
       · rcases hps' with e|⟨e,_⟩
         · rw[e];exact hp1
         · rw[e,List.getElem?_append_left (bP hp1)];exact hp1
       · refine S6.made (x':=x1) (xn':=xn1) (xc':=xc1) (y':=y1) (yn':=yn1) (yc':=yc1) ⟨?_,o6,?_,S6.mak.na,S6.mak.nb,S6.mak.ne⟩ hc6 (λg hg=>.inl hg) (λg hg=>.inl hg)
         · exact S6.mak.var.grown g6 λex=>S6.mak.na k38 ex.symm rfl
         · exact S6.mak.ac.other g6 λg hg ex=>S6.mak.ne g ex hg
       · rcases cy.1 hm with e|e|e
         · exact h12m.1 e.symm
         · exact n1x k12 e rfl
         · exact n1y k12 e rfl
     have iw:=jL (s:=acs.length) (x:=j) (k:=da.K) (N:=65536) (by omega) hjK (Nat.le_refl _) hK1.2
     obtain⟨n0,b0,look',hyes,hno⟩:∃(n0:Int) (b0:Bool),(Instr.lookup dw (.map (some k44)) (ekP q) true).run prog wx4=.ok (.tuple #[vI n0,.bool b0]) wx4/\(b0=true->∃t:Nat,n0=(t:Int)/\ps1[t]? =some q)/\(b0=false->gp q ps1.zipIdx=none):=by
       cases hlk:gp q ps1.zipIdx with
       | none=>
         rw[hlk]at look
         exact⟨0,false,look,(λh=>by cases h),λ_=>rfl⟩
       | some t=>
         rw[hlk]at look
         have:=(lz.1 t hlk).2
         exact⟨((t:Nat):Int),true,look,(λ_=>⟨t,rfl,this⟩),λh=>by cases h⟩
     refine⟨wx4,s4,_,_,lq,n0,b0,look',⟨λa l c n w'=>∃(ps':List Pr) (t:Nat),n=((t:Nat):Int)/\(ps'=ps1\/ps'=ps1++[q]/\q ∉ ps1)/\ps'[t]? =some q/\
         ov w da db aa an ac ba bn bc ca cn cc ea en ec k3 k4 k6 k38 k44 k48 x1 xn1 xc1 y1 yn1 yc1 a l c ps' ⟨da.k,0,nx1,acs'⟩ w'/\ai w' k12 aK [vI ((p.1:Nat):Int),vI ((p.2:Nat):Int)]/\(∀g,bi a=some g->g≠k12),?_,λa2 l2 c2 n16=>aL.of ?_ _⟩⟩
     · refine ah.of (λhb=>?_) (λhb=>?_)
       · have hb0:b0=false:=by simpa using hb
         have hnone:=hno hb0
         have hnm:=lz.2 hnone
         obtain⟨wx5,s5,M5,g5⟩:=S4.map.put (P:=prog) gC yx hnone ps1.length
         have k4415:k44<k15:=by have:=S1.map.lt;omega
         have P15':=P15.grown g5 (j0 (by omega))
         refine⟨_,_,lq,wx5,by rw[htn1];exact s5,_,_,nT.load0 (P:=prog) (cs:=[vI ((q.1:Nat):Int),vI ((q.2:Nat):Int)]) P15' rfl,?_⟩
         intro k126 w126 hk126 hw126
         have b126:=(hw126▸af wx5 _:bW wx5 w126)
         have row5:Ow tP aK wx5 NoB ta1 tn1 tc1 (ps1.map xX):=S4.row.put (λg hg e=>by have:=S4.ft g hg;have:=S4.o5;omega) g5
         have hsrc:Src tP w126 NoB (some ⟨k126,0,none⟩) 1 [xX q]:=Src.new1F yf (vs:=prC (xX q)) hk126 hw126 rfl
         obtain⟨w127,a7,n7,c7,r7,o7,g7,f7⟩:=cr (ty:=gM) wN vw (by decide) (row5.below b126) (λ_ _ h=>h) (cm:=1) hsrc (by rw[List.length_map,List.length_singleton];omega)
         have hc7:Chg (k44::(bi ta1).toList) wx4 w127:=((Chg.grown g5 List.mem_cons_self).trans (Chg.of b126)).trans ((Chg.row g7).mono λk hk=>List.mem_cons_of_mem _ hk)
         have sz5:wx4.heap.size <=w126.heap.size:=Nat.le_trans g5.size b126.size
         have f7':jI wx4 ta1 a7:=λg hg=>by
           rcases f7 g hg with e|e
           · exact .inl e
           · exact .inr (by omega)
         have M7:sg ekP evN w127 k44 (ps1++[q]).zipIdx:=by
           rw[HI]
           refine((M5.below b126).keep (g7.block _ (M5.below b126).lt λe=>?_))
           have:=S4.ft k44 e.symm
           have:=S4.o5
           omega
         refine⟨w127,a7,n7,c7,r7,ps1++[q],ps1.length,by rw[htn1],.inr ⟨rfl,hnm⟩,by simp,S4.more M7 (by rw[List.map_append];exact o7) hc7 f7',hc7.arr P4 λhm=>?_,λg hg=>?_⟩
         · rcases List.mem_cons.1 hm with e|e
           · exact h12m.2 e.symm
           · exact n1t k12 (by simpa using e) rfl
         · rcases f7' g hg with e|e
           · exact n1t g e
           · have:=P4.lt;omega
       · have hb0:b0=true:=by simpa using hb
         obtain⟨t,et,ht⟩:=hyes hb0
         exact⟨ps1,t,et,.inl rfl,ht,S4,P4,n1t⟩
     · rintro W ⟨ps',t,rfl,hps',ht,SW,PW,ntW⟩
       have hxn:=SW.mak.nx.len
       have hnl:nx1.length=(acs.length+1)*da.K:=by rw[Q.len,hal]
       have hidx:acs.length*da.K+j<nx1.length:=by rw[hnl];exact qt (Nat.lt_succ_self _) hjK
       have hxn':xn1=nx1.length:=hxn
       refine⟨rfl,rfl,rfl,rfl,x1,xn1,xc1,λu hu=>(SW.mak.var.below hu).load1 aA rfl rfl,((da.K:Nat):Int),λu hu=>by rw[hKa];exact(SW.da.below hu).load1 aC rfl rfl,?_⟩
       rw[iw.1]
       refine⟨⟨⟨by omega,by omega⟩,SW.mak.nx.all.isSome hidx⟩,λwq2 hq2=>?_⟩
       obtain⟨wx6,s6,nx2,Q2,hp2,S6,P6⟩:=fin ps' t a2 l2 c2 W hps' ht SW PW ntW wq2 hq2
       exact⟨wx6,s6,da.K-(j+1),by omega,j+1,ps',nx2,x1,xn1,xc1,y1,yn1,yc1,by rw[ar (by omega) (by omega)];omega,hjK,rfl,Q2,hp2,S6,P6,n1x,n1y,ntW⟩
   · have hjK:j=da.K:=by omega
     subst hjK
     refine ah.no (decide_eq_false (by omega)) ⟨65536-acs'.length,by omega,ps1,nx1,acs',x1,xn1,xc1,y1,yn1,yc1,rfl,?_,S1⟩
     rw[hal]
     exact Q.row
 · have ld:=bh.load0 (cs:=daL x xn xc y yn yc ⟨da.k,0,nx,acs⟩) S.mak.var rfl
   obtain⟨wx,q1,q2,g1⟩:=cR S.res rfl x xn xc y yn yc ⟨da.k,0,nx,acs⟩
   have O:ri k48 wl x xn xc y yn yc ⟨da.k,0,nx,acs⟩:=⟨S.mak.nx,S.mak.ac,S.mak.ne,S.fx,S.fy⟩
   have p1:=S.o1
   have p2:=S.o2
   have p3:=S.o3
   have p4:=S.o4
   have p5:=S.o5
   have p7:=S.o7
   exact⟨rfl,rfl,_,_,x,xn,xc,y,yn,yc,ld,wx,q1,_,_,x,xn,xc,y,yn,yc,q2,lO.yes hok ⟨_,ps,PI.done rfl (by omega),x,xn,xc,y,yn,yc,rfl,(O.put g1 (by omega)).mono (by omega),Below.put S.bw g1 (by omega)⟩⟩
theorem py {w:World}{aa ba ca ea:Option Addr}{an ac bn bc cn cc en ec:Nat}{da db:DA}(hA:DaS w aa an ac ba bn bc da)(hB:DaS w ca cn cc ea en ec db)(hf:da.Ok->db.Ok->da.k=db.k->Few da db):
   Cf cv #[daV aa an ac ba bn bc da,daV ca cn cc ea en ec db] w (Ret (lO da db w)):=by
 apply Ah
 intro k2 w2 hk2 hw2 k3 w3 hk3 hw3 k4 w4 hk4 hw4
 have b2:=(hw2▸af w _:bW w w2)
 have b3:=(hw3▸af w2 _:bW w2 w3)
 have b4:=(hw4▸af w3 _:bW w3 w4)
 have A2:ai w2 k2 ae (daL aa an ac ba bn bc da):=ai.new hk2 hw2
 have A3:ai w3 k3 ae (daL ca cn cc ea en ec db):=ai.new hk3 hw3
 have A4:ai w4 k4 ae [vI 0,vI 0,.slice none 0 0,.slice none 0 0]:=ai.new hk4 hw4
 have B4:bW w w4:=ab (ab b2 b3 b2.size) b4 (Nat.le_trans b2.size b3.size)
 have o4:w.heap.size <=k4:=by have:=b2.size;have:=b3.size;omega
 have l4:=A4.lt
 refine⟨_,_,aa,an,ac,ba,bn,bc,bh.load0 (cs:=daL aa an ac ba bn bc da) ((A2.below b3).below b4) rfl,_,_,ca,cn,cc,ea,en,ec,bh.load0 (cs:=daL ca cn cc ea en ec db) (A3.below b4) rfl,?_⟩
 refine aw (DP (hA.below B4) (hB.below B4) hf) ?_
 intro v w8 hP
 by_cases hok:dz da db=true
 · unfold lO at hP
   rw[if_pos hok]at hP
   obtain⟨d,ps,hI,a1,n1,c1,b1,m1,e1,rfl,O,hb⟩:=hP
   obtain⟨wx,s1,s2,g1⟩:=cR (A4.below hb) rfl a1 n1 c1 b1 m1 e1 d
   exact⟨_,_,a1,n1,c1,b1,m1,e1,_,rfl,wx,s1,_,_,a1,n1,c1,b1,m1,e1,s2,lO.yes hok ⟨d,ps,hI,a1,n1,c1,b1,m1,e1,rfl,(O.put g1 l4).mono B4.size,Below.put (ab B4 hb B4.size) g1 o4⟩⟩
 · unfold lO at hP
   rw[if_neg hok]at hP
   obtain⟨rfl,hb⟩:=hP
   obtain⟨wx,s1,s2,g1⟩:=cR (A4.below hb) rfl none 0 0 none 0 0 d0
   exact⟨_,_,none,0,0,none,0,0,_,rfl,wx,s1,_,_,none,0,0,none,0,0,s2,lO.no (by simpa using hok) ⟨rfl,Below.put (ab B4 hb B4.size) g1 o4⟩⟩
def zf (P:Program)(v:Value)(args:Array Value)(w:World)(R:Ending->World->Prop):Prop:=
 match(match v with
   | .func (.func f) first captured=>if iI P f then some (f,(first.toList++(args.toList++captured.toList)).toArray)else none
   | _=>none:Option (FuncId×Array Value))with
 | some (f,l)=>Calls P f l w R
 | none=>False
theorem zf.of {P:Program}{f:FuncId}{args:Array Value}{w:World}{R:Ending->World->Prop}(hc:iI P f=true)(h:Calls P f args w R):zf P (.func (.func f) #[] #[]) args w R:=by
 unfold zf
 show(match(if iI P f then some (f,_)else none:Option (FuncId×Array Value))with|some (f,l)=>Calls P f l w R|none=>False)
 rw[if_pos hc]
 simpa using h
theorem yO (a:Option Addr)(b:Value)(c:Int){w K}(h:nA w (.cells (Value.cells b) kr) λd e=>nA e (.cells dx ao) λf g=>∃i:FP [.one .any],(true/\∃j,Ld bv (vA d 20) g (.bool j)/\ah j (i (.func (.func fI) #[] #[]) g) (i (.func (.func dv) #[] #[]) g))/\∀j,aL 2 (∀k,i j k->true/\∃l,Ld am (vA d 2) k l/\zf prog j #[.pointer a,l] k λm n=>∃o p q r s t u v x,m=rT #[.agg #[vI o,vI p,.slice q r s,.slice t u v],vI x]/\nA n (.cells #[vI 0,vI 0,.slice none 0 0,.slice none 0 0] ae) λy z=>∃A,Sv ae (vA y 0) (.agg #[vI o,vI p,.slice q r s,.slice t u v]) z A/\true/\∃B,Ld aI (vA d 21) A (vS B)/\Cf jS #[vS B] A λC D=>∃E F G H I J L M N,C=rT #[.agg #[vI E,vI F,.slice G H I,.slice J L M],vI N]/\nA D (.cells #[vI 0,vI 0,.slice none 0 0,.slice none 0 0] ae) λO P=>∃Q,Sv ae (vA O 0) (.agg #[vI E,vI F,.slice G H I,.slice J L M]) P Q/\∃R S T U V X Y Z,Ld ae (vA y 0) Q (.agg #[vI R,vI S,.slice T U V,.slice X Y Z])/\∃aa ac ad ag al an ba bb,Ld ae (vA O 0) Q (.agg #[vI aa,vI ac,.slice ad ag al,.slice an ba bb])/\nA Q (.cells dx ao) λbc bd=>∃bj,Sv ao (vA bc 0) (.agg #[vI R,vI S,.slice T U V,.slice X Y Z,vI aa,vI ac,.slice ad ag al,.slice an ba bb,.bool false,.bool false,.bool false,.bool false,.bool false]) bd bj/\∃bk:FP [],(true/\∃bl,Ld Er (vA d 25) bj (vI bl)/\ah (decide (c<bl)) (true/\∃bn,Ld bv (vA d 22) bj (.bool bn)/\true/\∃bq,Sv gu (vA bc 8) (.agg #[.bool (!bn),.bool true]) bj bq/\true/\∃bu,Ld aq (vA d 24) bq (vI bu)/\true/\∃bw,Ld aq (vA d 24) bq (vI bw)/\true/\∃bx,Sv gv (vA bc 10) (.agg #[.bool true,.bool (bu !=(3:Int)),.bool (bw==(1:Int))]) bq bx/\bk bx) (bk bj))/\aL 17 (∀bl,bk bl->∃bn,Ld ao (vA bc 0) bl bn/\Cf kN #[bn,vI x,vI N] bl λbq bu=>∃bw bx,bq=rT #[bw,vI bx]/\∃bz,Sv ao (vA f 0) bw bu bz/\∃ca,Rv ao (vA f 0) bz ca/\K (.tuple #[ca,vI bx]) bz))):Cf pC #[.pointer a,b,vI c] w (Ret K):=ru func35 [(4,[(8,.one .any)]),(16,[])] h
theorem qH (a:Option Addr)(b:Value){w K}(h:nA w (.cells (Value.cells b) ao) λc d=>nA d (.cells js aM) λe f=>true/\∃g i j k l m n o,Ld ae (vA c 0) f (.agg #[vI g,vI i,.slice j k l,.slice m n o])/\Cf jO #[.pointer a,.agg #[vI g,vI i,.slice j k l,.slice m n o]] f λp q=>∃r s t,p=rT #[r,.bool s,vI t]/\nA q (.cells cu am) λu v=>∃x,Sv am (vA u 0) r v x/\true/\∃y z A B C D E F,Ld ae (vA c 4) x (.agg #[vI y,vI z,.slice A B C,.slice D E F])/\Cf jR #[.agg #[vI y,vI z,.slice A B C,.slice D E F]] x λG H=>∃I J L,G=rT #[vS I,.bool J,vI L]/\nA H (.cells #[vI t,vI L] dI) λM N=>uI iJ #[.slice (vA M 0) 2 2] N λO P=>ah (O !=(0:Int)) (∃Q,Sv aM (vA e 0) (.agg js) P Q/\∃R,Rv aM (vA e 0) Q R/\K (.tuple #[R,.bool false,vI O]) Q) (true/\(True)/\uI bG #[.slice (vA c 8) 2 2,.bool true] P λQ R=>true/\(True)/\uI bG #[.slice (vA c 10) 3 3,.bool true] R λS T=>∃U:FP [],(∃V:FP [.one .bool],(ah (!s) (V true T) (ah (!J) (V true T) (ah (decide (Q<(0:Int))) (V true T) (V (decide (S<(0:Int))) T))))/\∀X,aL 13 (∀Y,V X Y->ah X (∃Z,Sv aM (vA e 0) (.agg js) Y Z/\∃aa,Rv aM (vA e 0) Z aa/\K (.tuple #[aa,.bool false,vI 0]) Z) (U Y)))/\aL 17 (∀V,U V->∃X,Ld am (vA u 0) V X/\∃Y,(Instr.build aM #[(0,.bool (Q==(1:Int))),(1,X),(2,vS I),(3,vI S)]).run prog V=.ok Y V/\∃Z,Sv aM (vA e 0) Y V Z/\∃aa,Rv aM (vA e 0) Z aa/\K (.tuple #[aa,.bool true,vI 0]) Z))):Cf jc #[.pointer a,b] w (Ret K):=ru func42 [(20,[]),(21,[(58,.one .bool)])] h
theorem sZ (a:Value)(b c:Int){w K}(h:nA w (.cells (Value.cells a) ao) λd e=>nA e (.cells dx ao) λf g=>ah (b==(151:Int)) (∃i,Ld ao (vA d 0) g i/\nA g (.cells #[vI c,vI b] dI) λj k=>Cf fL #[i,.slice (vA j 0) 2 2] k λl m=>∃n o,l=rT #[n,vI o]/\∃p,Sv ao (vA f 0) n m p/\∃q,Rv ao (vA f 0) p q/\K (.tuple #[q,vI o]) p) (∃i,Ld ao (vA d 0) g i/\nA g (.cells #[vI b,vI c] dI) λj k=>Cf fL #[i,.slice (vA j 0) 2 2] k λl m=>∃n o,l=rT #[n,vI o]/\∃p,Sv ao (vA f 0) n m p/\∃q,Rv ao (vA f 0) p q/\K (.tuple #[q,vI o]) p)):Cf kN #[a,vI b,vI c] w (Ret K):=ru func78 [] h
theorem vf (a:Value)(b:Option Addr)(c d:Nat){w K}(h:nA w (.cells (Value.cells a) ao) λe f=>nA f (.cells dx ao) λg i=>uI iJ #[.slice b c d] i λj k=>ah (j !=(0:Int)) (∃l,Sv ao (vA g 0) (.agg dx) k l/\∃m,Rv ao (vA g 0) l m/\K (.tuple #[m,vI j]) l) (∃l,Ld ao (vA e 0) k l/\∃m,Sv ao (vA g 0) l k m/\∃n,Rv ao (vA g 0) m n/\K (.tuple #[n,vI 0]) m)):Cf fL #[a,.slice b c d] w (Ret K):=ru func86 [] h
theorem sY (a:Option Addr)(b c:Nat){w K}(h:∃d:Nat->FP [.one (.int .i64)],(∃e,d e (0:Int) w)/\∀e f,aL 9 (∀g,d e f g->ah (decide (f<((b:Nat):Int))) ((bx f ((b:Nat):Int)/\Option.isSome a=true)/\∃i,Ld dI (ak a f 1) g (vI i)/\ah (i !=(0:Int)) (K (vI i) g) (∃j:Nat,j<e/\d j (i64.wrap (f+(1:Int))) g)) (K (vI 0) g))):Cf iJ #[.slice a b c] w (Ret K):=ru func89 [(6,[(7,.one (.int .i64))])] h
structure Rgp where
 a:Option Addr
 n:Nat
 c:Nat
 b:Option Addr
 m:Nat
 e:Nat
structure Rgn where
 h:DA
 p:DA
 s0:Bool
 s1:Bool
 c0:Bool
 c1:Bool
 c2:Bool
def rp0:Rgp:=⟨none,0,0,none,0,0⟩
def rg0:Rgn:=⟨d0,d0,false,false,false,false,false⟩
def Rgn.tail (r:Rgn):List Value:=[.bool r.s0,.bool r.s1,.bool r.c0,.bool r.c1,.bool r.c2]
def Rgn.cells (r:Rgn)(x y:Rgp):List Value:=daL x.a x.n x.c x.b x.m x.e r.h++(daL y.a y.n y.c y.b y.m y.e r.p++r.tail)
def Rgn.v (r:Rgn)(x y:Rgp):Value:=.agg (r.cells x y).toArray
theorem Rgn.len (r:Rgn)(x y:Rgp):(r.cells x y).length=13:=rfl
theorem Rgn.one (r:Rgn)(x y:Rgp):vP (r.cells x y):=uF (dt _ _ _ _ _ _ _) (uF (dt _ _ _ _ _ _ _) (aN rfl (aN rfl (aN rfl (aN rfl (aN rfl gA))))))
structure RgS (w:World)(r:Rgn)(x y:Rgp):Prop where
 h:DaS w x.a x.n x.c x.b x.m x.e r.h
 p:DaS w y.a y.n y.c y.b y.m y.e r.p
theorem RgS.below {w w':World}{r:Rgn}{x y:Rgp}(h:RgS w r x y)(hb:bW w w'):RgS w' r x y:=⟨h.h.below hb,h.p.below hb⟩
structure RgO (B:Nat)(w:World)(r:Rgn)(x y:Rgp):Prop where
 h:ri B w x.a x.n x.c x.b x.m x.e r.h
 p:ri B w y.a y.n y.c y.b y.m y.e r.p
theorem RgO.s {B:Nat}{w:World}{r:Rgn}{x y:Rgp}(h:RgO B w r x y):RgS w r x y:=⟨h.h.das,h.p.das⟩
theorem RgO.below {B:Nat}{w w':World}{r:Rgn}{x y:Rgp}(h:RgO B w r x y)(hb:bW w w'):RgO B w' r x y:=⟨h.h.below hb,h.p.below hb⟩
theorem RgO.put {B:Nat}{w w':World}{r:Rgn}{x y:Rgp}{k:Nat}(h:RgO B w r x y)(hg:w.grownBy w' (some k))(hk:k<B):RgO B w' r x y:=⟨h.h.put hg hk,h.p.put hg hk⟩
theorem RgO.mono {B B':Nat}{w:World}{r:Rgn}{x y:Rgp}(h:RgO B w r x y)(hB:B' <=B):RgO B' w r x y:=⟨h.h.mono hB,h.p.mono hB⟩
theorem RgO.zero (B:Nat)(w:World):RgO B w rg0 rp0 rp0:=⟨⟨Ow.nil _ _ _ _,Ow.nil _ _ _ _,(λg hg=>by cases hg),br.none _,br.none _⟩,⟨Ow.nil _ _ _ _,Ow.nil _ _ _ _,(λg hg=>by cases hg),br.none _,br.none _⟩⟩
theorem RgS.zero (w:World):RgS w rg0 rp0 rp0:=⟨⟨(Ow.nil bY aq w NoB).all,(Ow.nil ij bv w NoB).all⟩,⟨(Ow.nil bY aq w NoB).all,(Ow.nil ij bv w NoB).all⟩⟩
theorem bo:Whl prog ao 13:=⟨⟨_,_,yZ⟩,by kernel_rfl⟩
def io (a b:Int):Int:=if a≠0 then a else b
theorem CB {w:World}{A:Bl}{a:Option Addr}{c:Nat}{x y:Int}(hs:Sl bY w A a 2 c [x,y]):Cf iJ #[.slice a 2 c] w (Ret λv w'=>v=vI (io x y)/\w'=w):=by
 apply sY
 refine⟨λm i w'=>w'=w/\∃j:Nat,i=(j:Int)/\m=2-j/\(j=0\/j=1/\x=0\/j=2/\x=0/\y=0),⟨_,rfl,0,rfl,rfl,.inl rfl⟩,?_⟩
 intro m i
 refine aL.of ?_ _
 rintro wl ⟨hw,j,rfl,rfl,hj⟩
 rw[hw];clear hw wl
 rcases hj with rfl|⟨rfl,h0⟩|⟨rfl,h0,h1⟩
 · refine ah.yes (by decide) ⟨⟨⟨by omega,by omega⟩,hs.isSome (i:=0) (show 0<2 by decide)⟩,_,hs.num (i:=0) sy (show 0<2 by decide),?_⟩
   refine ah.of (λh=>?_) (λh=>?_)
   · have h:x≠0:=by simpa using h
     exact⟨by unfold io;rw[if_pos h];rfl,rfl⟩
   · have h:x=0:=by simpa using h
     exact⟨1,by omega,rfl,1,by decide,by omega,.inr (.inl ⟨rfl,h⟩)⟩
 · refine ah.yes (by decide) ⟨⟨⟨by omega,by omega⟩,hs.isSome (i:=1) (show 1<2 by decide)⟩,_,hs.num (i:=1) sy (show 1<2 by decide),?_⟩
   refine ah.of (λh=>?_) (λh=>?_)
   · exact⟨by unfold io;rw[if_neg (by omega)];rfl,rfl⟩
   · have h:y=0:=by simpa using h
     exact⟨0,by omega,rfl,2,by decide,by omega,.inr (.inr ⟨rfl,h0,h⟩)⟩
 · exact ah.no (by decide) ⟨by unfold io;rw[if_neg (by omega),h1],rfl⟩
def En (r:Rgn)(x y:Rgp)(e:Int)(w:World)(v:Value)(w':World):Prop:=bW w w'/\v=if e=0 then .tuple #[r.v x y,vI 0]else .tuple #[rg0.v rp0 rp0,vI e]
theorem Fz {w:World}{A:Bl}{a:Option Addr}{c:Nat}{s t:Int}(hs:Sl bY w A a 2 c [s,t])(r:Rgn)(x y:Rgp):Cf fL #[r.v x y,.slice a 2 c] w (Ret (En r x y (io s t) w)):=by
 apply vf
 intro k2 w2 hk2 hw2 k4 w4 hk4 hw4
 have b2:=(hw2▸af w _:bW w w2)
 have b4:=(hw4▸af w2 _:bW w2 w4)
 have A2:ai w2 k2 ao (r.cells x y):=ai.new hk2 hw2
 have A4:ai w4 k4 ao (rg0.cells rp0 rp0):=ai.new hk4 hw4
 have B4:=ab b2 b4 b2.size
 have s2:=b2.size
 refine aw (CB (hs.below B4)) ?_
 rintro _ w8 ⟨rfl,hw8⟩
 rw[hw8];clear hw8 w8
 refine⟨_,rfl,ah.of (λh=>?_) (λh=>?_)⟩
 · have h:io s t≠0:=by simpa using h
   obtain⟨wx,q1,v1,g1⟩:=bo.store0 (P:=prog) (cs:=rg0.cells rp0 rp0) rfl (Rgn.one _ _ _) A4 rfl
   exact⟨wx,q1,_,ai.res (bo.load0 v1 rfl),Below.put B4 g1 (by omega),by rw[if_neg h];rfl⟩
 · have h:io s t=0:=by simpa using h
   obtain⟨wx,q1,v1,g1⟩:=bo.store0 (P:=prog) (cs:=r.cells x y) rfl (Rgn.one _ _ _) A4 rfl
   exact⟨_,bo.load0 (A2.below b4) rfl,wx,q1,_,ai.res (bo.load0 v1 rfl),Below.put B4 g1 (by omega),by rw[if_pos h];rfl⟩
def FY (h p:Int):Int:=if h=151 then io p h else io h p
theorem HA (r:Rgn)(x y:Rgp)(s t:Int)(hs:i64.wrap s=s)(ht:i64.wrap t=t)(w:World):Cf kN #[r.v x y,vI s,vI t] w (Ret (En r x y (FY s t) w)):=by
 apply sZ
 intro k3 w3 hk3 hw3 k6 w6 hk6 hw6
 have b3:=(hw3▸af w _:bW w w3)
 have b6:=(hw6▸af w3 _:bW w3 w6)
 have A3:ai w3 k3 ao (r.cells x y):=ai.new hk3 hw3
 have A6:ai w6 k6 ao (rg0.cells rp0 rp0):=ai.new hk6 hw6
 have B6:=ab b3 b6 b3.size
 have s3:=b3.size
 have one:∀{k13:Nat} {w13:World} {a b:Int},k13=w6.heap.size->w13=w6.alloc (.cells #[vI a,vI b] dI)->
     Cf fL #[r.v x y,.slice (some ⟨k13,0,none⟩) 2 2] w13 λe14 w14=>∃(v0:Value) (n1:Int),e14=.returned (.tuple #[v0,vI n1])/\
       ∃(wx:World),(Instr.storeAt ao (.pointer (some ⟨k6,0,none⟩)) v0).run prog w14=.ok () wx/\∃(vr:Value),(bE ao (.pointer (some ⟨k6,0,none⟩))).run prog wx=.ok vr wx/\En r x y (io a b) w (.tuple #[vr,vI n1]) wx:=by
   intro k13 w13 a b hk hw
   have b13:=(hw▸af w6 _:bW w6 w13)
   have S:Sl bY w13 jD (some ⟨k13,0,none⟩) 2 2 [a,b]:=(Ow.newF (T:=bY) (A:=NoB) (t:=dI) (l:=[vI a,vI b]) (xs:=[a,b]) dF hk hw ((gr.one (cS (n:=a))).append (gr.one (cS (n:=b)))) (show 2 <=maxLen by decide)).all
   refine aw (Fz S r x y) ?_
   rintro _ w14 ⟨b14,rfl⟩
   have B:=ab (ab B6 b13 B6.size) b14 (ab B6 b13 B6.size).size
   have A14:=(A6.below b13).below b14
   by_cases h:io a b=0
   · rw[if_pos h]
     obtain⟨wx,q1,v1,g1⟩:=bo.store0 (P:=prog) (cs:=r.cells x y) rfl (Rgn.one _ _ _) A14 rfl
     exact⟨_,_,rfl,wx,q1,_,ai.res (bo.load0 v1 rfl),Below.put B g1 (by omega),by rw[if_pos h];rfl⟩
   · rw[if_neg h]
     obtain⟨wx,q1,v1,g1⟩:=bo.store0 (P:=prog) (cs:=rg0.cells rp0 rp0) rfl (Rgn.one _ _ _) A14 rfl
     exact⟨_,_,rfl,wx,q1,_,ai.res (bo.load0 v1 rfl),Below.put B g1 (by omega),by rw[if_neg h];rfl⟩
 refine ah.of (λh=>⟨_,bo.load0 (A3.below b6) rfl,λk13 w13 hk hw=>?_⟩) (λh=>⟨_,bo.load0 (A3.below b6) rfl,λk13 w13 hk hw=>?_⟩)
 · have h:s=151:=by simpa using h
   have e:FY s t=io t s:=by unfold FY;rw[if_pos h]
   rw[e];exact one hk hw
 · have h:s≠151:=by simpa using h
   have e:FY s t=io s t:=by unfold FY;rw[if_neg h]
   rw[e];exact one hk hw
theorem Ow.cells {α:Type}{T:Ty α}{t:TypeId}{w:World}{A:Bl}{a:Option Addr}{n c:Nat}{xs:List α}(h:Ow T t w A a n c xs){g:Nat}(hg:bi a=some g):∃o:Obj,w.heap[g]? =some o/\o.isCells=true:=by
 rcases h.2.2.2 with⟨e,_⟩|⟨g',cur,fr,e,hh,_⟩
 · rw[e]at hg;cases hg
 · rw[e]at hg
   have:g'=g:=by simpa[bi]using hg
   subst this
   exact⟨_,hh,rfl⟩
def xK (w:World)(row:Option Nat):Prop:=∀r,row=some r->∃o:Obj,w.heap[r]? =some o/\o.isCells=false
theorem ai.turned {w w':World}{k:Nat}{t:TypeId}{vs:List Value}{row:Option Nat}(h:ai w k t vs)(hg:w.grownBy w' row)(hr:xK w row):ai w' k t vs:=
 h.grown hg λe=>by
   obtain⟨o,ho,hc⟩:=hr k e.symm
   rw[show w.heap[k]? =_ from h]at ho;cases ho;cases hc
theorem Ow.turned {α:Type}{T:Ty α}{t:TypeId}{w w':World}{a:Option Addr}{n c:Nat}{xs:List α}{row:Option Nat}(h:Ow T t w NoB a n c xs)(hg:w.grownBy w' row)(hr:xK w row):Ow T t w' NoB a n c xs:=by
 cases row with
 | none=>exact h.keep (iC hg λb hb e=>by cases e)
 | some r=>
   refine h.put (λg hg' e=>?_) hg
   subst e
   obtain⟨o,ho,hc⟩:=h.cells hg'
   obtain⟨o',ho',hc'⟩:=hr g rfl
   rw[ho]at ho';cases ho';rw[hc]at hc';cases hc'
theorem si {n₀:Nat}{w0 w w':World}{row:Option Nat}(h:Below n₀ w0 w)(hn:n₀ <=w.heap.size)(hg:w.grownBy w' row)(hr:∀r,row=some r->n₀ <=r):Below n₀ w0 w':=h.grown hg hn hr
def pG (md:Region.Mode)(ops:Array Oper):Nat->Array Bool->List (List Nat)
 | 0,_=>[[]]
 | f+1,listed=>match Region.ready md ops listed with
   | []=>[[]]
   | i::is=>(i::is).flatMap λj=>(pG md ops f (listed.setIfInBounds j true)).map (j:: ·)
theorem qy {md:Region.Mode}{ops:Array Oper} :∀(fuel t:Nat) (listed:Array Bool),Region.linearise.go md ops fuel t listed []∈pG md ops fuel listed
 | 0,t,listed=>by simp[Region.linearise.go,pG]
 | fuel+1,t,listed=>by
   simp only[Region.linearise.go]
   change (match(Region.ready md ops listed)[t%(Region.ready md ops listed).length]? with
     | some i=>Region.linearise.go md ops fuel (t/(Region.ready md ops listed).length) (listed.setIfInBounds i true) [i]
     | none=>[].reverse)∈_
   cases hr:Region.ready md ops listed with
   | nil=>simp[pG,hr]
   | cons x xs=>
     have hlt:t%(x::xs).length<(x::xs).length:=Nat.mod_lt _ (by simp)
     rw[List.getElem?_eq_getElem hlt]
     simp only[pG,hr]
     rw[linearise_go_acc,List.reverse_singleton,List.singleton_append]
     exact List.mem_flatMap.2 ⟨_,List.getElem_mem hlt,List.mem_map.2 ⟨_,qy fuel _ _,rfl⟩⟩
section
variable {F:Fence} {n:Nat} {P:Program} {ops:Array Oper} {Q:Exit->Act->World->Prop} {a:Act} {w:World}
theorem sG:∀(l:List Nat) (a:Act) (w:World),wpListIn F n P ops Q (l.filterMap λi=>ops[i]?) a w->wpOpsIn F n P ops Q l a w
 | [],a,w,h=>h
 | i::l,a,w,h=>by
   have ih:=sG l
   cases ho:ops[i]? with
   | none=>
     rw[List.filterMap_cons_none ho]at h
     simp only[wpOpsIn,ho]
     exact ih _ _ h
   | some o=>
     rw[List.filterMap_cons_some ho]at h
     simp only[wpOpsIn,ho]
     unfold wpListIn at h
     have e:wpListIn F n P ops Q (l.filterMap λi=>ops[i]?)=wpListIn F n P ops Q (l.filterMap λi=>ops[i]?):=rfl
     split at h
     · rename_i hw
       rw[if_pos hw]
       exact Oper.wpIn_mono (λa w=>ih a w) h
     · rename_i hw
       rw[if_neg hw]
       exact⟨h.1,ih _ _ h.2⟩
theorem Ce {id:Nat}{os:List (List Oper)}(hm:P.follows .mixedOrders=true)(ho:(pG .any ops ops.size (Array.replicate ops.size false)).map (λl=>l.filterMap λi=>ops[i]?)=os)
   (h:∀l∈os,wpListIn F n P ops Q l a w.drew):(Code.region id ops true).wpIn F n P Q a w:=
 wpIn_region_draw λt=>by
   simp only[Region.schedule,hm,Bool.true_or,if_true]
   refine sG _ _ _ (h _ ?_)
   rw[<- ho]
   exact List.mem_map.2 ⟨_,qy _ _ _,rfl⟩
end
section
variable {F:Fence} {n:Nat} {P:Program} {ops:Array Oper} {Q:Exit->Act->World->Prop} {a:Act} {w:World} {rest:List Oper} {o:Oper}
theorem IZ (hw:Region.wanted o (yielded ops a.tmps)=true)(h:∀K:Act->World->Prop,(∀a w,wpListIn F n P ops Q rest a w->K a w)->o.wpIn F n P a w K Q):wpListIn F n P ops Q (o::rest) a w:=
 wpListIn_step λK hK=>by rw[if_pos hw];exact h K hK
theorem um (hw:Region.wanted o (yielded ops a.tmps)=true)(hd:∀c,o.op≠.defer c)(ha:o.about P w a.eval=none){v:Value}{w':World}(hrun:(execOp a.eval o).run P w=.ok (.value v) w')(hK:wpListIn F n P ops Q rest (a.put o.dst v) w'):wpListIn F n P ops Q (o::rest) a w:=by
 refine IZ hw λK hK'=>⟨λf hf=>?_,?_⟩
 · rw[ha]at hf;cases hf
 · rw[Oper.semAt_plain F _ _ hd,hrun]
   exact hK' _ _ hK
theorem KQ (hw:Region.wanted o (yielded ops a.tmps)=true)(hd:∀c,o.op≠.defer c)(ha:o.about P w a.eval=none){w':World}(hrun:(execOp a.eval o).run P w=.ok .skip w')(hK:wpListIn F n P ops Q rest (a.put o.dst undef) w'):wpListIn F n P ops Q (o::rest) a w:=by
 refine IZ hw λK hK'=>⟨λf hf=>?_,?_⟩
 · rw[ha]at hf;cases hf
 · rw[Oper.semAt_plain F _ _ hd,hrun]
   exact hK' _ _ hK
theorem cG (hw:Region.wanted o (yielded ops a.tmps)=true){t:TypeId}{x:Operand}(hop:o.op=.load t x){p:Value}(hx:a.eval x=p){v:Value}(hrun:(Instr.loadAt t p).run P w=.ok v w)(hK:wpListIn F n P ops Q rest (a.put o.dst v) w):wpListIn F n P ops Q (o::rest) a w:=
 um hw (by rw[hop];intro c hc;cases hc) (by simp[Oper.about,hop]) (by simp[execOp,hop,hx,hrun,Result.andThen]) hK
theorem cC (hw:Region.wanted o (yielded ops a.tmps)=true){t:TypeId}{x y:Operand}(hop:o.op=.store t x y){p u:Value}(hx:a.eval x=p)(hy:a.eval y=u){w':World}(hrun:(Instr.storeAt t p u).run P w=.ok () w')(hK:wpListIn F n P ops Q rest (a.put o.dst undef) w'):wpListIn F n P ops Q (o::rest) a w:=
 KQ hw (by rw[hop];intro c hc;cases hc) (by simp[Oper.about,hop]) (by simp[execOp,hop,hx,hy,hrun,Result.andThen]) hK
theorem wW (hw:Region.wanted o (yielded ops a.tmps)=true){t:TypeId}(hop:o.op=.alloc t){v:Value}{w':World}(hrun:(Instr.alloc t true (.tuple #[])).run P w=.ok v w')(hK:wpListIn F n P ops Q rest (a.put o.dst v) w'):wpListIn F n P ops Q (o::rest) a w:=
 um hw (by rw[hop];intro c hc;cases hc) (by simp[Oper.about,hop]) (by simp[execOp,hop,hrun,Result.andThen]) hK
theorem KP (hw:Region.wanted o (yielded ops a.tmps)=true){t:TypeId}{x:Operand}(hop:o.op=.box t x){u:Value}(hx:a.eval x=u){k:Nat}{w':World}(hk:k=w.heap.size)(hw':w'=w.alloc (.cells u.cells t))(hK:wpListIn F n P ops Q rest (a.put o.dst (.pointer (some ⟨k,0,none⟩))) w'):wpListIn F n P ops Q (o::rest) a w:=by
 subst hk hw'
 exact um hw (by rw[hop];intro c hc;cases hc) (by simp[Oper.about,hop]) (by
   have hb:(Instr.box t u).run P w=.ok (.pointer (some ⟨w.heap.size,0,none⟩)) (w.alloc (.cells u.cells t)):=rfl
   simp[execOp,hop,hx,hb,Result.andThen]) hK
theorem cQ (hw:Region.wanted o (yielded ops a.tmps)=true){x:Operand}(hop:o.op=.move x\/o.op=.assign x){u:Value}(hx:a.eval x=u)(hK:wpListIn F n P ops Q rest (a.put o.dst u) w):wpListIn F n P ops Q (o::rest) a w:=
 um hw (by rcases hop with hop|hop <;> (rw[hop];intro c hc;cases hc)) (by rcases hop with hop|hop <;> simp[Oper.about,hop]) (by rcases hop with hop|hop <;> simp[execOp,hop,hx]) hK
theorem dP (hw:Region.wanted o (yielded ops a.tmps)=true){t:TypeId}{x:Operand}(hop:o.op=.buildSlice t 1 #[(0,x)]){u:Value}(hx:a.eval x=u){v:Value}{w':World}(hrun:(Instr.buildSlice t 1 #[(0,u)]).run P w=.ok v w')(hK:wpListIn F n P ops Q rest (a.put o.dst v) w'):wpListIn F n P ops Q (o::rest) a w:=
 um hw (by rw[hop];intro c hc;cases hc) (by simp[Oper.about,hop]) (by simp[execOp,hop,hx,hrun,Result.andThen]) hK
theorem d7 (hw:Region.wanted o (yielded ops a.tmps)=true){t:TypeId}{x y:Operand}(hop:o.op=.call { callee:=.builtin .append,args:= #[x,y],argTypes:= #[t,t] }){p q:Value}(hx:a.eval x=p)(hy:a.eval y=q){v:Value}{w':World}(hrun:(Builtin.append_ #[t,t] o.type #[p,q]).run P w=.ok v w')(hK:wpListIn F n P ops Q rest (a.put o.dst v) w'):wpListIn F n P ops Q (o::rest) a w:=
 um hw (by rw[hop];intro c hc;cases hc) (by simp[Oper.about,hop,resolve,Target.leads,Sem.run_pure]) (by simp[execOp,hop,resolve,invoke,builtin,hx,hy,hrun,Result.andThen]) hK
theorem J0 (hw:Region.wanted o (yielded ops a.tmps)=true){f:FuncId}{xs:Array Operand}{ts:Array TypeId}(hop:o.op=.call { callee:=.value (.func f),args:=xs,argTypes:=ts }){us:Array Value}(hx:xs.map a.eval=us)(hn:1 <=n)(hF:∀g,F.fn g)(ef:∀(args:Array Value) (w:World),(callFunc f args).run P w=.ok (.enter f args) w)
   (h:CallsIn F (n-1) P f us w λe w'=>∃v,e=.returned v/\wpListIn F n P ops Q rest (a.put o.dst v) w'):wpListIn F n P ops Q (o::rest) a w:=by
 refine IZ hw λK hK'=>⟨λg hg=>hF g,?_⟩
 rw[Oper.semAt_plain F _ _ (by rw[hop];intro c hc;cases hc)]
 have hr:(execOp a.eval o).run P w=.ok (.enter f us) w:=by
   subst hx
   simp[execOp,hop,resolve,invoke,Deferred.ofValue,Act.eval,Result.andThen]
   exact ef _ _
 rw[hr,Oper.uponIn_enter]
 refine⟨λ_=>hn,h.mono ?_⟩
 rintro e w' ⟨v,rfl,hv⟩
 exact hK' _ _ hv
theorem sm (hw:Region.wanted o (yielded ops a.tmps)=true){f:FuncId}{x:Operand}{ts:Array TypeId}(hop:o.op=.call { callee:=.value (.func f),args:= #[x],argTypes:=ts }){u:Value}(hx:a.eval x=u)(hn:1 <=n)(hF:∀g,F.fn g)(ef:∀(args:Array Value) (w:World),(callFunc f args).run P w=.ok (.enter f args) w)
   (h:CallsIn F (n-1) P f #[u] w λe w'=>∃v,e=.returned v/\wpListIn F n P ops Q rest (a.put o.dst v) w'):wpListIn F n P ops Q (o::rest) a w:=
 J0 hw hop (us:= #[u]) (by simp[hx]) hn hF ef h
theorem fO (hw:Region.wanted o (yielded ops a.tmps)=true){f:FuncId}{x y:Operand}{ts:Array TypeId}(hop:o.op=.call { callee:=.value (.func f),args:= #[x,y],argTypes:=ts }){u v:Value}(hx:a.eval x=u)(hy:a.eval y=v)(hn:1 <=n)(hF:∀g,F.fn g)(ef:∀(args:Array Value) (w:World),(callFunc f args).run P w=.ok (.enter f args) w)
   (h:CallsIn F (n-1) P f #[u,v] w λe w'=>∃v,e=.returned v/\wpListIn F n P ops Q rest (a.put o.dst v) w'):wpListIn F n P ops Q (o::rest) a w:=
 J0 hw hop (us:= #[u,v]) (by simp[hx,hy]) hn hF ef h
theorem qo {x y:Code}(h:x.wpIn F n P (Exit.then (y.wpIn F n P Q) Q) a w):(Code.seq x y).wpIn F n P Q a w:=wpIn_seq h
theorem pT {y:Code}{R:Exit->Act->World->Prop}(h:y.wpIn F n P Q a w):wpListIn F n P ops (Exit.then (y.wpIn F n P Q) R) [] a w:=h
theorem IY {x y:Code}(K:Act->World->Prop)(h:x.wpIn F n P (Exit.then K Q) a w)(hK:∀a w,K a w->y.wpIn F n P Q a w):(Code.seq x y).wpIn F n P Q a w:=
 wpIn_seq (Code.wpIn_mono (λe a w q=>by cases e <;> first|exact hK _ _ q|exact q) h)
theorem J2 {K:Act->World->Prop}{R:Exit->Act->World->Prop}(h:K a w):wpListIn F n P ops (Exit.then K R) [] a w:=h
theorem E6 {id:Nat}{ops:Array Oper}(hm:P.follows .mixedOrders=true)(L:List (List Nat))(hL:pG .any ops ops.size (Array.replicate ops.size false)=L)
   (h:∀l∈L,wpListIn F n P ops Q (l.filterMap λi=>ops[i]?) a w.drew):(Code.region id ops true).wpIn F n P Q a w:=
 Ce hm rfl λl hl=>by
   rw[hL]at hl
   obtain⟨x,hx,rfl⟩:=List.mem_map.1 hl
   exact h x hx
end
end Go.Pk
