/- What the laws lean on: SymD, SymP, SymE, SymQ, SymF, UrlB, MatA, Idx, RulA, MapG, SufP, SufB, DfaH, HwP, HosA, HwQ, HwT, HsL, HosD, TplB; what is used. Its conditions: none. -/
import Derived.Test.YthbkoifpgkjadaaGreatDoorKG
import Derived.Lib.SlicesCompact
import Derived.Lib.RowBridge
import Derived.Lib.LastIndexByte
import Derived.Laws.RangeAny
import Derived.WalkMore
import Derived.Lib.OthersKept
import Derived.Shelf.RegionOpenPlain
set_option linter.unusedVariables false
set_option linter.unusedSimpArgs false
set_option linter.unusedSectionVars false
set_option maxRecDepth 100000
open Go.IntKind (i64)
open Go.Proofs.Tryz
namespace Go.Pk
open Go.RowKit (Below)
open Go.Proofs
theorem Sl.texts {w:World}{a:Option Addr}{n c:Nat}{zs:List (List UInt8)}(h:Sl tS w uc a n c zs):Dq w.heap.size w (.slice a n c) zs:=by
 obtain⟨rfl,h2,h3,h4⟩:=h
 rcases h4 with rfl|⟨b,off,rfl,hb,_,l,hl,hc⟩
 · exact .inl ⟨rfl,a,c,rfl⟩
 · refine .inr ⟨b,off,c,rfl,hb,λj hj=>?_⟩
   have he:=fx hl
   rw[hc j (by rw[he];simpa using hj),he]
   simp[hj]
theorem G9 (Bs:Nat)(sv:Value)(zs:List (List UInt8))(hl:zs.length <=1000000)(w:World)(hBs:Bs<w.heap.size)(hc:w.cell? ⟨Bs,0,none⟩=some sv)(hI:Dq w.heap.size w sv zs):
   Cf fF #[.slice none 0 0,.func (.func ca) #[] #[.pointer (some ⟨Bs,0,none⟩)]] w
     (Ret λv w'=>∃a n c,v=.slice a n c/\Ow tS ak w' NoB a n c zs/\bg w.heap.size a/\bW w w'):=by
 refine(callsIn_wide (n:=3)).1 ?_
 have:=G8 Fence.wide 3 trivial trivial rfl (by omega) Bs sv zs (by unfold maxLen;omega) (by omega) w hBs hc hI
 refine this.mono ?_
 rintro e W' ⟨v,rfl,hrow,hb⟩
 obtain⟨a,c,rfl,ho,hf⟩:=Mh (e:=λs=>vS s) (h1:=λ_=>rfl) (p:=λ_=>True) NoB hrow rfl (λ_ _=>trivial)
 exact⟨_,rfl,a,_,c,rfl,ho,hf,hb⟩
theorem LJ (Bs:Nat)(sv:Value)(zs:List (List UInt8))(hl:zs.length <=1000000)(w:World)(hBs:Bs<w.heap.size)(hc:w.cell? ⟨Bs,0,none⟩=some sv)(hI:Dq w.heap.size w sv zs):
   Cf gz #[.func (.func ca) #[] #[.pointer (some ⟨Bs,0,none⟩)]] w
     (Ret λv w'=>∃a n c,v=.slice a n c/\Ow tS ak w' NoB a n c zs/\bg w.heap.size a/\bW w w'):=by
 apply ph
 refine aB (G9 Bs sv zs hl w hBs hc hI) ?_
 rintro _ w1 ⟨a,n,c,rfl,ho,hf,hb⟩
 exact⟨a,n,c,rfl,a,n,c,rfl,ho,hf,hb⟩
abbrev srt (zs:List (List UInt8)):List (List UInt8):=zs.mergeSort λx y=>decide (x <=y)
theorem Ug (a:Option Addr)(n c:Nat)(zs:List (List UInt8))(hl:zs.length <=1000000)(w:World)(ho:Ow tS ak w NoB a n c zs):
   Cf iB #[.slice a n c] w (Ret λv w'=>v=.tuple #[]/\Ow tS ak w' NoB a n c (srt zs)/\w.grownBy w' (dV a)):=by
 have hn:=ho.len
 subst hn
 rcases ho.2.2.2 with⟨rfl,rfl,rfl⟩|⟨g,cur,fr,rfl,_⟩
 · refine(Tryz.slices_Sort_string_none none 0 w).mono ?_
   rintro _ _ ⟨rfl,rfl⟩
   exact⟨_,rfl,rfl,by simpa[srt]using ho,⟨rfl,rfl,rfl,Nat.le_refl _,λ_ _ _=>rfl⟩⟩
 · have hh:=ho.holds
   refine(Tryz.slices_Sort_string g 0 c zs w hh.1 hh.2 (by omega)).mono ?_
   rintro _ _ ⟨rfl,q,os,rfl⟩
   have:=ho.putR (ys:=srt zs) (by simp) (λ_ _=>trivial) q os
   exact⟨_,rfl,rfl,this.1,this.2⟩
theorem O7 (Bs:Nat)(sv:Value)(zs:List (List UInt8))(hl:zs.length <=1000000)(w:World)(hBs:Bs<w.heap.size)(hc:w.cell? ⟨Bs,0,none⟩=some sv)(hI:Dq w.heap.size w sv zs):
   Cf gV #[.func (.func ca) #[] #[.pointer (some ⟨Bs,0,none⟩)]] w
     (Ret λv w'=>∃a n c,v=.slice a n c/\Ow tS ak w' NoB a n c (srt zs)/\bg w.heap.size a/\bW w w'):=by
 apply pU
 refine aB (LJ Bs sv zs hl w hBs hc hI) ?_
 rintro _ w1 ⟨a,n,c,rfl,ho,hf,hb⟩
 refine⟨a,n,c,rfl,?_⟩
 refine aB (Ug a n c zs hl w1 ho) ?_
 rintro _ w2 ⟨rfl,ho2,hg⟩
 exact⟨rfl,a,n,c,rfl,ho2,hf,hb.grown hg hb.size hf⟩
theorem Ps (a:Option Addr)(n c:Nat)(w:World):Cf eC #[.slice a n c] w
   (Ret λv w'=>v=.func (.func ca) #[] #[.pointer (some ⟨w.heap.size,0,none⟩)]/\w'=w.alloc (.cells #[.slice a n c] aw)):=by
 apply kQ
 rintro _ _ rfl rfl
 exact⟨rfl,rfl⟩
theorem LL (a:Option Addr)(n c:Nat)(zs:List (List UInt8))(hl:zs.length <=1000000)(w:World)(ho:Ow tS ak w NoB a n c zs):
   Cf gh #[.slice a n c] w (Ret λv w'=>∃n',v=.slice a n' c/\Ow tS ak w' NoB a n' c (Lib.compact zs)/\w.grownBy w' (dV a)):=by
 have hn:=ho.len
 subst hn
 rcases ho.2.2.2 with⟨rfl,rfl,rfl⟩|⟨g,cur,fr,rfl,_⟩
 · refine(Tryz.slices_Compact_string_empty none 0 w).mono ?_
   rintro _ _ ⟨rfl,rfl⟩
   exact⟨_,rfl,_,rfl,ho,⟨rfl,rfl,rfl,Nat.le_refl _,λ_ _ _=>rfl⟩⟩
 · have hh:=ho.holds
   refine(Tryz.slices_Compact_string g 0 c zs w hh.1 (by omega) ho.2.1).mono ?_
   rintro _ _ ⟨rfl,q,rfl⟩
   have hle:=Lib.compact_length_le zs
   have:=ho.put0 (ys:=Lib.compact zs++List.replicate (zs.length-(Lib.compact zs).length) []) (by simp;omega) (λ_ _=>trivial) q
   exact⟨_,rfl,_,rfl,this.1.trunc rfl,this.2⟩
abbrev Txt:=List UInt8
def xS (l:List Txt):List Txt:=Lib.compact (l.mergeSort λx y=>decide (x <=y))
theorem C5 {a b:Txt}(h:a <=b)(hne:a≠b):a<b:=by
 have:=List.le_iff_lt_or_eq.1 h
 exact this.resolve_right hne
theorem VM (l:List Txt):(l.mergeSort λx y=>decide (x <=y)).Pairwise (· <= ·):=by
 have h:=List.pairwise_mergeSort (le:=fun(x y:Txt)=>decide (x <=y)) (λa b c h1 h2=>by simp only[dTx]at*;exact List.le_trans h1 h2)
   (λa b=>by simp only[Bool.or_eq_true,dTx];exact List.le_total a b) l
 exact h.imp λh=>by simpa using h
theorem RL (d:List Txt)(hs:d.Pairwise (· <= ·)):∀m,m <=d.length->(Lib.compactUpTo d.toArray m).Pairwise (· < ·)/\(∀x,x∈Lib.compactUpTo d.toArray m ↔ x∈d.take m):=by
 intro m
 induction m with
 | zero=>intro _;simp[Lib.compactUpTo]
 | succ m ih=>
   intro hm
   obtain⟨h1,h2⟩:=ih (by omega)
   have hlt:m<d.length:=by omega
   have hd:d.toArray[m]! =d[m]:=by simp[hlt]
   rw[Lib.compactUpTo_succ,List.take_succ_eq_append_getElem hlt,hd]
   by_cases hk:Lib.keeps d.toArray m=true
   · rw[if_pos hk]
     refine⟨List.pairwise_append.2 ⟨h1,by simp,?_⟩,λx=>by rw[List.mem_append,h2,List.mem_append]⟩
     intro x hx y hy
     have hy':y=d[m]:=by simpa using hy
     subst hy'
     have hx':=(h2 x).1 hx
     obtain⟨i,hi,rfl⟩:=List.getElem_of_mem hx'
     rw[List.length_take]at hi
     rw[List.getElem_take]
     have hm0:m≠0:=by omega
     simp only[Lib.keeps,dTx]at hk
     have hne:=hk.resolve_left hm0
     have hd1:d.toArray[m-1]! =d[m-1]:=by simp[show m-1<d.length by omega]
     rw[hd,hd1]at hne
     have hle1:d[m-1] <=d[m]:=List.pairwise_iff_getElem.1 hs (m-1) m (by omega) hlt (by omega)
     have hlt1:=C5 hle1 (λe=>hne e.symm)
     by_cases hi1:i=m-1
     · subst hi1;exact hlt1
     · have hle0:d[i] <=d[m-1]:=List.pairwise_iff_getElem.1 hs i (m-1) (by omega) (by omega) (by omega)
       exact List.lt_of_le_of_lt hle0 hlt1
   · rw[if_neg hk]
     refine⟨by simpa using h1,λx=>?_⟩
     rw[List.append_nil,h2,List.mem_append]
     refine⟨.inl,λh=>h.elim id λh=>?_⟩
     have hx:x=d[m]:=by simpa using h
     subst hx
     simp only[Lib.keeps,dTx,not_or,Classical.not_not]at hk
     obtain⟨hm0,he⟩:=hk
     have hd1:d.toArray[m-1]! =d[m-1]:=by simp[show m-1<d.length by omega]
     rw[hd,hd1]at he
     rw[he]
     exact List.mem_take_iff_getElem.2 ⟨m-1,by omega,rfl⟩
theorem O0 (l:List Txt):(xS l).Pairwise (· < ·):=(RL _ (VM l) _ (Nat.le_refl _)).1
theorem AW (l:List Txt):(xS l).length <=l.length:=by
 have:=Lib.compact_length_le (l.mergeSort λx y=>decide (x <=y))
 rw[List.length_mergeSort]at this
 exact this
def I2 (ts:List Txt):List (Txt×Int):=ts.zipIdx.map λp=>(p.1,((p.2:Nat):Int))
theorem HQ (ts:List Txt)(x:Txt):I2 (ts++[x])=I2 ts++[(x,(ts.length:Int))]:=by
 unfold I2
 rw[List.zipIdx_append]
 simp
theorem sA (k:Txt):∀(l m:List (Txt×Int)),sz k (l++m)=(sz k l).orElse λ_=>sz k m
 | [],m=>by simp[sz]
 | (k',v)::l,m=>by
   simp only[List.cons_append,sz]
   split
   · rfl
   · exact sA k l m
theorem EI {k:Txt} :∀{ts:List Txt},k ∉ ts->∀(l:List (Txt×Int)),l.map (·.1)=ts->sz k l=none
 | _,h,[],e=>rfl
 | [],h,(k',v)::l,e=>by simp at e
 | t::ts,h,(k',v)::l,e=>by
   simp only[List.map_cons,List.cons.injEq]at e
   obtain⟨rfl,e⟩:=e
   simp only[List.mem_cons,not_or]at h
   unfold sz
   rw[if_neg h.1]
   exact EI h.2 l e
theorem Og (ts:List Txt):(I2 ts).map (·.1)=ts:=by
 unfold I2
 rw[List.map_map]
 exact List.zipIdx_map_fst 0 ts
theorem np {ts:List Txt}{k:Txt}(h:k ∉ ts):sz k (I2 ts)=none:=EI h _ (Og ts)
theorem It {α:Type}{l:List α}{k:Nat}(h:k<l.length):l.take (k+1)=l.take k++[l[k]]:=List.take_succ_eq_append_getElem h
def ky (w:World)(p:Option Addr)(ts:List Txt):Prop:=
 ∃b a n c m cs fr,p=some ⟨b,0,none⟩/\w.heap[b]? =some (.cells cs eW fr)/\cs= #[.slice a n c,.map (some m)]/\Sl tS w uc a n c ts/\rD w m (I2 ts)/\ts.Pairwise (· < ·)
theorem ky.below {w w':World}{p:Option Addr}{ts:List Txt}(h:ky w p ts)(hb:bW w w'):ky w' p ts:=by
 obtain⟨b,a,n,c,m,cs,fr,e1,e2,e3,e4,e5,e6⟩:=h
 exact⟨b,a,n,c,m,cs,fr,e1,(hb.block b (Array.getElem?_eq_some_iff.1 e2).1).trans e2,e3,e4.below hb,e5.below hb,e6⟩
def Kj (B:Nat)(w:World)(p:Option Addr)(ts:List Txt):Prop:=
 ∃b a n c m cs fr,p=some ⟨b,0,none⟩/\w.heap[b]? =some (.cells cs eW fr)/\cs= #[.slice a n c,.map (some m)]/\Sl tS w (λg=>B <=g) a n c ts/\rD w m (I2 ts)/\ts.Pairwise (· < ·)/\B <=b/\B <=m
theorem Ed (a:Option Addr)(n c:Nat)(l:List Txt)(hl:l.length <=1000000)(w:World)(hs:Sl tS w uc a n c l):
   Cf so #[.slice a n c] w (Ret λv w'=>∃p,v=.pointer p/\Kj w.heap.size w' p (xS l)/\bW w w'):=by
 apply Ec
 refine aB (Ps a n c w) ?_
 rintro _ _ ⟨rfl,rfl⟩
 refine⟨_,rfl,?_⟩
 have hB0:bW w (w.alloc (.cells #[.slice a n c] aw)):=ah _ _
 have hs0:=hs.below hB0
 have hc0:(w.alloc (.cells #[.slice a n c] aw)).cell? ⟨w.heap.size,0,none⟩=some (.slice a n c):=by
   rw[hO (heap_alloc_new w _)];rfl
 refine aB (O7 w.heap.size (.slice a n c) l hl _ (by simp) hc0 (Sl.texts hs0)) ?_
 rintro _ w1 ⟨a1,n1,c1,rfl,ho1,hf1,hb1⟩
 have hB1:=ab hB0 hb1 hB0.size
 refine⟨a1,n1,c1,rfl,?_⟩
 refine aB (LL a1 n1 c1 _ (by simpa[srt]using hl) w1 ho1) ?_
 rintro _ w2 ⟨n2,rfl,ho2,hg2⟩
 have hB2:bW w w2:=hB1.grown hg2 hB1.size (hf1.mono hB0.size)
 refine⟨a1,n2,c1,rfl,?_⟩
 have ho2:Ow tS ak w2 NoB a1 n2 c1 (xS l):=ho2
 intro k3 w3 hk3 hw3
 intro k4 w4 hk4 hw4
 have hB3:bW w2 w3:=hw3▸ah _ _
 have hB4:bW w3 w4:=hw4▸ah _ _
 have hs3:w3.heap.size=w2.heap.size+1:=by rw[hw3];simp
 have hs4:w4.heap.size=w3.heap.size+1:=by rw[hw4];simp
 have hBB:bW w2 w4:=ab hB3 hB4 hB3.size
 have hm3:rD w3 k3 []:=rD.new hk3 hw3
 have hm4:rD w4 k3 []:=hm3.below hB4
 have hh4:w4.heap[k4]? =some (.cells #[.slice a1 n2 c1,.map (some k3)] eW (0,0)):=by
   rw[hw4,hk4];exact heap_alloc_new w3 _
 have ho4:=ho2.below hBB
 have hn:=ho4.len
 have hlen:=AW l
 have hlt1:=ho2.lt
 refine⟨rfl,rfl,a1,n2,c1,?_,?_⟩
 · exact gE bG rfl (by rw[hO hh4];rfl)
 refine⟨λm i w'=>∃n:Nat,n <=(xS l).length/\i=(n:Int)/\m=(xS l).length-n/\rD w' k3 (I2 ((xS l).take n))/\w4.grownBy w' (some k3),
   ⟨_,0,by omega,rfl,rfl,by simpa[I2]using hm4,⟨rfl,rfl,rfl,Nat.le_refl _,λ_ _ _=>rfl⟩⟩,?_⟩
 intro m i
 refine aN.of ?_ _
 rintro w' ⟨j,hj,rfl,rfl,hm,hg⟩
 have hk34:k4≠k3:=by omega
 have hh':w'.heap[k4]? =some (.cells #[.slice a1 n2 c1,.map (some k3)] eW (0,0)):=by
   rw[hg.block k4 (by omega) (λe=>hk34 (Option.some.inj e))];exact hh4
 have ho':Ow tS ak w' NoB a1 n2 c1 (xS l):=ho4.keep (fQ hg λb hb e=>by
   rcases hb with hb|hb
   · exact hb
   · have:=hlt1 b hb.symm
     simp at e;omega)
 refine ae.of (λh=>?_) (λh=>?_) <;> simp at h
 · have hsl:=ho'.all
   have hj':j<(xS l).length:=by omega
   refine⟨⟨⟨by omega,by omega⟩,hsl.isSome hj'⟩,?_⟩
   obtain⟨v,hv,hrep⟩:=hsl.load1 (i:=(j:Int)) aF rfl rfl (by simpa using hj')
   obtain⟨rfl,-⟩:=CU hrep
   simp only[Int.toNat_natCast]at hv
   refine⟨_,hv,rfl,rfl,some k3,?_,?_⟩
   · exact gE iL rfl (by rw[hO hh'];rfl)
   have hno:sz (xS l)[j] (I2 ((xS l).take j))=none:=np λhmem=>by
     obtain⟨i,hi,e⟩:=List.getElem_of_mem hmem
     rw[List.length_take]at hi
     rw[List.getElem_take]at e
     have:=List.pairwise_iff_getElem.1 (O0 l) i j (by omega) hj' (by omega)
     rw[e]at this
     exact List.lt_irrefl _ this
   obtain⟨w5,hr,hm5,hg5⟩:=F2 (P:=prog) iL aF hm hno (j:Int)
   refine⟨w5,hr,_,?_,j+1,by omega,?_,rfl,?_,?_⟩
   · omega
   · rw[wrap_i64 (by omega) (by omega)];omega
   · rw[It hj',HQ,List.length_take,Nat.min_eq_left (by omega)];exact hm5
   · exact⟨hg5.os.trans hg.os,hg5.tape.trans hg.tape,hg5.output.trans hg.output,Nat.le_trans hg.size hg5.size,λk hk hne=>(hg5.block k (Nat.lt_of_lt_of_le hk hg.size) hne).trans (hg.block k hk hne)⟩
 · have:j=(xS l).length:=by omega
   subst this
   rw[List.take_length]at hm
   have h20:=hB2.size
   refine⟨_,rfl,⟨k4,a1,n2,c1,k3,_,_,rfl,hh',rfl,ho'.sl (λ_ _ h=>h.elim) (λg hg=>hf1.mono hB0.size g hg),hm,O0 l,by omega,by omega⟩,?_⟩
   refine(ab hB2 hBB hB2.size).grown hg (by have:=hB2.size;omega) λk e=>?_
   cases e
   rw[hk3];exact hB2.size
theorem H6 {α:Type}[DecidableEq α]:∀{l m:List α},l.Nodup->(∀x∈l,x∈m)->l.length <=m.length
 | [],m,_,_=>Nat.zero_le _
 | x::l,m,h,hs=>by
   have hx:=hs x List.mem_cons_self
   have h':=List.nodup_cons.1 h
   have:=H6 (l:=l) (m:=m.erase x) h'.2 λy hy=>(List.mem_erase_of_ne (λe=>h'.1 (by rw[<- e];exact hy))).2 (hs y (List.mem_cons_of_mem _ hy))
   rw[List.length_erase_of_mem hx]at this
   have:=List.length_pos_of_mem hx
   simp;omega
def KY:Txt:=[97,98,99,100,101,102,103,104,105,106,107,108,109,110,111,112,113,114,115,116,117,118,119,120,121,122,48,49,50,51,52,53,54,55,56,57,45,95]
def letter (i:Nat):UInt8:=KY[i]?.getD 0
def R9 (n:Nat):Txt:=if h:n=0 then[]else letter ((n-1)%38)::R9 ((n-1)/38)
termination_by n
decreasing_by omega
theorem NN:R9 0=[]:=by rw[R9];rfl
theorem Qw {n:Nat}(h:n≠0):R9 n=letter ((n-1)%38)::R9 ((n-1)/38):=by rw[R9,dif_neg h]
def DJ (n:Nat):Txt:=(R9 n).reverse
def KX (c:UInt8):Nat:=KY.findIdx (· ==c)
def Xj:Txt->Nat
 | []=>0
 | c::t=>KX c+1+38*Xj t
theorem Cj:∀i,i<38->KX (letter i)=i:=by decide
theorem IQ (n:Nat):Xj (R9 n)=n:=by
 induction n using Nat.strongRecOn with
 | _ n ih=>
   by_cases h:n=0
   · subst h;rw[NN];rfl
   · rw[Qw h,Xj,ih _ (by omega),Cj _ (by omega)];omega
theorem OH {a b:Nat}(h:DJ a=DJ b):a=b:=by
 have:=congrArg List.reverse h
 simp only[DJ,List.reverse_reverse]at this
 rw[<- IQ a,this,IQ]
def MT (l:List Txt)(n:Nat):Prop:=1 <=n/\DJ n ∉ l/\∀k,1 <=k->k<n->DJ k∈l
theorem QG {l:List Txt}{n:Nat}(h:∀k,1 <=k->k<n->DJ k∈l):n <=l.length+1:=by
 have:=H6 (l:=(List.range' 1 (n-1)).map DJ) (m:=l) (by
   refine List.pairwise_map.2 ((List.nodup_range' (s:=1) (n:=n-1)).imp fun{a b} hab e=>hab (OH e))) (by
   intro x hx
   obtain⟨k,hk,rfl⟩:=List.mem_map.1 hx
   rw[List.mem_range'_1]at hk
   exact h k (by omega) (by omega))
 simp at this;omega
theorem QF (l:List Txt):∃n,MT l n:=by
 have key:∀m,(∀k,1 <=k->k <=m->DJ k∈l)\/∃n,MT l n:=by
   intro m
   induction m with
   | zero=>exact .inl λk h1 h2=>by omega
   | succ m ih=>
     rcases ih with ih|ih
     · by_cases h:DJ (m+1)∈l
       · refine .inl λk h1 h2=>?_
         by_cases hk:k=m+1
         · rw[hk];exact h
         · exact ih k h1 (by omega)
       · exact .inr ⟨m+1,by omega,h,λk h1 h2=>ih k h1 (by omega)⟩
     · exact .inr ih
 rcases key (l.length+1)with h|h
 · have:=QG (n:=l.length+2) λk h1 h2=>h k h1 (by omega)
   omega
 · exact h
noncomputable def Tk (l:List Txt):Nat:=Classical.choose (QF l)
noncomputable def Vg (l:List Txt):Txt:=DJ (Tk l)
def ofT (ts:List Txt)(s:Txt):Int:=if s∈ts then((ts.countP λx=>decide (x<s):Nat):Int)else(ts.length:Int)
theorem wg:∀{ts:List Txt},ts.Pairwise (· < ·)->∀(i:Nat) (h:i<ts.length),(ts.countP λx=>decide (x<ts[i]))=i
 | t::ts,hp,i,h=>by
   have hp':=List.pairwise_cons.1 hp
   cases i with
   | zero=>
     rw[List.countP_eq_zero]
     intro x hx
     simp only[dTx,List.getElem_cons_zero]
     intro hlt
     rcases List.mem_cons.1 hx with rfl|hx
     · exact List.lt_irrefl _ hlt
     · exact List.lt_irrefl _ (List.lt_trans hlt (hp'.1 x hx))
   | succ i=>
     have hi:i<ts.length:=by simpa using h
     simp only[List.getElem_cons_succ]
     rw[List.countP_cons,wg hp'.2 i hi,if_pos]
     simp only[dTx];exact hp'.1 _ (List.getElem_mem hi)
theorem TV {ts:List Txt}(hp:ts.Pairwise (· < ·)){i:Nat}(h:i<ts.length):ofT ts ts[i]=(i:Int):=by
 unfold ofT;rw[if_pos (List.getElem_mem h),wg hp i h]
noncomputable def Xg (ts:List Txt)(i:Int):Txt:=if i=(ts.length:Int)then Vg ts else if 0 <=i/\i<(ts.length:Int)then ts[i.toNat]?.getD []else[]
theorem Me {ts:List Txt}(hp:ts.Pairwise (· < ·))(s:Txt):sz s (I2 ts)=if s∈ts then some (ofT ts s)else none:=by
 by_cases h:s∈ts
 · rw[if_pos h]
   obtain⟨i,hi,rfl⟩:=List.getElem_of_mem h
   rw[TV hp hi]
   have e:ts=ts.take i++[ts[i]]++ts.drop (i+1):=by
     rw[<- It hi,List.take_append_drop]
   have hno:ts[i] ∉ ts.take i:=λhmem=>by
     obtain⟨j,hj,e⟩:=List.getElem_of_mem hmem
     rw[List.length_take]at hj
     rw[List.getElem_take]at e
     have:=List.pairwise_iff_getElem.1 hp j i (by omega) hi (by omega)
     rw[e]at this
     exact List.lt_irrefl _ this
   have e2:I2 ts=I2 (ts.take i++[ts[i]])++((ts.drop (i+1)).zipIdx (i+1)).map λp=>(p.1,((p.2:Nat):Int)):=by
     conv=>lhs;rw[e]
     unfold I2
     rw[List.zipIdx_append,List.map_append]
     congr 2
     simp;congr 1;omega
   rw[e2,sA,HQ,sA,np hno]
   simp[sz];omega
 · rw[if_neg h];exact np h
theorem ky.pw {w:World}{p:Option Addr}{ts:List Txt}(h:ky w p ts):ts.Pairwise (· < ·):=by
 obtain⟨b,a,n,c,m,cs,fr,_,_,_,_,_,h⟩:=h;exact h
theorem ky.some {w:World}{p:Option Addr}{ts:List Txt}(h:ky w p ts):Option.isSome p=true:=by
 obtain⟨b,a,n,c,m,cs,fr,rfl,_⟩:=h;rfl
theorem ky.load0 {w:World}{p:Option Addr}{ts:List Txt}(h:ky w p ts):∃a n c,(Instr.loadAt aw (.pointer (Option.map (λx=>x.add 0) p))).run prog w=.ok (.slice a n c) w/\Sl tS w uc a n c ts:=by
 obtain⟨b,a,n,c,m,cs,fr,rfl,h2,rfl,h4,_⟩:=h
 refine⟨a,n,c,?_,h4⟩
 show(Instr.loadAt aw (.pointer (Option.some ((⟨b,0,none⟩:Addr).add 0)))).run prog w=_
 rw[gw]
 exact gE bG rfl (by rw[hO h2];rfl)
theorem ky.load1 {w:World}{p:Option Addr}{ts:List Txt}(h:ky w p ts):∃m,(Instr.loadAt eo (.pointer (Option.map (λx=>x.add 1) p))).run prog w=.ok (.map (Option.some m)) w/\rD w m (I2 ts)/\p.isSome=true:=by
 obtain⟨b,a,n,c,m,cs,fr,rfl,h2,rfl,h4,h5,_⟩:=h
 refine⟨m,?_,h5,rfl⟩
 show(Instr.loadAt eo (.pointer (Option.some ((⟨b,0,none⟩:Addr).add 1)))).run prog w=_
 rw[gw]
 exact gE iL rfl (by rw[hO h2];rfl)
theorem dR (p:Option Addr)(ts:List Txt)(hl:ts.length <=1000000)(w:World)(h:ky w p ts):
   Cf bh #[.pointer p] w (Ret λv w'=>v=vI ((ts.length:Int)+1)/\w'=w):=by
 apply qT
 obtain⟨a,n,c,hr,hs⟩:=h.load0
 have hn:=hs.len
 refine⟨h.some,h.some,a,n,c,hr,?_,rfl⟩
 rw[wrap_i64 (by omega) (by omega),hn]
theorem Ir (p:Option Addr)(ts:List Txt)(s:Txt)(w:World)(h:ky w p ts):
   Cf lZ #[.pointer p,vS s] w (Ret λv w'=>v=vI (ofT ts s)/\w'=w):=by
 apply rN
 obtain⟨m,hr1,hm,hp⟩:=h.load1
 refine⟨hp,hp,Option.some m,hr1,_,_,Ot (z:=vI 0) iL aF fV hm s,?_⟩
 rw[Me h.pw]
 refine ae.of (λhc=>?_) (λhc=>?_)
 · by_cases hs:s∈ts
   · rw[if_pos hs];exact⟨rfl,rfl⟩
   · rw[if_neg hs]at hc;simp at hc
 · by_cases hs:s∈ts
   · rw[if_pos hs]at hc;simp at hc
   · obtain⟨a,n,c,hr,hsl⟩:=h.load0
     have hn:=hsl.len
     refine⟨hp,hp,a,n,c,hr,?_,rfl⟩
     rw[hn];unfold ofT;rw[if_neg hs]
def XI (x:Url×Int):Value:=.tuple #[x.1.v,vI x.2]
theorem Xr {s p:List UInt8}(h:eH s=p):s.length=p.length:=by rw[<- h];simp[eH]
def Jf (s:List UInt8)(w:World)(v:Value)(w':World):Prop:=v=XI (I9 s)/\bW w w'
def UO (h d:Hst):Bool:=eQ h&&(eQ d&&(pK h d || om h d))
theorem zh {h:Hst}(hl:(aO h).length≠0):eQ h=true:=by
 unfold aO at hl
 split at hl
 · rename_i c;exact c.2
 · exact absurd rfl hl
theorem Qx {h d:Hst}(oh:h.ok)(od:d.ok):((pK h d&&eQ h) || om h d)=UO h d:=by
 unfold UO
 by_cases hu:om h d=true
 · have hd0: ¬ ((aO d).length=0\/(aO h).length <=(aO d).length):=λhc=>by unfold om at hu;rw[if_pos hc]at hu;cases hu
   rw[hu,zh (h:=h) (by omega),zh (h:=d) (by omega)];simp
 · have hu':om h d=false:=by simpa using hu
   rw[hu',Bool.or_false,Bool.or_false]
   by_cases he:pK h d=true
   · have:=(wH oh od).1 he
     subst this
     rw[he];cases eQ h <;> rfl
   · have he':pK h d=false:=by simpa using he
     rw[he'];cases eQ h <;> cases eQ d <;> rfl
def Ci (s:List UInt8):Nat->Nat
 | 0=>0
 | k+1=>if s[k]? =some 47 then k else Ci s k
theorem KU (s:List UInt8):∀k,Ci s k <=k
 | 0=>Nat.le_refl _
 | k+1=>by
   have:=KU s k
   unfold Ci;split <;> omega
def Qu (s:List UInt8):List UInt8:=if Ci s s.length=0\/s.head?≠some 47 then[47]else s.take (Ci s s.length)
theorem Oo (s:List UInt8):∀k,k <=s.length->(0<Lib.lastIdx (mkS s) 47 k ↔ Ci s k≠0)/\(0<Lib.lastIdx (mkS s) 47 k->Lib.lastIdx (mkS s) 47 k=(Ci s k:Nat))
 | 0,_=>⟨by simp[Lib.lastIdx,Ci],by simp[Lib.lastIdx]⟩
 | k+1,h=>by
   have e:(mkS s).data[k]! =s[k]'(by omega):=by
     have:(mkS s).data=s.toArray:=rfl
     rw[this,getElem!_pos s.toArray k (by simp;omega)];simp
   have ih:=Oo s k (by omega)
   unfold Lib.lastIdx Ci
   rw[e,List.getElem?_eq_getElem (by omega)]
   by_cases c:s[k]'(by omega)=47
   · rw[if_pos (by rw[c];rfl),if_pos (by rw[c])]
     exact⟨by omega,λ_=>rfl⟩
   · rw[if_neg (λhx=>c (UInt8.toNat_inj.1 (by rw[show(UInt8.toNat 47)=47 from rfl];omega))),if_neg (λhx=>c (Option.some.inj hx))]
     exact ih
structure Cky where
 name:List UInt8
 value:List UInt8
 host:Hst
 only:Bool
 path:List UInt8
 sec:Bool
 http:Bool
 same:Int
 exp:Int
 born:Int
 used:Int
 seq:Int
def Cky.tail (c:Cky):List Value:=[.bool c.only,vS c.path,.bool c.sec,.bool c.http,vI c.same,vI c.exp,vI c.born,vI c.used,vI c.seq]
def Cky.cells (c:Cky):List Value:=vS c.name::vS c.value::(c.host.cells++c.tail)
def Cky.v (c:Cky):Value:=.agg c.cells.toArray
def PE:Cky:=⟨[],[],nJ,false,[],false,false,0,0,0,0,0⟩
def Cky.ok (c:Cky):Prop:=c.host.ok
theorem Cky.len {c:Cky}(o:c.ok):c.cells.length=29:=by unfold Cky.cells;rw[List.length_cons,List.length_cons,List.length_append,Hst.len o];rfl
theorem Cky.one (c:Cky):vX c.cells:=aJ rfl (aJ rfl (sD (Hst.one _) (aJ rfl (aJ rfl (aJ rfl (aJ rfl (aJ rfl (aJ rfl (aJ rfl (aJ rfl (aJ rfl gX)))))))))))
theorem Qi {c:Cky}(o:c.ok){j:Nat}(h:j<18):c.cells[2+j]? =c.host.cells[j]? :=by
 unfold Cky.cells
 rw[show 2+j=j+1+1 by omega,List.getElem?_cons_succ,List.getElem?_cons_succ,List.getElem?_append_left (by rw[Hst.len o];exact h)]
theorem tO {c:Cky}(o:c.ok)(j:Nat):c.cells[20+j]? =c.tail[j]? :=by
 unfold Cky.cells
 rw[show 20+j=(18+j)+1+1 by omega,List.getElem?_cons_succ,List.getElem?_cons_succ,List.getElem?_append_right (by rw[Hst.len o];omega),Hst.len o]
 congr 1;omega
structure Req where
 sec:Bool
 host:Hst
 path:List UInt8
 cross:Int
def Req.tail (r:Req):List Value:=[vS r.path,vI r.cross]
def Req.cells (r:Req):List Value:=.bool r.sec::(r.host.cells++r.tail)
def Req.v (r:Req):Value:=.agg r.cells.toArray
def Req.ok (r:Req):Prop:=r.host.ok
theorem Req.len {r:Req}(o:r.ok):r.cells.length=21:=by unfold Req.cells;rw[List.length_cons,List.length_append,Hst.len o];rfl
theorem Req.one (r:Req):vX r.cells:=aJ rfl (sD (Hst.one _) (aJ rfl (aJ rfl gX)))
theorem Lb {r:Req}(o:r.ok){j:Nat}(h:j<18):r.cells[1+j]? =r.host.cells[j]? :=by
 unfold Req.cells
 rw[Nat.add_comm,List.getElem?_cons_succ,List.getElem?_append_left (by rw[Hst.len o];exact h)]
theorem AR {r:Req}(o:r.ok)(j:Nat):r.cells[19+j]? =r.tail[j]? :=by
 unfold Req.cells
 rw[show 19+j=(18+j)+1 by omega,List.getElem?_cons_succ,List.getElem?_append_right (by rw[Hst.len o];omega),Hst.len o]
 congr 1;omega
theorem Cp {h d:Hst}(oh:h.ok)(od:d.ok)(hn:h.name.length <=1000000000)(dn:d.name.length <=1000000000)(w:World)(he:Env w):Cf oQ #[h.v,d.v] w (Ret λv w'=>v=.bool (UO h d)/\bW w w'):=by
 rw[<- Qx oh od]
 apply Am
 intro k2 w2 hk2 hw2
 have hB2:=(hw2▸ah w _:bW w w2)
 have h2:ai w2 k2 af h.cells:=ai.new hk2 hw2
 intro k3 w3 hk3 hw3
 have hb3:=(hw3▸ah w2 _:bW w2 w3)
 have hB3:=ab hB2 hb3 hB2.size
 have h3:ai w3 k3 af d.cells:=ai.new hk3 hw3
 have h23:=h2.below hb3
 have und:∀wx,bW w3 wx->∃v13:Value,(Instr.loadAt af (.pointer (some ⟨k2,0,none⟩))).run prog wx=.ok v13 wx/\∃v14:Value,(Instr.loadAt af (.pointer (some ⟨k3,0,none⟩))).run prog wx=.ok v14 wx/\
     Cf js #[v13,v14] wx λe15 w15=>∃(b15:Bool),e15=.returned (.bool b15)/\((.bool b15:Value)=.bool (om h d)/\bW w w15):=λwx hbx=>by
   refine⟨_,bc.load0 (h23.below hbx) (Hst.len oh),_,bc.load0 (h3.below hbx) (Hst.len od),?_⟩
   have hBx:=ab hB3 hbx hB3.size
   refine aB (wG oh od hn dn wx (he.step hBx)) ?_
   rintro _ w4 ⟨rfl,hb4⟩
   exact⟨_,rfl,rfl,ab hBx hb4 hBx.size⟩
 refine⟨_,bc.load0 h23 (Hst.len oh),_,bc.load0 h3 (Hst.len od),_,KO oh od w3,?_⟩
 refine ae.of (λc1=>?_) (λc1=>?_)
 · refine⟨_,bc.load0 h23 (Hst.len oh),?_⟩
   refine aB (jV oh hn w3 (he.step hB3)) ?_
   rintro _ w4 ⟨rfl,hb4⟩
   refine⟨_,rfl,ae.of (λc2=>⟨by rw[c1,c2];rfl,ab hB3 hb4 hB3.size⟩) (λc2=>?_)⟩
   rw[c1,c2]
   exact und w4 hb4
 · rw[c1]
   exact und w3 (Below.refl _ _)
theorem zY (s:List UInt8)(hs:s.length<4611686018427387904)(w:World):Cf mP #[vS s] w (Ret λv w'=>v=vS (Qu s)/\w'=w):=by
 apply yw
 refine(Tryz.strings_LastIndexByte (mkS s) 47 (show s.toArray.size<_ by simpa using hs) w).mono ?_
 rintro _ w' ⟨rfl,hw⟩
 rw[hw];clear hw
 refine⟨_,rfl,?_⟩
 have hK:=Oo s s.length (Nat.le_refl _)
 have e:Lib.lastIndexByte (mkS s) 47=Lib.lastIdx (mkS s) 47 s.length:=by unfold Lib.lastIndexByte;rw[show(mkS s).size=s.length from by show s.toArray.size=_;simp]
 rw[e]
 generalize Lib.lastIdx (mkS s) 47 s.length=n at*
 have hle:=KU s s.length
 refine nK (w:=w) (decide (¬ (Ci s s.length=0\/s.head?≠some 47))) ?_ ?_
 · refine ae.of (λh=>?_) (λh=>⟨rfl,?_⟩) <;> simp only[gt_iff_lt,dTx,dFx]at h
   · have h0:=hK.1.1 h
     have hl:0<s.length:=by omega
     have hb:=byte_at (s:=s) (k:=0) hl
     rw[show((0:Nat):Int)=0 from rfl]at hb
     have hu:=GK s[0] 47
     rw[show(((47:UInt8).toNat:Nat):Int)=47 from rfl]at hu
     refine⟨⟨by decide,by omega⟩,rfl,?_⟩
     rw[hb,hu,List.head?_eq_getElem?,List.getElem?_eq_getElem hl,Bool.eq_iff_iff]
     simp[h0]
   · have h0:Ci s s.length=0:=Decidable.byContradiction λhc=>h (hK.1.2 hc)
     rw[eq_comm,dFx]
     exact λhc=>hc (.inl h0)
 · refine ae.of (λh=>?_) (λh=>⟨?_,rfl⟩)
   · have h:=of_decide_eq_true h
     have hn:=hK.2 (hK.1.2 λhc=>h (.inl hc))
     subst hn
     refine⟨⟨by omega,by omega⟩,?_⟩
     rintro _ rfl
     exact⟨by unfold Qu;rw[if_neg h];rfl,rfl⟩
   · have h:=of_decide_eq_false h
     unfold Qu;rw[if_pos (Decidable.not_not.1 h)]
theorem xM:Whl prog br 29:=⟨⟨_,_,GG⟩,by kernel_rfl⟩
theorem yT:Whl prog cv 21:=⟨⟨_,_,Eg⟩,by kernel_rfl⟩
section
open Go.Shelf Go.RowKit Go.Lib Go.Pk
variable {P:Program} {ρ:Ren}
def Asc (cs:ByteArray):Prop:=∀(j:Nat) b,cs.data.toList[j]? =some b->b.toNat<128
theorem Tf {r:Int}(h0:128 <=r)(hv:Lib.validRune r=true):∃(rs:ByteArray) (x:UInt8),Utf8.encode r=rs/\2 <=rs.size/\rs.size <=4/\rs.data.toList[rs.size-1]? =some x/\128 <=x.toNat:=by
 have hu:Utf8.valid r=true:=by
   unfold Lib.validRune at hv;unfold Utf8.valid
   simp at hv ⊢;omega
 have e:Utf8.encode r=if r.toNat<0x80 then⟨#[UInt8.ofNat r.toNat]⟩ else if r.toNat<0x800 then⟨#[UInt8.ofNat (0xC0+r.toNat/64),UInt8.ofNat (0x80+r.toNat%64)]⟩
     else if r.toNat<0x10000 then⟨#[UInt8.ofNat (0xE0+r.toNat/4096),UInt8.ofNat (0x80+r.toNat/64%64),UInt8.ofNat (0x80+r.toNat%64)]⟩
     else⟨#[UInt8.ofNat (0xF0+r.toNat/262144),UInt8.ofNat (0x80+r.toNat/4096%64),UInt8.ofNat (0x80+r.toNat/64%64),UInt8.ofNat (0x80+r.toNat%64)]⟩:=by
   unfold Utf8.encode;rw[hu];rfl
 rw[if_neg (by omega)]at e
 have hx:128 <=(UInt8.ofNat (0x80+r.toNat%64)).toNat:=by rw[UInt8.toNat_ofNat'];omega
 by_cases c1:r.toNat<0x800
 · rw[if_pos c1]at e
   exact⟨_,_,e,(show 2 <=2 by decide),(show 2 <=4 by decide),rfl,hx⟩
 rw[if_neg c1]at e
 by_cases c2:r.toNat<0x10000
 · rw[if_pos c2]at e
   exact⟨_,_,e,(show 2 <=3 by decide),(show 3 <=4 by decide),rfl,hx⟩
 · rw[if_neg c2]at e
   exact⟨_,_,e,(show 2 <=4 by decide),(show 4 <=4 by decide),rfl,hx⟩
theorem Oe {t:TypeId}(ht:P.underlying t=some .string)(s:ByteArray)(i:Int)(x:UInt8)(h0:0 <=i)(hx:s.data.toList[i.toNat]? =some x)(w:World):
   (Instr.index t (.string s) (vI i)).run P w=.ok (.int .u8 (x.toNat:Nat)) w:=by
 have hl:i.toNat<s.size:=by
   have:=(List.getElem?_eq_some_iff.1 hx).1
   rwa [<- Lib.size_eq]at this
 rw[run_index_string _ _ _ _ _ ht,dif_pos ⟨h0,by omega⟩]
 have:=Lib.data_getElem? s i.toNat hl
 rw[hx]at this
 rw[<- Option.some.inj this]
set_option maxHeartbeats 4000000 in
set_option maxRecDepth 1000000 in
theorem FW (L:Lays.n152 P ρ)(cs:ByteArray)(r:Int)(w:World)(h0:128 <=r)(hne:r≠65533)(hv:Lib.validRune r=false):
   Calls P (ρ.f 152) #[.string cs,.int .i32 r] w λe w'=>e=.returned (vI (-1))/\∃n,w'=w.drewN n:=by
 have mixed:=L.mixed
 have t3:=L.t3;have a3:=L.a3;have z3:=L.z3;have v3:=L.v3;have u3:=run_underlying L.t3
 have t4:=L.t4;have a4:=L.a4;have z4:=L.z4;have v4:=L.v4;have u4:=run_underlying L.t4
 have t5:=L.t5;have a5:=L.a5;have z5:=L.z5;have v5:=L.v5;have u5:=run_underlying L.t5
 have t9:=L.t9;have a9:=L.a9;have z9:=L.z9;have v9:=L.v9;have u9:=run_underlying L.t9
 have t21:=L.t21;have a21:=L.a21;have z21:=L.z21;have v21:=L.v21;have u21:=run_underlying L.t21
 have e137:∀args w,(callFunc (ρ.f 137) args).run P w=.ok (.enter (ρ.f 137) args) w:=enters_of L.f137 (by kernel_rfl) rfl
 have e119:∀args w,(callFunc (ρ.f 119) args).run P w=.ok (.enter (ρ.f 119) args) w:=enters_of L.f119 (by kernel_rfl) rfl
 have hr1: ¬ (r<128):=by omega
 have hr2:(r==65533)=false:=beq_eq_false_iff_ne.2 hne
 go_enter L.f152,Body.n152_ntmps ρ
 go_wp2_with (first
   | (go_at_fn (ρ.f 119);refine(Any.utf8_ValidRune { L with } _ _).mono ?_;rintro e w' ⟨rfl,hw⟩;rw[hw,hv])
   | (go_at_fn (ρ.f 137);refine(Any.strings_IndexByte { L with } _ _ _).mono ?_;rintro e w' ⟨rfl,hw⟩;rw[hw]))
 go_ret
 exact⟨rfl,0,rfl⟩
set_option maxHeartbeats 4000000 in
set_option maxRecDepth 1000000 in
theorem FY (L:Lays.n152 P ρ)(cs:ByteArray)(ha:Asc cs)(hcs:cs.size <=1000)(r:Int)(w:World)(h0:128 <=r)(hne:r≠65533)(hv:Lib.validRune r=true):
   Calls P (ρ.f 152) #[.string cs,.int .i32 r] w λe w'=>e=.returned (vI (-1))/\∃n,w'=w.drewN n:=by
 have mixed:=L.mixed
 have t3:=L.t3;have a3:=L.a3;have z3:=L.z3;have v3:=L.v3;have u3:=run_underlying L.t3
 have t4:=L.t4;have a4:=L.a4;have z4:=L.z4;have v4:=L.v4;have u4:=run_underlying L.t4
 have t5:=L.t5;have a5:=L.a5;have z5:=L.z5;have v5:=L.v5;have u5:=run_underlying L.t5
 have t9:=L.t9;have a9:=L.a9;have z9:=L.z9;have v9:=L.v9;have u9:=run_underlying L.t9
 have t21:=L.t21;have a21:=L.a21;have z21:=L.z21;have v21:=L.v21;have u21:=run_underlying L.t21
 have e137:∀args w,(callFunc (ρ.f 137) args).run P w=.ok (.enter (ρ.f 137) args) w:=enters_of L.f137 (by kernel_rfl) rfl
 have e119:∀args w,(callFunc (ρ.f 119) args).run P w=.ok (.enter (ρ.f 119) args) w:=enters_of L.f119 (by kernel_rfl) rfl
 obtain⟨rs,x,hrs,h2,h4,hx,hx128⟩:=Tf h0 hv
 have hr1: ¬ (r<128):=by omega
 have hr2:(r==65533)=false:=beq_eq_false_iff_ne.2 hne
 have hcv:=λw=>run_convert_int_string (P:=P) w (ρ.t 21) (ρ.t 9) .i32 r (by rw[t21];rfl) t9
 rw[hrs]at hcv
 have hR:=λw=>Oe (P:=P) t9 rs ((rs.size:Int)-1) x (by omega) (by rw[show((rs.size:Int)-1).toNat=rs.size-1 by omega];exact hx) w
 clear hx hrs
 go_enter L.f152,Body.n152_ntmps ρ
 go_wp2_with (first
   | (go_at_fn (ρ.f 119);refine(Any.utf8_ValidRune { L with } _ _).mono ?_;rintro e w' ⟨rfl,hw⟩;rw[hw,hv])
   | (go_at_fn (ρ.f 137);refine(Any.strings_IndexByte { L with } _ _ _).mono ?_;rintro e w' ⟨rfl,hw⟩;rw[hw]))
 go_wp2_with (go_at_fn (ρ.f 137);refine(Any.strings_IndexByte { L with } _ _ _).mono ?_;rintro e w' ⟨rfl,hw⟩;rw[hw])
 go_step3
 go_wp2_with (go_at_fn (ρ.f 137);refine(Any.strings_IndexByte { L with } _ _ _).mono ?_;rintro e w' ⟨rfl,hw⟩;rw[hw])
 go_loopg [9,10,11,12] 1 (λg s9 _ _ _ wx=>s9=vI ((rs.size:Int)-1)/\wx=w)
 case atStart=>exact⟨rfl,rfl⟩
 case round=>
   obtain⟨rfl,rfl⟩:=hrel
   by_cases hlt:rs.size-1<cs.size
   · obtain⟨y,hy⟩:∃y,cs.data.toList[rs.size-1]? =some y:=⟨_,Lib.data_getElem? cs (rs.size-1) hlt⟩
     have hy128:=ha _ _ hy
     have hS:=λw=>Oe (P:=P) t9 cs ((rs.size:Int)-1) y (by omega) (by rw[show((rs.size:Int)-1).toNat=rs.size-1 by omega];exact hy) w
     have hl:(rs.size:Int)-1<(cs.size:Int):=by omega
     have hne2:((y.toNat:Int)==(x.toNat:Int))=false:=beq_eq_false_iff_ne.2 (by omega)
     have hwr:i64.wrap (rs.size:Int)=(rs.size:Int):=wrap_i64 (by omega) (by omega)
     have hle:(0 <=(rs.size:Int)/\(rs.size:Int) <=(cs.size:Int)):=by omega
     have hmi:Lib.indexByte (List.take (cs.size-rs.size) (List.drop rs.size cs.data.toList)) x= -1:=by
       rw[<- Lib.indexAny_one]
       refine Lib.indexAny_none λj b _ hb=>?_
       obtain⟨k,hk⟩:=List.getElem?_of_mem (List.mem_of_mem_drop (List.mem_of_mem_take (List.mem_of_getElem? hb)))
       have:=ha k b hk
       have hne:b≠x:=λe=>by rw[e]at this;omega
       simpa using hne
     clear hy
     go_wp2_with (go_at_fn (ρ.f 137);refine(Any.strings_IndexByte { L with } _ _ _).mono ?_;rintro e w' ⟨rfl,hw⟩;rw[hw])
     go_step3
     go_wp2
     go_quiet_o (fail)
     go_wp2
     go_quiet_o (exact(Any.strings_IndexByte { L with } _ _ _).mono λe w' h=>⟨h.1,_,h.2⟩)
     go_wp2
     change bodyPost P (Body.n152 ρ) (λe w'=>e=Ending.returned (Value.int i64 (-1))/\∃n,w'=wr.drewN n) Exit.ret _ _
     go_ret
     exact⟨rfl,_,rfl⟩
   · have hn: ¬ ((rs.size:Int)-1<(cs.size:Int)):=by omega
     go_wp2
     go_ret
     exact⟨rfl,0,rfl⟩
set_option maxHeartbeats 4000000 in
set_option maxRecDepth 1000000 in
theorem FX (L:Lays.n152 P ρ)(cs:ByteArray)(ha:Asc cs)(hcs:cs.size <=1000)(w:World):
   Calls P (ρ.f 152) #[.string cs,.int .i32 65533] w λe w'=>e=.returned (vI (-1))/\bW w w':=by
 have mixed:=L.mixed
 have t3:=L.t3;have a3:=L.a3;have z3:=L.z3;have v3:=L.v3;have u3:=run_underlying L.t3
 have t4:=L.t4;have a4:=L.a4;have z4:=L.z4;have v4:=L.v4;have u4:=run_underlying L.t4
 have t9:=L.t9;have a9:=L.a9;have z9:=L.z9;have v9:=L.v9;have u9:=run_underlying L.t9
 have t21:=L.t21;have a21:=L.a21;have z21:=L.z21;have v21:=L.v21;have u21:=run_underlying L.t21
 go_enter L.f152,Body.n152_ntmps ρ
 go_wp2
 go_loopg [5,6] cs.size (λg _ _ wx=>∃i:Nat,i+g=cs.size/\wx=w.iter cs i)
 case atStart=>exact⟨0,by omega,rfl⟩
 case round=>
   obtain⟨i,hig,rfl⟩:=hrel
   by_cases hi:i<cs.size
   · have h128:=ha i _ (Lib.data_getElem? cs i hi)
     have hnx:∀ty,(Instr.next (.pointer (some ⟨w.heap.size,0,none⟩)) true ty).run P (w.iter cs i)=.ok (.tuple #[.bool true,vI i,.int .i32 ((cs[i]'hi).toNat:Nat)]) (w.iter cs (i+1)):=λty=>run_next_ascii (P:=P) w cs i ty hi h128
     generalize cs[i]'hi=y at*
     have hy:((y.toNat:Int)==65533)=false:=beq_eq_false_iff_ne.2 (by omega)
     go_wp2
     go_roundg (cs.size-(i+1))
     case measure=>omega
     case rel=>exact⟨i+1,by omega,rfl⟩
   · have e:i=cs.size:=by omega
     subst e
     have hnx:=run_next_end (P:=P) w cs cs.size
     go_wp2
     go_ret
     exact⟨rfl,(Below.refl _ _).alloc (Nat.le_refl _) _⟩
theorem FV (L:Lays.n152 P ρ)(cs:ByteArray)(ha:Asc cs)(hcs:cs.size <=1000)(r:Int)(w:World)(h0:128 <=r):
   Calls P (ρ.f 152) #[.string cs,.int .i32 r] w λe w'=>e=.returned (vI (-1))/\bW w w':=by
 have dn:∀n,bW w (w.drewN n):=λn=>⟨rfl,rfl,rfl,Nat.le_refl _,λ_ _=>rfl⟩
 by_cases he:r=65533
 · rw[he];exact FX L cs ha hcs w
 cases hv:Lib.validRune r with
 | false=>exact(FW L cs r w h0 he hv).mono λe w' ⟨h1,n,h2⟩=>⟨h1,h2▸dn n⟩
 | true=>exact(FY L cs ha hcs r w h0 he hv).mono λe w' ⟨h1,n,h2⟩=>⟨h1,h2▸dn n⟩
theorem LP (s:ByteArray)(i:Nat)(h:i<s.size)(hb:128 <=(s[i]'h).toNat):
   128 <=(Utf8.decode s i).1/\1 <=(Utf8.decode s i).2/\i+(Utf8.decode s i).2 <=s.size/\∀j,i <=j->(hj:j<i+(Utf8.decode s i).2)->∀hs:j<s.size,128 <=(s[j]'hs).toNat:=by
 have hg:∀k (hk:k<s.size),s.get! k=s[k]'hk:=λk hk=>by
   simp[ByteArray.get!,getElem!_pos,hk];rfl
 unfold Utf8.decode
 have e0:(s.get! (i+0)).toNat=(s[i]'h).toNat:=by rw[Nat.add_zero,hg i h]
 simp only[e0]
 rw[if_neg (by omega)]
 have one:∀j,i <=j->j<i+1->∀hs:j<s.size,128 <=(s[j]'hs).toNat:=λj h1 h2 hs=>by
   have:j=i:=by omega
   subst this;exact hb
 have cont:∀k,(decide (i+k<s.size)&&(s.get! (i+k)).toNat/64==2)=true->∃hk:i+k<s.size,128 <=(s[i+k]'hk).toNat:=λk hc=>by
   simp only[Bool.and_eq_true,dTx,beq_iff_eq]at hc
   refine⟨hc.1,?_⟩
   have:=hc.2
   rw[hg _ hc.1]at this
   omega
 have bad:128 <=Utf8.runeError:=by decide
 split
 · rename_i hc
   rw[Bool.and_eq_true]at hc
   obtain⟨k1,b1⟩:=cont 1 hc.2
   split
   · rename_i hc2
     refine⟨hc2,show 1 <=2 by decide,by show i+2 <=_;omega,λj h1 h2 hs=>?_⟩
     have h2:j<i+2:=h2
     have:j=i\/j=i+1:=by omega
     rcases this with rfl|rfl
     · exact hb
     · exact b1
   · exact⟨bad,by decide,by show i+1 <=_;omega,one⟩
 split
 · rename_i hc
   rw[Bool.and_eq_true,Bool.and_eq_true]at hc
   obtain⟨k1,b1⟩:=cont 1 hc.1.2
   obtain⟨k2,b2⟩:=cont 2 hc.2
   split
   · rename_i hc2
     rw[Bool.and_eq_true,dTx]at hc2
     refine⟨by show 128 <=_;omega,show 1 <=3 by decide,by show i+3 <=_;omega,λj h1 h2 hs=>?_⟩
     have h2:j<i+3:=h2
     have:j=i\/j=i+1\/j=i+2:=by omega
     rcases this with rfl|rfl|rfl
     · exact hb
     · exact b1
     · exact b2
   · exact⟨bad,by decide,by show i+1 <=_;omega,one⟩
 split
 · rename_i hc
   rw[Bool.and_eq_true,Bool.and_eq_true,Bool.and_eq_true]at hc
   obtain⟨k1,b1⟩:=cont 1 hc.1.1.2
   obtain⟨k2,b2⟩:=cont 2 hc.1.2
   obtain⟨k3,b3⟩:=cont 3 hc.2
   split
   · rename_i hc2
     rw[Bool.and_eq_true,dTx]at hc2
     refine⟨by show 128 <=_;omega,show 1 <=4 by decide,by show i+4 <=_;omega,λj h1 h2 hs=>?_⟩
     have h2:j<i+4:=h2
     have:j=i\/j=i+1\/j=i+2\/j=i+3:=by omega
     rcases this with rfl|rfl|rfl|rfl
     · exact hb
     · exact b1
     · exact b2
     · exact b3
   · exact⟨bad,by decide,by show i+1 <=_;omega,one⟩
 · exact⟨bad,by decide,by show i+1 <=_;omega,one⟩
set_option maxHeartbeats 8000000 in
set_option maxRecDepth 1000000 in
theorem DE (L:Lays.n153 P ρ)(cs:ByteArray)(ha:Asc cs)(h2:2 <=cs.size)(hcs:cs.size <=1000)(s:ByteArray)(w:World)(h8:s.size <=8):
   Calls P (ρ.f 153) #[.string s,.string cs] w λe w'=>e=.returned (vI (Lib.indexAny s.data.toList cs.data.toList))/\bW w w':=by
 have hemp:cs.toList.isEmpty=false:=by
   rw[Lib.toList_data]
   cases h:cs.data.toList with
   | nil=>have:=Lib.size_eq cs;rw[h,List.length_nil]at this;omega
   | cons _ _=>rfl
 have hn1:((cs.size:Int)==1)=false:=beq_eq_false_iff_ne.2 (by omega)
 have h8z:decide ((8:Int)<(s.size:Int))=false:=decide_eq_false (by omega)
 have t3:=L.t3;have a3:=L.a3;have z3:=L.z3;have v3:=L.v3
 have t4:=L.t4;have a4:=L.a4;have z4:=L.z4;have v4:=L.v4
 have t5:=L.t5;have a5:=L.a5;have z5:=L.z5;have v5:=L.v5
 have t9:=L.t9;have a9:=L.a9;have z9:=L.z9;have v9:=L.v9
 have t21:=L.t21;have a21:=L.a21;have z21:=L.z21;have v21:=L.v21
 have e152:∀args w,(callFunc (ρ.f 152) args).run P w=.ok (.enter (ρ.f 152) args) w:=enters_of L.f152 (by kernel_rfl) rfl
 have e226:∀args w,(callFunc (ρ.f 226) args).run P w=.ok (.enter (ρ.f 226) args) w:=enters_of L.f226 (by kernel_rfl) rfl
 have L152:Lays.n152 P ρ:= { L with }
 have HA:Aside (Asc cs):=ha
 clear ha
 go_enter L.f153,Body.n153_ntmps ρ
 go_wp2_with (go_at_fn (ρ.f 226);refine(Any.strings_shouldUseASCIISet { L with } _ _).mono ?_;rintro e w' ⟨rfl,hw⟩;rw[hw,h8z])
 go_loopg [9,10] s.size (λg _ _ wx=>∃i:Nat,i+g=s.size/\wx.heap[w.heap.size]? =some (.stringIter s i)/\bW w wx/\Lib.NoAny s.data.toList cs.data.toList i)
 case atStart=>exact⟨0,by omega,World.iter_heap w s 0,(Below.refl _ _).alloc (Nat.le_refl _) _,Lib.NoAny.zero _ _⟩
 case round=>
   obtain⟨i,hig,hit,hB,hno⟩:=hrel
   have HN:Aside (Lib.NoAny s.data.toList cs.data.toList i):=hno
   clear hno
   by_cases hi:i<s.size
   · obtain⟨x,hx⟩:∃x:UInt8,s[i]'hi=x:=⟨_,rfl⟩
     have hxl:s.data.toList[i]? =some x:=by rw[<- hx];exact Lib.data_getElem? s i hi
     by_cases hx128:x.toNat<128
     · have hnx:=λty=>run_next_ascii_at (P:=P) wr w.heap.size s i ty hit hi (by rw[hx];exact hx128)
       rw[hx]at hnx
       have hit2:=iterAt_heap wr w.heap.size s i (i+1) hit
       have hB2:=below_iterAt hB (Nat.le_refl w.heap.size) s (i+1)
       have Hx:Aside (s.data.toList[i]? =some x):=hxl
       clear hxl hx hit
       have hcon:=Lib.contains_iff_indexByte cs.data.toList x
       have hback:((x.toNat:Int)).toNat.toUInt8=x:=by simp
       cases hin:cs.data.toList.contains x
       · rw[hin]at hcon
         have hlt: ¬ ((0:Int) <=Lib.indexByte cs.data.toList x):=of_decide_eq_false hcon.symm
         clear hcon
         generalize hgw:wr.iterAt w.heap.size s (i+1)=wi at*
         go_wp2_with (go_at_fn (ρ.f 152);refine(Any.strings_IndexRune_ascii { L with } _ _ _ (by omega) (by omega)).mono ?_;rintro e w' ⟨rfl,hw⟩;rw[hw,hback])
         go_roundg (s.size-(i+1))
         case measure=>omega
         case rel=>exact⟨i+1,by omega,hit2,hB2,HN.out.succ Hx.out hin⟩
       · rw[hin]at hcon
         have hge:(0:Int) <=Lib.indexByte cs.data.toList x:=of_decide_eq_true hcon.symm
         clear hcon
         generalize hgw:wr.iterAt w.heap.size s (i+1)=wi at*
         go_wp2_with (go_at_fn (ρ.f 152);refine(Any.strings_IndexRune_ascii { L with } _ _ _ (by omega) (by omega)).mono ?_;rintro e w' ⟨rfl,hw⟩;rw[hw,hback])
         go_ret
         exact⟨by rw[Lib.indexAny_hit HN.out Hx.out hin];rfl,hB2⟩
     · have hd:=LP s i hi (by rw[hx];omega)
       have hnx:=λty=>run_next_any_at (P:=P) wr w.heap.size s i ty hit hi
       have hit2:=iterAt_heap wr w.heap.size s i (i+(Utf8.decode s i).2) hit
       have hB2:=below_iterAt hB (Nat.le_refl w.heap.size) s (i+(Utf8.decode s i).2)
       generalize hgw:wr.iterAt w.heap.size s (i+(Utf8.decode s i).2)=wi at*
       generalize Utf8.decode s i=cn at*
       obtain⟨c,n⟩:=cn
       obtain⟨d1,d2,d3,d4⟩:=hd
       simp only at d1 d2 d3 d4 hnx hit2
       have hL:=FV L152 cs HA.out hcs (c:Int) wi (by omega)
       have HD:Aside (∀j,i <=j->(hj:j<i+n)->∀hs:j<s.size,128 <=(s[j]'hs).toNat):=d4
       clear d4 hx hxl hit
       go_wp2_with (go_at_fn (ρ.f 152);refine hL.mono ?_;rintro e w' ⟨rfl,hw⟩)
       go_roundg (s.size-(i+n))
       case measure=>omega
       case rel=>
         rename_i hw
         refine⟨i+n,by omega,?_,ab hB2 hw hB2.size,?_⟩
         · rw[hw.block _ (Array.getElem?_eq_some_iff.1 hit2).1];exact hit2
         · intro j b hj hjb
           by_cases hji:j<i
           · exact HN.out j b hji hjb
           · have hjs:j<s.size:=by omega
             have h1:=HD.out j (by omega) hj hjs
             have h2:s.data.toList[j]? =some (s[j]'hjs):=Lib.data_getElem? s j hjs
             rw[h2]at hjb
             rw[Option.some.inj hjb]at h1
             rw[Bool.eq_false_iff]
             intro hc
             rw[List.contains_iff_mem]at hc
             obtain⟨k,hk⟩:=List.getElem?_of_mem hc
             have:=HA.out k b hk
             omega
   · have hnx:=λty=>run_next_end_at (P:=P) wr w.heap.size s i ty hit hi
     go_wp2
     go_ret
     have e:i=s.size:=by omega
     have hno:=HN.out
     rw[e]at hno
     exact⟨by rw[Lib.indexAny_none (by rw[<- Lib.size_eq];exact hno)];rfl,hB⟩
theorem vu (cs:List UInt8)(h2:2 <=cs.length)(hcs:cs.length <=1000)(ha:∀c∈cs,c.toNat<128)(s:List UInt8)(hs:s.length<4294967281)(w:World):
   Cf fq #[vS s,vS cs] w (Ret λv w'=>v=vI (Lib.indexAny s cs)/\bW w w'):=by
 have hsz:∀s,(mkS s).size=s.length:=λs=>by show s.toArray.size=_;simp
 have hA:Asc (mkS cs):=λj b h=>ha b (List.mem_of_getElem? h)
 by_cases h8:(mkS s).size <=8
 · exact(DE Tryz.lays153 (mkS cs) hA (by rw[hsz];exact h2) (by rw[hsz];exact hcs) (mkS s) w h8).mono λe w' ⟨h1,h2⟩=>⟨_,h1,rfl,h2⟩
 · have hi:(prog.info? (Tryz.lays153_ren.t 116)).map (λi=>(i.zero,i.size))=some (some (.agg (Array.replicate 256 (.bool false))),256):=by kernel_rfl
   refine(Any.strings_IndexAny_long Tryz.lays153 (zero_of_info hi).1 (zero_of_info hi).2 (mkS s) (mkS cs) w (by rw[hsz];exact h2) (by omega) (by rw[hsz];exact hs) (by rw[hsz];omega) hA).mono λe w' ⟨h1,h2⟩=>⟨_,h1,rfl,?_⟩
   rw[h2]
   exact((Below.refl _ _).alloc (Nat.le_refl _) _).alloc (by simp) _
theorem yd (s:List UInt8)(hs:s.length<4294967281)(w:World):
   Cf fq #[vS s,vS [32,9]] w (Ret λv w'=>v=vI (Lib.indexAny s [32,9])/\bW w w'):=vu [32,9] (by decide) (by decide) (by decide) s hs w
end
abbrev Rul:=Int×List UInt8
def zX (k:Int):List UInt8:=if k=2 then[42,46]else if k=3 then[33]else[]
def z7 (r:Rul):List UInt8:=zX r.1++r.2
def wm (s:List UInt8):List UInt8:=s.takeWhile λc=> !JN c
def sy (u:List UInt8):Rul:=if Lib.hasPrefix u [42,46]=true then(2,u.drop 2)else if Lib.hasPrefix u [33]=true then(3,u.drop 1)else(1,u)
def Q4 (k:Int)(o:Option Hst):Rul×Bool×Int:=match o with
 | none=>((0,[]),false,51)
 | some h=>if h.kind=1/\ ¬ (k=3/\(aO h).length<2)then((k,h.name),true,0)else((0,[]),false,51)
def jB (s:List UInt8):Rul×Bool×Int:=
 if trimB s=[]\/Lib.hasPrefix (trimB s) [47,47]=true then((0,[]),false,0)else Q4 (sy (wm (trimB s))).1 (di (sy (wm (trimB s))).2)
def AU (r:Rul):List Value:=[vI r.1,vS r.2]
def CB (r:Rul):Value:=.agg (AU r).toArray
def Vs (x:Rul×Bool×Int):Value:=.tuple #[CB x.1,.bool x.2.1,vI x.2.2]
def Mt (r q:Rul):Bool:=(r.1==q.1)&&((r.2==q.2)&&true)
theorem OU (r q:Rul):Mt r q=true ↔ r=q:=by
 unfold Mt
 rw[Bool.and_eq_true,Bool.and_true,beq_iff_eq,beq_iff_eq]
 exact⟨λh=>Prod.ext h.1 h.2,λh=>by rw[h];exact⟨rfl,rfl⟩⟩
def GU (r:Rul):Bool:=((jB (z7 r)).2.2==0)&&((jB (z7 r)).2.1&&Mt (jB (z7 r)).1 r)
theorem KR (c:UInt8):([32,9]:List UInt8).contains c=JN c:=by
 unfold JN
 rw[Bool.eq_iff_iff];simp
theorem Od:∀s:List UInt8,(0 <=Lib.indexAny s [32,9]->(Lib.indexAny s [32,9]).toNat <=s.length/\s.take (Lib.indexAny s [32,9]).toNat=wm s)/\(¬ 0 <=Lib.indexAny s [32,9]->wm s=s)
 | []=>⟨λh=>absurd h (by decide),λ_=>rfl⟩
 | c::s=>by
   have ih:=Od s
   unfold Lib.indexAny wm
   rw[KR,List.takeWhile_cons]
   cases hb:JN c with
   | true=>exact⟨λ_=>⟨by simp,by simp⟩,λh=>absurd (show(0:Int) <=0 by decide) h⟩
   | false=>
     simp only[Bool.not_false,if_true,Bool.false_eq_true,if_false]
     have hge:=Lib.indexAny_ge [32,9] s
     generalize Lib.indexAny s [32,9]=n at*
     by_cases hn:n= -1
     · subst hn
       exact⟨λh=>absurd h (by decide),λ_=>by rw[show s.takeWhile (λc=> !JN c)=s from ih.2 (by decide)]⟩
     · have h0:0 <=n:=by omega
       rw[if_neg (by simpa using hn)]
       obtain⟨k,rfl⟩:=Int.eq_ofNat_of_zero_le h0
       refine⟨λ_=>?_,λh=>absurd (show(0:Int) <=(k:Int)+1 by omega) h⟩
       have e:((k:Int)+1).toNat=k+1:=by omega
       have h1:=ih.1 h0
       rw[Int.toNat_natCast]at h1
       rw[e,List.take_succ_cons,h1.2]
       exact⟨by simp;omega,rfl⟩
theorem Pl (s:List UInt8):(trimB s).length <=s.length:=yM _ _
theorem NF (s:List UInt8):(wm s).length <=s.length:=nY _ _
theorem QU (s:List UInt8):(sy s).2.length <=s.length:=by
 unfold sy;split
 · simp
 split
 · simp
 · exact Nat.le_refl _
theorem mG {s:List UInt8}{h:Hst}(e:di s=some h):h.name.length <=253:=by
 unfold di at e
 split at e
 · split at e
   · cases hv:v6A ((s.drop 1).take (s.length-2))with
     | none=>rw[hv]at e;cases e
     | some a=>rw[hv]at e;cases e;exact Nat.zero_le _
   · cases e
 split at e
 · cases hv:v4V s with
   | none=>rw[hv]at e;cases e
   | some a=>rw[hv]at e;cases e;exact Nat.zero_le _
 split at e
 · rename_i h1;cases e;simp only[eH,List.length_map];exact h1.1
 · cases e
theorem lX:Whl prog aE 2:=⟨⟨_,_,vM⟩,by kernel_rfl⟩
theorem Gf (r:Rul):vX (AU r):=aJ rfl (aJ rfl gX)
theorem N3:prog.eqGuardType prog.depth aE=false:=by kernel_rfl
theorem Ti (r q:Rul):eqV prog 10000 aE (CB r) (CB q)=some (Mt r q):=by
 obtain⟨a,b⟩:=r
 obtain⟨c,d⟩:=q
 kernel_rfl
theorem VH (r q:Rul){x y:Operand}(w:World):((do eqGuard .eql aE x y (CB r) (CB q);binOp .eql aE (CB r) (CB q):Sem Value)).run prog w=.ok (.bool (Mt r q)) w:=
 Le N3 (Ti r q) w
theorem Ib (s p:List UInt8)(w:World):Cf cJ #[vS s,vS p] w (Ret λv w'=>v=.bool (Lib.hasPrefix s p)/\w'=w):=
 (Tryz.strings_HasPrefix (mkS s) (mkS p) w).mono λe w' ⟨h1,h2⟩=>⟨_,h1,rfl,h2⟩
theorem Jw (s p:List UInt8)(w:World):Cf cI #[vS s,vS p] w (Ret λv w'=>v=.tuple #[vS (Lib.trimPrefix s p),.bool (Lib.hasPrefix s p)]/\w'=w):=
 (Tryz.strings_CutPrefix (mkS s) (mkS p) w).mono λe w' ⟨h1,h2⟩=>⟨_,h1,rfl,h2⟩
theorem sH (k:Int)(w:World):Cf qH #[vI k] w (Ret λv w'=>v=vS (zX k)/\w'=w):=by
 apply Gt
 unfold zE zX
 refine ae.of (λh=>⟨by rw[if_pos (eq_of_beq h)],rfl⟩) (λh=>?_)
 rw[if_neg (beq_eq_false_iff_ne.1 h)]
 exact ae.of (λh=>⟨by rw[if_pos (eq_of_beq h)],rfl⟩) (λh=>⟨by rw[if_neg (beq_eq_false_iff_ne.1 h)],rfl⟩)
theorem DM (u:List UInt8)(w:World):Cf qG #[vS u] w (Ret λv w'=>v=.tuple #[vI (sy u).1,.string (mkS (sy u).2)]/\w'=w):=by
 apply CR
 refine⟨λm i w'=>w'=w/\(m=2/\i=0\/m=1/\i=1/\ ¬ Lib.hasPrefix u [42,46]=true\/m=0/\i=2/\ ¬ Lib.hasPrefix u [42,46]=true/\ ¬ Lib.hasPrefix u [33]=true),⟨2,rfl,.inl ⟨rfl,rfl⟩⟩,?_⟩
 intro m i
 refine aN.of ?_ _
 rintro w' ⟨hw',h⟩
 rw[hw'];clear hw'
 rcases h with⟨rfl,rfl⟩|⟨rfl,rfl,h1⟩|⟨rfl,rfl,h1,h2⟩
 · refine ae.yes (by decide) ⟨2,by kernel_rfl,?_⟩
   refine aB (sH 2 w) ?_
   rintro _ w1 ⟨rfl,hw1⟩
   rw[hw1];clear hw1
   refine⟨_,rfl,?_⟩
   refine aB (Jw u (zX 2) w) ?_
   rintro _ w1 ⟨rfl,hw1⟩
   rw[hw1];clear hw1
   refine⟨_,_,rfl,?_⟩
   show ae (Lib.hasPrefix u [42,46]) _ _
   refine ae.of (λh=>⟨?_,rfl⟩) (λh=>⟨1,by decide,rfl,.inr (.inl ⟨rfl,rfl,by rw[h];decide⟩)⟩)
   have e:Lib.trimPrefix u (zX 2)=u.drop 2:=by exact if_pos h
   unfold sy;rw[if_pos h,e]
 · refine ae.yes (by decide) ⟨3,by kernel_rfl,?_⟩
   refine aB (sH 3 w) ?_
   rintro _ w1 ⟨rfl,hw1⟩
   rw[hw1];clear hw1
   refine⟨_,rfl,?_⟩
   refine aB (Jw u (zX 3) w) ?_
   rintro _ w1 ⟨rfl,hw1⟩
   rw[hw1];clear hw1
   refine⟨_,_,rfl,?_⟩
   show ae (Lib.hasPrefix u [33]) _ _
   refine ae.of (λh=>⟨?_,rfl⟩) (λh=>⟨0,by decide,rfl,.inr (.inr ⟨rfl,rfl,h1,by rw[h];decide⟩)⟩)
   have e:Lib.trimPrefix u (zX 3)=u.drop 1:=by exact if_pos h
   unfold sy;rw[if_neg h1,if_pos h,e]
 · exact ae.no (by decide) ⟨by unfold sy;rw[if_neg h1,if_neg h2],rfl⟩
theorem Ij (r:Rul)(hr:r.2.length <=4611686018427387904)(w:World):Cf vg #[CB r] w (Ret λv w'=>v=vS (z7 r)/\bW w w'):=by
 obtain⟨k,n⟩:=r
 apply Gs
 intro k1 w1 hk1 hw1
 have hB1:=(hw1▸ah w _:bW w w1)
 have h1:ai w1 k1 aE (AU (k,n)):=ai.new hk1 hw1
 have hm:(zX k).length <=2:=by unfold zX;split;decide;split;decide;decide
 refine⟨rfl,k,λu hu=>(h1.below hu).load1 cD rfl rfl,zX k,λu hu=>?_,rfl,n,λu hu=>(h1.below hu).load1 aF rfl rfl,fits (by simp at hr;omega),?_⟩
 · refine jY ?_ hu
   exact(sH k u).mono λe w' ⟨v,h1,h2,h3⟩=>⟨v,h1,h2,h3▸Below.refl _ _⟩
 rintro _ rfl wq hq
 exact⟨rfl,ab hB1 hq hB1.size⟩
def PM (s:List UInt8)(w:World)(v:Value)(w':World):Prop:=v=Vs (jB s)/\bW w w'
theorem J6 (r:Rul){w w':World}{k2:Nat}{vs:List Value}(h2:ai w' k2 aE vs)(hl:vs.length=2)(hb:bW w w')(hk:w.heap.size <=k2){b:Bool}{e:Int}{K:Value->World->Prop}
   (hK:∀wx,bW w wx->K (Vs (r,b,e)) wx):
   ∃(wx:World),(Instr.storeAt aE (.pointer (some ⟨k2,0,none⟩)) (CB r)).run prog w'=.ok () wx/\
     ∃(n0:Int) (s1:List UInt8),(aV aE (.pointer (some ⟨k2,0,none⟩))).run prog wx=.ok (.agg #[vI n0,vS s1]) wx/\
       K (.tuple #[.agg #[vI n0,vS s1],.bool b,vI e]) wx:=by
 obtain⟨wx,hs,h3,hg⟩:=lX.store0 (cs:=AU r) rfl (Gf r) h2 hl
 exact⟨wx,hs,r.1,r.2,ai.res (lX.load0 h3 rfl),hK wx (Below.put hb hg hk)⟩
theorem zm (s:List UInt8)(hs:s.length <=2000000000)(w:World)(he:Env w):Cf qE #[vS s] w (Ret (PM s w)):=by
 apply Gr
 intro k2 w2 hk2 hw2
 have hB2:=(hw2▸ah w _:bW w w2)
 have h2:ai w2 k2 aE (AU (0,[])):=ai.new hk2 hw2
 have hk2w:w.heap.size <=k2:=by omega
 have tl:=Pl s
 refine aB (mC s (by omega) w2) ?_
 rintro _ w3 ⟨rfl,hb3⟩
 have hB3:=ab hB2 hb3 hB2.size
 have h23:=h2.below hb3
 refine⟨_,rfl,?_⟩
 have hV:jB s=if trimB s=[]\/Lib.hasPrefix (trimB s) [47,47]=true then((0,[]),false,0)else Q4 (sy (wm (trimB s))).1 (di (sy (wm (trimB s))).2):=rfl
 generalize trimB s=t at*
 refine wu (w:=w3) (¬ (t=[]\/Lib.hasPrefix t [47,47]=true)) ?_ (λhc=>?_)
 · refine nK (w:=w3) (decide (t=[]\/Lib.hasPrefix t [47,47]=true)) ?_ ?_
   · refine ae.of (λh=>⟨rfl,by rw[decide_eq_true (.inl (eq_of_beq h))]⟩) (λh=>?_)
     refine aB (Ib t [47,47] w3) ?_
     rintro _ w4 ⟨rfl,hw4⟩
     refine⟨_,rfl,hw4,?_⟩
     rw[Bool.eq_iff_iff,dTx]
     exact⟨.inr,λhx=>hx.elim (λhx=>absurd hx (beq_eq_false_iff_ne.1 h)) id⟩
   · refine ae.of (λh=>?_) (λh=>⟨rfl,of_decide_eq_false h⟩)
     exact J6 (0,[]) h23 rfl hB3 hk2w λwx hb=>⟨by rw[hV,if_pos (of_decide_eq_true h)],hb⟩
 · rw[if_neg hc]at hV
   have hu:=Od t
   have hul:=NF t
   refine⟨λu w'=>u=wm t/\bW w3 w',?_,?_⟩
   · refine aB (yd t (by omega) w3) ?_
     rintro _ w4 ⟨rfl,hb4⟩
     refine⟨_,rfl,ae.of (λh=>?_) (λh=>?_)⟩
     · have h:=of_decide_eq_true h
       refine⟨⟨h,by have:=(hu.1 h).1;omega⟩,?_⟩
       rintro _ rfl
       exact⟨(hu.1 h).2,hb4⟩
     · exact⟨(hu.2 (of_decide_eq_false h)).symm,hb4⟩
   · intro u
     refine aN.of ?_ _
     rintro w4 ⟨rfl,hb4⟩
     have hB4:=ab hB3 hb4 hB3.size
     have h24:=h23.below hb4
     refine aB (DM (wm t) w4) ?_
     rintro _ w5 ⟨rfl,hw5⟩
     rw[hw5];clear hw5
     have hkl:=QU (wm t)
     refine⟨_,_,rfl,?_⟩
     generalize sy (wm t)=kn at*
     obtain⟨k,n⟩:=kn
     refine aB (jU n (by simp at hkl;omega) w4 (he.step hB4)) ?_
     rintro _ w6 ⟨rfl,hb6⟩
     have hB6:=ab hB4 hb6 hB4.size
     rw[my]
     refine⟨_,_,rfl,?_⟩
     have hok:=B1 λx hx=>jT (s:=n) hx
     refine bc.new (zs:=nJ.cells) (cs:=((di n).getD nJ).cells) rfl (Hst.len hok) (Hst.one _) w6 λk8 w8 hk8 h8 hb8=>?_
     have hB8:=ab hB6 hb8 hB6.size
     have h28:=(h24.below hb6).below hb8
     simp only at hV
     refine j8 (λw'=>∃h:Hst,di n=some h/\jB s=((k,h.name),true,0)/\bW w8 w') ?_ ?_
     · refine Kq (λb w'=>b=decide (jB s=((0,[]),false,51))/\bW w8 w'/\(b=false->∃h:Hst,di n=some h/\jB s=((k,h.name),true,0))) ?_ ?_
       · cases hn:di n with
         | none=>
           rw[hn]at hV
           exact ae.yes rfl ⟨by rw[hV];rfl,Below.refl _ _,λhx=>by cases hx⟩
         | some h=>
           rw[hn]at hV h8 hok
           have hV:jB s=if h.kind=1/\ ¬ (k=3/\(aO h).length<2)then((k,h.name),true,0)else((0,[]),false,51):=hV
           have bad: ¬ (h.kind=1/\ ¬ (k=3/\(aO h).length<2))->(true:Bool)=decide (jB s=((0,[]),false,51)):=λhx=>by rw[hV,if_neg hx];rfl
           have qK:(h.kind=1/\ ¬ (k=3/\(aO h).length<2))->(false:Bool)=decide (jB s=((0,[]),false,51))/\(∃h':Hst,some h=some h'/\jB s=((k,h'.name),true,0)):=λhx=>by
             rw[hV,if_pos hx];exact⟨(decide_eq_false (by intro hx;have:=congrArg (λz=>z.2.1) hx;cases this)).symm,h,rfl,rfl⟩
           refine ae.no rfl ⟨rfl,_,h8.load1 cD rfl rfl,ae.of (λc1=>⟨bad λhx=>?_,Below.refl _ _,λhx=>by cases hx⟩) (λc1=>?_)⟩
           · have c1:(h.kind !=1)=true:=c1
             rw[hx.1]at c1;simp at c1
           have c1:(h.kind !=1)=false:=c1
           have c1:h.kind=1:=by simpa using c1
           refine ae.of (λc2=>?_) (λc2=>?_)
           · have c2:k=3:=eq_of_beq c2
             refine⟨_,bc.load0 h8 (Hst.len hok),?_⟩
             have hnl:h.name.length <=1000000000:=by have:=mG hn;omega
             refine aB (eS hok hnl w8 (he.step hB8)) ?_
             rintro _ w9 ⟨a,l,c,rfl,ho,-,hb9⟩
             refine⟨_,_,_,rfl,?_⟩
             have ho1:=ho.len
             simp only[Option.getD_some]at ho1
             rw[ho1]
             by_cases c3:(aO h).length<2
             · try dsimp only
               rw[decide_eq_true (show(((aO h).length:Nat):Int)<2 by omega)]
               exact⟨bad λhx=>hx.2 ⟨c2,c3⟩,hb9,λhx=>by cases hx⟩
             · try dsimp only
               rw[decide_eq_false (show ¬ (((aO h).length:Nat):Int)<2 by omega)]
               have g:=qK ⟨c1,λhx=>c3 hx.2⟩
               exact⟨g.1,hb9,λ_=>g.2⟩
           · have g:=qK ⟨c1,λhx=>by rw[hx.1]at c2;cases c2⟩
             exact⟨g.1,Below.refl _ _,λ_=>g.2⟩
       · rintro b w9 ⟨hb,hb9,hg⟩
         refine ae.of (λc=>?_) (λc=>?_)
         · rw[c,eq_comm,dTx]at hb
           exact J6 (0,[]) (h28.below hb9) rfl (ab hB8 hb9 hB8.size) hk2w λwx hb'=>⟨by rw[hb],hb'⟩
         · obtain⟨h,e1,e2⟩:=hg c
           exact⟨h,e1,e2,hb9⟩
     · rintro w9 ⟨h,e1,e2,hb9⟩
       rw[e1]at h8
       refine⟨rfl,_,(h8.below hb9).load1 aF rfl rfl,?_⟩
       exact J6 (k,h.name) (h28.below hb9) rfl (ab hB8 hb9 hB8.size) hk2w λwx hb'=>⟨by rw[e2],hb'⟩
section
variable {α β:Type} [DecidableEq α]
def KVg (ek:α->Value)(ev:β->Value)(es:List MapEntry)(kvs:List (α×β)):Prop:=es.map (λe=>(e.key,e.val))=kvs.map λp=>(ek p.1,ev p.2)
def xR (ek:α->Value)(ev:β->Value)(w:World)(r:Nat)(kvs:List (α×β)):Prop:=∃es clock,w.heap[r]? =some (.map es clock)/\KVg ek ev es.toList kvs
def nM (k:α):List (α×β)->Option β
 | []=>none
 | (k',v)::l=>if k=k' then some v else nM k l
def ma (k:α):List (α×β)->Nat->Option (Nat×β)
 | [],_=>none
 | (k',v)::l,i=>if k=k' then some (i,v)else ma k l (i+1)
theorem vy (k:α):∀(l:List (α×β)) (i:Nat),(ma k l i).map (·.2)=nM k l
 | [],_=>rfl
 | (k',v)::l,i=>by
   unfold ma nM
   split
   · rfl
   · exact vy k l (i+1)
theorem wL (k:α)(v:β)(k':α):∀l:List (α×β),nM k' (l++[(k,v)])=(nM k' l).or (if k'=k then some v else none)
 | []=>by
   show(if k'=k then some v else none)=_
   rfl
 | (x,y)::l=>by
   show(if k'=x then some y else nM k' (l++[(k,v)]))=(if k'=x then some y else nM k' l).or _
   split
   · rfl
   · exact wL k v k' l
structure Dp (P:Program)(kt:TypeId)(ek:α->Value):Prop where
 check:∀(b:Bool) (k:α) (w:World),(Instr.checkKey b 10000 kt (ek k)).run P w=.ok () w
 find:∀{β:Type} (ev:β->Value) (k:α) (es:List MapEntry) (kvs:List (α×β)) (w:World),KVg ek ev es kvs->(Instr.findKey kt (ek k) es).run P w=.ok ((ma k kvs 0).map λp=>(p.1,ev p.2)) w
theorem Dp.struct {P:Program}{kt:TypeId}{fs:Array Field}(hu:P.underlying kt=some (.struct fs)){ek:α->Value}(heq:∀a b,eqV P 10000 kt (ek a) (ek b)=some (decide (a=b)))
   (check:∀(b:Bool) (k:α) (w:World),(Instr.checkKey b 10000 kt (ek k)).run P w=.ok () w):Dp P kt ek where
 check:=check
 find:=by
   intro β ev k es kvs w h
   have ask:∀(es:List MapEntry) (kvs:List (α×β)) (i:Nat),KVg ek ev es kvs->(Instr.findAsking kt (ek k) es i).run P w=.ok ((ma k kvs i).map λp=>(p.1,ev p.2)) w:=by
     intro es
     induction es with
     | nil=>
       intro kvs i h
       have:kvs=[]:=by unfold KVg at h;simp at h;exact h
       subst this;rfl
     | cons e es ih=>
       intro kvs i h
       cases kvs with
       | nil=>unfold KVg at h;simp at h
       | cons p kvs=>
         obtain⟨k',v⟩:=p
         unfold KVg at h
         simp only[List.map_cons,List.cons.injEq,Prod.mk.injEq]at h
         obtain⟨⟨hk,hv⟩,ht⟩:=h
         unfold Instr.findAsking ma
         rw[hk]
         have he:(Op.equal kt (ek k) (ek k')).run P w=.ok (decide (k=k')) w:=NQ 10000 kt _ _ _ w (heq k k')
         rw[Sem.run_bind,he,Result.andThen_ok]
         by_cases e1:k=k'
         · simp[e1,hv]
         · simp only[e1,decide_false,if_false]
           exact ih kvs (i+1) ht
   unfold Instr.findKey
   rw[Sem.run_bind,bK hu,Result.andThen_ok]
   cases es with
   | nil=>
     have:kvs=[]:=by unfold KVg at h;simp at h;exact h
     subst this;rfl
   | cons e es=>exact ask (e::es) kvs 0 h
variable {ek:α->Value} {ev:β->Value}
theorem xR.below {w w':World}{r:Nat}{kvs:List (α×β)}(h:xR ek ev w r kvs)(hb:bW w w'):xR ek ev w' r kvs:=by
 obtain⟨es,c,hh,hkv⟩:=h
 exact⟨es,c,(hb.block r (Array.getElem?_eq_some_iff.1 hh).1).trans hh,hkv⟩
theorem xR.lt {w:World}{r:Nat}{kvs:List (α×β)}(h:xR ek ev w r kvs):r<w.heap.size:=by
 obtain⟨es,c,hh,hkv⟩:=h
 exact(Array.getElem?_eq_some_iff.1 hh).1
theorem xR.keep {w w':World}{r:Nat}{kvs:List (α×β)}(h:xR ek ev w r kvs)(hb:w'.heap[r]? =w.heap[r]?):xR ek ev w' r kvs:=by
 obtain⟨es,c,hh,hkv⟩:=h
 exact⟨es,c,hb.trans hh,hkv⟩
theorem xR.grown {w w':World}{r:Nat}{kvs:List (α×β)}(h:xR ek ev w r kvs){k:Nat}(hg:w.grownBy w' (some k))(hne:r≠k):xR ek ev w' r kvs:=h.keep (hg.block r h.lt λe=>hne (Option.some.inj e))
theorem xR.new {w w':World}{r:Nat}(hr:r=w.heap.size)(hw:w'=w.alloc (.map #[] 0)):xR ek ev w' r []:=by
 subst hr hw
 exact⟨#[],0,heap_alloc_new w _,rfl⟩
theorem vp {P:Program}{w:World}{r:Nat}{es:Array MapEntry}{c:Nat}(h:w.heap[r]? =some (.map es c)):(getObj r).run P w=.ok (.map es c) w:=by
 simp only[getObj,Sem.run,h]
theorem xR.look2 {P:Program}{mt kt et:TypeId}{n bytes:Nat}{z:Value}(hm:P.underlying mt=some (.map kt et))(hk:Dp P kt ek)(he:TF P et n bytes z){w:World}{r:Nat}{kvs:List (α×β)}(h:xR ek ev w r kvs)(k:α):
   (Instr.lookup mt (.map (some r)) (ek k) true).run P w=.ok (.tuple #[((nM k kvs).map ev).getD z,.bool (nM k kvs).isSome]) w:=by
 obtain⟨es,c,hh,hkv⟩:=h
 obtain⟨i,hi,_,_,hz⟩:=he.info
 unfold Instr.lookup
 simp only[Sem.run_bind,bK hm,Result.andThen_ok,vp hh,Sem.run_pure,hk.check,hk.find ev k _ _ _ hkv]
 rw[<- vy k kvs 0]
 cases ma k kvs 0 with
 | none=>simp[zeroValue,jj hi,hz]
 | some p=>simp
theorem xR.look1 {P:Program}{mt kt et:TypeId}{n bytes:Nat}{z:Value}(hm:P.underlying mt=some (.map kt et))(hk:Dp P kt ek)(he:TF P et n bytes z){w:World}{r:Nat}{kvs:List (α×β)}(h:xR ek ev w r kvs)(k:α):
   (Instr.lookup mt (.map (some r)) (ek k) false).run P w=.ok (((nM k kvs).map ev).getD z) w:=by
 obtain⟨es,c,hh,hkv⟩:=h
 obtain⟨i,hi,_,_,hz⟩:=he.info
 unfold Instr.lookup
 simp only[Sem.run_bind,bK hm,Result.andThen_ok,vp hh,Sem.run_pure,hk.check,hk.find ev k _ _ _ hkv]
 rw[<- vy k kvs 0]
 cases ma k kvs 0 with
 | none=>simp[zeroValue,jj hi,hz]
 | some p=>simp
theorem xR.put {P:Program}{mt kt et:TypeId}(hm:P.underlying mt=some (.map kt et))(hk:Dp P kt ek){w:World}{r:Nat}{kvs:List (α×β)}(h:xR ek ev w r kvs){k:α}(hno:nM k kvs=none)(v:β):
   ∃w',(Instr.mapUpdate mt (.map (some r)) (ek k) (ev v)).run P w=.ok () w'/\xR ek ev w' r (kvs++[(k,v)])/\w.grownBy w' (some r):=by
 obtain⟨es,c,hh,hkv⟩:=h
 have hlt:r<w.heap.size:=(Array.getElem?_eq_some_iff.1 hh).1
 have hnone:ma k kvs 0=none:=by
   have:=vy k kvs 0
   rw[hno]at this
   simpa using this
 refine⟨{ w with heap:=w.heap.setIfInBounds r (.map (es.push { key:=ek k,val:=ev v,born:=c }) (c+1)) },?_,⟨es.push { key:=ek k,val:=ev v,born:=c },c+1,by simp[hlt],?_⟩,⟨rfl,rfl,rfl,by simp,λj hj hne=>?_⟩⟩
 · unfold Instr.mapUpdate
   simp only[Sem.run_bind,bK hm,Result.andThen_ok,vp hh,hk.check,hk.find ev k _ _ _ hkv,hnone,Option.map_none]
   simp only[setObj,Sem.run,hh]
 · unfold KVg at hkv ⊢
   simp only[Array.toList_push,List.map_append,List.map_cons,List.map_nil,hkv]
 · have:r≠j:=λe=>hne (by rw[e])
   simp[Array.getElem?_setIfInBounds_ne this]
end
abbrev Pth:=List (List UInt8)
def gY (r:Rul):Pth:=(dz 46 [] r.2).reverse
def Dn (p:Pth):List Pth->Nat->Option Nat
 | [],_=>none
 | q::l,i=>if p=q then some i else Dn p l (i+1)
theorem pQ {p:Pth} :∀{l:List Pth} {i:Nat},Dn p l i=none ↔ p ∉ l
 | [],i=>by simp[Dn]
 | q::l,i=>by
   unfold Dn
   by_cases h:p=q
   · simp[h]
   · rw[if_neg h,pQ];simp[h]
theorem pR {p:Pth} :∀{l:List Pth} {i j:Nat},Dn p l i=some j->i <=j/\l[j-i]? =some p
 | [],i,j,h=>by cases h
 | q::l,i,j,h=>by
   unfold Dn at h
   split at h
   · rename_i e;cases h
     exact⟨Nat.le_refl _,by rw[Nat.sub_self,e];rfl⟩
   · obtain⟨h1,h2⟩:=pR h
     exact⟨by omega,by rw[show j-i=(j-(i+1))+1 by omega];exact h2⟩
theorem AO (p q:Pth):∀(l:List Pth) (i:Nat),Dn p (l++[q]) i=(Dn p l i).or (if p=q then some (i+l.length)else none)
 | [],i=>by
   show(if p=q then some i else none)=_
   split <;> rfl
 | x::l,i=>by
   show(if p=x then some i else Dn p (l++[q]) (i+1))=(if p=x then some i else Dn p l (i+1)).or _
   split
   · rfl
   · rw[AO p q l (i+1)]
     congr 2
     simp;omega
abbrev rC:=Int×List UInt8
structure MH (ps:List Pth)(kvs:List (rC×Int)):Prop where
 root:ps[0]? =some []
 first:∀(i:Nat) p,ps[i]? =some p->Dn p ps 0=some i
 closed:∀p l,p++[l]∈ps->p∈ps
 edge:∀(n:Nat) (l:List UInt8),nM ((n:Int),l) kvs=match ps[n]? with
   | some p=>(Dn (p++[l]) ps 0).map λi=>(i:Int)
   | none=>none
theorem RI:MH [[]] [] where
 root:=rfl
 first:=by
   intro i p h
   match i,h with
   | 0,h=>cases h;rfl
 closed:=by intro p l h;simp at h
 edge:=by
   intro n l
   match n with
   | 0=>rfl
   | n+1=>rfl
theorem MH.pos {ps:List Pth}{kvs:List (rC×Int)}(t:MH ps kvs){p:Pth}(h:p∈ps):∃i,Dn p ps 0=some i/\ps[i]? =some p:=by
 cases hp:Dn p ps 0 with
 | none=>exact absurd h (pQ.1 hp)
 | some i=>exact⟨i,rfl,by simpa using(pR hp).2⟩
theorem MH.grow {ps:List Pth}{kvs:List (rC×Int)}(t:MH ps kvs){n:Nat}{p:Pth}{l:List UInt8}(hn:ps[n]? =some p)(hno:p++[l] ∉ ps):MH (ps++[p++[l]]) (kvs++[(((n:Int),l),(ps.length:Int))]) where
 root:=by
   have:=t.root
   rw[List.getElem?_append_left (by have:=(List.getElem?_eq_some_iff.1 this).1;exact this)];exact this
 first:=by
   intro i q h
   rw[AO]
   by_cases hi:i<ps.length
   · rw[List.getElem?_append_left hi]at h
     rw[t.first i q h];rfl
   · rw[List.getElem?_append_right (by omega)]at h
     have h0:i=ps.length:=by
       have:=(List.getElem?_eq_some_iff.1 h).1
       simp at this;omega
     subst h0
     rw[Nat.sub_self]at h
     cases h
     rw[pQ.2 hno,if_pos rfl];simp
 closed:=by
   intro q x h
   rw[List.mem_append]at h ⊢
   rcases h with h|h
   · exact .inl (t.closed q x h)
   · rw[List.mem_singleton]at h
     have:=List.append_inj_left' h rfl
     subst this
     exact .inl (List.mem_of_getElem? hn)
 edge:=by
   intro m x
   rw[wL,t.edge m x]
   by_cases hm:m<ps.length
   · rw[List.getElem?_append_left hm]
     obtain⟨q,hq⟩:∃q,ps[m]? =some q:=⟨_,List.getElem?_eq_getElem hm⟩
     rw[hq]
     simp only
     rw[AO]
     have e:(((m:Int),x)=((n:Int),l)) ↔ (q++[x]=p++[l]):=by
       constructor
       · intro h
         have h1:m=n:=by have:=congrArg Prod.fst h;simp at this;omega
         have h2:x=l:=congrArg Prod.snd h
         subst h1 h2
         rw[hq]at hn
         rw[Option.some.inj hn]
       · intro h
         have h1:=List.append_inj_left' h rfl
         have h2:=List.append_inj_right' h rfl
         subst h1
         have:=(t.first m q hq).symm.trans (t.first n q hn)
         rw[Option.some.inj this,List.singleton_inj.1 h2]
     cases hp:Dn (q++[x]) ps 0 with
     | some i=>rfl
     | none=>
       by_cases he:q++[x]=p++[l]
       · rw[if_pos (e.2 he),if_pos he];simp
       · rw[if_neg (λh=>he (e.1 h)),if_neg he];rfl
   · have hnl:n<ps.length:=(List.getElem?_eq_some_iff.1 hn).1
     rw[List.getElem?_eq_none (l:=ps) (by omega)]
     rw[if_neg (λh=>by have:=congrArg Prod.fst h;simp at this;omega)]
     by_cases h0:m=ps.length
     · subst h0
       rw[List.getElem?_append_right (Nat.le_refl _),Nat.sub_self]
       simp only[List.getElem?_cons_zero]
       have h1:Dn (p++[l]++[x]) (ps++[p++[l]]) 0=none:=by
         rw[pQ,List.mem_append,List.mem_singleton]
         rintro(h|h)
         · exact hno (t.closed _ _ h)
         · have:=congrArg List.length h;simp at this
       rw[h1];rfl
     · rw[List.getElem?_append_right (by omega),List.getElem?_eq_none (l:=[p++[l]]) (by simp;omega)];rfl
def marks (rs:List Rul)(p:Pth):List Bool:=(List.range 4).map fun(k:Nat)=>rs.any λr=>decide (r.1=(k:Int)/\gY r=p)
theorem wN (rs:List Rul)(p:Pth):(marks rs p).length=4:=by simp[marks]
theorem Co (rs:List Rul)(p:Pth)(k:Nat)(h:k<4):(marks rs p)[k]? =some (rs.any λr=>decide (r.1=(k:Int)/\gY r=p)):=by
 unfold marks
 rw[List.getElem?_map,List.getElem?_range h];rfl
structure Tab (ps:List Pth)(es:List (List Bool))(rs:List Rul):Prop where
 len:es.length=ps.length
 mark:∀(i:Nat) p,ps[i]? =some p->es[i]? =some (marks rs p)
 rules:∀r∈rs,gY r∈ps
theorem Ul:Tab [[]] [[false,false,false,false]] [] where
 len:=rfl
 mark:=by
   intro i p h
   match i,h with
   | 0,h=>cases h;rfl
 rules:=by intro r h;cases h
theorem Tab.grow {ps:List Pth}{es:List (List Bool)}{rs:List Rul}(t:Tab ps es rs){q:Pth}(hq:q ∉ ps):Tab (ps++[q]) (es++[[false,false,false,false]]) rs where
 len:=by rw[List.length_append,List.length_append,t.len];rfl
 mark:=by
   intro i p h
   by_cases hi:i<ps.length
   · rw[List.getElem?_append_left hi]at h
     rw[List.getElem?_append_left (by rw[t.len];exact hi)]
     exact t.mark i p h
   · rw[List.getElem?_append_right (by omega)]at h
     have h0:i=ps.length:=by
       have:=(List.getElem?_eq_some_iff.1 h).1
       simp at this;omega
     subst h0
     rw[Nat.sub_self]at h
     cases h
     rw[List.getElem?_append_right (by rw[t.len];exact Nat.le_refl _),t.len,Nat.sub_self]
     show some _=some _
     congr 1
     have:∀k:Nat,(rs.any λr=>decide (r.1=(k:Int)/\gY r=q))=false:=λk=>by
       rw[List.any_eq_false]
       intro r hr
       simp only[dTx]
       rintro⟨-,he⟩
       exact hq (he▸t.rules r hr)
     unfold marks
     simp only[List.range_succ,List.range_zero,List.map_append,List.map_nil,List.map_cons,List.nil_append,this];rfl
 rules:=λr hr=>List.mem_append_left _ (t.rules r hr)
theorem Tab.rule {ps:List Pth}{kvs:List (rC×Int)}{es:List (List Bool)}{rs:List Rul}(T:MH ps kvs)(t:Tab ps es rs){r:Rul}{n:Nat}{k:Nat}(hk:r.1=(k:Int))(hn:ps[n]? =some (gY r))(h4:k<4):
   Tab ps (es.set n ((marks rs (gY r)).set k true)) (rs++[r]) where
 len:=by rw[List.length_set,t.len]
 mark:=by
   intro i p h
   have hnl:n<ps.length:=(List.getElem?_eq_some_iff.1 hn).1
   by_cases hi:n=i
   · subst hi
     have hp:p=gY r:=by rw[hn]at h;exact(Option.some.inj h).symm
     subst hp
     rw[List.getElem?_set_self (by rw[t.len];exact hnl)]
     congr 1
     apply List.ext_getElem?
     intro j
     by_cases hj:j<4
     · rw[Co _ _ _ hj,List.getElem?_set,wN]
       by_cases hkj:k=j
       · subst hkj
         rw[if_pos rfl,if_pos h4,List.any_append]
         simp[hk]
       · rw[if_neg hkj,Co _ _ _ hj,List.any_append]
         have: ¬ r.1=(j:Int):=by rw[hk];omega
         simp[this]
     · rw[List.getElem?_eq_none (by simp[wN];omega),List.getElem?_eq_none (by rw[wN];omega)]
   · rw[List.getElem?_set_ne hi,t.mark i p h]
     congr 1
     unfold marks
     apply List.map_congr_left
     intro k' _
     rw[List.any_append]
     have:gY r≠p:=by
       intro he
       subst he
       have:=(T.first i _ h).symm.trans (T.first n _ hn)
       exact hi (Option.some.inj this).symm
     simp[this]
 rules:=by
   intro x hx
   rcases List.mem_append.1 hx with hx|hx
   · exact t.rules x hx
   · rw[List.mem_singleton]at hx;subst hx;exact List.mem_of_getElem? hn
structure Top (d:Nat)(S:Nat->Prop)(m:Nat):Prop where
 is:m=d\/S m
 ge:d <=m
 le:∀x,S x->x <=m
theorem Top.eq {d:Nat}{S:Nat->Prop}{m m':Nat}(h:Top d S m)(h':Top d S m'):m=m':=by
 have a:m <=m':=by rcases h.is with e|e;rw[e];exact h'.ge;exact h'.le _ e
 have b:m' <=m:=by rcases h'.is with e|e;rw[e];exact h.ge;exact h.le _ e
 omega
theorem Top.congr {d:Nat}{S S':Nat->Prop}{m:Nat}(h:Top d S m)(e:∀x,S x ↔ S' x):Top d S' m:=⟨h.is.imp id (e m).1,h.ge,λx hx=>h.le x ((e x).2 hx)⟩
theorem Top.zero (d:Nat):Top d (λ_=>False) d:=⟨.inl rfl,Nat.le_refl _,λ_ h=>h.elim⟩
theorem Top.max {d:Nat}{S:Nat->Prop}{m:Nat}(h:Top d S m)(x:Nat):Top d (λy=>S y\/y=x) (max m x):=by
 by_cases c:m <=x
 · rw[Nat.max_eq_right c]
   exact⟨.inr (.inr rfl),Nat.le_trans h.ge c,λy hy=>hy.elim (λhy=>Nat.le_trans (h.le y hy) c) (λhy=>by omega)⟩
 · rw[Nat.max_eq_left (by omega)]
   exact⟨h.is.imp id .inl,h.ge,λy hy=>hy.elim (h.le y) (λhy=>by omega)⟩
def mB (rs:List Rul)(R:Pth)(n1 n2 x:Nat):Prop:=∃r∈rs,gY r=R.take (gY r).length/\(r.1=1/\(gY r).length <=n1/\(gY r).length=x\/r.1=2/\(gY r).length <=n2/\(gY r).length+1=x)
def gU (rs:List Rul)(R:Pth)(n x:Nat):Prop:=∃r∈rs,gY r=R.take (gY r).length/\r.1=3/\(gY r).length <=n/\(gY r).length-1=x
theorem Ov (s:List UInt8):eH (eH s)=eH s:=by
 have h:∀n,n<256->EJ (EJ (UInt8.ofNat n))=EJ (UInt8.ofNat n):=by decide+kernel
 unfold eH
 rw[List.map_map]
 apply List.map_congr_left
 intro c _
 have:=h c.toNat (by have:=c.toNat_lt;omega)
 rw[UInt8.ofNat_toNat]at this
 exact this
theorem Vt (s:List UInt8):(eH s).head?=some 91 ↔ s.head?=some 91:=by
 cases s with
 | nil=>simp[eH]
 | cons c r=>
   have h:∀n,n<256->(EJ (UInt8.ofNat n)=91 ↔ UInt8.ofNat n=91):=by decide+kernel
   have:=h c.toNat (by have:=c.toNat_lt;omega)
   rw[UInt8.ofNat_toNat]at this
   simpa[eH]using this
theorem Oa {s:List UInt8}{h:Hst}(e:di s=some h)(hk:h.kind=1):h=⟨1,eH s,ad0⟩/\di (eH s)=some h/\(eH s).length <=253:=by
 have e0:=e
 unfold di at e
 split at e
 · split at e
   · have:=IP e;omega
   · cases e
 rename_i h91
 split at e
 · cases h4:v4V s with
   | none=>rw[h4]at e;cases e
   | some a=>
     rw[h4]at e
     have:h.kind=2:=by rw[<- Option.some.inj e]
     omega
 rename_i hd
 split at e
 · rename_i hc
   have e1:=Option.some.inj e
   refine⟨e1.symm,?_,by simpa[eH]using hc.1⟩
   unfold di
   rw[if_neg (λhx=>h91 ((Vt s).1 hx)),Ov,if_neg hd,if_pos ⟨by simpa[eH]using hc.1,hc.2⟩,e1]
 · cases e
def Rq (r:Rul):Hst:=⟨1,r.2,ad0⟩
theorem OX (r:Rul):(Rq r).ok:=rfl
theorem L6 (u:List UInt8):(sy u).1=1\/(sy u).1=2\/(sy u).1=3:=by
 unfold sy
 split
 · exact .inr (.inl rfl)
 split
 · exact .inr (.inr rfl)
 · exact .inl rfl
structure E8 (r:Rul):Prop where
 kind:r.1=1\/r.1=2\/r.1=3
 len:r.2.length <=253
 host:di r.2=some (Rq r)
theorem Rr {r:Rul}(h:GU r=true):E8 r:=by
 unfold GU at h
 rw[Bool.and_eq_true,Bool.and_eq_true,beq_iff_eq,OU]at h
 obtain⟨h1,h2,h3⟩:=h
 generalize z7 r=s at*
 unfold jB at h1 h2 h3
 split at h1
 · rename_i hc;rw[if_pos hc]at h2;cases h2
 · rename_i hc
   rw[if_neg hc]at h2 h3
   have hk:=L6 (wm (trimB s))
   generalize sy (wm (trimB s))=kn at*
   obtain⟨k,n⟩:=kn
   unfold Q4 at h1 h2 h3
   cases hv:di n with
   | none=>simp only[hv]at h2;cases h2
   | some g=>
     simp only[hv]at h1 h2 h3
     split at h2
     · rename_i hg
       rw[if_pos hg]at h3
       obtain⟨g1,g2,g3⟩:=Oa hv hg.1
       have e1:r.1=k:=by rw[<- h3]
       have e2:r.2=eH n:=by rw[<- h3,g1]
       refine⟨by rw[e1];exact hk,by rw[e2];exact g3,?_⟩
       unfold Rq
       rw[e2,g2,g1]
     · cases h2
theorem E8.right {r:Rul}(h:E8 r):eQ (Rq r)=true:=by
 unfold eQ
 have:lq (Rq r)=r.2:=by unfold lq Rq;rw[if_pos rfl]
 rw[this,h.host]
 exact(wH (OX r) (OX r)).2 rfl
theorem E8.labels {r:Rul}(h:E8 r):aO (Rq r)=dz 46 [] r.2:=by
 unfold aO
 rw[if_pos ⟨rfl,h.right⟩];rfl
theorem E8.ne {r:Rul}(h:E8 r):(aO (Rq r)).length≠0:=by
 rw[h.labels]
 have:=List.length_pos_iff.2 (oF 46 r.2 [])
 omega
theorem E8.revl {r:Rul}(h:E8 r):gY r=(aO (Rq r)).reverse:=by rw[h.labels];rfl
theorem Gd {r:Rul} :0<(gY r).length:=by
 unfold Go.Pk.gY
 rw[List.length_reverse]
 exact List.length_pos_iff.2 (oF 46 r.2 [])
def Ry (R:Pth)(m:Nat)(r:Rul):Nat:=
 if gY r=R.take (gY r).length then(if r.1=1 then max m (gY r).length else if r.1=2/\(gY r).length<R.length then max m ((gY r).length+1)else m)else m
def Rx (R:Pth)(m:Nat)(r:Rul):Nat:=if gY r=R.take (gY r).length/\r.1=3 then max m ((gY r).length-1)else m
def V5 (rs:List Rul)(R:Pth):Nat:=rs.foldl (Ry R) 1
def Ve (rs:List Rul)(R:Pth):Nat:=rs.foldl (Rx R) 0
def UU (rs:List Rul)(R:Pth):Nat:=if R=[]then 0 else if 0<Ve rs R then Ve rs R else V5 rs R
theorem Lg {r:Rul}{R:Pth}(h:gY r=R.take (gY r).length):(gY r).length <=R.length:=by
 have:=congrArg List.length h
 rw[List.length_take]at this;omega
theorem KD (rs:List Rul)(R:Pth):Top 1 (mB rs R R.length (R.length-1)) (V5 rs R):=by
 suffices ∀(rs:List Rul) (S:Nat->Prop) (m:Nat),Top 1 S m->Top 1 (λx=>S x\/mB rs R R.length (R.length-1) x) (rs.foldl (Ry R) m) by
   exact(this rs _ 1 (Top.zero 1)).congr λx=>by simp
 intro rs
 induction rs with
 | nil=>exact λS m h=>h.congr λx=>by unfold mB;simp
 | cons r rs ih=>
   intro S m h
   rw[List.foldl_cons]
   have hsplit:∀x,mB (r::rs) R R.length (R.length-1) x ↔ mB [r] R R.length (R.length-1) x\/mB rs R R.length (R.length-1) x:=λx=>by
     unfold mB;simp
   have h1:Top 1 (λx=>S x\/mB [r] R R.length (R.length-1) x) (Ry R m r):=by
     have hl:=Gd (r:=r)
     unfold Ry
     by_cases c:gY r=R.take (gY r).length
     · have hle:=Lg c
       rw[if_pos c]
       by_cases c1:r.1=1
       · rw[if_pos c1]
         refine(h.max _).congr λx=>or_congr Iff.rfl ?_
         unfold mB
         constructor
         · rintro rfl;exact⟨r,by simp,c,.inl ⟨c1,hle,rfl⟩⟩
         · rintro⟨r',hr',c',h'⟩
           rw[List.mem_singleton]at hr';subst hr'
           rcases h' with⟨_,_,h'⟩|⟨c2,_⟩
           · exact h'.symm
           · rw[c1]at c2;exact absurd c2 (by decide)
       · rw[if_neg c1]
         by_cases c2:r.1=2/\(gY r).length<R.length
         · rw[if_pos c2]
           refine(h.max _).congr λx=>or_congr Iff.rfl ?_
           unfold mB
           constructor
           · rintro rfl;exact⟨r,by simp,c,.inr ⟨c2.1,by omega,rfl⟩⟩
           · rintro⟨r',hr',c',h'⟩
             rw[List.mem_singleton]at hr';subst hr'
             rcases h' with⟨c3,_⟩|⟨_,_,h'⟩
             · exact absurd c3 c1
             · exact h'.symm
         · rw[if_neg c2]
           refine h.congr λx=>?_
           have: ¬ mB [r] R R.length (R.length-1) x:=by
             rintro⟨r',hr',c',h'⟩
             rw[List.mem_singleton]at hr';subst hr'
             rcases h' with⟨c3,_⟩|⟨c3,c4,_⟩
             · exact c1 c3
             · exact c2 ⟨c3,by omega⟩
           simp[this]
     · rw[if_neg c]
       refine h.congr λx=>?_
       have: ¬ mB [r] R R.length (R.length-1) x:=by
         rintro⟨r',hr',c',-⟩
         rw[List.mem_singleton]at hr';subst hr'
         exact c c'
       simp[this]
   exact(ih _ _ h1).congr λx=>by rw[hsplit,or_assoc]
theorem KC (rs:List Rul)(R:Pth):Top 0 (gU rs R R.length) (Ve rs R):=by
 suffices ∀(rs:List Rul) (S:Nat->Prop) (m:Nat),Top 0 S m->Top 0 (λx=>S x\/gU rs R R.length x) (rs.foldl (Rx R) m) by
   exact(this rs _ 0 (Top.zero 0)).congr λx=>by simp
 intro rs
 induction rs with
 | nil=>exact λS m h=>h.congr λx=>by unfold gU;simp
 | cons r rs ih=>
   intro S m h
   rw[List.foldl_cons]
   have hsplit:∀x,gU (r::rs) R R.length x ↔ gU [r] R R.length x\/gU rs R R.length x:=λx=>by
     unfold gU;simp
   have h1:Top 0 (λx=>S x\/gU [r] R R.length x) (Rx R m r):=by
     unfold Rx
     by_cases c:gY r=R.take (gY r).length/\r.1=3
     · rw[if_pos c]
       refine(h.max _).congr λx=>or_congr Iff.rfl ?_
       unfold gU
       constructor
       · rintro rfl;exact⟨r,by simp,c.1,c.2,Lg c.1,rfl⟩
       · rintro⟨r',hr',c',c3,c4,h'⟩
         rw[List.mem_singleton]at hr';subst hr'
         exact h'.symm
     · rw[if_neg c]
       refine h.congr λx=>?_
       have: ¬ gU [r] R R.length x:=by
         rintro⟨r',hr',c',c3,c4,h'⟩
         rw[List.mem_singleton]at hr';subst hr'
         exact c ⟨c',c3⟩
       simp[this]
   exact(ih _ _ h1).congr λx=>by rw[hsplit,or_assoc]
theorem MH.take {ps:List Pth}{kvs:List (rC×Int)}(t:MH ps kvs):∀(j:Nat) (p:Pth),p∈ps->p.length <=j->∀k,p.take k∈ps
 | 0,p,hp,hl,k=>by
   have:p=[]:=List.length_eq_zero_iff.1 (by omega)
   subst this;rw[List.take_nil];exact hp
 | j+1,p,hp,hl,k=>by
   by_cases hk:p.length <=k
   · rw[List.take_of_length_le hk];exact hp
   · obtain⟨q,l,rfl⟩:∃q l,p=q++[l]:=by
       rcases List.eq_nil_or_concat p with h|⟨q,l,h⟩
       · subst h;simp at hk
       · exact⟨q,l,by simpa using h⟩
     rw[List.length_append,List.length_singleton]at hl hk
     have:=MH.take t j q (t.closed _ _ hp) (by omega) k
     rw[List.take_append_of_le_length (by omega)];exact this
theorem OE {ps:List Pth}{kvs:List (rC×Int)}{es:List (List Bool)}{rs:List Rul}(T:MH ps kvs)(t:Tab ps es rs){R:Pth}{k:Nat}(hk:k<R.length)(hno:R.take (k+1) ∉ ps):
   (∀x,mB rs R k k x ↔ mB rs R R.length (R.length-1) x)/\(∀x,gU rs R k x ↔ gU rs R R.length x):=by
 have hle:∀r∈rs,gY r=R.take (gY r).length->(gY r).length <=k:=λr hr c=>by
   refine Decidable.byContradiction λhc=>hno ?_
   have:=T.take _ _ (t.rules r hr) (Nat.le_refl _) (k+1)
   rw[c,List.take_take,Nat.min_eq_left (by omega)]at this
   exact this
 refine⟨λx=>?_,λx=>?_⟩
 · constructor
   · rintro⟨r,hr,c,h⟩
     refine⟨r,hr,c,?_⟩
     rcases h with⟨h1,h2,h3⟩|⟨h1,h2,h3⟩
     · exact .inl ⟨h1,by omega,h3⟩
     · exact .inr ⟨h1,by omega,h3⟩
   · rintro⟨r,hr,c,h⟩
     have:=hle r hr c
     refine⟨r,hr,c,?_⟩
     rcases h with⟨h1,h2,h3⟩|⟨h1,h2,h3⟩
     · exact .inl ⟨h1,this,h3⟩
     · exact .inr ⟨h1,this,h3⟩
 · constructor
   · rintro⟨r,hr,c,h1,h2,h3⟩;exact⟨r,hr,c,h1,by omega,h3⟩
   · rintro⟨r,hr,c,h1,h2,h3⟩;exact⟨r,hr,c,h1,hle r hr c,h3⟩
theorem Fm {rs:List Rul}{R:Pth}{k kk:Nat}(hk:k <=R.length):(rs.any λr=>decide (r.1=(kk:Int)/\gY r=R.take k))=true ↔ ∃r∈rs,r.1=(kk:Int)/\gY r=R.take (gY r).length/\(gY r).length=k:=by
 rw[List.any_eq_true]
 constructor
 · rintro⟨r,hr,h⟩
   rw[dTx]at h
   have hl:(gY r).length=k:=by rw[h.2,List.length_take];omega
   exact⟨r,hr,h.1,by rw[hl];exact h.2,hl⟩
 · rintro⟨r,hr,h1,h2,h3⟩
   exact⟨r,hr,decide_eq_true ⟨h1,by rw[h3]at h2;exact h2⟩⟩
theorem OG {rs:List Rul}{R:Pth}{k m:Nat}(hk:k <=R.length)(h:Top 1 (mB rs R k (k-1)) m)(hm:m <=k+1):
   Top 1 (mB rs R k k) (if(rs.any λr=>decide (r.1=((2:Nat):Int)/\gY r=R.take k))=true then k+1 else m):=by
 have hx:∀x,mB rs R k k x ↔ (mB rs R k (k-1) x\/(x=k+1/\(rs.any λr=>decide (r.1=((2:Nat):Int)/\gY r=R.take k))=true)):=λx=>by
   rw[Fm hk]
   constructor
   · rintro⟨r,hr,c,h⟩
     rcases h with h|⟨h1,h2,h3⟩
     · exact .inl ⟨r,hr,c,.inl h⟩
     · by_cases e:(gY r).length=k
       · exact .inr ⟨by omega,r,hr,h1,c,e⟩
       · exact .inl ⟨r,hr,c,.inr ⟨h1,by omega,h3⟩⟩
   · rintro(⟨r,hr,c,h⟩|⟨rfl,r,hr,h1,c,h2⟩)
     · refine⟨r,hr,c,?_⟩
       rcases h with h|⟨h1,h2,h3⟩
       · exact .inl h
       · exact .inr ⟨h1,by omega,h3⟩
     · exact⟨r,hr,c,.inr ⟨h1,by omega,by omega⟩⟩
 split
 · rename_i hm2
   have:=h.max (k+1)
   rw[Nat.max_eq_right hm]at this
   exact this.congr λx=>by rw[hx x,and_iff_left hm2]
 · rename_i hm2
   exact h.congr λx=>by rw[hx x];exact⟨.inl,λh=>h.elim id λh=>absurd h.2 hm2⟩
theorem OC {rs:List Rul}{R:Pth}{k m:Nat}(hk:k<R.length)(h:Top 1 (mB rs R k k) m)(hm:m <=k+1):
   Top 1 (mB rs R (k+1) k) (if(rs.any λr=>decide (r.1=((1:Nat):Int)/\gY r=R.take (k+1)))=true then k+1 else m):=by
 have hx:∀x,mB rs R (k+1) k x ↔ (mB rs R k k x\/(x=k+1/\(rs.any λr=>decide (r.1=((1:Nat):Int)/\gY r=R.take (k+1)))=true)):=λx=>by
   rw[Fm (by omega)]
   constructor
   · rintro⟨r,hr,c,h⟩
     rcases h with⟨h1,h2,h3⟩|h
     · by_cases e:(gY r).length=k+1
       · exact .inr ⟨by omega,r,hr,h1,c,e⟩
       · exact .inl ⟨r,hr,c,.inl ⟨h1,by omega,h3⟩⟩
     · exact .inl ⟨r,hr,c,.inr h⟩
   · rintro(⟨r,hr,c,h⟩|⟨rfl,r,hr,h1,c,h2⟩)
     · refine⟨r,hr,c,?_⟩
       rcases h with⟨h1,h2,h3⟩|h
       · exact .inl ⟨h1,by omega,h3⟩
       · exact .inr h
     · exact⟨r,hr,c,.inl ⟨h1,by omega,h2⟩⟩
 split
 · rename_i hm2
   have:=h.max (k+1)
   rw[Nat.max_eq_right hm]at this
   exact this.congr λx=>by rw[hx x,and_iff_left hm2]
 · rename_i hm2
   exact h.congr λx=>by rw[hx x];exact⟨.inl,λh=>h.elim id λh=>absurd h.2 hm2⟩
theorem JD {rs:List Rul}{R:Pth}{k m:Nat}(hk:k<R.length)(h:Top 0 (gU rs R k) m)(hm:m <=k):
   Top 0 (gU rs R (k+1)) (if(rs.any λr=>decide (r.1=((3:Nat):Int)/\gY r=R.take (k+1)))=true then k else m):=by
 have hx:∀x,gU rs R (k+1) x ↔ (gU rs R k x\/(x=k/\(rs.any λr=>decide (r.1=((3:Nat):Int)/\gY r=R.take (k+1)))=true)):=λx=>by
   rw[Fm (by omega)]
   constructor
   · rintro⟨r,hr,c,h1,h2,h3⟩
     by_cases e:(gY r).length=k+1
     · exact .inr ⟨by omega,r,hr,h1,c,e⟩
     · exact .inl ⟨r,hr,c,h1,by omega,h3⟩
   · rintro(⟨r,hr,c,h1,h2,h3⟩|⟨rfl,r,hr,h1,c,h2⟩)
     · exact⟨r,hr,c,h1,by omega,h3⟩
     · exact⟨r,hr,c,h1,by omega,by omega⟩
 split
 · rename_i hm2
   have:=h.max k
   rw[Nat.max_eq_right hm]at this
   exact this.congr λx=>by rw[hx x,and_iff_left hm2]
 · rename_i hm2
   exact h.congr λx=>by rw[hx x];exact⟨.inl,λh=>h.elim id λh=>absurd h.2 hm2⟩
def XB (ad lb dg:Nat->Bool)(s x:Nat):Nat:=
 if s=1 then(if ad x=true then 3 else if lb x=true/\dg x=false then 2 else 0)else if s=2 then(if ad x=false/\lb x=true then 2 else 0)else 0
def hNx (ad lb dg:Nat->Bool)(k j:Nat):List Int:=(List.range (4*k)).map λi=>if i%k<j then((XB ad lb dg (i/k) (i%k):Nat):Int)else 0
def hD (ad lb dg:Nat->Bool)(k:Nat):DA:=⟨(k:Int),1,hNx ad lb dg k k,[false,false,true,true]⟩
def hsW (ad lb dg:Nat->Bool):List Nat->Prop
 | []=>False
 | x::r=>ad x=true/\r=[]\/ad x=false/\lb x=true/\dg x=false/\∀y∈r,ad y=false/\lb y=true
theorem Sm (ts:List Txt)(s:Txt):0 <=ofT ts s/\ofT ts s <=(ts.length:Int):=by
 unfold ofT
 have:=List.countP_le_length (p:=λx=>decide (x<s)) (l:=ts)
 split <;> omega
theorem JJ {h:Hst}(o:h.ok)(r:eQ h=true):di (lq h)=some h:=by
 unfold eQ at r
 cases hh:di (lq h)with
 | none=>rw[hh]at r;cases r
 | some g=>rw[hh]at r;rw[(wH (jT hh) o).1 r]
def nR (h:Hst):List Txt:=if eQ h=true then(if h.kind=1 then(aO h).reverse else[lq h])else[]
def hwV (ts:List Txt)(h:Hst):List Int:=(nR h).map (ofT ts)
theorem wJ {h:Hst}(o:h.ok)(hk:h.kind=1)(hr:eQ h=true):aO h=dz 46 [] h.name/\aO h≠[]:=by
 have e:aO h=dz 46 [] h.name:=by unfold aO;rw[if_pos ⟨hk,hr⟩]
 exact⟨e,by rw[e];exact oF 46 h.name []⟩
theorem RQ {h:Hst}(o:h.ok):nR h≠[] ↔ eQ h=true:=by
 unfold nR
 by_cases hr:eQ h=true
 · rw[if_pos hr]
   simp only[hr,iff_true]
   by_cases hk:h.kind=1
   · rw[if_pos hk]
     intro e
     exact(wJ o hk hr).2 (List.reverse_eq_nil_iff.1 e)
   · rw[if_neg hk];simp
 · rw[if_neg hr];simp[hr]
theorem L8 {h:Hst}(o:h.ok):∀x∈aO h,ki x=true:=by
 intro x hx
 unfold aO at hx
 split at hx
 · rename_i hc
   exact List.all_eq_true.1 (ER o hc.1 hc.2).2.2.1 x hx
 · cases hx
def Wt (s:Txt):Bool:=match di s with|some h=> !decide (h.kind=1)&&(lq h==s)|none=>false
theorem QT (x y:Txt)(r:List Txt):Lib.join (x::y::r) [46]=x++46::Lib.join (y::r) [46]:=by
 rw[Lib.join_cons,Lib.join_cons]
 simp[Lib.joinTail]
theorem JP {x:Txt}(h:ki x=true):1 <=x.length/\x.length <=63/\∀c∈x,DG c=true:=by
 unfold ki at h
 rw[Bool.and_eq_true,Bool.and_eq_true,dTx,dTx]at h
 exact⟨h.1.1,h.1.2,λc hc=>List.all_eq_true.1 h.2 c hc⟩
section
open Go.Pk Go.RowKit Go.Shelf
attribute [local go_sem] Oper.semAt_some
theorem SS (a:Option Addr)(n c:Nat)(w:World):Cf 137 #[.slice a n c] w λe w'=>e=.returned (.func (.func 224) #[] #[.pointer (some ⟨w.heap.size,0,none⟩)])/\w'=w.alloc (.cells #[.slice a n c] aw):=by
 refine(j0 a n c (K:=λv w'=>v=(.func (.func 224) #[] #[.pointer (some ⟨w.heap.size,0,none⟩)])/\w'=w.alloc (.cells #[.slice a n c] aw)) ?_).mono ?_
 · intro k1 w1 hk1 hw1
   subst hk1 hw1
   exact⟨rfl,rfl⟩
 · rintro e w' ⟨v,rfl,rfl,rfl⟩
   exact⟨rfl,rfl⟩
theorem TK (s:List UInt8)(w:World):(Instr.buildSlice aw 1 #[(0,vS s)]).run prog w=.ok (.slice (some ⟨w.heap.size,0,none⟩) 1 1) (w.alloc (.cells #[vS s] ak)):=by kernel_rfl
theorem TW {w:World}{k:Nat}{t:TypeId}{s:List UInt8}(h:ai w k t [vS s]):Sl tS w uc (some ⟨k,0,none⟩) 1 1 [s]:=
 ⟨rfl,Nat.le_refl _,by decide,.inr ⟨k,0,rfl,h.lt,trivial,[vS s],kg.one (qO trivial),λj hj=>by rw[Nat.zero_add];exact h.cell j⟩⟩
theorem Fv:∀(s cur:List UInt8),(dz 46 cur s).length <=s.length+1
 | [],cur=>by simp[dz]
 | x::s,cur=>by
   unfold dz
   split
   · rw[List.length_cons,List.length_cons];exact Nat.succ_le_succ (Fv s _)
   · rw[List.length_cons];exact Nat.le_succ_of_le (Fv s _)
theorem L7 {h:Hst}(o:h.ok)(hn:h.name.length <=1000000):(aO h).length <=1000001:=by
 unfold aO
 split
 · have:=Fv h.name [];omega
 · simp
def Vz:List (List Nat):=[[0,1,2,3,4,5,6],[0,2,1,3,4,5,6],[1,0,2,3,4,5,6],[1,2,0,3,4,5,6],[1,2,3,0,4,5,6],[1,2,3,4,0,5,6],[2,0,1,3,4,5,6],[2,1,0,3,4,5,6],[2,1,3,0,4,5,6],[2,1,3,4,0,5,6]]
theorem Ow.inside {α:Type}{T:Ty α}{t:TypeId}{w:World}{A:Bl}{a:Option Addr}{n c:Nat}{xs:List α}(h:Ow T t w A a n c xs):∀b o,a=some ⟨b,o,none⟩->b<w.heap.size:=by
 intro b o e
 rcases h.2.2.2 with⟨e1,_⟩|⟨g,cur,fr,e1,hh,_⟩
 · rw[e1]at e;cases e
 · rw[e1]at e;cases e
   exact(Array.getElem?_eq_some_iff.1 hh).1
set_option maxRecDepth 100000 in
set_option maxHeartbeats 4000000 in
theorem BZ {h:Hst}(o:h.ok)(hn:h.name.length <=1000000){w:World}(he:Env w){p:Option Addr}{ts:List Txt}(hA:ky w p ts):
   CallsIn Fence.wide 6 prog 67 #[.pointer p,h.v] w λe w'=>∃(a:Option Addr) (n c:Nat),e=.returned (.slice a n c)/\Ow lS aP w' NoB a n c (hwV ts h)/\bg w.heap.size a/\bW w w':=by
 have hF:∀g:FuncId,Fence.wide.fn g:=λ_=>trivial
 obtain⟨w1,hw1⟩:∃w1,w1=w.alloc (.cells (Value.cells (.pointer p)) bI):=⟨_,rfl⟩
 obtain⟨w2,hw2⟩:∃w2,w2=w1.alloc (.cells (Value.cells h.v) af):=⟨_,rfl⟩
 obtain⟨k1,hk1⟩:∃k1,k1=w.heap.size:=⟨_,rfl⟩
 obtain⟨k2,hk2⟩:∃k2,k2=w1.heap.size:=⟨_,rfl⟩
 have b1:bW w w1:=hw1▸ah w _
 have b2:bW w1 w2:=hw2▸ah w1 _
 have A1:ai w1 k1 bI [.pointer p]:=ai.new hk1 hw1
 have A2:ai w2 k2 af h.cells:=ai.new hk2 hw2
 have B2:=ab b1 b2 b1.size
 refine callsIn_of_wp_marks func67 rfl trivial ?_ rfl
 simp only[Tryz.ntmps67,List.size_toArray,List.length_cons,List.length_nil,Nat.reduceAdd,Nat.reduceSub,Array.replicate_succ,Array.replicate_zero,List.push_toArray,List.append_toArray,List.nil_append,List.cons_append]
 have eR:=enters_of func56 (by kernel_rfl) rfl
 have eL:=enters_of func96 (by kernel_rfl) rfl
 have eT:=enters_of func57 (by kernel_rfl) rfl
 have eB:=enters_of func137 (by kernel_rfl) rfl
 have eO:=enters_of func138 (by kernel_rfl) rfl
 refine PI ?_
 apply wpIn_region_lit
 refine Xp rfl rfl (u:=.pointer p) rfl hk1 hw1 ?_
 refine Xp rfl rfl (u:=h.v) rfl hk2 hw2 ?_
 refine rH rfl (.inr rfl) (u:=.slice none 0 0) rfl ?_
 refine Se ?_
 simp only[Act.put,List.setIfInBounds_toArray,List.set_cons_succ,List.set_cons_zero]
 refine PI ?_
 refine PI ?_
 apply wpIn_region_lit
 refine lN rfl rfl rfl (bc.load0 A2 (Hst.len o)) ?_
 refine KG rfl rfl (u:=h.v) rfl (by decide) hF eR ((callsIn_wide.2 (jV o (by omega) w2 (he.step B2))).mono ?_)
 rintro _ w3 ⟨_,rfl,rfl,b3⟩
 refine⟨_,rfl,?_⟩
 have B3:=ab B2 b3 B2.size
 refine QL rfl (λc hc=>by cases hc) rfl (v:=.bool (!eQ h)) (w':=w3) (by kernel_rfl) ?_
 refine Se ?_
 simp only[Act.put,List.setIfInBounds_toArray,List.set_cons_succ,List.set_cons_zero]
 have early:eQ h=false->hwV ts h=[]:=λhr=>by unfold hwV nR;rw[if_neg (by rw[hr];simp)];rfl
 cases hr:eQ h with
 | false=>
   refine wpIn_cond_true rfl ?_
   refine PI ?_
   apply wpIn_region_lit
   refine rH rfl (.inr rfl) (u:=.slice none 0 0) rfl ?_
   refine Se ?_
   refine wpIn_ret ?_
   simp only[Act.put,List.setIfInBounds_toArray,List.set_cons_succ,List.set_cons_zero]
   refine⟨_,Go.results_tmp rfl _ _ _,none,0,0,rfl,?_,bg.none _,B3⟩
   rw[early hr];exact Ow.nil _ _ _ _
 | true=>
 refine wpIn_cond_false rfl ?_
 refine wpIn_skip ?_
 refine PI ?_
 apply wpIn_region_lit
 refine lN rfl rfl rfl (bc.load0 (A2.below b3) (Hst.len o)) ?_
 refine KG rfl rfl (u:=h.v) rfl (by decide) hF eL ((callsIn_wide.2 (eS o (by omega) w3 (he.step B3))).mono ?_)
 rintro _ w4 ⟨_,rfl,la,ln,lc,rfl,ol,fl,b4⟩
 refine⟨_,rfl,?_⟩
 have B4:=ab B3 b4 B3.size
 have A24:=(A2.below b3).below b4
 refine rH rfl (.inr rfl) (u:=.slice la ln lc) rfl ?_
 refine Se ?_
 simp only[Act.put,List.setIfInBounds_toArray,List.set_cons_succ,List.set_cons_zero]
 refine WM (λa' W=>∃(x4 x6 x7 x8 x9 x10 x11 x12 x13 x14 x15 x16 x17 x18 x19 x20 x21 x22 x23 x24 x25 x26 x27 x28 x29 x30:Value) (a:Option Addr) (n c:Nat) (T:List Txt),a'= { tmps:= #[.pointer p,h.v,.pointer (some ⟨k1,0,none⟩),.pointer (some ⟨k2,0,none⟩),x4,.slice a n c,x6,x7,x8,x9,x10,x11,x12,x13,x14,x15,x16,x17,x18,x19,x20,x21,x22,x23,x24,x25,x26,x27,x28,x29,x30],defers:=[] } /\Sl tS W uc a n c T/\(∀b o,a=some ⟨b,o,none⟩->b<W.heap.size)/\T.reverse.map (ofT ts)=hwV ts h/\T.length <=1000001/\bW w W/\bW w2 W) ?_ ?_
 · refine PI ?_
   apply wpIn_region_lit
   refine QL rfl (λc hc=>by cases hc) rfl (v:=.pointer (some ⟨k2,0,none⟩)) (w':=w4) (by kernel_rfl) ?_
   refine lN rfl rfl rfl (A24.load1 cD rfl rfl) ?_
   refine QL rfl (λc hc=>by cases hc) rfl (v:=.bool (h.kind !=1)) (w':=w4) (by kernel_rfl) ?_
   refine Se ?_
   simp only[Act.put,List.setIfInBounds_toArray,List.set_cons_succ,List.set_cons_zero]
   by_cases hk:h.kind=1
   · refine wpIn_cond_false (by show Value.bool (h.kind !=1)=_;rw[hk];rfl) ?_
     refine wpIn_skip ?_
     have ew:nR h=(aO h).reverse:=by unfold nR;rw[if_pos hr,if_pos hk]
     exact⟨_,_,_,_,_,_,_,_,_,_,_,_,_,_,_,_,_,_,_,_,_,_,_,_,_,_,la,ln,lc,aO h,rfl,ol.all,Ow.inside ol,by unfold hwV;rw[ew],L7 o hn,B4,ab b3 b4 b3.size⟩
   · refine wpIn_cond_true (by show Value.bool (h.kind !=1)=_;congr 1;simp[hk]) ?_
     apply wpIn_region_lit
     refine lN rfl rfl rfl (bc.load0 A24 (Hst.len o)) ?_
     refine KG rfl rfl (u:=h.v) rfl (by decide) hF eT ((callsIn_wide.2 (sw o w4 (he.step B4))).mono ?_)
     rintro _ w5 ⟨_,rfl,rfl,b5⟩
     refine⟨_,rfl,?_⟩
     have B5:=ab B4 b5 B4.size
     refine nf rfl rfl (u:=vS (lq h)) rfl (TK _ w5) ?_
     refine rH rfl (.inr rfl) (u:=.slice (some ⟨w5.heap.size,0,none⟩) 1 1) rfl ?_
     apply WL
     simp only[Act.put,List.setIfInBounds_toArray,List.set_cons_succ,List.set_cons_zero]
     have b6:bW w5 (w5.alloc (.cells #[vS (lq h)] ak)):=ah w5 _
     have ew:nR h=[lq h]:=by unfold nR;rw[if_pos hr,if_neg hk]
     exact⟨_,_,_,_,_,_,_,_,_,_,_,_,_,_,_,_,_,_,_,_,_,_,_,_,_,_,_,1,1,[lq h],rfl,TW (ai.new rfl rfl),(λb o e=>by cases e;simp),by unfold hwV;rw[ew];rfl,by simp,ab B5 b6 B5.size,ab (ab b3 b4 b3.size) (ab b5 b6 b5.size) (Nat.le_trans b3.size b4.size)⟩
 · rintro a' W ⟨x4,x6,x7,x8,x9,x10,x11,x12,x13,x14,x15,x16,x17,x18,x19,x20,x21,x22,x23,x24,x25,x26,x27,x28,x29,x30,a,n,c,T,rfl,hT,hTa,hTw,hTl,BW,B2W⟩
   obtain⟨w6,hw6⟩:∃w6,w6=W.alloc (.cells #[.slice none 0 0] aZ):=⟨_,rfl⟩
   obtain⟨k6,hk6⟩:∃k6,k6=W.heap.size:=⟨_,rfl⟩
   obtain⟨w7,hw7⟩:∃w7,w7=w6.alloc (.cells #[.slice a n c] aw):=⟨_,rfl⟩
   obtain⟨k7,hk7⟩:∃k7,k7=w6.heap.size:=⟨_,rfl⟩
   have b6:bW W w6:=hw6▸ah W _
   have b7:bW w6 w7:=hw7▸ah w6 _
   have A6:ai w6 k6 aZ [.slice none 0 0]:=ai.new hk6 hw6
   have A7:ai w7 k7 aw [.slice a n c]:=ai.new hk7 hw7
   have B7:=ab BW (ab b6 b7 b6.size) BW.size
   have B27:=ab B2W (ab b6 b7 b6.size) B2W.size
   refine PI ?_
   apply wpIn_region_lit
   refine Vi rfl rfl (v:=.pointer (some ⟨k6,0,none⟩)) (w':=w6) (by rw[hk6,hw6];rfl) ?_
   refine Se ?_
   simp only[Act.put,List.setIfInBounds_toArray,List.set_cons_succ,List.set_cons_zero]
   refine PI ?_
   refine PI ?_
   apply wpIn_region_lit
   refine rH rfl (.inl rfl) (u:=.slice a n c) rfl ?_
   refine KG rfl rfl (u:=.slice a n c) rfl (by decide) hF eB ((callsIn_wide.2 (SS a n c w6)).mono ?_)
   rintro _ w7' ⟨rfl,hw7'⟩
   rw[<- hw7]at hw7'
   rw[hw7']
   clear hw7' w7'
   rw[<- hk7]
   refine⟨_,rfl,?_⟩
   refine Se ?_
   simp only[Act.put,List.setIfInBounds_toArray,List.set_cons_succ,List.set_cons_zero]
   apply wpIn_block
   have hTs:=(hT.below b6).below b7
   have k67:k6<k7:=by have:=A6.lt;omega
   have k7l:=A7.lt
   have AW0:ai w7 k6 aZ [.slice none 0 0]:=A6.below b7
   have hAp:ky w7 p ts:=hA.below B7
   have A17:ai w7 k1 bI [.pointer p]:=((A1.below b2)).below B27
   obtain⟨w7s,hw7s⟩:∃n,n=w7.heap.size:=⟨_,rfl⟩
   have hTa7:∀b o,a=some ⟨b,o,none⟩->b<k6:=λb o e=>by rw[hk6];exact hTa b o e
   have k6lt:k6<w7.heap.size:=by omega
   have I0:PL lS aP aZ k6 w7.heap.size w7 (([]:List (Int×Txt)).map λx=>ofT ts x.2) w7:=⟨none,0,0,AW0,Ow.nil _ _ _ _,(λg hg=>by cases hg),Below.refl _ _⟩
   refine wpIn_rangeFunc_ownG rfl (by decide) (gf:=224) (lb:= #[.pointer (some ⟨k7,0,none⟩)]) rfl trivial (enters_of func224 (by kernel_rfl) rfl)
     (LF Fence.wide 5 trivial rfl (by decide) k7 T (by omega) A7 hTs) (λh1 h2=>h1.trans h2) (λV l o o' hl _ _ _=>Ch λb hb e=> ?hKb) (Below.refl _ _) (λ_=>rfl)
     (λpre V=>PL lS aP aZ k6 w7.heap.size w7 (pre.map λx=>ofT ts x.2) V/\pre.length <=1000001) (λ_ _ _=>False) (OwnFrom.and (Qk k6lt) (ownFrom_pure _ _)) (λ_ _ _ _ _ hs _ _=>hs) ⟨I0,by simp⟩
     (λx=> { tmps:= #[.pointer p,h.v,.pointer (some ⟨k1,0,none⟩),.pointer (some ⟨k2,0,none⟩),x4,.slice a n c,.pointer (some ⟨k6,0,none⟩),x7,vS x.2,x9,x10,x11,x12,x13,x14,x15,x16,x17,x18,x19,.slice a n c,.func (.func 224) #[] #[.pointer (some ⟨k7,0,none⟩)],vI x.1,vS x.2,x24,x25,x26,x27,x28,x29,x30],defers:=[] }) ?assign ?body ?done ?stop
   case hKb=>
     rcases hb with rfl|⟨o2,e2⟩
     · omega
     · have:=hTa7 b o2 e2;omega
   case assign=>
     intro l x V K hK
     apply wpIn_region_lit
     simp only[List.zip_toArray,List.foldl_toArray',List.foldl_toArray,List.zip_cons_cons,List.zip_nil_left,List.zip_nil_right,List.foldl_cons,List.foldl_nil,List.setIfInBounds_toArray,List.set_cons_succ,List.set_cons_zero]
     refine rH rfl (.inr rfl) (u:=vS x.2) rfl ?_
     exact WL hK
   case body=>
     rintro l pre x V ⟨hC,hlen0⟩ hlen
     obtain⟨a1,n1,c1,C1,C2,C3,C4⟩:=hC.drew
     have hwk:w.heap.size <=k6:=by rw[hk6];exact BW.size
     have hAV:ky V.drew p ts:=hA.below (B7.trans (C4.mono hwk))
     have hk1k:k1<k6:=by have:=A1.lt;have:=b2.size;have:=B2W.size;omega
     have A1V:ai V.drew k1 bI [.pointer p]:=A17.block (C4.block k1 hk1k)
     obtain⟨V1,hV1⟩:∃V1,V1=V.drew.alloc (.cells #[vI (ofT ts x.2)] aP):=⟨_,rfl⟩
     obtain⟨kx,hkx⟩:∃kx,kx=V.drew.heap.size:=⟨_,rfl⟩
     have bV:Below V.drew.heap.size V.drew V1:=hV1▸ah _ _
     obtain⟨V2,a2,n2,c2,q2,V3,q3,C',kf,oth⟩:=Nw tV fh fV (by decide) CY C1 C2 C3 C4 k6lt C4.size hkx hV1 (show lS.rep V.drew NoB [vI (ofT ts x.2)] (ofT ts x.2) from⟨rfl,trivial⟩) (by rw[List.length_map];omega)
     have l6:(Instr.loadAt aZ (.pointer (some ⟨k6,0,none⟩))).run prog V.drew=.ok (.slice a1 n1 c1) V.drew:=C1.load1 fh rfl rfl
     have l6':(Instr.loadAt aZ (.pointer (some ⟨k6,0,none⟩))).run prog V1=.ok (.slice a1 n1 c1) V1:=(C1.below bV).load1 fh rfl rfl
     have l1:(Instr.loadAt bI (.pointer (some ⟨k1,0,none⟩))).run prog V.drew=.ok (.pointer p) V.drew:=A1V.load1 fK rfl rfl
     have qb:(Instr.buildSlice aZ 1 #[(0,vI (ofT ts x.2))]).run prog V.drew=.ok (.slice (some ⟨kx,0,none⟩) 1 1) V1:=by rw[hV1,hkx];kernel_rfl
     have qc:CallsIn Fence.wide (6-1-1-1) prog 138 #[.pointer p,vS x.2] V.drew λe w'=>e=.returned (vI (ofT ts x.2))/\w'=V.drew:=
       (callsIn_wide.2 (Ir p ts x.2 V.drew hAV)).mono λe w' ⟨v,he,hv,hw⟩=>⟨by rw[he,hv],hw⟩
     have gfin:∀{aa:Act},(Exit.inBlock 1 (ownPostG w7.heap.size (vV λb=>b=k7\/∃o,a=some ⟨b,o,none⟩) (λpre V=>PL lS aP aZ k6 w7.heap.size w7 (pre.map λx=>ofT ts x.2) V/\pre.length <=1000001) (λ_ _ _=>False) (pre++[x]) V)) .normal aa V3:=by
       intro aa
       refine⟨⟨kf.size,kf.same⟩,⟨kf.size,λb hb hab=>?_⟩,?_,by simp;omega⟩
       · rcases hab with rfl|⟨o2,e2⟩
         · exact oth b k7l (by omega)
         · have:=hTa7 b o2 e2
           exact oth b (by omega) (by omega)
       · rw[List.map_append];exact C'
     apply wpIn_block
     refine Tl rfl Vz (by kernel_rfl) ?_
     intro ord hord
     simp only[Vz,List.mem_cons,List.not_mem_nil,or_false]at hord
     rcases hord with rfl|rfl|rfl|rfl|rfl|rfl|rfl|rfl|rfl|rfl
     all_goals simp only[List.filterMap_cons,List.filterMap_nil,List.getElem?_toArray,List.getElem?_cons_zero,List.getElem?_cons_succ]
     · refine lN (by kernel_rfl) rfl (by kernel_rfl) l6 ?_
       refine lN (by kernel_rfl) rfl (by kernel_rfl) l1 ?_
       refine rH (by kernel_rfl) (.inl rfl) (u:=vS x.2) (by kernel_rfl) ?_
       refine ut (by kernel_rfl) rfl (u:=.pointer p) (v:=vS x.2) (by kernel_rfl) (by kernel_rfl) (by decide) (λ_=>trivial) eO (qc.mono ?_)
       rintro _ _ ⟨rfl,rfl⟩
       refine⟨_,rfl,?_⟩
       refine nf (by kernel_rfl) rfl (by kernel_rfl) qb ?_
       refine pd (by kernel_rfl) rfl (by kernel_rfl) (by kernel_rfl) q2 ?_
       exact uv (by kernel_rfl) rfl (by kernel_rfl) (by kernel_rfl) q3 (wpListIn_nil gfin)
     · refine lN (by kernel_rfl) rfl (by kernel_rfl) l6 ?_
       refine rH (by kernel_rfl) (.inl rfl) (u:=vS x.2) (by kernel_rfl) ?_
       refine lN (by kernel_rfl) rfl (by kernel_rfl) l1 ?_
       refine ut (by kernel_rfl) rfl (u:=.pointer p) (v:=vS x.2) (by kernel_rfl) (by kernel_rfl) (by decide) (λ_=>trivial) eO (qc.mono ?_)
       rintro _ _ ⟨rfl,rfl⟩
       refine⟨_,rfl,?_⟩
       refine nf (by kernel_rfl) rfl (by kernel_rfl) qb ?_
       refine pd (by kernel_rfl) rfl (by kernel_rfl) (by kernel_rfl) q2 ?_
       exact uv (by kernel_rfl) rfl (by kernel_rfl) (by kernel_rfl) q3 (wpListIn_nil gfin)
     · refine lN (by kernel_rfl) rfl (by kernel_rfl) l1 ?_
       refine lN (by kernel_rfl) rfl (by kernel_rfl) l6 ?_
       refine rH (by kernel_rfl) (.inl rfl) (u:=vS x.2) (by kernel_rfl) ?_
       refine ut (by kernel_rfl) rfl (u:=.pointer p) (v:=vS x.2) (by kernel_rfl) (by kernel_rfl) (by decide) (λ_=>trivial) eO (qc.mono ?_)
       rintro _ _ ⟨rfl,rfl⟩
       refine⟨_,rfl,?_⟩
       refine nf (by kernel_rfl) rfl (by kernel_rfl) qb ?_
       refine pd (by kernel_rfl) rfl (by kernel_rfl) (by kernel_rfl) q2 ?_
       exact uv (by kernel_rfl) rfl (by kernel_rfl) (by kernel_rfl) q3 (wpListIn_nil gfin)
     · refine lN (by kernel_rfl) rfl (by kernel_rfl) l1 ?_
       refine rH (by kernel_rfl) (.inl rfl) (u:=vS x.2) (by kernel_rfl) ?_
       refine lN (by kernel_rfl) rfl (by kernel_rfl) l6 ?_
       refine ut (by kernel_rfl) rfl (u:=.pointer p) (v:=vS x.2) (by kernel_rfl) (by kernel_rfl) (by decide) (λ_=>trivial) eO (qc.mono ?_)
       rintro _ _ ⟨rfl,rfl⟩
       refine⟨_,rfl,?_⟩
       refine nf (by kernel_rfl) rfl (by kernel_rfl) qb ?_
       refine pd (by kernel_rfl) rfl (by kernel_rfl) (by kernel_rfl) q2 ?_
       exact uv (by kernel_rfl) rfl (by kernel_rfl) (by kernel_rfl) q3 (wpListIn_nil gfin)
     · refine lN (by kernel_rfl) rfl (by kernel_rfl) l1 ?_
       refine rH (by kernel_rfl) (.inl rfl) (u:=vS x.2) (by kernel_rfl) ?_
       refine ut (by kernel_rfl) rfl (u:=.pointer p) (v:=vS x.2) (by kernel_rfl) (by kernel_rfl) (by decide) (λ_=>trivial) eO (qc.mono ?_)
       rintro _ _ ⟨rfl,rfl⟩
       refine⟨_,rfl,?_⟩
       refine lN (by kernel_rfl) rfl (by kernel_rfl) l6 ?_
       refine nf (by kernel_rfl) rfl (by kernel_rfl) qb ?_
       refine pd (by kernel_rfl) rfl (by kernel_rfl) (by kernel_rfl) q2 ?_
       exact uv (by kernel_rfl) rfl (by kernel_rfl) (by kernel_rfl) q3 (wpListIn_nil gfin)
     · refine lN (by kernel_rfl) rfl (by kernel_rfl) l1 ?_
       refine rH (by kernel_rfl) (.inl rfl) (u:=vS x.2) (by kernel_rfl) ?_
       refine ut (by kernel_rfl) rfl (u:=.pointer p) (v:=vS x.2) (by kernel_rfl) (by kernel_rfl) (by decide) (λ_=>trivial) eO (qc.mono ?_)
       rintro _ _ ⟨rfl,rfl⟩
       refine⟨_,rfl,?_⟩
       refine nf (by kernel_rfl) rfl (by kernel_rfl) qb ?_
       refine lN (by kernel_rfl) rfl (by kernel_rfl) l6' ?_
       refine pd (by kernel_rfl) rfl (by kernel_rfl) (by kernel_rfl) q2 ?_
       exact uv (by kernel_rfl) rfl (by kernel_rfl) (by kernel_rfl) q3 (wpListIn_nil gfin)
     · refine rH (by kernel_rfl) (.inl rfl) (u:=vS x.2) (by kernel_rfl) ?_
       refine lN (by kernel_rfl) rfl (by kernel_rfl) l6 ?_
       refine lN (by kernel_rfl) rfl (by kernel_rfl) l1 ?_
       refine ut (by kernel_rfl) rfl (u:=.pointer p) (v:=vS x.2) (by kernel_rfl) (by kernel_rfl) (by decide) (λ_=>trivial) eO (qc.mono ?_)
       rintro _ _ ⟨rfl,rfl⟩
       refine⟨_,rfl,?_⟩
       refine nf (by kernel_rfl) rfl (by kernel_rfl) qb ?_
       refine pd (by kernel_rfl) rfl (by kernel_rfl) (by kernel_rfl) q2 ?_
       exact uv (by kernel_rfl) rfl (by kernel_rfl) (by kernel_rfl) q3 (wpListIn_nil gfin)
     · refine rH (by kernel_rfl) (.inl rfl) (u:=vS x.2) (by kernel_rfl) ?_
       refine lN (by kernel_rfl) rfl (by kernel_rfl) l1 ?_
       refine lN (by kernel_rfl) rfl (by kernel_rfl) l6 ?_
       refine ut (by kernel_rfl) rfl (u:=.pointer p) (v:=vS x.2) (by kernel_rfl) (by kernel_rfl) (by decide) (λ_=>trivial) eO (qc.mono ?_)
       rintro _ _ ⟨rfl,rfl⟩
       refine⟨_,rfl,?_⟩
       refine nf (by kernel_rfl) rfl (by kernel_rfl) qb ?_
       refine pd (by kernel_rfl) rfl (by kernel_rfl) (by kernel_rfl) q2 ?_
       exact uv (by kernel_rfl) rfl (by kernel_rfl) (by kernel_rfl) q3 (wpListIn_nil gfin)
     · refine rH (by kernel_rfl) (.inl rfl) (u:=vS x.2) (by kernel_rfl) ?_
       refine lN (by kernel_rfl) rfl (by kernel_rfl) l1 ?_
       refine ut (by kernel_rfl) rfl (u:=.pointer p) (v:=vS x.2) (by kernel_rfl) (by kernel_rfl) (by decide) (λ_=>trivial) eO (qc.mono ?_)
       rintro _ _ ⟨rfl,rfl⟩
       refine⟨_,rfl,?_⟩
       refine lN (by kernel_rfl) rfl (by kernel_rfl) l6 ?_
       refine nf (by kernel_rfl) rfl (by kernel_rfl) qb ?_
       refine pd (by kernel_rfl) rfl (by kernel_rfl) (by kernel_rfl) q2 ?_
       exact uv (by kernel_rfl) rfl (by kernel_rfl) (by kernel_rfl) q3 (wpListIn_nil gfin)
     · refine rH (by kernel_rfl) (.inl rfl) (u:=vS x.2) (by kernel_rfl) ?_
       refine lN (by kernel_rfl) rfl (by kernel_rfl) l1 ?_
       refine ut (by kernel_rfl) rfl (u:=.pointer p) (v:=vS x.2) (by kernel_rfl) (by kernel_rfl) (by decide) (λ_=>trivial) eO (qc.mono ?_)
       rintro _ _ ⟨rfl,rfl⟩
       refine⟨_,rfl,?_⟩
       refine nf (by kernel_rfl) rfl (by kernel_rfl) qb ?_
       refine lN (by kernel_rfl) rfl (by kernel_rfl) l6' ?_
       refine pd (by kernel_rfl) rfl (by kernel_rfl) (by kernel_rfl) q2 ?_
       exact uv (by kernel_rfl) rfl (by kernel_rfl) (by kernel_rfl) q3 (wpListIn_nil gfin)
   case done=>
     rintro D xs V hD hxs ⟨⟨a3,n3,c3,D1,D2,D3,D4⟩,_⟩ hK
     have l6:(Instr.loadAt aZ (.pointer (some ⟨k6,0,none⟩))).run prog V=.ok (.slice a3 n3 c3) V:=D1.load1 fh rfl rfl
     refine PI ?_
     apply wpIn_region_lit
     refine lN (by kernel_rfl) rfl (by kernel_rfl) l6 ?_
     refine rH (by kernel_rfl) (.inr rfl) (u:=.slice a3 n3 c3) (by kernel_rfl) ?_
     refine Se ?_
     refine wpIn_ret ?_
     simp only[Act.put,List.setIfInBounds_toArray,List.set_cons_succ,List.set_cons_zero]
     have gD:=grownBy_putObj' V D (.deferred none)
     have nD:E6 V (some D):=λr e=>by cases e;exact⟨_,hK,rfl⟩
     have hwk:w.heap.size <=k6:=by rw[hk6];exact BW.size
     have BV:bW w V:=B7.trans (D4.mono hwk)
     have ew:xs.map (λx=>ofT ts x.2)=hwV ts h:=by
       rw[<- hTw,<- show xs.map Prod.snd=T.reverse from hxs,List.map_map];rfl
     rw[ew]at D2
     refine⟨by simp,.inl ⟨_,_,rfl,run_takeDeferred hK,?_⟩⟩
     exact⟨_,Go.results_tmp rfl _ _ _,a3,n3,c3,rfl,D2.turned gD nD,(λg hg=>Nat.le_trans B7.size (D3 g hg)),yY BV BV.size gD (λr e=>by cases e;have:=B7.size;omega)⟩
   case stop=>
     rintro D c pre W _ _ h _
     exact h.elim
def PU (ts:List Txt)(h:Hst)(w:World)(v:Value)(w':World):Prop:=∃(a:Option Addr) (n c:Nat),v=.slice a n c/\Ow lS aP w' NoB a n c (hwV ts h)/\bg w.heap.size a/\bW w w'
theorem B0 {h:Hst}(o:h.ok)(hn:h.name.length <=1000000){w:World}(he:Env w){p:Option Addr}{ts:List Txt}(hA:ky w p ts):Cf ur #[.pointer p,h.v] w (Ret (PU ts h w)):=
 (callsIn_wide.1 (BZ o hn he hA)).mono λe w' ⟨a,n,c,he,h1,h2,h3⟩=>⟨_,he,a,n,c,rfl,h1,h2,h3⟩
end
noncomputable def tx (ts:List Txt)(x:Nat):Txt:=Xg ts (x:Int)
def vT (ts:List Txt)(h:Hst):List Nat:=(nR h).map λs=>(ofT ts s).toNat
theorem Vp (ts:List Txt)(h:Hst):hwV ts h=(vT ts h).map fun(x:Nat)=>(x:Int):=by
 unfold hwV vT
 rw[List.map_map]
 refine List.map_congr_left λs _=>?_
 have:=(Sm ts s).1
 show _=(((ofT ts s).toNat:Nat):Int)
 omega
theorem GP (ts:List Txt)(h:Hst):∀x∈vT ts h,x<ts.length+1:=by
 intro x hx
 obtain⟨s,_,rfl⟩:=List.mem_map.1 hx
 have:=Sm ts s
 omega
noncomputable def hAd (ts:List Txt)(x:Nat):Bool:=Wt (tx ts x)
def ql:List Txt->Nat
 | []=>0
 | x::r=>x.length+1+ql r
theorem Hk:∀a b:List Txt,ql (a++b)=ql a+ql b
 | [],b=>by simp[ql]
 | x::a,b=>by simp only[List.cons_append,ql];rw[Hk a b];omega
theorem Hl:∀a:List Txt,ql a.reverse=ql a
 | []=>rfl
 | x::a=>by rw[List.reverse_cons,Hk,Hl a];simp only[ql];omega
theorem Ex:∀(r:List Txt) (x:Txt),(Lib.join (x::r) [46]).length+1=ql (x::r)
 | [],x=>by rw[Lib.join_one];simp[ql]
 | y::r,x=>by
   have:=Ex r y
   rw[QT,List.length_append,List.length_cons]
   show x.length+((Lib.join (y::r) [46]).length+1)+1=x.length+1+ql (y::r)
   omega
theorem Jv {t:List Txt}(h:t≠[]):(Lib.join t.reverse [46]).length+1=ql t:=by
 rw[<- Hl t]
 cases hr:t.reverse with
 | nil=>exact absurd (List.reverse_eq_nil_iff.1 hr) h
 | cons x r=>exact Ex r x
theorem NC {h:Hst}(o:h.ok)(hk:h.kind=1)(hr:eQ h=true):ql (nR h)=h.name.length+1:=by
 obtain⟨el,hne⟩:=wJ o hk hr
 have e:nR h=(aO h).reverse:=by unfold nR;rw[if_pos hr,if_pos hk]
 rw[e]
 have h1:=Jv (t:=(aO h).reverse) (by simpa using hne)
 rw[List.reverse_reverse,el]at h1
 have hj:=wI 46 h.name []
 rw[List.nil_append]at hj
 rw[hj]at h1
 rw[el];omega
theorem NA {h:Hst}(o:h.ok)(hk:h.kind≠1)(hr:eQ h=true):ql (nR h)=(lq h).length+1:=by
 have e:nR h=[lq h]:=by unfold nR;rw[if_pos hr,if_neg hk]
 rw[e];simp[ql]
theorem NB {h:Hst}(o:h.ok)(hr:eQ h=true):ql (nR h) <=254:=by
 by_cases hk:h.kind=1
 · rw[NC o hk hr]
   have:=(ER o hk hr).2.2.2.1
   omega
 · rw[NA o hk hr]
   have:=HM o
   have hv:=JJ o hr
   have hn:h.name=[]:=by
     unfold di at hv
     split at hv
     · split at hv
       · rw[Option.map_eq_some_iff]at hv
         obtain⟨a,_,e⟩:=hv
         rw[<- e]
       · cases hv
     split at hv
     · rw[Option.map_eq_some_iff]at hv
       obtain⟨a,_,e⟩:=hv
       rw[<- e]
     split at hv
     · exact absurd (by rw[<- Option.some.inj hv]) hk
     · cases hv
   rw[hn]at this
   simp only[List.length_nil]at this
   omega
theorem count_le:∀{t:List Txt},(∀x∈t,1 <=x.length)->2*t.length <=ql t
 | [],_=>Nat.le_refl _
 | x::t,h=>by
   have h1:=h x List.mem_cons_self
   have h2:=count_le λy hy=>h y (List.mem_cons_of_mem _ hy)
   simp only[List.length_cons,ql];omega
theorem MF {h:Hst}(o:h.ok)(hr:eQ h=true):(nR h).length <=127:=by
 by_cases hk:h.kind=1
 · have h1:=count_le (t:=nR h) λx hx=>by
     have e:nR h=(aO h).reverse:=by unfold nR;rw[if_pos hr,if_pos hk]
     rw[e]at hx
     exact(JP (L8 o x (by simpa using hx))).1
   have:=NB o hr
   omega
 · have e:nR h=[lq h]:=by unfold nR;rw[if_pos hr,if_neg hk]
   rw[e];simp
theorem za {w:World}{A:Bl}{a:Option Addr}{n c:Nat}{xs:List Int}(hs:Sl lS w A a n c xs)(y:Int):Cf dM #[.slice a n c,vI y] w (Ret λv w'=>v=.bool (decide (y∈xs))/\w'=w):=by
 have hn:=hs.len
 subst hn
 have hle:=hs.le
 apply ny
 refine aB (K:=λv w'=>∃i:Int,v=vI i/\(decide (i >=0))=(decide (y∈xs))/\w'=w) ?_ ?_
 · apply pT
   refine⟨λm i w'=>∃j:Nat,j <=xs.length/\i=(j:Int)/\m=xs.length-j/\y ∉ xs.take j/\w'=w,⟨_,0,by omega,rfl,rfl,by simp,rfl⟩,?_⟩
   intro m i
   refine aN.of ?_ _
   rintro w' ⟨j,hj,rfl,rfl,hno,hw'⟩
   rw[hw'];clear hw'
   refine ae.of (λh=>?_) (λh=>?_) <;> simp only[dTx,dFx]at h
   · have hlt:j<xs.length:=by omega
     refine⟨⟨⟨by omega,h⟩,hs.isSome hlt⟩,_,hs.num cD hlt,?_⟩
     refine ae.of (λh3=>?_) (λh3=>?_)
     · have:y=xs[j]:=by simpa using h3
       refine⟨_,rfl,?_,rfl⟩
       rw[decide_eq_true (by omega),decide_eq_true (by rw[this];exact List.getElem_mem hlt)]
     · have hne:y≠xs[j]:=by simpa using h3
       refine⟨xs.length-(j+1),by omega,j+1,by omega,by rw[wrap_i64 (by omega) (by omega)];omega,rfl,?_,rfl⟩
       rw[List.take_succ_eq_append_getElem hlt,List.mem_append]
       rintro(h1|h1)
       · exact hno h1
       · exact hne (by simpa using h1)
   · have:j=xs.length:=by omega
     subst this
     rw[List.take_length]at hno
     exact⟨_,rfl,by rw[decide_eq_false hno];decide,rfl⟩
 · rintro _ w3 ⟨i,rfl,hi,hw3⟩
   exact⟨_,rfl,by rw[hi],hw3⟩
theorem L3 {w:World}{A:Bl}{a:Option Addr}{n c:Nat}{L:Nat}(hs:Sl AA w A a n c (List.replicate L false++[true])):Cf fM #[.slice a n c,.bool true] w (Ret λv w'=>v=vI ((L:Nat):Int)/\w'=w):=by
 have hn:=hs.len
 subst hn
 have hle:=hs.le
 have hlen:(List.replicate L false++[true]).length=L+1:=by simp
 apply nN
 refine⟨λm i w'=>∃j:Nat,j <=L/\i=(j:Int)/\m=L-j/\w'=w,⟨_,0,by omega,rfl,rfl,rfl⟩,?_⟩
 intro m i
 refine aN.of ?_ _
 rintro w' ⟨j,hj,rfl,rfl,hw'⟩
 rw[hw'];clear hw'
 have hlt:j<(List.replicate L false++[true]).length:=by omega
 obtain⟨v,hv,hrep⟩:=hs.load1 (P:=prog) (i:=(j:Int)) dp rfl rfl (by simpa using hlt)
 have hb:=P4 hrep
 subst hb
 simp only[Int.toNat_natCast]at hv
 refine ae.yes (decide_eq_true (by omega)) ⟨⟨⟨by omega,by omega⟩,hs.isSome hlt⟩,_,hv,?_⟩
 rcases Nat.lt_or_ge j L with h|h
 · have e:(List.replicate L false++[true])[j]=false:=by rw[List.getElem_append_left (by simpa using h)];simp
   rw[e]
   exact ae.no rfl ⟨L-(j+1),by omega,j+1,by omega,by rw[wrap_i64 (by omega) (by omega)];omega,rfl,rfl⟩
 · have:j=L:=by omega
   subst this
   have e:(List.replicate j false++[true])[j]=true:=by rw[List.getElem_append_right (by simp)];simp
   rw[e]
   exact ae.yes rfl ⟨rfl,rfl⟩
def kB (ts:List Txt)(h:Hst):Bool:= !decide (hwV ts h=[]) && !decide (((ts.length:Nat):Int)∈hwV ts h)
theorem JO {ts:List Txt}{h:Hst}(o:h.ok)(hk:kB ts h=true):eQ h=true:=by
 refine(RQ o).1 λe=>?_
 unfold kB at hk
 rw[Bool.and_eq_true]at hk
 have:=hk.1
 unfold hwV at this
 rw[e]at this
 simp at this
def Wl (ts:List Txt)(h:Hst)(w:World)(v:Value)(w':World):Prop:=bW w w'/\
 if kB ts h=true then ∃(a:Option Addr) (n c:Nat),v=.tuple #[.slice a n c,vI 0]/\Ow lS aP w' NoB a n c (hwV ts h)/\bg w.heap.size a else v=.tuple #[.slice none 0 0,vI 181]
theorem qY {h:Hst}(o:h.ok)(hn:h.name.length <=1000000){w:World}(he:Env w){p:Option Addr}{ts:List Txt}(hA:ky w p ts)(htl:ts.length <=100000):Cf jK #[.pointer p,h.v] w (Ret (Wl ts h w)):=by
 apply yv
 intro k3 w3 hk3 hw3
 have hb3:=(hw3▸ah w _:bW w w3)
 have A3:ai w3 k3 af h.cells:=ai.new hk3 hw3
 refine⟨_,bc.load0 A3 (Hst.len o),?_⟩
 refine aB (B0 o hn (he.step hb3) (hA.below hb3)) ?_
 rintro _ w9 ⟨a,n,c,rfl,ho,hf,hb9⟩
 have hB:=ab hb3 hb9 hb3.size
 refine⟨_,_,_,rfl,ae.of (λh1=>⟨hB,?_⟩) (λh1=>?_)⟩
 · have h1:((n:Nat):Int)=0:=by simpa using h1
   have e:hwV ts h=[]:=List.length_eq_zero_iff.1 (by have:=ho.len;omega)
   rw[if_neg (by unfold kB;rw[e];simp)]
 · have h1:((n:Nat):Int)≠0:=by simpa using h1
   have e:hwV ts h≠[]:=λe=>h1 (by rw[ho.len,e];rfl)
   refine aB (dR p ts (by omega) w9 (hA.below hB)) ?_
   rintro _ w16 ⟨rfl,rfl⟩
   refine⟨_,rfl,?_⟩
   try dsimp only
   rw[show i64.wrap ((ts.length:Int)+1-1)=((ts.length:Nat):Int) from by rw[wrap_i64 (by omega) (by omega)];omega]
   refine aB (za ho.all _) ?_
   rintro _ w18 ⟨rfl,rfl⟩
   refine⟨_,rfl,ae.of (λh2=>⟨hB,?_⟩) (λh2=>⟨hB,?_⟩)⟩
   · rw[if_neg (by unfold kB;rw[h2];simp)]
   · rw[if_pos (by unfold kB;rw[h2];simp[e])]
     exact⟨a,n,c,rfl,ho,hf.mono hb3.size⟩
def gr (ok:Bool)(d:DA)(w:World)(v:Value)(w':World):Prop:=if ok=true then Do w d v w' else v=.tuple #[daV none 0 0 none 0 0 ⟨0,0,[],[]⟩,vI 181]/\bW w w'
theorem gr.no {d:DA}{w w':World}(h:bW w w'):gr false d w (.tuple #[daV none 0 0 none 0 0 ⟨0,0,[],[]⟩,vI 181]) w':=⟨rfl,h⟩
theorem gr.yes {d:DA}{w w':World}{v:Value}(h:Do w d v w'):gr true d w v w':=h
theorem IU (ts:List Txt){h:Hst}(o:h.ok)(hk:kB ts h=true):(vT ts h).length <=127:=by
 unfold vT
 rw[List.length_map]
 exact MF o (JO o hk)
theorem DC {h:Hst}(o:h.ok)(hn:h.name.length <=1000000){w:World}(he:Env w){p:Option Addr}{ts:List Txt}(hA:ky w p ts)(htl:ts.length <=511):
   Cf iH #[.pointer p,h.v] w (Ret (gr (kB ts h) (chD (ts.length+1) (vT ts h) 0) w)):=by
 apply CK
 intro k3 w3 hk3 hw3 k4 w4 hk4 hw4
 have hb3:=(hw3▸ah w _:bW w w3)
 have hb4:=(hw4▸ah w3 _:bW w3 w4)
 have A3:ai w3 k3 af h.cells:=ai.new hk3 hw3
 have A4:ai w4 k4 ax [vI 0,vI 0,.slice none 0 0,.slice none 0 0]:=ai.new hk4 hw4
 have hB4:=ab hb3 hb4 hb3.size
 refine⟨_,bc.load0 (A3.below hb4) (Hst.len o),?_⟩
 refine aB (qY o hn (he.step hB4) (hA.below hB4) (by omega)) ?_
 rintro v w11 ⟨hb11,hv⟩
 have hB:=ab hB4 hb11 hB4.size
 have hlt:=A4.lt
 have ho4:w.heap.size <=k4:=by have:=hb3.size;omega
 cases hk:kB ts h with
 | false=>
   rw[if_neg (by rw[hk];simp)]at hv
   subst hv
   obtain⟨wx,s1,s2,g1⟩:=jo (A4.below hb11) rfl none 0 0 none 0 0 ⟨0,0,[],[]⟩
   exact⟨none,0,0,181,rfl,ae.yes rfl ⟨wx,s1,_,_,none,0,0,none,0,0,s2,gr.no (Below.put hB g1 ho4)⟩⟩
 | true=>
   rw[if_pos hk]at hv
   obtain⟨a,n,c,rfl,ho,hf⟩:=hv
   refine⟨a,n,c,0,rfl,ae.no rfl ?_⟩
   refine aB (dR p ts (by omega) w11 (hA.below hB)) ?_
   rintro _ w19 ⟨rfl,rfl⟩
   refine⟨_,rfl,?_⟩
   have hs:Sl lS w19 uc a n c ((vT ts h).map fun(x:Nat)=>(x:Int)):=by rw[<- Vp];exact ho.all
   have e1:((ts.length:Int)+1)=((ts.length+1:Nat):Int):=by omega
   rw[e1]
   refine aB (BF hs (k:=ts.length+1) (by omega) (by omega) (GP ts h) (by have:=IU ts o hk;omega)) ?_
   rintro _ w21 ⟨a1,n1,c1,b1,m1,e1',rfl,O,hb21⟩
   obtain⟨wx,s1,s2,g1⟩:=jo ((A4.below hb11).below hb21) rfl a1 n1 c1 b1 m1 e1' (chD (ts.length+1) (vT ts h) 0)
   have hB21:=ab hB hb21 hB.size
   have hs19:=hb11.size
   exact⟨_,_,a1,n1,c1,b1,m1,e1',_,rfl,wx,s1,_,_,a1,n1,c1,b1,m1,e1',s2,gr.yes ⟨a1,n1,c1,b1,m1,e1',rfl,(O.put g1 (by omega)).mono hB.size,Below.put hB21 g1 ho4⟩⟩
def yL (out:List Int)(p:Prt):List Int:=if 0 <=p.2/\p.2 ∉ out then out++[p.2]else out
theorem Ls (ps:List Prt):sY ps=ps.foldl yL []:=rfl
theorem GM {l:List Cho} :∀(ps:List Prt) (out:List Int),(∀i∈out,0 <=i/\i<l.length)->(∀p∈ps,p.2<l.length)->∀i∈ps.foldl yL out,0 <=i/\i<l.length
 | [],out,ho,_,i,hi=>ho i hi
 | p::ps,out,ho,hp,i,hi=>by
   rw[List.foldl_cons]at hi
   refine GM ps _ (λk hk=>?_) (λq hq=>hp q (List.mem_cons_of_mem _ hq)) i hi
   unfold yL at hk
   split at hk
   · rename_i h
     rcases List.mem_append.1 hk with hk|hk
     · exact ho k hk
     · rw[List.mem_singleton]at hk
       rw[hk];exact⟨h.1,hp p List.mem_cons_self⟩
   · exact ho k hk
def UX (cs:List Cho):Prop:=cs.length <=1000000/\∀c∈cs,c.vals.length <=1000000/\∀v∈c.vals,v.length <=1000000
theorem yS {cs:List Cho}{i:Int}(h0:0 <=i)(h1:i<cs.length):∃h:i.toNat<cs.length,gm cs i=cs[i.toNat].vals:=by
 have h:i.toNat<cs.length:=by omega
 refine⟨h,?_⟩
 unfold gm
 rw[List.getElem?_eq_getElem h];rfl
theorem GO:Whl prog be 2:=⟨⟨_,_,jk⟩,by kernel_rfl⟩
theorem F1 {w:World}{A:Bl}{a:Option Addr}{l c:Nat}{xs:List Prt}(h:Sl Rz w A a l c xs){i:Nat}(hi:i<xs.length):
   (Instr.loadAt be (.pointer (am a (i:Int) 2))).run prog w=.ok (.agg (I5 xs[i]).toArray) w:=by
 obtain⟨vs,h1,e⟩:=GO.elem (T:=Rz) rfl h hi
 have e:vs=I5 xs[i]:=e
 subst e
 exact h1
theorem H0 {w:World}{A:Bl}{a:Option Addr}{l c:Nat}{cs:List Cho}(h:Sl Ee w A a l c cs){i:Int}(h0:0 <=i)(h1:i<cs.length):
   ((0 <=i/\i<((l:Nat):Int))/\Option.isSome a=true)/\Option.isSome (am a i 2)=true/\∃(b:Option Addr) (n e:Nat),(Instr.loadAt aw (.pointer (Option.map (λx=>x.add 1) (am a i 2)))).run prog w=.ok (.slice b n e) w/\Sl tS w A b n e (gm cs i):=by
 obtain⟨hi,e⟩:=yS h0 h1
 have hl:=h.len
 obtain⟨k,rfl⟩:=Int.eq_ofNat_of_zero_le h0
 simp only[Int.toNat_natCast]at hi e
 have hs:=h.isSome hi
 refine⟨⟨⟨h0,by rw[hl];exact h1⟩,hs⟩,by cases a <;> simp_all [am],?_⟩
 rw[e]
 rcases h.2.2.2 with h4|⟨b0,off,ea,hb,hab,h4⟩
 · subst h4;cases hi
 obtain⟨vs,⟨b,n,e',rfl,hv⟩,h6⟩:=h4.elem hi
 refine⟨b,n,e',?_,hv⟩
 rw[ea,jG]
 show(Instr.loadAt aw (.pointer (some ((⟨b0,off+((k:Nat):Int).toNat*2,none⟩:Addr).add 1)))).run prog w=_
 rw[gw]
 show(do loadVar aw (<- Instr.sureAddr (.pointer (some _)))).run prog w=_
 rw[Sem.run_bind,gk]
 refine gE bG rfl ?_
 rw[Int.toNat_natCast]
 exact h6 1 (by decide)
theorem Pq {w:World}{A:Bl}{a0:Option Addr}{l0 c0:Nat}{ps:List Prt}(hs:Sl Rz w A a0 l0 c0 ps)(hl:ps.length <=3000000):
   Cf jQ #[.slice a0 l0 c0] w (Ret λv w'=>∃a n c,v=.slice a n c/\Ow lS aP w' NoB a n c (sY ps)/\bg w.heap.size a/\bW w w'):=by
 apply yF
 have hn:=hs.len
 subst hn
 refine⟨λm a n c i w'=>∃j:Nat,i=(j:Int)/\m=ps.length-j/\j <=ps.length/\Ow lS aP w' NoB a n c ((ps.take j).foldl yL [])/\((ps.take j).foldl yL []).length <=j/\bg w.heap.size a/\bW w w',
   ⟨_,0,rfl,rfl,Nat.zero_le _,Ow.nil _ _ _ _,Nat.le_refl _,bg.none _,Below.refl _ _⟩,λm a n c i=>aN.of ?_ _⟩
 rintro wl ⟨j,rfl,rfl,hj,oo,ol,fo,B⟩
 refine ae.of (λh=>?_) (λh=>?_) <;> simp only[dTx,dFx]at h
 rotate_left
 · obtain rfl:j=ps.length:=by omega
   rw[List.take_length]at oo
   exact⟨a,n,c,rfl,oo,fo,B⟩
 have hlt:j<ps.length:=by omega
 have ew:i64.wrap ((j:Int)+1)=(j:Int)+1:=wrap_i64 (by omega) (by omega)
 have ef:(ps.take (j+1)).foldl yL []=yL ((ps.take j).foldl yL []) ps[j]:=by rw[List.take_succ_eq_append_getElem hlt,List.foldl_append];rfl
 rw[ew]
 generalize (ps.take j).foldl yL []=out at*
 refine⟨⟨⟨by omega,h⟩,hs.isSome hlt⟩,_,_,F1 (hs.below B) hlt,?_⟩
 generalize ps[j]=p at*
 refine GO.new (zs:=I5 ([],0)) (cs:=I5 p) rfl rfl (λv hv=>by simp[I5]at hv;rcases hv with rfl|rfl <;> rfl) wl λk5 w5 hk5 h5 b5=>?_
 have B5:=ab B b5 B.size
 have o5:=oo.below b5
 refine nK (w:=w5) (decide (0 <=p.2/\p.2 ∉ out)) ?_ ?_
 · refine⟨rfl,p.2,h5.load1 cD rfl rfl,ae.of (λh2=>⟨rfl,p.2,h5.load1 cD rfl rfl,aB (za o5.all p.2) ?_⟩) (λh2=>⟨rfl,?_⟩)⟩
   · rintro _ _ ⟨rfl,rfl⟩
     refine⟨_,rfl,rfl,?_⟩
     have h2:=of_decide_eq_true h2
     rw[Bool.eq_iff_iff]
     simp[h2]
   · have h2:=of_decide_eq_false h2
     rw[decide_eq_false (λh3=>h2 h3.1)]
 refine ae.of (λh2=>⟨rfl,p.2,h5.load1 cD rfl rfl,λk25 w25 hk25 hw25=>?_⟩) (λh2=>?_)
 · have h2:=of_decide_eq_true h2
   obtain⟨w26,a26,n26,c26,r26,o26,f26,b26⟩:=Cz (ty:=aZ) tV fh fV (by decide) o5 fo B5 hk25 hw25 (x:=p.2) (vs:=[vI p.2]) sF (cm:=1) (by omega)
   refine⟨w26,a26,n26,c26,r26,ps.length-(j+1),by omega,j+1,by omega,rfl,by omega,?_,?_,f26,b26⟩
   · rw[ef];unfold yL;rw[if_pos h2];exact o26
   · rw[ef];unfold yL;rw[if_pos h2];simp;omega
 · have h2:=of_decide_eq_false h2
   refine⟨ps.length-(j+1),by omega,j+1,by omega,rfl,by omega,?_,?_,fo,B5⟩
   · rw[ef];unfold yL;rw[if_neg h2];exact o5
   · rw[ef];unfold yL;rw[if_neg h2];omega
theorem Ms (l:List Cho)(i:Int)(r:List Int)(n:Int):OT l (i::r) n=if 24<n*((gm l i).length:Nat)then n*((gm l i).length:Nat)else OT l r (n*((gm l i).length:Nat)):=rfl
theorem J4 {w:World}{A B:Bl}{a0:Option Addr}{l0 c0:Nat}{us:List Int}(hu:Sl lS w A a0 l0 c0 us){a1:Option Addr}{l1 c1:Nat}{cs:List Cho}(hc:Sl Ee w B a1 l1 c1 cs)(hm:∀i∈us,0 <=i/\i<cs.length)(hW:UX cs):
   Cf iE #[.slice a0 l0 c0,.slice a1 l1 c1] w (Ret λv w'=>v=vI (Ge cs us)/\w'=w):=by
 apply yE
 have hn:=hu.len
 have hle:=hu.le
 subst hn
 refine⟨λm n i w'=>w'=w/\∃j:Nat,i=(j:Int)/\m=us.length-j/\j <=us.length/\0 <=n/\n <=24/\Ge cs us=OT cs (us.drop j) n,⟨_,rfl,0,rfl,rfl,Nat.zero_le _,by decide,by decide,rfl⟩,λm n i=>aN.of ?_ _⟩
 rintro wl ⟨rfl,j,rfl,rfl,hj,h0,h24,hQ⟩
 refine ae.of (λh=>?_) (λh=>?_) <;> simp only[dTx,dFx]at h
 rotate_left
 · rw[List.drop_eq_nil_of_le (by omega)]at hQ
   exact⟨by rw[hQ];rfl,rfl⟩
 have hlt:j<us.length:=by omega
 rw[List.drop_eq_getElem_cons hlt,Ms]at hQ
 obtain⟨v,hv,hrep⟩:=hu.load1 (P:=prog) (i:=(j:Int)) cD rfl rfl (by simpa using hlt)
 have:=Oc hrep
 subst this
 simp only[Int.toNat_natCast]at hv
 obtain⟨hi0,hi1⟩:=hm _ (List.getElem_mem hlt)
 generalize us[j]=i at*
 obtain⟨hb,hs,b,nb,eb,hld,S⟩:=H0 hc hi0 hi1
 have hlv:=S.len
 subst hlv
 obtain⟨hi,e⟩:=yS hi0 hi1
 have hvl:(gm cs i).length <=1000000:=by rw[e];exact(hW.2 _ (List.getElem_mem hi)).1
 have hmul0:0 <=n*(((gm cs i).length:Nat):Int):=Int.mul_nonneg h0 (by omega)
 have hmul:n*(((gm cs i).length:Nat):Int) <=24*1000000:=Int.mul_le_mul h24 (by omega) (by omega) (by omega)
 refine⟨⟨⟨by omega,h⟩,hu.isSome hlt⟩,i,hv,hb,hs,b,_,eb,hld,?_⟩
 rw[wrap_i64 (by omega) (by omega)]
 refine ae.of (λh2=>⟨?_,rfl⟩) (λh2=>?_) <;> simp only[dTx,dFx]at h2
 · rw[hQ,if_pos (by omega)]
 · exact⟨us.length-(j+1),by omega,rfl,j+1,by rw[wrap_i64 (by omega) (by omega)];omega,rfl,by omega,hmul0,by omega,by rw[hQ,if_neg (by omega)]⟩
theorem TN (a b:Int)(w:World):(Builtin.max_ #[aP,aP] aP #[vI a,vI b]).run prog w=.ok (vI (max a b)) w:=by
 show Result.ok (vI (if b>a then b else a)) w=_
 congr 2
 split <;> omega
theorem Md (l:List Cho)(p:Prt)(r:List Prt)(n:Int):JT l (p::r) n=if p.2<0 then JT l r (n+(p.1.length:Nat))else
     if 2000<n+(p.1.length:Nat)+(DI (gm l p.2):Nat)then n+(p.1.length:Nat)+(DI (gm l p.2):Nat)else JT l r (n+(p.1.length:Nat)+(DI (gm l p.2):Nat)):=rfl
theorem JW:∀(vs:List (List UInt8)) (m N:Nat),m <=N->(∀v∈vs,v.length <=N)->vs.foldl (λm v=>max m v.length) m <=N
 | [],m,N,h,_=>h
 | v::vs,m,N,h,hv=>JW vs _ N (Nat.max_le.2 ⟨h,hv v List.mem_cons_self⟩) λx hx=>hv x (List.mem_cons_of_mem _ hx)
theorem HX {w:World}{A B:Bl}{a0:Option Addr}{l0 c0:Nat}{ps:List Prt}(hs:Sl Rz w A a0 l0 c0 ps){a1:Option Addr}{l1 c1:Nat}{cs:List Cho}(hc:Sl Ee w B a1 l1 c1 cs)(hm:∀p∈ps,p.2<cs.length)(hW:UX cs)
   (hl:ps.length <=3000000) (ht:∀p∈ps,p.1.length <=1000000):
   Cf iI #[.slice a0 l0 c0,.slice a1 l1 c1] w (Ret λv w'=>v=vI (H1 cs ps)/\bW w w'):=by
 apply vG
 have hn:=hs.len
 subst hn
 refine⟨λm n i w'=>bW w w'/\∃j:Nat,i=(j:Int)/\m=ps.length-j/\j <=ps.length/\0 <=n/\n <=2000+(j:Int)*1000000/\H1 cs ps=JT cs (ps.drop j) n,⟨_,Below.refl _ _,0,rfl,rfl,Nat.zero_le _,by decide,by decide,rfl⟩,λm n i=>aN.of ?_ _⟩
 rintro wl ⟨B,j,rfl,rfl,hj,h0,hle,hQ⟩
 refine ae.of (λh=>?_) (λh=>?_) <;> simp only[dTx,dFx]at h
 rotate_left
 · rw[List.drop_eq_nil_of_le (by omega)]at hQ
   exact⟨by rw[hQ];rfl,B⟩
 have hlt:j<ps.length:=by omega
 have ew:i64.wrap ((j:Int)+1)=(j:Int)+1:=wrap_i64 (by omega) (by omega)
 rw[List.drop_eq_getElem_cons hlt,Md]at hQ
 rw[ew]
 refine⟨⟨⟨by omega,h⟩,hs.isSome hlt⟩,_,_,F1 (hs.below B) hlt,?_⟩
 have htp:=ht _ (List.getElem_mem hlt)
 have hmp:=hm _ (List.getElem_mem hlt)
 generalize ps[j]=p at*
 refine GO.new (zs:=I5 ([],0)) (cs:=I5 p) rfl rfl (λv hv=>by simp[I5]at hv;rcases hv with rfl|rfl <;> rfl) wl λk7 w7 hk7 h7 b7=>?_
 have B7:=ab B b7 B.size
 have e1:i64.wrap (n+((List.length p.1:Nat):Int))=n+((p.1.length:Nat):Int):=wrap_i64 (by omega) (by omega)
 refine⟨rfl,p.1,h7.load1 aF rfl rfl,rfl,p.2,h7.load1 cD rfl rfl,?_⟩
 rw[e1]
 refine ae.of (λh2=>?_) (λh2=>?_) <;> simp only[dTx,dFx]at h2
 · exact⟨ps.length-(j+1),by omega,B7,j+1,by omega,rfl,by omega,by omega,by omega,by rw[hQ,if_pos h2]⟩
 rw[if_neg h2]at hQ
 have hi0:0 <=p.2:=by omega
 obtain⟨hb,hs2,b,nb,eb,hld,S⟩:=H0 (hc.below B7) hi0 hmp
 obtain⟨hi,e⟩:=yS hi0 hmp
 have hvl:∀v∈gm cs p.2,v.length <=1000000:=by rw[e];exact(hW.2 _ (List.getElem_mem hi)).2
 have hvn:(gm cs p.2).length <=1000000:=by rw[e];exact(hW.2 _ (List.getElem_mem hi)).1
 generalize gm cs p.2=vs at*
 have hlv:=S.len
 subst hlv
 refine⟨rfl,p.2,h7.load1 cD rfl rfl,hb,hs2,b,_,eb,hld,λm x k w'=>w'=w7/\∃t:Nat,k=(t:Int)/\m=vs.length-t/\t <=vs.length/\x=(((vs.take t).foldl (λm v=>max m v.length) 0:Nat):Int),⟨_,rfl,0,rfl,rfl,Nat.zero_le _,rfl⟩,λm x k=>aN.of ?_ _⟩
 rintro wl1 ⟨rfl,t,rfl,rfl,ht2,rfl⟩
 have hmost:∀t,(vs.take t).foldl (λm v=>max m v.length) 0 <=1000000:=λt=>JW _ _ _ (Nat.zero_le _) λv hv=>hvl v (List.mem_of_mem_take hv)
 refine ae.of (λh3=>?_) (λh3=>?_) <;> simp only[dTx,dFx]at h3
 · have htl:t<vs.length:=by omega
   refine⟨⟨⟨by omega,h3⟩,S.isSome htl⟩,vs[t],S.text aF htl,_,TN _ _ _,vs.length-(t+1),by omega,rfl,t+1,by rw[wrap_i64 (by omega) (by omega)];omega,rfl,by omega,?_⟩
   rw[List.take_succ_eq_append_getElem htl,List.foldl_append]
   show max _ _=(((max _ _:Nat)):Int)
   omega
 · obtain rfl:t=vs.length:=by omega
   have hm1:DI vs <=1000000:=JW vs 0 _ (Nat.zero_le _) hvl
   have hmv:(vs.take vs.length).foldl (λm v=>max m v.length) 0=DI vs:=by rw[List.take_length];rfl
   rw[hmv]
   have e2:i64.wrap (n+((p.1.length:Nat):Int)+((DI vs:Nat):Int))=n+((p.1.length:Nat):Int)+((DI vs:Nat):Int):=wrap_i64 (by omega) (by omega)
   try dsimp only
   rw[e2]
   refine ae.of (λh4=>⟨?_,B7⟩) (λh4=>?_) <;> simp only[dTx,dFx]at h4
   · rw[hQ,if_pos (by omega)]
   · exact⟨ps.length-(j+1),by omega,B7,j+1,by omega,rfl,by omega,by omega,by omega,by rw[hQ,if_neg (by omega)]⟩
end Go.Pk
