/- StK CtL CtM CtN -/
import Derived.Test.YtplhdjdkobddnaaGreatTr20
set_option linter.unusedVariables false
set_option maxRecDepth 100000
set_option maxHeartbeats 40000000
namespace Go.Proofs.YtplhdjdkobddnaaGreat
section
open Go.RowKit
theorem bump_touch (k:Bool) (n:Nd) (S:St) (c b:Nat) :
  ({ bumpL k n.lv n.es (({ S with bl:=S.bl.setN c 1 }:St).put c n) with bl:=(bumpL k n.lv n.es (({ S with bl:=S.bl.setN c 1 }:St).put c n)).bl.dec b }:St)=({ S with bl:=((S.bl.setN c 1).incs (kids n)).dec b,da:=S.da.incs (dats k n) }:St).put c n:=by
 unfold bumpL kids dats
 by_cases hl:n.lv=0
 ·cases k
  ·simp[hl]
   rfl
  ·simp[hl]
   rfl
 ·simp[hl]
  rfl
theorem rtouch_any (W:World) (F:Nat→Prop) (P:SP) (S:St) (ws:List Nat) (h:StIn W F P S ws) (b:Nat) (n:Nd) (A:Option Addr) (len c0:Nat) (k:Bool) (hl:n.es.length=len) (c:Nat) (S1:St) (ht:S.touch b n k=some (c,S1)) (h0:S.bl.count b≠0)
  (hv:NdV W (OutF F P) n (.agg #[.int .i64 (n.lv:Int),.int .i64 (n.sq:Int),.slice A len c0])) (hok:1<S.bl.count b→TouchOk S b n k) (hdec:1<S.bl.count b→∀c,S.bl.pick=some c→((S.bl.setN c 1).incs (kids n)).decE b=0) :
  Calls Tryz.prog 144 #[.pointer (some ⟨P.s,0,none⟩),.int .i64 (b:Int),.agg #[.int .i64 (n.lv:Int),.int .i64 (n.sq:Int),.slice A len c0],.bool k] W fun e w'=>e=.returned (.tuple #[.int .i64 (c:Int),.int .i64 0])∧StIn w' F P (S1.put c n) ws∧Fr P.has W w':=by
 have hb:b<S.bl.now.length:=Mp.lt_of_count h0
 unfold St.touch at ht
 split at ht
 ·rename_i h1
  injection ht with ht
  injection ht with e1 e2
  subst e1 e2
  exact rtouch_here W F P S ws h b n A len c0 k hl hb hv h1
 ·rename_i h1
  split at ht
  ·cases ht
  ·rename_i c' hp
   injection ht with ht
   injection ht with e1 e2
   subst e1
   by_cases h2:1<S.bl.count b
   ·rw[if_pos h2] at e2
    subst e2
    have hb2:=bump_touch k n S c' b
    have:=rtouch_shared W F P S ws h b n A len c0 k hl hb c' hp hv h2 (hok h2) (by
     have h3:=hdec h2 c' hp
     have h4:(bumpL k n.lv n.es (({ S with bl:=S.bl.setN c' 1 }:St).put c' n)).bl=(S.bl.setN c' 1).incs (kids n):=by
      unfold bumpL kids
      split
      ·split <;> rfl
      ·rfl
     rw[h4]
     exact h3)
    rw[hb2] at this
    exact this
   ·rw[if_neg h2] at e2
    subst e2
    have h3:S.bl.count b=1:=by omega
    exact rtouch_moved W F P S ws h b n A len c0 k hl hb c' hp hv (fun q=>h1 ⟨q,h3⟩) h3
end
section
def St.look (S:St) (key:Int):Nat→Nd→Option (Option Nat)
 |0,n=>some (if exactN n.es key=true then some (n.es[(findN n.es key).toNat]?.getD (0,0)).2 else none)
 |l+1,n=>if findN n.es key<0 then some none else match S.load (n.es[(findN n.es key).toNat]?.getD (0,0)).2 with
  |none=>none
  |some m=>St.look S key l m
section
variable {S:St} {Z:Nat→Bool} {rs pd:List Nat} {G:Gh} {b c:Nat} {n:Nd} {k:Bool} {key:Int} {v:Nat}
theorem look_leaf {l:List (Int × Nat)} (h:AscE l) (key:Int):(if exactN l key=true then some (l[(findN l key).toNat]?.getD (0,0)).2 else none)=lookE l key:=by
 rcases find_split h key with ⟨h1,h2⟩| ⟨pre,x,post,rfl,h1,h2,h3,h4⟩
 ·rw[lookE_none (fun e he=>by have:=h2 e he;omega)]
  unfold exactN
  rw[h1]
  rfl
 ·rw[exactN_eq h1,h1]
  have hg:(pre++x :: post)[((pre.length:Nat):Int).toNat]?.getD (0,0)=x:=by simp
  rw[hg]
  by_cases e:x.1=key
  ·have:=lookE_app (mid:=[x]) (key:=key) (fun e he=>by have:=h3 e he;omega) h4
   simp only[List.append_assoc,List.singleton_append] at this
   rw[this]
   unfold lookE
   simp[e]
  ·rw[lookE_none (fun q hq=>by
    rcases List.mem_append.1 hq with hq|hq
    ·have:=h3 q hq;omega
    ·rcases List.mem_cons.1 hq with rfl|hq
     ·exact e
     ·have:=h4 q hq;omega)]
   simp[e]
theorem look_ok:∀(l:Nat) (b:Nat) (n:Nd),Inv S Z rs pd G→S.nd Z b=some n→n.lv=l→S.look key l n=some (lookE (G.E b) key):=by
 intro l
 induction l with
 |zero=>
  intro b n h hn hl
  have ho:=h.nd b n hn
  have eE:G.E b=n.es:=by rw[ho.e];unfold eOf;rw[if_pos hl]
  unfold St.look
  rw[eE,look_leaf ho.f.asc]
 |succ l ih=>
  intro b n h hn hl
  have ho:=h.nd b n hn
  have hl0:n.lv≠0:=by omega
  have eE:G.E b=n.es.flatMap (fun e=>G.E e.2):=by rw[ho.e];unfold eOf;rw[if_neg hl0]
  have hkE:∀e∈n.es,∀q∈G.E e.2,q.1∈G.A e.2∧e.1≤q.1:=fun e he q hq=>by
   obtain ⟨m',q1,q2,q3,q4⟩:=ho.f.kid hl0 e he
   have:=(h.keys m'.lv e.2 m' q1 rfl).1 q hq
   exact ⟨this,q4 _ this⟩
  rw[St.look]
  rcases find_split ho.f.asc key with ⟨f1,f2⟩| ⟨pre,e0,post,hes,f2,f3,f4,f5⟩
  ·rw[if_pos (by omega),lookE_none (fun q hq=>by
    rw[eE] at hq
    obtain ⟨e,he,hq⟩:=List.mem_flatMap.1 hq
    have:=(hkE e he q hq).2
    have:=f2 e he
    omega)]
  ·have hget:n.es[(findN n.es key).toNat]?.getD (0,0)=e0:=by rw[f2,hes];simp
   have hee:e0∈n.es:=by rw[hes];simp
   have hpe:∀e∈pre,e∈n.es:=fun e he=>by rw[hes];exact List.mem_append_left _ he
   have hqe:∀e∈post,e∈n.es:=fun e he=>by rw[hes];exact List.mem_append_right _ (List.mem_cons_of_mem _ he)
   obtain ⟨m,hm1,hm2,-,-⟩:=ho.f.kid hl0 e0 hee
   have hsep:=ho.f.sep hl0
   rw[hes] at hsep
   obtain ⟨sp1,-⟩:=mem_lt hsep
   rw[if_neg (by omega),hget,(nd_count hm1).2.2]
   dsimp only
   rw[ih e0.2 m h hm1 (by omega)]
   have hEb:G.E b=pre.flatMap (fun e=>G.E e.2)++G.E e0.2++post.flatMap (fun e=>G.E e.2):=by rw[eE,hes];simp
   rw[hEb,lookE_app (fun q hq=>by
    obtain ⟨e,he,hq⟩:=List.mem_flatMap.1 hq
    have:=sp1 e he q.1 (hkE e (hpe e he) q hq).1
    omega) (fun q hq=>by
    obtain ⟨e,he,hq⟩:=List.mem_flatMap.1 hq
    have:=(hkE e (hqe e he) q hq).2
    have:=f5 e he
    omega)]
end
end
section
def St.rt (S:St) (b:Nat) (n:Nd) (k:Bool):Option (Nat × St):=match S.touch b n k with
 |none=>none
 |some (c,S1)=>some (c,S1.put c n)
def St.way (k least:Bool) (key:Int):Nat→St→Nat→Nd→Option (List (Nat × Nat) × St)
 |0,S,c,n=>some ([(c,0)],S)
 |l+1,S,c,n=>match S.load (n.es[(findN n.es key).toNat]?.getD (0,0)).2 with
  |none=>none
  |some m=>match S.rt (n.es[(findN n.es key).toNat]?.getD (0,0)).2 m k with
   |none=>none
   |some (d,S1)=>match St.way k least key l (S1.put c { n with es:=n.es.set (findN n.es key).toNat (if findN n.es key<0∧least=true then key else (n.es[(findN n.es key).toNat]?.getD (0,0)).1,d) }) d m with
    |none=>none
    |some (st,S2)=>some ((c,(findN n.es key).toNat) :: st,S2)
section
variable {S S':St} {k least:Bool} {key:Int}
theorem way_len:∀(l:Nat) (S:St) (c:Nat) (n:Nd) {st:List (Nat × Nat)} {S':St},S.way k least key l c n=some (st,S')→st.length=l+1:=by
 intro l
 induction l with
 |zero=>
  intro S c n st S' h
  unfold St.way at h
  injection h with h
  injection h with h _
  rw[←h]
  rfl
 |succ l ih=>
  intro S c n st S' h
  unfold St.way at h
  split at h
  ·cases h
  ·split at h
   ·cases h
   ·split at h
    ·cases h
    ·rename_i hq
     injection h with h
     injection h with h _
     rw[←h,List.length_cons,ih _ _ _ hq]
theorem put_put (S:St) (c:Nat) (n m:Nd):(S.put c n).put c m=S.put c m:=by
 unfold St.put
 dsimp only
 congr 1
 funext u
 split <;> rfl
end
end
section
structure Off (Z:Nat→Bool) (S T:St):Prop where
 bl:T.bl=S.bl
 da:T.da=S.da
 dk:T.dk=S.dk
 sq:T.seq=S.seq
 ch:∀u,Z u=false→T.ch u=S.ch u
def St.halve (S:St) (b:Nat):Option (List (Int × Nat) × St):=match S.ch b with
 |none=>none
 |some n=>if n.es.length≤7 then some ([],S) else match S.bl.pick with
  |none=>none
  |some c=>some ([((n.es.drop (n.es.length / 2))[0]?.getD (0,0) |>.1,c)],({ S.put b { n with es:=n.es.take (n.es.length / 2) } with bl:=S.bl.setN c 1 }:St).put c { n with es:=n.es.drop (n.es.length / 2) })
def St.hang (S:St) (b i:Nat) (e:Int × Nat):St:=match S.ch b with
 |none=>S
 |some n=>S.put b { n with es:=n.es.take (i+1)++e :: n.es.drop (i+1) }
def St.unw:List (Nat × Nat)→St→Option (List (Int × Nat) × St)
 | [],S=>some ([],S)
 |(b,_) :: up,S=>match S.halve b with
  |none=>none
  |some ([],S1)=>some ([],S1)
  |some (e :: _,S1)=>match up with
   | []=>some ([e],S1)
   |(b',i') :: _=>St.unw up (S1.hang b' i' e)
def St.leafPut (S:St) (key:Int) (v b:Nat):St:=match S.ch b with
 |none=>S
 |some n=>S.put b { n with es:=putN n.es key v }
def leafOf (st:List (Nat × Nat)):Nat:=(st.getLast?.getD (0,0)).1
def St.whole (k:Bool) (key:Int) (v l:Nat) (T:St) (b:Nat) (n:Nd):Option (Nat × List (Int × Nat) × St):=match T.rt b n k with
 |none=>none
 |some (c,T1)=>match T1.way k true key l c n with
  |none=>none
  |some (st,T2)=>match St.unw st.reverse (T2.leafPut key v (leafOf st)) with
   |none=>none
   |some (ex,T3)=>some (c,ex,T3)
section
variable {S T:St} {Z:Nat→Bool} {rs pd:List Nat} {G:Gh} {b c:Nat} {n:Nd} {k:Bool} {key:Int} {v:Nat}
theorem St.ext' {S T:St} (h1:T.dk=S.dk) (h2:T.bl=S.bl) (h3:T.da=S.da) (h4:T.seq=S.seq) (h5:∀u,T.ch u=S.ch u):T=S:=by
 cases S
 cases T
 dsimp only at h1 h2 h3 h4 h5
 subst h1 h2 h3 h4
 congr 1
 exact funext h5
theorem Off.refl (Z:Nat→Bool) (S:St):Off Z S S:=⟨rfl,rfl,rfl,rfl,fun _ _=>rfl⟩
theorem Off.load (h:Off Z S T) {u:Nat} (hu:Z u=false):T.load u=S.load u:=by
 unfold St.load
 rw[h.ch u hu,h.dk]
theorem Off.touch (h:Off Z S T):T.touch b n k=(S.touch b n k).map (fun p=>(p.1,({ T with bl:=p.2.bl,da:=p.2.da }:St))):=by
 unfold St.touch
 rw[h.bl,h.da]
 split
 ·rw[Option.map_some,←h.bl,←h.da]
 ·split
  ·rfl
  ·rw[Option.map_some]
   split
   ·rfl
   ·rw[←h.da]
theorem unw_snoc (i:Nat):∀(l:List (Nat × Nat)) (S:St),l≠[]→St.unw (l++ [(b,i)]) S=match St.unw l S with
  |none=>none
  |some ([],S1)=>some ([],S1)
  |some (e :: _,S1)=>match (S1.hang b i e).halve b with
   |none=>none
   |some ([],S2)=>some ([],S2)
   |some (e' :: _,S2)=>some ([e'],S2):=by
 intro l
 induction l with
 |nil=>intro S h;exact absurd rfl h
 |cons a l ih=>
  intro S _
  obtain ⟨b0,i0⟩:=a
  show St.unw ((b0,i0) :: (l++ [(b,i)])) S=_
  unfold St.unw
  rcases S.halve b0 with _| ⟨_| ⟨e,t⟩,S1⟩
  ·rfl
  ·rfl
  ·dsimp only
   rcases l with _| ⟨⟨b1,i1⟩,l⟩
   ·dsimp only[List.nil_append]
    unfold St.unw
    rcases (S1.hang b i e).halve b with _| ⟨_| ⟨e',t'⟩,S2⟩
    ·rfl
    ·rfl
    ·rfl
   ·have:=ih (S1.hang b1 i1 e) (List.cons_ne_nil _ _)
    dsimp only[List.cons_append] at this ⊢
    rw[this]
theorem leafOf_cons (a:Nat × Nat) {st:List (Nat × Nat)} (h:st≠[]):leafOf (a :: st)=leafOf st:=by
 unfold leafOf
 rcases st with _| ⟨x,t⟩
 ·exact absurd rfl h
 ·rw[List.getLast?_cons_cons]
theorem put_comm (S:St) {c d:Nat} (h:c≠d) (n m:Nd):(S.put c n).put d m=(S.put d m).put c n:=by
 refine St.ext' rfl rfl rfl rfl (fun u=>?_)
 show (if u=d then _ else if u=c then _ else _)=(if u=c then _ else if u=d then _ else _)
 by_cases h1:u=c
 ·subst h1
  rw[if_neg h,if_pos rfl,if_pos rfl]
  rfl
 ·rw[if_neg h1,if_neg h1]
  rfl
theorem put_ch (S:St) (c:Nat) (n:Nd):(S.put c n).ch c=some { n with sq:=S.seq }:=by
 show (if c=c then _ else _)=_
 rw[if_pos rfl]
theorem put_ne (S:St) {c u:Nat} (h:u≠c) (n:Nd):(S.put c n).ch u=S.ch u:=by
 show (if u=c then _ else _)=_
 rw[if_neg h]
theorem fin_halve {S:St} {c:Nat} {N NN:Nd} {Z:Nat→Bool} (hT:Off (Zi Z c) S T) (hc:T.ch c=some N) (hN:N.es=NN.es) (hlv:N.lv=NN.lv) (hsq:N.sq=S.seq) (hz:Z c=false) (hc1:S.bl.count c=1) (hzc:∀u,Z u=true→S.bl.count u≠0) :
  match S.fin c NN with
  |none=>T.halve c=none
  |some (d,ex,S')=>d=c∧∃T',T.halve c=some (ex,T')∧Off Z S' T'∧(∀u,Z u=true→T'.ch u=T.ch u)∧ex.length≤1:=by
 unfold St.fin St.halve
 rw[hc]
 dsimp only
 rw[hN]
 by_cases h7:NN.es.length≤7
 ·rw[if_pos h7,if_pos h7]
  dsimp only
  refine ⟨rfl,T,rfl,⟨hT.bl,hT.da,hT.dk,hT.sq,fun u hu=>?_⟩,fun _ _=>rfl,by simp⟩
  by_cases e:u=c
  ·subst e
   rw[put_ch,hc]
   congr 1
   cases N
   cases NN
   dsimp only at hN hlv hsq ⊢
   rw[hN,hlv,hsq]
  ·rw[put_ne S e]
   exact hT.ch u (by rw[Zi_ne e];exact hu)
 ·rw[if_neg h7,if_neg h7,hT.bl]
  rcases hp:S.bl.pick with _|d
  ·rfl
  ·dsimp only
   obtain ⟨p1,p2,p3⟩:=Mp.pick_some hp
   have hcd:c≠d:=by rintro rfl;omega
   refine ⟨rfl,_,rfl,⟨rfl,hT.da,hT.dk,hT.sq,fun u hu=>?_⟩,fun u hu=>?_,by simp⟩
   ·by_cases e:u=d
    ·subst e
     rw[put_ch,put_ne _ (fun e=>hcd e.symm),put_ch]
     show some _=some _
     congr 1
     show Nd.mk _ _ _=Nd.mk _ _ _
     rw[hlv]
     congr 1
     exact hT.sq
    ·rw[put_ne _ e]
     show (T.put c _).ch u=_
     by_cases e2:u=c
     ·subst e2
      rw[put_ch,put_ch]
      congr 1
      show Nd.mk _ _ _=Nd.mk _ _ _
      rw[hlv]
      congr 1
      exact hT.sq
     ·rw[put_ne _ e2,put_ne _ e2,put_ne _ e]
      exact hT.ch u (by rw[Zi_ne e2];exact hu)
   ·have e1:u≠d:=by rintro rfl;exact hzc _ hu p2
    have e2:u≠c:=by rintro rfl;rw[hz] at hu;cases hu
    rw[put_ne _ e1]
    show (T.put c _).ch u=_
    rw[put_ne _ e2]
theorem set_td (l:List (Int × Nat)) (i:Nat) (y:Int × Nat) (h:i<l.length):l.set i y=l.take i++y :: l.drop (i+1):=by
 rw[List.set_eq_take_append_cons_drop,if_pos h]
theorem ins_whole (hkr:0≤key∧key<16777216):∀(l:Nat) (S T:St) (Z:Nat→Bool) (rs pd:List Nat) (G:Gh) (b:Nat) (n:Nd),Inv S Z (b :: rs) (dv k v++pd) G→S.nd Z b=some n→n.lv=l→G.K b=k→Off Z S T→
  match S.ins k key v l b n with
  |none=>T.whole k key v l b n=none
  |some (d,ex,S')=>∃T',T.whole k key v l b n=some (d,ex,T')∧Off Z S' T'∧(∀u,Z u=true→T'.ch u=T.ch u)∧ex.length≤1:=by
 intro l
 induction l with
 |zero=>
  intro S T Z rs pd G b n h hn hl hK hT
  unfold St.ins St.whole St.rt
  rw[hT.touch]
  rcases ht:S.touch b n k with _| ⟨c,S1⟩
  ·rfl
  ·rw[Option.map_some]
   dsimp only
   rw[←hK] at ht
   obtain ⟨o1,o2,o3,o4,o5,o6⟩:=h.open hn ht
   obtain ⟨t1,t2⟩:=h.touched hn ht
   have hway:St.way k true key 0 (St.put { T with bl:=S1.bl,da:=S1.da } c n) c n=some ([(c,0)],St.put { T with bl:=S1.bl,da:=S1.da } c n):=by unfold St.way;rfl
   rw[hway]
   dsimp only
   have hlf:leafOf [(c,0)]=c:=rfl
   have hrv: [(c,0)].reverse= [(c,(0:Nat))]:=rfl
   rw[hlf,hrv]
   have hlp:(St.put { T with bl:=S1.bl,da:=S1.da } c n).leafPut key v c=(St.put { T with bl:=S1.bl,da:=S1.da } c { n with es:=putN n.es key v }):=by
    unfold St.leafPut
    rw[put_ch]
    dsimp only
    rw[put_put]
    rfl
   rw[hlp]
   have hoff:Off (Zi Z c) S1 (St.put { T with bl:=S1.bl,da:=S1.da } c { n with es:=putN n.es key v }):=by
    refine ⟨rfl,rfl,hT.dk.trans o2.dk.symm,hT.sq.trans o2.sq.symm,fun u hu=>?_⟩
    obtain ⟨z1,z2⟩:=Zi_false hu
    rw[put_ne _ z2,o2.ch]
    exact hT.ch u z1
   have hf:=fin_halve (N:={ n with es:=putN n.es key v,sq:=T.seq }) (NN:={ n with es:=putN n.es key v }) hoff (put_ch _ _ _) rfl rfl (hT.sq.trans o2.sq.symm) o5 o3 (fun u hu=>by rw[t1 u hu];exact h.zc u hu)
   have huw:∀X:St,St.unw [(c,0)] X=match X.halve c with|none=>none|some ([],S1)=>some ([],S1)|some (e :: _,S1)=>some ([e],S1):=fun X=>rfl
   rw[huw]
   rcases hfq:S1.fin c { n with es:=putN n.es key v } with _| ⟨d,ex,S2⟩
   ·rw[hfq] at hf
    dsimp only at hf ⊢
    rw[hf]
   ·rw[hfq] at hf
    dsimp only at hf ⊢
    obtain ⟨rfl,T',f1,f2,f3,f4⟩:=hf
    rw[f1]
    refine ⟨T',?_,f2,fun u hu=>?_,f4⟩
    ·rcases ex with _| ⟨e,_| ⟨e2,t⟩⟩
     ·rfl
     ·rfl
     ·simp at f4
    ·rw[f3 u hu]
     have e2:u≠d:=by rintro rfl;rw[o5] at hu;cases hu
     rw[put_ne _ e2]
 |succ l ih=>
  intro S T Z rs pd G b n h hn hl hK hT
  have ho:=h.nd b n hn
  have hl0:n.lv≠0:=by omega
  have hne:=ho.f.ne hl0
  have hasc:=ho.f.asc
  obtain ⟨pre,e0,post,x,hes,hi,hx,hx1,hx2,hx3,hx4,hx5,hx6,hx7⟩:=ins_at hasc hne key
  obtain ⟨g1,g2,g3⟩:=take_len pre e0 post
  have hget:n.es[(findN n.es key).toNat]?.getD (0,0)=e0:=by rw[hi,hes,g3];rfl
  have hee:e0∈n.es:=by rw[hes];simp
  have hilt:(findN n.es key).toNat<n.es.length:=by rw[hi,hes];simp
  obtain ⟨m,hm1,hm2,hm3,hm4⟩:=ho.f.kid hl0 e0 hee
  rw[hK] at hm3
  unfold St.ins St.whole St.rt
  rw[hT.touch]
  rcases ht:S.touch b n k with _| ⟨c,S1⟩
  ·rfl
  ·rw[Option.map_some]
   dsimp only
   rw[hget,hx]
   rw[←hK] at ht
   obtain ⟨o1,o2,o3,o4,o5,o6⟩:=h.open hn ht
   obtain ⟨t1,t2⟩:=h.touched hn ht
   obtain ⟨kp,hrs,hkk⟩:=h.keep_open hn ht
   have hdn:dats (G.K b) n= []:=by unfold dats;rw[if_neg (fun e=>hl0 e.1)]
   have hkn:kids n=pre.map Prod.snd++e0.2 :: post.map Prod.snd:=by unfold kids;rw[if_neg hl0,hes,List.map_append,List.map_cons]
   rw[hdn] at o1
   have i1:=o1.perm (rs':=e0.2 :: (pre.map Prod.snd++post.map Prod.snd++rs)) (pd':=dv k v++pd) (fun u=>by rw[hkn];simp only[List.count_append,List.count_cons];omega) (fun d=>by simp)
   have hm1':S1.nd (Zi Z c) e0.2=some m:=by rw[(hkk _ (kid_mem hl0 hee)).2];exact hm1
   have hld:S1.load e0.2=some m:=(nd_count hm1').2.2
   have hce:e0.2≠c:=(hkk _ (kid_mem hl0 hee)).1
   have hze:Z e0.2=false:=(nd_count hm1).2.1
   rw[hld]
   dsimp only
   have hoff0:∀N:Nd,Off (Zi Z c) S1 (St.put { T with bl:=S1.bl,da:=S1.da } c N):=fun N=>by
    refine ⟨rfl,rfl,hT.dk.trans o2.dk.symm,hT.sq.trans o2.sq.symm,fun u hu=>?_⟩
    obtain ⟨z1,z2⟩:=Zi_false hu
    rw[put_ne _ z2,o2.ch]
    exact hT.ch u z1
   have hway:St.way k true key (l+1) (St.put { T with bl:=S1.bl,da:=S1.da } c n) c n=(match S1.touch e0.2 m k with
     |none=>none
     |some (d,S2)=>match St.way k true key l ((St.put (St.put { T with bl:=S2.bl,da:=S2.da } c n) d m).put c { n with es:=n.es.set (findN n.es key).toNat (x,d) }) d m with
      |none=>none
      |some (st,T2)=>some ((c,(findN n.es key).toNat) :: st,T2)):=by
    conv=>lhs;unfold St.way
    rw[hget,(hoff0 n).load (by rw[Zi_ne hce];exact hze),hld]
    dsimp only
    unfold St.rt
    rw[(hoff0 n).touch]
    rcases S1.touch e0.2 m k with _| ⟨d,S2⟩
    ·rfl
    ·rw[Option.map_some]
     dsimp only
     have hx':(if findN n.es key<0∧true=true then key else e0.1)=x:=by
      rw[←hx]
      by_cases q:findN n.es key<0
      ·rw[if_pos ⟨q,rfl⟩,if_pos q]
      ·rw[if_neg (fun r=>q r.1),if_neg q]
     rw[hx']
     rfl
   rw[hway]
   rcases ht2:S1.touch e0.2 m k with _| ⟨d,S2⟩
   ·
    dsimp only
    have:S1.ins k key v l e0.2 m=none:=by
     cases l
     ·unfold St.ins;rw[ht2]
     ·unfold St.ins;rw[ht2]
    rw[this]
   ·dsimp only
    have hcd:c≠d:=by
     have ht3:=ht2
     rw[←hm3] at ht3
     have:=(i1.open hm1' ht3).2.2.2.2.1
     rintro rfl
     rw[Zi_self] at this
     cases this
    have hT2:=hoff0 { n with es:=n.es.set (findN n.es key).toNat (x,d) }
    have hih:=ih S1 _ (Zi Z c) (pre.map Prod.snd++post.map Prod.snd++rs) pd G e0.2 m i1 hm1' (by omega) hm3 hT2
    have hio:=ins_ok (v:=v) hkr l S1 (Zi Z c) (pre.map Prod.snd++post.map Prod.snd++rs) pd G e0.2 m i1 hm1' (by omega) hm3
    have hst:(St.put (St.put { T with bl:=S2.bl,da:=S2.da } c n) d m).put c { n with es:=n.es.set (findN n.es key).toNat (x,d) } =(St.put { T with bl:=S2.bl,da:=S2.da } c { n with es:=n.es.set (findN n.es key).toNat (x,d) }).put d m:=by
     rw[put_comm _ hcd,put_put]
     exact (put_comm _ hcd _ _).symm
    have hwh:∀N:Nd,St.whole k key v l (St.put { T with bl:=S1.bl,da:=S1.da } c N) e0.2 m=match St.way k true key l ((St.put { T with bl:=S2.bl,da:=S2.da } c N).put d m) d m with
      |none=>none
      |some (st,T2)=>match St.unw st.reverse (T2.leafPut key v (leafOf st)) with
       |none=>none
       |some (ex,T3)=>some (d,ex,T3):=fun N=>by
     unfold St.whole St.rt
     rw[(hoff0 N).touch,ht2,Option.map_some]
     rfl
    rw[hwh] at hih
    rw[hst]
    rcases hwq:St.way k true key l ((St.put { T with bl:=S2.bl,da:=S2.da } c { n with es:=n.es.set (findN n.es key).toNat (x,d) }).put d m) d m with _| ⟨st,T2⟩
    ·rw[hwq] at hih
     dsimp only at hih ⊢
     rcases hiq:S1.ins k key v l e0.2 m with _| ⟨d',ex,S3⟩
     ·rfl
     ·rw[hiq] at hih
      dsimp only at hih
      obtain ⟨T',q,-⟩:=hih
      cases q
    ·rw[hwq] at hih
     have hsl:=way_len _ _ _ _ hwq
     have hst0:st≠[]:=by rintro rfl;simp at hsl
     dsimp only at hih ⊢
     rw[leafOf_cons _ hst0,List.reverse_cons,unw_snoc _ _ _ (by simpa using hst0)]
     rcases huq:St.unw st.reverse (T2.leafPut key v (leafOf st)) with _| ⟨ex0,T3⟩
     ·rw[huq] at hih
      dsimp only at hih ⊢
      rcases hiq:S1.ins k key v l e0.2 m with _| ⟨d',ex,S3⟩
      ·rfl
      ·rw[hiq] at hih
       dsimp only at hih
       obtain ⟨T',q,-⟩:=hih
       cases q
     ·rw[huq] at hih
      dsimp only at hih ⊢
      rcases hiq:S1.ins k key v l e0.2 m with _| ⟨d',ex,S3⟩
      ·rw[hiq] at hih
       dsimp only at hih
       cases hih
      ·rw[hiq] at hih hio
       dsimp only at hih hio ⊢
       obtain ⟨T',q,f2,f3,f4⟩:=hih
       injection q with q
       injection q with q1 q
       injection q with q2 q3
       subst q1 q2 q3
       obtain ⟨G2,hP⟩:=hio
       have hc1:S3.bl.count c=1:=by rw[(hP.keep.zk c (Zi_self Z c)).1];exact o3
       have hTc:T3.ch c=some { n with es:=n.es.set (findN n.es key).toNat (x,d),sq:=T.seq }:=by rw[f3 c (Zi_self Z c),put_ch]
       have hsq3:T.seq=S3.seq:=hT.sq.trans (o2.sq.symm.trans hP.keep.sq.symm)
       have hzc3:∀u,Z u=true→S3.bl.count u≠0:=fun u hu=>by
        have huc:u≠c:=by rintro rfl;rw[o5] at hu;cases hu
        rw[(hP.keep.zk u (by rw[Zi_ne huc];exact hu)).1,t1 u hu]
        exact h.zc u hu
       have hTz:∀u,Z u=true→T3.ch u=T.ch u:=fun u hu=>by
        have huc:u≠c:=by rintro rfl;rw[o5] at hu;cases hu
        rw[f3 u (by rw[Zi_ne huc];exact hu),put_ne _ huc]
       have hset:=set_td n.es (findN n.es key).toNat (x,d) hilt
       rcases ex0 with _| ⟨e,_| ⟨e2,t⟩⟩
       ·dsimp only
        have hff:=fin_halve (T:=T3) (NN:={ n with es:=n.es.take (findN n.es key).toNat++(x,d) :: ([]++n.es.drop ((findN n.es key).toNat+1)) }) f2 hTc (by show n.es.set _ _=_;rw[hset];rfl) rfl hsq3 o5 hc1 hzc3
        have hl7:(n.es.take (findN n.es key).toNat++(x,d) :: ([]++n.es.drop ((findN n.es key).toNat+1))).length≤7:=by
         rw[List.nil_append,←hset,List.length_set]
         exact ho.ln
        have hfin:S3.fin c { n with es:=n.es.take (findN n.es key).toNat++(x,d) :: ([]++n.es.drop ((findN n.es key).toNat+1)) } =some (c,[],S3.put c { n with es:=n.es.take (findN n.es key).toNat++(x,d) :: ([]++n.es.drop ((findN n.es key).toNat+1)) }):=by
         unfold St.fin
         rw[if_pos hl7]
        rw[hfin] at hff ⊢
        dsimp only at hff ⊢
        obtain ⟨-,T',h1,h2,h3,h4⟩:=hff
        have hhv:T3.halve c=some ([],T3):=by
         unfold St.halve
         rw[hTc]
         dsimp only
         rw[if_pos (by rw[List.length_set];exact ho.ln)]
        rw[hhv] at h1
        injection h1 with h1
        injection h1 with _ h1
        subst h1
        exact ⟨T3,rfl,h2,hTz,by simp⟩
       ·dsimp only
        have hhg:T3.hang c (findN n.es key).toNat e=T3.put c { n with es:=n.es.take (findN n.es key).toNat++(x,d) :: ([e]++n.es.drop ((findN n.es key).toNat+1)) }:=by
         unfold St.hang
         rw[hTc]
         dsimp only
         have e1:(n.es.set (findN n.es key).toNat (x,d)).take ((findN n.es key).toNat+1)=n.es.take (findN n.es key).toNat++ [(x,d)]:=by
          rw[hset,List.take_append,List.take_of_length_le (by rw[List.length_take];omega),List.length_take]
          congr 1
          rw[show (findN n.es key).toNat+1 - min (findN n.es key).toNat n.es.length=1 by omega]
          rfl
         have e2:(n.es.set (findN n.es key).toNat (x,d)).drop ((findN n.es key).toNat+1)=n.es.drop ((findN n.es key).toNat+1):=by
          rw[List.drop_set_of_lt (by omega)]
         rw[e1,e2]
         unfold St.put
         congr 1
         simp
        rw[hhg]
        have hoff3:Off (Zi Z c) S3 (T3.put c { n with es:=n.es.take (findN n.es key).toNat++(x,d) :: ([e]++n.es.drop ((findN n.es key).toNat+1)) }):=by
         refine ⟨f2.bl,f2.da,f2.dk,f2.sq,fun u hu=>?_⟩
         rw[put_ne _ (Zi_false hu).2]
         exact f2.ch u hu
        have hff:=fin_halve (NN:={ n with es:=n.es.take (findN n.es key).toNat++(x,d) :: ([e]++n.es.drop ((findN n.es key).toNat+1)) }) hoff3 (put_ch _ _ _) rfl rfl f2.sq o5 hc1 hzc3
        rcases hfq:S3.fin c { n with es:=n.es.take (findN n.es key).toNat++(x,d) :: ([e]++n.es.drop ((findN n.es key).toNat+1)) } with _| ⟨c',ex',S4⟩
        ·rw[hfq] at hff
         dsimp only at hff ⊢
         rw[hff]
        ·rw[hfq] at hff
         dsimp only at hff ⊢
         obtain ⟨rfl,T',h1,h2,h3,h4⟩:=hff
         rw[h1]
         refine ⟨T',?_,h2,fun u hu=>?_,h4⟩
         ·rcases ex' with _| ⟨e',_| ⟨e2,t⟩⟩
          ·rfl
          ·rfl
          ·simp at h4
         ·have huc:u≠c':=by rintro rfl;rw[o5] at hu;cases hu
          rw[h3 u hu,put_ne _ huc]
          exact hTz u hu
       ·simp at f4
end
end
end Go.Proofs.YtplhdjdkobddnaaGreat
