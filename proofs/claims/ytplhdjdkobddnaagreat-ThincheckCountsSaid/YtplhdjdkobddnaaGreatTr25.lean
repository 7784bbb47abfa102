/- StQ StU KC StV MwF -/
import Derived.Test.YtplhdjdkobddnaaGreatTr24
import Derived.Test.YtplhdjdkobddnaaGreatTr18
set_option linter.unusedVariables false
set_option maxRecDepth 100000
set_option maxHeartbeats 40000000
namespace Go.Proofs.YtplhdjdkobddnaaGreat
section
open Go.RowKit
attribute [local go_sem] Oper.semAt_some
section
variable {W W':World} {F F':Nat→Prop} {P:SP} {S:St} {ws:List Nat} {G:Nat→Prop} {mp len:Nat} {ch:Nat→Option Nd} {Out:Nat→Prop}
theorem ChIn.look1 (h:ChIn W mp len ch Out) (b:Nat) (hb:b≤1000000) {nd:Nd} (hc:ch b=some nd) :
  ∃v,(Instr.lookup 150 (.map (some mp)) (.int .i64 (b:Int)) false).run Tryz.prog W=.ok v W∧NdV W Out nd v:=by
 obtain ⟨n,D,h1,h2,h3,h4⟩:=h
 obtain ⟨v,ps,hrun,hv⟩:=h1.lookup (Maps.int_keyed Tryz.underlying3) Tryz.underlying150 (zero_node W) (zd:=.held (.agg #[.int .i64 0,.int .i64 0,.slice none 0 0])) (zp:=[]) rfl (ChIn.key (x:=(b:Int)) (by omega))
 have hv2:D.atKey (.int .i64 (b:Int)) (.held (.agg #[.int .i64 0,.int .i64 0,.slice none 0 0]))=.held v:=by
  unfold valElem at hv
  injection hv with hv
  injection hv with hv _
  exact hv.symm
 obtain ⟨u,u1,u2,u3⟩:=(h4 b).1 b rfl nd hc
 refine ⟨v,hrun,?_⟩
 rw[u2] at hv2
 injection hv2 with hv2
 rw[←hv2]
 exact u3
theorem ChIn.look2 (h:ChIn W mp len ch Out) (b:Nat) (hb:b≤1000000) {nd:Nd} (hc:ch b=some nd) :
  ∃v,(∀w',Below W.heap.size W w'→(Instr.lookup 150 (.map (some mp)) (.int .i64 (b:Int)) false).run Tryz.prog w'=.ok v w')∧NdV W Out nd v:=by
 obtain ⟨n,D,h1,h2,h3,h4⟩:=h
 obtain ⟨u,u1,u2,u3⟩:=(h4 b).1 b rfl nd hc
 refine ⟨u,fun w' hw=>?_,u3⟩
 have h1':w'.ownsMap Tryz.prog 3 valElem mp n D:=owns_fr h1 (Fr.of_below (G:=fun _=>False) hw) (fun q=>q)
 obtain ⟨v,ps,hrun,hv⟩:=h1'.lookup (Maps.int_keyed Tryz.underlying3) Tryz.underlying150 (zero_node w') (zd:=.held (.agg #[.int .i64 0,.int .i64 0,.slice none 0 0])) (zp:=[]) rfl (ChIn.key (x:=(b:Int)) (by omega))
 have hv2:D.atKey (.int .i64 (b:Int)) (.held (.agg #[.int .i64 0,.int .i64 0,.slice none 0 0]))=.held v:=by
  unfold valElem at hv
  injection hv with hv
  injection hv with hv _
  exact hv.symm
 rw[u2] at hv2
 injection hv2 with hv2
 rw[hv2]
 exact hrun
theorem stv_at (l:List (Nat × Nat)) (i:Nat) (h:i<l.length):(stv l)[i * 2]? =some (.int .i64 ((l[i].1:Nat):Int))∧(stv l)[i * 2+1]? =some (.int .i64 ((l[i].2:Nat):Int)):=by
 induction l generalizing i with
 |nil=>simp at h
 |cons a l ih=>
  have e:stv (a :: l)= [.int .i64 (a.1:Int),.int .i64 (a.2:Int)]++stv l:=rfl
  rw[e]
  cases i with
  |zero=>exact ⟨rfl,rfl⟩
  |succ i=>
   obtain ⟨h1,h2⟩:=ih i (by simpa using h)
   have e1:(i+1) * 2=i * 2+2:=by omega
   have e2:(i+1) * 2+1=(i * 2+1)+2:=by omega
   rw[e1]
   refine ⟨?_,?_⟩
   ·rw[List.getElem?_append_right (by simp)]
    simpa using h1
   ·rw[List.getElem?_append_right (by simp)]
    simpa using h2
theorem entV_form (key:Int) (o:Option Nat):∃a:Int,entV key o=.agg #[.int .i64 a,.int .u64 ((o.getD 0:Nat):Int)]:=by
 rcases o with _|v
 ·exact ⟨0,rfl⟩
 ·exact ⟨key,rfl⟩
theorem take_rev (st:List (Nat × Nat)) (i:Nat) (h:i<st.length):(st.take (i+1)).reverse=st[i] :: (st.take i).reverse:=by
 rw[List.take_succ_eq_append_getElem h,List.reverse_append]
 rfl
theorem leafOf_last (st:List (Nat × Nat)) (h:st≠[]):leafOf st=(st[st.length - 1]'(by have:=List.length_pos_iff.2 h;omega)).1:=by
 unfold leafOf
 rw[List.getLast?_eq_getElem?,List.getElem?_eq_getElem]
 rfl
theorem headOf_first (st:List (Nat × Nat)) (h:0<st.length):headOf st=st[0].1:=by
 unfold headOf
 rcases st with _| ⟨a,l⟩
 ·simp at h
 ·rfl
end
end
section
open Go.RowKit
attribute [local go_sem] Oper.semAt_some
def St.inList (S:St) (b:Nat):Bool:=(S.ch b).isSome && decide (S.bl.count b≠0)
def St.listTo (S:St) (k:Nat):List Nat:=(List.range k).filter S.inList
def St.listB (S:St):List Nat:=S.listTo S.bl.now.length
theorem listTo_succ (S:St) (k:Nat):S.listTo (k+1)=S.listTo k++(if S.inList k=true then [k] else []):=by
 unfold St.listTo
 rw[List.range_succ,List.filter_append]
 by_cases h:S.inList k=true
 ·rw[if_pos h];simp[h]
 ·rw[if_neg h];simp[h]
theorem own_keepU {w w':World} {base n:Nat} {e:TypeId} {size:Nat} {v:Value} {xs:List Value} (h:w.ownsRow base e size v n xs) (hb:Below w.heap.size w w'):w'.ownsRow base e size v n xs:=own_fr h (Fr.of_below (G:=fun _=>False) hb) (fun _ _ q=>q)
theorem listTo_len (S:St) (k:Nat):(S.listTo k).length≤k:=by
 unfold St.listTo
 have:=List.length_filter_le S.inList (List.range k)
 simpa using this
theorem rlist26_any (W:World) (F:Nat→Prop) (P:SP) (S:St) (ws:List Nat) (h:StIn W F P S ws) :
  Calls Tryz.prog 130 #[.pointer (some ⟨P.s,0,none⟩)] W fun e w'=>∃v,e=.returned v∧w'.ownsRow W.heap.size 3 1 v S.listB.length (nv S.listB)∧Below W.heap.size W w':=by
 obtain ⟨i0,hi0,hz0,hz1,hz2⟩:=info_parts int_info
 have H:=Hi h
 have hlen:=h.mb.lt
 obtain ⟨N,hN⟩ :∃N,S.bl.now.length=N:=⟨_,rfl⟩
 rw[hN] at hlen
 have HN:=Hi hN
 have hLB:Hid (S.listB=S.listTo N):=by show _=_;unfold St.listB;rw[hN]
 clear h hN
 go_enter Tryz.func130,Tryz.ntmps130
 go_wp2_with fail
 go_loopw [3,4] (fun s3 s4 wr=>∃(b:Nat) (v:Value),b≤N∧s4=.int .i64 b∧s3=v∧Hid (wr.ownsRow W.heap.size 3 1 v (S.listTo b).length (nv (S.listTo b)))∧Hid (Below W.heap.size W wr)) (fun _ s4 _=>N - (intOf s4).toNat)
 case atStart=>exact ⟨0,_,Nat.zero_le _,rfl,rfl,World.ownsRow_nil _ _ _ _,Below.refl _ _⟩
 case round=>
  obtain ⟨b,v,hb,rfl,rfl,hown,hbw⟩:=hrel
  have hst:=H.out.keep hbw.out
  have x1:wr.cell? ⟨P.s,1,none⟩=some (.pointer (some ⟨P.b.p,0,none⟩)):=hst.cs.cell 1
  have x4:wr.cell? ⟨P.s,4,none⟩=some (.map (some P.mp)):=hst.cs.cell 4
  have xb:wr.cell? ⟨P.b.p,0,none⟩=some (.slice (some ⟨P.b.gn,0,none⟩) S.bl.now.length P.b.cn):=hst.mb.cs.cell 0
  rw[HN.out] at xb
  obtain ⟨A0,c0,rfl⟩:=own_form hown.out
  by_cases hlt:b<N
  ·obtain ⟨vb,hlk,hv1,hv2⟩:=hst.ch.look b (by omega)
   have hnow:=(hst.mb.nowAt (b:=b) (by rw[HN.out];exact hlt)).1
   obtain ⟨cc,hcc⟩ :∃cc,S.bl.count b=cc:=⟨_,rfl⟩
   rw[hcc] at hnow
   have HCC:=Hi hcc
   have hps:=hst.cs.lt
   obtain ⟨hbp,hbg,-⟩:=hst.mb.bd
   have hll:=listTo_len S b
   obtain ⟨M,hM⟩ :∃M,(S.listTo b).length=M:=⟨_,rfl⟩
   rw[hM] at hll hown
   have HM:=Hi hM
   rw[hM]
   have hwsz:=hbw.out.size
   have HST:=Hi hst
   clear hcc hM hst
   rcases hc:S.ch b with _|nd
   ·have hv:=hv2 hc
    subst hv
    rw[hc] at hlk
    have hsu:Hid (S.listTo (b+1)=S.listTo b):=by
     show _=_
     rw[listTo_succ]
     unfold St.inList
     rw[hc]
     simp
    clear hv1 hv2 hc
    go_wp2_with fail
    go_roundw
    case rel=>
     have hbx:Below wr.heap.size wr (wr.alloc (.cells #[.int .i64 0,.int .i64 0,.slice none 0 0] 129)):=(Below.refl _ wr).alloc (Nat.le_refl _) _
     refine ⟨b+1,.slice A0 M c0,by omega,by go_num,rfl,?_,hbw.out.trans (hbx.mono hwsz)⟩
     rw[hsu.out,HM.out]
     exact own_keepU hown.out hbx
    case measure=>simp[intOf];omega
   ·obtain ⟨Ab,cb,rfl⟩:=(hv1 nd hc).val
    rw[hc] at hlk
    obtain ⟨lb,hlb⟩ :∃q:Int,((nd.lv:Nat):Int)=q:=⟨_,rfl⟩
    obtain ⟨qb,hqb⟩ :∃q:Int,((nd.sq:Nat):Int)=q:=⟨_,rfl⟩
    obtain ⟨Lb,hLb⟩ :∃q,nd.es.length=q:=⟨_,rfl⟩
    rw[hlb,hqb,hLb] at hlk
    have HC:=Hi hc
    clear hv1 hv2 hc hlb hqb hLb
    have hbx:Below wr.heap.size wr (wr.alloc (.cells #[.int .i64 lb,.int .i64 qb,.slice Ab Lb cb] 129)):=(Below.refl _ wr).alloc (Nat.le_refl _) _
    have HBX:=Hi hbx
    by_cases hc0:cc=0
    ·have d0:¬(0:Int)<(cc:Int):=by omega
     have hsu:Hid (S.listTo (b+1)=S.listTo b):=by
      show _=_
      rw[listTo_succ]
      unfold St.inList
      rw[HCC.out]
      simp[hc0]
     clear hbx
     go_wp2_with fail
     go_roundw
     case rel=>
      refine ⟨b+1,.slice A0 M c0,by omega,by go_num,rfl,?_,hbw.out.trans (HBX.out.mono hwsz)⟩
      rw[hsu.out,HM.out]
      exact own_keepU hown.out HBX.out
     case measure=>simp[intOf];omega
    ·have d0:(0:Int)<(cc:Int):=by omega
     have hsu:Hid (S.listTo (b+1)=S.listTo b++ [b]):=by
      show _=_
      rw[listTo_succ]
      unfold St.inList
      rw[HCC.out,HC.out]
      simp[hc0]
     have HOW:=Hi (own_keepU hown.out hbx)
     have hsx:W.heap.size≤(wr.alloc (.cells #[.int .i64 lb,.int .i64 qb,.slice Ab Lb cb] 129)).heap.size:=by have:=hbx.size;omega
     clear hbx
     go_upto_region 7 with (fail)
     generalize (wr.alloc (.cells #[.int .i64 lb,.int .i64 qb,.slice Ab Lb cb] 129))=w5 at HBX HOW hsx ⊢
     have hb6:Below w5.heap.size w5 (w5.alloc (.cells #[.int .i64 (b:Int)] 3)):=(Below.refl _ w5).alloc (Nat.le_refl _) _
     have hrd6:Reads (w5.alloc (.cells #[.int .i64 (b:Int)] 3)) (some ⟨w5.heap.size,0,none⟩) [.int .i64 (b:Int)]:=Reads.new _ _ _
     have hs6:=Nat.le_trans hsx hb6.size
     iterate 10 go_step
     refine wpList_append_reads _ (by rfl) _ _ _ (by rfl) W.heap.size 3 i0 _ 1 8 Tryz.underlying22 hi0 hz0 hz1 hz2 (by rfl) (by omega) (.slice A0 M c0) M (nv (S.listTo b)) (by rfl) (own_keepU HOW.out hb6) (some ⟨w5.heap.size,0,none⟩) 1 1 [.int .i64 (b:Int)] (by rfl) (by rfl) hrd6 (by simp[Value.oneCell']) (by simp only[maxLen];omega) (by omega) hs6 ?_
     intro v1 w7 hown7 hg7 hat7
     have hbw7:Below W.heap.size W w7:=((hbw.out.trans (HBX.out.mono hwsz)).trans (hb6.mono hsx)).grown hg7 hs6 (own_base hown.out)
     have HO7:=Hi hown7
     clear hown7 hg7 hat7 hb6 hrd6 hs6
     go_wp2_with fail
     go_roundw
     case rel=>
      refine ⟨b+1,v1,by omega,by go_num,rfl,?_,hbw7⟩
      rw[hsu.out,List.length_append,HM.out]
      have e1:nv (S.listTo b++ [b])=nv (S.listTo b)++ [.int .i64 (b:Int)]:=by unfold nv;rw[List.map_append];rfl
      rw[e1]
      exact HO7.out
     case measure=>simp[intOf];omega
  ·obtain rfl:b=N:=by omega
   go_wp2_with fail
   go_ret
   refine ⟨_,rfl,?_,hbw.out⟩
   rw[hLB.out]
   exact hown.out
end
section
open Go.RowKit Go.Shelf
attribute [local go_sem] Oper.semAt_some
def cpL (l:List Nat) (b:Nat) (src:List Nat) (a:Nat):Nat→List Nat
 |0=>l
 |i+1=>(cpL l b src a i).set (b+i) (src[a+i]?.getD 0)
theorem cpL_length (l:List Nat) (b:Nat) (src:List Nat) (a i:Nat):(cpL l b src a i).length=l.length:=by
 induction i with
 |zero=>rfl
 |succ i ih=>rw[cpL,List.length_set,ih]
theorem cpL_at (l:List Nat) (b:Nat) (src:List Nat) (a i j:Nat):(cpL l b src a i)[j]? =if b≤j∧j<b+i∧j<l.length then some (src[a+(j - b)]?.getD 0) else l[j]?:=by
 induction i with
 |zero=>rw[cpL,if_neg (by omega)]
 |succ i ih=>
  rw[cpL,List.getElem?_set,cpL_length,ih]
  by_cases e:b+i=j
  ·subst e
   by_cases hl:b+i<l.length
   ·rw[if_pos rfl,if_pos hl,if_pos ⟨by omega,by omega,hl⟩,show b+i - b=i by omega]
   ·rw[if_pos rfl,if_neg hl,if_neg (by omega),List.getElem?_eq_none (by omega)]
  ·rw[if_neg e]
   by_cases h:b≤j∧j<b+i∧j<l.length
   ·rw[if_pos h,if_pos ⟨h.1,by omega,h.2.2⟩]
   ·rw[if_neg h,if_neg (by omega)]
theorem Fr.row {g:Nat} {W W':World} {cs:Array Value} (h:Fr (· =g) W W'):Fr (· =g) W (W'.setRow g cs):=
 h.trans ⟨rfl,rfl,rfl,by simp[World.setRow],fun j hj hn=>setRow_other W' g j cs hn⟩
theorem wp_copy_run {P:Program} (w:World) {o:Oper} {a:Act} {K:Act→World→Prop} {Q:Exit→Act→World→Prop} (s x:Operand) (t tn:TypeId)
  (ho:o.op=.call { callee:=.builtin .copy,args:=#[s,x],argTypes:=#[t,tn] }) (vs vx:Value) (hs:a.eval s=vs) (hx:a.eval x=vx)
  (v':Value) (w':World) (hr:(Builtin.copy_ #[t,tn] o.type #[vs,vx]).run P w=.ok v' w') (h:K (a.put o.dst v') w'):o.wp P a w K Q:=by
 unfold Oper.wp execOp
 simp only[ho,resolve,invoke,builtin,Sem.run_bind,Sem.run_pure,Result.andThen_ok,List.map_toArray,List.map_cons,List.map_nil,hs,hx,hr]
 exact h
theorem wpList_copy_run {P:Program} (w:World) {ops:Array Oper} {rest:List Oper} {o:Oper} {a:Act} {Q:Exit→Act→World→Prop} (hgd:o.guard=none) (s x:Operand) (t tn:TypeId)
  (ho:o.op=.call { callee:=.builtin .copy,args:=#[s,x],argTypes:=#[t,tn] }) (vs vx:Value) (hs:a.eval s=vs) (hx:a.eval x=vx)
  (v':Value) (w':World) (hr:(Builtin.copy_ #[t,tn] o.type #[vs,vx]).run P w=.ok v' w') (h:wpList P ops Q rest (a.put o.dst v') w'):wpList P ops Q (o :: rest) a w:=
 wpList_plain hgd fun _ hK=>wp_copy_run w s x t tn ho vs vx hs hx v' w' hr (hK _ _ h)
theorem splice_atC {α:Type} (L:List α) (o:Nat) (X:List α) (h:o+X.length≤L.length) (j:Nat):(splice L o X)[j]? =if j<o then L[j]? else if j<o+X.length then X[j - o]? else L[j]?:=by
 unfold splice
 have h1:(L.take o).length=o:=by rw[List.length_take];omega
 rw[List.getElem?_append,h1]
 split
 ·rename_i hj
  rw[List.getElem?_take,if_pos hj]
 ·rw[List.getElem?_append]
  split
  ·rename_i hj
   rw[if_pos (by omega)]
  ·rename_i hj
   rw[if_neg (by omega),List.getElem?_drop]
   congr 1
   omega
theorem copy_own {W:World} {base base' g s n m cap cap':Nat} {L M:List Nat} (h:W.ownsRow base 39 1 (.slice (some ⟨g,0,none⟩) n cap) n (uv L)) (hL:L.length=n) (h':W.ownsRow base' 39 1 (.slice (some ⟨s,0,none⟩) m cap') m (uv M)) (hM:M.length=m) (off so c:Nat) (h1:off+c≤n) (h2:so+c≤m) :
  ∃W',(∀(ty:TypeId) (dc sl sc:Nat),c≤sl→(Builtin.copy_ #[27,27] ty #[.slice (some ⟨g,off,none⟩) c dc,.slice (some ⟨s,so,none⟩) sl sc]).run Tryz.prog W=.ok (.int .i64 (c:Int)) W')∧W'.ownsRow base 39 1 (.slice (some ⟨g,0,none⟩) n cap) n (uv (cpL L off M so c))∧Fr (· =g) W W':=by
 obtain ⟨i0,hi0,hz0,hz1,hz2⟩:=info_parts u64_info
 have hxl:=h.1
 rcases h.2 with ⟨e,-⟩| ⟨g',cap1,cur,e,hb,hh,hn,hcm,hcs,ht⟩
 ·cases e
 ·injection e with e1 e2 e3
  injection e1 with e1
  injection e1 with e1
  subst e1
  subst e3
  have hcl:cur.toList.length=cap:=by rw[Array.length_toList,hcs,Nat.mul_one]
  rw[Nat.mul_one] at ht hxl
  have hX:(uv ((M.drop so).take c)).length=c:=by rw[uv_length,List.length_take,List.length_drop];omega
  have hg:Cs W g 39 cur.toList.toArray:=by show _=_;rw[Array.toArray_toList];exact hh
  have hfit:off+(uv ((M.drop so).take c)).length≤cur.toList.length:=by rw[hX,hcl];omega
  have hat:∀j:Nat,(uv (cpL L off M so c))[j]? =(((splice cur.toList off (uv ((M.drop so).take c))).take n))[j]?:=by
   intro j
   rw[List.getElem?_take]
   have e0:(uv (cpL L off M so c))[j]? =((cpL L off M so c)[j]?).map (fun x:Nat=>Value.int .u64 (x:Int)):=by unfold uv;rw[List.getElem?_map]
   have e1:∀j:Nat,j<n→cur.toList[j]? =(L[j]?).map (fun x:Nat=>Value.int .u64 (x:Int)):=by
    intro j hj
    have:(cur.toList.take n)[j]? =(uv L)[j]?:=by rw[ht]
    rw[List.getElem?_take,if_pos hj] at this
    rw[this]
    unfold uv
    rw[List.getElem?_map]
   rw[e0,cpL_at,splice_atC _ _ _ hfit,hX,hL]
   by_cases hj:j<n
   ·rw[if_pos hj]
    by_cases hjo:j<off
    ·rw[if_neg (by omega),if_pos hjo,e1 j hj]
    ·rw[if_neg hjo]
     by_cases hjc:j<off+c
     ·rw[if_pos ⟨by omega,hjc,hj⟩,if_pos hjc]
      unfold uv
      rw[List.getElem?_map,List.getElem?_take,if_pos (by omega),List.getElem?_drop,List.getElem?_eq_getElem (by omega)]
      rfl
     ·rw[if_neg (by omega),if_neg hjc,e1 j hj]
   ·rw[if_neg hj,if_neg (by omega),List.getElem?_eq_none (by omega)]
    rfl
  refine ⟨W.setRow g (splice cur.toList off (uv ((M.drop so).take c))).toArray,?_,?_,Fr.row (Fr.refl _ W)⟩
  ·intro ty dc sl sc hsl
   have hr:=run_copyS (P:=Tryz.prog) W 27 27 ty 39 1 g off c dc ⟨s,so,none⟩ sl sc cur.toList 39 (uv ((M.drop so).take c)) Tryz.underlying27 (by rw[hi0,Option.map_some,hz1]) hg (by rw[hX,Nat.mul_one];exact (Nat.min_eq_right hsl).symm) (fun j v hj=>by
    have hlt:=(List.getElem?_eq_some_iff.1 hj).1
    rw[hX] at hlt
    rw[Addr.add_lit,h'.cellAt (so+j) (by omega)]
    unfold uv at hj ⊢
    rw[List.getElem?_map,List.getElem?_take,if_pos hlt,List.getElem?_drop] at hj
    rw[List.getElem?_map]
    exact hj) hfit (uv_one _)
   rw[show Nat.min sl c=c from Nat.min_eq_right hsl] at hr
   exact hr
  ·refine own_make (setRow_heap W g _ _ 39 _ hh) hb hn hcm (by rw[length_splice _ _ _ hfit,hcl,Nat.mul_one]) ?_ (by rw[uv_length,cpL_length,hL,Nat.mul_one])
   rw[Nat.mul_one]
   exact List.ext_getElem? (fun j=>(hat j).symm)
end
section
open Go.RowKit
attribute [local go_sem] Oper.semAt_some
def wput (ws:List Nat) (b:Nat) (n:Nd):List Nat:=cpL ws (b * 16) (encN (n.lv:Int) (n.sq:Int) n.es (b:Int)) 0 16
def St.wrt (S:St) (ws:List Nat) (b:Nat):List Nat:=match S.ch b with
 |some n=>wput ws b n
 |none=>ws
def St.wrts (S:St) (ws:List Nat) (l:List Nat):List Nat:=l.foldl S.wrt ws
theorem wput_len (ws:List Nat) (b:Nat) (n:Nd):(wput ws b n).length=ws.length:=cpL_length _ _ _ _ _
theorem wrts_snoc (S:St) (ws l:List Nat) (b:Nat):S.wrts ws (l++ [b])=S.wrt (S.wrts ws l) b:=by
 unfold St.wrts
 rw[List.foldl_append]
 rfl
theorem wrts_len (S:St) (l:List Nat):∀(ws:List Nat),(S.wrts ws l).length=ws.length:=by
 induction l with
 |nil=>intro ws;rfl
 |cons b l ih=>
  intro ws
  show (S.wrts (S.wrt ws b) l).length=_
  rw[ih]
  unfold St.wrt
  split
  ·exact wput_len _ _ _
  ·rfl
theorem cpL_w64 {l src:List Nat} (h:W64 l) (hs:W64 src) (b a i:Nat):W64 (cpL l b src a i):=by
 induction i with
 |zero=>exact h
 |succ i ih=>exact ih.set _ _ (hs.at _)
theorem listB_mem {S:St} {b:Nat} (h:b∈S.listB):b<S.bl.now.length∧S.bl.count b≠0∧∃n,S.ch b=some n:=by
 unfold St.listB St.listTo at h
 obtain ⟨h1,h2⟩:=List.mem_filter.1 h
 rw[List.mem_range] at h1
 unfold St.inList at h2
 simp only[Bool.and_eq_true,decide_eq_true_eq] at h2
 exact ⟨h1,h2.2,Option.isSome_iff_exists.1 h2.1⟩
theorem StIn.words {W W':World} {F:Nat→Prop} {P:SP} {S:St} {ws ws':List Nat} (h:StIn W F P S ws) (hr:W'.ownsRow 0 39 1 (.slice (some ⟨P.w,0,none⟩) ws.length P.cw) ws.length (uv ws')) (hf:Fr (· =P.w) W W') (hl:ws'.length=ws.length) (h64:W64 ws'):StIn W' F P { S with dk:=dkW ws' } ws':=by
 obtain ⟨n1,n2,n3,n4,n5⟩:=h.ne
 refine ⟨?_,h.mb.fr hf (fun j hj e=>(n2 j hj).2.2 e),h.md.fr hf (fun j hj e=>(n3 j hj).2.2 e),by rw[hl];exact hr,h64,by rw[hl];exact h.wl,rfl,h.ch.fr hf (fun e=>n4 e.symm) (fun j hj e=>hj.2 (.inr (.inr (.inr (.inl e))))),h.inF,h.ap,h.sq⟩
 rw[hl]
 exact h.cs.fr hf (fun e=>n5 e.symm)
theorem rforget26_any (W:World) (F:Nat→Prop) (P:SP) (S:St) (ws:List Nat) (h:StIn W F P S ws) :
  Calls Tryz.prog 131 #[.pointer (some ⟨P.s,0,none⟩)] W fun e w'=>e=.returned (.tuple #[])∧StIn w' (fun j=>(F j∧j≠P.mp)∨j=W.heap.size) { P with mp:=W.heap.size } { S with ch:=fun _=>none } ws∧Fr (fun j=>j=P.s) W w':=by
 have H:=Hi h
 obtain ⟨y4,y4f⟩ :W.cell? ⟨P.s,4,none⟩=some (.map (some P.mp))∧W.frozen? ⟨P.s,4,none⟩=false:=⟨h.cs.cell 4,h.cs.free 4⟩
 have hps:=h.cs.lt
 have hmm:=@run_makeMap Tryz.prog
 clear h
 go_enter Tryz.func131,Tryz.ntmps131
 go_wp2_with fail
 have hlt:=H.out.lt
 have hne:=H.out.ne
 have hf1:Fr (fun j=>j=P.s) W (W.setCell ⟨P.s,4,none⟩ (.map (some W.heap.size))):=fr_set _ _ _ _
 have hf:Fr (fun j=>j=P.s) W ((W.setCell ⟨P.s,4,none⟩ (.map (some W.heap.size))).alloc (.map #[] 0)):=hf1.alloc _
 have hch:=ChIn.made (W.setCell ⟨P.s,4,none⟩ (.map (some W.heap.size))) S.bl.now.length (fun j=>((F j∧j≠P.mp)∨j=W.heap.size)∧¬({ P with mp:=W.heap.size }:SP).has j)
 rw[show (W.setCell ⟨P.s,4,none⟩ (.map (some W.heap.size))).heap.size=W.heap.size by simp] at hch
 have hcs0:Cs (W.setCell ⟨P.s,4,none⟩ (.map (some W.heap.size))) P.s _ _:=heap_setCell_same W P.s 4 _ _ (.map (some W.heap.size)) H.out.cs
 have hcs:=hcs0.alloc (.map #[] 0)
 obtain ⟨n1,n2,n3,n4,n5⟩:=hne
 have hps1:∀j,P.b.has j→j≠P.s:=fun j hj=>(n2 j hj).2.1
 have hps2:∀j,P.d.has j→j≠P.s:=fun j hj=>(n3 j hj).2.1
 refine bodyPost_end (v:=.tuple #[]) (by simp[results,Tryz.f131,go_sem]) rfl ?_
 refine ⟨rfl,⟨hcs,H.out.mb.fr hf (fun j hj e=>hps1 j hj e),H.out.md.fr hf (fun j hj e=>hps2 j hj e),own_fr H.out.wr hf (fun b hb e=>n5 (by simp[Value.ownBlock] at hb;omega)),H.out.w64,H.out.wl,H.out.dk,?_,fun j hj=>?_,H.out.ap,H.out.sq⟩,hf⟩
 ·exact hch
 ·rcases hj with q|q|q|q|q
  ·exact .inl ⟨H.out.inF j (.inl q),fun e=>n1 (by have:j=P.s:=q;omega)⟩
  ·exact .inl ⟨H.out.inF j (.inr (.inl q)),(n2 j q).1⟩
  ·exact .inl ⟨H.out.inF j (.inr (.inr (.inl q))),(n3 j q).1⟩
  ·exact .inl ⟨H.out.inF j (.inr (.inr (.inr (.inl q)))),fun e=>n4 (by have:j=P.w:=q;omega)⟩
  ·exact .inr q
theorem rwrite26_any (W:World) (F:Nat→Prop) (P:SP) (S:St) (ws:List Nat) (h:StIn W F P S ws) (hv:∀b∈S.listB,∀n,S.ch b=some n→validN (n.lv:Int) (n.sq:Int) n.es=0) (hwl:S.bl.now.length * 16≤ws.length) (hb4:S.bl.now.length≤4096) :
  Calls Tryz.prog 97 #[.pointer (some ⟨P.s,0,none⟩)] W fun e w'=>e=.returned (.tuple #[])∧∃mp,W.heap.size≤mp∧StIn w' (fun j=>(F j∧j≠P.mp)∨j=mp) { P with mp:=mp } { S with ch:=fun _=>none,dk:=dkW (S.wrts ws S.listB) } (S.wrts ws S.listB)∧Fr P.has W w':=by
 have H:=Hi (h.wide (F':=fun j=>F j∧j<W.heap.size) (fun j h1 h2=>⟨h1,h2⟩) (fun j hj=>⟨h.inF j hj,h.lt j hj⟩))
 have hlen:=h.mb.lt
 have hwl6:=h.wl
 have hLI:=rlist26_any W F P S ws h
 have HV:=Hi hv
 have hlm:Hid (∀(i:Nat) (hi:i<S.listB.length),S.listB[i]∈S.listB):=fun i hi=>List.getElem_mem _
 have hll:S.listB.length≤S.bl.now.length:=listTo_len _ _
 obtain ⟨M,hM⟩ :∃M,S.listB.length=M:=⟨_,rfl⟩
 rw[hM] at hll hLI
 have HM:=Hi hM
 obtain ⟨NW,hNW⟩ :∃q,ws.length=q:=⟨_,rfl⟩
 rw[hNW] at hwl hwl6
 have HNW:=Hi hNW
 obtain ⟨NB,hNB⟩ :∃q,S.bl.now.length=q:=⟨_,rfl⟩
 rw[hNB] at hwl hb4 hll hlen
 have HNB:=Hi hNB
 clear h hv hM hNW hNB
 go_enter Tryz.func97,Tryz.ntmps97
 go_wp2_with fail
 refine hLI.mono ?_
 rintro e w1 ⟨vl,rfl,hown1,hb1⟩
 obtain ⟨Al,cl,rfl⟩:=own_form hown1
 have HO1:=Hi hown1
 have HB1:=Hi hb1
 have HS1:=Hi (H.out.keep hb1)
 have hrl:=Hi (Reads.of_own hown1)
 have hown:=Hi (own_base hown1)
 clear hLI hown1 hb1
 go_wp2_with fail
 go_loopw [3] (fun s3 wr=>∃i:Nat,i≤M∧s3=.int .i64 i∧Hid (StIn wr (fun j=>F j∧j<W.heap.size) P { S with dk:=dkW (S.wrts ws (S.listB.take i)) } (S.wrts ws (S.listB.take i)))∧Hid (Fr P.has w1 wr)) (fun s3 _=>M - (intOf s3).toNat)
 case atStart=>
  refine ⟨0,Nat.zero_le _,rfl,?_,Fr.refl _ _⟩
  have:=HS1.out
  show StIn _ _ _ _ _
  rw[List.take_zero]
  show StIn w1 _ P { S with dk:=dkW ws } ws
  rw[←HS1.out.dk]
  exact this
 case round=>
  obtain ⟨i,hi,rfl,hst,hfr⟩:=hrel
  by_cases hlt:i<M
  ·obtain ⟨bb,hbb⟩ :∃bb,S.listB[i]'(by rw[HM.out];exact hlt)=bb:=⟨_,rfl⟩
   have hmem:=hlm.out i (by rw[HM.out];exact hlt)
   rw[hbb] at hmem
   obtain ⟨b1,b2,n,hn⟩:=listB_mem hmem
   rw[HNB.out] at b1
   have hval:=HV.out bb hmem n hn
   have hPl:∀p,Al=some p→¬P.has p.block:=fun p hp q=>by
    have h1:=H.out.lt _ q
    have h2:=hown.out p.block (by rw[hp];rfl)
    omega
   have hrlr:=hrl.out.fr hfr.out (fun _ p hp q=>hPl p hp q)
   obtain ⟨gl,ol,hAl,hgl,hcl⟩:=hrlr (by rw[nv_length,HM.out];omega)
   have hci:=hcl i _ (nv_at _ i (by rw[HM.out];exact hlt))
   have hgd:(S.listB[i]?.getD 0)=bb:=by rw[List.getElem?_eq_getElem (by rw[HM.out];exact hlt)];exact hbb
   rw[hgd] at hci
   subst hAl
   have hglP:=hPl _ rfl
   have HCL:=Hi hci
   obtain ⟨vb,hlk,hnd⟩:=hst.out.ch.look2 bb (by omega) hn
   obtain ⟨Ab,cb,rfl⟩:=hnd.val
   obtain ⟨-,-,-,hrdn,-,-,hEn,hlv16,hsq33,hl8⟩:=hnd.parts
   have hlk1:=hlk wr.drew (Below.refl _ wr).drew
   have x4:wr.cell? ⟨P.s,4,none⟩=some (.map (some P.mp)):=hst.out.cs.cell 4
   obtain ⟨Lb,hLb⟩ :∃q,n.es.length=q:=⟨_,rfl⟩
   have HLB:=Hi hLb
   have henc:=refEncode_ok (n.lv:Int) (n.sq:Int) (bb:Int) Ab cb Lb n.es wr.drew hLb hrdn hEn hval (by omega) (by omega)
   rw[hLb] at hlk1
   have HENC:=Hi henc
   have HE:=Hi hEn
   have HVAL:=Hi hval
   have HNN:=Hi hn
   have HBB:=Hi hbb
   have HMEM:=Hi hmem
   clear hlk hnd hrdn hEn hLb henc hval hn hbb hmem hcl hgd hPl hrlr
   go_wp2_with fail
   go_cut [4] (fun s4 wx=>∃g:Nat,s4=.slice (some ⟨g,0,none⟩) 16 16∧Hid (wx.ownsRow wr.heap.size 39 1 (.slice (some ⟨g,0,none⟩) 16 16) 16 (uv (encN (n.lv:Int) (n.sq:Int) n.es (bb:Int))))∧Hid (Below wr.heap.size wr wx))
   case first=>
    go_region_with (go_at_call 79;go_loud (with_reducible refine HENC.out.mono ?_;rintro e w2 ⟨g,rfl,ho2,hb2⟩))
    all_goals
     go_wp2_with fail
     go_meet
     exact ⟨g,rfl,ho2,(Below.refl _ wr).drew.trans hb2⟩
   case rest=>
    obtain ⟨g,rfl,ho2,hb2⟩:=hcut
    obtain ⟨w2,hw2⟩ :∃w2,w2=wc:=⟨_,rfl⟩
    rw[←hw2] at ho2 hb2 ⊢
    clear hw2
    have hs2:=Hi (hst.out.keep hb2.out)
    have x0:w2.cell? ⟨P.s,0,none⟩=some (.slice (some ⟨P.w,0,none⟩) (S.wrts ws (S.listB.take i)).length P.cw):=hs2.out.cs.cell 0
    have hlw:(S.wrts ws (S.listB.take i)).length=NW:=by rw[wrts_len];exact HNW.out
    rw[hlw] at x0
    have HLW:=Hi hlw
    have hgl2:=hb2.out.size
    have hcl2:=(hb2.out.cell (p:=⟨gl,ol+i,none⟩) hgl).trans HCL.out
    have hcw:=own_cap hs2.out.wr
    rw[hlw] at hcw
    have hblk:=rblock_any ⟨P.w,0,none⟩ NW P.cw bb w2.drew (by omega) hcw hwl6
    rw[Addr.add_lit] at hblk
    have hrw:=hs2.out.wr
    obtain ⟨W1,hrun,hown1,hfr1⟩:=copy_own (W:=w2.drew) hrw rfl ho2.out (encN_length _ _ _ _) (bb * 16) 0 16 (by rw[hlw];omega) (by omega)
    have hse:Hid (S.wrts ws (S.listB.take (i+1))=cpL (S.wrts ws (S.listB.take i)) (bb * 16) (encN (n.lv:Int) (n.sq:Int) n.es (bb:Int)) 0 16):=by
     show _=_
     rw[List.take_succ_eq_append_getElem (by rw[HM.out];exact hlt),wrts_snoc,HBB.out]
     unfold St.wrt
     rw[HNN.out]
     rfl
    have h64:W64 (encN (n.lv:Int) (n.sq:Int) n.es (bb:Int)):=by
     have h0:=encR_w (n.lv:Int) (n.sq:Int) n.es (bb:Int) HE.out
     have hE0:encE (n.lv:Int) (n.sq:Int) n.es (bb:Int)=0:=by
      unfold encE
      rw[if_neg (by rw[HVAL.out];simp),if_neg (by omega)]
     unfold encR at h0
     rw[if_pos hE0] at h0
     exact h0
    have hs3:=hs2.out.words hown1 (((Fr.refl (· =P.w) w2).drew).trans hfr1) (by rw[cpL_length]) (cpL_w64 hs2.out.w64 h64 _ _ _)
    have HS3:Hid (StIn W1 (fun j=>F j∧j<W.heap.size) P { S with dk:=dkW (S.wrts ws (S.listB.take (i+1))) } (S.wrts ws (S.listB.take (i+1)))):=by
     show StIn _ _ _ _ _
     rw[hse.out]
     exact hs3
    have HFR3:Hid (Fr P.has w1 W1):=(hfr.out.trans (Fr.of_below hb2.out)).trans ((((Fr.refl (· =P.w) w2).drew).trans hfr1).mono (fun j _ e=>.inr (.inr (.inr (.inl e)))))
    have HRUN:=Hi hrun
    have HBLK:=Hi hblk
    clear hs3 hown1 hfr1 hrun hrw hblk hlw h64
    go_wp2_with fail
    refine wp_region_mixL [0,1,2,3,4,5,6,7,9] [8,10] 10 (by kernel_rfl) (by decide +kernel) (fun w'=>w'.cell? ⟨P.s,0,none⟩=some (.slice (some ⟨P.w,0,none⟩) NW P.cw)∧w'.cell? ⟨gl,ol+i,none⟩=some (.int .i64 (bb:Int))) ⟨x0,hcl2⟩ ?_
    simp only[pickL,List.getElem?_toArray,List.getElem?_cons_zero,List.getElem?_cons_succ,List.map_cons,List.map_nil]
    iterate 9
     refine ⟨?_,Or.inl ⟨by rfl,fun W' hS'=>?_⟩,fun _ _ _ h=>h,?_⟩
     rotate_left
     ·obtain ⟨hs1,hs2⟩:=hS'
      go_simp
      with_reducible rfl
     simp only[Act.put,List.setIfInBounds_toArray,List.set_cons_zero,List.set_cons_succ]
    show wpSeqL _ _ _ _ _ _ _ _
    refine wpSeqL_step (fun K hK=>?_)
    go_simp
    refine HBLK.out.mono ?_
    rintro e w3 ⟨rfl,rfl⟩
    refine hK _ _ (fun _=>⟨x0,hcl2⟩) ?_
    clear hK K
    refine wpSeqL_list _ _ _ (by simp) ?_
    simp only[List.map_cons,List.map_nil]
    refine wpList_copy_run _ rfl (.tmp 39) (.tmp 40) _ _ rfl (.slice (some ⟨P.w,bb * 16,none⟩) 16 (P.cw - bb * 16)) (.slice (some ⟨g,0,none⟩) 16 16) (by simp[Act.eval]) (by simp[Act.eval]) _ _ (HRUN.out _ _ _ _ (by omega)) ?_
    go_wp2_with fail
    go_roundw
    case rel=>exact ⟨i+1,by omega,by go_num,HS3,HFR3⟩
    case measure=>simp[intOf];omega
  ·obtain rfl:i=M:=by omega
   have hT:S.listB.take i=S.listB:=List.take_of_length_le (by rw[HM.out];exact Nat.le_refl _)
   have hs:=hst.out
   rw[hT] at hs
   have HS:=Hi hs
   have hfg:=rforget26_any wr _ P _ _ hs
   clear hs hT
   go_wp2_with fail
   refine hfg.mono ?_
   rintro e w9 ⟨rfl,hs9,hf9⟩
   go_wp2_with fail
   refine bodyPost_end (v:=.tuple #[]) (by simp[results,Tryz.f97,go_sem]) rfl ?_
   refine ⟨rfl,wr.heap.size,?_,?_,?_⟩
   ·have:=hfr.out.size
    have:=HB1.out.size
    omega
   ·exact hs9.wide (fun j hj _=>hj.imp (fun q=>⟨q.1.1,q.2⟩) id) (fun j hj=>(hs9.inF j hj).imp (fun q=>⟨q.1.1,q.2⟩) id)
   ·exact ((Fr.of_below HB1.out).trans hfr.out).trans (hf9.mono (fun j _ e=>.inl e))
end
section
open Go.RowKit
attribute [local go_sem] Oper.semAt_some
def arOf (ws:List Nat) (data area:Nat):List Nat:=(ws.drop (arAt data area)).take (arB data * 16)
theorem arOf_len {ws:List Nat} {data area:Nat} (h:arAt data area+arB data * 16≤ws.length):(arOf ws data area).length=arB data * 16:=by
 unfold arOf
 rw[List.length_take,List.length_drop]
 omega
theorem arOf_w {ws:List Nat} (h:W64 ws) (data area:Nat):W64 (arOf ws data area):=fun x hx=>h x (List.mem_of_mem_drop (List.mem_of_mem_take hx))
theorem arOf_reads {W:World} {g m c:Nat} {ws:List Nat} (hA:W.ownsRow 0 39 1 (.slice (some ⟨g,0,none⟩) m c) m (uv ws)) (hm:ws.length=m) {data area:Nat} (h:arAt data area+arB data * 16≤m):Reads W (some ⟨g,arAt data area,none⟩) (uv (arOf ws data area)):=by
 intro _
 refine ⟨g,arAt data area,rfl,own_lt hA _ rfl,fun i v hi=>?_⟩
 have hlt:=(List.getElem?_eq_some_iff.1 hi).1
 rw[uv_length,arOf_len (by omega)] at hlt
 rw[uv_at _ _ (by rw[arOf_len (by omega)];exact hlt)] at hi
 injection hi with hi
 rw[←hi]
 have h3:=hA.cellAt (arAt data area+i) (by omega)
 rw[uv_at _ _ (by omega)] at h3
 rw[h3]
 unfold arOf
 rw[List.getElem?_take,if_pos hlt,List.getElem?_drop]
theorem rarearight_any (g m c:Nat) (ws:List Nat) (h:Hdr) (W:World) (hm:ws.length=m) (hA:W.ownsRow 0 39 1 (.slice (some ⟨g,0,none⟩) m c) m (uv ws)) (hw':W64 ws) (hl:m≤1000000) (hd:h.data≤16384) (hd1:1≤h.data) (ha:h.area≤1) (h1:arAt h.data h.area+arB h.data * 16≤m) (hs:h.sum<18446744073709551616) :
  Calls Tryz.prog 47 #[.slice (some ⟨g,0,none⟩) m c,h.v] W fun e w'=>e=.returned (.bool (decide (shortC (extendC 0 (arOf ws h.data h.area))=h.sum)))∧Below W.heap.size W w':=by
 obtain ⟨seq,time,data,chunk,area,tree,sum⟩:=h
 dsimp only at *
 have hcap:=own_cap hA
 have HA:Hid (∀w,Calls Tryz.prog 16 #[.slice (some ⟨g,0,none⟩) m c,.int .i64 (data:Int),.int .i64 (area:Int)] w fun e w'=>e=.returned (.slice (some ⟨g,arAt data area,none⟩) (arB data * 16) (c - arAt data area))∧w=w'):=fun w=>by
  have:=rareaof_any ⟨g,0,none⟩ m c data area w hd hd1 ha h1 hcap hl
  rw[Addr.add_lit,Nat.zero_add] at this
  exact this
 have hrow:∀w,Below W.heap.size W w→Reads w (some ⟨g,arAt data area,none⟩) (uv (arOf ws data area)):=fun w hw=>arOf_reads (own_keepU' hA hw) hm h1
 have HW:Hid (∀w,Below W.heap.size W w→Calls Tryz.prog 60 #[.slice (some ⟨g,arAt data area,none⟩) (arB data * 16) (c - arAt data area)] w fun e w'=>e=.returned (.int .u32 ((extendC 0 (arOf ws data area):Nat):Int))∧w=w'):=fun w hw=>refWords_sum _ _ _ _ w (arOf_len (by omega)) (hrow w hw) (arOf_w hw' _ _) (by omega)
 have hx:=extendC_lt 0 (arOf ws data area)
 obtain ⟨x,hxe⟩ :∃q,extendC 0 (arOf ws data area)=q:=⟨_,rfl⟩
 rw[hxe] at HW hx ⊢
 have HSH:=Hi (fun w=>refShort_any x w hx)
 have hsl:=shortC_lt x
 obtain ⟨q,hq⟩ :∃q,shortC x=q:=⟨_,rfl⟩
 rw[hq] at HSH hsl ⊢
 obtain ⟨f,hf⟩ :∃f,arAt data area=f:=⟨_,rfl⟩
 rw[hf] at HA HW
 have B1:Below W.heap.size W (W.alloc (.cells #[.int .i64 (seq:Int),.int .i64 (time:Int),.int .i64 (data:Int),.int .i64 (chunk:Int),.int .i64 (area:Int),.int .u64 (tree:Int),.int .u64 (sum:Int)] 41)):=(Below.refl _ W).alloc (Nat.le_refl _) _
 have C1:=Cs.new W 41 #[.int .i64 (seq:Int),.int .i64 (time:Int),.int .i64 (data:Int),.int .i64 (chunk:Int),.int .i64 (area:Int),.int .u64 (tree:Int),.int .u64 (sum:Int)]
 have hdec:((q:Int) == (sum:Int))=decide (q=sum):=by rw[Bool.eq_iff_iff];simp;omega
 have n1:IntKind.u64.wrap (q:Int)=q:=by rw[wrap_nat,Nat.mod_eq_of_lt (by omega)]
 rw[←hdec]
 have HV:Hid ((Hdr.mk seq time data chunk area tree sum).v=.agg #[.int .i64 (seq:Int),.int .i64 (time:Int),.int .i64 (data:Int),.int .i64 (chunk:Int),.int .i64 (area:Int),.int .u64 (tree:Int),.int .u64 (sum:Int)]):=rfl
 rw[HV.out]
 clear hf hq hxe hA hm h1 hw' hrow hdec
 go_enter Tryz.func47,Tryz.ntmps47
 go_wp2_with fail
 generalize (W.alloc (.cells #[.int .i64 (seq:Int),.int .i64 (time:Int),.int .i64 (data:Int),.int .i64 (chunk:Int),.int .i64 (area:Int),.int .u64 (tree:Int),.int .u64 (sum:Int)] 41))=W1 at *
 have y2:W1.drew.cell? ⟨W.heap.size,2,none⟩=some (.int .i64 (data:Int)):=C1.cell 2
 have y4:W1.drew.cell? ⟨W.heap.size,4,none⟩=some (.int .i64 (area:Int)):=C1.cell 4
 have y6:W1.drew.cell? ⟨W.heap.size,6,none⟩=some (.int .u64 (sum:Int)):=C1.cell 6
 refine wp_region_scr [(true,0),(true,1),(true,2),(true,3),(true,4),(true,9),(true,10),(false,5),(false,6),(false,7),(true,8),(true,11)] [12] 12 (by kernel_rfl) (by decide +kernel) (fun w=>w.cell? ⟨W.heap.size,2,none⟩=some (.int .i64 (data:Int))∧w.cell? ⟨W.heap.size,4,none⟩=some (.int .i64 (area:Int))∧w.cell? ⟨W.heap.size,6,none⟩=some (.int .u64 (sum:Int))) ⟨y2,y4,y6⟩ ?_
 simp only[pickS,pickL,List.getElem?_toArray,List.getElem?_cons_zero,List.getElem?_cons_succ]
 iterate 7
  refine ⟨?_,Or.inl ⟨by rfl,fun W' hS'=>?_⟩,fun _ _ _ h=>h,?_⟩
  rotate_left
  ·obtain ⟨y2,y4,y6⟩:=hS'
   go_simp
   with_reducible rfl
  simp only[Act.put,List.setIfInBounds_toArray,List.set_cons_zero,List.set_cons_succ]
 refine wpScr_step (fun K hK=>?_)
 go_simp
 go_at_call 16
 refine (HA.out _).mono ?_
 rintro e w7 ⟨rfl,rfl⟩
 refine hK _ _ ⟨y2,y4,y6⟩ ?_
 clear hK K
 refine wpScr_step (fun K hK=>?_)
 go_simp
 go_at_call 60
 refine (HW.out _ B1.drew).mono ?_
 rintro e w7 ⟨rfl,rfl⟩
 refine hK _ _ ⟨y2,y4,y6⟩ ?_
 clear hK K
 refine wpScr_step (fun K hK=>?_)
 go_simp
 go_at_call 59
 refine (HSH.out _).mono ?_
 rintro e w7 ⟨rfl,rfl⟩
 refine hK _ _ ⟨y2,y4,y6⟩ ?_
 clear hK K
 iterate 2
  refine ⟨?_,Or.inl ⟨by rfl,fun W' hS'=>?_⟩,fun _ _ _ h=>h,?_⟩
  rotate_left
  ·obtain ⟨y2,y4,y6⟩:=hS'
   go_simp
   with_reducible rfl
  simp only[Act.put,List.setIfInBounds_toArray,List.set_cons_zero,List.set_cons_succ]
 refine wpSeqL_list _ _ _ (by simp) ?_
 simp only[List.map_cons,List.map_nil]
 go_wp2_with fail
 go_ret
 exact ⟨rfl,B1.drew⟩
end
end Go.Proofs.YtplhdjdkobddnaaGreat
