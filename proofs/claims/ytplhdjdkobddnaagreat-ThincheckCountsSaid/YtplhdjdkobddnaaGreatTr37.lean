/- StR -/
import Derived.Test.YtplhdjdkobddnaaGreatTr25
set_option linter.unusedVariables false
set_option maxRecDepth 100000
set_option maxHeartbeats 40000000
namespace Go.Proofs.YtplhdjdkobddnaaGreat
section
open Go.RowKit
attribute [local go_sem] Oper.semAt_some
structure InsR (W wr:World) (F:Nat→Prop) (P:SP) (ws:List Nat) (O:Nat) (ka:Int) (old:Nat) (gv cv:Nat) (st:List (Nat × Nat)) (R:Option (List (Int × Nat) × St)) (X:St) (i:Nat) (F1:Nat→Prop):Prop where
 si:StIn wr F1 P X ws
 row:wr.ownsRow W.heap.size 189 2 (.slice (some ⟨gv,0,none⟩) st.length cv) st.length (stv st)
 old:Cs wr O 94 #[.int .i64 ka,.int .u64 (old:Int)]
 ok:UnwOk (st.length - 1 - i) (st.take (i+1)).reverse X
 res:St.unw (st.take (i+1)).reverse X=R
 lt:i<st.length
 tight:∀j,F1 j→j<wr.heap.size∧(F j∨W.heap.size≤j)∧j≠O∧j≠gv
 fr:Fr P.has W wr
theorem putN_E64 {l:List (Int × Nat)} (h:E64 l) (key:Int) (v:Nat) (hk: -9223372036854775808≤key∧key≤9223372036854775807) (hv:v<18446744073709551616):E64 (putN l key v):=by
 intro p hp
 unfold putN at hp
 split at hp
 ·rcases List.mem_or_eq_of_mem_set hp with q|q
  ·exact h p q
  ·rw[q];exact ⟨hk.1,hk.2,hv⟩
 ·unfold insN at hp
  rcases List.mem_append.1 hp with q|q
  ·exact h p (List.mem_of_mem_take q)
  ·rcases List.mem_cons.1 q with q|q
   ·rw[q];exact ⟨hk.1,hk.2,hv⟩
   ·exact h p (List.mem_of_mem_drop q)
theorem own_keepB' {w w':World} {base n:Nat} {e:TypeId} {size:Nat} {v:Value} {xs:List Value} (h:w.ownsRow base e size v n xs) (hb:Below w.heap.size w w'):w'.ownsRow base e size v n xs:=own_fr h (Fr.of_below (G:=fun _=>False) hb) (fun _ _ q=>q)
theorem two_alloc (w:World) (t u:TypeId) (cs ds:Array Value):Cs ((w.alloc (.cells cs t)).alloc (.cells ds u)).drew w.heap.size t cs∧Cs ((w.alloc (.cells cs t)).alloc (.cells ds u)).drew (w.heap.size+1) u ds∧Below w.heap.size w ((w.alloc (.cells cs t)).alloc (.cells ds u)).drew:=by
 refine ⟨(Cs.new w t cs).alloc _,?_,(((Below.refl _ w).alloc (Nat.le_refl _) _).alloc (by simp) _).drew⟩
 have:=Cs.new (w.alloc (.cells cs t)) u ds
 rw[show (w.alloc (.cells cs t)).heap.size=w.heap.size+1 by simp] at this
 exact this
theorem own_mono {w:World} {base base':Nat} {e:TypeId} {size n:Nat} {v:Value} {xs:List Value} (h:w.ownsRow base e size v n xs) (hb:base'≤base):w.ownsRow base' e size v n xs:=by
 refine ⟨h.1,h.2.imp id ?_⟩
 rintro ⟨g,cap,cur,a1,a2,a3⟩
 exact ⟨g,cap,cur,a1,Nat.le_trans hb a2,a3⟩
theorem rinsert26_any (W:World) (F:Nat→Prop) (P:SP) (S:St) (ws:List Nat) (h:StIn W F P S ws) (Z:Nat→Bool) (rs pd:List Nat) (G:Gh) (r:Nat) (k:Bool) (key:Int) (v:Nat) (hI:Inv S Z (r :: rs) (dv k v++pd) G) (n:Nd) (hn:S.nd Z r=some n) (hK:G.K r=k)
  (hkr:0≤key∧key<16777216) (hv:v<18446744073709551616) (hl8:n.lv≤7) (hb1:rs.length+7 * S.bl.now.length+64≤60000) (hb2:pd.length+1+7 * S.bl.now.length+64≤60000) :
  Calls Tryz.prog 91 #[.pointer (some ⟨P.s,0,none⟩),.int .i64 (r:Int),.int .i64 key,.int .u64 (v:Int),.bool k] W fun e w'=>Fr P.has W w'∧((S.insert k key v r=none∧e=.returned (.tuple #[.int .i64 0,.int .u64 0,.bool false,.int .i64 14]))∨
   ∃t S',S.insert k key v r=some (t,S')∧e=.returned (.tuple #[.int .i64 (t:Int),.int .u64 (((lookE (G.E r) key).getD 0:Nat):Int),.bool (lookE (G.E r) key).isSome,.int .i64 0])∧StIn w' (FN F W) P S' ws):=by
 have hlt:=Hi h.lt
 have H:=Hi (h.wide (F':=fun j=>F j∧j<W.heap.size) (fun j h1 h2=>⟨h1,h2⟩) (fun j hj=>⟨h.inF j hj,h.lt j hj⟩))
 have hins:=insert_unw hkr hI hn hK
 have hwo:=fun st S1=>wayR_unwOk (st:=st) (S1:=S1) hkr hI hn hK
 have hdl:(dv k v++pd).length≤pd.length+1:=by unfold dv;split <;> simp <;> omega
 have hlen16:=h.mb.lt
 obtain ⟨hpre,hway⟩:=way_ok (k:=k) (key:=key) (least:=true) n.lv S S Z rs (dv k v++pd) G r n hI hn rfl hK (Off.refl _ _) (by omega) (by omega) (by omega)
 have hLK:=rlookup26_any W F P S ws h Z _ _ G hI r n hn key
 obtain ⟨ka,hka⟩:=entV_form key (lookE (G.E r) key)
 rw[hka] at hLK
 have hld:=(nd_count hn).2.2
 obtain ⟨old,hold⟩ :∃q,(lookE (G.E r) key).getD 0=q:=⟨_,rfl⟩
 obtain ⟨had,hhad⟩ :∃q,(lookE (G.E r) key).isSome=q:=⟨_,rfl⟩
 rw[hold,hhad] at hLK ⊢
 obtain ⟨N,hN⟩ :∃q,n.lv=q:=⟨_,rfl⟩
 rw[hN] at hl8
 have HINS:=Hi hins
 have HWO:=Hi hwo
 have HPRE:=Hi hpre
 have HWAY:=Hi hway
 have HLD:=Hi hld
 have HN:=Hi hN
 clear hins hwo hpre hway hld hold hhad hka hI hn hK hdl h hN
 go_enter Tryz.func91,Tryz.ntmps91
 go_wp2_with fail
 refine hLK.mono ?_
 rintro e w1 ⟨rfl,hb1⟩
 clear hLK
 go_wp2_with fail
 have hC2:=Cs.new w1 94 #[.int .i64 ka,.int .u64 (old:Int)]
 have hb2:Below w1.heap.size w1 (w1.alloc (.cells #[.int .i64 ka,.int .u64 (old:Int)] 94)):=(Below.refl _ w1).alloc (Nat.le_refl _) _
 have hsz2:(w1.alloc (.cells #[.int .i64 ka,.int .u64 (old:Int)] 94)).heap.size=w1.heap.size+1:=by simp
 generalize (w1.alloc (.cells #[.int .i64 ka,.int .u64 (old:Int)] 94))=w2 at hC2 hb2 hsz2 ⊢
 obtain ⟨O,hO⟩ :∃O,w1.heap.size=O:=⟨_,rfl⟩
 rw[hO] at hC2 hb2 hsz2 ⊢
 have hOW:W.heap.size≤O:=by rw[←hO];exact hb1.size
 have HBB:=Hi (hb1.trans (hb2.mono hOW))
 have H2:=Hi (H.out.keep HBB.out)
 have HC2:=Hi hC2
 clear hb1 hb2 hC2
 refine (rway26_any w2 _ P S ws H2.out r n HLD.out k true key (by omega) HPRE.out (fun c T1 hq=>⟨(HWAY.out c T1 hq).1,by have:=(HWAY.out c T1 hq).2.2;exact this⟩)).mono ?_
 rintro e w3 ⟨hf3,⟨hno,rfl⟩| ⟨st,S1,vr,hwr,rfl,hs3,hrow3⟩⟩
 ·have hRn:Hid (S.insert k key v r=none):=by
   show _=_
   rw[HINS.out,hno]
  have F3:=Hi hf3
  clear hno hf3
  go_wp2_with fail
  exact bodyPost_ret (v:=.tuple #[.int .i64 0,.int .u64 0,.bool false,.int .i64 14]) (by simp[results,Tryz.f91,go_sem]) rfl ⟨(Fr.of_below HBB.out).trans F3.out,.inl ⟨hRn.out,rfl⟩⟩
 ·obtain ⟨hok0,hstl⟩:=HWO.out st S1 hwr
  rw[HN.out] at hstl
  have hst0:st≠[]:=by rintro rfl;simp at hstl
  obtain ⟨m,hcm,hm8,hlfl,hlp⟩:=leaf_facts hok0 hst0
  obtain ⟨gv,cv,rfl,hbv,hgv⟩:=hrow3.form (by omega)
  have hgO:¬gv=O:=by omega
  have hins2:Hid (S.insert k key v r=match St.unw st.reverse (S1.leafPut key v (leafOf st)) with
    |none=>none
    |some (ex,S2)=>match ex with
     | []=>some (headOf st,S2)
     |e :: _=>if N=8 then none else match S2.bl.pick with
      |none=>none
      |some t=>some (t,({ S2 with bl:=S2.bl.setN t 1 }:St).put t ⟨N+1,0,[((((S2.load (headOf st)).map (fun m=>(m.es[0]?.getD (0,0)).1)).getD 0),headOf st),e]⟩)):=by
   show _=_
   rw[HINS.out,hwr,HN.out]
   rfl
  rw[hlp] at hok0
  have hins3:Hid (_=_):=hins2.out
  rw[hlp] at hins3
  obtain ⟨R,hR⟩ :∃R,St.unw st.reverse (S1.put (leafOf st) { m with es:=putN m.es key v })=R:=⟨_,rfl⟩
  rw[hR] at hins3
  have HOK:=Hi hok0
  have HR:=Hi hR
  have hcl:=hrow3.cellAt (N * 2) (by omega)
  rw[(stv_at st N (by omega)).1] at hcl
  have hlfe:(st[N]'(by omega)).1=leafOf st:=by
   rw[leafOf_last st hst0]
   simp only[hstl,Nat.add_sub_cancel]
  rw[hlfe] at hcl
  have hM:=hstl
  obtain ⟨lf,hlf⟩ :∃lf,leafOf st=lf:=⟨_,rfl⟩
  rw[hlf] at hcl hcm hlfl
  have HM:=Hi hM
  have HLF:=Hi hlf
  rw[hM] at hrow3 ⊢
  have H3:=Hi (hs3.wide (F':=fun j=>(F j∨W.heap.size≤j)∧j<w3.heap.size∧j≠O∧j≠gv) (fun j hj hl=>by
   obtain ⟨a1,a2⟩:=hj
   refine ⟨?_,hl,?_,fun e=>a2 (by rw[e];rfl)⟩
   ·rcases a1 with a3|a3
    ·exact .inl a3.1
    ·exact .inr (by omega)
   ·rcases a1 with a3|a3
    ·omega
    ·omega) (fun j hj=>by
     have a1:=hlt.out j hj
     have a2:=(hs3.inF j hj).2
     exact ⟨.inl (H.out.inF j hj).1,hs3.lt j hj,by omega,fun e=>a2 (by rw[e];rfl)⟩))
  have HROW3:=Hi hrow3
  have F3:=Hi hf3
  have hO3:=HC2.out.fr hf3 (fun q=>by have:=hlt.out O q;omega)
  have HC3:=Hi hO3
  have H4:=Hi HOK.out
  have em1:IntKind.i64.wrap (((N+1:Nat):Int) - 1)=(N:Int):=by rw[IntWalk.i64_in _ (by omega)];omega
  have em2:IntKind.i64.wrap ((N:Int)+1 - 1)=(N:Int):=by rw[IntWalk.i64_in _ (by omega)];omega
  have x4:w3.cell? ⟨P.s,4,none⟩=some (.map (some P.mp)):=H3.out.cs.cell 4
  obtain ⟨vl,hlk,hndl⟩:=H3.out.ch.look1 lf (by have:=H3.out.mb.lt;omega) hcm
  obtain ⟨A5,c5,rfl⟩:=hndl.val
  obtain ⟨-,-,-,hrd5,hcp5,-,hE5,h165,hsq5,h85⟩:=hndl.parts
  obtain ⟨L5,hL5⟩ :∃q,m.es.length=q:=⟨_,rfl⟩
  have HL5:=Hi hL5
  rw[hL5] at hlk hcp5 hm8
  have HPT:=Hi (refPut_ok (m.lv:Int) (m.sq:Int) key v A5 c5 L5 m.es w3 hL5 hrd5 hcp5 (by unfold putE;rw[if_neg (by omega),if_neg (by omega)]))
  have HND5:=Hi hndl
  have HE5:=Hi hE5
  have HCM:=Hi hcm
  have HP:=Hi hlp
  have hgl3:=hgv
  have HSTL:=Hi hstl
  clear hs3 hrow3 hf3 hwr hins2 hok0 hR hO3 hndl hrd5 hE5 hcm hlp hlfe hM hlf hL5 hstl
  go_wp2_with fail
  refine HPT.out.mono ?_
  rintro e w4 ⟨v4,rfl,hown4,hb4⟩
  obtain ⟨A4,c4,rfl⟩:=own_form hown4
  obtain ⟨L4,hL4⟩ :∃q,(putN m.es key v).length=q:=⟨_,rfl⟩
  rw[hL4] at hown4 ⊢
  have HL4:=Hi hL4
  have hL48:L4≤8:=by
   obtain ⟨j,up,hr,-⟩:=rev_last st hst0
   have:=HOK.out
   rw[hr,HLF.out] at this
   obtain ⟨-,⟨n',q1,-,q3⟩,-⟩:=this
   rw[put_ch] at q1
   injection q1 with q1
   rw[←q1] at q3
   change (putN m.es key v).length≤8 at q3
   omega
  have hsz4:=hb4.size
  have HOWN4:=Hi hown4
  have HB4:=Hi hb4
  obtain ⟨ml,hml⟩ :∃q:Int,((m.lv:Nat):Int)=q:=⟨_,rfl⟩
  obtain ⟨ms,hms⟩ :∃q:Int,((m.sq:Nat):Int)=q:=⟨_,rfl⟩
  have HML:=Hi hml
  have HMS:=Hi hms
  rw[hml,hms]
  have hnd4:NdV w4 (OutF (fun j=>((F j∨W.heap.size≤j)∧j<w3.heap.size∧j≠O∧j≠gv)∨(w3.heap.size≤j∧j<w4.heap.size)) P) { m with es:=putN m.es key v } (.agg #[.int .i64 ml,.int .i64 ms,.slice A4 L4 c4]):=by
   rw[←hml,←hms]
   refine ⟨A4,c4,by rw[hL4],Reads.of_own hown4,by rw[hL4];exact own_cap hown4,fun _ p hp=>?_,?_,HND5.out.bd.1,HND5.out.bd.2.1,by show (putN m.es key v).length≤8;omega⟩
   ·obtain ⟨q1,q2,q3⟩:=own_ge hown4 p hp
    exact ⟨⟨.inr ⟨q1,q2⟩,fun hh=>by have:=H3.out.lt _ hh;omega⟩,q2⟩
   ·exact putN_E64 HE5.out key v (by omega) hv
  have H4s:=Hi ((H3.out.keep hb4).wide (F':=fun j=>((F j∨W.heap.size≤j)∧j<w3.heap.size∧j≠O∧j≠gv)∨(w3.heap.size≤j∧j<w4.heap.size)) (fun j hj _=>.inl hj) (fun j hj=>.inl (H3.out.inF j hj)))
  have HND4:=Hi hnd4
  have hC4:=HC3.out.below hb4 HC3.out.lt
  have HC4:=Hi hC4
  have HROW4:=Hi (own_fr HROW3.out (Fr.of_below (G:=fun _=>False) hb4) (fun _ _ q=>q))
  clear hown4 hb4 hL4 hml hms hnd4 hC4 hcl x4 hlk HPT
  go_wp2_with fail
  have hb5:Below w4.heap.size w4 (w4.alloc (.cells #[.int .i64 ml,.int .i64 ms,.slice A4 L4 c4] 129)):=(Below.refl _ w4).alloc (Nat.le_refl _) _
  have hx5:=box_cells (w:=w4) (lv:=ml) (sq:=ms) (A:=A4) (n:=L4) (c:=c4)
  have hsz5:(w4.alloc (.cells #[.int .i64 ml,.int .i64 ms,.slice A4 L4 c4] 129)).heap.size=w4.heap.size+1:=by simp
  generalize (w4.alloc (.cells #[.int .i64 ml,.int .i64 ms,.slice A4 L4 c4] 129))=w5 at hb5 hx5 hsz5 ⊢
  obtain ⟨y0,y1,y2⟩:=hx5
  have hput:=rput26_any w5 _ P S1 ws (H4s.out.keep hb5) lf hlfl { m with es:=putN m.es key v } A4 L4 c4 HL4.out (by
   have:=HND4.out.fr (Fr.of_below (G:=fun _=>False) hb5) (fun _ _ q=>q)
   rw[←HML.out,←HMS.out] at this
   exact this)
  have e1:((({ m with es:=putN m.es key v }:Nd).lv:Nat):Int)=ml:=HML.out
  have e2:((({ m with es:=putN m.es key v }:Nd).sq:Nat):Int)=ms:=HMS.out
  rw[e1,e2] at hput
  clear e1 e2
  go_wp2_with fail
  refine hput.mono ?_
  rintro e w6 ⟨rfl,hs6,hf6⟩
  have hmpO:¬O=P.mp:=fun e=>by have:=hlt.out P.mp (has_mp _ rfl);omega
  have hmpg:¬gv=P.mp:=fun e=>by have:=hlt.out P.mp (has_mp _ rfl);have:=HBB.out.size;omega
  have hsz6:=hf6.size
  have HI0:Hid (InsR W w6 F P ws O ka old gv cv st R (S1.put lf { m with es:=putN m.es key v }) N (fun j=>((F j∨W.heap.size≤j)∧j<w3.heap.size∧j≠O∧j≠gv)∨(w3.heap.size≤j∧j<w4.heap.size))):=by
   have htk:st.take (N+1)=st:=List.take_of_length_le (by rw[HSTL.out];exact Nat.le_refl _)
   have hrw:=own_fr (own_fr HROW4.out (Fr.of_below (G:=fun _=>False) hb5) (fun _ _ q=>q)) hf6 (fun b hb e=>hmpg (by simp[Value.ownBlock] at hb;omega))
   refine ⟨hs6,?_,(HC4.out.below hb5 HC4.out.lt).fr hf6 hmpO,?_,?_,by rw[HSTL.out];omega,fun j hj=>?_,?_⟩
   ·rw[HSTL.out]
    exact own_mono hrw (by have:=HBB.out.size;omega)
   ·rw[htk,HSTL.out,←HLF.out]
    have:N+1 - 1 - N=0:=by omega
    rw[this]
    exact HOK.out
   ·rw[htk,←HLF.out]
    exact HR.out
   ·rcases hj with q|q
    ·exact ⟨by omega,q.1,q.2.2.1,q.2.2.2⟩
    ·exact ⟨by omega,.inr (by have:=HBB.out.size;have:=F3.out.size;omega),by have:=HC3.out.lt;omega,by omega⟩
   ·exact ((((Fr.of_below HBB.out).trans F3.out).trans (Fr.of_below HB4.out)).trans (Fr.of_below hb5)).trans (hf6.mono (fun j _ e=>has_mp _ e))
  have HINS3:=Hi hins3
  clear hput hs6 hf6 hb5 y0 y1 y2 hins3 em1 em2
  have em1:IntKind.i64.wrap (((N+1:Nat):Int) - 1)=(N:Int):=by rw[IntWalk.i64_in _ (by omega)];omega
  have em2:IntKind.i64.wrap ((N:Int)+1 - 1)=(N:Int):=by rw[IntWalk.i64_in _ (by omega)];omega
  go_wp2_with fail
  go_loopw [21] (fun s21 wr=>∃(i:Nat) (X:St) (F1:Nat→Prop),s21=.int .i64 i∧Hid (InsR W wr F P ws O ka old gv cv st R X i F1)) (fun s21 _=>(intOf s21).toNat)
  case atStart=>exact ⟨N,_,_,rfl,HI0⟩
  case round=>
   obtain ⟨i,X,F1,rfl,hr⟩:=hrel
   have hil:i<st.length:=hr.out.lt
   have hok:=hr.out.ok
   rw[take_rev st i hil] at hok
   obtain ⟨sb,sa,hsi⟩ :∃sb sa,st[i]=(sb,sa):=⟨_,_,rfl⟩
   rw[hsi] at hok
   obtain ⟨hbc,⟨nb,hch,hnl,hn8⟩,hnext⟩:=hok
   have hbl:=Mp.lt_of_count hbc
   have HBC:=Hi hbc
   clear hbc
   have hres:=hr.out.res
   rw[take_rev st i hil,hsi] at hres
   have hrc:=hr.out.row.cellAt (i * 2) (by omega)
   rw[(stv_at st i hil).1,hsi] at hrc
   have x4:wr.cell? ⟨P.s,4,none⟩=some (.map (some P.mp)):=hr.out.si.cs.cell 4
   obtain ⟨vb,hlk,hnd⟩:=hr.out.si.ch.look2 sb (by have:=hr.out.si.mb.lt;omega) hch
   obtain ⟨Ab,cb,rfl⟩:=hnd.val
   have hlk1:=hlk wr.drew (Below.refl _ wr).drew
   have hlk2:=hlk (wr.alloc (.cells #[.int .i64 0,.int .i64 0,.slice none 0 0] 129)).drew ((Below.refl _ wr).alloc (Nat.le_refl _) _).drew
   have hlt2:i<N+1:=by rw[←HSTL.out];exact hil
   obtain ⟨Lb,hLb⟩ :∃q,nb.es.length=q:=⟨_,rfl⟩
   obtain ⟨lb,hlb⟩ :∃q:Int,((nb.lv:Nat):Int)=q:=⟨_,rfl⟩
   obtain ⟨qb,hqb⟩ :∃q:Int,((nb.sq:Nat):Int)=q:=⟨_,rfl⟩
   have HND:=Hi hnd
   have HLB:=Hi hLb
   have HLV:=Hi hlb
   have HSQ:=Hi hqb
   have HCH:=Hi hch
   have HNL:=Hi hnl
   have HRES:=Hi hres
   have HNX:=Hi hnext
   have HSI:=Hi hsi
   rw[hLb,hlb,hqb] at hlk1 hlk2
   rw[hLb] at hn8
   have hgvl:gv<wr.heap.size:=hr.out.row.2.elim (fun q=>by cases q.1) (fun ⟨g,cap,cur,q1,q2,q3,_⟩=>by
    injection q1 with q1 _
    injection q1 with q1
    injection q1 with q1
    subst q1
    exact (Array.getElem?_eq_some_iff.1 q3).1)
   rw[HSTL.out] at hil
   have hps:P.s<wr.heap.size:=hr.out.si.cs.lt
   have dlt:(i:Int)<(N:Int)+1:=by omega
   clear hlk hnd hLb hlb hqb hch hnl hres hnext hsi hil
   go_wp2_with fail
   go_cut [22] (fun s22 wx=>s22=.pointer (some ⟨wr.heap.size,0,none⟩)∧wx=(wr.alloc (.cells #[.int .i64 lb,.int .i64 qb,.slice Ab Lb cb] 129)).drew)
   case first=>
    as_aux_lemma=>
     go_region
     all_goals
      go_wp2_with fail
      go_meet
      exact ⟨rfl,rfl⟩
   case rest=>
    obtain ⟨rfl,hwx⟩:=hcut
    have hb7:Below wr.heap.size wr (wr.alloc (.cells #[.int .i64 lb,.int .i64 qb,.slice Ab Lb cb] 129)).drew:=((Below.refl _ wr).alloc (Nat.le_refl _) _).drew
    have hC7:Cs (wr.alloc (.cells #[.int .i64 lb,.int .i64 qb,.slice Ab Lb cb] 129)).drew wr.heap.size 129 #[.int .i64 lb,.int .i64 qb,.slice Ab Lb cb]:=Cs.new wr _ _
    have hsz7:(wr.alloc (.cells #[.int .i64 lb,.int .i64 qb,.slice Ab Lb cb] 129)).drew.heap.size=wr.heap.size+1:=by show (wr.alloc _).heap.size=_;simp
    rw[←hwx] at hb7 hC7 hsz7
    clear hwx
    obtain ⟨w7,hw7⟩ :∃w7,w7=wc:=⟨_,rfl⟩
    rw[←hw7] at hb7 hC7 hsz7 ⊢
    clear hw7
    obtain ⟨B,hB⟩ :∃B,wr.heap.size=B:=⟨_,rfl⟩
    rw[hB] at hC7 hsz7 hgvl ⊢
    have HB:=Hi hB
    have HB7:=Hi hb7
    have HC7:=Hi hC7
    obtain ⟨y0,y1,y2,yg0,yg1,yg2⟩:=hC7.at3
    have hr7:=own_keepB' hr.out.row hb7
    rw[HSTL.out] at hr7
    have hr7:=Hi hr7
    clear hlk1 hlk2 hrc x4 hb7 hC7 hps hB
    by_cases h7:Lb≤7
    ·have d7:(Lb:Int)≤7:=by omega
     have hR7:Hid (R=some ([],X)):=by
      have:=HRES.out
      unfold St.unw St.halve at this
      rw[HCH.out] at this
      dsimp only at this
      rw[HLB.out,if_pos h7] at this
      exact this.symm
     as_aux_lemma=>
      have hrow0:=hr7.out.cellAt 0 (by omega)
      have hrow0':=(stv_at st 0 (by rw[HSTL.out];omega)).1
      rw[Nat.zero_mul] at hrow0'
      rw[hrow0',←headOf_first st (by rw[HSTL.out];omega)] at hrow0
      have hold7:=(hr.out.old.below HB7.out hr.out.old.lt).at2
      obtain ⟨o0,o1,og0,og1⟩:=hold7
      have hgv7:gv<w7.heap.size:=by omega
      have HINS7:Hid (S.insert k key v r=some (headOf st,X)):=by
       show _=_
       rw[HINS3.out,hR7.out]
      have dn0:(0:Int)<(N:Int)+1:=by omega
      go_wp2_with fail
      go_quiet (fail)
      go_wp2_with fail
      have hfi:=fun q:Nat=>((hr.out.si.keep HB7.out).wide (F':=FN F W) (fun j hj _=>(hr.out.tight j hj).2.1) (fun j hj=>(hr.out.tight j (hr.out.si.inF j hj)).2.1)).fr (G:=fun _=>False) ((Fr.refl _ w7).drewN q) (fun _ _ h=>h)
      have hfr:∀q:Nat,Fr P.has W (w7.drewN q):=fun q=>(hr.out.fr.trans (Fr.of_below HB7.out)).drewN q
      exact bodyPost_ret (v:=.tuple #[.int .i64 (headOf st:Int),.int .u64 (old:Int),.bool had,.int .i64 0]) (by simp[results,Tryz.f91,go_sem]) rfl ⟨hfr _,.inr ⟨headOf st,X,HINS7.out,rfl,hfi _⟩⟩
    ·have d7:¬(Lb:Int)≤7:=by omega
     have hL8:Lb=8:=by omega
     subst hL8
     have hrd7:=(HND.out.fr (Fr.of_below (G:=fun _=>False) HB7.out) (fun _ _ q=>q)).parts
     obtain ⟨-,-,-,hrdb,hcpb,-,hEb,hlb16,hqb33,-⟩:=hrd7
     rw[HLB.out] at hcpb
     have hsp:=refSplit_ok lb qb Ab cb 8 nb.es w7 HLB.out hrdb (by omega) hcpb
     have HEB:=Hi hEb
     clear hrdb hcpb hEb
     go_wp2_with fail
     refine hsp.mono ?_
     rintro e w8 ⟨va,vb,rfl,howa,howb,hb8⟩
     obtain ⟨Aa,ca,rfl⟩:=own_form howa
     obtain ⟨Az,cz,rfl⟩:=own_form howb
     have ea:(8:Nat) / 2=4:=rfl
     have ez:(8:Nat) - 8 / 2=4:=rfl
     rw[ez] at howb ⊢
     rw[ea] at howa howb ⊢
     clear hsp
     go_wp2_with fail
     have hb9:Below w8.heap.size w8 ((w8.alloc (.cells #[.int .i64 lb,.int .i64 qb,.slice Aa 4 ca] 129)).alloc (.cells #[.int .i64 lb,.int .i64 qb,.slice Az 4 cz] 129)):=((Below.refl _ w8).alloc (Nat.le_refl _) _).alloc (by simp) _
     have hCa:Cs ((w8.alloc (.cells #[.int .i64 lb,.int .i64 qb,.slice Aa 4 ca] 129)).alloc (.cells #[.int .i64 lb,.int .i64 qb,.slice Az 4 cz] 129)) w8.heap.size 129 #[.int .i64 lb,.int .i64 qb,.slice Aa 4 ca]:=(Cs.new w8 _ _).alloc _
     have hCz:Cs ((w8.alloc (.cells #[.int .i64 lb,.int .i64 qb,.slice Aa 4 ca] 129)).alloc (.cells #[.int .i64 lb,.int .i64 qb,.slice Az 4 cz] 129)) (w8.heap.size+1) 129 #[.int .i64 lb,.int .i64 qb,.slice Az 4 cz]:=by
      have:=Cs.new (w8.alloc (.cells #[.int .i64 lb,.int .i64 qb,.slice Aa 4 ca] 129)) 129 #[.int .i64 lb,.int .i64 qb,.slice Az 4 cz]
      rw[show (w8.alloc (.cells #[.int .i64 lb,.int .i64 qb,.slice Aa 4 ca] 129)).heap.size=w8.heap.size+1 by simp] at this
      exact this
     have hsz9:((w8.alloc (.cells #[.int .i64 lb,.int .i64 qb,.slice Aa 4 ca] 129)).alloc (.cells #[.int .i64 lb,.int .i64 qb,.slice Az 4 cz] 129)).heap.size=w8.heap.size+2:=by simp
     generalize ((w8.alloc (.cells #[.int .i64 lb,.int .i64 qb,.slice Aa 4 ca] 129)).alloc (.cells #[.int .i64 lb,.int .i64 qb,.slice Az 4 cz] 129))=w9 at hb9 hCa hCz hsz9 ⊢
     have hsz8:=hb8.size
     obtain ⟨Ba,hBa⟩ :∃q,w8.heap.size=q:=⟨_,rfl⟩
     rw[hBa] at hb9 hCa hCz hsz9 hsz8 ⊢
     have HBa:=Hi hBa
     have HB8:=Hi hb8
     have HB9:=Hi hb9
     have hb79:Below w7.heap.size w7 w9:=hb8.trans (hb9.mono hsz8)
     have HB79:=Hi hb79
     have hcg:=hr7.out.cellAt (i * 2) (by omega)
     rw[(stv_at st i (by rw[HSTL.out];omega)).1,HSI.out] at hcg
     have hcg9:=(hb79.cell (p:=⟨gv,i * 2,none⟩) (by show gv<_;omega)).trans hcg
     obtain ⟨z0,z1,z2,zg0,zg1,zg2⟩:=hCa.at3
     have HCa:=Hi hCa
     have HCz:=Hi hCz
     have HOA:=Hi howa
     have HOZ:=Hi howb
     obtain ⟨na,hna⟩ :∃q:Nd,{ nb with es:=nb.es.take 4 } =q:=⟨_,rfl⟩
     obtain ⟨nz,hnz⟩ :∃q:Nd,{ nb with es:=nb.es.drop 4 } =q:=⟨_,rfl⟩
     have hna4:na.es.length=4:=by rw[←hna];show (nb.es.take 4).length=4;rw[List.length_take,HLB.out];rfl
     have hnz4:nz.es.length=4:=by rw[←hnz];show (nb.es.drop 4).length=4;rw[List.length_drop,HLB.out]
     have hF1P:∀j,P.has j→F1 j:=hr.out.si.inF
     have hPlt:∀j,P.has j→j<w7.heap.size:=fun j hj=>by have h1:=hr.out.si.lt j hj;have h2:=HB.out;omega
     have HNA:∀w,Below w9.heap.size w9 w→NdV w (OutF (fun j=>F1 j∨(w7.heap.size≤j∧j<w8.heap.size)) P) na (.agg #[.int .i64 lb,.int .i64 qb,.slice Aa 4 ca]):=fun w hw=>by
      have hw8:Below w8.heap.size w8 w:=by
       have:=HB9.out
       rw[←hBa] at this
       exact this.trans (hw.mono this.size)
      refine ⟨Aa,ca,by rw[hna4,←hna];show _=Value.agg #[.int .i64 (nb.lv:Int),.int .i64 (nb.sq:Int),_];rw[HLV.out,HSQ.out],?_,by rw[hna4];exact own_cap HOA.out,fun _ p hp=>?_,?_,by rw[←hna];exact hlb16,by rw[←hna];exact hqb33,by omega⟩
      ·rw[←hna]
       exact (Reads.of_own HOA.out).keep hw8
      ·obtain ⟨q1,q2,q3⟩:=own_ge HOA.out p hp
       exact ⟨⟨.inr ⟨q1,q2⟩,fun hh=>by have:=hPlt _ hh;omega⟩,Nat.lt_of_lt_of_le q2 hw8.size⟩
      ·rw[←hna]
       exact fun p hp=>HEB.out p (List.mem_of_mem_take hp)
     have HNZ:∀w,Below w9.heap.size w9 w→NdV w (OutF (fun j=>F1 j∨(w7.heap.size≤j∧j<w8.heap.size)) P) nz (.agg #[.int .i64 lb,.int .i64 qb,.slice Az 4 cz]):=fun w hw=>by
      have hw8:Below w8.heap.size w8 w:=by
       have:=HB9.out
       rw[←hBa] at this
       exact this.trans (hw.mono this.size)
      refine ⟨Az,cz,by rw[hnz4,←hnz];show _=Value.agg #[.int .i64 (nb.lv:Int),.int .i64 (nb.sq:Int),_];rw[HLV.out,HSQ.out],?_,by rw[hnz4];exact own_cap HOZ.out,fun _ p hp=>?_,?_,by rw[←hnz];exact hlb16,by rw[←hnz];exact hqb33,by omega⟩
      ·rw[←hnz]
       exact (Reads.of_own HOZ.out).keep hw8
      ·obtain ⟨q1,q2,q3⟩:=own_ge HOZ.out p hp
       exact ⟨⟨.inr ⟨q1,q2⟩,fun hh=>by have:=hPlt _ hh;omega⟩,Nat.lt_of_lt_of_le q2 hw8.size⟩
      ·rw[←hnz]
       exact fun p hp=>HEB.out p (List.mem_of_mem_drop hp)
     have HSF:∀w,Below w9.heap.size w9 w→StIn w (fun j=>F1 j∨(w7.heap.size≤j∧j<w8.heap.size)) P X ws:=fun w hw=>
      ((hr.out.si.keep (by have:=HB7.out;exact this)).keep (HB79.out.trans (hw.mono HB79.out.size))).wide (fun j hj _=>.inl hj) (fun j hj=>.inl (hF1P j hj))
     have hput:∀w,Below w9.heap.size w9 w→Calls Tryz.prog 127 #[.pointer (some ⟨P.s,0,none⟩),.int .i64 (sb:Int),.agg #[.int .i64 lb,.int .i64 qb,.slice Aa 4 ca]] w fun e w'=>e=.returned (.tuple #[])∧Hid (StIn w' (fun j=>F1 j∨(w7.heap.size≤j∧j<w8.heap.size)) P (X.put sb na) ws)∧Hid (Fr (· =P.mp) w9 w'):=fun w hw=>by
      have hh:=HNA w hw
      have e1:lb=(na.lv:Int):=by rw[←hna];exact HLV.out.symm
      have e2:qb=(na.sq:Int):=by rw[←hna];exact HSQ.out.symm
      rw[e1,e2] at hh ⊢
      refine (rput26_any w _ P X ws (HSF w hw) sb hbl na Aa 4 ca hna4 hh).mono ?_
      rintro e w' ⟨rfl,q1,q2⟩
      exact ⟨rfl,q1,(Fr.of_below hw).trans q2⟩
     have HPUT:=Hi hput
     have HNZ':=Hi HNZ
     have HNAe:=Hi hna
     have HNZe:=Hi hnz
     have HNZ4:=Hi hnz4
     have HNA4:=Hi hna4
     clear hput HNA HNZ HSF hna hnz hna4 hnz4 hcg howa howb hCa hCz hb9 hb79 hb8 hBa y0 y1 y2 yg0 yg1 yg2
     go_cut [] (fun wx=>Hid (StIn wx (fun j=>F1 j∨(w7.heap.size≤j∧j<w8.heap.size)) P (X.put sb na) ws)∧Hid (Fr (· =P.mp) w9 wx))
     case first=>
      as_aux_lemma=>
       go_region_with (go_at_call 127;go_loud (with_reducible refine (HPUT.out _ (by first|exact Below.refl _ _|exact (Below.refl _ _).drew)).mono ?_;rintro e w10 ⟨rfl,hs10,hf10⟩))
       all_goals
        go_wp2_with fail
        go_meet
        exact ⟨hs10,hf10⟩
     case rest=>
      obtain ⟨hs10,hf10⟩:=hcut
      obtain ⟨w10,hw10⟩ :∃w10,w10=wc:=⟨_,rfl⟩
      rw[←hw10] at hs10 hf10 ⊢
      clear hw10
      have hmpa:¬Ba=P.mp:=fun e=>by have:=hPlt P.mp (has_mp _ rfl);omega
      have hmpz:¬Ba+1=P.mp:=fun e=>by have:=hPlt P.mp (has_mp _ rfl);omega
      have hmpB:¬B=P.mp:=fun e=>by have h1:=hr.out.si.lt P.mp (has_mp _ rfl);have:=HB.out;omega
      have hCz10:=HCz.out.fr hf10.out hmpz
      have hCa10:=Hi (HCa.out.fr hf10.out hmpa)
      have hCb10:=Hi ((HC7.out.below HB79.out HC7.out.lt).fr hf10.out hmpB)
      have hsz10:=hf10.out.size
      obtain ⟨t0,t1,t2,tg0,tg1,tg2⟩:=hCz10.at3
      have HCZ10:=Hi hCz10
      have hnd10:=(HNZ'.out w9 (Below.refl _ w9)).fr hf10.out (fun j hj e=>hj.2 (has_mp _ e))
      have ez1:Hid (lb=(nz.lv:Int)):=by show _=_;rw[←HNZe.out];exact HLV.out.symm
      have ez2:Hid (qb=(nz.sq:Int)):=by show _=_;rw[←HNZe.out];exact HSQ.out.symm
      have hrow10:=Hi (own_fr (own_keepB' hr7.out HB79.out) hf10.out (fun b hb e=>hmpg (by simp[Value.ownBlock] at hb;omega)))
      have hO10:=Hi ((((hr.out.old.below HB7.out hr.out.old.lt).below HB79.out (Nat.lt_of_lt_of_le hr.out.old.lt HB7.out.size))).fr hf10.out hmpO)
      clear hCz10 z0 z1 z2 zg0 zg1 zg2 hcg9
      rcases hpk:(X.put sb na).bl.pick with _|c
      ·
       as_aux_lemma=>
        have hff:=rfresh_none w10 _ P _ ws hs10.out hpk lb qb Az 4 cz
        have hRn:Hid (S.insert k key v r=none):=by
         have:=HRES.out
         unfold St.unw St.halve at this
         rw[HCH.out] at this
         dsimp only at this
         rw[HLB.out,if_neg (by omega)] at this
         change X.bl.pick=none at hpk
         rw[hpk] at this
         show _=_
         rw[HINS3.out,←this]
        clear hpk
        go_wp2_with fail
        refine hff.mono ?_
        rintro e w11 ⟨rfl,hf11⟩
        have F11:=Hi hf11
        clear hf11 hff
        go_wp2_with fail
        exact bodyPost_ret (v:=.tuple #[.int .i64 0,.int .u64 0,.bool false,.int .i64 14]) (by simp[results,Tryz.f91,go_sem]) rfl ⟨((((hr.out.fr.trans (Fr.of_below HB7.out)).trans (Fr.of_below HB79.out)).trans (hf10.out.mono (fun j _ e=>has_mp _ e))).trans F11.out),.inl ⟨hRn.out,rfl⟩⟩
      ·have hff:=rfresh_any w10 _ P _ ws hs10.out c hpk nz Az 4 cz HNZ4.out (by rw[←ez1.out,←ez2.out];exact hnd10)
       rw[←ez1.out,←ez2.out] at hff
       obtain ⟨key0,hk0⟩ :∃q,((nb.es.drop 4)[0]?.getD (0,0)).1=q:=⟨_,rfl⟩
       obtain ⟨X2,hX2⟩ :∃q,(({ X.put sb na with bl:=(X.put sb na).bl.setN c 1 }:St).put c nz)=q:=⟨_,rfl⟩
       rw[hX2] at hff
       have hcl16:c<16384:=by
        have h1:=(Mp.pick_some hpk).1
        have h2:=hs10.out.mb.lt
        omega
       have hhv:Hid (X.halve sb=some ([(key0,c)],X2)):=by
        show _=_
        unfold St.halve
        rw[HCH.out]
        dsimp only
        rw[HLB.out,if_neg (by omega)]
        change X.bl.pick=some c at hpk
        rw[hpk,←hX2,←hk0,←HNAe.out,←HNZe.out]
        rfl
       have HPC:Hid (X.bl.count c=0):=(Mp.pick_some hpk).2.1
       have HX2:=Hi hX2
       have HK0:=Hi hk0
       clear hpk hX2 hk0 hnd10
       go_wp2_with fail
       refine hff.mono ?_
       rintro e w11 ⟨rfl,hs11,hf11⟩
       have F11:=Hi hf11
       have S11:=Hi hs11
       have hnP:∀j,w7.heap.size≤j→¬P.has j:=fun j hj q=>by have:=hPlt j q;omega
       have hCz11:=HCZ10.out.fr hf11 (hnP _ (by omega))
       have hCa11:=Hi (hCa10.out.fr hf11 (hnP _ (by omega)))
       have hCb11:=Hi (hCb10.out.fr hf11 (fun q=>by have h1:=hr.out.si.lt B q;have:=HB.out;omega))
       have hrow11:=Hi (own_fr hrow10.out hf11 (fun b hb q=>by
        simp[Value.ownBlock] at hb
        subst hb
        have h1:=hlt.out _ q
        have h2:=HBB.out.size
        omega))
       have hO11:=Hi (hO10.out.fr hf11 (fun q=>by have h1:=hlt.out O q;omega))
       have hOZ11:=(((Reads.of_own HOZ.out).keep (by have:=HB9.out;rw[←HBa.out] at this;exact this)).fr hf10.out (fun _ p hp e=>by
        obtain ⟨q1,q2,q3⟩:=own_ge HOZ.out p hp
        exact hnP p.block q1 (has_mp _ e))).fr hf11 (fun _ p hp q=>by
        obtain ⟨q1,q2,q3⟩:=own_ge HOZ.out p hp
        exact hnP p.block q1 q)
       obtain ⟨az,oz,hAz,hazl,hazc⟩:=hOZ11.e (by rw[List.length_drop,HLB.out];decide)
       subst hAz
       have hz0:=(hazc 0 (by rw[List.length_drop,HLB.out];decide)).1
       rw[HK0.out,Nat.zero_mul,Nat.add_zero] at hz0
       have hsz11:=hf11.size
       obtain ⟨t0,t1,t2,tg0,tg1,tg2⟩:=hCz11.at3
       have HCZ11:=Hi hCz11
       have ecv:IntKind.u64.wrap (c:Int)=(c:Int):=by rw[IntKind.wrap_u64];omega
       clear hff hs11 hf11 hCz11 hazc hOZ11
       go_upto_region 23 with (fail)
       have hb12:Below w11.heap.size w11 (w11.alloc (.cells #[.int .i64 key0,.int .u64 (c:Int)] 94)):=(Below.refl _ w11).alloc (Nat.le_refl _) _
       have hC12:=Cs.new w11 94 #[.int .i64 key0,.int .u64 (c:Int)]
       have hsz12:(w11.alloc (.cells #[.int .i64 key0,.int .u64 (c:Int)] 94)).heap.size=w11.heap.size+1:=by simp
       generalize (w11.alloc (.cells #[.int .i64 key0,.int .u64 (c:Int)] 94))=w12 at hb12 hC12 hsz12 ⊢
       have hb0:B<Ba:=by
        have:=HB8.out.size
        omega
       obtain ⟨D,hD⟩ :∃q,w11.heap.size=q:=⟨_,rfl⟩
       have HD:=Hi hD
       rw[hD] at hC12 hsz12 hsz11 ⊢
       have HB12:=Hi hb12
       have hCb12:=hCb11.out.below hb12 hCb11.out.lt
       have hCa12:=hCa11.out.below hb12 hCa11.out.lt
       have hrow12:=own_keepB' hrow11.out hb12
       have hO12:=Hi (hO11.out.below hb12 hO11.out.lt)
       have S12:=Hi (S11.out.keep hb12)
       obtain ⟨y0,y1,y2,yg0,yg1,yg2⟩:=hCb12.at3
       obtain ⟨x0,x1,x2,-,-,-⟩:=hCa12.at3
       obtain ⟨s0,s1,-,-⟩:=hC12.at2
       have HCb12:=Hi hCb12
       have HC12:=Hi hC12
       have HROW12:=Hi hrow12
       have hw12:w7.heap.size≤Ba∧Ba+2≤D:=by
        have:=HB8.out.size
        have:=HBa.out
        omega
       have hfrW12:Fr P.has W w12:=(((((hr.out.fr.trans (Fr.of_below HB7.out)).trans (Fr.of_below HB79.out)).trans (hf10.out.mono (fun j _ e=>has_mp _ e))).trans F11.out)).trans (Fr.of_below hb12)
       have HFW12:=Hi hfrW12
       have hOA12:=(((Reads.of_own HOA.out).keep (by have:=HB9.out;rw[←HBa.out] at this;exact this)).fr hf10.out (fun _ p hp e=>by
        obtain ⟨q1,q2,q3⟩:=own_ge HOA.out p hp
        exact hnP p.block q1 (has_mp _ e))).fr F11.out (fun _ p hp q=>by
        obtain ⟨q1,q2,q3⟩:=own_ge HOA.out p hp
        exact hnP p.block q1 q)
       have hOA12:=hOA12.keep hb12
       clear hD hb12 hCb12 hCa12 hrow12 hC12 t0 t1 t2 tg0 tg1 tg2 hz0 hfrW12
       by_cases hi0:i=0
       ·subst hi0
        have dlb:¬lb=8:=by
         have h1:=HNL.out
         have h2:=HLV.out
         have h3:=HSTL.out
         omega
        as_aux_lemma=>
         obtain ⟨ab,ob,hAb,habl,habc⟩:=hOA12.e (by rw[List.length_take,HLB.out];decide)
         subst hAb
         have ha0:=(habc 0 (by rw[List.length_take,HLB.out];decide)).1
         rw[Nat.zero_mul,Nat.add_zero] at ha0
         obtain ⟨keya,hka⟩ :∃q,((nb.es.take 4)[0]?.getD (0,0)).1=q:=⟨_,rfl⟩
         rw[hka] at ha0
         have HKA:=Hi hka
         have hrw0:=HROW12.out.cellAt 0 (by omega)
         have hrw0':=(stv_at st 0 (by rw[HSTL.out];omega)).1
         rw[Nat.zero_mul,HSI.out] at hrw0'
         rw[hrw0'] at hrw0
         have d0:¬(0:Int)<0:=by omega
         have dn0:(0:Int)<(N:Int)+1:=by omega
         have es1:IntKind.u64.wrap (sb:Int)=(sb:Int):=by
          have:=S12.out.mb.lt
          have h2:=hr.out.si.mb.lt
          rw[IntKind.wrap_u64]
          omega
         have el1:IntKind.i64.wrap (lb+1)=lb+1:=by
          have:=HLV.out
          rw[IntWalk.i64_in _ (by omega)]
         clear habc hka hrw0' hOA12
         go_wp2_with fail
         have hw12l:w12.heap.size=D+1:=hsz12
         have hgvl12:gv<w12.heap.size:=by omega
         have hBl12:B<w12.heap.size:=by omega
         have hBal12:Ba<w12.heap.size:=by omega
         have hDl12:D<w12.heap.size:=by omega
         have HSZ12:=Hi hsz12
         clear hsz12 hw12l
         go_cut [31] (fun s31 wx=>∃Bt gt:Nat,s31=.pointer (some ⟨Bt,0,none⟩)∧Hid (Cs wx Bt 129 #[.int .i64 (lb+1),.int .i64 0,.slice (some ⟨gt,0,none⟩) 2 2])∧Hid (Cs wx gt 94 #[.int .i64 keya,.int .u64 (sb:Int),.int .i64 key0,.int .u64 (c:Int)])∧Hid (Below w12.heap.size w12 wx)∧Hid (w12.heap.size≤Bt∧w12.heap.size≤gt∧gt≠Bt))
         case first=>
          go_region
          all_goals
           go_wp2_with fail
           go_meet
           first
            |exact ⟨w12.heap.size+1,w12.heap.size,(by with_reducible rfl),(two_alloc w12 _ _ _ _).2.1,(two_alloc w12 _ _ _ _).1,(two_alloc w12 _ _ _ _).2.2,⟨Nat.le_succ _,Nat.le_refl _,by omega⟩⟩
            |exact ⟨w12.heap.size,w12.heap.size+1,(by with_reducible rfl),(two_alloc w12 _ _ _ _).1,(two_alloc w12 _ _ _ _).2.1,(two_alloc w12 _ _ _ _).2.2,⟨Nat.le_refl _,Nat.le_succ _,by omega⟩⟩
         case rest=>
          obtain ⟨Bt,gt,rfl,hBt,hgt,hbw,hge⟩:=hcut
          obtain ⟨w13,hw13⟩ :∃w13,w13=wc:=⟨_,rfl⟩
          rw[←hw13] at hBt hgt hbw ⊢
          clear hw13
          obtain ⟨hge1,hge2,hge3⟩:=hge.out
          obtain ⟨q0,q1,q2,qg0,qg1,qg2⟩:=hBt.out.at3
          have hPgt:¬P.has gt:=fun q=>by have h1:=S12.out.lt gt q;omega
          have hgtl:=hgt.out.lt
          have hS13:=(S12.out.keep hbw.out).wide (F':=fun j=>(F1 j∨(w7.heap.size≤j∧j<w8.heap.size))∨j=gt) (fun j hj _=>.inl hj) (fun j hj=>.inl (S12.out.inF j hj))
          obtain ⟨nt,hnte⟩ :∃q:Nd,(⟨N+1,0,[(keya,sb),(key0,c)]⟩ :Nd)=q:=⟨_,rfl⟩
          have hnl2:nt.es.length=2:=by rw[←hnte];rfl
          have elN:Hid (lb+1=((nt.lv:Nat):Int)):=by
           show _=_
           have h1:=HNL.out
           have h2:=HLV.out
           have h3:=HSTL.out
           have h4:nt.lv=N+1:=by rw[←hnte]
           rw[h4]
           omega
          have elS:Hid ((0:Int)=((nt.sq:Nat):Int)):=by
           show _=_
           rw[←hnte]
           rfl
          have hnt:NdV w13 (OutF (fun j=>(F1 j∨(w7.heap.size≤j∧j<w8.heap.size))∨j=gt) P) nt (.agg #[.int .i64 (lb+1),.int .i64 0,.slice (some ⟨gt,0,none⟩) 2 2]):=by
           refine ⟨some ⟨gt,0,none⟩,2,by rw[hnl2,elN.out,←elS.out],?_,by rw[hnl2];exact Nat.le_refl _,fun _ p hp=>?_,?_,by rw[←hnte];show N+1≤16;omega,by rw[←hnte];exact Nat.zero_le _,by rw[hnl2];decide⟩
           ·rw[←hnte]
            exact fun _=>⟨gt,0,rfl,hgt.out.lt,fun j u hj=>by
             rw[Nat.zero_add,hgt.out.cell j,List.getElem?_toArray]
             exact hj⟩
           ·injection hp with hp
            subst hp
            exact ⟨⟨.inr rfl,hPgt⟩,hgtl⟩
           ·rw[←hnte]
            have hk1:=(HEB.out.at 0)
            have hk2:=(E64.at (l:=nb.es.drop 4) (fun p hp=>HEB.out p (List.mem_of_mem_drop hp)) 0)
            have hk3:=(E64.at (l:=nb.es.take 4) (fun p hp=>HEB.out p (List.mem_of_mem_take hp)) 0)
            rw[HK0.out] at hk2
            rw[HKA.out] at hk3
            have hsl:=hr.out.si.mb.lt
            intro p hp
            simp only[List.mem_cons,List.not_mem_nil,or_false] at hp
            rcases hp with rfl|rfl
            ·exact ⟨hk3.1,hk3.2.1,by show sb<_;omega⟩
            ·exact ⟨hk2.1,hk2.2.1,by show c<_;omega⟩
          have HNL2:=Hi hnl2
          clear hnl2
          have HNT:=Hi hnt
          have HS13:=Hi hS13
          have hcs:Hid (sb≠c):=fun e=>HBC.out (by rw[e];exact HPC.out)
          have HNTE:=Hi hnte
          clear hnte
          clear hnt hS13 y0 y1 y2 yg0 yg1 yg2 x0 x1 x2 s0 s1 ha0 hrw0
          have hres0:Hid (R=some ([(key0,c)],X2)):=by
           have:=HRES.out
           rw[List.take_zero,List.reverse_nil] at this
           unfold St.unw at this
           rw[hhv.out] at this
           exact this.symm
          rcases hpk:X2.bl.pick with _|t
          ·have hff:=rfresh_none w13 _ P _ ws HS13.out hpk (lb+1) 0 (some ⟨gt,0,none⟩) 2 2
           have hRn:Hid (S.insert k key v r=none):=by
            show _=_
            rw[HINS3.out,hres0.out]
            dsimp only
            rw[if_neg (by omega),hpk]
           clear hpk
           go_wp2_with fail
           refine hff.mono ?_
           rintro e w14 ⟨rfl,hf14⟩
           have F14:=Hi hf14
           clear hf14 hff
           go_wp2_with fail
           exact bodyPost_ret (v:=.tuple #[.int .i64 0,.int .u64 0,.bool false,.int .i64 14]) (by simp[results,Tryz.f91,go_sem]) rfl ⟨(HFW12.out.trans (Fr.of_below hbw.out)).trans F14.out,.inl ⟨hRn.out,rfl⟩⟩
          ·have hff:=rfresh_any w13 _ P _ ws HS13.out t hpk nt (some ⟨gt,0,none⟩) 2 2 HNL2.out (by rw[←elN.out,←elS.out];exact HNT.out)
           rw[←elN.out,←elS.out] at hff
           have hINS:Hid (S.insert k key v r=some (t,(({ X2 with bl:=X2.bl.setN t 1 }:St).put t nt))):=by
            show _=_
            have hhd:headOf st=sb:=by rw[headOf_first st (by rw[HSTL.out];omega),HSI.out]
            have hl2:X2.load sb=some { na with sq:=X.seq }:=by
             unfold St.load
             rw[←HX2.out,put_ne _ hcs.out]
             show (match (X.put sb na).ch sb with|some n=>some n|none=>_)=_
             rw[put_ch]
            rw[HINS3.out,hres0.out]
            dsimp only
            rw[if_neg (by omega),hpk,hhd,hl2,←HNTE.out,←HKA.out,←HNAe.out]
            rfl
           clear hpk
           go_wp2_with fail
           refine hff.mono ?_
           rintro e w14 ⟨rfl,hs14,hf14⟩
           have F14:=Hi hf14
           have S14:=Hi hs14
           have hO14:=(hO12.out.below hbw.out hO12.out.lt).fr hf14 (fun q=>by have h1:=hlt.out O q;omega)
           obtain ⟨o0,o1,og0,og1⟩:=hO14.at2
           clear hf14 hff hs14
           go_wp2_with fail
           go_quiet (fail)
           go_wp2_with fail
           have hfi:=fun q:Nat=>((S14.out.wide (F':=FN F W) (fun j hj _=>by
            have h1:=hr.out.fr.size
            have h2:=HB.out
            rcases hj with (q|q)|q
            ·exact (hr.out.tight j q).2.1
            ·exact .inr (by omega)
            ·exact .inr (by omega)) (fun j hj=>(hr.out.tight j (hr.out.si.inF j hj)).2.1)).fr (G:=fun _=>False) ((Fr.refl _ w14).drewN q) (fun _ _ h=>h))
           have hfr:∀q:Nat,Fr P.has W (w14.drewN q):=fun q=>((HFW12.out.trans (Fr.of_below hbw.out)).trans F14.out).drewN q
           exact bodyPost_ret (v:=.tuple #[.int .i64 (t:Int),.int .u64 (old:Int),.bool had,.int .i64 0]) (by simp[results,Tryz.f91,go_sem]) rfl ⟨hfr _,.inr ⟨t,_,hINS.out,rfl,hfi _⟩⟩
       ·obtain ⟨i1,rfl⟩ :∃i1,i=i1+1:=⟨i - 1,by omega⟩
        obtain ⟨ub,ua,hsu⟩ :∃ub ua,st[i1]'(by rw[HSTL.out];omega)=(ub,ua):=⟨_,_,rfl⟩
        have hnx:=HNX.out (key0,c) [] X2 hhv.out
        rw[take_rev st i1 (by rw[HSTL.out];omega),hsu] at hnx
        obtain ⟨⟨nu,hcu,hua,hu7⟩,hok2⟩:=hnx
        have hubc:ub≤1000000:=by
         have h1:(X2.hang ub ua (key0,c)).bl.count ub≠0:=hok2.1
         rw[hang_ch hcu] at h1
         have h2:=Mp.lt_of_count h1
         have h3:=S12.out.mb.lt
         change ub<X2.bl.now.length at h2
         omega
        obtain ⟨vu,hlk,hndu⟩:=S12.out.ch.look2 ub hubc hcu
        obtain ⟨Au,cu,rfl⟩:=hndu.val
        have hlk1:=hlk w12.drew (Below.refl _ w12).drew
        have hlk2:=hlk (w12.alloc (.cells #[.int .i64 0,.int .i64 0,.slice none 0 0] 129)).drew ((Below.refl _ w12).alloc (Nat.le_refl _) _).drew
        obtain ⟨Lu,hLu⟩ :∃q,nu.es.length=q:=⟨_,rfl⟩
        obtain ⟨lu,hlu⟩ :∃q:Int,((nu.lv:Nat):Int)=q:=⟨_,rfl⟩
        obtain ⟨qu,hqu⟩ :∃q:Int,((nu.sq:Nat):Int)=q:=⟨_,rfl⟩
        rw[hLu,hlu,hqu] at hlk1 hlk2
        rw[hLu] at hua hu7
        have HLU:=Hi hLu
        have HLVU:=Hi hlu
        have HSQU:=Hi hqu
        have HNDU:=Hi hndu
        have HCU:=Hi hcu
        have HSU:=Hi hsu
        have HOK2:=Hi hok2
        have hst1:=stv_at st i1 (by rw[HSTL.out];omega)
        have hrb:=HROW12.out.cellAt (i1 * 2) (by omega)
        have hra:=HROW12.out.cellAt (i1 * 2+1) (by omega)
        rw[hst1.1,hsu] at hrb
        rw[hst1.2,hsu] at hra
        have x4:w12.cell? ⟨P.s,4,none⟩=some (.map (some P.mp)):=S12.out.cs.cell 4
        have hps:P.s<w12.heap.size:=S12.out.cs.lt
        have eim:IntKind.i64.wrap (((i1+1:Nat):Int) - 1)=(i1:Int):=by rw[IntWalk.i64_in _ (by omega)];omega
        have eim2:IntKind.i64.wrap ((i1:Int)+1 - 1)=(i1:Int):=by rw[IntWalk.i64_in _ (by omega)];omega
        have eua:IntKind.i64.wrap ((ua:Int)+1)=((ua+1:Nat):Int):=by rw[IntWalk.i64_in _ (by omega)];rfl
        have hgvl12:gv<w12.heap.size:=by omega
        have hBl12:B<w12.heap.size:=by omega
        have hDl12:D<w12.heap.size:=by omega
        have dlt1:(i1:Int)<(N:Int)+1:=by omega
        have dpos:(0:Int)<((i1+1:Nat):Int):=by omega
        have dpos2:(0:Int)<(i1:Int)+1:=by omega
        have HSZ12:=Hi hsz12
        clear hlk hndu hLu hlu hqu hcu hsu hok2 hst1 hsz12 hOA12 x0 x1 x2 dlt
        go_wp2_with fail
        go_cut [29] (fun s29 wx=>s29=.pointer (some ⟨w12.heap.size,0,none⟩)∧wx=(w12.alloc (.cells #[.int .i64 lu,.int .i64 qu,.slice Au Lu cu] 129)).drew)
        case first=>
         as_aux_lemma=>
          go_region
          all_goals
           go_wp2_with fail
           go_meet
           exact ⟨rfl,rfl⟩
        case rest=>
         obtain ⟨rfl,hwx⟩:=hcut
         have hb13:Below w12.heap.size w12 (w12.alloc (.cells #[.int .i64 lu,.int .i64 qu,.slice Au Lu cu] 129)).drew:=((Below.refl _ w12).alloc (Nat.le_refl _) _).drew
         have hC13:Cs (w12.alloc (.cells #[.int .i64 lu,.int .i64 qu,.slice Au Lu cu] 129)).drew w12.heap.size 129 #[.int .i64 lu,.int .i64 qu,.slice Au Lu cu]:=Cs.new w12 _ _
         have hsz13:(w12.alloc (.cells #[.int .i64 lu,.int .i64 qu,.slice Au Lu cu] 129)).drew.heap.size=w12.heap.size+1:=by show (w12.alloc _).heap.size=_;simp
         rw[←hwx] at hb13 hC13 hsz13
         clear hwx hlk1 hlk2 x4 hps
         obtain ⟨w13,hw13⟩ :∃w13,w13=wc:=⟨_,rfl⟩
         rw[←hw13] at hb13 hC13 hsz13 ⊢
         clear hw13
         have HB13:=Hi hb13
         obtain ⟨U,hU⟩ :∃U,w12.heap.size=U:=⟨_,rfl⟩
         rw[hU] at hb13 hC13 hsz13 hgvl12 hBl12 hDl12 ⊢
         have HU:=Hi hU
         have hD13:=HC12.out.below hb13 hDl12
         have hrow13:=own_fr HROW12.out (Fr.of_below (G:=fun _=>False) HB13.out) (fun _ _ q=>q)
         have hra13:=hrow13.cellAt (i1 * 2+1) (by omega)
         have hrb13:=hrow13.cellAt (i1 * 2) (by omega)
         have hst1:=stv_at st i1 (by rw[HSTL.out];omega)
         rw[hst1.2,HSU.out] at hra13
         rw[hst1.1,HSU.out] at hrb13
         have hndu13:=HNDU.out.fr (Fr.of_below (G:=fun _=>False) HB13.out) (fun _ _ q=>q)
         obtain ⟨-,-,-,hrdu,hcpu,-,hEu,hlu16,hqu33,-⟩:=hndu13.parts
         rw[HLU.out] at hcpu
         obtain ⟨u0,u1,u2,ug0,ug1,ug2⟩:=hC13.at3
         obtain ⟨s0,s1,-,-⟩:=hD13.at2
         have HROW13:=Hi hrow13
         have HD13:=Hi hD13
         have HC13:=Hi hC13
         have HRDU:=Hi hrdu
         have HEU:=Hi hEu
         have HSZ13:=Hi hsz13
         have hUl:U<w13.heap.size:=by omega
         have hgl13:gv<w13.heap.size:=by omega
         have hDl13:D<w13.heap.size:=by omega
         obtain ⟨a1,ha1⟩ :∃a1,ua+1=a1:=⟨_,rfl⟩
         rw[ha1] at eua
         have ha1L:a1≤Lu:=by omega
         have HA1:=Hi ha1
         clear hU hrow13 hst1 hndu13 hrdu hEu hC13 hD13 hb13 hsz13 hra hrb y0 y1 y2 yg0 yg1 yg2 ha1
         go_wp2_with fail
         obtain ⟨es',hes'⟩ :∃q,nu.es.take a1++(key0,c) :: nu.es.drop a1=q:=⟨_,rfl⟩
         have hes'l:es'.length=Lu+1:=by
          rw[←hes',List.length_append,List.length_cons,List.length_take,List.length_drop,HLU.out]
          omega
         have HES:=Hi hes'
         have HESL:=Hi hes'l
         clear hes' hes'l
         go_cut [] (fun wx=>∃(A9:Option Addr) (c9:Nat),Hid (Cs wx U 129 #[.int .i64 lu,.int .i64 qu,.slice A9 (Lu+1) c9])∧Hid (wx.ownsRow w13.heap.size 94 2 (.slice A9 (Lu+1) c9) (Lu+1) (ev es'))∧Hid (Fr (fun j=>j=U) w13 wx))
         case first=>
          obtain ⟨i0,hi0,hz0,hz1,hz2⟩:=info_parts entry_info
          have t7:(a1:Int)≤(cu:Int):=by omega
          have t8:a1≤cu:=by omega
          have t9:a1≤Lu:=ha1L
          have t10:(a1:Int)≤(Lu:Int):=by omega
          have t11:(0:Int)≤(a1:Int):=by omega
          refine wp_region_mixL2 [0,1,2,3,5,8,9,10,11] 4 6 [7,12,13,14] 13 (by kernel_rfl) (by decide +kernel) (fun w'=>w'.cell? ⟨U,2,none⟩=some (.slice Au Lu cu)∧w'.cell? ⟨D,0,none⟩=some (.int .i64 key0)∧w'.cell? ⟨D,1,none⟩=some (.int .u64 (c:Int))) ⟨u2,s0,s1⟩ ?_
          simp only[pickL,List.getElem?_toArray,List.getElem?_cons_zero,List.getElem?_cons_succ,List.map_cons,List.map_nil]
          iterate 9
           refine ⟨?_,Or.inl ⟨by rfl,fun W' hS'=>?_⟩,fun _ _ _ h=>h,?_⟩
           rotate_left
           ·obtain ⟨hs1,hs2,hs3⟩:=hS'
            go_simp
            with_reducible rfl
           simp only[Act.put,List.setIfInBounds_toArray,List.set_cons_zero,List.set_cons_succ]
          have HS0:Hid (∀w',Below w13.heap.size w13 w'→w'.cell? ⟨U,2,none⟩=some (.slice Au Lu cu)∧w'.cell? ⟨D,0,none⟩=some (.int .i64 key0)∧w'.cell? ⟨D,1,none⟩=some (.int .u64 (c:Int))):=fun w' hb=>⟨(hb.cell (p:=⟨U,2,none⟩) hUl).trans u2,(hb.cell (p:=⟨D,0,none⟩) hDl13).trans s0,(hb.cell (p:=⟨D,1,none⟩) hDl13).trans s1⟩
          have HFIN:Hid (∀(w16:World) (A7:Option Addr) (c7:Nat),Below w13.heap.size w13 w16→w16.ownsRow w13.heap.size 94 2 (.slice A7 (a1+1+(Lu - a1)) c7) (a1+1+(Lu - a1)) (ev (nu.es.take a1)++ [.int .i64 key0,.int .u64 (c:Int)]++ev (nu.es.drop a1))→∃(A9:Option Addr) (c9:Nat),(Value.slice A7 (a1+1+(Lu - a1)) c7)=.slice A9 (Lu+1) c9∧Hid (Cs (w16.setCell ⟨U,2,none⟩ (.slice A9 (Lu+1) c9)) U 129 #[.int .i64 lu,.int .i64 qu,.slice A9 (Lu+1) c9])∧Hid ((w16.setCell ⟨U,2,none⟩ (.slice A9 (Lu+1) c9)).ownsRow w13.heap.size 94 2 (.slice A9 (Lu+1) c9) (Lu+1) (ev es'))∧Hid (Fr (fun j=>j=U) w13 (w16.setCell ⟨U,2,none⟩ (.slice A9 (Lu+1) c9)))):=fun w16 A7 c7 hb hown=>by
           have e1:a1+1+(Lu - a1)=Lu+1:=by omega
           have e2:ev (nu.es.take a1)++ [.int .i64 key0,.int .u64 (c:Int)]++ev (nu.es.drop a1)=ev es':=by
            rw[←HES.out,ev_append,List.append_assoc]
            rfl
           rw[e1,e2] at hown
           refine ⟨A7,c7,by rw[e1],(HC13.out.below hb HC13.out.lt).set3,own_fr hown (fr_set _ _ _ _) (fun b hb2 e=>by have:=own_base hown b hb2;omega),(Fr.of_below (G:=fun j=>j=U) hb).set (.inl rfl) _⟩
          show _∧_
          refine ⟨?_,?_⟩
          ·
           as_aux_lemma=>
            refine wpSeqL_step (fun K hK=>?_)
            refine step_append_reads _ (by rfl) _ _ _ (by rfl) w13.heap.size 94 i0 _ 2 16 Tryz.underlying87 hi0 hz0 hz1 hz2 (by rfl) (by omega) (.slice none 0 0) 0 [] (by rfl) (World.ownsRow_nil _ _ _ _) Au a1 cu (ev (nu.es.take a1)) (by rfl) (by rw[ev_length,List.length_take,HLU.out];omega) (show Reads w13.drew Au _ from take_reads HRDU.out) (ev_one _) (by simp only[maxLen];omega) (by omega) (by show w13.heap.size≤w13.heap.size;exact Nat.le_refl _) ?_
            intro v14 w14 hown14 hg14 hat14
            obtain ⟨A5,c5,rfl⟩:=own_form hown14
            have hb14:Below w13.heap.size w13 w14:=((Below.refl _ w13).drew).grown hg14 (Nat.le_refl _) (by intro k hk;simp[Value.ownBlock] at hk)
            refine hK _ _ (fun _=>HS0.out _ hb14) ?_
            clear hK K
            rw[Nat.zero_add,List.nil_append] at hown14
            rw[Nat.zero_add]
            have HO14:=Hi hown14
            clear hg14 hat14 hown14
            refine wpSeqL_step (fun K hK=>?_)
            go_simp
            have hb15:Below w13.heap.size w13 (w14.alloc (.cells #[.int .i64 key0,.int .u64 (c:Int)] 94)):=hb14.alloc hb14.size _
            refine hK _ _ (fun _=>HS0.out _ hb15) ?_
            clear hK K
            refine wpSeqL_step (fun K hK=>?_)
            refine step_append_reads _ (by rfl) _ _ _ (by rfl) w13.heap.size 94 i0 _ 2 16 Tryz.underlying87 hi0 hz0 hz1 hz2 (by rfl) (by omega) (.slice A5 a1 c5) a1 (ev (nu.es.take a1)) (by rfl) (own_keepB' HO14.out ((Below.refl _ w14).alloc (Nat.le_refl _) _)) (some ⟨w14.heap.size,0,none⟩) 1 1 [.int .i64 key0,.int .u64 (c:Int)] (by rfl) (by rfl) (Reads.new _ _ _) (by simp[Value.oneCell']) (by simp only[maxLen];omega) (by omega) hb15.size ?_
            intro v16 w16 hown16 hg16 hat16
            obtain ⟨A6,c6,rfl⟩:=own_form hown16
            have hb16:Below w13.heap.size w13 w16:=hb15.grown hg16 hb15.size (own_base HO14.out)
            refine hK _ _ (fun _=>HS0.out _ hb16) ?_
            clear hK K
            have HO16:=Hi hown16
            clear hg16 hat16 hown16
            refine wpSeqL_step (fun K hK=>?_)
            refine step_append_reads _ (by rfl) _ _ _ (by rfl) w13.heap.size 94 i0 _ 2 16 Tryz.underlying87 hi0 hz0 hz1 hz2 (by rfl) (by omega) (.slice A6 (a1+1) c6) (a1+1) (ev (nu.es.take a1)++ [.int .i64 key0,.int .u64 (c:Int)]) (by rfl) HO16.out (if cu=a1 then Au else Au.map (·.add (a1 * 2))) (Lu - a1) (cu - a1) (ev (nu.es.drop a1)) (by rfl) (by rw[ev_length,List.length_drop,HLU.out]) (cut_reads (HRDU.out.keep hb16) HLU.out hcpu ha1L) (ev_one _) (by simp only[maxLen];omega) (by omega) hb16.size ?_
            intro v17 w17 hown17 hg17 hat17
            obtain ⟨A7,c7,rfl⟩:=own_form hown17
            have hb17:Below w13.heap.size w13 w17:=hb16.grown hg17 hb16.size (own_base HO16.out)
            refine hK _ _ (fun _=>HS0.out _ hb17) ?_
            clear hK K
            obtain ⟨A9,c9,hve,hk1,hk2,hk3⟩:=HFIN.out w17 A7 c7 hb17 hown17
            have hHC:=HC13.out.below hb17 HC13.out.lt
            obtain ⟨q0,q1,q2,qg0,qg1,qg2⟩:=hHC.at3
            rw[hve]
            clear hve hg17 hat17 hown17
            refine wpSeqL_list _ _ _ (by simp) ?_
            simp only[List.map_cons,List.map_nil]
            go_wp2_with fail
            all_goals
             go_meet
             exact ⟨A9,c9,hk1,hk2,hk3⟩
          ·
           as_aux_lemma=>
            refine wpSeqL_step (fun K hK=>?_)
            go_simp
            have hb15:Below w13.heap.size w13 (w13.drew.alloc (.cells #[.int .i64 key0,.int .u64 (c:Int)] 94)):=((Below.refl _ w13).drew).alloc (Nat.le_refl _) _
            have hrd15:Reads (w13.drew.alloc (.cells #[.int .i64 key0,.int .u64 (c:Int)] 94)) (some ⟨w13.heap.size,0,none⟩) [.int .i64 key0,.int .u64 (c:Int)]:=Reads.new _ _ _
            refine hK _ _ (fun _=>HS0.out _ hb15) ?_
            clear hK K
            obtain ⟨w15,hw15⟩ :∃q,w13.drew.alloc (.cells #[.int .i64 key0,.int .u64 (c:Int)] 94)=q:=⟨_,rfl⟩
            refine wpSeqL_step (fun K hK=>?_)
            refine step_append_reads _ (by rfl) _ _ _ (by rfl) w13.heap.size 94 i0 _ 2 16 Tryz.underlying87 hi0 hz0 hz1 hz2 (by rfl) (by omega) (.slice none 0 0) 0 [] (by rfl) (World.ownsRow_nil _ _ _ _) Au a1 cu (ev (nu.es.take a1)) (by rfl) (by rw[ev_length,List.length_take,HLU.out];omega) (take_reads (HRDU.out.keep hb15)) (ev_one _) (by simp only[maxLen];omega) (by omega) hb15.size ?_
            intro v14 w14 hown14 hg14 hat14
            obtain ⟨A5,c5,rfl⟩:=own_form hown14
            have hb145:=(Below.refl _ _).grown hg14 (Nat.le_refl _) (by intro k hk;simp[Value.ownBlock] at hk)
            have hb14:Below w13.heap.size w13 w14:=hb15.grown hg14 hb15.size (by intro k hk;simp[Value.ownBlock] at hk)
            have hrd14:=hrd15.keep hb145
            refine hK _ _ (fun _=>HS0.out _ hb14) ?_
            clear hK K
            rw[Nat.zero_add,List.nil_append] at hown14
            rw[Nat.zero_add]
            have HO14:=Hi hown14
            clear hg14 hat14 hown14 hw15
            refine wpSeqL_step (fun K hK=>?_)
            refine step_append_reads _ (by rfl) _ _ _ (by rfl) w13.heap.size 94 i0 _ 2 16 Tryz.underlying87 hi0 hz0 hz1 hz2 (by rfl) (by omega) (.slice A5 a1 c5) a1 (ev (nu.es.take a1)) (by rfl) HO14.out (some ⟨w13.heap.size,0,none⟩) 1 1 [.int .i64 key0,.int .u64 (c:Int)] (by rfl) (by rfl) hrd14 (by simp[Value.oneCell']) (by simp only[maxLen];omega) (by omega) hb14.size ?_
            intro v16 w16 hown16 hg16 hat16
            obtain ⟨A6,c6,rfl⟩:=own_form hown16
            have hb16:Below w13.heap.size w13 w16:=hb14.grown hg16 hb14.size (own_base HO14.out)
            refine hK _ _ (fun _=>HS0.out _ hb16) ?_
            clear hK K
            have HO16:=Hi hown16
            clear hg16 hat16 hown16
            refine wpSeqL_step (fun K hK=>?_)
            refine step_append_reads _ (by rfl) _ _ _ (by rfl) w13.heap.size 94 i0 _ 2 16 Tryz.underlying87 hi0 hz0 hz1 hz2 (by rfl) (by omega) (.slice A6 (a1+1) c6) (a1+1) (ev (nu.es.take a1)++ [.int .i64 key0,.int .u64 (c:Int)]) (by rfl) HO16.out (if cu=a1 then Au else Au.map (·.add (a1 * 2))) (Lu - a1) (cu - a1) (ev (nu.es.drop a1)) (by rfl) (by rw[ev_length,List.length_drop,HLU.out]) (cut_reads (HRDU.out.keep hb16) HLU.out hcpu ha1L) (ev_one _) (by simp only[maxLen];omega) (by omega) hb16.size ?_
            intro v17 w17 hown17 hg17 hat17
            obtain ⟨A7,c7,rfl⟩:=own_form hown17
            have hb17:Below w13.heap.size w13 w17:=hb16.grown hg17 hb16.size (own_base HO16.out)
            refine hK _ _ (fun _=>HS0.out _ hb17) ?_
            clear hK K
            obtain ⟨A9,c9,hve,hk1,hk2,hk3⟩:=HFIN.out w17 A7 c7 hb17 hown17
            have hHC:=HC13.out.below hb17 HC13.out.lt
            obtain ⟨q0,q1,q2,qg0,qg1,qg2⟩:=hHC.at3
            rw[hve]
            clear hve hg17 hat17 hown17
            refine wpSeqL_list _ _ _ (by simp) ?_
            simp only[List.map_cons,List.map_nil]
            go_wp2_with fail
            all_goals
             go_meet
             exact ⟨A9,c9,hk1,hk2,hk3⟩
         case rest=>
          obtain ⟨A9,c9,hk1,hk2,hk3⟩:=hcut
          obtain ⟨w18,hw18⟩ :∃w18,w18=wc:=⟨_,rfl⟩
          rw[←hw18] at hk1 hk2 hk3 ⊢
          clear hw18
          have hUw:w12.heap.size=U:=HU.out
          have hsz13b:=HSZ13.out
          have hsz12b:=HSZ12.out
          have hUB:∀j,(F1 j∨(w7.heap.size≤j∧j<w8.heap.size))→j≠U:=fun j hj e=>by
           have h2:=HBa.out
           rcases hj with q|q
           ·have h3:=(hr.out.tight j q).1
            have h4:=HB.out
            omega
           ·omega
          have hPU:¬P.has U:=fun q=>by have h1:=S12.out.lt U q;omega
          have hgU:¬gv=U:=by omega
          have hOU:¬O=U:=fun e=>by have:=hO12.out.lt;omega
          have hsz18:=hk3.out.size
          have hS18:=((S12.out.keep HB13.out).fr hk3.out (fun j hj=>hUB j hj)).wide (F':=fun j=>(F1 j∨(w7.heap.size≤j∧j<w8.heap.size))∨(w13.heap.size≤j∧j<w18.heap.size)) (fun j hj _=>.inl hj) (fun j hj=>.inl (S12.out.inF j hj))
          have hrow18:=own_fr HROW13.out hk3.out (fun b hb e=>hgU (by simp[Value.ownBlock] at hb;omega))
          have hO18:=(hO12.out.below HB13.out hO12.out.lt).fr hk3.out hOU
          have hrb18:=hrow18.cellAt (i1 * 2) (by omega)
          rw[(stv_at st i1 (by rw[HSTL.out];omega)).1,HSU.out] at hrb18
          obtain ⟨nn,hnn⟩ :∃q:Nd,{ nu with es:=es' } =q:=⟨_,rfl⟩
          have hnnl:nn.es.length=Lu+1:=by rw[←hnn];exact HESL.out
          have e1:Hid (lu=((nn.lv:Nat):Int)):=by show _=_;rw[←hnn];exact HLVU.out.symm
          have e2:Hid (qu=((nn.sq:Nat):Int)):=by show _=_;rw[←hnn];exact HSQU.out.symm
          have hPw:∀j,w13.heap.size≤j→¬P.has j:=fun j hj q=>by have h1:=S12.out.lt j q;omega
          have hnd18:NdV w18 (OutF (fun j=>(F1 j∨(w7.heap.size≤j∧j<w8.heap.size))∨(w13.heap.size≤j∧j<w18.heap.size)) P) nn (.agg #[.int .i64 lu,.int .i64 qu,.slice A9 (Lu+1) c9]):=by
           refine ⟨A9,c9,by rw[hnnl,e1.out,e2.out],?_,by rw[hnnl];exact own_cap hk2.out,fun _ p hp=>?_,?_,by rw[←hnn];exact hlu16,by rw[←hnn];exact hqu33,by omega⟩
           ·rw[←hnn]
            exact Reads.of_own hk2.out
           ·obtain ⟨q1,q2,q3⟩:=own_ge hk2.out p hp
            exact ⟨⟨.inr ⟨q1,q2⟩,hPw _ q1⟩,q2⟩
           ·rw[←hnn,←HES.out]
            have hk0:=(E64.at (l:=nb.es.drop 4) (fun p hp=>HEB.out p (List.mem_of_mem_drop hp)) 0)
            rw[HK0.out] at hk0
            intro p hp
            rcases List.mem_append.1 hp with q|q
            ·exact HEU.out p (List.mem_of_mem_take q)
            ·rcases List.mem_cons.1 q with q|q
             ·rw[q];exact ⟨hk0.1,hk0.2.1,by show c<_;omega⟩
             ·exact HEU.out p (List.mem_of_mem_drop q)
          have hubl:ub<X2.bl.now.length:=by
           have h1:(X2.hang ub ua (key0,c)).bl.count ub≠0:=HOK2.out.1
           rw[hang_ch HCU.out] at h1
           exact Mp.lt_of_count h1
          have hput:∀w,Below w18.heap.size w18 w→Calls Tryz.prog 127 #[.pointer (some ⟨P.s,0,none⟩),.int .i64 (ub:Int),.agg #[.int .i64 lu,.int .i64 qu,.slice A9 (Lu+1) c9]] w fun e w'=>e=.returned (.tuple #[])∧Hid (StIn w' (fun j=>(F1 j∨(w7.heap.size≤j∧j<w8.heap.size))∨(w13.heap.size≤j∧j<w18.heap.size)) P (X2.put ub nn) ws)∧Hid (Fr (· =P.mp) w18 w'):=fun w hw=>by
           have hh:=hnd18.fr (Fr.of_below (G:=fun _=>False) hw) (fun _ _ q=>q)
           rw[e1.out,e2.out] at hh ⊢
           refine (rput26_any w _ P X2 ws (hS18.keep hw) ub hubl nn A9 (Lu+1) c9 hnnl hh).mono ?_
           rintro e w' ⟨rfl,q1,q2⟩
           exact ⟨rfl,q1,(Fr.of_below hw).trans q2⟩
          have HPUT2:=Hi hput
          obtain ⟨u0,u1,u2,ug0,ug1,ug2⟩:=hk1.out.at3
          have HROW18:=Hi hrow18
          have HO18:=Hi hO18
          have HNN:=Hi hnn
          clear hput hnd18 hS18 hrow18 hO18 hnn hnnl s0 s1 hra13 hrb13 hsz13b hsz12b hUw
          go_wp2_with fail
          go_cut [] (fun wx=>Hid (StIn wx (fun j=>(F1 j∨(w7.heap.size≤j∧j<w8.heap.size))∨(w13.heap.size≤j∧j<w18.heap.size)) P (X2.put ub nn) ws)∧Hid (Fr (· =P.mp) w18 wx))
          case first=>
           as_aux_lemma=>
            have dlt2:(i1:Int)<(N:Int)+1:=by omega
            have dlt3:(0:Int)≤(i1:Int):=by omega
            have ei0:IntKind.i64.wrap (i1:Int)=(i1:Int):=IntWalk.i64_in _ (by omega)
            have eim:IntKind.i64.wrap (((i1+1:Nat):Int) - 1)=(i1:Int):=by rw[IntWalk.i64_in _ (by omega)];omega
            have eim2:IntKind.i64.wrap ((i1:Int)+1 - 1)=(i1:Int):=by rw[IntWalk.i64_in _ (by omega)];omega
            go_region_with (go_at_call 127;go_loud (with_reducible refine (HPUT2.out _ (by first|exact Below.refl _ _|exact (Below.refl _ _).drew)).mono ?_;rintro e w19 ⟨rfl,hs19,hf19⟩))
            all_goals
             go_wp2_with fail
             go_meet
             exact ⟨hs19,hf19⟩
          case rest=>
           obtain ⟨hs19,hf19⟩:=hcut
           go_wp2_with fail
           go_roundw
           case rel=>
            have hsz19:=hf19.out.size
            have hUw:=HU.out
            have hsz13b:=HSZ13.out
            have hBae:=HBa.out
            have hHB:=HB.out
            have h7:=HBB.out.size
            have hrfr:=hr.out.fr.size
            have hX:X2.hang ub ua (key0,c)=X2.put ub nn:=by
             rw[hang_ch HCU.out,←HNN.out,←HES.out,←HA1.out]
            refine ⟨i1,X2.put ub nn,_,rfl,⟨hs19.out,?_,HO18.out.fr hf19.out hmpO,?_,?_,by rw[HSTL.out];omega,fun j hj=>?_,?_⟩⟩
            ·rw[HSTL.out]
             exact own_fr HROW18.out hf19.out (fun b hb e=>hmpg (by simp[Value.ownBlock] at hb;omega))
            ·rw[take_rev st i1 (by rw[HSTL.out];omega),HSU.out,←hX]
             have h1:=HOK2.out
             rw[show st.length - 1 - (i1+1)+1=st.length - 1 - i1 by have:=HSTL.out;omega] at h1
             exact h1
            ·rw[take_rev st i1 (by rw[HSTL.out];omega),HSU.out,←hX]
             have h1:=HRES.out
             unfold St.unw at h1
             rw[hhv.out] at h1
             rw[take_rev st i1 (by rw[HSTL.out];omega),HSU.out] at h1
             exact h1
            ·rcases hj with (q|q)|q
             ·obtain ⟨t1,t2,t3,t4⟩:=hr.out.tight j q
              exact ⟨by omega,t2,t3,t4⟩
             ·exact ⟨by omega,.inr (by omega),by have:=hr.out.old.lt;omega,by omega⟩
             ·exact ⟨by omega,.inr (by omega),by have:=hO12.out.lt;omega,by omega⟩
            ·exact ((HFW12.out.trans (Fr.of_below HB13.out)).trans_ge hk3.out (fun j hj=>by omega)).trans (hf19.out.mono (fun j _ e=>has_mp _ e))
           case measure=>simp[intOf]
end
end Go.Proofs.YtplhdjdkobddnaaGreat
