/- StP -/
import Derived.Test.YtplhdjdkobddnaaGreatTr23
set_option linter.unusedVariables false
set_option maxRecDepth 100000
set_option maxHeartbeats 40000000
namespace Go.Proofs.YtplhdjdkobddnaaGreat
section
open Go.RowKit
attribute [local go_sem] Oper.semAt_some
theorem rt_len {S:St} {b:Nat} {n:Nd} {k:Bool} (hb:S.bl.count b≠0) {d:Nat} {S1:St} (h:S.rt b n k=some (d,S1)):S1.bl.now.length=S.bl.now.length:=by
 unfold St.rt at h
 rcases ht:S.touch b n k with _| ⟨c,S2⟩
 ·rw[ht] at h;cases h
 ·rw[ht] at h
  injection h with h
  injection h with h1 h2
  subst h1 h2
  exact (touch_lt hb ht).2
structure WayR (W wr:World) (F:Nat→Prop) (P:SP) (ws:List Nat) (B:Nat) (k least:Bool) (key:Int) (R:Option (List (Nat × Nat) × St)) (T:St) (st:List (Nat × Nat)) (c:Nat) (m:Nd) (A:Option Addr) (ca:Nat) (F1:Nat→Prop) (v:Value):Prop where
 ok:WayOk k least key m.lv T c m
 res:(T.way k least key m.lv c m).map (fun p=>(st++p.1,p.2))=R
 clt:c<T.bl.now.length
 row:wr.ownsRow W.heap.size 189 2 v (st.length+1) (stv (st++ [(c,0)]))
 box:Cs wr B 129 #[.int .i64 (m.lv:Int),.int .i64 (m.sq:Int),.slice A m.es.length ca]
 nd:NdV wr (OutF F1 P) m (.agg #[.int .i64 (m.lv:Int),.int .i64 (m.sq:Int),.slice A m.es.length ca])
 si:StIn wr F1 P T ws
 tight:∀j,F1 j→j<wr.heap.size∧(F j∨W.heap.size≤j)∧j≠B∧v.ownBlock≠some j
 fr:Fr P.has W wr
 sl:st.length+m.lv≤16
structure EntR (W wr wx:World) (F:Nat→Prop) (P:SP) (B gv:Nat) (lw sq:Int) (A3:Option Addr) (c3 L:Nat) (l:List (Int × Nat)):Prop where
 box:Cs wx B 129 #[.int .i64 lw,.int .i64 sq,.slice A3 L c3]
 rd:Reads wx A3 (ev l)
 cap:L≤c3
 ob:∀p,A3=some p→p.block<wx.heap.size∧¬P.has p.block∧(F p.block∨W.heap.size≤p.block)∧p.block≠B∧p.block≠gv
 fr:Fr (fun j=>j=B) wr wx
theorem ev_set0 (l:List (Int × Nat)) (key:Int) (h:0<l.length):(ev l).set 0 (.int .i64 key)=ev (l.set 0 (key,(l[0]?.getD (0,0)).2)):=by
 rcases l with _| ⟨a,l⟩
 ·simp at h
 ·rfl
theorem own_fr2 {w:World} {base:Nat} {e:TypeId} {size n:Nat} {v:Value} {xs:List Value} (h:w.ownsRow base e size v n xs) {b i:Nat} {u:Value} (hb:v.ownBlock≠some b):(w.setCell ⟨b,i,none⟩ u).ownsRow base e size v n xs:=
 own_fr h (fr_set w b i u) (fun g hg e=>hb (by rw[hg,e]))
structure ChR (wc wx:World) (F1:Nat→Prop) (P:SP) (m2:Nd) (v:Value) (B2:Nat) (A2:Option Addr) (c2:Nat):Prop where
 p:v=.pointer (some ⟨B2,0,none⟩)
 box:Cs wx B2 129 #[.int .i64 (m2.lv:Int),.int .i64 (m2.sq:Int),.slice A2 m2.es.length c2]
 nd:NdV wx (OutF (fun j=>FN F1 wc j∧j≠B2) P) m2 (.agg #[.int .i64 (m2.lv:Int),.int .i64 (m2.sq:Int),.slice A2 m2.es.length c2])
 ge:wc.heap.size≤B2
 below:Below wc.heap.size wc wx
theorem chR_last {wc w w5:World} {F1:Nat→Prop} {P:SP} {m2:Nd} {A2:Option Addr} {c2:Nat} (hF:∀j,F1 j→j<wc.heap.size) (hs:wc.heap.size≤w.heap.size)
  (hnd:NdV w5 (OutF (FN F1 w) P) m2 (.agg #[.int .i64 (m2.lv:Int),.int .i64 (m2.sq:Int),.slice A2 m2.es.length c2])) (hb5:Below wc.heap.size wc w5) :
  ChR wc (w5.alloc (.cells #[.int .i64 (m2.lv:Int),.int .i64 (m2.sq:Int),.slice A2 m2.es.length c2] 129)) F1 P m2 (.pointer (some ⟨w5.heap.size,0,none⟩)) w5.heap.size A2 c2:=by
 have hb:Below w5.heap.size w5 (w5.alloc (.cells #[.int .i64 (m2.lv:Int),.int .i64 (m2.sq:Int),.slice A2 m2.es.length c2] 129)):=(Below.refl _ w5).alloc (Nat.le_refl _) _
 refine ⟨rfl,Cs.new _ _ _,(hnd.wide (fun j hj hlt=>⟨⟨?_,by omega⟩,hj.2⟩)).fr (Fr.of_below (G:=fun _=>False) hb) (fun _ _ q=>q),hb5.size,hb5.trans (hb.mono hb5.size)⟩
 rcases hj.1 with q|q
 ·exact .inl q
 ·exact .inr (Nat.le_trans hs q)
theorem chR_first {wc w w5:World} {F1:Nat→Prop} {P:SP} {m2:Nd} {A2:Option Addr} {c2:Nat} {a b c:Value} (hF:∀j,F1 j→j<wc.heap.size) (hs:wc.heap.size<w.heap.size) (hc:Cs w5 wc.heap.size 129 #[a,b,c])
  (hnd:NdV w5 (OutF (FN F1 w) P) m2 (.agg #[.int .i64 (m2.lv:Int),.int .i64 (m2.sq:Int),.slice A2 m2.es.length c2])) (hb5:Below wc.heap.size wc w5) :
  ChR wc (((w5.setCell ⟨wc.heap.size,0,none⟩ (.int .i64 (m2.lv:Int))).setCell ⟨wc.heap.size,1,none⟩ (.int .i64 (m2.sq:Int))).setCell ⟨wc.heap.size,2,none⟩ (.slice A2 m2.es.length c2)) F1 P m2 (.pointer (some ⟨wc.heap.size,0,none⟩)) wc.heap.size A2 c2:=by
 have hf:=Fr.set (G:=fun j=>j=wc.heap.size) (b:=wc.heap.size) (i:=2) (Fr.set (G:=fun j=>j=wc.heap.size) (b:=wc.heap.size) (i:=1) (Fr.set (G:=fun j=>j=wc.heap.size) (b:=wc.heap.size) (i:=0) (Fr.refl _ w5) (.inl rfl) (.int .i64 (m2.lv:Int))) (.inl rfl) (.int .i64 (m2.sq:Int))) (.inl rfl) (.slice A2 m2.es.length c2)
 refine ⟨rfl,hc.put3 _ _ _,(hnd.wide (Out':=OutF (fun j=>FN F1 wc j∧j≠wc.heap.size) P) (fun j hj hlt=>⟨?_,hj.2⟩)).fr hf (fun j hj e=>hj.1.2 e),Nat.le_refl _,hf.below2 hb5 (Nat.le_refl _)⟩
 rcases hj.1 with q|q
 ·exact ⟨.inl q,by have:=hF j q;omega⟩
 ·exact ⟨.inr (by omega),by omega⟩
theorem zbox {wc w5:World} (h:Below ((wc.alloc (.cells #[.int .i64 0,.int .i64 0,.slice none 0 0] 129)).drew).heap.size ((wc.alloc (.cells #[.int .i64 0,.int .i64 0,.slice none 0 0] 129)).drew) w5):Cs w5 wc.heap.size 129 #[.int .i64 0,.int .i64 0,.slice none 0 0]:=
 Cs.below (w:=(wc.alloc (.cells #[.int .i64 0,.int .i64 0,.slice none 0 0] 129)).drew) (Cs.new wc _ _) h (by show wc.heap.size<(wc.alloc _).heap.size;simp)
theorem set_get (l:List (Int × Nat)) (i:Nat) (h:i<l.length):l.set i ((l[i]?.getD (0,0)).1,(l[i]?.getD (0,0)).2)=l:=by
 rw[getD_mem h]
 exact List.set_getElem_self h
theorem rway26_any (W:World) (F:Nat→Prop) (P:SP) (S:St) (ws:List Nat) (h:StIn W F P S ws) (r:Nat) (n:Nd) (hn:S.load r=some n) (k least:Bool) (key:Int) (hkey: -9223372036854775808≤key∧key≤9223372036854775807) (hp:TouchPre S r n k) (hw:∀c T1,S.rt r n k=some (c,T1)→c<T1.bl.now.length∧WayOk k least key n.lv T1 c n) :
  Calls Tryz.prog 124 #[.pointer (some ⟨P.s,0,none⟩),.int .i64 (r:Int),.int .i64 key,.bool k,.bool least] W fun e w'=>Fr P.has W w'∧((S.wayR k least key r n=none∧e=.returned (.tuple #[.slice none 0 0,.int .i64 14]))∨∃st S1 v,S.wayR k least key r n=some (st,S1)∧e=.returned (.tuple #[v,.int .i64 0])∧StIn w' (fun j=>FN F W j∧v.ownBlock≠some j) P S1 ws∧w'.ownsRow W.heap.size 189 2 v st.length (stv st)):=by
 have hrl:=Mp.lt_of_count hp.c0
 have hlt:=Hi h.lt
 have H:=Hi (h.wide (F':=fun j=>F j∧j<W.heap.size) (fun j h1 h2=>⟨h1,h2⟩) (fun j hj=>⟨h.inF j hj,h.lt j hj⟩))
 have hps:=h.cs.lt
 have HP:=Hi hp
 have HW:=Hi hw
 obtain ⟨R,hR⟩ :∃R,S.wayR k least key r n=R:=⟨_,rfl⟩
 rw[hR]
 have HR:=Hi hR
 clear h hp hw hR
 go_enter Tryz.func124,Tryz.ntmps124
 go_wp2_with fail
 refine (rload26_any W _ P S ws H.out r hrl n hn).mono ?_
 rintro e w1 ⟨v,rfl,hnd,hb1⟩
 obtain ⟨A1,c1,rfl⟩:=hnd.val
 obtain ⟨ml,hml⟩ :∃ml,((n.lv:Nat):Int)=ml:=⟨_,rfl⟩
 obtain ⟨ms,hms⟩ :∃ms,((n.sq:Nat):Int)=ms:=⟨_,rfl⟩
 have HML:=Hi hml
 have HMS:=Hi hms
 rw[hml,hms] at hnd ⊢
 have HND:=Hi hnd
 have hq1:=hb1.size
 clear hnd hml hms
 go_wp2_with fail
 have hC2:=Cs.new w1 129 #[.int .i64 ml,.int .i64 ms,.slice A1 n.es.length c1]
 have hb2:Below w1.heap.size w1 (w1.alloc (.cells #[.int .i64 ml,.int .i64 ms,.slice A1 n.es.length c1] 129)):=(Below.refl _ w1).alloc (Nat.le_refl _) _
 have hsz2:(w1.alloc (.cells #[.int .i64 ml,.int .i64 ms,.slice A1 n.es.length c1] 129)).heap.size=w1.heap.size+1:=by simp
 generalize (w1.alloc (.cells #[.int .i64 ml,.int .i64 ms,.slice A1 n.es.length c1] 129))=w2 at hC2 hb2 hsz2 ⊢
 obtain ⟨B,hB⟩ :∃B,w1.heap.size=B:=⟨_,rfl⟩
 rw[hB] at hC2 hsz2 ⊢
 obtain ⟨y0,y1,y2,g0,g1,g2⟩:=hC2.at3
 have HC2:=Hi hC2
 have hbb:Below W.heap.size W w2:=hb1.trans (hb2.mono hq1)
 have HF1:Hid (StIn w2 (fun j=>(F j∨W.heap.size≤j)∧j<B) P S ws):=(H.out.keep hbb).wide (fun j hj _=>⟨.inl hj.1,by omega⟩) (fun j hj=>⟨.inl (H.out.inF j hj).1,by have:=hlt.out j hj;omega⟩)
 have HND2:Hid (NdV w2 (OutF (fun j=>(F j∨W.heap.size≤j)∧j<B) P) n (.agg #[.int .i64 (n.lv:Int),.int .i64 (n.sq:Int),.slice A1 n.es.length c1])):=by
  show NdV _ _ _ _
  rw[HML.out,HMS.out]
  refine (HND.out.wide (Out':=OutF (fun j=>(F j∨W.heap.size≤j)∧j<B) P) (fun j hj hlt=>⟨⟨?_,by omega⟩,hj.2⟩)).fr (Fr.of_below (G:=fun _=>False) hb2) (fun _ _ q=>q)
  rcases hj.1 with q|q
  ·exact .inl q.1
  ·exact .inr q
 have HBB:=Hi hbb
 clear hbb HND hC2 H hb1 hb2
 have hrt:=rrt_any w2 _ P S ws HF1.out r n k HP.out A1 n.es.length c1 rfl HND2.out
 rw[HML.out,HMS.out] at hrt
 go_wp2_with fail
 refine hrt.mono ?_
 rintro e w3 ⟨hf3,⟨hno,rfl⟩| ⟨d,S1,hrq,rfl,hs1⟩⟩
 ·have hRn:R=none:=by
   rw[←HR.out]
   unfold St.wayR
   rw[hno]
  have HRN:=Hi hRn
  have F3:=Hi hf3
  clear hRn hno hf3 hrt
  go_wp2_with fail
  go_ret2
  exact ⟨(Fr.of_below HBB.out).trans F3.out,.inl ⟨HRN.out,rfl⟩⟩
 ·have F3:=Hi hf3
  have hB3:B<w3.heap.size:=by have:=hf3.size;omega
  have HC3:=Hi (HC2.out.fr hf3 (fun q=>by have:=hlt.out B q;omega))
  have HND3:=Hi (HND2.out.fr hf3 (fun j hj q=>hj.2 q))
  have HS3:=Hi hs1
  obtain ⟨hd1,hd2⟩:=HW.out d S1 hrq
  have HD2:=Hi hd2
  have hRe:(S1.way k least key n.lv d n).map (fun p=>([]++p.1,p.2))=R:=by
   rw[←HR.out]
   unfold St.wayR
   rw[hrq]
   dsimp only
   rcases S1.way k least key n.lv d n with _| ⟨a,b⟩
   ·rfl
   ·rfl
  have HRE:=Hi hRe
  clear hf3 hs1 hrt hrq hd2 hRe y0 y1 y2 g0 g1 g2
  go_wp2_with fail
  have hown4:=World.ownsRow_lit (base:=W.heap.size) (e:=189) (size:=2) w3 #[.int .i64 (d:Int),.int .i64 0] 1 (by omega) (by simp only[maxLen];omega) rfl
  have hb4:Below w3.heap.size w3 (w3.alloc (.cells #[.int .i64 (d:Int),.int .i64 0] 189)):=(Below.refl _ w3).alloc (Nat.le_refl _) _
  generalize (w3.alloc (.cells #[.int .i64 (d:Int),.int .i64 0] 189))=w4 at hown4 hb4 ⊢
  have hfb:Fr P.has W w4:=((Fr.of_below HBB.out).trans F3.out).trans (Fr.of_below hb4)
  have HR4:Hid (WayR W w4 F P ws B k least key R S1 [] d n A1 c1 (fun j=>(F j∨W.heap.size≤j)∧j<B) (.slice (some ⟨w3.heap.size,0,none⟩) 1 1)):=by
   have hc3:=HC3.out.below hb4 hB3
   rw[←HML.out,←HMS.out] at hc3
   exact ⟨HD2.out,HRE.out,hd1,hown4,hc3,HND3.out.fr (Fr.of_below (G:=fun _=>False) hb4) (fun _ _ q=>q),HS3.out.keep hb4,fun j hj=>⟨by have:=hb4.size;omega,hj.1,by omega,by simp[Value.ownBlock];omega⟩,hfb,by have:=HP.out.lv;simp;omega⟩
  have hB4:=hb4.size
  clear hown4 hb4 HC3 HND3 HS3 HD2 HRE hfb HND2 HF1 HC2
  go_loopw [14,15] (fun s14 s15 wr=>∃(T:St) (st:List (Nat × Nat)) (c:Nat) (m:Nd) (A:Option Addr) (ca:Nat) (F1:Nat→Prop) (v:Value),s14=.int .i64 c∧s15=v∧Hid (WayR W wr F P ws B k least key R T st c m A ca F1 v)) (fun _ _ wr=>cellN wr B 0)
  case atStart=>exact ⟨S1,[],d,n,A1,c1,_,_,rfl,rfl,HR4⟩
  case round=>
   obtain ⟨T,st,c,m,A,ca,F1,v,rfl,rfl,hr⟩:=hrel
   obtain ⟨gv,cv,rfl,hbv,hgv⟩:=hr.out.row.form (by omega)
   have hst:=hr.out.si
   have x1:wr.cell? ⟨P.s,1,none⟩=some (.pointer (some ⟨P.b.p,0,none⟩)):=hst.cs.cell 1
   obtain ⟨y0,y1,y2,g0,g1,g2⟩:=hr.out.box.at3
   have hBr:=hr.out.box.lt
   have HCN:=Hi (cellN_of hr.out.box)
   obtain ⟨-,-,-,hrd,hcap,hob,hE,h16,hsq,hl8⟩:=hr.out.nd.parts
   have HRD:=Hi hrd
   have HE:=Hi hE
   have HOB:=Hi hob
   obtain ⟨N,hN⟩ :∃N,st.length=N:=⟨_,rfl⟩
   have HN:=Hi hN
   obtain ⟨L,hL⟩ :∃L,m.es.length=L:=⟨_,rfl⟩
   have HL:=Hi hL
   have hok:=hr.out.ok
   have hres:=hr.out.res
   obtain ⟨lv,hlv⟩ :∃l,m.lv=l:=⟨_,rfl⟩
   obtain ⟨sq,hqq⟩ :∃q,m.sq=q:=⟨_,rfl⟩
   have HLV:=Hi hlv
   have HSQ:=Hi hqq
   rw[hL] at hcap hl8 y2
   rw[hlv] at y0 h16 hok hres
   rw[hqq] at y1 hsq
   rw[hN]
   have hsl:N≤16:=by have:=hr.out.sl;omega
   have HST:=Hi hst
   clear hst hrd hE hob hN hL hlv hqq
   have hfd:∀w,Below wr.heap.size wr w→Calls Tryz.prog 125 #[.agg #[.int .i64 (lv:Int),.int .i64 (sq:Int),.slice A L ca],.int .i64 key] w fun e w'=>e=.returned (.tuple #[.int .i64 (findN m.es key),.bool (exactN m.es key)])∧Below w.heap.size w w':=fun w hw=>
    refFind_any lv sq key A ca L m.es w HL.out (HRD.out.keep hw) (by omega)
   have HFD:=Hi hfd
   clear hfd
   obtain ⟨i0,hi0,hz0,hz1,hz2⟩:=info_parts entry_info
   cases lv with
   |zero=>
    have hRs:R=some (st++ [(c,0)],T):=by rw[←hres];rfl
    have HRS:=Hi hRs
    clear hok hres hRs HFD
    go_wp2_with fail
    go_ret2
    refine ⟨hr.out.fr,.inr ⟨_,_,_,HRS.out,rfl,HST.out.wide (fun j hj _=>?_) (fun j hj=>?_),?_⟩⟩
    ·obtain ⟨-,t2,t3,t4⟩:=hr.out.tight j hj
     exact ⟨t2,by rw[HN.out] at t4;exact t4⟩
    ·obtain ⟨-,t2,t3,t4⟩:=hr.out.tight j (HST.out.inF j hj)
     exact ⟨t2,by rw[HN.out] at t4;exact t4⟩
    ·rw[List.length_append]
     have:=hr.out.row
     rw[HN.out] at this ⊢
     exact this
   |succ l=>
    unfold WayOk at hok
    obtain ⟨hml,hi,hc,m2,hu,hld,hm2l,hm2s,hpre,hnext⟩:=hok
    have dl:(0:Int)<((l+1:Nat):Int):=by omega
    have hL0:¬(L:Int)=0:=by
     have h2:0<m.es.length:=by omega
     rw[HL.out] at h2
     omega
    rw[HL.out] at hi
    obtain ⟨lw,hlw⟩ :∃lw:Int,((l+1:Nat):Int)=lw:=⟨_,rfl⟩
    rw[hlw] at y0 dl
    have HLW:=Hi hlw
    have HFD2:∀w,Below wr.heap.size wr w→Calls Tryz.prog 125 #[.agg #[.int .i64 lw,.int .i64 (sq:Int),.slice A L ca],.int .i64 key] w fun e w'=>e=.returned (.tuple #[.int .i64 (findN m.es key),.bool (exactN m.es key)])∧Below w.heap.size w w':=by rw[←hlw];exact HFD.out
    have HFD3:=Hi HFD2
    have HPRE:=Hi hpre
    have HNX:=Hi hnext
    have HLD:=Hi hld
    have HM2L:=Hi hm2l
    clear hm2l
    have HRES:=Hi hres
    clear hlw HFD HFD2 hpre hnext hld hres x1
    obtain ⟨f,hf⟩ :∃f,findN m.es key=f:=⟨_,rfl⟩
    have HF:=Hi hf
    rw[hf] at hi
    go_wp2_with fail
    refine (HFD3.out wr (Below.refl _ wr)).mono ?_
    rintro e w5 ⟨rfl,hb5⟩
    rw[hf]
    clear hf
    have hbox5:=Hi (hr.out.box.below hb5 hBr)
    obtain ⟨z0,z1,z2,zg0,zg1,zg2⟩:=hbox5.out.at3
    rw[HLV.out] at z0
    rw[HL.out] at z2
    rw[HSQ.out] at z1
    obtain ⟨i,hfi⟩ :∃i,f.toNat=i:=⟨_,rfl⟩
    rw[hfi] at hi
    obtain ⟨u,hu⟩ :∃u,(m.es[i]?.getD (0,0)).2=u:=⟨_,rfl⟩
    have HU:=Hi hu
    obtain ⟨x,hx⟩ :∃x,(if f<0∧least=true then key else (m.es[i]?.getD (0,0)).1)=x:=⟨_,rfl⟩
    have HX:=Hi hx
    have HFI:=Hi hfi
    clear hu hx hfi
    have hrd5:=Hi (HRD.out.keep hb5)
    have hob5:Hid (∀p,A=some p→p.block<w5.heap.size∧¬P.has p.block∧(F p.block∨W.heap.size≤p.block)∧p.block≠B∧p.block≠gv):=fun p hp=>by
     obtain ⟨⟨q1,q2⟩,q3⟩:=HOB.out (fun e=>by have:=HL.out;rw[e] at this;simp at this;omega) p hp
     obtain ⟨-,t2,t3,t4⟩:=hr.out.tight _ q1
     exact ⟨Nat.lt_of_lt_of_le q3 hb5.size,q2,t2,t3,fun e=>t4 (by rw[e];rfl)⟩
    have hsame:Hid (¬(f<0∧least=true)→EntR W wr w5 F P B gv lw sq A ca L (m.es.set i (x,u))):=fun hno=>by
     have:m.es.set i (x,u)=m.es:=by
      rw[←HX.out,if_neg hno,←HU.out]
      exact set_get _ _ (by rw[HL.out];exact hi)
     rw[this]
     refine ⟨?_,hrd5.out,by omega,hob5.out,Fr.of_below hb5⟩
     have:=hbox5.out
     rw[HLV.out,HSQ.out,HL.out,HLW.out] at this
     exact this
    go_upto_if 59 with (fail)
    go_cut [16] (fun s16 wx=>∃(A3:Option Addr) (c3:Nat),s16=.int .i64 (i:Int)∧Hid (EntR W wr wx F P B gv lw sq A3 c3 L (m.es.set i (x,u))))
    case first=>
     by_cases hf0:f<0
     ·cases least
      ·go_wp2_with fail
       go_meet
       refine ⟨A,ca,?_,hsame.out (fun q=>by cases q.2)⟩
       rw[←HFI.out,Int.toNat_of_nonpos (by omega)]
       rfl
      ·go_upto_region 15 with (fail)
       iterate 7 go_step
       at_builtin
       refine wpList_append_reads _ (by rfl) _ _ _ (by rfl) w5.heap.size 94 i0 _ 2 16 Tryz.underlying87 hi0 hz0 hz1 hz2 (by rfl) (by omega) (.slice none 0 0) 0 [] (by rfl) (World.ownsRow_nil _ _ _ _) A L ca (ev m.es) (by rfl) (by rw[ev_length,HL.out]) hrd5.out (ev_one _) (by simp only[maxLen];omega) (by omega) (by simp) ?_
       intro v1 w6 hown hg1 hat1
       have hb6:Below w5.heap.size w5 w6:=(Below.refl _ w5).grown hg1 (by simp) (by intro k hk;simp[Value.ownBlock] at hk)
       simp only[Nat.zero_add,List.nil_append] at hown
       obtain ⟨g,cap,rfl,hg,hlt6⟩:=hown.form (by omega)
       have hc6:=hown.cellAt 0 (by omega)
       have hki:=ev_key m.es 0 (by rw[HL.out];omega)
       rw[Nat.zero_mul] at hki
       rw[hki] at hc6
       have hf6:=hown.frozenAt 0
       have hbox6:=Hi (hbox5.out.below hb6 hbox5.out.lt)
       obtain ⟨q0,q1,q2,qg0,qg1,qg2⟩:=hbox6.out.at3
       have hgB:¬g=B:=by (have:=hbox5.out.lt;omega)
       have hown6:=Hi hown
       have hB6:=Hi hb6
       have i0e:i=0:=by rw[←HFI.out];omega
       clear hown hb6 hg1 hat1 hki
       go_wp2_with fail
       go_meet
       subst i0e
       refine ⟨some ⟨g,0,none⟩,cap,rfl,?_⟩
       have hs1:=(own_fr2 hown6.out (b:=B) (i:=2) (u:=.slice (some ⟨g,0,none⟩) L cap) (by simp[Value.ownBlock];exact hgB)).stored 0 (.int .i64 key)
       have hx1:x=key:=by rw[←HX.out,if_pos ⟨by omega,trivial⟩]
       have hse:(ev m.es).set 0 (.int .i64 key)=ev (m.es.set 0 (x,u)):=by
        rw[hx1,←HU.out]
        exact ev_set0 _ _ (by rw[HL.out];omega)
       have hr1:=hs1.1
       rw[hse] at hr1
       have hbx:=hbox6.out.set3 (u:=.slice (some ⟨g,0,none⟩) L cap)
       have hf7:Fr (fun j=>j=B) w6 (w6.setCell ⟨B,2,none⟩ (.slice (some ⟨g,0,none⟩) L cap)):=fr_set _ _ _ _
       have hf8:Fr (fun j=>j=g) (w6.setCell ⟨B,2,none⟩ (.slice (some ⟨g,0,none⟩) L cap)) ((w6.setCell ⟨B,2,none⟩ (.slice (some ⟨g,0,none⟩) L cap)).setCell ⟨g,0,none⟩ (.int .i64 key)):=fr_set _ _ _ _
       have h56:=hb5.size
       have hWr:=hr.out.fr.size
       refine ⟨?_,Reads.of_own hr1,own_cap hr1,fun p hp=>?_,?_⟩
       ·have:=hbx.fr hf8 (fun e=>hgB e.symm)
        rw[HLV.out,HSQ.out,HLW.out] at this
        exact this
       ·injection hp with hp
        subst hp
        refine ⟨by simp;omega,fun q=>?_,.inr (by show _≤g;omega),hgB,by show g≠gv;omega⟩
        have h1:=hlt.out _ q
        change g<_ at h1
        omega
       ·have hfa:Fr (fun j=>j=B) wr w6:=(Fr.of_below hb5).trans (Fr.of_below hB6.out)
        exact (hfa.trans hf7).trans_ge hf8 (fun j hj=>by omega)
     ·go_wp2_with fail
      go_meet
      refine ⟨A,ca,?_,hsame.out (fun q=>by have:=q.1;omega)⟩
      rw[←HFI.out,Int.toNat_of_nonneg (by omega)]
    case rest=>
     obtain ⟨A3,c3,rfl,hE3⟩:=hcut
     obtain ⟨wa,rfl⟩ :∃wa,wa=wc:=⟨wc,rfl⟩
     obtain ⟨es1,hes1⟩ :∃es1,m.es.set i (x,u)=es1:=⟨_,rfl⟩
     rw[hes1] at hE3
     have hl1:es1.length=L:=by rw[←hes1,List.length_set];exact HL.out
     have hu1:(es1[i]?.getD (0,0)).2=u:=by rw[←hes1,List.getElem?_set_self (by rw[HL.out];exact hi)];rfl
     have hx1:(es1[i]?.getD (0,0)).1=x:=by rw[←hes1,List.getElem?_set_self (by rw[HL.out];exact hi)];rfl
     have hd1:∀d:Nat,es1.set i (x,d)=m.es.set i (x,d):=fun d=>by rw[←hes1,List.set_set]
     have HD1:=Hi hd1
     have HX1:=Hi hx1
     have HL1:=Hi hl1
     have HES1:=Hi hes1
     obtain ⟨ab,ao,hA3,hal,hcl⟩:=hE3.out.rd.e (by rw[hl1];omega)
     subst hA3
     have hcv:=(hcl i (by rw[hl1];exact hi)).2
     rw[hu1] at hcv
     have hst1:Hid (StIn wa F1 P T ws):=HST.out.fr hE3.out.fr (fun j hj e=>(hr.out.tight j hj).2.2.1 e)
     obtain ⟨b0,b1,b2,bg0,bg1,bg2⟩:=hE3.out.box.at3
     have hBx:=hE3.out.box.lt
     have hulen:=HLD
     rw[HF.out,HFI.out,HU.out] at hulen
     have hub:Hid (u<T.bl.now.length∧T.load u=some m2):=by
      have h1:=hulen.out
      have h2:(m.es[(findN m.es key).toNat]?.getD (0,0)).2<T.bl.now.length:=by assumption
      rw[HF.out,HFI.out,HU.out] at h2
      exact ⟨h2,h1⟩
     have hcc:∀w,Below wa.heap.size wa w→Calls Tryz.prog 123 #[.pointer (some ⟨P.s,0,none⟩),.agg #[.int .i64 lw,.int .i64 (sq:Int),.slice (some ⟨ab,ao,none⟩) L c3],.int .u64 (u:Int)] w fun e w'=>∃(v:Option Addr) (c2:Nat),e=.returned (.tuple #[.int .i64 (u:Int),.agg #[.int .i64 (m2.lv:Int),.int .i64 (m2.sq:Int),.slice v m2.es.length c2],.int .i64 0])∧Hid (NdV w' (OutF (FN F1 w) P) m2 (.agg #[.int .i64 (m2.lv:Int),.int .i64 (m2.sq:Int),.slice v m2.es.length c2]))∧Hid (Below wa.heap.size wa w')∧Hid (Below w.heap.size w w'):=fun w hw=>by
      have hs:=hst1.out.keep hw
      rw[←HLW.out]
      refine (rchild26_any w _ P T ws hs (l+1) sq (some ⟨ab,ao,none⟩) L c3 u hub.out.1 m2 hub.out.2 (by have:=HM2L.out;omega) (by rw[←HSQ.out];exact hm2s)).mono ?_
      rintro e w' ⟨v,rfl,hnd,hb⟩
      obtain ⟨A2,c2,rfl⟩:=hnd.val
      exact ⟨A2,c2,rfl,hnd,hw.trans (hb.mono hw.size),hb⟩
     have HCH:=Hi hcc
     clear hcc hcl y0 y1 y2 z0 z1 z2 zg0 zg1 zg2 g0 g1 g2 hes1 hl1 hu1 hx1 hd1 hsame
     go_wp2_with fail
     have hFw:Hid (∀j,F1 j→j<wa.heap.size):=fun j hj=>Nat.lt_of_lt_of_le (hr.out.tight j hj).1 hE3.out.fr.size
     go_cut [18,19,20] (fun s18 s19 s20 wx=>s18=.int .i64 (u:Int)∧s20=.int .i64 0∧∃(B2:Nat) (A2:Option Addr) (c2:Nat),Hid (ChR wa wx F1 P m2 s19 B2 A2 c2))
     case first=>
      go_region_with (go_at_call 123;go_loud (with_reducible refine (HCH.out _ (by first|exact Below.refl _ _|exact (Below.refl _ _).drew|exact ((Below.refl _ _).drew).alloc (Nat.le_refl _) _|exact ((Below.refl _ _).alloc (Nat.le_refl _) _).drew)).mono ?_;rintro e w5 ⟨A2,c2,rfl,hnd5,hb5,hbw5⟩;(first|(have hz:=Hi (zbox hbw5.out);obtain ⟨z0,z1,z2,zg0,zg1,zg2⟩:=hz.out.at3)|skip)))
      all_goals
       go_wp2_with fail
       go_meet
       first
        |(have hs1:wa.heap.size<((wa.alloc (.cells #[.int .i64 0,.int .i64 0,.slice none 0 0] 129)).drew).heap.size:=(by show wa.heap.size<(wa.alloc _).heap.size;simp);have hq:=chR_first hFw.out hs1 hz.out hnd5.out hb5.out;exact ⟨rfl,rfl,_,_,_,hq⟩)
        |(have hq:=chR_last hFw.out (show wa.heap.size≤wa.drew.heap.size from Nat.le_refl _) hnd5.out hb5.out;exact ⟨rfl,rfl,_,_,_,hq⟩)
     case rest=>
      obtain ⟨rfl,rfl,B2,A2,c2,hR2⟩:=hcut
      have hp2:=hR2.out.p
      subst hp2
      have hs2:=hR2.out.below.size
      have hwa:=hE3.out.fr.size
      have hBwa:B<wa.heap.size:=by omega
      have hB2B:¬B2=B:=by have:=hR2.out.ge;omega
      have hB2g:¬B2=gv:=by have:=hR2.out.ge;omega
      obtain ⟨t0,t1,t2,tg0,tg1,tg2⟩:=hR2.out.box.at3
      have hbx2:=Hi (hE3.out.box.below hR2.out.below hBwa)
      have hrd2:=Hi (hE3.out.rd.keep hR2.out.below)
      have HSF:Hid (StIn wc (fun j=>FN F1 wa j∧j≠B2) P T ws):=(hst1.out.keep hR2.out.below).wide (fun j hj _=>⟨.inl hj,by have:=hFw.out j hj;have:=hR2.out.ge;omega⟩) (fun j hj=>⟨.inl (hst1.out.inF j hj),by have:=hFw.out j (hst1.out.inF j hj);have:=hR2.out.ge;omega⟩)
      have hpr:=HPRE.out
      rw[HF.out,HFI.out,HU.out] at hpr
      have hrt:=rrt_any wc _ P T ws HSF.out u m2 k hpr A2 m2.es.length c2 rfl hR2.out.nd
      have hB2w:=hR2.out.box.lt
      obtain ⟨ml2,hml2⟩ :∃q:Int,((m2.lv:Nat):Int)=q:=⟨_,rfl⟩
      obtain ⟨ms2,hms2⟩ :∃q:Int,((m2.sq:Nat):Int)=q:=⟨_,rfl⟩
      obtain ⟨L2,hL2⟩ :∃q,m2.es.length=q:=⟨_,rfl⟩
      have HM2:=Hi hml2
      have HS2:=Hi hms2
      have HL2:=Hi hL2
      rw[hml2,hms2,hL2] at hrt
      rw[hml2] at t0
      rw[hms2] at t1
      rw[hL2] at t2
      have HB0:=Hi hE3.out
      clear hml2 hms2 hL2 b0 b1 b2 bg0 bg1 bg2 hE3 HCH
      have hres2:Hid (match T.rt u m2 k with
        |none=>R=none
        |some (d,T2)=>((T2.put c { m with es:=m.es.set i (x,d) }).way k least key l d m2).map (fun p=>((st++ [(c,i)])++p.1,p.2))=R∧d<T2.bl.now.length∧WayOk k least key l (T2.put c { m with es:=m.es.set i (x,d) }) d m2∧c<T2.bl.now.length):=by
       have h1:=HRES.out
       have h2:=HNX.out
       have h3:=HLD.out
       unfold St.way at h1
       rw[HF.out,HFI.out,HU.out] at h1 h2 h3
       rw[h3] at h1
       dsimp only at h1
       show match T.rt u m2 k with|none=>_|some (d,T2)=>_
       rcases hq:T.rt u m2 k with _| ⟨d,T2⟩
       ·rw[hq] at h1
        exact h1.symm
       ·rw[hq] at h1
        dsimp only at h1 ⊢
        obtain ⟨h4,h5⟩:=h2 d T2 hq
        rw[HX.out] at h1 h5
        refine ⟨?_,h4,h5,?_⟩
        rotate_left
        ·rw[rt_len hpr.c0 hq];assumption
        rw[←h1]
        rcases (T2.put c { m with es:=m.es.set i (x,d) }).way k least key l d m2 with _| ⟨a,b⟩
        ·rfl
        ·simp
      clear hpr
      go_wp2_with fail
      refine hrt.mono ?_
      rintro e w7 ⟨hf7,⟨hno,rfl⟩| ⟨d2,T2,hrq,rfl,hs7⟩⟩
      ·have hRN:Hid (R=none):=by
        have:=hres2.out
        rw[hno] at this
        exact this
       have F7:=Hi hf7
       clear hf7 hno hrt
       go_wp2_with fail
       go_ret2
       refine ⟨?_,.inl ⟨hRN.out,rfl⟩⟩
       exact ((hr.out.fr.trans_ge HB0.out.fr (fun j hj=>by omega)).trans (Fr.of_below hR2.out.below)).trans F7.out
      ·have F7:=Hi hf7
       have HS7:=Hi hs7
       have HR7:Hid (((T2.put c { m with es:=m.es.set i (x,d2) }).way k least key l d2 m2).map (fun p=>((st++ [(c,i)])++p.1,p.2))=R∧d2<T2.bl.now.length∧WayOk k least key l (T2.put c { m with es:=m.es.set i (x,d2) }) d2 m2∧c<T2.bl.now.length):=by
        have:=hres2.out
        rw[hrq] at this
        exact this
       clear hf7 hs7 hrq hrt hres2
       have hbx7:=Hi (hbx2.out.fr F7.out (fun q=>by have:=hlt.out B q;omega))
       have hrd7:=Hi (hrd2.out.fr F7.out (fun _ p hp q=>(HB0.out.ob p hp).2.1 q))
       have hc27:=Hi (hR2.out.box.fr F7.out (fun q=>by have:=hlt.out B2 q;have:=hR2.out.ge;have:=hr.out.fr.size;omega))
       obtain ⟨y0,y1,y2,g0,g1,g2⟩:=hbx7.out.at3
       clear t0 t1 t2 tg0 tg1 tg2
       go_upto_region 23 with (fail)
       iterate 7 go_step
       at_builtin
       refine wpList_append_reads _ (by rfl) _ _ _ (by rfl) w7.heap.size 94 i0 _ 2 16 Tryz.underlying87 hi0 hz0 hz1 hz2 (by rfl) (by omega) (.slice none 0 0) 0 [] (by rfl) (World.ownsRow_nil _ _ _ _) (some ⟨ab,ao,none⟩) L c3 (ev es1) (by rfl) (by rw[ev_length,HL1.out]) hrd7.out (ev_one _) (by simp only[maxLen];omega) (by omega) (by simp) ?_
       intro v1 w8 hown hg1 hat1
       have hb8:Below w7.heap.size w7 w8:=(Below.refl _ w7).grown hg1 (by simp) (by intro k hk;simp[Value.ownBlock] at hk)
       simp only[Nat.zero_add,List.nil_append] at hown
       obtain ⟨g,cap,rfl,hg,hlt8⟩:=hown.form (by omega)
       have hc8:=hown.cellAt (i * 2+1) (by omega)
       rw[ev_val es1 i (by rw[HL1.out];exact hi)] at hc8
       have hf8:=hown.frozenAt (i * 2+1)
       have hbx8:=Hi (hbx7.out.below hb8 hbx7.out.lt)
       have hc28:=Hi (hc27.out.below hb8 hc27.out.lt)
       have hS8:=Hi (HS7.out.keep hb8)
       obtain ⟨q0,q1,q2,qg0,qg1,qg2⟩:=hbx8.out.at3
       have hgB:¬g=B:=by
        have:=hbx7.out.lt
        omega
       have hgB2:¬g=B2:=by
        have:=hc27.out.lt
        omega
       have hsz7:=F7.out.size
       have hsz8:=hb8.size
       have hggv:¬g=gv:=by omega
       have hown8:=Hi hown
       have hB8:=Hi hb8
       have ec:IntKind.u64.wrap (d2:Int)=(d2:Int):=by
        have:=HR7.out.2.1
        have:=HS7.out.mb.lt
        rw[IntKind.wrap_u64]
        omega
       clear hown hb8 hg1 hat1 y0 y1 y2 g0 g1 g2
       go_upto_region 25 with (fail)
       have hgvB:¬gv=B:=cs_own_ne hr.out.box hr.out.row (by decide) gv rfl
       have hgvP:¬P.has gv:=fun q=>by have:=hlt.out _ q;omega
       have hr1:=(own_fr2 hown8.out (b:=B) (i:=2) (u:=.slice (some ⟨g,0,none⟩) L cap) (by simp[Value.ownBlock];exact hgB)).stored (i * 2+1) (.int .u64 (d2:Int))
       have hr2:=hr1.1
       rw[ev_set es1 i d2 (by rw[HL1.out];exact hi),HX1.out,HD1.out] at hr2
       have hbx9:=hbx8.out.set3 (u:=.slice (some ⟨g,0,none⟩) L cap)
       have hf9:Fr (fun j=>j=B) w8 (w8.setCell ⟨B,2,none⟩ (.slice (some ⟨g,0,none⟩) L cap)):=fr_set _ _ _ _
       have hf10:Fr (fun j=>j=g) (w8.setCell ⟨B,2,none⟩ (.slice (some ⟨g,0,none⟩) L cap)) ((w8.setCell ⟨B,2,none⟩ (.slice (some ⟨g,0,none⟩) L cap)).setCell ⟨g,i * 2+1,none⟩ (.int .u64 (d2:Int))):=fr_set _ _ _ _
       have hF1B:∀j,FN F1 wa j→j≠B:=fun j hj=>by
        rcases hj with q|q
        ·exact (hr.out.tight j q).2.2.1
        ·omega
       have hS9:=((((HS7.out.wide (F':=fun j=>(FN F1 wa j∧j≠B2)∧j<w7.heap.size) (fun j hj hl=>⟨hj,hl⟩) (fun j hj=>⟨HS7.out.inF j hj,HS7.out.lt j hj⟩)).keep hB8.out).fr hf9 (fun j hj=>hF1B j hj.1.1)).fr hf10 (fun j hj e=>by omega)).wide (F':=fun j=>((FN F1 wa j∧j≠B2)∧j<w7.heap.size)∨j=g) (fun j hj _=>.inl hj) (fun j hj=>.inl ⟨HS7.out.inF j hj,HS7.out.lt j hj⟩)
       have hPg:¬P.has g:=fun q=>by have:=HS7.out.lt g q;omega
       have hbx10:=hbx9.fr hf10 (fun e=>hgB e.symm)
       have hc210:=(hc28.out.fr hf9 hB2B).fr hf10 (fun e=>hgB2 e.symm)
       have row8:=own_fr (own_fr (own_fr (own_fr hr.out.row HB0.out.fr (fun b hb e=>hgvB (by simp[Value.ownBlock] at hb;omega))) (Fr.of_below (G:=fun _=>False) hR2.out.below) (fun _ _ q=>q)) F7.out (fun b hb q=>hgvP (by simp[Value.ownBlock] at hb;rw[hb];exact q))) (Fr.of_below (G:=fun _=>False) hB8.out) (fun _ _ q=>q)
       have row10:=own_fr (own_fr row8 hf9 (fun b hb e=>hgvB (by simp[Value.ownBlock] at hb;omega))) hf10 (fun b hb e=>hggv (by simp[Value.ownBlock] at hb;omega))
       have hfW:Fr P.has W ((w8.setCell ⟨B,2,none⟩ (.slice (some ⟨g,0,none⟩) L cap)).setCell ⟨g,i * 2+1,none⟩ (.int .u64 (d2:Int))):=
        ((((((hr.out.fr.trans_ge HB0.out.fr (fun j hj=>by omega)).trans (Fr.of_below hR2.out.below)).trans F7.out).trans (Fr.of_below hB8.out)).trans_ge hf9 (fun j hj=>by omega)).trans_ge hf10 (fun j hj=>by omega))
       have HF810:=Hi ((hf9.mono (H:=fun j=>j=B∨j=g) (fun j _ e=>.inl e)).trans (hf10.mono (H:=fun j=>j=B∨j=g) (fun j _ e=>.inr e)))
       have hlen10:((w8.setCell ⟨B,2,none⟩ (.slice (some ⟨g,0,none⟩) L cap)).setCell ⟨g,i * 2+1,none⟩ (.int .u64 (d2:Int))).heap.size=w8.heap.size:=by simp
       generalize ((w8.setCell ⟨B,2,none⟩ (.slice (some ⟨g,0,none⟩) L cap)).setCell ⟨g,i * 2+1,none⟩ (.int .u64 (d2:Int)))=w10 at hr2 hS9 hbx10 hc210 row10 hfW hlen10 hf10 HF810 ⊢
       obtain ⟨m3,hm3⟩ :∃m3:Nd,{ m with es:=m.es.set i (x,d2) } =m3:=⟨_,rfl⟩
       have hm3l:m3.es.length=L:=by rw[←hm3];show (m.es.set i (x,d2)).length=L;rw[List.length_set];exact HL.out
       have hnd3:NdV w10 (OutF (fun j=>((FN F1 wa j∧j≠B2)∧j<w7.heap.size)∨j=g) P) m3 (.agg #[.int .i64 (m3.lv:Int),.int .i64 (m3.sq:Int),.slice (some ⟨g,0,none⟩) L cap]):=by
        refine ⟨some ⟨g,0,none⟩,cap,by rw[hm3l],?_,by rw[hm3l];exact own_cap hr2,fun _ p hp=>?_,?_,by rw[←hm3];exact hr.out.nd.bd.1,by rw[←hm3];exact hr.out.nd.bd.2.1,by rw[hm3l];omega⟩
        ·rw[←hm3]
         exact Reads.of_own hr2
        ·injection hp with hp
         subst hp
         exact ⟨⟨.inr rfl,hPg⟩,by show g<w10.heap.size;omega⟩
        ·rw[←hm3]
         intro p hp
         rcases List.mem_or_eq_of_mem_set hp with q|q
         ·exact HE.out p q
         ·rw[q]
          have hxr: -9223372036854775808≤x∧x≤9223372036854775807:=by
           rw[←HX.out]
           split
           ·exact hkey
           ·have:=HE.out.at i
            exact ⟨this.1,this.2.1⟩
          have:=HR7.out.2.1
          have:=HS7.out.mb.lt
          exact ⟨hxr.1,hxr.2,by show d2<_;omega⟩
       have hcT2:c<T2.bl.now.length:=HR7.out.2.2.2
       have hput:=rput26_any w10 _ P T2 ws hS9 c hcT2 m3 (some ⟨g,0,none⟩) L cap hm3l hnd3
       have e3a:(m3.lv:Int)=lw:=by rw[←hm3,←HLW.out];show (m.lv:Int)=_;rw[HLV.out]
       have e3b:(m3.sq:Int)=(sq:Int):=by rw[←hm3];show (m.sq:Int)=_;rw[HSQ.out]
       rw[e3a,e3b] at hput
       obtain ⟨y0,y1,y2,yg0,yg1,yg2⟩:=hbx10.at3
       have HBX10:=Hi hbx10
       have HC210:=Hi hc210
       have HROW10:=Hi row10
       have HFW:=Hi hfW
       have HND3:=Hi hnd3
       have HM3:=Hi hm3
       have HF10:=Hi hf10
       clear hbx10 hc210 row10 hfW hnd3 hm3 e3a e3b q0 q1 q2 qg0 qg1 qg2 hc8 hf8 hf9 hf10 hS9 hr1 hr2 hbx9
       go_wp2_with fail
       refine hput.mono ?_
       rintro e w11 ⟨rfl,hS11,hf11⟩
       have hmpB:¬P.mp=B:=fun e=>by have:=hlt.out P.mp (has_mp _ rfl);omega
       have hmpB2:¬P.mp=B2:=fun e=>by have:=hlt.out P.mp (has_mp _ rfl);have:=hR2.out.ge;have:=hr.out.fr.size;omega
       have hbx11:=HBX10.out.fr hf11 (fun e=>hmpB e.symm)
       have hc211:=HC210.out.fr hf11 (fun e=>hmpB2 e.symm)
       have hrow11:=own_fr HROW10.out hf11 (fun b hb e=>hgvP (by simp[Value.ownBlock] at hb;rw[hb,e];exact has_mp _ rfl))
       rw[HN.out] at hrow11
       have HS11:=Hi hS11
       have HF11:=Hi hf11
       have hcr:=hrow11.cellAt (N * 2+1) (by omega)
       have hfr11:=hrow11.frozenAt (N * 2+1)
       have hst1v:(stv (st++ [(c,0)]))[N * 2+1]? =some (.int .i64 0):=by
        rw[stv_append,List.getElem?_append_right (by rw[stv_length,HN.out];omega),stv_length,HN.out]
        have:N * 2+1 - N * 2=1:=by omega
        rw[this]
        rfl
       rw[hst1v] at hcr
       have HROW11:=Hi hrow11
       have en:IntKind.i64.wrap (((N+1:Nat):Int) - 1)=(N:Int):=by rw[IntWalk.i64_in _ (by omega)];omega
       have en2:IntKind.i64.wrap ((N:Int)+1 - 1)=(N:Int):=by rw[IntWalk.i64_in _ (by omega)];omega
       obtain ⟨y0,y1,y2,yg0,yg1,yg2⟩:=hbx11.at3
       obtain ⟨t0,t1,t2,tg0,tg1,tg2⟩:=hc211.at3
       rw[HM2.out] at t0
       rw[HS2.out] at t1
       rw[HL2.out] at t2
       have HBX11:=Hi hbx11
       have HC211:=Hi hc211
       clear hS11 hf11 hput hrow11 hst1v hbx11 hc211
       go_upto_region 27 with (fail)
       have hsv:=HROW11.out.stored (N * 2+1) (.int .i64 (i:Int))
       have hrow12:=hsv.1
       rw[←HN.out,stv_last] at hrow12
       have hf12:Fr (fun j=>j=gv) w11 (w11.setCell ⟨gv,N * 2+1,none⟩ (.int .i64 (i:Int))):=fr_set _ _ _ _
       rw[HN.out] at hrow12
       have hgB2v:¬gv=B2:=fun e=>hB2g e.symm
       have hbx12:=HBX11.out.fr hf12 (fun e=>hgvB e.symm)
       have hc212:=HC211.out.fr hf12 (fun e=>hB2g e)
       have hgF:∀j,(((FN F1 wa j∧j≠B2)∧j<w7.heap.size)∨j=g)→¬j=gv:=fun j hj e=>by
        rcases hj with ⟨⟨q1,q2⟩,q3⟩|q
        ·rcases q1 with q4|q4
         ·exact (hr.out.tight j q4).2.2.2 (by rw[e];rfl)
         ·omega
        ·omega
       have hS12:=HS11.out.fr hf12 hgF
       have hfW12:Fr P.has W (w11.setCell ⟨gv,N * 2+1,none⟩ (.int .i64 (i:Int))):=(HFW.out.trans (HF11.out.mono (fun j _ e=>has_mp _ e))).trans_ge hf12 (fun j hj=>by omega)
       have hlen12:(w11.setCell ⟨gv,N * 2+1,none⟩ (.int .i64 (i:Int))).heap.size=w11.heap.size:=by simp
       have hlen11:=HF11.out.size
       generalize (w11.setCell ⟨gv,N * 2+1,none⟩ (.int .i64 (i:Int)))=w12 at hrow12 hf12 hbx12 hc212 hS12 hfW12 hlen12 ⊢
       obtain ⟨y0,y1,y2,yg0,yg1,yg2⟩:=hbx12.at3
       obtain ⟨t0,t1,t2,tg0,tg1,tg2⟩:=hc212.at3
       rw[HM2.out] at t0
       rw[HS2.out] at t1
       rw[HL2.out] at t2
       have HROW12:=Hi hrow12
       have HBX12:=Hi hbx12
       have HC212:=Hi hc212
       have HS12:=Hi hS12
       have HFW12:=Hi hfW12
       have HF12:=Hi hf12
       have HGF:=Hi hgF
       clear hrow12 hsv hbx12 hc212 hS12 hfW12 hcr hfr11 hgF hf12
       go_region
       have hbx13:=(HBX12.out.put3 (.int .i64 ml2) (.int .i64 ms2) (.slice A2 L2 c2)).drew
       have hf13:Fr (fun j=>j=B) w12 (((w12.setCell ⟨B,0,none⟩ (.int .i64 ml2)).setCell ⟨B,1,none⟩ (.int .i64 ms2)).setCell ⟨B,2,none⟩ (.slice A2 L2 c2)).drew:=
        (Fr.set (G:=fun j=>j=B) (b:=B) (Fr.set (G:=fun j=>j=B) (b:=B) (Fr.set (G:=fun j=>j=B) (b:=B) (Fr.refl _ _) (.inl rfl) _) (.inl rfl) _) (.inl rfl) _).drew
       generalize ((((w12.setCell ⟨B,0,none⟩ (.int .i64 ml2)).setCell ⟨B,1,none⟩ (.int .i64 ms2)).setCell ⟨B,2,none⟩ (.slice A2 L2 c2)).drew)=w13 at hbx13 hf13 ⊢
       have hb14:Below w13.heap.size w13 (w13.alloc (.cells #[.int .i64 (d2:Int),.int .i64 0] 189)):=(Below.refl _ w13).alloc (Nat.le_refl _) _
       have hrd14:Reads (w13.alloc (.cells #[.int .i64 (d2:Int),.int .i64 0] 189)) (some ⟨w13.heap.size,0,none⟩) [.int .i64 (d2:Int),.int .i64 0]:=Reads.new _ _ _
       have hrow14:=own_fr (own_fr HROW12.out hf13 (fun b hb e=>hgvB (by simp[Value.ownBlock] at hb;omega))) (Fr.of_below (G:=fun _=>False) hb14) (fun _ _ q=>q)
       obtain ⟨i1,hi1,hy0,hy1,hy2⟩:=info_parts step_info
       have HBX13:=Hi hbx13
       have HF13:=Hi hf13
       have hl13:=hf13.size
       have hs14:W.heap.size≤(w13.alloc (.cells #[.int .i64 (d2:Int),.int .i64 0] 189)).heap.size:=by
        have:=hb14.size
        omega
       clear y0 y1 y2 yg0 yg1 yg2 t0 t1 t2 tg0 tg1 tg2 hbx13 hf13
       go_upto_region 28 with (fail)
       iterate 13 go_step
       refine wpList_append_reads _ (by rfl) _ _ _ (by rfl) W.heap.size 189 i1 _ 2 16 Tryz.underlying185 hi1 hy0 hy1 hy2 (by rfl) (by omega) (.slice (some ⟨gv,0,none⟩) (N+1) cv) (N+1) (stv (st++ [(c,i)])) (by rfl) hrow14 (some ⟨w13.heap.size,0,none⟩) 1 1 [.int .i64 (d2:Int),.int .i64 0] (by rfl) (by rfl) hrd14 (by simp[Value.oneCell']) (by simp only[maxLen];omega) (by omega) hs14 ?_
       intro v1 w15 hown15 hg15 hat15
       obtain ⟨A15,c15,rfl⟩:=own_form hown15
       have hg16:=fr_grown hg15
       have HOWN15:=Hi hown15
       have HAT:=Hi hat15
       have HG16:=Hi hg16
       have HB14:=Hi hb14
       clear hown15 hat15 hg15 hg16 hrow14 hrd14 hb14
       go_wp2_with fail
       go_roundw
       case rel=>
        have hbx15:=(HBX13.out.below HB14.out HBX13.out.lt).fr HG16.out (fun e=>hgvB (by simp[Value.ownBlock] at e;omega))
        rw[←HM2.out,←HS2.out,←HL2.out] at hbx15
        have hgvO:∀j,(Value.slice (some ⟨gv,0,none⟩) (N+1) cv).ownBlock=some j→j=gv:=fun j hj=>by simp[Value.ownBlock] at hj;omega
        have hl15:=HG16.out.size
        have hl14:=HB14.out.size
        have hl13b:(w13.alloc (.cells #[.int .i64 (d2:Int),.int .i64 0] 189)).heap.size=w13.heap.size+1:=by simp
        have hgw:g<w13.heap.size:=by omega
        have hF3B:∀j,(((FN F1 wa j∧j≠B2)∧j<w7.heap.size)∨j=g)→j≠B:=fun j hj=>by
         rcases hj with q|q
         ·exact hF1B j q.1.1
         ·omega
        refine ⟨T2.put c m3,st++ [(c,i)],d2,m2,A2,c2,fun j=>((FN F1 wa j∧j≠B2)∧j<w7.heap.size)∨j=g,.slice A15 (N+1+1) c15,rfl,rfl,?_⟩
        refine ⟨?_,?_,HR7.out.2.1,?_,hbx15,?_,?_,fun j hj=>⟨?_,?_,hF3B j hj,fun e=>?_⟩,?_,?_⟩
        ·rw[←HM3.out,HM2L.out]
         exact HR7.out.2.2.1
        ·rw[←HM3.out,HM2L.out]
         exact HR7.out.1
        ·rw[List.length_append,HN.out,stv_append]
         exact HOWN15.out
        ·have n0:=hR2.out.nd.wide (Out':=fun j=>((FN F1 wa j∧j≠B2)∧j<w7.heap.size)∧¬P.has j) (fun j hj hl=>⟨⟨hj.1,by omega⟩,hj.2⟩)
         have n1:=(n0.fr F7.out (fun j hj q=>hj.2 q)).fr (Fr.of_below (G:=fun _=>False) hB8.out) (fun _ _ q=>q)
         have n2:=n1.fr HF810.out (fun j hj e=>e.elim (fun e=>hF1B j hj.1.1.1 e) (fun e=>by have:=hj.1.2;omega))
         have n3:=(n2.fr HF11.out (fun j hj e=>hj.2 (has_mp _ e))).fr HF12.out (fun j hj e=>HGF.out j (.inl hj.1) e)
         have n4:=(n3.fr HF13.out (fun j hj e=>hF3B j (.inl hj.1) e)).fr (Fr.of_below (G:=fun _=>False) HB14.out) (fun _ _ q=>q)
         have n5:=n4.fr HG16.out (fun j hj e=>HGF.out j (.inl hj.1) (hgvO j e))
         exact n5.wide (fun j hj _=>⟨.inl hj.1,hj.2⟩)
        ·exact ((HS12.out.fr HF13.out (fun j hj e=>hF3B j hj e)).keep HB14.out).fr HG16.out (fun j hj e=>HGF.out j hj (hgvO j e))
        ·rcases hj with q|q
         ·have:=hlen12
          omega
         ·omega
        ·rcases hj with ⟨⟨q1,q2⟩,q3⟩|q
         ·rcases q1 with q4|q4
          ·exact (hr.out.tight j q4).2.1
          ·exact .inr (by have:=hr.out.fr.size;omega)
         ·exact .inr (by have:=hr.out.fr.size;omega)
        ·rcases HAT.out with q|q
         ·rw[q] at e
          exact HGF.out j hj (hgvO j e)
         ·rw[q] at e
          injection e with e
          rcases hj with q|q
          ·omega
          ·omega
        ·exact ((HFW12.out.trans_ge HF13.out (fun j hj=>by omega)).trans (Fr.of_below HB14.out)).trans_ge HG16.out (fun j hj=>by have:=hgvO j hj;omega)
        ·have:=hr.out.sl
         rw[HLV.out] at this
         rw[List.length_append]
         have:=HM2L.out
         simp
         omega
       case measure=>
        have hbx15:=(HBX13.out.below HB14.out HBX13.out.lt).fr HG16.out (fun e=>hgvB (by simp[Value.ownBlock] at e;omega))
        rw[HCN.out,cellN_of hbx15,←HM2.out]
        have h1:=HM2L.out
        have h2:=HLV.out
        simp[intOf]
        omega
end
end Go.Proofs.YtplhdjdkobddnaaGreat
