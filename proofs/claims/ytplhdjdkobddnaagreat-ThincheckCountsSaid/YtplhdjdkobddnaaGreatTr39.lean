/- StS -/
import Derived.Test.YtplhdjdkobddnaaGreatTr38
set_option linter.unusedVariables false
set_option maxRecDepth 100000
set_option maxHeartbeats 40000000
namespace Go.Proofs.YtplhdjdkobddnaaGreat
section
open Go.RowKit
attribute [local go_sem] Oper.semAt_some
structure DelR (W wr:World) (F:Nat→Prop) (P:SP) (ws:List Nat) (O:Nat) (ka:Int) (old:Nat) (gv cv:Nat) (st:List (Nat × Nat)) (R:St) (X:St) (i:Nat) (F1:Nat→Prop):Prop where
 si:StIn wr F1 P X ws
 row:wr.ownsRow W.heap.size 189 2 (.slice (some ⟨gv,0,none⟩) st.length cv) st.length (stv st)
 old:Cs wr O 94 #[.int .i64 ka,.int .u64 (old:Int)]
 ok:DscOk (st.take (i+1)).reverse X
 res:(St.dsc (st.take (i+1)).reverse X).2=R
 lt:i<st.length
 tight:∀j,F1 j→j<wr.heap.size∧(F j∨W.heap.size≤j)∧j≠O∧j≠gv
 fr:Fr P.has W wr
theorem DelR.below {W wr wr':World} {F:Nat→Prop} {P:SP} {ws:List Nat} {O:Nat} {ka:Int} {old gv cv:Nat} {st:List (Nat × Nat)} {R X:St} {i:Nat} {F1:Nat→Prop} (h:DelR W wr F P ws O ka old gv cv st R X i F1) (hb:Below wr.heap.size wr wr'):DelR W wr' F P ws O ka old gv cv st R X i F1:=
 ⟨h.si.keep hb,own_fr h.row (Fr.of_below (G:=fun _=>False) hb) (fun _ _ q=>q),h.old.below hb h.old.lt,h.ok,h.res,h.lt,fun j hj=>⟨Nat.lt_of_lt_of_le (h.tight j hj).1 hb.size,(h.tight j hj).2⟩,h.fr.trans (Fr.of_below hb)⟩
theorem DelR.ends {W wr:World} {F:Nat→Prop} {P:SP} {ws:List Nat} {O:Nat} {ka:Int} {old gv cv:Nat} {st:List (Nat × Nat)} {R X:St} {i:Nat} {F1:Nat→Prop} (h:DelR W wr F P ws O ka old gv cv st R X i F1) {sb sa:Nat} (hsi:st[i]'h.lt=(sb,sa)) {nb:Nd} (hch:X.ch sb=some nb) (hgo:¬(0<i∧nb.es.length=0)):X=R:=by
 have h1:=h.res
 rw[take_rev st i h.lt,hsi] at h1
 unfold St.dsc at h1
 rw[hch] at h1
 dsimp only at h1
 by_cases he:nb.es= []
 ·rw[if_neg (by simpa using he)] at h1
  have h0:i=0:=by
   rw[he] at hgo
   simp at hgo
   exact hgo
  subst h0
  exact h1
 ·rw[if_pos he] at h1
  exact h1
theorem bval (L i:Nat):((L:Int) == 0)=decide (0<i+1∧L=0):=by
 rw[Bool.eq_iff_iff]
 simp
 try omega
theorem DelR.next {W wr:World} {F:Nat→Prop} {P:SP} {ws:List Nat} {O:Nat} {ka:Int} {old gv cv:Nat} {st:List (Nat × Nat)} {R X:St} {i:Nat} {F1:Nat→Prop} (h:DelR W wr F P ws O ka old gv cv st R X (i+1) F1) {sb sa:Nat} (hsi:st[i+1]'h.lt=(sb,sa)) {nb:Nd} (hch:X.ch sb=some nb) (hgo:nb.es.length=0) :
  ∃ub ua m,st[i]'(by have:=h.lt;omega)=(ub,ua)∧X.bl.count sb≠0∧X.ch ub=some m∧ua<m.es.length∧m.es.length≤8∧DscOk (st.take (i+1)).reverse (({ X with bl:=X.bl.dec sb }:St).put ub { m with es:=delN m.es ua })∧(St.dsc (st.take (i+1)).reverse (({ X with bl:=X.bl.dec sb }:St).put ub { m with es:=delN m.es ua })).2=R:=by
 have hlt:=h.lt
 have he:nb.es= []:=List.length_eq_zero_iff.1 hgo
 have h1:=h.res
 have h2:=h.ok
 rw[take_rev st (i+1) hlt,hsi] at h1 h2
 obtain ⟨h3,-,h4⟩:=h2
 have h5:=h4 ⟨nb,hch,he⟩
 unfold St.dsc at h1
 rw[hch] at h1
 dsimp only at h1
 rw[if_neg (by simpa using he)] at h1
 rw[take_rev st i (by omega)] at h1 h5 ⊢
 obtain ⟨ub,ua,hu⟩ :∃ub ua,st[i]'(by omega)=(ub,ua):=⟨_,_,rfl⟩
 rw[hu] at h1 h5 ⊢
 obtain ⟨⟨m,h6,h7,h8⟩,h9⟩:=h5
 dsimp only at h1
 rw[h6] at h1
 exact ⟨ub,ua,m,rfl,h3,h6,h7,h8,h9 m h6,h1⟩
structure LopR (W wr:World) (F:Nat→Prop) (P:SP) (ws:List Nat) (O:Nat) (ka:Int) (old:Nat) (D:Option (Nat × St)) (l:Nat) (X:St) (b:Nat) (F1:Nat→Prop):Prop where
 si:StIn wr F1 P X ws
 old:Cs wr O 94 #[.int .i64 ka,.int .u64 (old:Int)]
 ok:LopOk l X b
 res:D=St.lop l X b
 tight:∀j,F1 j→j<wr.heap.size∧(F j∨W.heap.size≤j)∧j≠O
 fr:Fr P.has W wr
theorem LopOk.load {l:Nat} {X:St} {b:Nat} (h:LopOk l X b):b<X.bl.now.length∧∃n,X.load b=some n∧n.lv=l:=by
 cases l with
 |zero=>exact h
 |succ l=>
  obtain ⟨h1,n,h2,h3,-⟩:=h
  exact ⟨Mp.lt_of_count h1,n,h2,h3⟩
theorem LopOk.one {l:Nat} {X:St} {b:Nat} (h:LopOk (l+1) X b) {n:Nd} (hn:X.load b=some n) (h1:n.es.length=1):X.bl.decE b=0∧(n.es[0]?.getD (0,0)).2<X.bl.now.length∧LopOk l { X with bl:=X.bl.dec b } (n.es[0]?.getD (0,0)).2∧X.lop (l+1) b=St.lop l { X with bl:=X.bl.dec b } (n.es[0]?.getD (0,0)).2:=by
 obtain ⟨h2,m,h3,h4,h5⟩:=h
 rw[hn] at h3
 injection h3 with h3
 subst h3
 refine ⟨?_,(h5 h1).1,(h5 h1).2,?_⟩
 ·unfold Mp.decE
  rw[if_neg (by have:=Mp.lt_of_count h2;omega),if_neg h2]
 ·conv=>lhs;unfold St.lop
  rw[hn]
  dsimp only
  rw[if_pos h1]
theorem lop_stay {l:Nat} {X:St} {b:Nat} {n:Nd} (hn:X.load b=some n) (h:l=0∨n.es.length≠1):X.lop l b=some (b,X):=by
 cases l with
 |zero=>rfl
 |succ l=>
  unfold St.lop
  rw[hn]
  dsimp only
  rw[if_neg (h.resolve_left (by omega))]
theorem delN_E64 {l:List (Int × Nat)} (h:E64 l) (i:Nat):E64 (delN l i):=by
 intro p hp
 unfold delN at hp
 rcases List.mem_append.1 hp with q|q
 ·exact h p (List.mem_of_mem_take q)
 ·exact h p (List.mem_of_mem_drop q)
theorem delN_le (l:List (Int × Nat)) (i:Nat):(delN l i).length≤l.length:=by
 unfold delN
 simp
 omega
theorem rdelete26_any (W:World) (F:Nat→Prop) (P:SP) (S:St) (ws:List Nat) (h:StIn W F P S ws) (Z:Nat→Bool) (rs pd:List Nat) (G:Gh) (r:Nat) (k:Bool) (key:Int) (w:Nat) (hI:Inv S Z (r :: rs) pd G) (n:Nd) (hn:S.nd Z r=some n) (hK:G.K r=k)
  (hkr:0≤key∧key<16777216) (hr2:n.lv≠0→2≤n.es.length) (hpot:rP G r n.lv+rQ G r n.lv<59) (hw:lookE (G.E r) key=some w) (hb1:rs.length+7 * S.bl.now.length+72≤60000) (hb2:pd.length+7 * S.bl.now.length+72≤60000) :
  Calls Tryz.prog 88 #[.pointer (some ⟨P.s,0,none⟩),.int .i64 (r:Int),.int .i64 key,.bool k] W fun e w'=>Fr P.has W w'∧((S.delete k key r=none∧e=.returned (.tuple #[.int .i64 0,.int .u64 0,.bool false,.int .i64 14]))∨
   ∃t S',S.delete k key r=some (t,S')∧e=.returned (.tuple #[.int .i64 (t:Int),.int .u64 (w:Int),.bool true,.int .i64 0])∧StIn w' (FN F W) P S' ws):=by
 have hlt:=Hi h.lt
 have H:=Hi (h.wide (F':=fun j=>F j∧j<W.heap.size) (fun j h1 h2=>⟨h1,h2⟩) (fun j hj=>⟨h.inF j hj,h.lt j hj⟩))
 have hdel:=delete_dsc hI hn hK hw
 have hwo:=fun st S1=>wayR_dscOk (st:=st) (S1:=S1) hI hn hK hw
 have hweq:=wholeR_eq hI hn hK hw
 have hlop:=fun c es S1=>delete_lopOk (c:=c) (es:=es) (S1:=S1) hI hn hK hr2 hpot hw
 have hlen16:=h.mb.lt
 have hlv8:=(hI.nd r n hn).f.lv
 obtain ⟨hpre,hway⟩:=way_ok (k:=k) (key:=key) (least:=false) n.lv S S Z rs pd G r n hI hn rfl hK (Off.refl _ _) (by omega) (by omega) (by omega)
 have hLK:=rlookup26_any W F P S ws h Z _ _ G hI r n hn key
 rw[hw] at hLK
 have hld:=(nd_count hn).2.2
 obtain ⟨N,hN⟩ :∃q,n.lv=q:=⟨_,rfl⟩
 rw[hN] at hlv8
 have HDEL:=Hi hdel
 have HWO:=Hi hwo
 have HWEQ:=Hi hweq
 have HLOP:=Hi hlop
 have HPRE:=Hi hpre
 have HWAY:=Hi hway
 have HLD:=Hi hld
 have HN:=Hi hN
 change Calls _ _ _ _ (fun e w'=>e=.returned (.tuple #[.agg #[.int .i64 key,.int .u64 (w:Int)],.bool true,_,.int .i64 0])∧_) at hLK
 clear hdel hwo hweq hlop hpre hway hld hI hn hK h hN hpot hr2 hw
 go_enter Tryz.func88,Tryz.ntmps88
 go_wp2_with fail
 refine hLK.mono ?_
 rintro e w1 ⟨rfl,hb1⟩
 clear hLK
 go_wp2_with fail
 have hC2:=Cs.new w1 94 #[.int .i64 key,.int .u64 (w:Int)]
 have hb2:Below w1.heap.size w1 (w1.alloc (.cells #[.int .i64 key,.int .u64 (w:Int)] 94)):=(Below.refl _ w1).alloc (Nat.le_refl _) _
 have hsz2:(w1.alloc (.cells #[.int .i64 key,.int .u64 (w:Int)] 94)).heap.size=w1.heap.size+1:=by simp
 generalize (w1.alloc (.cells #[.int .i64 key,.int .u64 (w:Int)] 94))=w2 at hC2 hb2 hsz2 ⊢
 obtain ⟨O,hO⟩ :∃O,w1.heap.size=O:=⟨_,rfl⟩
 rw[hO] at hC2 hb2 hsz2 ⊢
 have hOW:W.heap.size≤O:=by rw[←hO];exact hb1.size
 have HBB:=Hi (hb1.trans (hb2.mono hOW))
 have H2:=Hi (H.out.keep HBB.out)
 have HC2:=Hi hC2
 clear hb1 hb2 hC2
 refine (rway26_any w2 _ P S ws H2.out r n HLD.out k false key (by omega) HPRE.out (fun c T1 hq=>⟨(HWAY.out c T1 hq).1,by have:=(HWAY.out c T1 hq).2.2;exact this⟩)).mono ?_
 rintro e w3 ⟨hf3,⟨hno,rfl⟩| ⟨st,S1,vr,hwr,rfl,hs3,hrow3⟩⟩
 ·have hRn:Hid (S.delete k key r=none):=by
   show _=_
   rw[HDEL.out,hno]
  have F3:=Hi hf3
  clear hno hf3
  go_wp2_with fail
  exact bodyPost_ret (v:=.tuple #[.int .i64 0,.int .u64 0,.bool false,.int .i64 14]) (by simp[results,Tryz.f88,go_sem]) rfl ⟨(Fr.of_below HBB.out).trans F3.out,.inl ⟨hRn.out,rfl⟩⟩
 ·obtain ⟨hok0,hstl,m,hcm,hfl,hf0,hm7⟩:=HWO.out st S1 hwr
  rw[HN.out] at hstl
  have hst0:st≠[]:=by rintro rfl;simp at hstl
  have hlfl:leafOf st<S1.bl.now.length:=by
   obtain ⟨j,up,hr,-⟩:=rev_last st hst0
   have hq:=hok0
   rw[hr] at hq
   have h1:=Mp.lt_of_count hq.1
   unfold St.leafRem at h1
   rw[hcm] at h1
   exact h1
  have hlp:S1.leafRem key (leafOf st)=S1.put (leafOf st) { m with es:=delN m.es (findN m.es key).toNat }:=by
   unfold St.leafRem
   rw[hcm]
  obtain ⟨gv,cv,rfl,hbv,hgv⟩:=hrow3.form (by omega)
  have hgO:¬gv=O:=by omega
  obtain ⟨R,hR⟩ :∃R,(St.dsc st.reverse (S1.put (leafOf st) { m with es:=delN m.es (findN m.es key).toNat })).2=R:=⟨_,rfl⟩
  have hdel2:Hid (S.delete k key r=St.lop N R (headOf st)):=by
   show _=_
   rw[HDEL.out,hwr]
   dsimp only
   rw[hlp,hR,HN.out]
  have hlop2:Hid (LopOk N R (headOf st)):=by
   have h1:=HWEQ.out
   have h2:=HLOP.out
   rw[HN.out] at h1 h2
   unfold St.wholeR at h1
   unfold St.wayR at hwr
   rw[HN.out] at hwr
   rcases hq:S.rt r n k with _| ⟨c,T1⟩
   ·rw[hq] at hwr;cases hwr
   ·rw[hq] at hwr h1
    dsimp only at hwr h1
    rw[hwr] at h1
    dsimp only at h1
    rw[hlp] at h1
    obtain ⟨j,hj⟩:=way_head hwr
    have hh:headOf st=c:=by unfold headOf;rw[hj];rfl
    rcases hrm:S.rem k key N r n with _| ⟨d,es,S'⟩
    ·rw[hrm] at h1;cases h1
    ·rw[hrm] at h1
     dsimp only at h1
     injection h1 with h1
     injection h1 with h3 h4
     have h5:=h2 d es S' hrm
     have h6:R=S':=by rw[←hR,h4]
     rw[h6,hh,h3]
     exact h5
  rw[hlp] at hok0
  have HOK:=Hi hok0
  have HR:=Hi hR
  have hcl:=hrow3.cellAt (N * 2) (by omega)
  rw[(stv_at st N (by omega)).1] at hcl
  have hlfe:(st[N]'(by omega)).1=leafOf st:=by
   rw[leafOf_last st hst0]
   simp only[hstl,Nat.add_sub_cancel]
  rw[hlfe] at hcl
  obtain ⟨lf,hlf⟩ :∃lf,leafOf st=lf:=⟨_,rfl⟩
  rw[hlf] at hcl hcm hlfl
  have HLF:=Hi hlf
  rw[hstl] at hrow3 ⊢
  have H3:=Hi (hs3.wide (F':=fun j=>(F j∨W.heap.size≤j)∧j<w3.heap.size∧j≠O∧j≠gv) (fun j hj hl=>by
   obtain ⟨a1,a2⟩:=hj
   refine ⟨?_,hl,?_,fun e=>a2 (by rw[e];rfl)⟩
   ·rcases a1 with a3|a3
    ·exact .inl a3.1
    ·exact .inr (by omega)
   ·rcases a1 with a3|a3
    ·omega
    ·omega) (fun j hj=>by
     have a1:=hlt.out j hj
     have a2:=(hs3.inF j hj).2
     exact ⟨.inl (H.out.inF j hj).1,hs3.lt j hj,by omega,fun e=>a2 (by rw[e];rfl)⟩))
  have HROW3:=Hi hrow3
  have F3:=Hi hf3
  have hO3:=HC2.out.fr hf3 (fun q=>by have:=hlt.out O q;omega)
  have HC3:=Hi hO3
  have em1:IntKind.i64.wrap (((N+1:Nat):Int) - 1)=(N:Int):=by rw[IntWalk.i64_in _ (by omega)];omega
  have em2:IntKind.i64.wrap ((N:Int)+1 - 1)=(N:Int):=by rw[IntWalk.i64_in _ (by omega)];omega
  have em3:IntKind.i64.wrap (N:Int)=(N:Int):=IntWalk.i64_in _ (by omega)
  have x4:w3.cell? ⟨P.s,4,none⟩=some (.map (some P.mp)):=H3.out.cs.cell 4
  obtain ⟨vl,hlk,hndl⟩:=H3.out.ch.look2 lf (by have:=H3.out.mb.lt;omega) hcm
  obtain ⟨A5,c5,rfl⟩:=hndl.val
  obtain ⟨-,-,-,hrd5,hcp5,-,hE5,h165,hsq5,h85⟩:=hndl.parts
  have hlk3:=hlk w3 (Below.refl _ w3)
  have HLK:=Hi hlk
  obtain ⟨L5,hL5⟩ :∃q,m.es.length=q:=⟨_,rfl⟩
  have HL5:=Hi hL5
  rw[hL5] at hlk3 hcp5 hm7 hfl
  obtain ⟨i5,hi5⟩ :∃q,(findN m.es key).toNat=q:=⟨_,rfl⟩
  have hfi:findN m.es key=(i5:Int):=by omega
  rw[hi5] at hfl
  have HFD:=Hi (refFind_any (m.lv:Int) (m.sq:Int) key A5 c5 L5 m.es w3 hL5 hrd5 (by omega))
  have HRD5:=Hi hrd5
  have HND5:=Hi hndl
  have HE5:=Hi hE5
  have HCM:=Hi hcm
  have HFI:=Hi hfi
  have HI5:=Hi hi5
  have HSTL:=Hi hstl
  clear hs3 hrow3 hf3 hwr hok0 hR hO3 hndl hrd5 hE5 hcm hlp hlfe hlf hL5 hstl hlk hfi hi5 hf0
  go_wp2_with fail
  refine HFD.out.mono ?_
  rintro e w4 ⟨rfl,hb4⟩
  rw[HFI.out]
  have x4:w4.cell? ⟨P.s,4,none⟩=some (.map (some P.mp)):=(H3.out.keep hb4).cs.cell 4
  have hlk4:=HLK.out w4 hb4
  rw[HL5.out] at hlk4
  have hrd4:=HRD5.out.keep hb4
  have HRM:=Hi (refRemove_ok (m.lv:Int) (m.sq:Int) (i5:Int) A5 c5 L5 m.es w4 HL5.out hrd4 hcp5 (by omega) (by unfold remE;rw[HL5.out,if_neg (by omega)]))
  have HB4:=Hi hb4
  clear hb4 hrd4 hlk3 hcl HFD
  go_wp2_with fail
  refine HRM.out.mono ?_
  rintro e w5 ⟨v5,rfl,hown5,hb5⟩
  rw[Int.toNat_natCast] at hown5
  obtain ⟨A6,c6,rfl⟩:=own_form hown5
  obtain ⟨L4,hL4⟩ :∃q,(delN m.es i5).length=q:=⟨_,rfl⟩
  rw[hL4] at hown5 ⊢
  have HL4:=Hi hL4
  have hL48:L4≤7:=by
   have:=delN_le m.es i5
   have:=HL5.out
   omega
  have hsz4:=HB4.out.size
  have hsz5:=hb5.size
  have HOWN5:=Hi hown5
  have HB5:=Hi (HB4.out.trans (hb5.mono hsz4))
  obtain ⟨ml,hml⟩ :∃q:Int,((m.lv:Nat):Int)=q:=⟨_,rfl⟩
  obtain ⟨ms,hms⟩ :∃q:Int,((m.sq:Nat):Int)=q:=⟨_,rfl⟩
  have HML:=Hi hml
  have HMS:=Hi hms
  rw[hml,hms]
  obtain ⟨nn,hnn⟩ :∃q:Nd,{ m with es:=delN m.es i5 } =q:=⟨_,rfl⟩
  have hnnl:nn.es.length=L4:=by rw[←hnn];exact HL4.out
  have hnd5:NdV w5 (OutF (fun j=>((F j∨W.heap.size≤j)∧j<w3.heap.size∧j≠O∧j≠gv)∨(w3.heap.size≤j∧j<w5.heap.size)) P) nn (.agg #[.int .i64 ml,.int .i64 ms,.slice A6 L4 c6]):=by
   rw[←hml,←hms]
   refine ⟨A6,c6,by rw[hnnl,←hnn],by rw[←hnn];exact Reads.of_own hown5,by rw[hnnl];exact own_cap hown5,fun _ p hp=>?_,by rw[←hnn];exact delN_E64 HE5.out _,by rw[←hnn];exact HND5.out.bd.1,by rw[←hnn];exact HND5.out.bd.2.1,by omega⟩
   obtain ⟨q1,q2,q3⟩:=own_ge hown5 p hp
   exact ⟨⟨.inr ⟨by omega,q2⟩,fun hh=>by have:=H3.out.lt _ hh;omega⟩,q2⟩
  have H5s:=Hi ((H3.out.keep HB5.out).wide (F':=fun j=>((F j∨W.heap.size≤j)∧j<w3.heap.size∧j≠O∧j≠gv)∨(w3.heap.size≤j∧j<w5.heap.size)) (fun j hj _=>.inl hj) (fun j hj=>.inl (H3.out.inF j hj)))
  have HND5b:=Hi hnd5
  have HC5:=Hi (HC3.out.below HB5.out HC3.out.lt)
  have HROW5:=Hi (own_fr HROW3.out (Fr.of_below (G:=fun _=>False) HB5.out) (fun _ _ q=>q))
  have e1:Hid (ml=((nn.lv:Nat):Int)):=by show _=_;rw[←hnn];exact hml.symm
  have e2:Hid (ms=((nn.sq:Nat):Int)):=by show _=_;rw[←hnn];exact hms.symm
  have HNN:=Hi hnn
  have HNNL:=Hi hnnl
  clear hown5 hb5 hL4 hml hms hnd5 x4 hlk4 HRM hnn hnnl
  go_wp2_with fail
  have hb6:Below w5.heap.size w5 (w5.alloc (.cells #[.int .i64 ml,.int .i64 ms,.slice A6 L4 c6] 129)):=(Below.refl _ w5).alloc (Nat.le_refl _) _
  have hx6:=box_cells (w:=w5) (lv:=ml) (sq:=ms) (A:=A6) (n:=L4) (c:=c6)
  have hsz6:(w5.alloc (.cells #[.int .i64 ml,.int .i64 ms,.slice A6 L4 c6] 129)).heap.size=w5.heap.size+1:=by simp
  generalize (w5.alloc (.cells #[.int .i64 ml,.int .i64 ms,.slice A6 L4 c6] 129))=w6 at hb6 hx6 hsz6 ⊢
  obtain ⟨y0,y1,y2⟩:=hx6
  have hput:=rput26_any w6 _ P S1 ws (H5s.out.keep hb6) lf hlfl nn A6 L4 c6 HNNL.out (by
   have:=HND5b.out.fr (Fr.of_below (G:=fun _=>False) hb6) (fun _ _ q=>q)
   rw[e1.out,e2.out] at this
   exact this)
  rw[←e1.out,←e2.out] at hput
  go_wp2_with fail
  refine hput.mono ?_
  rintro e w7 ⟨rfl,hs7,hf7⟩
  have hmpO:¬O=P.mp:=fun e=>by have:=hlt.out P.mp (has_mp _ rfl);omega
  have hmpg:¬gv=P.mp:=fun e=>by have:=hlt.out P.mp (has_mp _ rfl);have:=HBB.out.size;omega
  have hsz7:=hf7.size
  have HI0:Hid (DelR W w7 F P ws O key w gv cv st R (S1.put lf nn) N (fun j=>((F j∨W.heap.size≤j)∧j<w3.heap.size∧j≠O∧j≠gv)∨(w3.heap.size≤j∧j<w5.heap.size))):=by
   have htk:st.take (N+1)=st:=List.take_of_length_le (by rw[HSTL.out];exact Nat.le_refl _)
   have hrw:=own_fr (own_fr HROW5.out (Fr.of_below (G:=fun _=>False) hb6) (fun _ _ q=>q)) hf7 (fun b hb e=>hmpg (by simp[Value.ownBlock] at hb;omega))
   have hnne:({ m with es:=delN m.es (findN m.es key).toNat }:Nd)=nn:=by rw[HI5.out];exact HNN.out
   refine ⟨hs7,?_,(HC5.out.below hb6 HC5.out.lt).fr hf7 hmpO,?_,?_,by rw[HSTL.out];omega,fun j hj=>?_,?_⟩
   ·rw[HSTL.out]
    exact own_lower hrw (by have:=HBB.out.size;omega)
   ·rw[htk,←HLF.out,←hnne]
    exact HOK.out
   ·rw[htk,←HLF.out,←hnne]
    exact HR.out
   ·rcases hj with q|q
    ·exact ⟨by omega,q.1,q.2.2.1,q.2.2.2⟩
    ·exact ⟨by omega,.inr (by have:=HBB.out.size;have:=F3.out.size;omega),by have:=HC3.out.lt;omega,by omega⟩
   ·exact ((((Fr.of_below HBB.out).trans F3.out).trans (Fr.of_below HB5.out)).trans (Fr.of_below hb6)).trans (hf7.mono (fun j _ e=>has_mp _ e))
  clear hput hs7 hf7 hb6 y0 y1 y2 em1 em2 em3
  have em1:IntKind.i64.wrap (((N+1:Nat):Int) - 1)=(N:Int):=by rw[IntWalk.i64_in _ (by omega)];omega
  have em2:IntKind.i64.wrap ((N:Int)+1 - 1)=(N:Int):=by rw[IntWalk.i64_in _ (by omega)];omega
  have em3:IntKind.i64.wrap (N:Int)=(N:Int):=IntWalk.i64_in _ (by omega)
  go_wp2_with fail
  go_loopw [22] (fun s22 wr=>∃(i:Nat) (X:St) (F1:Nat→Prop),s22=.int .i64 i∧Hid (DelR W wr F P ws O key w gv cv st R X i F1)) (fun s22 _=>(intOf s22).toNat)
  case atStart=>exact ⟨N,_,_,rfl,HI0⟩
  case round=>
   obtain ⟨i,X,F1,rfl,hr⟩:=hrel
   have hil:i<st.length:=hr.out.lt
   have hok:=hr.out.ok
   rw[take_rev st i hil] at hok
   obtain ⟨sb,sa,hsi⟩ :∃sb sa,st[i]=(sb,sa):=⟨_,_,rfl⟩
   rw[hsi] at hok
   obtain ⟨hbc,⟨nb,hch,hn8⟩,hnext⟩:=hok
   have hbl:=Mp.lt_of_count hbc
   have hres:=hr.out.res
   rw[take_rev st i hil,hsi] at hres
   have hrc:=hr.out.row.cellAt (i * 2) (by omega)
   rw[(stv_at st i hil).1,hsi] at hrc
   have x4:wr.cell? ⟨P.s,4,none⟩=some (.map (some P.mp)):=hr.out.si.cs.cell 4
   obtain ⟨vb,hlk,hnd⟩:=hr.out.si.ch.look2 sb (by have:=hr.out.si.mb.lt;omega) hch
   obtain ⟨Ab,cb,rfl⟩:=hnd.val
   have hlk1:=fun q:Nat=>hlk (wr.drewN q) ⟨rfl,rfl,rfl,Nat.le_refl _,fun _ _=>rfl⟩
   have hlt2:i<N+1:=by rw[←HSTL.out];exact hil
   obtain ⟨Lb,hLb⟩ :∃q,nb.es.length=q:=⟨_,rfl⟩
   obtain ⟨lb,hlb⟩ :∃q:Int,((nb.lv:Nat):Int)=q:=⟨_,rfl⟩
   obtain ⟨qb,hqb⟩ :∃q:Int,((nb.sq:Nat):Int)=q:=⟨_,rfl⟩
   simp only[hLb,hlb,hqb] at hlk1
   rw[hLb] at hn8
   have hfld:(Instr.field 129 (.agg #[.int .i64 lb,.int .i64 qb,.slice Ab Lb cb]) 2).run Tryz.prog wr=.ok (.slice Ab Lb cb) wr:=by kernel_rfl
   have hfldn:∀q:Nat,(Instr.field 129 (.agg #[.int .i64 lb,.int .i64 qb,.slice Ab Lb cb]) 2).run Tryz.prog (wr.drewN q)=.ok (.slice Ab Lb cb) (wr.drewN q):=fun q=>by kernel_rfl
   have HLB:=Hi hLb
   have HBC:=Hi hbc
   have HCH:=Hi hch
   have HRES:=Hi hres
   have HNX:=Hi hnext
   have HSI:=Hi hsi
   have hrowl:=hr.out.row
   rw[HSTL.out] at hrowl
   have HROWL:=Hi hrowl
   have hps:P.s<wr.heap.size:=hr.out.si.cs.lt
   have dlt:(i:Int)<(N:Int)+1:=by omega
   clear hlk hnd hLb hlb hqb hch hres hnext hsi hbc hrowl
   go_upto_region 14 with (fail)
   go_cut [105] (fun s105 wx=>s105=.bool (decide (0<i∧Lb=0))∧∃q:Nat,wx=wr.drewN q)
   case first=>
    by_cases hi0:i=0
    ·subst hi0
     have d0:¬(0:Int)<0:=by omega
     go_quiet (fail)
     go_wp2_with fail
     go_meet
     exact ⟨rfl,_,rfl⟩
    ·obtain ⟨i1,rfl⟩ :∃i1,i=i1+1:=⟨i - 1,by omega⟩
     have d0:(0:Int)<((i1+1:Nat):Int):=by omega
     have d0b:(0:Int)<(i1:Int)+1:=by omega
     have d0c:0<i1+1:=by omega
     go_quiet (fail)
     go_wp2_with fail
     go_meet
     exact ⟨by rw[bval],_,rfl⟩
   case rest=>
    obtain ⟨hs105,q0,hwc⟩:=hcut
    have hbw:Below wr.heap.size wr wc:=by rw[hwc];exact ⟨rfl,rfl,rfl,Nat.le_refl _,fun _ _=>rfl⟩
    have HD:=Hi (hr.out.below hbw)
    clear hlk1 hfld hfldn hps hwc
    by_cases hgo:0<i∧Lb=0
    ·obtain ⟨i1,rfl⟩ :∃i1,i=i1+1:=⟨i - 1,by omega⟩
     rw[decide_eq_true hgo] at hs105
     subst hs105
     obtain ⟨ub,ua,m1,hsi1,hbc,hch1,hua,hl1,hok1,hres1⟩:=HD.out.next HSI.out HCH.out (by rw[HLB.out];exact hgo.2)
     have hub:ub<X.bl.now.length:=by
      have hq:=hok1
      rw[take_rev st i1 (by omega),hsi1] at hq
      have:=Mp.lt_of_count hq.1
      change ub<(X.bl.dec sb).now.length at this
      unfold Mp.dec at this
      rw[Mp.setN_len] at this
      exact this
     have hE0:X.bl.decE sb=0:=by unfold Mp.decE;rw[if_neg (by omega),if_neg hbc]
     have hrun:∀Wx,Below wc.heap.size wc Wx→Calls Tryz.prog 94 #[.pointer (some ⟨P.b.p,0,none⟩),.int .i64 (sb:Int)] Wx fun e w'=>e=.returned (.int .i64 0)∧Hid (StIn w' F1 P { X with bl:=X.bl.dec sb } ws)∧Hid (Fr P.has wc w'):=by
      intro Wx hWx
      have hs:=HD.out.si.keep hWx
      have hi:=rdec_any hs.mb sb
      rw[hE0] at hi
      refine hi.mono ?_
      rintro e w' ⟨rfl,q1,q2⟩
      refine ⟨rfl,?_,(Fr.of_below hWx).trans (q2.has has_bn)⟩
      rw[if_pos rfl] at q1
      exact hs.blSet q1 q2 (Mp.setN_len _ _ _)
     have HRUN:=Hi hrun
     have hrc:=HD.out.row.cellAt ((i1+1) * 2) (by omega)
     rw[(stv_at st (i1+1) hil).1,HSI.out] at hrc
     have x1:wc.cell? ⟨P.s,1,none⟩=some (.pointer (some ⟨P.b.p,0,none⟩)):=HD.out.si.cs.cell 1
     have d0:(i1:Int)+1<(N:Int)+1:=by omega
     have d0b:(0:Int)≤(i1:Int)+1:=by omega
     have HSI1:=Hi hsi1
     have HCH1:=Hi hch1
     have HOK1:=Hi hok1
     have HRES1:=Hi hres1
     clear hrun hE0 hsi1 hch1 hok1 hres1 hr hbw x4 hgo HRES HNX HBC hn8
     go_wp2_with fail
     go_cut [] (fun wx=>Hid (StIn wx F1 P { X with bl:=X.bl.dec sb } ws)∧Hid (Fr P.has wc wx))
     case first=>
      go_region_with (go_at_call 94;go_loud (with_reducible refine (HRUN.out _ (by first|exact Below.refl _ _|exact (Below.refl _ _).drew)).mono ?_;rintro e w10 ⟨rfl,hs10,hf10⟩))
      all_goals
       go_wp2_with fail
       go_meet
       exact ⟨hs10,hf10⟩
     case rest=>
      obtain ⟨hs10,hf10⟩:=hcut
      obtain ⟨wa,hwa⟩ :∃wa,wa=wc:=⟨_,rfl⟩
      rw[←hwa] at hs10 hf10 ⊢
      clear hwa x1 hrc HRUN
      have hsz10:=hf10.out.size
      obtain ⟨m2,hm2⟩ :∃q:Nd,{ m1 with es:=delN m1.es ua } =q:=⟨_,rfl⟩
      have H10:=Hi (hs10.out.wide (F':=F1) (fun j hj _=>hj) hs10.out.inF)
      have hFw:Hid (∀j,F1 j→j<wa.heap.size):=fun j hj=>Nat.lt_of_lt_of_le (HD.out.tight j hj).1 hsz10
      have HR10:=Hi (own_fr HD.out.row hf10.out (fun b hb e=>by
       simp[Value.ownBlock] at hb
       subst hb
       have:=hlt.out _ e
       have:=HBB.out.size
       omega))
      have hrc:=HR10.out.cellAt (i1 * 2) (by omega)
      have hrc1:=HR10.out.cellAt (i1 * 2+1) (by omega)
      rw[(stv_at st i1 (by omega)).1,HSI1.out] at hrc
      rw[(stv_at st i1 (by omega)).2,HSI1.out] at hrc1
      obtain ⟨vu,hlk,hndu⟩:=hs10.out.ch.look2 ub (by have:=hs10.out.mb.lt;have hq:(X.bl.dec sb).now.length=X.bl.now.length:=Mp.setN_len _ _ _;change (X.bl.dec sb).now.length≤_ at this;omega) HCH1.out
      obtain ⟨Au,cu,rfl⟩:=hndu.val
      obtain ⟨-,-,-,hrdu,hcpu,-,hEu,hlvu,hsqu,-⟩:=hndu.parts
      have hPlt:Hid (∀j,P.has j→j<wa.heap.size):=fun j hj=>Nat.lt_of_lt_of_le (hlt.out j hj) (by have:=HD.out.fr.size;omega)
      have hl2:m2.es.length≤8:=by rw[←hm2];exact Nat.le_trans (delN_le _ _) hl1
      have hrmv:∀w,Below wa.heap.size wa w→Calls Tryz.prog 126 #[.agg #[.int .i64 (m1.lv:Int),.int .i64 (m1.sq:Int),.slice Au m1.es.length cu],.int .i64 (ua:Int)] w fun e w'=>∃(A2:Option Addr) (c2:Nat),e=.returned (.tuple #[.agg #[.int .i64 (m2.lv:Int),.int .i64 (m2.sq:Int),.slice A2 m2.es.length c2],.int .i64 0])∧Hid (NdV w' (OutF (FN F1 w) P) m2 (.agg #[.int .i64 (m2.lv:Int),.int .i64 (m2.sq:Int),.slice A2 m2.es.length c2]))∧Hid (Below wa.heap.size wa w')∧Hid (Below w.heap.size w w'):=by
       intro w hw
       refine (refRemove_ok (m1.lv:Int) (m1.sq:Int) (ua:Int) Au cu m1.es.length m1.es w rfl (hrdu.keep hw) hcpu (by omega) (by unfold remE;rw[if_neg (by omega)])).mono ?_
       rintro e w' ⟨v,rfl,hown,hb⟩
       rw[Int.toNat_natCast] at hown
       obtain ⟨A2,c2,rfl⟩:=own_form hown
       have e1:m2.es=delN m1.es ua:=by rw[←hm2]
       have e2:m2.lv=m1.lv:=by rw[←hm2]
       have e3:m2.sq=m1.sq:=by rw[←hm2]
       rw[←e1] at hown
       have hsw:=hw.size
       refine ⟨A2,c2,by rw[e2,e3,e1],ndv_own hown (Nat.le_refl _) (fun j hj=>Nat.lt_of_lt_of_le (hPlt.out j hj) hsw) (by rw[e1];exact delN_E64 hEu _) (by rw[e2];exact hlvu) (by rw[e3];exact hsqu) hl2,hw.trans (hb.mono hsw),hb⟩
      have HRM:=Hi hrmv
      have hlkz:=hlk (wa.drew.alloc (.cells #[.int .i64 0,.int .i64 0,.slice none 0 0] 129)) (((Below.refl _ _).drew).alloc (Nat.le_refl _) _)
      have hlka:=hlk wa (Below.refl _ _)
      have hlkd:=hlk wa.drew ((Below.refl _ _).drew)
      have hlkx:=hlk (wa.alloc (.cells #[.int .i64 0,.int .i64 0,.slice none 0 0] 129)) ((Below.refl _ _).alloc (Nat.le_refl _) _)
      have hlky:=hlk (wa.alloc (.cells #[.int .i64 0,.int .i64 0,.slice none 0 0] 129)).drew (((Below.refl _ _).alloc (Nat.le_refl _) _).drew)
      have x4:wa.cell? ⟨P.s,4,none⟩=some (.map (some P.mp)):=H10.out.cs.cell 4
      have d1:(i1:Int)<(N:Int)+1:=by omega
      have d1b:(0:Int)≤(i1:Int):=by omega
      have ei0:IntKind.i64.wrap (i1:Int)=(i1:Int):=IntWalk.i64_in _ (by omega)
      have eim2:IntKind.i64.wrap ((i1:Int)+1 - 1)=(i1:Int):=by rw[IntWalk.i64_in _ (by omega)];omega
      have hpsa:P.s<wa.heap.size:=H10.out.cs.lt
      have hgva:gv<wa.heap.size:=own_lt HR10.out _ rfl
      have hgvn:¬gv=wa.heap.size:=by omega
      have HM2:=Hi hm2
      clear hrmv hlk hndu hrdu hEu hs10 hm2
      go_wp2_with fail
      go_cut [23,24] (fun s23 s24 wx=>s24=.int .i64 0∧∃(B2:Nat) (A2:Option Addr) (c2:Nat),Hid (ChR wa wx F1 P m2 s23 B2 A2 c2))
      case first=>
       have HS0:Hid (∀w',Below wa.heap.size wa w'→w'.cell? ⟨P.s,4,none⟩=some (.map (some P.mp))∧w'.cell? ⟨gv,i1 * 2,none⟩=some (.int .i64 (ub:Int))∧w'.cell? ⟨gv,i1 * 2+1,none⟩=some (.int .i64 (ua:Int))):=fun w' hb=>⟨(hb.cell (p:=⟨P.s,4,none⟩) hpsa).trans x4,(hb.cell (p:=⟨gv,i1 * 2,none⟩) hgva).trans hrc,(hb.cell (p:=⟨gv,i1 * 2+1,none⟩) hgva).trans hrc1⟩
       have q0:Below wa.heap.size wa wa.drew:=(Below.refl _ wa).drew
       have q1:Below wa.heap.size wa (wa.alloc (.cells #[.int .i64 0,.int .i64 0,.slice none 0 0] 129)).drew:=((Below.refl _ wa).alloc (Nat.le_refl _) _).drew
       go_region_held3 (fun w'=>w'.cell? ⟨P.s,4,none⟩=some (.map (some P.mp))∧w'.cell? ⟨gv,i1 * 2,none⟩=some (.int .i64 (ub:Int))∧w'.cell? ⟨gv,i1 * 2+1,none⟩=some (.int .i64 (ua:Int)))
        (first|with_reducible exact HS0.out _ q0|with_reducible exact HS0.out _ q1|with_reducible exact HS0.out _ hb5.out|with_reducible exact HS0.out _ (hb5.out.alloc hb5.out.size _)|with_reducible exact HS0.out _ (((hb5.out.setCell (p:=⟨wa.heap.size,0,none⟩) (Nat.le_refl _) _).setCell (p:=⟨wa.heap.size,1,none⟩) (Nat.le_refl _) _).setCell (p:=⟨wa.heap.size,2,none⟩) (Nat.le_refl _) _))
        ((first|(go_at_call 126;(with_reducible refine (HRM.out _ (by first|exact q0|exact q1)).mono ?_);rintro e w11 ⟨A2,c2,rfl,hnd5,hb5,hbw5⟩;(first|(have hz:=Hi (zbox hbw5.out);obtain ⟨z0,z1,z2,zg0,zg1,zg2⟩:=hz.out.at3)|skip))))
       all_goals
        go_wp2_with fail
        go_meet
        first
         |(have hs1:wa.heap.size<((wa.alloc (.cells #[.int .i64 0,.int .i64 0,.slice none 0 0] 129)).drew).heap.size:=(by show wa.heap.size<(wa.alloc _).heap.size;simp);have hq:=chR_first hFw.out hs1 hz.out hnd5.out hb5.out;exact ⟨rfl,_,_,_,hq⟩)
         |(have hq:=chR_last hFw.out (show wa.heap.size≤wa.drew.heap.size from Nat.le_refl _) hnd5.out hb5.out;exact ⟨rfl,_,_,_,hq⟩)
         |(have hs1:wa.heap.size≤((wa.alloc (.cells #[.int .i64 0,.int .i64 0,.slice none 0 0] 129)).drew).heap.size:=(by show wa.heap.size≤(wa.alloc _).heap.size;simp);have hq:=chR_last hFw.out hs1 hnd5.out hb5.out;exact ⟨rfl,_,_,_,hq⟩)
      case rest=>
       obtain ⟨rfl,B2,A2,c2,hR2⟩:=hcut
       rename World=>wb
       have hp2:=hR2.out.p
       subst hp2
       have hbe:=hR2.out.below
       have hsb:=hbe.size
       have hB2w:=hR2.out.box.lt
       have hB2g:=hR2.out.ge
       have hub2:ub<(X.bl.dec sb).now.length:=by have hq:(X.bl.dec sb).now.length=X.bl.now.length:=Mp.setN_len _ _ _;omega
       have HSB:=Hi ((H10.out.keep hbe).wide (F':=fun j=>(F1 j∨wa.heap.size≤j)∧j<wb.heap.size∧j≠B2) (fun j hj hlt=>⟨.inl hj,hlt,by have:=hFw.out j hj;omega⟩) (fun j hj=>⟨.inl (H10.out.inF j hj),by have:=hFw.out j (H10.out.inF j hj);omega,by have:=hFw.out j (H10.out.inF j hj);omega⟩))
       have HNB:=Hi (hR2.out.nd.wide (Out':=OutF (fun j=>(F1 j∨wa.heap.size≤j)∧j<wb.heap.size∧j≠B2) P) (fun j hj hlt=>⟨⟨hj.1.1,hlt,hj.1.2⟩,hj.2⟩))
       have HRB:=Hi (own_fr HR10.out (Fr.of_below (G:=fun _=>False) hbe) (fun _ _ q=>q))
       have hrc2:=HRB.out.cellAt (i1 * 2) (by omega)
       rw[(stv_at st i1 (by omega)).1,HSI1.out] at hrc2
       have hput:∀w,Below wb.heap.size wb w→Calls Tryz.prog 127 #[.pointer (some ⟨P.s,0,none⟩),.int .i64 (ub:Int),.agg #[.int .i64 (m2.lv:Int),.int .i64 (m2.sq:Int),.slice A2 m2.es.length c2]] w fun e w'=>e=.returned (.tuple #[])∧Hid (StIn w' (fun j=>(F1 j∨wa.heap.size≤j)∧j<wb.heap.size∧j≠B2) P (({ X with bl:=X.bl.dec sb }:St).put ub m2) ws)∧Hid (Fr (· =P.mp) wb w'):=by
        intro w hw
        refine (rput26_any w _ P _ ws (HSB.out.keep hw) ub hub2 m2 A2 _ c2 rfl (HNB.out.fr (Fr.of_below (G:=fun _=>False) hw) (fun _ _ q=>q))).mono ?_
        rintro e w' ⟨rfl,q1,q2⟩
        exact ⟨rfl,q1,(Fr.of_below hw).trans q2⟩
       have HPUT:=Hi hput
       obtain ⟨t0,t1,t2,tg0,tg1,tg2⟩:=hR2.out.box.at3
       have hgvb:gv<wb.heap.size:=by omega
       clear hput hrc hrc1 hub2
       go_wp2_with fail
       have HS0:Hid (∀w',Below wb.heap.size wb w'→w'.cell? ⟨gv,i1 * 2,none⟩=some (.int .i64 (ub:Int))∧w'.cell? ⟨B2,0,none⟩=some (.int .i64 (m2.lv:Int))∧w'.cell? ⟨B2,1,none⟩=some (.int .i64 (m2.sq:Int))∧w'.cell? ⟨B2,2,none⟩=some (.slice A2 m2.es.length c2)):=fun w' hb=>⟨(hb.cell (p:=⟨gv,i1 * 2,none⟩) hgvb).trans hrc2,(hb.cell (p:=⟨B2,0,none⟩) hB2w).trans t0,(hb.cell (p:=⟨B2,1,none⟩) hB2w).trans t1,(hb.cell (p:=⟨B2,2,none⟩) hB2w).trans t2⟩
       have q0:Below wb.heap.size wb wb.drew:=(Below.refl _ wb).drew
       have hB2m:¬B2=P.mp:=fun e=>by have:=hlt.out P.mp (has_mp _ rfl);have:=HBB.out.size;have:=HD.out.fr.size;omega
       go_region_held3 (fun w'=>w'.cell? ⟨gv,i1 * 2,none⟩=some (.int .i64 (ub:Int))∧w'.cell? ⟨B2,0,none⟩=some (.int .i64 (m2.lv:Int))∧w'.cell? ⟨B2,1,none⟩=some (.int .i64 (m2.sq:Int))∧w'.cell? ⟨B2,2,none⟩=some (.slice A2 m2.es.length c2))
        (first|with_reducible exact HS0.out _ q0|exact ⟨(hf19.out.cell (i:=i1 * 2) hgvb hmpg).trans hrc2,(hf19.out.cell (i:=0) hB2w hB2m).trans t0,(hf19.out.cell (i:=1) hB2w hB2m).trans t1,(hf19.out.cell (i:=2) hB2w hB2m).trans t2⟩)
        ((first|(go_at_call 127;(with_reducible refine (HPUT.out _ q0).mono ?_);rintro e w19 ⟨rfl,hs19,hf19⟩)))
       go_wp2_with fail
       go_roundw
       case rel=>
        have hsz19:=hf19.out.size
        have hbb2:=HBB.out.size
        have hOc:=HD.out.old.lt
        refine ⟨i1,({ X with bl:=X.bl.dec sb }:St).put ub m2,_,rfl,⟨hs19.out,?_,?_,?_,?_,by omega,fun j hj=>?_,?_⟩⟩
        ·exact own_fr HRB.out hf19.out (fun b hb e=>hmpg (by simp[Value.ownBlock] at hb;omega))
        ·exact ((HD.out.old.fr hf10.out (fun q=>by have:=hlt.out _ q;omega)).fr (Fr.of_below (G:=fun _=>False) hbe) (fun q=>q)).fr hf19.out (fun e=>hmpO e)
        ·have h1:=HOK1.out
         rw[HM2.out] at h1
         exact h1
        ·have h1:=HRES1.out
         rw[HM2.out] at h1
         exact h1
        ·obtain ⟨q,q2,q3⟩:=hj
         rcases q with q|q
         ·obtain ⟨v1,v2,v3,v4⟩:=HD.out.tight j q
          exact ⟨by omega,v2,v3,v4⟩
         ·exact ⟨by omega,.inr (by omega),by omega,by omega⟩
        ·exact ((HD.out.fr.trans hf10.out).trans (Fr.of_below hbe)).trans (hf19.out.mono (fun j _ e=>has_mp _ e))
       case measure=>simp[intOf]
    ·rw[decide_eq_false hgo] at hs105
     subst hs105
     have hX:X=R:=hr.out.ends HSI.out HCH.out (by rw[HLB.out];exact hgo)
     subst hX
     have hst1:0<st.length:=by omega
     have hrc0:=HD.out.row.cellAt (0 * 2) (by omega)
     rw[(stv_at st 0 hst1).1,←headOf_first st hst1] at hrc0
     obtain ⟨t1,ht1⟩ :∃q,headOf st=q:=⟨_,rfl⟩
     rw[ht1] at hrc0
     have HI1:Hid (LopR W wc F P ws O key w (S.delete k key r) N X t1 F1):=by
      rw[←ht1]
      exact ⟨HD.out.si,HD.out.old,hlop2.out,hdel2.out,fun j hj=>⟨(HD.out.tight j hj).1,(HD.out.tight j hj).2.1,(HD.out.tight j hj).2.2.1⟩,HD.out.fr⟩
     clear hr hrc hbw x4 hgo ht1 HSI HCH HRES HNX HBC HLB hn8 dlt hlt2 hbl
     go_wp2_with fail
     obtain ⟨D,hD⟩ :∃D,S.delete k key r=D:=⟨_,rfl⟩
     rw[hD] at HI1
     have HDD:=Hi hD
     clear hD hdel2 hlop2 HD HI0 HDEL HWO HWEQ HLOP HOK HR HPRE HWAY HLK HROWL HROW3 HROW5
     go_loopg [1] N (fun l s1 w8=>∃(X2:St) (b:Nat) (F2:Nat→Prop),s1=.int .i64 b∧Hid (LopR W w8 F P ws O key w D l X2 b F2))
     case atStart=>exact ⟨_,_,_,rfl,HI1⟩
     case round=>
      obtain ⟨X2,b,F2,rfl,hl⟩:=hrel
      obtain ⟨hbl2,n2,hld2,hlv2⟩:=hl.out.ok.load
      have hl2:=Hi (hl.out.si.wide (F':=fun j=>F2 j∧j<wr.heap.size) (fun j h1 h2=>⟨h1,h2⟩) (fun j hj=>⟨hl.out.si.inF j hj,hl.out.si.lt j hj⟩))
      have hldc:=rload26_any wr _ P X2 ws hl2.out b hbl2 n2 hld2
      have HLD2:=Hi hld2
      have HLV2:=Hi hlv2
      have HBL2:=Hi hbl2
      clear hld2 hlv2 hbl2
      go_wp2_with fail
      refine hldc.mono ?_
      rintro e w9 ⟨v,rfl,hnd,hb9⟩
      obtain ⟨A9,c9,rfl⟩:=hnd.val
      obtain ⟨-,-,-,hrd9,-,hob9,hE9,-,-,hl89⟩:=hnd.parts
      have HOB9:=Hi hob9
      have HRD9:=Hi hrd9
      have HE9:=Hi hE9
      obtain ⟨ms9,hms9⟩ :∃q:Int,((n2.sq:Nat):Int)=q:=⟨_,rfl⟩
      obtain ⟨L9,hL9⟩ :∃q,n2.es.length=q:=⟨_,rfl⟩
      rw[hms9,hL9,HLV2.out]
      obtain ⟨gl,hgl⟩ :∃q:Int,((gk:Nat):Int)=q:=⟨_,rfl⟩
      rw[hgl]
      have HGL:=Hi hgl
      clear hgl
      have HL9:=Hi hL9
      rw[hL9] at hl89
      clear hnd hrd9 hE9 hms9 hL9 hldc hob9
      have hbA:Below w9.heap.size w9 (w9.alloc (.cells #[.int .i64 gl,.int .i64 ms9,.slice A9 L9 c9] 129)):=(Below.refl _ w9).alloc (Nat.le_refl _) _
      have hbB:=Hi (hb9.trans (hbA.mono hb9.size))
      have hoC:=hl.out.old.below hb9 hl.out.old.lt
      obtain ⟨o0,o1,-,-⟩:=hoC.at2
      have hO9:=hoC.lt
      have hO9n:¬O=w9.heap.size:=by omega
      clear hoC
      by_cases hstay:gk=0∨L9≠1
      ·have hD2:Hid (D=some (b,X2)):=by
        show _=_
        rw[hl.out.res]
        exact lop_stay HLD2.out (by rw[HL9.out];exact hstay)
       have hfin:Hid (StIn (w9.alloc (.cells #[.int .i64 gl,.int .i64 ms9,.slice A9 L9 c9] 129)) (FN F W) P X2 ws):=by
        have:=hl.out.si.keep hbB.out
        exact this.wide (fun j hj _=>(hl.out.tight j hj).2.1) (fun j hj=>(hl.out.tight j (hl.out.si.inF j hj)).2.1)
       have hfrz:Hid (Fr P.has W (w9.alloc (.cells #[.int .i64 gl,.int .i64 ms9,.slice A9 L9 c9] 129))):=hl.out.fr.trans (Fr.of_below hbB.out)
       clear hl hl2 hb9 hbA hbB HRD9 HE9 HBL2 HLD2
       by_cases hg0:gk=0
       ·subst hg0
        obtain rfl:gl=0:=HGL.out.symm
        clear hstay HGL
        go_wp2_with fail
        go_quiet (fail)
        go_wp2_with fail
        have hbq:∀u q:Nat,Below u (w9.alloc (.cells #[.int .i64 0,.int .i64 ms9,.slice A9 L9 c9] 129)) ((w9.alloc (.cells #[.int .i64 0,.int .i64 ms9,.slice A9 L9 c9] 129)).drewN q):=fun u q=>⟨rfl,rfl,rfl,Nat.le_refl _,fun _ _=>rfl⟩
        exact bodyPost_ret (v:=.tuple #[.int .i64 (b:Int),.int .u64 (w:Int),.bool true,.int .i64 0]) (by simp[results,Tryz.f88,go_sem]) rfl ⟨hfrz.out.trans (Fr.of_below (hbq _ _)),.inr ⟨b,X2,HDD.out.trans hD2.out,rfl,hfin.out.keep (hbq _ _)⟩⟩
       ·have hL1:¬L9=1:=by rcases hstay with q|q;exact absurd q hg0;exact q
        clear hstay
        have hgb:(gl == 0)=false:=by rw[←HGL.out];simp;exact hg0
        have hLb:((L9:Int) == 1)=false:=by simp;omega
        go_wp2_with fail
        go_quiet (fail)
        go_wp2_with fail
        have hbq:∀u q:Nat,Below u (w9.alloc (.cells #[.int .i64 gl,.int .i64 ms9,.slice A9 L9 c9] 129)) ((w9.alloc (.cells #[.int .i64 gl,.int .i64 ms9,.slice A9 L9 c9] 129)).drewN q):=fun u q=>⟨rfl,rfl,rfl,Nat.le_refl _,fun _ _=>rfl⟩
        exact bodyPost_ret (v:=.tuple #[.int .i64 (b:Int),.int .u64 (w:Int),.bool true,.int .i64 0]) (by simp[results,Tryz.f88,go_sem]) rfl ⟨hfrz.out.trans (Fr.of_below (hbq _ _)),.inr ⟨b,X2,HDD.out.trans hD2.out,rfl,hfin.out.keep (hbq _ _)⟩⟩
      ·obtain rfl:L9=1:=by
        rcases Nat.lt_or_ge L9 1 with q|q
        ·exact absurd (.inr (by omega)) hstay
        ·by_cases q2:L9=1
         ·exact q2
         ·exact absurd (.inr q2) hstay
       obtain ⟨l,rfl⟩ :∃l,gk=l+1:=⟨gk - 1,by
        by_cases q:gk=0
        ·exact absurd (.inl q) hstay
        ·omega⟩
       obtain ⟨r1,r2,r3,r4⟩:=hl.out.ok.one HLD2.out HL9.out
       have hsN:=Hi (hl2.out.keep hbB.out)
       have hd:=rdec_any hsN.out.mb b
       rw[r1,if_pos rfl] at hd
       have x1:w9.cell? ⟨P.s,1,none⟩=some (.pointer (some ⟨P.b.p,0,none⟩)):=(hl2.out.keep hb9).cs.cell 1
       have hps9:=(hl2.out.keep hb9).cs.lt
       have hps9n:¬P.s=w9.heap.size:=by omega
       have hgk0:(gl == 0)=false:=by rw[←HGL.out];simp;omega
       obtain ⟨vv,hvv⟩ :∃vv,(n2.es[0]?.getD (0,0)).2=vv:=⟨_,rfl⟩
       rw[hvv] at r2 r3 r4
       have hlenX:=hl2.out.mb.lt
       have HVV:=Hi hvv
       have R3:=Hi r3
       have R4:=Hi r4
       have evv:IntKind.i64.wrap (vv:Int)=(vv:Int):=IntWalk.i64_in _ (by omega)
       have HC:=Hi (Cs.new w9 129 #[.int .i64 gl,.int .i64 ms9,.slice A9 1 c9])
       clear hvv r1 r3 r4 hstay
       go_wp2_with fail
       refine hd.mono ?_
       rintro e w11 ⟨rfl,hm11,hf11⟩
       have hbn9:w9.heap.size≠P.b.gn:=fun e=>by have:=(hl2.out.keep hb9).lt P.b.gn (has_bn _ rfl);omega
       have H11:=Hi (hsN.out.blSet hm11 hf11 (Mp.setN_len _ _ _))
       have hC11:=Hi (HC.out.fr hf11 hbn9)
       obtain ⟨z0,z1,z2,zg0,zg1,zg2⟩:=hC11.out.at3
       have hne9:n2.es≠[]:=fun e=>by have:=HL9.out;rw[e] at this;simp at this
       have hrd:=(HRD9.out.keep hbA).fr hf11 (fun h0 p hp q=>(HOB9.out hne9 p hp).1.2 (has_bn _ q))
       obtain ⟨ab,ao,rfl,hal,hcl⟩:=hrd.e (by rw[HL9.out];omega)
       have hcv:=(hcl 0 (by rw[HL9.out];omega)).2
       rw[HVV.out] at hcv
       have HI2:Hid (LopR W w11 F P ws O key w D l { X2 with bl:=X2.bl.dec b } vv (fun j=>F2 j∧j<wr.heap.size)):=by
        have hfo:¬O=P.b.gn:=fun e=>by have:=hlt.out P.b.gn (has_bn _ rfl);omega
        have hs11:=hf11.size
        have hsA:=hbB.out.size
        have hoC:=(hl.out.old.below hbB.out hl.out.old.lt).fr hf11 hfo
        exact ⟨H11.out,hoC,R3.out,by rw[←R4.out];exact hl.out.res,fun j hj=>⟨by omega,(hl.out.tight j hj.1).2⟩,(hl.out.fr.trans (Fr.of_below hbB.out)).trans (hf11.has has_bn)⟩
       clear hd hm11 hf11 hrd hal hcl x1 hl hl2 hb9 hbA hbB o0 o1
       go_wp2_with fail
       go_roundg l
       case measure=>omega
       case rel=>exact ⟨_,_,_,rfl,HI2⟩
end
end Go.Proofs.YtplhdjdkobddnaaGreat
