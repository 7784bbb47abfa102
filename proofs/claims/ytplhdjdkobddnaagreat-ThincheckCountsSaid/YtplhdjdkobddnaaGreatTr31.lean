/- MtI MtJ MtK MtM -/
import Derived.Test.YtplhdjdkobddnaaGreatTr30
import Derived.Deep.LoopGhost
set_option linter.unusedVariables false
set_option maxRecDepth 100000
set_option maxHeartbeats 40000000
namespace Go.Proofs.YtplhdjdkobddnaaGreat
section
open Go.RowKit
attribute [local go_sem] Oper.semAt_some
def LookC (P:SP) (ws:List Nat) (S:St) (r key:Nat) (o:Option Nat) (sh:Bool):Prop:=∀(F:Nat→Prop) (w:World),StIn w F P S ws→
 Calls Tryz.prog 96 #[.pointer (some ⟨P.s,0,none⟩),.int .i64 (r:Int),.int .i64 (key:Int)] w fun e w'=>e=.returned (.tuple #[entV (key:Int) o,.bool o.isSome,.bool sh,.int .i64 0])∧Below w.heap.size w w'
def Mt.unS (m:Mt) (S':St):Mt:={ m with S:=S' }
theorem runmap27_dev (W:World) (F:Nat→Prop) (M:Nat) (P:SP) (m:Mt) (h:MtIn W F M P m) (id b:Nat) (hid:id≤65535) (hb16:b≤16777215) (hE:hasD m.dv id=false) :
  Calls Tryz.prog 43 #[.pointer (some ⟨M,0,none⟩),.int .i64 (id:Int),.int .i64 (b:Int)] W fun e w'=>e=.returned (.int .i64 25)∧W=w':=by
 have hb:=Hi (rbadid_any id W hid)
 obtain ⟨Ad,cd,Ao,co,Ap,cp,c1,r1,-⟩:=h.cells
 have hfi:=rfind27_any Ad m.dv.length cd m.dv id W rfl r1.reads (by have:=h.dl;omega)
 have x11:=c1.cell 11
 rw[hE] at hfi
 obtain ⟨kk,hkk⟩ :∃q,(fnd m.dv id).getD 0=q:=⟨_,rfl⟩
 rw[hkk] at hfi
 have HFI:=Hi hfi
 have d1:¬(b:Int)<0:=by omega
 have d3:¬(16777215:Int)<(b:Int):=by omega
 clear hfi c1 r1 hE hkk h
 go_enter Tryz.func43,Tryz.ntmps43
 go_wp2_with fail
 refine HFI.out.mono ?_
 rintro e w' ⟨rfl,rfl⟩
 go_wp2_with fail
 refine hb.out.mono ?_
 rintro e w' ⟨rfl,rfl⟩
 go_wp2_with fail
 go_ret
 exact ⟨rfl,rfl⟩
theorem ebox {wc w5:World} (h:Below ((wc.alloc (.cells #[.int .i64 0,.int .u64 0] 94)).drew).heap.size ((wc.alloc (.cells #[.int .i64 0,.int .u64 0] 94)).drew) w5):Cs w5 wc.heap.size 94 #[.int .i64 0,.int .u64 0]:=
 Cs.below (w:=(wc.alloc (.cells #[.int .i64 0,.int .u64 0] 94)).drew) (Cs.new wc _ _) h (by show wc.heap.size<(wc.alloc _).heap.size;simp)
theorem runmap27_none (W:World) (F:Nat→Prop) (M:Nat) (P:SP) (m:Mt) (h:MtIn W F M P m) (id b:Nat) (hid:id≤65535) (hb16:b≤16777215) (h3:hasD m.dv id=true) (sh:Bool) (o:Option Nat) (ho:o=none) (hlk:LookC P m.ws m.S (dvAt m.dv id).rt b o sh) :
  Calls Tryz.prog 43 #[.pointer (some ⟨M,0,none⟩),.int .i64 (id:Int),.int .i64 (b:Int)] W fun e w'=>e=.returned (.int .i64 12)∧Below W.heap.size W w':=by
 obtain ⟨hkl,hdid⟩:=hasD_at h3
 have hb:=Hi (rbadid_any id W hid)
 obtain ⟨Ad,cd,Ao,co,Ap,cp,c1,r1,-⟩:=h.cells
 have hfi:=rfind27_any Ad m.dv.length cd m.dv id W rfl r1.reads (by have:=h.dl;omega)
 rw[h3] at hfi
 have x11:=c1.cell 11
 have x10:=c1.cell 10
 have d1:¬(b:Int)<0:=by omega
 have d3:¬(16777215:Int)<(b:Int):=by omega
 obtain ⟨bb,off,rfl,hbl,z0,z1,z2,z3⟩:=dv_reads r1.reads hkl
 have hO:dvAt m.dv id=m.dv[(fnd m.dv id).getD 0]:=by unfold dvAt;rw[List.getElem?_eq_getElem hkl];rfl
 rw[←hO] at z0 z1 z2 z3
 rw[hdid] at z0
 obtain ⟨rt,hrt⟩ :∃q,(dvAt m.dv id).rt=q:=⟨_,rfl⟩
 obtain ⟨tm,htme⟩ :∃q,(dvAt m.dv id).tm=q:=⟨_,rfl⟩
 obtain ⟨mp,hmpe⟩ :∃q,(dvAt m.dv id).mp=q:=⟨_,rfl⟩
 rw[hrt] at z1 hlk
 rw[htme] at z2
 rw[hmpe] at z3
 obtain ⟨kk,hkk⟩ :∃q,(fnd m.dv id).getD 0=q:=⟨_,rfl⟩
 rw[hkk] at hfi hkl z0 z1 z2 z3
 have HFI:=Hi hfi
 have H0:=Hi h
 have H:=Hi h.tight
 have d4:(kk:Int)<(m.dv.length:Int):=by omega
 have hMl:=h.lt
 have hMP:=h.nP
 have B1:Below W.heap.size W (W.alloc (.cells #[.int .i64 (id:Int),.int .i64 (rt:Int),.int .i64 (tm:Int),.int .i64 (mp:Int)] 91)):=(Below.refl _ W).alloc (Nat.le_refl _) _
 have C1:=Cs.new W 91 #[.int .i64 (id:Int),.int .i64 (rt:Int),.int .i64 (tm:Int),.int .i64 (mp:Int)]
 have hz1:(W.alloc (.cells #[.int .i64 (id:Int),.int .i64 (rt:Int),.int .i64 (tm:Int),.int .i64 (mp:Int)] 91)).heap.size=W.heap.size+1:=by simp
 clear c1 h3 hfi hO hkk hdid r1 h hrt htme hmpe
 go_enter Tryz.func43,Tryz.ntmps43
 go_wp2_with fail
 refine HFI.out.mono ?_
 rintro e w' ⟨rfl,rfl⟩
 go_wp2_with fail
 refine hb.out.mono ?_
 rintro e w' ⟨rfl,rfl⟩
 go_wp2_with fail
 generalize (W.alloc (.cells #[.int .i64 (id:Int),.int .i64 (rt:Int),.int .i64 (tm:Int),.int .i64 (mp:Int)] 91))=W1 at *
 obtain ⟨B,hB⟩ :∃q,W.heap.size=q:=⟨_,rfl⟩
 rw[hB] at C1 hz1 ⊢
 have hMB:¬M=B:=by omega
 have hBP:¬P.has B:=fun q=>by have:=H.out.st.lt B q;omega
 have H1:=Hi (H.out.keep B1)
 have hMl1:M<W1.heap.size:=by omega
 have hBl1:=C1.lt
 have HS0:Hid (∀w,Below W1.heap.size W1 w→w.cell? ⟨M,10,none⟩=some (.pointer (some ⟨P.s,0,none⟩))∧w.cell? ⟨B,1,none⟩=some (.int .i64 (rt:Int))):=fun w hw=>⟨(hw.cell (p:=⟨M,10,none⟩) hMl1).trans ((B1.cell (p:=⟨M,10,none⟩) hMl).trans x10),(hw.cell (p:=⟨B,1,none⟩) hBl1).trans (C1.cell 1)⟩
 obtain ⟨hv,hhv⟩ :∃q,o.isSome=q:=⟨_,rfl⟩
 have HL:Hid (∀w,Below W1.heap.size W1 w→Calls Tryz.prog 96 #[.pointer (some ⟨P.s,0,none⟩),.int .i64 (rt:Int),.int .i64 (b:Int)] w fun e w'=>(∃(a:Int) (v:Nat),e=.returned (.tuple #[.agg #[.int .i64 a,.int .u64 (v:Int)],.bool hv,.bool sh,.int .i64 0]))∧Below W1.heap.size W1 w'∧Below w.heap.size w w'):=fun w hw=>by
  refine (hlk _ w (H1.out.keep hw).st).mono ?_
  rintro e w' ⟨rfl,q⟩
  obtain ⟨a,ha⟩:=entV_form (b:Int) o
  exact ⟨⟨a,o.getD 0,by rw[ha,hhv]⟩,hw.trans (q.mono hw.size),q⟩
 have HC1:=Hi C1
 have HZ1:=Hi hz1
 have HHV:=Hi hhv
 have HO:=Hi ho
 clear C1 x10 x11 z0 z1 z2 z3 hlk hz1 hhv ho
 go_cut [11,12,13] (fun s11 s12 s13 wx=>s11=.bool hv∧s12=.bool sh∧s13=.int .i64 0∧Hid (Below W1.heap.size W1 wx))
 case first=>
  have q0:Below W1.heap.size W1 W1.drew:=(Below.refl _ W1).drew
  have q1:Below W1.heap.size W1 (W1.alloc (.cells #[.int .i64 0,.int .u64 0] 94)).drew:=((Below.refl _ W1).alloc (Nat.le_refl _) _).drew
  go_region_held3 (fun w=>w.cell? ⟨M,10,none⟩=some (.pointer (some ⟨P.s,0,none⟩))∧w.cell? ⟨B,1,none⟩=some (.int .i64 (rt:Int)))
   (first|with_reducible exact HS0.out _ q0|with_reducible exact HS0.out _ q1|with_reducible exact HS0.out _ hb5|with_reducible exact HS0.out _ (hb5.alloc hb5.size _)|with_reducible exact HS0.out _ ((hb5.setCell (p:=⟨W1.heap.size,0,none⟩) (Nat.le_refl _) _).setCell (p:=⟨W1.heap.size,1,none⟩) (Nat.le_refl _) _))
   ((first|(go_at_call 96;(with_reducible refine (HL.out _ (by first|exact q0|exact q1)).mono ?_);rintro e w5 ⟨⟨a,v,rfl⟩,hb5,hbw5⟩;(first|(have hz:=Hi (ebox hbw5);have u0:w5.cell? ⟨W1.heap.size,0,none⟩=some (.int .i64 0):=hz.out.cell 0;have u1:w5.cell? ⟨W1.heap.size,1,none⟩=some (.int .u64 0):=hz.out.cell 1;have g0:=hz.out.free 0;have g1:=hz.out.free 1)|skip))))
  all_goals
   go_wp2_with fail
   go_meet
   first
    |exact ⟨rfl,rfl,rfl,hb5.alloc hb5.size _⟩
    |exact ⟨rfl,rfl,rfl,(hb5.setCell (p:=⟨W1.heap.size,0,none⟩) (Nat.le_refl _) _).setCell (p:=⟨W1.heap.size,1,none⟩) (Nat.le_refl _) _⟩
 case rest=>
  obtain ⟨rfl,rfl,rfl,hb2⟩:=hcut
  rename World=>w2
  have H2:=Hi (H1.out.keep hb2.out)
  have hf:=Hi (rfreemeta_any H2.out)
  have B2:=Hi (B1.trans (hb2.out.mono B1.size))
  clear HL HS0 HFI
  obtain rfl:hv=false:=by rw[←HHV.out,HO.out];rfl
  go_wp2_with fail
  go_ret
  exact ⟨rfl,B2.out⟩
theorem runmap27_room (W:World) (F:Nat→Prop) (M:Nat) (P:SP) (m:Mt) (h:MtIn W F M P m) (id b:Nat) (hid:id≤65535) (hb16:b≤16777215) (h3:hasD m.dv id=true) (sh:Bool) (o:Option Nat) (ho:o.isSome=true) (hlk:LookC P m.ws m.S (dvAt m.dv id).rt b o sh) (hfr:m.S.bl.free<16) :
  Calls Tryz.prog 43 #[.pointer (some ⟨M,0,none⟩),.int .i64 (id:Int),.int .i64 (b:Int)] W fun e w'=>e=.returned (.int .i64 26)∧Below W.heap.size W w':=by
 obtain ⟨hkl,hdid⟩:=hasD_at h3
 have hb:=Hi (rbadid_any id W hid)
 obtain ⟨Ad,cd,Ao,co,Ap,cp,c1,r1,-⟩:=h.cells
 have hfi:=rfind27_any Ad m.dv.length cd m.dv id W rfl r1.reads (by have:=h.dl;omega)
 rw[h3] at hfi
 have x11:=c1.cell 11
 have x10:=c1.cell 10
 have d1:¬(b:Int)<0:=by omega
 have d3:¬(16777215:Int)<(b:Int):=by omega
 obtain ⟨bb,off,rfl,hbl,z0,z1,z2,z3⟩:=dv_reads r1.reads hkl
 have hO:dvAt m.dv id=m.dv[(fnd m.dv id).getD 0]:=by unfold dvAt;rw[List.getElem?_eq_getElem hkl];rfl
 rw[←hO] at z0 z1 z2 z3
 rw[hdid] at z0
 obtain ⟨rt,hrt⟩ :∃q,(dvAt m.dv id).rt=q:=⟨_,rfl⟩
 obtain ⟨tm,htme⟩ :∃q,(dvAt m.dv id).tm=q:=⟨_,rfl⟩
 obtain ⟨mp,hmpe⟩ :∃q,(dvAt m.dv id).mp=q:=⟨_,rfl⟩
 rw[hrt] at z1 hlk
 rw[htme] at z2
 rw[hmpe] at z3
 obtain ⟨kk,hkk⟩ :∃q,(fnd m.dv id).getD 0=q:=⟨_,rfl⟩
 rw[hkk] at hfi hkl z0 z1 z2 z3
 have HFI:=Hi hfi
 have H0:=Hi h
 have H:=Hi h.tight
 have d4:(kk:Int)<(m.dv.length:Int):=by omega
 have hMl:=h.lt
 have hMP:=h.nP
 have B1:Below W.heap.size W (W.alloc (.cells #[.int .i64 (id:Int),.int .i64 (rt:Int),.int .i64 (tm:Int),.int .i64 (mp:Int)] 91)):=(Below.refl _ W).alloc (Nat.le_refl _) _
 have C1:=Cs.new W 91 #[.int .i64 (id:Int),.int .i64 (rt:Int),.int .i64 (tm:Int),.int .i64 (mp:Int)]
 have hz1:(W.alloc (.cells #[.int .i64 (id:Int),.int .i64 (rt:Int),.int .i64 (tm:Int),.int .i64 (mp:Int)] 91)).heap.size=W.heap.size+1:=by simp
 have d9:((m.S.bl.free:Nat):Int)<16:=by omega
 clear c1 h3 hfi hO hkk hdid r1 h hrt htme hmpe
 go_enter Tryz.func43,Tryz.ntmps43
 go_wp2_with fail
 refine HFI.out.mono ?_
 rintro e w' ⟨rfl,rfl⟩
 go_wp2_with fail
 refine hb.out.mono ?_
 rintro e w' ⟨rfl,rfl⟩
 go_wp2_with fail
 generalize (W.alloc (.cells #[.int .i64 (id:Int),.int .i64 (rt:Int),.int .i64 (tm:Int),.int .i64 (mp:Int)] 91))=W1 at *
 obtain ⟨B,hB⟩ :∃q,W.heap.size=q:=⟨_,rfl⟩
 rw[hB] at C1 hz1 ⊢
 have hMB:¬M=B:=by omega
 have hBP:¬P.has B:=fun q=>by have:=H.out.st.lt B q;omega
 have H1:=Hi (H.out.keep B1)
 have hMl1:M<W1.heap.size:=by omega
 have hBl1:=C1.lt
 have HS0:Hid (∀w,Below W1.heap.size W1 w→w.cell? ⟨M,10,none⟩=some (.pointer (some ⟨P.s,0,none⟩))∧w.cell? ⟨B,1,none⟩=some (.int .i64 (rt:Int))):=fun w hw=>⟨(hw.cell (p:=⟨M,10,none⟩) hMl1).trans ((B1.cell (p:=⟨M,10,none⟩) hMl).trans x10),(hw.cell (p:=⟨B,1,none⟩) hBl1).trans (C1.cell 1)⟩
 obtain ⟨hv,hhv⟩ :∃q,o.isSome=q:=⟨_,rfl⟩
 have HL:Hid (∀w,Below W1.heap.size W1 w→Calls Tryz.prog 96 #[.pointer (some ⟨P.s,0,none⟩),.int .i64 (rt:Int),.int .i64 (b:Int)] w fun e w'=>(∃(a:Int) (v:Nat),e=.returned (.tuple #[.agg #[.int .i64 a,.int .u64 (v:Int)],.bool hv,.bool sh,.int .i64 0]))∧Below W1.heap.size W1 w'∧Below w.heap.size w w'):=fun w hw=>by
  refine (hlk _ w (H1.out.keep hw).st).mono ?_
  rintro e w' ⟨rfl,q⟩
  obtain ⟨a,ha⟩:=entV_form (b:Int) o
  exact ⟨⟨a,o.getD 0,by rw[ha,hhv]⟩,hw.trans (q.mono hw.size),q⟩
 have HC1:=Hi C1
 have HZ1:=Hi hz1
 have HHV:=Hi hhv
 have HO:=Hi ho
 clear C1 x10 x11 z0 z1 z2 z3 hlk hz1 hhv ho
 go_cut [11,12,13] (fun s11 s12 s13 wx=>s11=.bool hv∧s12=.bool sh∧s13=.int .i64 0∧Hid (Below W1.heap.size W1 wx))
 case first=>
  have q0:Below W1.heap.size W1 W1.drew:=(Below.refl _ W1).drew
  have q1:Below W1.heap.size W1 (W1.alloc (.cells #[.int .i64 0,.int .u64 0] 94)).drew:=((Below.refl _ W1).alloc (Nat.le_refl _) _).drew
  go_region_held3 (fun w=>w.cell? ⟨M,10,none⟩=some (.pointer (some ⟨P.s,0,none⟩))∧w.cell? ⟨B,1,none⟩=some (.int .i64 (rt:Int)))
   (first|with_reducible exact HS0.out _ q0|with_reducible exact HS0.out _ q1|with_reducible exact HS0.out _ hb5|with_reducible exact HS0.out _ (hb5.alloc hb5.size _)|with_reducible exact HS0.out _ ((hb5.setCell (p:=⟨W1.heap.size,0,none⟩) (Nat.le_refl _) _).setCell (p:=⟨W1.heap.size,1,none⟩) (Nat.le_refl _) _))
   ((first|(go_at_call 96;(with_reducible refine (HL.out _ (by first|exact q0|exact q1)).mono ?_);rintro e w5 ⟨⟨a,v,rfl⟩,hb5,hbw5⟩;(first|(have hz:=Hi (ebox hbw5);have u0:w5.cell? ⟨W1.heap.size,0,none⟩=some (.int .i64 0):=hz.out.cell 0;have u1:w5.cell? ⟨W1.heap.size,1,none⟩=some (.int .u64 0):=hz.out.cell 1;have g0:=hz.out.free 0;have g1:=hz.out.free 1)|skip))))
  all_goals
   go_wp2_with fail
   go_meet
   first
    |exact ⟨rfl,rfl,rfl,hb5.alloc hb5.size _⟩
    |exact ⟨rfl,rfl,rfl,(hb5.setCell (p:=⟨W1.heap.size,0,none⟩) (Nat.le_refl _) _).setCell (p:=⟨W1.heap.size,1,none⟩) (Nat.le_refl _) _⟩
 case rest=>
  obtain ⟨rfl,rfl,rfl,hb2⟩:=hcut
  rename World=>w2
  have H2:=Hi (H1.out.keep hb2.out)
  have hf:=Hi (rfreemeta_any H2.out)
  have B2:=Hi (B1.trans (hb2.out.mono B1.size))
  clear HL HS0 HFI
  obtain rfl:hv=true:=by rw[←HHV.out,HO.out]
  go_wp2_with fail
  refine hf.out.mono ?_
  rintro e w' ⟨rfl,rfl⟩
  go_wp2_with fail
  go_ret
  exact ⟨rfl,B2.out⟩
theorem runmap27_ok (W:World) (F:Nat→Prop) (M:Nat) (P:SP) (m:Mt) (h:MtIn W F M P m) (id b:Nat) (hid:id≤65535) (hb16:b≤16777215) (h3:hasD m.dv id=true) (sh:Bool) (o:Option Nat) (ho:o.isSome=true) (hlk:LookC P m.ws m.S (dvAt m.dv id).rt b o sh) (hfr:16≤m.S.bl.free)
  {S1 S3:St} {t1 t2 old old2:Nat} {had2:Bool} (htd:(dvAt m.dv id).tm<1048576) (hmp:(dvAt m.dv id).mp<16777216) (hmp1:1≤(dvAt m.dv id).mp) (ht1:t1<1048576) (hold:old<18446744073709551616) (hde:DelC P m.ws m.S true (dvAt m.dv id).rt b t1 S1 old) (hdec:S1.da.decE (dOf old)=0)
  (hi2:InsC P m.ws { S1 with da:=S1.da.dec (dOf old) } false m.tree id (Dv.mk id t1 (dvAt m.dv id).tm ((dvAt m.dv id).mp - 1)).val t2 S3 old2 had2) (hl64:(insF m.dv ⟨id,t1,(dvAt m.dv id).tm,(dvAt m.dv id).mp - 1⟩).length≤64) :
  Calls Tryz.prog 43 #[.pointer (some ⟨M,0,none⟩),.int .i64 (id:Int),.int .i64 (b:Int)] W fun e w'=>e=.returned (.int .i64 0)∧MtR W w' F M P ((m.unS { S1 with da:=S1.da.dec (dOf old) }).setD ⟨id,t1,(dvAt m.dv id).tm,(dvAt m.dv id).mp - 1⟩ t2 S3):=by
 obtain ⟨hkl,hdid⟩:=hasD_at h3
 have hb:=Hi (rbadid_any id W hid)
 obtain ⟨Ad,cd,Ao,co,Ap,cp,c1,r1,-⟩:=h.cells
 have hfi:=rfind27_any Ad m.dv.length cd m.dv id W rfl r1.reads (by have:=h.dl;omega)
 rw[h3] at hfi
 have x11:=c1.cell 11
 have x10:=c1.cell 10
 have d1:¬(b:Int)<0:=by omega
 have d3:¬(16777215:Int)<(b:Int):=by omega
 obtain ⟨bb,off,rfl,hbl,z0,z1,z2,z3⟩:=dv_reads r1.reads hkl
 have hO:dvAt m.dv id=m.dv[(fnd m.dv id).getD 0]:=by unfold dvAt;rw[List.getElem?_eq_getElem hkl];rfl
 rw[←hO] at z0 z1 z2 z3
 rw[hdid] at z0
 obtain ⟨rt,hrt⟩ :∃q,(dvAt m.dv id).rt=q:=⟨_,rfl⟩
 obtain ⟨tm,htme⟩ :∃q,(dvAt m.dv id).tm=q:=⟨_,rfl⟩
 obtain ⟨mp,hmpe⟩ :∃q,(dvAt m.dv id).mp=q:=⟨_,rfl⟩
 rw[hrt] at z1 hlk hde
 rw[htme] at z2 htd hi2 hl64 ⊢
 rw[hmpe] at z3 hmp hmp1 hi2 hl64 ⊢
 obtain ⟨kk,hkk⟩ :∃q,(fnd m.dv id).getD 0=q:=⟨_,rfl⟩
 rw[hkk] at hfi hkl z0 z1 z2 z3
 have HFI:=Hi hfi
 have H0:=Hi h
 have H:=Hi h.tight
 have d4:(kk:Int)<(m.dv.length:Int):=by omega
 have hMl:=h.lt
 have hMP:=h.nP
 have B1:Below W.heap.size W (W.alloc (.cells #[.int .i64 (id:Int),.int .i64 (rt:Int),.int .i64 (tm:Int),.int .i64 (mp:Int)] 91)):=(Below.refl _ W).alloc (Nat.le_refl _) _
 have C1:=Cs.new W 91 #[.int .i64 (id:Int),.int .i64 (rt:Int),.int .i64 (tm:Int),.int .i64 (mp:Int)]
 have hz1:(W.alloc (.cells #[.int .i64 (id:Int),.int .i64 (rt:Int),.int .i64 (tm:Int),.int .i64 (mp:Int)] 91)).heap.size=W.heap.size+1:=by simp
 have d9:¬((m.S.bl.free:Nat):Int)<16:=by omega
 have HDE:=Hi hde
 have HI2:=Hi hi2
 have HDD:=Hi hdec
 have hl64':=Hi hl64
 have HDA:=Hi (fun w=>rdata_any old w hold)
 have hdol:dOf old<16777216:=Nat.mod_lt _ (by omega)
 obtain ⟨mp1,hmp2⟩ :∃q,mp - 1=q:=⟨_,rfl⟩
 rw[hmp2] at HI2 hl64' ⊢
 clear hde hi2 hdec hl64
 clear c1 h3 hfi hO hkk hdid r1 h hrt htme hmpe
 go_enter Tryz.func43,Tryz.ntmps43
 go_wp2_with fail
 refine HFI.out.mono ?_
 rintro e w' ⟨rfl,rfl⟩
 go_wp2_with fail
 refine hb.out.mono ?_
 rintro e w' ⟨rfl,rfl⟩
 go_wp2_with fail
 generalize (W.alloc (.cells #[.int .i64 (id:Int),.int .i64 (rt:Int),.int .i64 (tm:Int),.int .i64 (mp:Int)] 91))=W1 at *
 obtain ⟨B,hB⟩ :∃q,W.heap.size=q:=⟨_,rfl⟩
 rw[hB] at C1 hz1 ⊢
 have hMB:¬M=B:=by omega
 have hBP:¬P.has B:=fun q=>by have:=H.out.st.lt B q;omega
 have H1:=Hi (H.out.keep B1)
 have hMl1:M<W1.heap.size:=by omega
 have hBl1:=C1.lt
 have HS0:Hid (∀w,Below W1.heap.size W1 w→w.cell? ⟨M,10,none⟩=some (.pointer (some ⟨P.s,0,none⟩))∧w.cell? ⟨B,1,none⟩=some (.int .i64 (rt:Int))):=fun w hw=>⟨(hw.cell (p:=⟨M,10,none⟩) hMl1).trans ((B1.cell (p:=⟨M,10,none⟩) hMl).trans x10),(hw.cell (p:=⟨B,1,none⟩) hBl1).trans (C1.cell 1)⟩
 obtain ⟨hv,hhv⟩ :∃q,o.isSome=q:=⟨_,rfl⟩
 have HL:Hid (∀w,Below W1.heap.size W1 w→Calls Tryz.prog 96 #[.pointer (some ⟨P.s,0,none⟩),.int .i64 (rt:Int),.int .i64 (b:Int)] w fun e w'=>(∃(a:Int) (v:Nat),e=.returned (.tuple #[.agg #[.int .i64 a,.int .u64 (v:Int)],.bool hv,.bool sh,.int .i64 0]))∧Below W1.heap.size W1 w'∧Below w.heap.size w w'):=fun w hw=>by
  refine (hlk _ w (H1.out.keep hw).st).mono ?_
  rintro e w' ⟨rfl,q⟩
  obtain ⟨a,ha⟩:=entV_form (b:Int) o
  exact ⟨⟨a,o.getD 0,by rw[ha,hhv]⟩,hw.trans (q.mono hw.size),q⟩
 have HC1:=Hi C1
 have HZ1:=Hi hz1
 have HHV:=Hi hhv
 have HO:=Hi ho
 clear C1 x10 x11 z0 z1 z2 z3 hlk hz1 hhv ho
 go_cut [11,12,13] (fun s11 s12 s13 wx=>s11=.bool hv∧s12=.bool sh∧s13=.int .i64 0∧Hid (Below W1.heap.size W1 wx))
 case first=>
  have q0:Below W1.heap.size W1 W1.drew:=(Below.refl _ W1).drew
  have q1:Below W1.heap.size W1 (W1.alloc (.cells #[.int .i64 0,.int .u64 0] 94)).drew:=((Below.refl _ W1).alloc (Nat.le_refl _) _).drew
  go_region_held3 (fun w=>w.cell? ⟨M,10,none⟩=some (.pointer (some ⟨P.s,0,none⟩))∧w.cell? ⟨B,1,none⟩=some (.int .i64 (rt:Int)))
   (first|with_reducible exact HS0.out _ q0|with_reducible exact HS0.out _ q1|with_reducible exact HS0.out _ hb5|with_reducible exact HS0.out _ (hb5.alloc hb5.size _)|with_reducible exact HS0.out _ ((hb5.setCell (p:=⟨W1.heap.size,0,none⟩) (Nat.le_refl _) _).setCell (p:=⟨W1.heap.size,1,none⟩) (Nat.le_refl _) _))
   ((first|(go_at_call 96;(with_reducible refine (HL.out _ (by first|exact q0|exact q1)).mono ?_);rintro e w5 ⟨⟨a,v,rfl⟩,hb5,hbw5⟩;(first|(have hz:=Hi (ebox hbw5);have u0:w5.cell? ⟨W1.heap.size,0,none⟩=some (.int .i64 0):=hz.out.cell 0;have u1:w5.cell? ⟨W1.heap.size,1,none⟩=some (.int .u64 0):=hz.out.cell 1;have g0:=hz.out.free 0;have g1:=hz.out.free 1)|skip))))
  all_goals
   go_wp2_with fail
   go_meet
   first
    |exact ⟨rfl,rfl,rfl,hb5.alloc hb5.size _⟩
    |exact ⟨rfl,rfl,rfl,(hb5.setCell (p:=⟨W1.heap.size,0,none⟩) (Nat.le_refl _) _).setCell (p:=⟨W1.heap.size,1,none⟩) (Nat.le_refl _) _⟩
 case rest=>
  obtain ⟨rfl,rfl,rfl,hb2⟩:=hcut
  rename World=>w2
  have H2:=Hi (H1.out.keep hb2.out)
  have hf:=Hi (rfreemeta_any H2.out)
  have B2:=Hi (B1.trans (hb2.out.mono B1.size))
  clear HL HS0 HFI
  obtain rfl:hv=true:=by rw[←HHV.out,HO.out]
  have C2:=HC1.out.below hb2.out HC1.out.lt
  have hBl2:=C2.lt
  have hMl2:=H2.out.lt
  have hz1:=HZ1.out
  have hs2z:=hb2.out.size
  obtain ⟨_,_,_,_,_,_,c2,-⟩:=H2.out.cells
  have y10:=c2.cell 10
  clear c2
  go_wp2_with fail
  refine hf.out.mono ?_
  rintro e w' ⟨rfl,rfl⟩
  go_wp2_with fail
  refine wp_region_scr [(true,0),(true,1),(true,2),(true,3),(true,4),(true,5),(true,6),(false,7),(true,8),(true,9),(true,10),(true,11),(true,12),(true,13),(true,14),(true,15)] [16] 16 (by kernel_rfl) (by decide +kernel) (fun w=>w.cell? ⟨M,10,none⟩=some (.pointer (some ⟨P.s,0,none⟩))∧w.cell? ⟨B,1,none⟩=some (.int .i64 (rt:Int))) ⟨y10,C2.cell 1⟩ ?_
  simp only[pickS,pickL,List.getElem?_toArray,List.getElem?_cons_zero,List.getElem?_cons_succ]
  iterate 7
   refine ⟨?_,Or.inl ⟨by rfl,fun W' hS'=>?_⟩,fun _ _ _ h=>h,?_⟩
   rotate_left
   ·obtain ⟨y10,y1⟩:=hS'
    go_simp
    with_reducible rfl
   simp only[Act.put,List.setIfInBounds_toArray,List.set_cons_zero,List.set_cons_succ]
  refine wpScr_step (fun K hK=>?_)
  go_simp
  go_at_call 88
  refine (HDE.out _ w2.drew (H2.out.keep (Below.refl _ w2).drew).st).mono ?_
  rintro e w3 ⟨hf3,rfl,hs3⟩
  have C3:=Cs.fr (W:=w2.drew) C2 hf3 hBP
  refine hK _ _ ⟨(hf3.cell (i:=10) hMl2 hMP).trans y10,C3.cell 1⟩ ?_
  clear hK K
  iterate 8
   refine ⟨?_,Or.inl ⟨by rfl,fun W' hS'=>?_⟩,fun _ _ _ h=>h,?_⟩
   rotate_left
   ·go_simp
    with_reducible rfl
   simp only[Act.put,List.setIfInBounds_toArray,List.set_cons_zero,List.set_cons_succ]
  refine wpSeqL_list _ _ _ (by simp) ?_
  simp only[List.map_cons,List.map_nil]
  have hnM3:¬FN (fun j=>F j∧j<W.heap.size) w2 M:=fun q=>q.elim (fun e=>H0.out.nM e.1) (fun e=>by omega)
  have H3:=Hi ((H2.out.keep (Below.refl _ w2).drew).store hf3 hs3 (fun j hj _=>.inl hj) hnM3 rfl)
  have F3:=Hi ((Fr.of_below (G:=fun j=>P.has j∨j=M) B2.out).trans (((Fr.refl _ w2).drew.trans hf3).mono (fun j _ e=>.inl e)))
  obtain ⟨_,_,_,_,_,_,c3,-⟩:=H3.out.cells
  have y9:=c3.cell 9
  have hs3z:w2.heap.size≤w3.heap.size:=hf3.size
  have hM3:=H3.out.lt
  clear c3 hf3 hs3 y10
  go_wp2_with fail
  refine wp_region_scr [(true,0),(true,1),(true,2),(true,3),(true,4),(false,5)] [6] 6 (by kernel_rfl) (by decide +kernel) (fun w=>w.cell? ⟨M,9,none⟩=some (.pointer (some ⟨P.d.p,0,none⟩))) y9 ?_
  simp only[pickS,pickL,List.getElem?_toArray,List.getElem?_cons_zero,List.getElem?_cons_succ]
  iterate 5
   refine ⟨?_,Or.inl ⟨by rfl,fun W' hS'=>?_⟩,fun _ _ _ h=>h,?_⟩
   rotate_left
   ·go_simp
    with_reducible rfl
   simp only[Act.put,List.setIfInBounds_toArray,List.set_cons_zero,List.set_cons_succ]
  refine wpScr_step (fun K hK=>?_)
  go_simp
  go_at_call 95
  refine (HDA.out _).mono ?_
  rintro e w4 ⟨rfl,rfl⟩
  refine hK _ _ y9 ?_
  clear hK K
  have hdc:=rdec_any (H3.out.keep (Below.refl _ w3).drew).st.md (dOf old)
  rw[show Mp.decE _ (dOf old)=0 from HDD.out,if_pos rfl] at hdc
  have HDC:=Hi hdc
  clear hdc
  refine wpSeqL_list _ _ _ (by simp) ?_
  simp only[List.map_cons,List.map_nil]
  go_wp2_with fail
  refine HDC.out.mono ?_
  rintro e w5 ⟨rfl,hm5,hf5⟩
  have hs5:=(H3.out.keep (Below.refl _ w3).drew).st.daSet hm5 hf5
  have H5:=(H3.out.keep (Below.refl _ w3).drew).store (hf5.has has_dn) hs5 (fun j hj _=>hj) hnM3 rfl
  have hf5':=(Fr.refl (fun j=>P.has j∨j=M) w3).drew.trans (hf5.mono (fun j _ e=>(.inl (has_dn _ e):P.has j∨j=M)))
  have F5:=F3.out.trans hf5'
  have C5:=C3.fr hf5' (fun q=>q.elim hBP (fun e=>hMB e.symm))
  have hz5:=hf5'.size
  have hnB:∀j,FN (fun j=>F j∧j<W.heap.size) w2 j→¬j=B:=fun j hj e=>by
   rcases hj with q|q
   ·have:=q.2;omega
   ·omega
  have e1:IntKind.i64.wrap ((mp:Int) - 1)=(mp1:Int):=by rw[IntWalk.i64_in _ (by omega)];omega
  have k0:=C5.cell 0
  have k2:=C5.cell 2
  have k1:=C5.cell 1
  have f1:=C5.free 1
  have k3:=C5.cell 3
  have f3:=C5.free 3
  have C7:Cs ((w5.setCell ⟨B,1,none⟩ (.int .i64 (t1:Int))).setCell ⟨B,3,none⟩ (.int .i64 (mp1:Int))) B 91 #[.int .i64 (id:Int),.int .i64 (t1:Int),.int .i64 (tm:Int),.int .i64 (mp1:Int)]:=heap_setCell_same _ B 3 _ _ (.int .i64 (mp1:Int)) (heap_setCell_same _ B 1 _ _ (.int .i64 (t1:Int)) C5)
  have H7:=Hi ((H5.fr (fr_set w5 B 1 (.int .i64 (t1:Int))) hnB hMB).fr (fr_set _ B 3 (.int .i64 (mp1:Int))) hnB hMB)
  have F7:=Hi ((F5.set (b:=B) (i:=1) (.inr (by omega)) (.int .i64 (t1:Int))).set (b:=B) (i:=3) (.inr (by omega)) (.int .i64 (mp1:Int)))
  have hz7:((w5.setCell ⟨B,1,none⟩ (.int .i64 (t1:Int))).setCell ⟨B,3,none⟩ (.int .i64 (mp1:Int))).heap.size=w5.heap.size:=by simp
  have HZ7:=Hi hz7
  have HS:=rset27 _ _ M P _ H7.out ⟨id,t1,tm,mp1⟩ hid ht1 htd (by show mp1<16777216;omega) HI2.out hl64'.out
  have hdv2:(Dv.mk id t1 tm mp1).v=.agg #[.int .i64 (id:Int),.int .i64 (t1:Int),.int .i64 (tm:Int),.int .i64 (mp1:Int)]:=rfl
  rw[hdv2] at HS
  have HSS:=Hi HS
  have HC7:=Hi C7
  clear HS hdv2 C7 C5 C3 C2 hm5 hf5 hs5 hf5' y9 H5 F5 hz7 hz1
  go_wp2_with fail
  refine HSS.out.mono ?_
  rintro e w6 ⟨rfl,hr6⟩
  go_wp2_with fail
  go_ret
  have key:∀j,FN (FN (fun j=>F j∧j<W.heap.size) w2) ((w5.setCell ⟨B,1,none⟩ (.int .i64 (t1:Int))).setCell ⟨B,3,none⟩ (.int .i64 (mp1:Int))) j→FN F W j:=fun j hj=>by
   have hz1:=HZ1.out
   have hz7:=HZ7.out
   rcases hj with (q|q)|q
   ·exact .inl q.1
   ·exact .inr (by omega)
   ·exact .inr (by omega)
  exact ⟨rfl,hr6.si.wide (fun j hj _=>key j hj) (fun j hj=>key j (hr6.si.st.inF j hj)) (fun q=>q.elim H0.out.nM (fun e=>by omega)),F7.out.trans hr6.fr⟩
end
section
open Go.RowKit
attribute [local go_sem] Oper.semAt_some
theorem rmap27_no (W:World) (F:Nat→Prop) (M:Nat) (P:SP) (m:Mt) (h:MtIn W F M P m) (id b d:Nat) (hid:id≤65535) (hb16:b≤16777215) (hdd:d<m.data) (hpe:d∈m.pe) (hE:m.mapE id b d≠0) :
  Calls Tryz.prog 41 #[.pointer (some ⟨M,0,none⟩),.int .i64 (id:Int),.int .i64 (b:Int),.int .i64 (d:Int)] W fun e w'=>e=.returned (.int .i64 (m.mapE id b d))∧W=w':=by
 have hb:=Hi (rbadid_any id W hid)
 have hf:=Hi (rfreemeta_any h)
 have hip:=rispending_any h d
 rw[decide_eq_true hpe] at hip
 have HIP:=Hi hip
 obtain ⟨Ad,cd,Ao,co,Ap,cp,c1,r1,-⟩:=h.cells
 have hfi:=Hi (rfind27_any Ad m.dv.length cd m.dv id W rfl r1.reads (by have:=h.dl;omega))
 have x11:=c1.cell 11
 have x3:=c1.cell 3
 have HE:Hid (m.mapE id b d=if hasD m.dv id=false then 25 else if m.S.bl.free<32 then 26 else 0):=by
  show _=_
  unfold Mt.mapE
  rw[if_neg (by omega)]
  simp only[hpe,not_true_eq_false,if_false]
 obtain ⟨ho,hho⟩ :∃q,hasD m.dv id=q:=⟨_,rfl⟩
 obtain ⟨fr,hfr⟩ :∃q,m.S.bl.free=q:=⟨_,rfl⟩
 obtain ⟨E,hEE⟩ :∃q,m.mapE id b d=q:=⟨_,rfl⟩
 obtain ⟨kk,hkk⟩ :∃q,(fnd m.dv id).getD 0=q:=⟨_,rfl⟩
 rw[hho,hkk] at hfi
 rw[hho,hfr] at HE
 rw[hfr] at hf
 rw[hEE] at HE hE ⊢
 have d1:¬(b:Int)<0:=by omega
 have d3:¬(16777215:Int)<(b:Int):=by omega
 have d5:¬(d:Int)<0:=by omega
 have d6:¬(m.data:Int)≤(d:Int):=by omega
 clear c1 hho hfr hEE hkk h r1 hip hpe
 cases ho
 ·obtain rfl:E=25:=by have:=HE.out;rw[if_pos rfl] at this;exact this
  go_enter Tryz.func41,Tryz.ntmps41
  go_wp2_with fail
  refine hfi.out.mono ?_
  rintro e w' ⟨rfl,rfl⟩
  go_wp2_with fail
  refine hb.out.mono ?_
  rintro e w' ⟨rfl,rfl⟩
  go_wp2_with fail
  go_ret
  exact ⟨rfl,rfl⟩
 ·have h3:fr<32:=by
   have:=HE.out
   rw[if_neg (by simp)] at this
   by_cases q:fr<32
   ·exact q
   ·rw[if_neg q] at this
    exact absurd this hE
  obtain rfl:E=26:=by have:=HE.out;rw[if_neg (by simp),if_pos h3] at this;exact this
  have d9:(fr:Int)<32:=by omega
  go_enter Tryz.func41,Tryz.ntmps41
  go_wp2_with fail
  refine hfi.out.mono ?_
  rintro e w' ⟨rfl,rfl⟩
  go_wp2_with fail
  refine hb.out.mono ?_
  rintro e w' ⟨rfl,rfl⟩
  go_wp2_with fail
  refine HIP.out.mono ?_
  rintro e w' ⟨rfl,rfl⟩
  go_wp2_with fail
  refine hf.out.mono ?_
  rintro e w' ⟨rfl,rfl⟩
  go_wp2_with fail
  go_ret
  exact ⟨rfl,rfl⟩
theorem rnew26_any (W:World) (A:Addr) (n c bp dp seq:Nat) :
  Calls Tryz.prog 54 #[.slice (some A) n c,.pointer (some ⟨bp,0,none⟩),.pointer (some ⟨dp,0,none⟩),.int .i64 (seq:Int)] W fun e w'=>e=.returned (.pointer (some ⟨W.heap.size+1,0,none⟩))∧(W.alloc (.map #[] 0)).alloc (.cells #[.slice (some A) n c,.pointer (some ⟨bp,0,none⟩),.pointer (some ⟨dp,0,none⟩),.int .i64 (seq:Int),.map (some W.heap.size)] 152)=w':=by
 have hmm:=@run_makeMap Tryz.prog
 go_enter Tryz.func54,Tryz.ntmps54
 go_wp2_with fail
 go_ret
 refine ⟨?_,rfl⟩
 simp
end
section
open Go.RowKit
attribute [local go_sem] Oper.semAt_some
section
variable {W W':World} {F F' G:Nat→Prop} {M:Nat} {P P':SP} {m:Mt} {S:St} {ws:List Nat}
theorem MtIn.storeP (h:MtIn W F M P m) (hf:Fr P.has W W') {S':St} {ws':List Nat} (hs:StIn W' F' P' S' ws') (hp:P'.w=P.w∧P'.cw=P.cw∧P'.b.p=P.b.p∧P'.d.p=P.d.p∧P'.s=P.s) (hO:∀j,OutF F P j→j<W.heap.size→OutF F' P' j) (hnM:¬F' M) (hw:ws'.length=m.ws.length):MtIn W' F' M P' { m with S:=S',ws:=ws' }:=by
 have hMP:=h.nP
 obtain ⟨⟨vd,vo,vp,c1,r1,r2,r3⟩,h2,h3,h4,h5,h6⟩:=h
 obtain ⟨p1,p2,p3,p4,p5⟩:=hp
 refine ⟨⟨vd,vo,vp,?_,((r1.wide (Out':=fun j=>OutF F P j∧j<W.heap.size) (fun j hj hl=>⟨hj,hl⟩)).fr (dvv_ne _) hf (fun j hj=>hj.1.2)).wide (fun j hj _=>hO j hj.1 hj.2),((r2.wide (Out':=fun j=>OutF F P j∧j<W.heap.size) (fun j hj hl=>⟨hj,hl⟩)).fr (dvv_ne _) hf (fun j hj=>hj.1.2)).wide (fun j hj _=>hO j hj.1 hj.2),((r3.wide (Out':=fun j=>OutF F P j∧j<W.heap.size) (fun j hj hl=>⟨hj,hl⟩)).fr (nv_ne _) hf (fun j hj=>hj.1.2)).wide (fun j hj _=>hO j hj.1 hj.2)⟩,hs,hnM,h4,h5,h6⟩
 have:=c1.fr hf hMP
 show Cs W' M _ #[.slice (some ⟨P'.w,0,none⟩) ws'.length P'.cw,_,_,_,_,_,_,_,.pointer (some ⟨P'.b.p,0,none⟩),.pointer (some ⟨P'.d.p,0,none⟩),.pointer (some ⟨P'.s,0,none⟩),_,_,_,_]
 rw[hw,p1,p2,p3,p4,p5]
 exact this
theorem MtIn.set_od (h:MtIn W F M P m) {L:List Dv} {v:Value} (hr:RowO W (OutF F P) (dvv L) L.length v) (hl:L.length≤64):MtIn (W.setCell ⟨M,12,none⟩ v) F M P { m with od:=L }:=by
 have hs:=h.wrap (i:=12) v
 have hnM:=h.nM
 obtain ⟨⟨vd,vo,vp,c1,r1,r2,r3⟩,h2,h3,h4,h5,h6⟩:=h
 have hc:=heap_setCell_same _ M 12 _ _ v c1
 exact ⟨⟨vd,v,vp,hc,r1.wrap (dvv_ne _) (fun q=>hnM q.1),hr.wrap (dvv_ne _) (fun q=>hnM q.1),r3.wrap (nv_ne _) (fun q=>hnM q.1)⟩,hs,h3,h4,hl,h6⟩
theorem StIn.blComm (h:StIn W F P S ws) {g c:Nat} (hm:MapIn W' { P.b with go:=g,co:=c } ⟨S.bl.now,S.bl.now⟩) (hf:Fr (· =P.b.p) W W') (hg:W.heap.size≤g):StIn W' (fun j=>F j∨j=g) { P with b:={ P.b with go:=g,co:=c } } { S with bl:=⟨S.bl.now,S.bl.now⟩ } ws:=by
 obtain ⟨n1,n2,n3,n4,n5⟩:=h.ne
 have hlt:=h.lt
 have hbp:P.b.has P.b.p:=.inl rfl
 have hpb:=(n2 _ hbp)
 have hnd:∀j,P.d.has j→¬j=P.b.p:=fun j hj e=>h.ap _ hbp (by rw[←e];exact hj)
 have hinF:=h.inF
 refine ⟨h.cs.fr hf (fun e=>hpb.2.1 e.symm),hm,h.md.fr hf hnd,own_fr h.wr hf (fun q hq e=>hpb.2.2 (by simp[Value.ownBlock] at hq;omega)),h.w64,h.wl,h.dk,?_,?_,?_,h.sq⟩
 ·exact (h.ch.wide (Out':=fun j=>(F j∨j=g)∧¬({ P with b:={ P.b with go:=g,co:=c } }:SP).has j) (fun j hj hl=>⟨.inl hj.1,fun q=>by
   rcases q with q|(q|q|q)|q
   ·exact hj.2 (.inl q)
   ·exact hj.2 (.inr (.inl (.inl q)))
   ·exact hj.2 (.inr (.inl (.inr (.inl q))))
   ·have:j=g:=q
    omega
   ·exact hj.2 (.inr (.inr q))⟩)).fr hf (fun e=>hpb.1 e.symm) (fun j hj e=>hj.2 (.inr (.inl (.inl e))))
 ·intro j hj
  rcases hj with q|(q|q|q)|q
  ·exact .inl (hinF j (.inl q))
  ·exact .inl (hinF j (.inr (.inl (.inl q))))
  ·exact .inl (hinF j (.inr (.inl (.inr (.inl q)))))
  ·exact .inr q
  ·exact .inl (hinF j (.inr (.inr q)))
 ·intro j hj hd
  rcases hj with q|q|q
  ·exact h.ap j (.inl q) hd
  ·exact h.ap j (.inr (.inl q)) hd
  ·have:j=g:=q
   have:=hlt j (.inr (.inr (.inl hd)))
   omega
theorem StIn.daComm (h:StIn W F P S ws) {g c:Nat} (hm:MapIn W' { P.d with go:=g,co:=c } ⟨S.da.now,S.da.now⟩) (hf:Fr (· =P.d.p) W W') (hg:W.heap.size≤g):StIn W' (fun j=>F j∨j=g) { P with d:={ P.d with go:=g,co:=c } } { S with da:=⟨S.da.now,S.da.now⟩ } ws:=by
 obtain ⟨n1,n2,n3,n4,n5⟩:=h.ne
 have hlt:=h.lt
 have hbp:P.d.has P.d.p:=.inl rfl
 have hpb:=(n3 _ hbp)
 have hnd:∀j,P.b.has j→¬j=P.d.p:=fun j hj e=>h.ap _ hj (by rw[e];exact hbp)
 have hinF:=h.inF
 refine ⟨h.cs.fr hf (fun e=>hpb.2.1 e.symm),h.mb.fr hf hnd,hm,own_fr h.wr hf (fun q hq e=>hpb.2.2 (by simp[Value.ownBlock] at hq;omega)),h.w64,h.wl,h.dk,?_,?_,?_,h.sq⟩
 ·exact (h.ch.wide (Out':=fun j=>(F j∨j=g)∧¬({ P with d:={ P.d with go:=g,co:=c } }:SP).has j) (fun j hj hl=>⟨.inl hj.1,fun q=>by
   rcases q with q|q|(q|q|q)|q
   ·exact hj.2 (.inl q)
   ·exact hj.2 (.inr (.inl q))
   ·exact hj.2 (.inr (.inr (.inl (.inl q))))
   ·exact hj.2 (.inr (.inr (.inl (.inr (.inl q)))))
   ·have:j=g:=q
    omega
   ·exact hj.2 (.inr (.inr (.inr q)))⟩)).fr hf (fun e=>hpb.1 e.symm) (fun j hj e=>hj.2 (.inr (.inr (.inl (.inl e)))))
 ·intro j hj
  rcases hj with q|q|(q|q|q)|q
  ·exact .inl (hinF j (.inl q))
  ·exact .inl (hinF j (.inr (.inl q)))
  ·exact .inl (hinF j (.inr (.inr (.inl (.inl q)))))
  ·exact .inl (hinF j (.inr (.inr (.inl (.inr (.inl q))))))
  ·exact .inr q
  ·exact .inl (hinF j (.inr (.inr (.inr q))))
 ·intro j hj hd
  rcases hd with q|q|q
  ·exact h.ap j hj (.inl q)
  ·exact h.ap j hj (.inr (.inl q))
  ·have:j=g:=q
   have:=hlt j (.inr (.inl hj))
   omega
theorem StIn.setSeq (h:StIn W F P S ws) {x:Nat} (hx:x≤16777216):StIn (W.setCell ⟨P.s,3,none⟩ (.int .i64 (x:Int))) F P { S with seq:=x } ws:=by
 obtain ⟨n1,n2,n3,n4,n5⟩:=h.ne
 have hf:=fr_set W P.s 3 (.int .i64 (x:Int))
 exact ⟨heap_setCell_same _ P.s 3 _ _ (.int .i64 (x:Int)) h.cs,h.mb.fr hf (fun j hj=>(n2 j hj).2.1),h.md.fr hf (fun j hj=>(n3 j hj).2.1),own_fr h.wr hf (fun q hq e=>n5 (by simp[Value.ownBlock] at hq;omega)),h.w64,h.wl,h.dk,h.ch.fr hf n1 (fun j hj e=>hj.2 (.inl e)),h.inF,h.ap,hx⟩
end
end
section
open Go.RowKit
section
variable {W W':World} {F:Nat→Prop} {M:Nat} {P:SP} {m:Mt}
theorem MtIn.words (h:MtIn W F M P m) {l:Nat} (hl0:m.ws.length=l) {ws':List Nat} (hr:W'.ownsRow 0 39 1 (.slice (some ⟨P.w,0,none⟩) l P.cw) l (uv ws')) (hf:Fr (· =P.w) W W') (hl:ws'.length=l) (h64:W64 ws'):MtIn W' F M P { m with S:={ m.S with dk:=dkW ws' },ws:=ws' }:=by
 subst hl0
 exact h.store (hf.mono (fun j _ e=>.inr (.inr (.inr (.inl e))))) (h.st.words hr hf hl h64) (fun j hj _=>hj) h.nM hl
theorem MtIn.word (h:MtIn W F M P m) {i v l:Nat} (hl0:m.ws.length=l) (hi:i<l) (hv:v<18446744073709551616):MtIn (W.setCell ⟨P.w,i,none⟩ (.int .u64 (v:Int))) F M P { m with S:={ m.S with dk:=dkW (m.ws.set i v) },ws:=m.ws.set i v }:=by
 refine h.words hl0 ?_ (fr_set W P.w i (.int .u64 (v:Int))) (by rw[List.length_set,hl0]) (fun x hx=>?_)
 ·have hst:=(h.st.wr.stored i (.int .u64 (v:Int))).1
  rw[uv_set,hl0] at hst
  exact hst
 ·rcases List.mem_or_eq_of_mem_set hx with q|q
  ·exact h.st.w64 x q
  ·rw[q];exact hv
theorem MtIn.wordAt (h:MtIn W F M P m) {i l:Nat} (hl0:m.ws.length=l) (hi:i<l):W.cell? ⟨P.w,i,none⟩=some (.int .u64 ((m.ws[i]?.getD 0:Nat):Int)):=by
 have hk0:=h.st.wr.cellAt i (by rw[hl0];omega)
 rw[uv_at _ _ (by rw[hl0];exact hi)] at hk0
 exact hk0
end
def Mt.rel (m:Mt) (k:Nat):Mt:={ m with S:={ m.S with da:=m.S.da.decs (m.pe.take k) },pe:=m.pe.drop k }
theorem rel_succ (m:Mt) (hd:m.done=true) {k:Nat} (hk:k<m.pe.length):(m.rel k).freed m.pe[k]=m.rel (k+1):=by
 unfold Mt.freed Mt.rel
 have e1:m.pe.drop k=m.pe[k] :: m.pe.drop (k+1):=(List.drop_eq_getElem_cons hk)
 have e2:(m.S.da.decs (m.pe.take k)).dec m.pe[k]=m.S.da.decs (m.pe.take (k+1)):=by
  rw[List.take_succ_eq_append_getElem hk]
  unfold Mp.decs
  rw[List.foldl_append]
  rfl
 simp only[e2]
 rw[e1,List.erase_cons_head,hd]
def Mt.w1 (m:Mt):List Nat:=cpL m.ws (arAt m.data (1 - m.area)) (arW m.S.da.now) 0 (arB m.data * 16)
def Mt.w2 (m:Mt):List Nat:=m.S.wrts m.w1 m.S.listB
def Mt.w3 (m:Mt) (nb:Nat):List Nat:=cpL m.w2 (nb * 16) (rtW nb (m.seq+1) m.tree m.time m.data m.chunk (1 - m.area) (shortC (extendC 0 (arW m.S.da.now)))) 0 16
def Mt.w4 (m:Mt) (nb:Nat):List Nat:=(m.w3 nb).set 0 (cwW nb (m.seq+1))
def Mt.commW (m:Mt) (nb:Nat) (w:List Nat):Mt:={ m with
 S:={ dk:=dkW w,bl:=⟨((m.S.bl.setN nb 1).dec m.root).now,((m.S.bl.setN nb 1).dec m.root).now⟩,da:=⟨m.S.da.now,m.S.da.now⟩,seq:=m.seq+2,ch:=fun _=>none },
 ws:=w,seq:=m.seq+1,area:=1 - m.area,root:=nb,od:=m.dv,done:=false }
def Mt.comm (m:Mt) (nb:Nat):Mt:=m.commW nb (m.w4 nb)
theorem commW_ws (m:Mt) (nb:Nat) (w:List Nat):(m.commW nb w).ws=w:=rfl
theorem comm_ws (m:Mt) (nb:Nat):(m.comm nb).ws=m.w4 nb:=commW_ws m nb _
structure ComP (m:Mt) (nb:Nat):Prop where
 dn:m.done=true
 sq:m.seq<16777215
 pd:∀d∈m.pe,d<m.data
 de:∀k (hk:k<m.pe.length),(m.S.da.decs (m.pe.take k)).decE m.pe[k]=0
 dl:m.S.da.now.length=m.data
 d1:1≤m.data
 d2:m.data≤16384
 ar:m.area≤1
 sz:(2 * arB m.data+49) * 16≤m.ws.length
 vn:∀b∈m.S.listB,∀n,m.S.ch b=some n→validN (n.lv:Int) (n.sq:Int) n.es=0
 bw:m.S.bl.now.length * 16≤m.ws.length
 b4:m.S.bl.now.length≤4096
 pk:m.S.bl.pick=some nb
 rt:(m.S.bl.setN nb 1).decE m.root=0
 tr:m.tree≤1000000000
 tm:m.time≤1000000000
 ck:m.chunk≤1000000000
theorem rtW_w (nb sq tr tm da ck ar sm:Nat) (h1:sq<18446744073709551616) (h2:tr<18446744073709551616) (h3:tm<18446744073709551616) (h4:da<18446744073709551616) (h5:ck<18446744073709551616) (h6:ar<18446744073709551616) (h7:sm<18446744073709551616):W64 (rtW nb sq tr tm da ck ar sm):=by
 unfold rtW
 refine sealN_w _ (fun x hx=>?_)
 have hhd:=hdN_lt 1 0 0 (nb:Int)
 unfold rtL at hx
 simp only[List.mem_cons,List.not_mem_nil,or_false] at hx
 omega
theorem decs_len (l:List Nat):∀m:Mp,(m.decs l).now.length=m.now.length:=by
 induction l with
 |nil=>intro m;rfl
 |cons x l ih=>
  intro m
  show ((m.dec x).decs l).now.length=_
  rw[ih]
  exact Mp.setN_len _ _ _
theorem ComP.rel {m:Mt} {nb:Nat} (h:ComP m nb):ComP (m.rel m.pe.length) nb:=
 ⟨h.dn,h.sq,(fun d hd=>h.pd d (List.mem_of_mem_drop hd)),(fun k hk=>by
  exfalso
  have:(m.pe.drop m.pe.length).length=0:=by rw[List.length_drop];omega
  have hk2:k<(m.pe.drop m.pe.length).length:=hk
  omega),(decs_len _ _).trans h.dl,h.d1,h.d2,h.ar,h.sz,h.vn,h.bw,h.b4,h.pk,h.rt,h.tr,h.tm,h.ck⟩
end
end Go.Proofs.YtplhdjdkobddnaaGreat
