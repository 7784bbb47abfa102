/- MtB -/
import Derived.Test.YtplhdjdkobddnaaGreatTr27
set_option linter.unusedVariables false
set_option maxRecDepth 100000
set_option maxHeartbeats 40000000
namespace Go.Proofs.YtplhdjdkobddnaaGreat
section
open Go.RowKit
attribute [local go_sem] Oper.semAt_some
def insK (d:Dv) (s:List Dv × Bool) (x:Dv):List Dv × Bool:=
 let s1:=if d.id≤x.id∧s.2=false then (s.1++ [d],true) else s
 (if x.id=d.id then s1.1 else s1.1++ [x],s1.2)
def insTo (l:List Dv) (d:Dv) (k:Nat):List Dv × Bool:=(l.take k).foldl (insK d) ([],false)
def insF (l:List Dv) (d:Dv):List Dv:=if (insTo l d l.length).2=true then (insTo l d l.length).1 else (insTo l d l.length).1++ [d]
theorem insTo_succ (l:List Dv) (d:Dv) (k:Nat) (h:k<l.length):insTo l d (k+1)=insK d (insTo l d k) l[k]:=by
 unfold insTo
 rw[List.take_succ_eq_append_getElem h,List.foldl_append]
 rfl
def Mt.setD (m:Mt) (d:Dv) (t:Nat) (S':St):Mt:={ m with S:=S',tree:=t,dv:=insF m.dv d,done:=true }
theorem dv_reads {w:World} {A:Option Addr} {l:List Dv} (h:Reads w A (dvv l)) {k:Nat} (hk:k<l.length):∃b off,A=some ⟨b,off,none⟩∧b<w.heap.size∧w.cell? ⟨b,off+k * 4,none⟩=some (.int .i64 ((l[k].id:Nat):Int))∧w.cell? ⟨b,off+k * 4+1,none⟩=some (.int .i64 ((l[k].rt:Nat):Int))∧w.cell? ⟨b,off+k * 4+2,none⟩=some (.int .i64 ((l[k].tm:Nat):Int))∧w.cell? ⟨b,off+k * 4+3,none⟩=some (.int .i64 ((l[k].mp:Nat):Int)):=by
 obtain ⟨b,off,e,hb,hc⟩:=h (by rw[dvv_length];omega)
 obtain ⟨q0,q1,q2,q3⟩:=dvv_at l k hk
 exact ⟨b,off,e,hb,hc _ _ q0,hc _ _ q1,hc _ _ q2,hc _ _ q3⟩
theorem rset27_any (W:World) (F:Nat→Prop) (M:Nat) (P:SP) (m:Mt) (h:MtIn W F M P m) (d:Dv) (hd1:d.id≤65535) (hd2:d.rt<1048576) (hd3:d.tm<1048576) (hd4:d.mp<16777216) (t:Nat) (S':St)
  (HI:Hid (∀w,Below W.heap.size W w→Calls Tryz.prog 91 #[.pointer (some ⟨P.s,0,none⟩),.int .i64 (m.tree:Int),.int .i64 (d.id:Int),.int .u64 (d.val:Int),.bool false] w fun e w'=>Fr P.has w w'∧∃(old:Nat) (had:Bool),e=.returned (.tuple #[.int .i64 (t:Int),.int .u64 (old:Int),.bool had,.int .i64 0])∧StIn w' (FN F w) P S' m.ws)) (hl64:(insF m.dv d).length≤64) :
  Calls Tryz.prog 84 #[.pointer (some ⟨M,0,none⟩),d.v] W fun e w'=>e=.returned (.int .i64 0)∧MtIn w' (FN F W) M P (m.setD d t S')∧Fr (fun j=>P.has j∨j=M) W w':=by
 obtain ⟨i0,hi0,hz0,hz1,hz2⟩:=info_parts device_info
 have hM:=h.lt
 have hnM:=h.nM
 have hPlt:=Hi h.st.lt
 have hinF:=Hi h.st.inF
 have hdl:=h.dl
 have hol:=h.ol
 have hpl:=h.pl
 have HH:=Hi h
 have H:=Hi h.tight
 obtain ⟨⟨vd,vo,vp,c1,r1,r2,r3⟩,-⟩:=H.out
 obtain ⟨Ad,cd,rfl⟩:=r1.form
 have HR1:=Hi r1
 have HR2:=Hi r2
 have HR3:=Hi r3
 have HC1:=Hi c1
 have x7:=c1.cell 7
 have x10:=c1.cell 10
 obtain ⟨did,drt,dtm,dmp⟩:=d
 dsimp only at hd1 hd2 hd3 hd4
 have HV:Hid ((Dv.mk did drt dtm dmp).v=.agg #[.int .i64 (did:Int),.int .i64 (drt:Int),.int .i64 (dtm:Int),.int .i64 (dmp:Int)]):=rfl
 have HVA:=Hi (fun w=>rvalue_any did drt dtm dmp w hd2 hd3 hd4)
 have hval:(Dv.mk did drt dtm dmp).val=dvV drt dtm dmp:=rfl
 rw[hval] at HI
 dsimp only at HI
 obtain ⟨val,hv2⟩ :∃q,dvV drt dtm dmp=q:=⟨_,rfl⟩
 rw[hv2] at HI HVA
 rw[HV.out]
 have B1:Below W.heap.size W (W.alloc (.cells #[.int .i64 (did:Int),.int .i64 (drt:Int),.int .i64 (dtm:Int),.int .i64 (dmp:Int)] 91)):=(Below.refl _ W).alloc (Nat.le_refl _) _
 have C1:=Cs.new W 91 #[.int .i64 (did:Int),.int .i64 (drt:Int),.int .i64 (dtm:Int),.int .i64 (dmp:Int)]
 clear hval hv2 c1 r1 r2 r3 h
 go_enter Tryz.func84,Tryz.ntmps84
 go_wp2_with fail
 generalize (W.alloc (.cells #[.int .i64 (did:Int),.int .i64 (drt:Int),.int .i64 (dtm:Int),.int .i64 (dmp:Int)] 91))=W1 at *
 have hb1s:=B1.size
 have C1l:=C1.lt
 obtain ⟨B,hB⟩ :∃q,W.heap.size=q:=⟨_,rfl⟩
 rw[hB] at C1 C1l ⊢
 have HS0:Hid (∀w,Below W.heap.size W w→w.cell? ⟨M,7,none⟩=some (.int .i64 (m.tree:Int))∧w.cell? ⟨M,10,none⟩=some (.pointer (some ⟨P.s,0,none⟩))):=fun w hw=>⟨(hw.cell (p:=⟨M,7,none⟩) hM).trans x7,(hw.cell (p:=⟨M,10,none⟩) hM).trans x10⟩
 refine wp_region_scr [(true,0),(true,1),(true,2),(true,3),(true,4),(true,5),(true,6),(true,7),(true,8),(true,9),(true,10),(false,11),(false,12),(true,13),(true,14),(true,15),(true,16),(true,17),(true,18),(true,19),(true,20)] [21] 21 (by kernel_rfl) (by decide +kernel) (fun w=>(w.cell? ⟨M,7,none⟩=some (.int .i64 (m.tree:Int))∧w.cell? ⟨M,10,none⟩=some (.pointer (some ⟨P.s,0,none⟩)))∧w.cell? ⟨B,0,none⟩=some (.int .i64 (did:Int))∧w.cell? ⟨B,1,none⟩=some (.int .i64 (drt:Int))∧w.cell? ⟨B,2,none⟩=some (.int .i64 (dtm:Int))∧w.cell? ⟨B,3,none⟩=some (.int .i64 (dmp:Int))) ⟨HS0.out _ B1.drew,C1.cell 0,C1.cell 1,C1.cell 2,C1.cell 3⟩ ?_
 simp only[pickS,pickL,List.getElem?_toArray,List.getElem?_cons_zero,List.getElem?_cons_succ]
 iterate 11
  refine ⟨?_,Or.inl ⟨by rfl,fun W' hS'=>?_⟩,fun _ _ _ h=>h,?_⟩
  rotate_left
  ·obtain ⟨⟨y7,y10⟩,y0,y1,y2,y3⟩:=hS'
   go_simp
   with_reducible rfl
  simp only[Act.put,List.setIfInBounds_toArray,List.set_cons_zero,List.set_cons_succ]
 refine wpScr_step (fun K hK=>?_)
 go_simp
 go_at_call 120
 refine (HVA.out _).mono ?_
 rintro e w2 ⟨rfl,hb2⟩
 have B2:Below W.heap.size W w2:=B1.drew.trans (hb2.mono hb1s)
 have C2:Cs w2 B 91 #[.int .i64 (did:Int),.int .i64 (drt:Int),.int .i64 (dtm:Int),.int .i64 (dmp:Int)]:=Cs.below (w:=W1.drew) C1 hb2 C1l
 refine hK _ _ ⟨HS0.out _ B2,C2.cell 0,C2.cell 1,C2.cell 2,C2.cell 3⟩ ?_
 clear hK K
 refine wpScr_step (fun K hK=>?_)
 go_simp
 go_at_call 91
 refine (HI.out _ B2).mono ?_
 rintro e w3 ⟨hf3,old,had,rfl,hs3⟩
 have hMP:¬P.has M:=fun q=>hnM (hinF.out _ q)
 have hBP:¬P.has B:=fun q=>by have:=hPlt.out _ q;omega
 have hM2:M<w2.heap.size:=Nat.lt_of_lt_of_le hM B2.size
 have C3:=C2.fr hf3 hBP
 refine hK _ _ ⟨⟨(hf3.cell hM2 hMP).trans (HS0.out _ B2).1,(hf3.cell hM2 hMP).trans (HS0.out _ B2).2⟩,C3.cell 0,C3.cell 1,C3.cell 2,C3.cell 3⟩ ?_
 clear hK K
 iterate 8
  refine ⟨?_,Or.inl ⟨by rfl,fun W' hS'=>?_⟩,fun _ _ _ h=>h,?_⟩
  rotate_left
  ·go_simp
   with_reducible rfl
  simp only[Act.put,List.setIfInBounds_toArray,List.set_cons_zero,List.set_cons_succ]
 refine wpSeqL_list _ _ _ (by simp) ?_
 simp only[List.map_cons,List.map_nil]
 have CM3:Cs w3 M 82 _:=(HC1.out.below B2 hM).fr hf3 hMP
 have f7:=CM3.free 7
 have f14:=CM3.free 14
 have g7:=CM3.cell 7
 have g14:=CM3.cell 14
 have CM4:Cs ((w3.setCell ⟨M,7,none⟩ (.int .i64 (t:Int))).setCell ⟨M,14,none⟩ (.bool true)) M 82 #[.slice (some ⟨P.w,0,none⟩) m.ws.length P.cw,.int .i64 (m.seq:Int),.int .i64 (m.time:Int),.int .i64 (m.data:Int),.int .i64 (m.chunk:Int),.int .i64 (m.area:Int),.int .i64 (m.root:Int),.int .i64 (t:Int),.pointer (some ⟨P.b.p,0,none⟩),.pointer (some ⟨P.d.p,0,none⟩),.pointer (some ⟨P.s,0,none⟩),.slice Ad m.dv.length cd,vo,vp,.bool true]:=heap_setCell_same _ M 14 _ _ (.bool true) (heap_setCell_same _ M 7 _ _ (.int .i64 (t:Int)) CM3)
 have F4a:Fr (fun j=>P.has j∨j=M) w3 ((w3.setCell ⟨M,7,none⟩ (.int .i64 (t:Int))).setCell ⟨M,14,none⟩ (.bool true)):=((Fr.refl _ w3).set (.inl (.inr rfl)) _).set (.inl (.inr rfl)) _
 have hf3m:Fr (fun j=>P.has j∨j=M) w2 w3:=hf3.mono (fun j _ e=>.inl e)
 have F4:Fr (fun j=>P.has j∨j=M) W ((w3.setCell ⟨M,7,none⟩ (.int .i64 (t:Int))).setCell ⟨M,14,none⟩ (.bool true)):=((Fr.of_below B2).trans hf3m).trans F4a
 have hB2w:B<w2.heap.size:=C2.lt
 have hBM:¬B=M:=by omega
 have C4:=C3.fr F4a (fun q=>q.elim hBP hBM)
 have hnFN:¬FN F W M:=fun q=>q.elim hnM (fun e=>by omega)
 have HM4:=Hi ((((HH.out.keep B2).store hf3 (hs3.wide (F':=FN F W) (fun j hj _=>hj.elim .inl (fun q=>.inr (Nat.le_trans B2.size q))) (fun j hj=>.inl (hinF.out j hj))) (fun j hj _=>.inl hj) hnFN rfl).set_tree t).set_done true)
 have hnO:∀j,OutF (fun j=>F j∧j<W.heap.size) P j→¬(P.has j∨j=M):=fun j hj q=>q.elim hj.2 (fun e=>hnM (by rw[←e];exact hj.1.1))
 have HR1b:=Hi (HR1.out.fr (dvv_ne _) F4 hnO)
 have HCM:=Hi CM4
 have HF4:=Hi F4
 have HB4:=Hi C4
 clear CM4 F4 F4a C4 HR1 HR2 HR3 hf3m hnO HS0 HH HI HVA C3 C2 C1 B2 B1 hs3 hf3 x7 x10
 go_wp2_with fail
 generalize ((w3.setCell ⟨M,7,none⟩ (.int .i64 (t:Int))).setCell ⟨M,14,none⟩ (.bool true))=w4 at *
 have hMl4:=HCM.out.lt
 have hBl4:=HB4.out.lt
 obtain ⟨N,hN⟩ :∃N,m.dv.length=N:=⟨_,rfl⟩
 have HN:=Hi hN
 rw[hN] at hdl
 have e11:w4.cell? ⟨M,11,none⟩=some (.slice Ad m.dv.length cd):=HCM.out.cell 11
 rw[hN] at e11
 clear hN
 obtain ⟨D,hD⟩ :∃q,Dv.mk did drt dtm dmp=q:=⟨_,rfl⟩
 rw[hD] at hl64
 have HD:=Hi hD
 clear hD
 go_loopw [9,10,11] (fun s9 s10 s11 wr=>∃(k:Nat) (A:Option Addr) (c n:Nat) (p:Bool),k≤N∧s9=.slice A n c∧s10=.bool p∧s11=.int .i64 k∧n≤2 * k∧Hid ((insTo m.dv D k).1.length=n∧(insTo m.dv D k).2=p)∧Hid (wr.ownsRow w4.heap.size 91 4 (.slice A n c) n (dvv (insTo m.dv D k).1))∧Hid (Below w4.heap.size w4 wr)) (fun _ _ s11 _=>N - (intOf s11).toNat)
 case atStart=>exact ⟨0,none,0,0,false,Nat.zero_le _,rfl,rfl,rfl,Nat.le_refl _,⟨rfl,rfl⟩,World.ownsRow_nil _ _ _ _,Below.refl _ _⟩
 case round=>
  obtain ⟨k,A,c,n,p,hk,rfl,rfl,rfl,hnk,hnp,ho,hb⟩:=hrel
  have x11:=(hb.out.cell (p:=⟨M,11,none⟩) hMl4).trans e11
  have y0:=(hb.out.cell (p:=⟨B,0,none⟩) hBl4).trans (HB4.out.cell 0)
  have y1:=(hb.out.cell (p:=⟨B,1,none⟩) hBl4).trans (HB4.out.cell 1)
  have y2:=(hb.out.cell (p:=⟨B,2,none⟩) hBl4).trans (HB4.out.cell 2)
  have y3:=(hb.out.cell (p:=⟨B,3,none⟩) hBl4).trans (HB4.out.cell 3)
  have hMr:M<wr.heap.size:=Nat.lt_of_lt_of_le hMl4 hb.out.size
  have hBr:B<wr.heap.size:=Nat.lt_of_lt_of_le hBl4 hb.out.size
  by_cases hlt:k<N
  ·have hkl:k<m.dv.length:=by rw[HN.out];exact hlt
   obtain ⟨b,off,rfl,hbl,z0,z1,z2,z3⟩:=dv_reads (HR1b.out.reads.keep hb.out) hkl
   have HSU:=Hi (insTo_succ m.dv D k hkl)
   obtain ⟨x,hx⟩ :∃x,m.dv[k]=x:=⟨_,rfl⟩
   have hx0:=hx
   rw[hx] at z0 z1 z2 z3 HSU
   obtain ⟨xi,xr,xt,xm⟩:=x
   dsimp only at z0 z1 z2 z3
   clear hx
   obtain ⟨_,_,e0,hbl4,z04,z14,z24,z34⟩:=dv_reads HR1b.out.reads hkl
   injection e0 with e0
   injection e0 with e0 e1
   subst e0 e1
   rw[hx0] at z04 z14 z24 z34
   dsimp only at z04 z14 z24 z34
   clear hx0
   by_cases ha:did≤xi
   ·have d1:(did:Int)≤(xi:Int):=by omega
    cases p
    ·by_cases hc:xi=did
     ·have d3:((xi:Int) != (did:Int))=false:=by simp;omega
      have d4:(xi:Int)=(did:Int):=by omega
      go_wp2_with fail
      go_quiet (fail)
      have hb6a:∀q:Nat,Below wr.heap.size wr ((wr.drewN q).alloc (.cells #[.int .i64 (did:Int),.int .i64 (drt:Int),.int .i64 (dtm:Int),.int .i64 (dmp:Int)] 91)):=fun q=>(show Below wr.heap.size wr (wr.drewN q) from ⟨rfl,rfl,rfl,Nat.le_refl _,fun _ _=>rfl⟩).alloc (Nat.le_refl _) _
      have hrd6a:∀q:Nat,Reads ((wr.drewN q).alloc (.cells #[.int .i64 (did:Int),.int .i64 (drt:Int),.int .i64 (dtm:Int),.int .i64 (dmp:Int)] 91)) (some ⟨wr.heap.size,0,none⟩) [.int .i64 (did:Int),.int .i64 (drt:Int),.int .i64 (dtm:Int),.int .i64 (dmp:Int)]:=fun q=>Reads.new (wr.drewN q) _ _
      have hs6a:∀q:Nat,w4.heap.size≤((wr.drewN q).alloc (.cells #[.int .i64 (did:Int),.int .i64 (drt:Int),.int .i64 (dtm:Int),.int .i64 (dmp:Int)] 91)).heap.size:=fun q=>Nat.le_trans hb.out.size (hb6a q).size
      have hl6a:∀q i:Nat,((wr.drewN q).alloc (.cells #[.int .i64 (did:Int),.int .i64 (drt:Int),.int .i64 (dtm:Int),.int .i64 (dmp:Int)] 91)).cell? ⟨wr.heap.size,i,none⟩=(#[.int .i64 (did:Int),.int .i64 (drt:Int),.int .i64 (dtm:Int),.int .i64 (dmp:Int)]:Array Value)[i]?:=fun q i=>(Cs.new (wr.drewN q) 91 #[.int .i64 (did:Int),.int .i64 (drt:Int),.int .i64 (dtm:Int),.int .i64 (dmp:Int)]).cell i
      go_wp2_with ((at_builtin;refine wpList_append_reads _ (by rfl) _ _ _ (by rfl) w4.heap.size 91 i0 _ 4 32 Tryz.underlying80 hi0 hz0 hz1 hz2 (by rfl) (by omega) (.slice A n c) n _ (by rfl) (own_keepU' ho.out (hb6a _)) (some ⟨wr.heap.size,0,none⟩) 1 1 [.int .i64 (did:Int),.int .i64 (drt:Int),.int .i64 (dtm:Int),.int .i64 (dmp:Int)] (by rfl) (by rfl) (hrd6a _) (by simp[Value.oneCell']) (by simp only[maxLen];omega) (by omega) (hs6a _) ?_;intro v7a w7a hown7a hg7a hat7a;have HB7a:=Hi ((hb.out.trans ((hb6a _).mono hb.out.size)).grown hg7a (hs6a _) (own_base ho.out));have HO7a:=Hi hown7a;clear hown7a hg7a hat7a hb6a hrd6a hs6a;obtain ⟨A7a,c7a,hv7a⟩:=own_form HO7a.out;subst hv7a;skip))
      have x11a:=(HB7a.out.cell (p:=⟨M,11,none⟩) hMl4).trans e11
      have y0a:=(HB7a.out.cell (p:=⟨B,0,none⟩) hBl4).trans (HB4.out.cell 0)
      have y1a:=(HB7a.out.cell (p:=⟨B,1,none⟩) hBl4).trans (HB4.out.cell 1)
      have y2a:=(HB7a.out.cell (p:=⟨B,2,none⟩) hBl4).trans (HB4.out.cell 2)
      have y3a:=(HB7a.out.cell (p:=⟨B,3,none⟩) hBl4).trans (HB4.out.cell 3)
      have hbla:b<w7a.heap.size:=Nat.lt_of_lt_of_le hbl4 HB7a.out.size
      have z0a:=(HB7a.out.cell (p:=⟨b,off+k * 4,none⟩) hbl4).trans z04
      have z1a:=(HB7a.out.cell (p:=⟨b,off+k * 4+1,none⟩) hbl4).trans z14
      have z2a:=(HB7a.out.cell (p:=⟨b,off+k * 4+2,none⟩) hbl4).trans z24
      have z3a:=(HB7a.out.cell (p:=⟨b,off+k * 4+3,none⟩) hbl4).trans z34
      have hMra:M<w7a.heap.size:=Nat.lt_of_lt_of_le hMl4 HB7a.out.size
      go_wp2_with fail
      go_quiet (fail)
      have hbq:∀q:Nat,Below w7a.heap.size w7a (w7a.drewN q):=fun q=>⟨rfl,rfl,rfl,Nat.le_refl _,fun _ _=>rfl⟩
      have HBQ:∀q:Nat,Hid (Below w4.heap.size w4 (w7a.drewN q)):=fun q=>HB7a.out.trans ((hbq q).mono HB7a.out.size)
      have HOQ:∀q:Nat,Hid ((w7a.drewN q).ownsRow w4.heap.size 91 4 (.slice A7a (n+1) c7a) (n+1) _):=fun q=>own_keepU' HO7a.out (hbq q)
      go_wp2_with fail
      go_roundw
      case rel=>
       have hq:=hnp.out
       have hsu:=HSU.out
       unfold insK at hsu
       rw[hq.2] at hsu
       refine ⟨k+1,A7a,c7a,(n+1),true,by omega,rfl,rfl,by go_num,by omega,?_,?_,(HBQ _)⟩
       ·show _∧_
        rw[hsu]
        dsimp only
        rw[←HD.out] at hq ⊢
        dsimp only
        rw[if_pos (show did≤xi∧false=false from ⟨ha,rfl⟩),if_pos (show xi=did from hc)]
        simp[hq]
       ·rw[hsu]
        show World.ownsRow w7a _ _ _ _ _ _
        have hown:=HO7a.out
        rw[←HD.out] at hown ⊢
        dsimp only
        rw[if_pos (show did≤xi∧false=false from ⟨ha,rfl⟩),if_pos (show xi=did from hc)]
        simpa[dvv_append,dvv,Dv.cells] using hown
      case measure=>simp[intOf];omega
     ·have d3:((xi:Int) != (did:Int))=true:=by simp;omega
      go_wp2_with fail
      go_quiet (fail)
      have hb6a:∀q:Nat,Below wr.heap.size wr ((wr.drewN q).alloc (.cells #[.int .i64 (did:Int),.int .i64 (drt:Int),.int .i64 (dtm:Int),.int .i64 (dmp:Int)] 91)):=fun q=>(show Below wr.heap.size wr (wr.drewN q) from ⟨rfl,rfl,rfl,Nat.le_refl _,fun _ _=>rfl⟩).alloc (Nat.le_refl _) _
      have hrd6a:∀q:Nat,Reads ((wr.drewN q).alloc (.cells #[.int .i64 (did:Int),.int .i64 (drt:Int),.int .i64 (dtm:Int),.int .i64 (dmp:Int)] 91)) (some ⟨wr.heap.size,0,none⟩) [.int .i64 (did:Int),.int .i64 (drt:Int),.int .i64 (dtm:Int),.int .i64 (dmp:Int)]:=fun q=>Reads.new (wr.drewN q) _ _
      have hs6a:∀q:Nat,w4.heap.size≤((wr.drewN q).alloc (.cells #[.int .i64 (did:Int),.int .i64 (drt:Int),.int .i64 (dtm:Int),.int .i64 (dmp:Int)] 91)).heap.size:=fun q=>Nat.le_trans hb.out.size (hb6a q).size
      have hl6a:∀q i:Nat,((wr.drewN q).alloc (.cells #[.int .i64 (did:Int),.int .i64 (drt:Int),.int .i64 (dtm:Int),.int .i64 (dmp:Int)] 91)).cell? ⟨wr.heap.size,i,none⟩=(#[.int .i64 (did:Int),.int .i64 (drt:Int),.int .i64 (dtm:Int),.int .i64 (dmp:Int)]:Array Value)[i]?:=fun q i=>(Cs.new (wr.drewN q) 91 #[.int .i64 (did:Int),.int .i64 (drt:Int),.int .i64 (dtm:Int),.int .i64 (dmp:Int)]).cell i
      go_wp2_with ((at_builtin;refine wpList_append_reads _ (by rfl) _ _ _ (by rfl) w4.heap.size 91 i0 _ 4 32 Tryz.underlying80 hi0 hz0 hz1 hz2 (by rfl) (by omega) (.slice A n c) n _ (by rfl) (own_keepU' ho.out (hb6a _)) (some ⟨wr.heap.size,0,none⟩) 1 1 [.int .i64 (did:Int),.int .i64 (drt:Int),.int .i64 (dtm:Int),.int .i64 (dmp:Int)] (by rfl) (by rfl) (hrd6a _) (by simp[Value.oneCell']) (by simp only[maxLen];omega) (by omega) (hs6a _) ?_;intro v7a w7a hown7a hg7a hat7a;have HB7a:=Hi ((hb.out.trans ((hb6a _).mono hb.out.size)).grown hg7a (hs6a _) (own_base ho.out));have HO7a:=Hi hown7a;clear hown7a hg7a hat7a hb6a hrd6a hs6a;obtain ⟨A7a,c7a,hv7a⟩:=own_form HO7a.out;subst hv7a;skip))
      have x11a:=(HB7a.out.cell (p:=⟨M,11,none⟩) hMl4).trans e11
      have y0a:=(HB7a.out.cell (p:=⟨B,0,none⟩) hBl4).trans (HB4.out.cell 0)
      have y1a:=(HB7a.out.cell (p:=⟨B,1,none⟩) hBl4).trans (HB4.out.cell 1)
      have y2a:=(HB7a.out.cell (p:=⟨B,2,none⟩) hBl4).trans (HB4.out.cell 2)
      have y3a:=(HB7a.out.cell (p:=⟨B,3,none⟩) hBl4).trans (HB4.out.cell 3)
      have hbla:b<w7a.heap.size:=Nat.lt_of_lt_of_le hbl4 HB7a.out.size
      have z0a:=(HB7a.out.cell (p:=⟨b,off+k * 4,none⟩) hbl4).trans z04
      have z1a:=(HB7a.out.cell (p:=⟨b,off+k * 4+1,none⟩) hbl4).trans z14
      have z2a:=(HB7a.out.cell (p:=⟨b,off+k * 4+2,none⟩) hbl4).trans z24
      have z3a:=(HB7a.out.cell (p:=⟨b,off+k * 4+3,none⟩) hbl4).trans z34
      have hMra:M<w7a.heap.size:=Nat.lt_of_lt_of_le hMl4 HB7a.out.size
      go_wp2_with fail
      go_quiet (fail)
      have hb6b:∀q:Nat,Below w7a.heap.size w7a ((w7a.drewN q).alloc (.cells #[.int .i64 (xi:Int),.int .i64 (xr:Int),.int .i64 (xt:Int),.int .i64 (xm:Int)] 91)):=fun q=>(show Below w7a.heap.size w7a (w7a.drewN q) from ⟨rfl,rfl,rfl,Nat.le_refl _,fun _ _=>rfl⟩).alloc (Nat.le_refl _) _
      have hrd6b:∀q:Nat,Reads ((w7a.drewN q).alloc (.cells #[.int .i64 (xi:Int),.int .i64 (xr:Int),.int .i64 (xt:Int),.int .i64 (xm:Int)] 91)) (some ⟨w7a.heap.size,0,none⟩) [.int .i64 (xi:Int),.int .i64 (xr:Int),.int .i64 (xt:Int),.int .i64 (xm:Int)]:=fun q=>Reads.new (w7a.drewN q) _ _
      have hs6b:∀q:Nat,w4.heap.size≤((w7a.drewN q).alloc (.cells #[.int .i64 (xi:Int),.int .i64 (xr:Int),.int .i64 (xt:Int),.int .i64 (xm:Int)] 91)).heap.size:=fun q=>Nat.le_trans HB7a.out.size (hb6b q).size
      have hl6b:∀q i:Nat,((w7a.drewN q).alloc (.cells #[.int .i64 (xi:Int),.int .i64 (xr:Int),.int .i64 (xt:Int),.int .i64 (xm:Int)] 91)).cell? ⟨w7a.heap.size,i,none⟩=(#[.int .i64 (xi:Int),.int .i64 (xr:Int),.int .i64 (xt:Int),.int .i64 (xm:Int)]:Array Value)[i]?:=fun q i=>(Cs.new (w7a.drewN q) 91 #[.int .i64 (xi:Int),.int .i64 (xr:Int),.int .i64 (xt:Int),.int .i64 (xm:Int)]).cell i
      go_wp2_with ((at_builtin;refine wpList_append_reads _ (by rfl) _ _ _ (by rfl) w4.heap.size 91 i0 _ 4 32 Tryz.underlying80 hi0 hz0 hz1 hz2 (by rfl) (by omega) (.slice A7a (n+1) c7a) (n+1) _ (by rfl) (own_keepU' HO7a.out (hb6b _)) (some ⟨w7a.heap.size,0,none⟩) 1 1 [.int .i64 (xi:Int),.int .i64 (xr:Int),.int .i64 (xt:Int),.int .i64 (xm:Int)] (by rfl) (by rfl) (hrd6b _) (by simp[Value.oneCell']) (by simp only[maxLen];omega) (by omega) (hs6b _) ?_;intro v7b w7b hown7b hg7b hat7b;have HB7b:=Hi ((HB7a.out.trans ((hb6b _).mono HB7a.out.size)).grown hg7b (hs6b _) (own_base HO7a.out));have HO7b:=Hi hown7b;clear hown7b hg7b hat7b hb6b hrd6b hs6b;obtain ⟨A7b,c7b,hv7b⟩:=own_form HO7b.out;subst hv7b;skip))
      go_wp2_with fail
      go_roundw
      case rel=>
       have hq:=hnp.out
       have hsu:=HSU.out
       unfold insK at hsu
       rw[hq.2] at hsu
       refine ⟨k+1,A7b,c7b,((n+1)+1),true,by omega,rfl,rfl,by go_num,by omega,?_,?_,HB7b⟩
       ·show _∧_
        rw[hsu]
        dsimp only
        rw[←HD.out] at hq ⊢
        dsimp only
        rw[if_pos (show did≤xi∧false=false from ⟨ha,rfl⟩),if_neg (show¬xi=did from hc)]
        simp[hq]
       ·rw[hsu]
        show World.ownsRow _ _ _ _ _ _ _
        have hown:=HO7b.out
        rw[←HD.out] at hown ⊢
        dsimp only
        rw[if_pos (show did≤xi∧false=false from ⟨ha,rfl⟩),if_neg (show¬xi=did from hc)]
        simpa[dvv_append,dvv,Dv.cells] using hown
      case measure=>simp[intOf];omega
    ·by_cases hc:xi=did
     ·have d3:((xi:Int) != (did:Int))=false:=by simp;omega
      go_wp2_with fail
      go_quiet (fail)
      go_wp2_with fail
      go_quiet (fail)
      have hbq:∀q:Nat,Below wr.heap.size wr (wr.drewN q):=fun q=>⟨rfl,rfl,rfl,Nat.le_refl _,fun _ _=>rfl⟩
      have HBQ:∀q:Nat,Hid (Below w4.heap.size w4 (wr.drewN q)):=fun q=>hb.out.trans ((hbq q).mono hb.out.size)
      have HOQ:∀q:Nat,Hid ((wr.drewN q).ownsRow w4.heap.size 91 4 (.slice A n c) n _):=fun q=>own_keepU' ho.out (hbq q)
      go_wp2_with fail
      go_roundw
      case rel=>
       have hq:=hnp.out
       have hsu:=HSU.out
       unfold insK at hsu
       rw[hq.2] at hsu
       refine ⟨k+1,A,c,n,true,by omega,rfl,rfl,by go_num,by omega,?_,?_,(HBQ _)⟩
       ·show _∧_
        rw[hsu]
        dsimp only
        rw[←HD.out] at hq ⊢
        dsimp only
        rw[if_neg (show¬(did≤xi∧true=false) from fun q=>by cases q.2),if_pos (show xi=did from hc)]
        simp[hq]
       ·rw[hsu]
        show World.ownsRow wr _ _ _ _ _ _
        have hown:=ho.out
        rw[←HD.out] at hown ⊢
        dsimp only
        rw[if_neg (show¬(did≤xi∧true=false) from fun q=>by cases q.2),if_pos (show xi=did from hc)]
        simpa[dvv_append,dvv,Dv.cells] using hown
      case measure=>simp[intOf];omega
     ·have d3:((xi:Int) != (did:Int))=true:=by simp;omega
      go_wp2_with fail
      go_quiet (fail)
      go_wp2_with fail
      go_quiet (fail)
      have hb6b:∀q:Nat,Below wr.heap.size wr ((wr.drewN q).alloc (.cells #[.int .i64 (xi:Int),.int .i64 (xr:Int),.int .i64 (xt:Int),.int .i64 (xm:Int)] 91)):=fun q=>(show Below wr.heap.size wr (wr.drewN q) from ⟨rfl,rfl,rfl,Nat.le_refl _,fun _ _=>rfl⟩).alloc (Nat.le_refl _) _
      have hrd6b:∀q:Nat,Reads ((wr.drewN q).alloc (.cells #[.int .i64 (xi:Int),.int .i64 (xr:Int),.int .i64 (xt:Int),.int .i64 (xm:Int)] 91)) (some ⟨wr.heap.size,0,none⟩) [.int .i64 (xi:Int),.int .i64 (xr:Int),.int .i64 (xt:Int),.int .i64 (xm:Int)]:=fun q=>Reads.new (wr.drewN q) _ _
      have hs6b:∀q:Nat,w4.heap.size≤((wr.drewN q).alloc (.cells #[.int .i64 (xi:Int),.int .i64 (xr:Int),.int .i64 (xt:Int),.int .i64 (xm:Int)] 91)).heap.size:=fun q=>Nat.le_trans hb.out.size (hb6b q).size
      have hl6b:∀q i:Nat,((wr.drewN q).alloc (.cells #[.int .i64 (xi:Int),.int .i64 (xr:Int),.int .i64 (xt:Int),.int .i64 (xm:Int)] 91)).cell? ⟨wr.heap.size,i,none⟩=(#[.int .i64 (xi:Int),.int .i64 (xr:Int),.int .i64 (xt:Int),.int .i64 (xm:Int)]:Array Value)[i]?:=fun q i=>(Cs.new (wr.drewN q) 91 #[.int .i64 (xi:Int),.int .i64 (xr:Int),.int .i64 (xt:Int),.int .i64 (xm:Int)]).cell i
      go_wp2_with ((at_builtin;refine wpList_append_reads _ (by rfl) _ _ _ (by rfl) w4.heap.size 91 i0 _ 4 32 Tryz.underlying80 hi0 hz0 hz1 hz2 (by rfl) (by omega) (.slice A n c) n _ (by rfl) (own_keepU' ho.out (hb6b _)) (some ⟨wr.heap.size,0,none⟩) 1 1 [.int .i64 (xi:Int),.int .i64 (xr:Int),.int .i64 (xt:Int),.int .i64 (xm:Int)] (by rfl) (by rfl) (hrd6b _) (by simp[Value.oneCell']) (by simp only[maxLen];omega) (by omega) (hs6b _) ?_;intro v7b w7b hown7b hg7b hat7b;have HB7b:=Hi ((hb.out.trans ((hb6b _).mono hb.out.size)).grown hg7b (hs6b _) (own_base ho.out));have HO7b:=Hi hown7b;clear hown7b hg7b hat7b hb6b hrd6b hs6b;obtain ⟨A7b,c7b,hv7b⟩:=own_form HO7b.out;subst hv7b;skip))
      go_wp2_with fail
      go_roundw
      case rel=>
       have hq:=hnp.out
       have hsu:=HSU.out
       unfold insK at hsu
       rw[hq.2] at hsu
       refine ⟨k+1,A7b,c7b,(n+1),true,by omega,rfl,rfl,by go_num,by omega,?_,?_,HB7b⟩
       ·show _∧_
        rw[hsu]
        dsimp only
        rw[←HD.out] at hq ⊢
        dsimp only
        rw[if_neg (show¬(did≤xi∧true=false) from fun q=>by cases q.2),if_neg (show¬xi=did from hc)]
        simp[hq]
       ·rw[hsu]
        show World.ownsRow _ _ _ _ _ _ _
        have hown:=HO7b.out
        rw[←HD.out] at hown ⊢
        dsimp only
        rw[if_neg (show¬(did≤xi∧true=false) from fun q=>by cases q.2),if_neg (show¬xi=did from hc)]
        simpa[dvv_append,dvv,Dv.cells] using hown
      case measure=>simp[intOf];omega
   ·have d1:¬(did:Int)≤(xi:Int):=by omega
    have hc:¬xi=did:=by omega
    have d3:((xi:Int) != (did:Int))=true:=by simp;omega
    go_wp2_with fail
    go_quiet (fail)
    go_wp2_with fail
    go_quiet (fail)
    have hb6b:∀q:Nat,Below wr.heap.size wr ((wr.drewN q).alloc (.cells #[.int .i64 (xi:Int),.int .i64 (xr:Int),.int .i64 (xt:Int),.int .i64 (xm:Int)] 91)):=fun q=>(show Below wr.heap.size wr (wr.drewN q) from ⟨rfl,rfl,rfl,Nat.le_refl _,fun _ _=>rfl⟩).alloc (Nat.le_refl _) _
    have hrd6b:∀q:Nat,Reads ((wr.drewN q).alloc (.cells #[.int .i64 (xi:Int),.int .i64 (xr:Int),.int .i64 (xt:Int),.int .i64 (xm:Int)] 91)) (some ⟨wr.heap.size,0,none⟩) [.int .i64 (xi:Int),.int .i64 (xr:Int),.int .i64 (xt:Int),.int .i64 (xm:Int)]:=fun q=>Reads.new (wr.drewN q) _ _
    have hs6b:∀q:Nat,w4.heap.size≤((wr.drewN q).alloc (.cells #[.int .i64 (xi:Int),.int .i64 (xr:Int),.int .i64 (xt:Int),.int .i64 (xm:Int)] 91)).heap.size:=fun q=>Nat.le_trans hb.out.size (hb6b q).size
    have hl6b:∀q i:Nat,((wr.drewN q).alloc (.cells #[.int .i64 (xi:Int),.int .i64 (xr:Int),.int .i64 (xt:Int),.int .i64 (xm:Int)] 91)).cell? ⟨wr.heap.size,i,none⟩=(#[.int .i64 (xi:Int),.int .i64 (xr:Int),.int .i64 (xt:Int),.int .i64 (xm:Int)]:Array Value)[i]?:=fun q i=>(Cs.new (wr.drewN q) 91 #[.int .i64 (xi:Int),.int .i64 (xr:Int),.int .i64 (xt:Int),.int .i64 (xm:Int)]).cell i
    go_wp2_with ((at_builtin;refine wpList_append_reads _ (by rfl) _ _ _ (by rfl) w4.heap.size 91 i0 _ 4 32 Tryz.underlying80 hi0 hz0 hz1 hz2 (by rfl) (by omega) (.slice A n c) n _ (by rfl) (own_keepU' ho.out (hb6b _)) (some ⟨wr.heap.size,0,none⟩) 1 1 [.int .i64 (xi:Int),.int .i64 (xr:Int),.int .i64 (xt:Int),.int .i64 (xm:Int)] (by rfl) (by rfl) (hrd6b _) (by simp[Value.oneCell']) (by simp only[maxLen];omega) (by omega) (hs6b _) ?_;intro v7b w7b hown7b hg7b hat7b;have HB7b:=Hi ((hb.out.trans ((hb6b _).mono hb.out.size)).grown hg7b (hs6b _) (own_base ho.out));have HO7b:=Hi hown7b;clear hown7b hg7b hat7b hb6b hrd6b hs6b;obtain ⟨A7b,c7b,hv7b⟩:=own_form HO7b.out;subst hv7b;skip))
    go_wp2_with fail
    go_roundw
    case rel=>
     have hq:=hnp.out
     have hsu:=HSU.out
     unfold insK at hsu
     rw[hq.2] at hsu
     refine ⟨k+1,A7b,c7b,(n+1),p,by omega,rfl,rfl,by go_num,by omega,?_,?_,HB7b⟩
     ·show _∧_
      rw[hsu]
      dsimp only
      rw[←HD.out] at hq ⊢
      dsimp only
      rw[if_neg (show¬(did≤xi∧p=false) from fun q=>ha q.1),if_neg (show¬xi=did from hc)]
      simp[hq]
     ·rw[hsu]
      show World.ownsRow _ _ _ _ _ _ _
      have hown:=HO7b.out
      rw[←HD.out] at hown ⊢
      dsimp only
      rw[if_neg (show¬(did≤xi∧p=false) from fun q=>ha q.1),if_neg (show¬xi=did from hc)]
      simpa[dvv_append,dvv,Dv.cells] using hown
    case measure=>simp[intOf];omega
  ·obtain rfl:k=N:=by omega
   have hwr:=hb.out.size
   have hw4:=HF4.out.size
   cases p
   ·have hin:Hid (insF m.dv D=(insTo m.dv D k).1++ [D]):=by
     show _=_
     unfold insF
     rw[HN.out,hnp.out.2,if_neg (by simp)]
    have hln:Hid ((insF m.dv D).length=n+1):=by
     show _=_
     rw[hin.out,List.length_append,hnp.out.1]
     rfl
    have hb6a:Below wr.heap.size wr (wr.alloc (.cells #[.int .i64 (did:Int),.int .i64 (drt:Int),.int .i64 (dtm:Int),.int .i64 (dmp:Int)] 91)):=(Below.refl _ wr).alloc (Nat.le_refl _) _
    have hrd6a:Reads (wr.alloc (.cells #[.int .i64 (did:Int),.int .i64 (drt:Int),.int .i64 (dtm:Int),.int .i64 (dmp:Int)] 91)) (some ⟨wr.heap.size,0,none⟩) [.int .i64 (did:Int),.int .i64 (drt:Int),.int .i64 (dtm:Int),.int .i64 (dmp:Int)]:=Reads.new wr _ _
    have hs6a:w4.heap.size≤(wr.alloc (.cells #[.int .i64 (did:Int),.int .i64 (drt:Int),.int .i64 (dtm:Int),.int .i64 (dmp:Int)] 91)).heap.size:=Nat.le_trans hb.out.size hb6a.size
    have hl6a:∀i:Nat,(wr.alloc (.cells #[.int .i64 (did:Int),.int .i64 (drt:Int),.int .i64 (dtm:Int),.int .i64 (dmp:Int)] 91)).cell? ⟨wr.heap.size,i,none⟩=(#[.int .i64 (did:Int),.int .i64 (drt:Int),.int .i64 (dtm:Int),.int .i64 (dmp:Int)]:Array Value)[i]?:=fun i=>(Cs.new wr 91 #[.int .i64 (did:Int),.int .i64 (drt:Int),.int .i64 (dtm:Int),.int .i64 (dmp:Int)]).cell i
    go_wp2_with ((at_builtin;refine wpList_append_reads _ (by rfl) _ _ _ (by rfl) w4.heap.size 91 i0 _ 4 32 Tryz.underlying80 hi0 hz0 hz1 hz2 (by rfl) (by omega) (.slice A n c) n _ (by rfl) (own_keepU' ho.out hb6a) (some ⟨wr.heap.size,0,none⟩) 1 1 [.int .i64 (did:Int),.int .i64 (drt:Int),.int .i64 (dtm:Int),.int .i64 (dmp:Int)] (by rfl) (by rfl) hrd6a (by simp[Value.oneCell']) (by simp only[maxLen];omega) (by omega) hs6a ?_;intro v7a w7a hown7a hg7a hat7a;have HB7a:=Hi ((hb.out.trans (hb6a.mono hb.out.size)).grown hg7a hs6a (own_base ho.out));have HO7a:=Hi hown7a;clear hown7a hg7a hat7a hb6a hrd6a hs6a;obtain ⟨A7a,c7a,hv7a⟩:=own_form HO7a.out;subst hv7a;have HM7:=Hi (HM4.out.keep HB7a.out);have hf11:w7a.frozen? ⟨M,11,none⟩=false:=(by obtain ⟨_,_,_,_,_,_,q,_⟩:=HM7.out.cells;exact q.free 11);have hc11:w7a.cell? ⟨M,11,none⟩=some (.slice Ad k cd):=(HB7a.out.cell (p:=⟨M,11,none⟩) hMl4).trans e11))
    have hs7:=HB7a.out.size
    go_ret
    rw[HD.out]
    have hown:=HO7a.out
    have e4:dvv (insTo m.dv D k).1++ [.int .i64 (did:Int),.int .i64 (drt:Int),.int .i64 (dtm:Int),.int .i64 (dmp:Int)]=dvv (insF m.dv D):=by
     rw[hin.out,dvv_append,←HD.out]
     rfl
    have hrow:w7a.ownsRow w4.heap.size 91 4 (.slice A7a (n+1) c7a) (n+1) (dvv (insF m.dv D)):=by
     rw[←e4]
     exact hown
    rw[←hln.out] at hrow ⊢
    exact ⟨rfl,HM7.out.set_dv (L:=insF m.dv D) (RowO.own hrow (fun j h1 h2=>⟨.inr (by omega),fun q=>by have:=hPlt.out _ q;omega⟩)) hl64,(HF4.out.trans (Fr.of_below HB7a.out)).set (.inl (.inr rfl)) _⟩
   ·have hin:Hid (insF m.dv D=(insTo m.dv D k).1):=by
     show _=_
     unfold insF
     rw[HN.out,hnp.out.2,if_pos rfl]
    have hln:Hid ((insF m.dv D).length=n):=by
     show _=_
     rw[hin.out,hnp.out.1]
    have HM7:=Hi (HM4.out.keep hb.out)
    have hf11:wr.frozen? ⟨M,11,none⟩=false:=by
     obtain ⟨_,_,_,_,_,_,q,_⟩:=HM7.out.cells
     exact q.free 11
    go_wp2_with fail
    go_ret
    rw[HD.out]
    have hrow:=ho.out
    rw[←hin.out,←hln.out] at hrow
    rw[←hln.out]
    exact ⟨rfl,HM7.out.set_dv (L:=insF m.dv D) (RowO.own hrow (fun j h1 h2=>⟨.inr (by omega),fun q=>by have:=hPlt.out _ q;omega⟩)) hl64,(HF4.out.trans (Fr.of_below hb.out)).set (.inl (.inr rfl)) _⟩
end
end Go.Proofs.YtplhdjdkobddnaaGreat
