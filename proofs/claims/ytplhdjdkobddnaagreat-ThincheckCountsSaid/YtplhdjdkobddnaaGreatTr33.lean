/- ThO ThK ThL -/
import Derived.Test.YtplhdjdkobddnaaGreatTr32
set_option linter.unusedVariables false
set_option maxRecDepth 100000
set_option maxHeartbeats 40000000
namespace Go.Proofs.YtplhdjdkobddnaaGreat
section
open Go.RowKit
attribute [local go_sem] Oper.semAt_some
def plV:Nat→Value
 |1=>.string ⟨#[99,111,109,109,105,116]⟩
 |2=>.string ⟨#[114,111,111,116]⟩
 |3=>.string ⟨#[97,114,101,97]⟩
 |_=>.string ⟨#[99,111,117,110,116]⟩
theorem thplace_1 (w:World):Calls Tryz.prog 62 #[.int .i64 1] w fun e w'=>e=.returned (plV 1)∧w=w':=by
 have hix:∀w,Sem.run Tryz.prog (Instr.index 164 (.agg #[.string ⟨#[]⟩,.string ⟨#[99,111,109,109,105,116]⟩,.string ⟨#[114,111,111,116]⟩,.string ⟨#[97,114,101,97]⟩,.string ⟨#[114,101,102,101,114,101,110,99,101]⟩,.string ⟨#[110,111,100,101]⟩,.string ⟨#[108,101,118,101,108]⟩,.string ⟨#[115,101,113]⟩,.string ⟨#[101,109,112,116,121]⟩,.string ⟨#[107,101,121]⟩,.string ⟨#[100,101,118,105,99,101]⟩,.string ⟨#[109,97,112,112,105,110,103]⟩,.string ⟨#[109,97,112,112,101,100]⟩,.string ⟨#[99,111,117,110,116]⟩]) (.int .i64 1)) w=.ok (.string ⟨#[99,111,109,109,105,116]⟩) w:=fun w=>by kernel_rfl
 go_enter Tryz.func62,Tryz.ntmps62
 go_wp2_with fail
 go_ret
 exact ⟨rfl,rfl⟩
theorem thplace_2 (w:World):Calls Tryz.prog 62 #[.int .i64 2] w fun e w'=>e=.returned (plV 2)∧w=w':=by
 have hix:∀w,Sem.run Tryz.prog (Instr.index 164 (.agg #[.string ⟨#[]⟩,.string ⟨#[99,111,109,109,105,116]⟩,.string ⟨#[114,111,111,116]⟩,.string ⟨#[97,114,101,97]⟩,.string ⟨#[114,101,102,101,114,101,110,99,101]⟩,.string ⟨#[110,111,100,101]⟩,.string ⟨#[108,101,118,101,108]⟩,.string ⟨#[115,101,113]⟩,.string ⟨#[101,109,112,116,121]⟩,.string ⟨#[107,101,121]⟩,.string ⟨#[100,101,118,105,99,101]⟩,.string ⟨#[109,97,112,112,105,110,103]⟩,.string ⟨#[109,97,112,112,101,100]⟩,.string ⟨#[99,111,117,110,116]⟩]) (.int .i64 2)) w=.ok (.string ⟨#[114,111,111,116]⟩) w:=fun w=>by kernel_rfl
 go_enter Tryz.func62,Tryz.ntmps62
 go_wp2_with fail
 go_ret
 exact ⟨rfl,rfl⟩
theorem thplace_3 (w:World):Calls Tryz.prog 62 #[.int .i64 3] w fun e w'=>e=.returned (plV 3)∧w=w':=by
 have hix:∀w,Sem.run Tryz.prog (Instr.index 164 (.agg #[.string ⟨#[]⟩,.string ⟨#[99,111,109,109,105,116]⟩,.string ⟨#[114,111,111,116]⟩,.string ⟨#[97,114,101,97]⟩,.string ⟨#[114,101,102,101,114,101,110,99,101]⟩,.string ⟨#[110,111,100,101]⟩,.string ⟨#[108,101,118,101,108]⟩,.string ⟨#[115,101,113]⟩,.string ⟨#[101,109,112,116,121]⟩,.string ⟨#[107,101,121]⟩,.string ⟨#[100,101,118,105,99,101]⟩,.string ⟨#[109,97,112,112,105,110,103]⟩,.string ⟨#[109,97,112,112,101,100]⟩,.string ⟨#[99,111,117,110,116]⟩]) (.int .i64 3)) w=.ok (.string ⟨#[97,114,101,97]⟩) w:=fun w=>by kernel_rfl
 go_enter Tryz.func62,Tryz.ntmps62
 go_wp2_with fail
 go_ret
 exact ⟨rfl,rfl⟩
theorem thplace_13 (w:World):Calls Tryz.prog 62 #[.int .i64 13] w fun e w'=>e=.returned (plV 13)∧w=w':=by
 have hix:∀w,Sem.run Tryz.prog (Instr.index 164 (.agg #[.string ⟨#[]⟩,.string ⟨#[99,111,109,109,105,116]⟩,.string ⟨#[114,111,111,116]⟩,.string ⟨#[97,114,101,97]⟩,.string ⟨#[114,101,102,101,114,101,110,99,101]⟩,.string ⟨#[110,111,100,101]⟩,.string ⟨#[108,101,118,101,108]⟩,.string ⟨#[115,101,113]⟩,.string ⟨#[101,109,112,116,121]⟩,.string ⟨#[107,101,121]⟩,.string ⟨#[100,101,118,105,99,101]⟩,.string ⟨#[109,97,112,112,105,110,103]⟩,.string ⟨#[109,97,112,112,101,100]⟩,.string ⟨#[99,111,117,110,116]⟩]) (.int .i64 13)) w=.ok (.string ⟨#[99,111,117,110,116]⟩) w:=fun w=>by kernel_rfl
 go_enter Tryz.func62,Tryz.ntmps62
 go_wp2_with fail
 go_ret
 exact ⟨rfl,rfl⟩
theorem thplace_any (k:Nat) (hk:k=1∨k=2∨k=3∨k=13) (w:World):Calls Tryz.prog 62 #[.int .i64 (k:Int)] w fun e w'=>e=.returned (plV k)∧w=w':=by
 rcases hk with rfl|rfl|rfl|rfl
 ·exact thplace_1 w
 ·exact thplace_2 w
 ·exact thplace_3 w
 ·exact thplace_13 w
theorem vio_info:(Tryz.prog.info? 52).map (fun i=>(i.zero,i.size,i.bytes))=some (some (.agg #[.int .i64 0,.string ⟨#[]⟩,.int .i64 0,.int .i64 0]),4,40):=by kernel_rfl
def vioC (k:Nat) (at_ more:Int):List Value:=[.int .i64 (k:Int),plV k,.int .i64 at_,.int .i64 more]
theorem plV_str (k:Nat):∃s,plV k=.string s:=by
 unfold plV
 split <;> exact ⟨_,rfl⟩
theorem ckfull_raw (W:World) (C:Nat) (cs:Array Value) (h:Cs W C 61 cs) (A:Option Addr) (n c:Nat) (hl:cs[13]? =some (.slice A n c)) (hn:n<64) :
  Calls Tryz.prog 61 #[.pointer (some ⟨C,0,none⟩)] W fun e w'=>e=.returned (.bool false)∧W=w':=by
 have x0:W.cell? ⟨C,13,none⟩=some (.slice A n c):=(h.cell 13).trans hl
 have d1:((n:Int) == 64)=false:=by simp;omega
 clear h hl
 go_enter Tryz.func61,Tryz.ntmps61
 go_wp2_with fail
 go_ret
 exact ⟨rfl,rfl⟩
theorem ckadd_raw (W:World) (C:Nat) (cs:Array Value) (ls:Value) (h:Cs W C 61 cs) (h13:cs[13]? =some ls) (base:Nat) (hC:C<base) (hbs:base≤W.heap.size) (n:Nat) (vs:List Value) (hv:W.ownsRow base 52 4 ls n vs) (hn:n<64) (kd:Nat) (hk:kd=1∨kd=2∨kd=3∨kd=13) (x y:Int) :
  Calls Tryz.prog 24 #[.pointer (some ⟨C,0,none⟩),.int .i64 (kd:Int),.int .i64 x,.int .i64 y] W fun e w'=>e=.returned (.tuple #[])∧∃v,Cs w' C 61 (cs.setIfInBounds 13 v)∧w'.ownsRow base 52 4 v (n+1) (vs++vioC kd x y)∧Fr (fun j=>j=C∨ls.ownBlock=some j) W w'∧(v.ownBlock=ls.ownBlock∨∃b,v.ownBlock=some b∧W.heap.size≤b):=by
 obtain ⟨i0,hi0,hz0,hz1,hz2⟩:=info_parts vio_info
 obtain ⟨A,c,hls⟩:=own_form hv
 have HFL:=Hi (ckfull_raw W C cs h A n c (h13.trans (by rw[hls])) hn)
 have HPL:=Hi (fun w=>thplace_any kd hk w)
 obtain ⟨s,hs⟩:=plV_str kd
 have HVV:Hid (vioC kd x y= [.int .i64 (kd:Int),.string s,.int .i64 x,.int .i64 y]):=by
  show _=_
  unfold vioC
  rw[hs]
 rw[hs] at HPL
 have x7:W.cell? ⟨C,13,none⟩=some (.slice A n c):=(h.cell 13).trans (h13.trans (by rw[hls]))
 have HV:=Hi hv
 have HC:=Hi h
 have hCl:=h.lt
 have HLS:=Hi hls
 rw[hls] at HV
 clear hv h hls hs h13
 go_enter Tryz.func24,Tryz.ntmps24
 go_wp2_with fail
 refine HFL.out.mono ?_
 rintro e w' ⟨rfl,rfl⟩
 go_wp2_with fail
 have E4:Hid (∀w,Below base W w→w.cell? ⟨C,13,none⟩=some (.slice A n c)):=fun w hw=>(hw.cell (p:=⟨C,13,none⟩) hC).trans x7
 refine wp_region_scr [(true,0),(true,1),(true,2),(true,3),(true,4),(true,5),(true,6),(true,8),(true,9),(false,7),(true,10),(false,11),(false,12)] [13,14,15] 13 (by kernel_rfl) (by decide +kernel) (fun w=>Below base W w) (Below.refl _ W).drew ?_
 simp only[pickS,pickL,List.getElem?_toArray,List.getElem?_cons_zero,List.getElem?_cons_succ]
 iterate 9
  refine ⟨?_,Or.inl ⟨by rfl,fun W' hS'=>?_⟩,fun _ _ _ h=>h,?_⟩
  rotate_left
  ·have x7':=E4.out _ hS'
   go_simp
   with_reducible rfl
  simp only[Act.put,List.setIfInBounds_toArray,List.set_cons_zero,List.set_cons_succ]
 refine wpScr_step (fun K hK=>?_)
 go_simp
 go_at_call 62
 refine (HPL.out _).mono ?_
 rintro e w1 ⟨rfl,rfl⟩
 refine hK _ _ ((Below.refl _ W).drew) ?_
 clear hK K
 iterate 1
  refine ⟨?_,Or.inl ⟨by rfl,fun W' hS'=>?_⟩,fun _ _ _ h=>h,?_⟩
  rotate_left
  ·go_simp
   with_reducible rfl
  simp only[Act.put,List.setIfInBounds_toArray,List.set_cons_zero,List.set_cons_succ]
 refine wpScr_step (fun K hK=>?_)
 go_simp
 have hb1:Below W.heap.size W (W.drew.alloc (.cells #[.int .i64 (kd:Int),.string s,.int .i64 x,.int .i64 y] 52)):=((Below.refl _ W).drew).alloc (Nat.le_refl _) _
 refine hK _ _ (hb1.mono hbs) ?_
 clear hK K
 refine wpScr_step (fun K hK=>?_)
 refine step_append_reads _ (by rfl) _ _ _ (by rfl) base 52 i0 _ 4 40 Tryz.underlying25 hi0 hz0 hz1 hz2 (by rfl) (by omega) (.slice A n c) n vs (by rfl) (own_keepU' HV.out hb1) (some ⟨W.heap.size,0,none⟩) 1 1 [.int .i64 (kd:Int),.string s,.int .i64 x,.int .i64 y] (by rfl) (by rfl) (Reads.new _ _ _) (by simp[Value.oneCell']) (by simp only[maxLen];omega) (by omega) (Nat.le_trans hbs hb1.size) ?_
 intro v2 w2 hown2 hg2 hat2
 have hb2:Below base W w2:=(hb1.mono hbs).grown hg2 (Nat.le_trans hbs hb1.size) (own_base HV.out)
 obtain ⟨A2,c2,hv2⟩:=own_form hown2
 subst hv2
 refine hK _ _ hb2 ?_
 clear hK K
 have CC:=Hi (HC.out.below hb2 hC)
 have fz:=CC.out.free 13
 have HO2:=Hi hown2
 have HF2:Hid (Fr (fun j=>j=C∨ls.ownBlock=some j) W w2):=(Fr.of_below hb1).trans ((fr_grown hg2).mono (fun j _ e=>.inr (by rw[HLS.out];exact e)))
 have HAT:Hid ((Value.slice A2 (n+1) c2).ownBlock=ls.ownBlock∨∃b,(Value.slice A2 (n+1) c2).ownBlock=some b∧W.heap.size≤b):=by
  rcases hat2 with q|q
  ·exact .inl (by rw[HLS.out];exact q)
  ·exact .inr ⟨_,q,hb1.size⟩
 have x7b:w2.cell? ⟨C,13,none⟩=some (.slice A n c):=E4.out _ hb2
 clear hown2 hg2 hat2 hb1 hb2
 refine wpSeqL_list _ _ _ (by simp) ?_
 simp only[List.map_cons,List.map_nil]
 go_wp2_with fail
 refine bodyPost_end (results_none rfl _ _ _) rfl ⟨rfl,.slice A2 (n+1) c2,heap_setCell_same _ _ 13 _ _ _ CC.out,?_,HF2.out.set (.inl (.inl rfl)) _,HAT.out⟩
 rw[HVV.out]
 exact own_fr HO2.out (fr_set _ _ _ _) (fun b hb e=>by have:=own_base HO2.out b hb;omega)
theorem ckadd_any (W:World) (C:Nat) (k:CK) (h:Cs W C 61 k.cells) (base:Nat) (hC:C<base) (hbs:base≤W.heap.size) (n:Nat) (vs:List Value) (hv:W.ownsRow base 52 4 k.ls n vs) (hn:n<64) (kd:Nat) (hk:kd=1∨kd=2∨kd=3∨kd=13) (x y:Int) :
  Calls Tryz.prog 24 #[.pointer (some ⟨C,0,none⟩),.int .i64 (kd:Int),.int .i64 x,.int .i64 y] W fun e w'=>e=.returned (.tuple #[])∧∃v,Cs w' C 61 ({ k with ls:=v }:CK).cells∧w'.ownsRow base 52 4 v (n+1) (vs++vioC kd x y)∧Fr (fun j=>j=C∨k.ls.ownBlock=some j) W w'∧(v.ownBlock=k.ls.ownBlock∨∃b,v.ownBlock=some b∧W.heap.size≤b):=
 ckadd_raw W C k.cells k.ls h rfl base hC hbs n vs hv hn kd hk x y
structure TdIn (W:World) (C cb db bs:Nat) (k:CK) (ws:List Nat) (l:List (Int × Nat)):Prop where
 ck:CkIn W C k ws
 bx:Cs W cb 55 #[.pointer (some ⟨C,0,none⟩)]
 dv:∃v,Cs W db 87 #[v]∧W.ownsRow bs 94 2 v l.length (ev l)
 lt:C<db∧cb<db∧k.g<db∧db<bs∧bs≤W.heap.size
theorem TdIn.fr {W W':World} {C cb db bs:Nat} {k:CK} {ws:List Nat} {l:List (Int × Nat)} {G:Nat→Prop} (h:TdIn W C cb db bs k ws l) (hf:Fr G W W') (h1:∀j,G j→j<db∧j≠C∧j≠cb∧j≠k.g):TdIn W' C cb db bs k ws l:=by
 obtain ⟨v,e1,e2⟩:=h.dv
 have hlt:=h.lt
 exact ⟨h.ck.fr hf (fun q=>(h1 _ q).2.1 rfl) (fun q=>(h1 _ q).2.2.2 rfl),h.bx.fr hf (fun q=>(h1 _ q).2.2.1 rfl),⟨v,e1.fr hf (fun q=>by have:=(h1 _ q).1;omega),own_fr e2 hf (fun b hb q=>by have:=(h1 _ q).1;have:=own_base e2 b hb;omega)⟩,hlt.1,hlt.2.1,hlt.2.2.1,hlt.2.2.2.1,Nat.le_trans hlt.2.2.2.2 hf.size⟩
theorem TdIn.keep {W W':World} {C cb db bs:Nat} {k:CK} {ws:List Nat} {l:List (Int × Nat)} (h:TdIn W C cb db bs k ws l) (hb:Below W.heap.size W W'):TdIn W' C cb db bs k ws l:=
 h.fr (G:=fun _=>False) (Fr.of_below hb) (fun _ q=>q.elim)
theorem ckdev_any (W:World) (C cb db bs:Nat) (k:CK) (ws:List Nat) (l:List (Int × Nat)) (h:TdIn W C cb db bs k ws l) (key:Int) (x:Nat) (hk:key≤65535) (hx:x<18446744073709551616) (ht:x / 1048576 % 1048576≤k.ti) (hl:l.length≤1000000) :
  Calls Tryz.prog 73 #[.agg #[.int .i64 key,.int .u64 (x:Int)],.pointer (some ⟨cb,0,none⟩),.pointer (some ⟨db,0,none⟩)] W fun e w'=>e=.returned (.tuple #[])∧TdIn w' C cb db bs k ws (l++ [(key,x)])∧Fr (fun j=>j=db∨bs≤j) W w':=by
 obtain ⟨i0,hi0,hz0,hz1,hz2⟩:=info_parts entry_info
 have HDO:=Hi (fun w=>thdeviceof_any x w hx)
 obtain ⟨t,htt⟩ :∃q,x / 1048576 % 1048576=q:=⟨_,rfl⟩
 obtain ⟨rt,hrt⟩ :∃q,x % 1048576=q:=⟨_,rfl⟩
 obtain ⟨mp,hmp⟩ :∃q,x / 1099511627776 % 16777216=q:=⟨_,rfl⟩
 rw[htt,hrt,hmp] at HDO
 rw[htt] at ht
 obtain ⟨v,e1,e2⟩:=h.dv
 obtain ⟨n,hn⟩ :∃q,l.length=q:=⟨_,rfl⟩
 have HN:=Hi hn
 rw[hn] at e2 hl
 obtain ⟨A,c,hv⟩:=own_form e2
 subst hv
 have b0:Below W.heap.size W (W.alloc (.cells #[.int .i64 key,.int .u64 (x:Int)] 94)):=(Below.refl _ W).alloc (Nat.le_refl _) _
 have CE:=Cs.new W 94 #[.int .i64 key,.int .u64 (x:Int)]
 have hdl:=e1.lt
 have hlt:=h.lt
 have HLT:=Hi hlt
 have HCK:=Hi (h.ck.keep b0)
 have HBX:=Hi (h.bx.below b0 h.bx.lt)
 have HDB:=Hi (e1.below b0 e1.lt)
 have HRW:=Hi (own_keepU' e2 b0)
 have HB0:=Hi b0
 clear htt hrt hmp h b0 e1 e2 hn
 go_enter Tryz.func73,Tryz.ntmps73
 go_upto_region 1 with (fail)
 obtain ⟨w0,hw0⟩ :∃q,(W.alloc (.cells #[.int .i64 key,.int .u64 (x:Int)] 94))=q:=⟨_,rfl⟩
 obtain ⟨eb,heb⟩ :∃q,W.heap.size=q:=⟨_,rfl⟩
 rw[hw0] at CE HCK HBX HDB HRW HB0 ⊢
 rw[heb] at CE hdl ⊢
 have hebl:eb<w0.heap.size:=CE.lt
 have HEB:=Hi heb
 clear hw0 heb
 have y0:w0.cell? ⟨eb,0,none⟩=some (.int .i64 key):=CE.cell 0
 have y1:w0.cell? ⟨eb,1,none⟩=some (.int .u64 (x:Int)):=CE.cell 1
 have y2:w0.cell? ⟨cb,0,none⟩=some (.pointer (some ⟨C,0,none⟩)):=HBX.out.cell 0
 have z4:w0.cell? ⟨C,4,none⟩=some (.int .i64 (k.ti:Int)):=HCK.out.cs.cell 4
 obtain ⟨ti,hti2⟩ :∃q,k.ti=q:=⟨_,rfl⟩
 rw[hti2] at z4 ht
 have hcl:cb<w0.heap.size:=HBX.out.lt
 have hCl:C<w0.heap.size:=HCK.out.cs.lt
 have t1:¬(65535:Int)<key:=by omega
 have t2:¬(ti:Int)<(t:Int):=by omega
 have HEC:=Hi CE
 have hfd:∀w,Sem.run Tryz.prog (Instr.field 119 (.agg #[.int .i64 (rt:Int),.int .i64 (t:Int),.int .i64 (mp:Int)]) 1) w=.ok (.int .i64 (t:Int)) w:=fun w=>by kernel_rfl
 clear hti2 CE
 refine wp_region_scr [(true,0),(true,1),(true,2),(true,3),(true,4),(true,5),(true,8),(true,9),(true,10),(true,11),(true,12),(false,6),(true,7),(true,13)] [14] 14 (by kernel_rfl) (by decide +kernel) (fun w=>w.cell? ⟨eb,0,none⟩=some (.int .i64 key)∧w.cell? ⟨eb,1,none⟩=some (.int .u64 (x:Int))∧w.cell? ⟨cb,0,none⟩=some (.pointer (some ⟨C,0,none⟩))∧w.cell? ⟨C,4,none⟩=some (.int .i64 (ti:Int))) ⟨y0,y1,y2,z4⟩ ?_
 simp only[pickS,pickL,List.getElem?_toArray,List.getElem?_cons_zero,List.getElem?_cons_succ]
 iterate 11
  refine ⟨?_,Or.inl ⟨by rfl,fun W' hS'=>?_⟩,fun _ _ _ h=>h,?_⟩
  rotate_left
  ·obtain ⟨q0,q1,q2,q3⟩:=hS'
   go_simp
   with_reducible rfl
  simp only[Act.put,List.setIfInBounds_toArray,List.set_cons_zero,List.set_cons_succ]
 refine wpScr_step (fun K hK=>?_)
 go_simp
 go_at_call 74
 refine (HDO.out _).mono ?_
 rintro e w2 ⟨rfl,hb2⟩
 have hbw:Below w0.heap.size w0 w2:=(Below.refl _ w0).drew.trans hb2
 refine hK _ _ ⟨(hbw.cell (p:=⟨eb,0,none⟩) hebl).trans y0,(hbw.cell (p:=⟨eb,1,none⟩) hebl).trans y1,(hbw.cell (p:=⟨cb,0,none⟩) hcl).trans y2,(hbw.cell (p:=⟨C,4,none⟩) hCl).trans z4⟩ ?_
 clear hK K
 iterate 2
  refine ⟨?_,Or.inl ⟨by rfl,fun W' hS'=>?_⟩,fun _ _ _ h=>h,?_⟩
  rotate_left
  ·go_simp
   with_reducible rfl
  simp only[Act.put,List.setIfInBounds_toArray,List.set_cons_zero,List.set_cons_succ]
 refine wpSeqL_list _ _ _ (by simp) ?_
 simp only[List.map_cons,List.map_nil]
 have HCK2:=Hi (HCK.out.keep hbw)
 have HBX2:=Hi (HBX.out.below hbw hcl)
 have HDB2:=Hi (HDB.out.below hbw HDB.out.lt)
 have HRW2:=Hi (own_keepU' HRW.out hbw)
 have HB2:=Hi (HB0.out.trans (hbw.mono HB0.out.size))
 have HE2:=Hi (HEC.out.below hbw hebl)
 clear y0 y1 y2 z4 hb2 hbw HCK HBX HDB HRW HB0
 have q0:w2.cell? ⟨eb,0,none⟩=some (.int .i64 key):=HE2.out.cell 0
 have q1:w2.cell? ⟨eb,1,none⟩=some (.int .u64 (x:Int)):=HE2.out.cell 1
 have q2:w2.cell? ⟨db,0,none⟩=some (.slice A n c):=HDB2.out.cell 0
 have hb6:Below w2.heap.size w2 (w2.alloc (.cells #[.int .i64 key,.int .u64 (x:Int)] 94)):=(Below.refl _ w2).alloc (Nat.le_refl _) _
 have hs0:bs≤w2.heap.size:=Nat.le_trans HLT.out.2.2.2.2 HB2.out.size
 go_upto_region 3 with (fail)
 iterate 10 go_step
 refine wpList_append_reads _ (by rfl) _ _ _ (by rfl) bs 94 i0 _ 2 16 Tryz.underlying87 hi0 hz0 hz1 hz2 (by rfl) (by omega) (.slice A n c) n (ev l) (by rfl) (own_keepU' HRW2.out hb6) (some ⟨w2.heap.size,0,none⟩) 1 1 [.int .i64 key,.int .u64 (x:Int)] (by rfl) (by rfl) (Reads.new _ _ _) (by simp[Value.oneCell']) (by simp only[maxLen];omega) (by omega) (Nat.le_trans hs0 hb6.size) ?_
 intro v7 w7 hown7 hg7 hat7
 obtain ⟨A7,c7,hv7⟩:=own_form hown7
 subst hv7
 have hb7:Below bs w2 w7:=(hb6.mono hs0).grown hg7 (Nat.le_trans hs0 hb6.size) (own_base HRW2.out)
 have hlt5:=HLT.out
 have HDB7:=Hi (HDB2.out.below hb7 hlt5.2.2.2.1)
 have HCK7:Hid (CkIn w7 C k ws):=HCK2.out.fr (G:=fun j=>bs≤j) ⟨hb7.os,hb7.tape,hb7.output,hb7.size,fun j hj hn=>hb7.block j (by omega)⟩ (by omega) (by omega)
 have HBX7:=Hi (HBX2.out.below hb7 (by omega))
 have HO7:=Hi hown7
 have HB7:=Hi hb7
 have fz:=HDB7.out.free 0
 have q2b:w7.cell? ⟨db,0,none⟩=some (.slice A n c):=HDB7.out.cell 0
 clear hown7 hg7 hat7 hb6 hb7 q0 q1 q2 hlt5
 go_wp2_with fail
 refine bodyPost_end (results_none rfl _ _ _) rfl ⟨rfl,⟨?_,?_,⟨_,heap_setCell_same _ _ 0 _ _ _ HDB7.out,?_⟩,?_⟩,?_⟩
 ·exact HCK7.out.fr (fr_set _ _ _ _) (fun e=>by have:=HLT.out;omega) (fun e=>by have:=HLT.out;omega)
 ·exact HBX7.out.fr (fr_set _ _ _ _) (fun e=>by have:=HLT.out;omega)
 ·have e1:(l++ [(key,x)]).length=n+1:=by rw[List.length_append,HN.out];rfl
  have e2:ev (l++ [(key,x)])=ev l++ [.int .i64 key,.int .u64 (x:Int)]:=by rw[ev_append];rfl
  rw[e1,e2]
  exact own_fr HO7.out (fr_set _ _ _ _) (fun b hb e=>by have:=own_base HO7.out b hb;have:=HLT.out;omega)
 ·have:=HLT.out
  have h1:=HB2.out.size
  have h2:=HB7.out.size
  refine ⟨this.1,this.2.1,this.2.2.1,this.2.2.2.1,?_⟩
  simp only[World.size_setCell]
  omega
 ·refine ((Fr.of_below HB2.out:Fr (fun j=>j=db∨bs≤j) W w2).trans ?_).set (.inl (.inl rfl)) _
  exact ⟨HB7.out.os,HB7.out.tape,HB7.out.output,HB7.out.size,fun j hj hn=>HB7.out.block j (by omega)⟩
end
section
open Go.RowKit
attribute [local go_sem] Oper.semAt_some
structure VkIn (W:World) (C cb:Nat) (k:CK) (ws:List Nat) (rg:Nat) (rl:List Nat) (len:Nat) (f:Nat→Option Nat) (nt:Nat) (T:List Int):Prop where
 ck:CkIn W C k ws
 bx:Cs W cb 55 #[.pointer (some ⟨C,0,none⟩)]
 rf:k.rf=.slice (some ⟨rg,0,none⟩) k.da k.da
 rr:W.ownsRow 0 3 1 (.slice (some ⟨rg,0,none⟩) k.da k.da) k.da (nv rl)
 rl:rl.length=k.da
 sn:SnIn W k.ms len f
 tk:Seen W k.mt nt T
 a1:rg≠C∧rg≠cb∧rg≠k.g∧rg≠k.ms∧rg≠k.mt
 a2:k.ms≠C∧k.ms≠cb∧k.ms≠k.g∧k.ms≠k.mt
 ml:k.ms<W.heap.size
section
variable {W W':World} {C cb:Nat} {k:CK} {ws:List Nat} {rg:Nat} {rl:List Nat} {len:Nat} {f:Nat→Option Nat} {nt:Nat} {T:List Int}
theorem VkIn.fr {G:Nat→Prop} (h:VkIn W C cb k ws rg rl len f nt T) (hf:Fr G W W') (h1:¬G C) (h2:¬G cb) (h3:¬G k.g) (h4:¬G rg) (h5:¬G k.ms) (h6:¬G k.mt):VkIn W' C cb k ws rg rl len f nt T:=
 ⟨h.ck.fr hf h1 h3,h.bx.fr hf h2,h.rf,own_fr h.rr hf (fun q hq e=>by simp[Value.ownBlock] at hq;rw[←hq] at e;exact h4 e),h.rl,h.sn.fr hf h5,h.tk.fr hf h6,h.a1,h.a2,Nat.lt_of_lt_of_le h.ml hf.size⟩
theorem VkIn.keep (h:VkIn W C cb k ws rg rl len f nt T) (hb:Below W.heap.size W W'):VkIn W' C cb k ws rg rl len f nt T:=h.fr (G:=fun _=>False) (Fr.of_below hb) (fun q=>q) (fun q=>q) (fun q=>q) (fun q=>q) (fun q=>q) (fun q=>q)
theorem VkIn.lt (h:VkIn W C cb k ws rg rl len f nt T):C<W.heap.size∧cb<W.heap.size∧k.g<W.heap.size∧rg<W.heap.size∧k.ms<W.heap.size∧k.mt<W.heap.size:=⟨h.ck.cs.lt,h.bx.lt,own_lt h.ck.wr _ rfl,own_lt h.rr _ rfl,h.ml,h.tk.lt⟩
theorem VkIn.count (h:VkIn W C cb k ws rg rl len f nt T) {d x:Nat} (hd:d<k.da):VkIn (W.setCell ⟨rg,d,none⟩ (.int .i64 (x:Int))) C cb k ws rg (rl.set d x) len f nt T:=by
 have hf:=fr_set W rg d (.int .i64 (x:Int))
 have hst:=(h.rr.stored d (.int .i64 (x:Int))).1
 rw[nv_set] at hst
 exact ⟨h.ck.fr hf (fun e=>h.a1.1 e.symm) (fun e=>h.a1.2.2.1 e.symm),h.bx.fr hf (fun e=>h.a1.2.1 e.symm),h.rf,hst,by rw[List.length_set];exact h.rl,h.sn.fr hf (fun e=>h.a1.2.2.2.1 e.symm),h.tk.fr hf (fun e=>h.a1.2.2.2.2 e.symm),h.a1,h.a2,by simpa using h.ml⟩
end
theorem ckleaf_any (W:World) (C cb:Nat) (k:CK) (ws:List Nat) (rg:Nat) (rl:List Nat) (len:Nat) (f:Nat→Option Nat) (nt:Nat) (T:List Int) (h:VkIn W C cb k ws rg rl len f nt T) (key:Int) (x:Nat) (hx:x<18446744073709551616) (hd:dOf x<k.da) (ht:x / 16777216 % 1048576≤k.ti) (hc:rl[dOf x]?.getD 0≤1000000000) (hda:k.da≤16384) :
  Calls Tryz.prog 77 #[.agg #[.int .i64 key,.int .u64 (x:Int)],.pointer (some ⟨cb,0,none⟩)] W fun e w'=>e=.returned (.tuple #[])∧VkIn w' C cb k ws rg (rl.set (dOf x) (rl[dOf x]?.getD 0+1)) len f nt T∧Fr (fun j=>j=rg) W w':=by
 have hM:=Hi (fun w=>thmappingof_any key x w hx)
 have HD:Hid (dOf x=x % 16777216):=rfl
 obtain ⟨t,htt⟩ :∃q,x / 16777216 % 1048576=q:=⟨_,rfl⟩
 obtain ⟨d,hdd⟩ :∃q,dOf x=q:=⟨_,rfl⟩
 rw[htt] at hM ht
 rw[←HD.out,hdd] at hM
 rw[hdd] at hd hc ⊢
 obtain ⟨v,hv⟩ :∃q,rl[d]?.getD 0=q:=⟨_,rfl⟩
 have HV:=Hi hv
 rw[hv] at hc ⊢
 clear HD hdd htt hv
 have b0:Below W.heap.size W (W.alloc (.cells #[.int .i64 key,.int .u64 (x:Int)] 94)):=(Below.refl _ W).alloc (Nat.le_refl _) _
 have CE:=Cs.new W 94 #[.int .i64 key,.int .u64 (x:Int)]
 have H0:=Hi (h.keep b0)
 go_enter Tryz.func77,Tryz.ntmps77
 go_wp2_with fail
 generalize (W.alloc (.cells #[.int .i64 key,.int .u64 (x:Int)] 94))=w0 at *
 refine (hM.out w0).mono ?_
 rintro e w1 ⟨rfl,hb1⟩
 have b1:=b0.trans (hb1.mono b0.size)
 have bo:Below w1.heap.size w1 (w1.alloc (.cells #[.int .i64 key,.int .i64 (d:Int),.int .i64 (t:Int)] 125)):=(Below.refl _ w1).alloc (Nat.le_refl _) _
 have CX:=Cs.new w1 125 #[.int .i64 key,.int .i64 (d:Int),.int .i64 (t:Int)]
 have H2:=Hi ((H0.out.keep hb1).keep bo)
 have HB2:=Hi (b1.trans (bo.mono b1.size))
 clear b0 b1 bo hb1
 go_upto_region 2 with (fail)
 generalize (w1.alloc (.cells #[.int .i64 key,.int .i64 (d:Int),.int .i64 (t:Int)] 125))=w2 at CX H2 HB2 ⊢
 obtain ⟨pb,hpb⟩ :∃q,w1.heap.size=q:=⟨_,rfl⟩
 rw[hpb] at CX ⊢
 have HPB:=Hi hpb
 have y1:w2.cell? ⟨pb,1,none⟩=some (.int .i64 (d:Int)):=CX.cell 1
 have y2:w2.cell? ⟨pb,2,none⟩=some (.int .i64 (t:Int)):=CX.cell 2
 have y0:w2.cell? ⟨cb,0,none⟩=some (.pointer (some ⟨C,0,none⟩)):=H2.out.bx.cell 0
 have z4:w2.cell? ⟨C,4,none⟩=some (.int .i64 (k.ti:Int)):=H2.out.ck.cs.cell 4
 have z5:w2.cell? ⟨C,5,none⟩=some (.int .i64 (k.da:Int)):=H2.out.ck.cs.cell 5
 have z12:w2.cell? ⟨C,12,none⟩=some (.slice (some ⟨rg,0,none⟩) k.da k.da):=by
  have:=H2.out.ck.cs.cell 12
  rw[←H2.out.rf]
  exact this
 have zr:=H2.out.rr.cellAt d (by omega)
 rw[nv_at _ _ (by rw[H2.out.rl];exact hd),HV.out] at zr
 have zf:=H2.out.rr.frozenAt d
 have hcn:=Hi (H2.out.count (x:=v+1) hd)
 obtain ⟨da,hda2⟩ :∃q,k.da=q:=⟨_,rfl⟩
 obtain ⟨ti,hti2⟩ :∃q,k.ti=q:=⟨_,rfl⟩
 have hd':=hd
 rw[hda2] at z5 z12 hd hda
 rw[hti2] at z4 ht
 have t1:¬(da:Int)≤(d:Int):=by omega
 have t2:¬(ti:Int)<(t:Int):=by omega
 have t3:(d:Int)<(da:Int):=by omega
 have e1:IntKind.i64.wrap ((v:Int)+1)=(v:Int)+1:=IntWalk.i64_in _ (by omega)
 clear CX hpb hda2 hti2 CE
 go_wp2_with fail
 go_quiet (fail)
 go_wp2_with fail
 go_quiet (fail)
 go_wp2_with fail
 go_region
 go_wp2_with fail
 refine bodyPost_end (results_none rfl _ _ _) rfl ⟨rfl,VkIn.count (W:=World.drewN w2 _) (x:=v+1) ?_ hd',?_⟩
 ·exact H2.out.keep ⟨rfl,rfl,rfl,Nat.le_refl _,fun _ _=>rfl⟩
 ·refine Fr.set (G:=fun j=>j=rg) (W':=World.drewN w2 _) ?_ (b:=rg) (.inl rfl) _
  exact (Fr.of_below HB2.out).trans (Fr.of_below ⟨rfl,rfl,rfl,Nat.le_refl _,fun _ _=>rfl⟩)
end
section
open Go.RowKit
def cntL (rl l:List Nat):List Nat:=l.foldl (fun r d=>r.set d (r[d]?.getD 0+1)) rl
theorem cntL_snoc (rl l:List Nat) (d:Nat):cntL rl (l++ [d])=(cntL rl l).set d ((cntL rl l)[d]?.getD 0+1):=by
 unfold cntL
 rw[List.foldl_append]
 rfl
theorem cntL_at:∀(l rl:List Nat),(∀d∈l,d<rl.length)→∀d,(cntL rl l)[d]?.getD 0=rl[d]?.getD 0+l.count d
 | [],_,_,d=>by simp[cntL]
 |x :: l,rl,h,d=>by
  have hx:=h x List.mem_cons_self
  have h1:=cntL_at l (rl.set x (rl[x]?.getD 0+1)) (fun y hy=>by rw[List.length_set];exact h y (List.mem_cons_of_mem _ hy)) d
  rw[show cntL rl (x :: l)=cntL (rl.set x (rl[x]?.getD 0+1)) l from rfl,h1,List.count_cons]
  by_cases e:d=x
  ·subst e
   rw[List.getElem?_set_self hx]
   simp
   omega
  ·rw[List.getElem?_set_ne (fun q=>e q.symm)]
   have:¬x=d:=fun q=>e q.symm
   simp[this]
section
variable {N:Nat→Option Nd} {G:Gh} {len:Nat} {f:Nat→Option Nat} {rl:List Nat} {u d:Nat} {n:Nd}
structure VI (N:Nat→Option Nd) (G:Gh) (len:Nat) (f:Nat→Option Nat) (rl:List Nat):Prop where
 val:∀u c,f u=some c→G.K u=true→c=(G.E u).length∧∃n,N u=some n∧∀x∈kids n,f x≠none
 cnt:∀d,rl[d]?.getD 0=sumR len (fun u=>if f u=none then 0 else datN (G.K u) (N u) d)
theorem VI.made (h:∀x∈rl,x=0) (hf:∀u,f u≠none→G.K u=false):VI N G len f rl:=
 ⟨fun u c h hk=>absurd (hf u (by rw[h];simp)) (by rw[hk];simp),fun d=>by
  rw[(sumR_zero _).2 (fun w _=>by
   by_cases q:f w=none
   ·rw[if_pos q]
   ·rw[if_neg q,hf w q]
    rcases hw:N w with _|n
    ·rfl
    ·show (dats false n).count d=0
     simp[dats])]
  rcases hd:rl[d]? with _|x
  ·rfl
  ·exact h x (List.mem_of_getElem? hd)⟩
theorem VI.put (h:VI N G len f rl) (hn:N u=some n) (hu:u<len) (hk:G.K u=true) (hc:∀x∈kids n,f x≠none) (hf:n.lv=0→f u=none) (hd:∀d∈dats true n,d<rl.length) :
  VI N G len (fun w=>if w=u then some (G.E u).length else f w) (cntL rl (dats true n)):=by
 refine ⟨fun w c hw hkw=>?_,fun d=>?_⟩
 ·by_cases e:w=u
  ·subst e
   rw[if_pos rfl] at hw
   injection hw with hw
   refine ⟨hw.symm,n,hn,fun x hx=>?_⟩
   split
   ·simp
   ·exact hc x hx
  ·rw[if_neg e] at hw
   obtain ⟨h1,n',h3,h4⟩:=h.val w c hw hkw
   refine ⟨h1,n',h3,fun x hx=>?_⟩
   split
   ·simp
   ·exact h4 x hx
 ·rw[cntL_at _ _ hd,h.cnt]
  have hup:=sumR_upd (f:=fun w=>if f w=none then 0 else datN (G.K w) (N w) d) (g:=fun w=>if (if w=u then some (G.E u).length else f w)=none then 0 else datN (G.K w) (N w) d) (w:=u) len hu (fun v hv=>by
   rw[if_neg hv])
  rw[if_pos rfl,if_neg (show¬some (G.E u).length=none by simp)] at hup
  have e1:datN (G.K u) (N u) d=(dats true n).count d:=by rw[hn,hk];rfl
  by_cases hl:n.lv=0
  ·rw[if_pos (hf hl)] at hup
   omega
  ·have e2:dats true n= []:=by unfold dats;rw[if_neg (fun q=>hl q.1)]
   rw[e2] at e1 ⊢
   rw[e1] at hup
   simp only[List.count_nil] at hup ⊢
   split at hup <;> omega
theorem VI.small (h:VI N G len f rl) (hl:∀u n,N u=some n→n.es.length≤7) (d:Nat):rl[d]?.getD 0≤7 * len:=by
 rw[h.cnt]
 refine sumR_bound _ (fun w _=>?_)
 split
 ·omega
 ·rcases hw:N w with _|n
  ·exact Nat.zero_le _
  ·have:=hl w n hw
   show (dats (G.K w) n).count d≤7
   have h1:=List.count_le_length (a:=d) (l:=dats (G.K w) n)
   have h2:(dats (G.K w) n).length≤n.es.length:=by
    unfold dats
    split
    ·simp
    ·exact Nat.zero_le _
   omega
def tlN (G:Gh) (n:Nd) (i:Nat):Nat:=(eOf G { n with es:=n.es.take i }).length
theorem tlN_zero:tlN G n 0=0:=by unfold tlN eOf;simp
theorem tlN_leaf (h:n.lv=0) {i:Nat} (hi:i≤n.es.length):tlN G n i=i:=by
 unfold tlN eOf
 rw[if_pos (show ({ n with es:=n.es.take i }:Nd).lv=0 from h)]
 simp
 omega
theorem tlN_succ (h:n.lv≠0) {i:Nat} (hi:i<n.es.length):tlN G n (i+1)=tlN G n i+(G.E (n.es[i]?.getD (0,0)).2).length:=by
 unfold tlN eOf
 rw[if_neg (show¬({ n with es:=n.es.take (i+1) }:Nd).lv=0 from h),if_neg (show¬({ n with es:=n.es.take i }:Nd).lv=0 from h)]
 show ((n.es.take (i+1)).flatMap _).length=((n.es.take i).flatMap _).length+_
 rw[List.take_add_one,List.flatMap_append,List.length_append,List.getElem?_eq_getElem hi]
 simp
theorem tlN_all {i:Nat} (hi:n.es.length≤i):tlN G n i=(eOf G n).length:=by
 unfold tlN
 rw[List.take_of_length_le hi]
theorem tlN_le (i:Nat):tlN G n i≤(eOf G n).length:=by
 unfold tlN eOf
 by_cases h:n.lv=0
 ·rw[if_pos (show ({ n with es:=n.es.take i }:Nd).lv=0 from h),if_pos h]
  show (n.es.take i).length≤_
  rw[List.length_take]
  omega
 ·rw[if_neg (show¬({ n with es:=n.es.take i }:Nd).lv=0 from h),if_neg h]
  show ((n.es.take i).flatMap _).length≤_
  conv=>rhs;rw[←List.take_append_drop i n.es,List.flatMap_append,List.length_append]
  omega
theorem kid_E (h:n.lv≠0) {e:Int × Nat} (he:e∈n.es) {x:Int × Nat} (hx:x∈G.E e.2):x∈eOf G n:=by
 unfold eOf
 rw[if_neg h]
 exact List.mem_flatMap.2 ⟨e,he,hx⟩
theorem kid_len (h:n.lv≠0) {i:Nat} (hi:i<n.es.length):(G.E (n.es[i]?.getD (0,0)).2).length≤(eOf G n).length:=by
 have h1:=tlN_succ (G:=G) h hi
 have h2:=tlN_le (G:=G) (n:=n) (i+1)
 omega
structure VR (N:Nat→Option Nd) (G:Gh) (len:Nat) (n:Nd) (f0:Nat→Option Nat) (rl0:List Nat) (i:Nat) (f:Nat→Option Nat) (rl:List Nat):Prop where
 lf:n.lv=0→f=f0∧rl=cntL rl0 ((dats true n).take i)
 inn:n.lv≠0→VI N G len f rl∧∀j,j<i→f (n.es[j]?.getD (0,0)).2≠none
 up:∀x,f0 x≠none→f x≠none
variable {f0:Nat→Option Nat} {rl0:List Nat} {i:Nat}
theorem VR.start (h:VI N G len f rl):VR N G len n f rl 0 f rl:=
 ⟨fun _=>⟨rfl,by simp[cntL]⟩,fun _=>⟨h,fun j hj=>by omega⟩,fun _ hx=>hx⟩
theorem dats_at (h:n.lv=0) {i:Nat} (hi:i<n.es.length):(dats true n)[i]? =some (dOf (n.es[i]?.getD (0,0)).2):=by
 unfold dats
 rw[if_pos ⟨h,rfl⟩,List.getElem?_map,List.getElem?_eq_getElem hi]
 rfl
theorem VR.leaf (h:VR N G len n f0 rl0 i f rl) (hl:n.lv=0) (hi:i<n.es.length):VR N G len n f0 rl0 (i+1) f (rl.set (dOf (n.es[i]?.getD (0,0)).2) (rl[dOf (n.es[i]?.getD (0,0)).2]?.getD 0+1)):=by
 obtain ⟨h1,h2⟩:=h.lf hl
 refine ⟨fun _=>⟨h1,?_⟩,fun q=>absurd hl q,h.up⟩
 rw[List.take_add_one,dats_at hl hi,h2]
 exact (cntL_snoc _ _ _).symm
theorem VR.node {f':Nat→Option Nat} {rl':List Nat} (h:VR N G len n f0 rl0 i f rl) (hl:n.lv≠0) (hv:VI N G len f' rl') (h1:f' (n.es[i]?.getD (0,0)).2≠none) (h2:∀x,f x≠none→f' x≠none):VR N G len n f0 rl0 (i+1) f' rl':=
 ⟨fun q=>absurd q hl,fun _=>⟨hv,fun j hj=>by
  by_cases e:j=i
  ·rw[e];exact h1
  ·exact h2 _ ((h.inn hl).2 j (by omega))⟩,fun x hx=>h2 x (h.up x hx)⟩
theorem VR.fin (h:VR N G len n f0 rl0 i f rl) (h0:VI N G len f0 rl0) (hi:n.es.length≤i) (hn:N u=some n) (hu:u<len) (hk:G.K u=true) (hf:f0 u=none) (hd:∀d∈dats true n,d<rl0.length) :
  VI N G len (fun w=>if w=u then some (G.E u).length else f w) rl:=by
 by_cases hl:n.lv=0
 ·obtain ⟨rfl,h2⟩:=h.lf hl
  rw[List.take_of_length_le (by unfold dats;split <;> simp;exact hi)] at h2
  rw[h2]
  exact h0.put hn hu hk (fun x hx=>by unfold kids at hx;rw[if_pos hl] at hx;cases hx) (fun _=>hf) hd
 ·obtain ⟨h1,h2⟩:=h.inn hl
  have h3:=h1.put hn hu hk (fun x hx=>by
   unfold kids at hx
   rw[if_neg hl] at hx
   obtain ⟨e,he,rfl⟩:=List.mem_map.1 hx
   obtain ⟨j,hj,rfl⟩:=List.mem_iff_getElem.1 he
   have:=h2 j (by omega)
   rw[List.getElem?_eq_getElem hj] at this
   exact this) (fun q=>absurd q hl) (fun d hd=>by unfold dats at hd;rw[if_neg (fun q=>hl q.1)] at hd;cases hd)
  have e2:dats true n= []:=by unfold dats;rw[if_neg (fun q=>hl q.1)]
  rw[e2] at h3
  exact h3
theorem VR.small (h:VR N G len n f0 rl0 i f rl) (h0:VI N G len f0 rl0) (hl:∀u n,N u=some n→n.es.length≤7) (hn:n.es.length≤7) (hd:∀d∈dats true n,d<rl0.length) (d:Nat):rl[d]?.getD 0≤7 * len+7:=by
 by_cases q:n.lv=0
 ·obtain ⟨h1,h2⟩:=h.lf q
  rw[h2,cntL_at _ _ (fun x hx=>hd x (List.mem_of_mem_take hx))]
  have:=h0.small hl d
  have h3:=List.count_le_length (a:=d) (l:=(dats true n).take i)
  have h4:((dats true n).take i).length≤n.es.length:=by
   rw[List.length_take]
   unfold dats
   split <;> simp
   omega
  omega
 ·have:=(h.inn q).1.small hl d
  omega
end
end
end Go.Proofs.YtplhdjdkobddnaaGreat
