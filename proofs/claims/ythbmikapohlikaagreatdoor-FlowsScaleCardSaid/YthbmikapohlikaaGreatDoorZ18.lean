/- Part 18 of 24 of what the Flows claims share (the white space is struck, the texts are joined). -/
import Derived.Test.YthbmikapohlikaaGreatDoorZ17
set_option linter.unusedVariables false
set_option linter.unusedSimpArgs false
set_option maxRecDepth 100000
set_option maxHeartbeats 8000000
namespace Go.Proofs.YthbmikapohlikaaGreatDoor
open Go.RowKit
theorem jzh0(ars:List Nat):iints (ars.map fun a:Nat=>(a:Int))=ints ars:=by unfold iints ints;rw [List.map_map];rfl
theorem wordSize(l:List UInt8):(⟨l.toArray⟩:ByteArray).size=l.length:=by show l.toArray.size=_;simp
theorem OwL.one{α:Type}{R:World->List Value->α->Prop}{e:TypeId}{s:Nat}{w:World}{B g:Nat}{us:List Value}{x:α}(hb:Blk w g e us.toArray)(hB:B<=g)(hus:us.length=s)(hR:R w us x):OwL R e s w B (.slice (some ⟨g,0,none⟩) 1 1) [x]:=by
 refine⟨[us],rfl,fun cs hc=>by rw [xD.1 hc];exact hus,⟨by simp [hus],.inr ⟨g,1,us.toArray,rfl,hB,hb,yX _,by unfold maxLen;decide,by simp [hus],?_⟩⟩,fun i y hi=>?_⟩
 ·show us.take (1*s)=[us].flatten
  rw [xQ,yU (by omega)];simp
 ·cases i with
  |zero=>injection hi with hi;subst hi;exact⟨us,rfl,hR⟩
  |succ i=>cases hi
theorem pTs_snoc(L2 i:Nat){ars:List Nat}{k a:Nat}(h:ars[k]?=some a):pTs L2 (i,ars.take (k+1))=pTs L2 (i,ars.take k)++[(a,1)]:=by
 unfold pTs;rw [List.take_add_one,h];simp
theorem slk_few(T:Sx.Tb)(vals:List Rat)(hinj:∀j k,j<T.fre.length->k<T.fre.length->Sx.atN T.fre j=Sx.atN T.fre k->j=k)(n:Nat)(hn:n<=T.fre.length):(Sx.slk T vals n).length<=vals.length:=by
 have qa:∀n,n<=T.fre.length->((Sx.slk T vals n).map (Sx.atN T.fre)).Nodup:=fun n=>by
  induction n with
  |zero=>intro _;exact List.nodup_nil
  |succ n ih=>
   intro hn;rw [jze6]
   split
   ·rw [List.map_append,List.nodup_append]
    refine⟨ih (by omega),by simp,fun a ha b hb e=>?_⟩;obtain⟨j,hj,rfl⟩:=List.mem_map.1 ha;have hb:b=Sx.atN T.fre n:=(by simpa using hb);have h1:=jzgu T vals n j hj;have:=hinj j n (by omega) (by omega) (e.trans hb);omega
   ·exact ih (by omega)
 have h1:=Sx.nodup_le (k:=List.range vals.length) (qa n hn) fun y hy=>by
  obtain⟨j,hj,rfl⟩:=List.mem_map.1 hy;exact vX.2 (jzgu T vals n j hj).2
 rw [xV,List.length_range]at h1;exact h1
theorem jzll{w0 w:World}{x mb:Nat}{t:Tp}{AO:Option Addr}{co:Nat}{AL:Option Addr}{cl:Nat}{l:List Dm}{AD:Option Addr}{cd:Nat}{L:TLoc}{T:Sx.Tb}{vP:Value}{P:List (Nat×List Nat)}(F:FlR w0 w x mb t AO co AL cl l AD cd L T vP P P)
  (hf:Fit t l) (hl:t.links.length<=10) (hD:l.length<=4) (hflp:Sx.FLP (2*t.links.length) l.length (amQ l) (capQ t) T P) (hPl:P.length<=10000000000) (i:Nat) (hi:i<l.length) (A:Option Addr) (n c:Nat) (ars:List Nat) (hn:ars.length=n) (hA:RdT w 3 A (ints ars)) (qR:ars≠ []->∀ad,A=some ad->¬L.S ad.block) (hc:n<=c)
  (has:∀a∈ars,a<2*t.links.length) (hasl:n<=64) (hta:Tab w):
  Calls Tryz.prog 41 #[.pointer (some ⟨x,0,none⟩),.int .i64 (i:Int),.slice A n c] w fun e w'=>
   ((i,ars)∈P/\e=.returned (.bool false)/\Ext w w')\/
   ((i,ars)∉P/\e=.returned (.bool true)/\∃(L':TLoc) (vP':Value),FlR w0 w' x mb t AO co AL cl l AD cd L' (Sx.addT T 0 (valsOf L.m (pTs (2*t.links.length) (i,ars)))) vP' (P++[(i,ars)]) (P++[(i,ars)])/\FrS (FlB x mb L vP) w w'/\∀b,FlB x mb L' vP' b->FlB x mb L vP b\/w.heap.size<=b):=by
 have HF:=Hx (And.intro F hf);have HA:=Hx (And.intro hA qR);have HT:=Hx hta;have HS:=Hx has;have qH:=Hx hflp;have B1:=Hx (Blk.new w 70 #[.int .i64 (i:Int),.slice A n c,.bool false,.slice none 0 0,.slice none 0 0]);have X1:=Hx ((Ext.refl w).alloc (.cells #[.int .i64 (i:Int),.slice A n c,.bool false,.slice none 0 0,.slice none 0 0] 70));have qQ:=Hx (show(⟨(Sx.nameL (i:Int) (ars.map fun a:Nat=>(a:Int))).toArray⟩:ByteArray).data.toList=nameP (i,ars)from rfl);have qP:(⟨(Sx.nameL (i:Int) (ars.map fun a:Nat=>(a:Int))).toArray⟩:ByteArray).size<=maxLen:=by
  rw [wordSize];have h1:=jze5 (i:Int) (ars.map fun a:Nat=>(a:Int)) (by unfold i64;omega) (fun a ha=>by
   obtain⟨b,hb,rfl⟩:=List.mem_map.1 ha;have:=has b hb;unfold i64;omega)
  rw [xV]at h1;unfold maxLen;omega
 have qL:=Hx qP;clear F hA qR hta has hflp qP hf
 go_enter Tryz.func41,Tryz.ntmps41
 go_upto_region 2 with fail
 generalize w.alloc (.cells #[.int .i64 (i:Int),.slice A n c,.bool false,.slice none 0 0,.slice none 0 0] 70)=W1 at*;generalize hbp:w.heap.size=bp at*;have qf:=Hx (show∀wx,Ext W1 wx->wx.cell? ⟨x,6,none⟩=some (.map (some mb))/\(wx.cell? ⟨bp,0,none⟩=some (.int .i64 (i:Int))/\wx.cell? ⟨bp,1,none⟩=some (.slice A n c)/\wx.cell? ⟨bp,2,none⟩=some (.bool false)/\wx.cell? ⟨bp,3,none⟩=some (.slice none 0 0)/\wx.cell? ⟨bp,4,none⟩=some (.slice none 0 0))from fun wx hx=>
  ⟨(HF.out.1.box.keep (X1.out.tr hx)).cell 6,(B1.out.keep hx).cell 0,(B1.out.keep hx).cell 1,(B1.out.keep hx).cell 2,(B1.out.keep hx).cell 3,(B1.out.keep hx).cell 4⟩)
 have qp:=Hx (show∀wx,Ext w wx->Calls Tryz.prog 65 #[.agg #[.int .i64 (i:Int),.slice A n c,.bool false,.slice none 0 0,.slice none 0 0]] wx fun e w'=>e=.returned (.string ⟨(Sx.nameL (i:Int) (ars.map fun a:Nat=>(a:Int))).toArray⟩)/\Ext wx w' from fun wx hx=>
  name_ok (i:Int) (ars.map fun a:Nat=>(a:Int)) A n c (by rw [xV];exact hn) false none 0 0 none 0 0 wx (HT.out.keep hx) (by rw [jzh0];exact(HA.out.1.keep hx).rd) (by omega) (by unfold i64;omega) (fun a ha=>by
   obtain⟨b,hb,rfl⟩:=List.mem_map.1 ha;have:=HS.out b hb;unfold i64;omega))
 have XD:=Hx (show Ext W1 W1.drew from(Ext.refl W1).drewN 1);have HSW:=Hx (qf.out _ XD.out);refine jzg (fun w'=>w'.cell? ⟨x,6,none⟩=some (.map (some mb))/\(w'.cell? ⟨bp,0,none⟩=some (.int .i64 (i:Int))/\w'.cell? ⟨bp,1,none⟩=some (.slice A n c)/\w'.cell? ⟨bp,2,none⟩=some (.bool false)/\w'.cell? ⟨bp,3,none⟩=some (.slice none 0 0)/\w'.cell? ⟨bp,4,none⟩=some (.slice none 0 0))) 6 (by kernel_rfl) ?_;refine wP 0 rfl HSW.out ?_;try simp only [Act.put,yD,yE,yF]
 refine wP 1 rfl HSW.out ?_;try simp only [Act.put,yD,yE,yF]
 refine wP 2 rfl HSW.out ?_;try simp only [Act.put,yD,yE,yF]
 refine wT 3 (v:=?_) rfl ?_ HSW.out ?_;rotate_left
 focus (intro w hSw;obtain⟨s1,s2,s3,s4,s5,s6⟩:=hSw;go_simp;try with_reducible rfl)
 try simp only [Act.put,yD,yE,yF]
 refine jzb2 (m:=5) (i:=4) (v:=?_) rfl (by kernel_rfl) (by kernel_rfl) (by kernel_rfl) (by decide) (by kernel_rfl) (by kernel_rfl) (by kernel_rfl) (fun _ _ _ h=>h) (Or.inl ⟨by rfl,?_⟩) HSW.out ?_;rotate_left
 focus (intro w hSw;obtain⟨s1,s2,s3,s4,s5,s6⟩:=hSw;go_simp;try with_reducible rfl)
 try simp only [Act.put,yD,yE,yF]
 refine wC 5 rfl (fun KK hK=>?_);go_simp;refine(qp.out _ (X1.out.tr XD.out)).mono ?_;rintro e w2 ⟨rfl,x2⟩;have E2:=Hx (XD.out.tr x2);have HSW:=Hx (qf.out _ E2.out);refine hK.out _ _ HSW.out ?_;clear hK KK x2;try simp only [Act.put,yD,yE,yF]
 refine jzk (by kernel_rfl) rfl (by rfl) (fun KK hK=>?_);refine wp_lookS _ _ rfl mb P.length (P.map nameP) (by rfl) (HF.out.1.map.keep (X1.out.tr E2.out)) _ (by rfl) qL.out ?_;rw [qQ.out];refine hK.out _ _ ?_;clear hK KK HSW XD;refine wpAny_done (by kernel_rfl) ?_ _;try simp only [Act.put,yD,yE,yF]
 by_cases qw:(i,ars)∈P
 ·have hd:decide (nameP (i,ars)∈List.map nameP P)=true:=yO ((jzhx _ _).2 qw)
  have qx:=Hx (And.intro qw (X1.out.tr E2.out));rw [hd];clear hd qw;go_wp2;go_ret;exact .inl ⟨qx.out.1,rfl,qx.out.2⟩
 ·have hd:decide (nameP (i,ars)∈List.map nameP P)=false:=yP fun h=>qw ((jzhx _ _).1 h)
  have qO:=Hx qw;rw [hd];clear hd qw;have XD:=Hx (show Ext w2 w2.drew from(Ext.refl w2).drewN 1);have HSW:=Hx (qf.out _ (E2.out.tr XD.out))
  go_upto_region 4 with fail
  refine jzg (fun w'=>w'.cell? ⟨x,6,none⟩=some (.map (some mb))/\(w'.cell? ⟨bp,0,none⟩=some (.int .i64 (i:Int))/\w'.cell? ⟨bp,1,none⟩=some (.slice A n c)/\w'.cell? ⟨bp,2,none⟩=some (.bool false)/\w'.cell? ⟨bp,3,none⟩=some (.slice none 0 0)/\w'.cell? ⟨bp,4,none⟩=some (.slice none 0 0))) 6 (by kernel_rfl) ?_;refine wP 0 rfl HSW.out ?_;try simp only [Act.put,yD,yE,yF]
  refine wP 1 rfl HSW.out ?_;try simp only [Act.put,yD,yE,yF]
  refine wP 2 rfl HSW.out ?_;try simp only [Act.put,yD,yE,yF]
  refine wT 3 (v:=?_) rfl ?_ HSW.out ?_;rotate_left
  focus (intro w hSw;obtain⟨s1,s2,s3,s4,s5,s6⟩:=hSw;go_simp;try with_reducible rfl)
  try simp only [Act.put,yD,yE,yF]
  refine jzb2 (m:=5) (i:=4) (v:=?_) rfl (by kernel_rfl) (by kernel_rfl) (by kernel_rfl) (by decide) (by kernel_rfl) (by kernel_rfl) (by kernel_rfl) (fun _ _ _ h=>h) (Or.inl ⟨by rfl,?_⟩) HSW.out ?_;rotate_left
  focus (intro w hSw;obtain⟨s1,s2,s3,s4,s5,s6⟩:=hSw;go_simp;try with_reducible rfl)
  try simp only [Act.put,yD,yE,yF]
  refine wC 5 rfl (fun KK hK=>?_);go_simp;refine(qp.out _ (X1.out.tr (E2.out.tr XD.out))).mono ?_;rintro e w3 ⟨rfl,x3⟩;have E3:=Hx (E2.out.tr (XD.out.tr x3));have HSW:=Hx (qf.out _ E3.out);refine hK.out _ _ HSW.out ?_;clear hK KK x3;try simp only [Act.put,yD,yE,yF]
  refine jzk (by kernel_rfl) rfl (by rfl) (fun KK hK=>?_);refine wp_putS _ _ _ rfl mb P.length (P.map nameP) (by rfl) (HF.out.1.map.keep (X1.out.tr E3.out)) (by unfold maxLen;omega) _ (by rfl) qL.out (by rfl) ?_;intro w4 qF qE;rw [qQ.out]at qF;have F4:=Hx ((HF.out.1.keep (X1.out.tr E3.out)).mapped qE qF);have K4:=Hx (show FrS (fun b=>b=mb) w3 w4 from FrS.of_grown qE fun g e=>by injection e with e;exact e.symm);have B4:=Hx (K4.out.blk (B1.out.keep E3.out) fun e=>by
   have h1:=(HF.out.1.map.keep (X1.out.tr E3.out)).not (t:=70) (cs:=#[.int .i64 (i:Int),.slice A n c,.bool false,.slice none 0 0,.slice none 0 0]);rw [<-e]at h1;exact h1 (B1.out.keep E3.out))
  have A4:=Hx (K4.out.rdT ((HF.out.1.map.keep (X1.out.tr E3.out)).noT _) (HA.out.1.keep (X1.out.tr E3.out)));have qJ:=Hx (show FrS (FlB x mb L vP) w w4 from(FrS.of_ext (X1.out.tr E3.out)).tr K4.out fun b hb=>.inl (.inr (.inl hb)));refine hK.out _ _ ?_;clear hK KK HSW XD qF qE K4 qf qp;refine wpAny_done (by kernel_rfl) ?_ _;try simp only [Act.put,yD,yE,yF]
  have qf:=Hx (show∀wx,Ext w4 wx->wx.cell? ⟨x,5,none⟩=some vP/\(wx.cell? ⟨bp,0,none⟩=some (.int .i64 (i:Int))/\wx.cell? ⟨bp,1,none⟩=some (.slice A n c)/\wx.cell? ⟨bp,2,none⟩=some (.bool false)/\wx.cell? ⟨bp,3,none⟩=some (.slice none 0 0)/\wx.cell? ⟨bp,4,none⟩=some (.slice none 0 0))from fun wx hx=>
   ⟨(F4.out.box.keep hx).cell 5,(B4.out.keep hx).cell 0,(B4.out.keep hx).cell 1,(B4.out.keep hx).cell 2,(B4.out.keep hx).cell 3,(B4.out.keep hx).cell 4⟩)
  have XD:=Hx (show Ext w4 w4.drew from(Ext.refl w4).drewN 1);have HSW:=Hx (qf.out _ XD.out)
  go_upto_region 5 with fail
  refine jzg (fun w'=>w'.cell? ⟨x,5,none⟩=some vP/\(w'.cell? ⟨bp,0,none⟩=some (.int .i64 (i:Int))/\w'.cell? ⟨bp,1,none⟩=some (.slice A n c)/\w'.cell? ⟨bp,2,none⟩=some (.bool false)/\w'.cell? ⟨bp,3,none⟩=some (.slice none 0 0)/\w'.cell? ⟨bp,4,none⟩=some (.slice none 0 0))) 10 (by kernel_rfl) ?_;refine wP 0 rfl HSW.out ?_;try simp only [Act.put,yD,yE,yF]
  refine wP 1 rfl HSW.out ?_;try simp only [Act.put,yD,yE,yF]
  refine wP 2 rfl HSW.out ?_;try simp only [Act.put,yD,yE,yF]
  refine wP 3 rfl HSW.out ?_;try simp only [Act.put,yD,yE,yF]
  refine wT 4 (v:=?_) rfl ?_ HSW.out ?_;rotate_left
  focus (intro w hSw;obtain⟨s1,s2,s3,s4,s5,s6⟩:=hSw;go_simp;try with_reducible rfl)
  try simp only [Act.put,yD,yE,yF]
  refine wT 5 (v:=?_) rfl ?_ HSW.out ?_;rotate_left
  focus (intro w hSw;obtain⟨s1,s2,s3,s4,s5,s6⟩:=hSw;go_simp;try with_reducible rfl)
  try simp only [Act.put,yD,yE,yF]
  refine wC 6 rfl (fun KK hK=>?_);go_simp;have XB:=Hx (show Ext w4 (w4.alloc (.cells #[.int .i64 (i:Int),.slice A n c,.bool false,.slice none 0 0,.slice none 0 0] 70)).drew from((Ext.refl w4).alloc _).drewN 1);have qt:=Hx (qf.out _ XB.out);refine hK.out _ _ qt.out ?_;clear hK KK HSW;have HSW:=qt;clear qt;have BW:=Hx (show Blk (w4.alloc (.cells #[.int .i64 (i:Int),.slice A n c,.bool false,.slice none 0 0,.slice none 0 0] 70)).drew w4.heap.size 70 #[.int .i64 (i:Int),.slice A n c,.bool false,.slice none 0 0,.slice none 0 0]from Blk.new w4 _ _);generalize (w4.alloc (.cells #[.int .i64 (i:Int),.slice A n c,.bool false,.slice none 0 0,.slice none 0 0] 70)).drew=W6 at*;have F6:=Hx (F4.out.keep XB.out);obtain⟨css,h1,h2,qe,h4⟩:=F6.out.pat;have qC:w0.heap.size<=W6.heap.size:=F6.out.ext.size;refine wC 7 rfl (fun KK hK=>?_);refine jzdl W6 36 70 _ 5 88 _ _ rfl Tryz.underlying36 jze7 rfl (by decide) w0.heap.size vP P.length css.flatten (by rfl) qe [.int .i64 (i:Int),.slice A n c,.bool false,.slice none 0 0,.slice none 0 0] rfl (by simp [Value.oneCell']) w4.heap.size (by rfl) BW.out (by unfold maxLen;omega) (by omega) qC ?_;intro g7 c7 w7 qi qa qn;have k7:=Hx (show FrS (fun b=>vP.ownBlock=some b) W6 w7 from FrS.of_grown qa fun g e=>e);have FP:=Hx (F6.out.pushed (p:=(i,ars)) h1 h2 h4 (us:=[.int .i64 (i:Int),.slice A n c,.bool false,.slice none 0 0,.slice none 0 0]) rfl ⟨A,c,by simp only [hn],by rw [hn];exact hc,A4.out.keep XB.out,HA.out.2⟩ qi qa);have A7:=Hx (k7.out.rdT (fun b hb=>jz3 qe hb (by decide)) (A4.out.keep XB.out));obtain⟨s1,s2,s3,s4⟩:=F6.out.sep;have qD:=Hx (k7.out.blk F6.out.box fun e=>(s3 x e).2.1 rfl);have qo:=Hx (show w7.cell? ⟨x,5,none⟩=some vP/\(w7.cell? ⟨bp,0,none⟩=some (.int .i64 (i:Int))/\w7.cell? ⟨bp,1,none⟩=some (.slice A n c)/\w7.cell? ⟨bp,2,none⟩=some (.bool false)/\w7.cell? ⟨bp,3,none⟩=some (.slice none 0 0)/\w7.cell? ⟨bp,4,none⟩=some (.slice none 0 0))from by
   have qy:=k7.out.blk (B4.out.keep XB.out) fun e=>by
    obtain⟨xs,ho⟩:=HF.out.1.pat.own;have:=(ho.lt bp e).2;omega
   exact⟨qD.out.cell 5,qy.cell 0,qy.cell 1,qy.cell 2,qy.cell 3,qy.cell 4⟩)
  have N7:=Hx (show some g7=vP.ownBlock\/bp<=g7 from qn.imp id fun e=>by have:=(B4.out.keep XB.out).lt;omega);refine hK.out _ _ qo.out ?_;clear hK KK HSW qi qa qe qn h1 h2 h4 css s1 s2 s3 s4;have HSW:=qo;try simp only [Act.put,yD,yE,yF]
  have z0:w7.frozen? ⟨x,5,none⟩=false:=qD.out.frozen _;have y0:w7.cell? ⟨x,5,none⟩=some vP:=qo.out.1;refine wP 8 rfl HSW.out ?_;try simp only [Act.put,yD,yE,yF]
  refine wP 9 rfl HSW.out ?_;try simp only [Act.put,yD,yE,yF]
  refine jzk (by kernel_rfl) rfl (by rfl) (fun KK hK=>?_);go_simp;refine hK.out _ _ ?_;clear hK KK HSW qo z0 y0;refine wpAny_done (by kernel_rfl) ?_ _;have A8:=Hx (show RdT (w7.setCell ⟨x,5,none⟩ (.slice (some ⟨g7,0,none⟩) (P.length+1) c7)) 3 A (ints ars)from A7.out.set_ (p:=⟨x,5,none⟩) qD.out (by decide) _);have qI:=Hx (show FrS (FlB x mb L vP) w (w7.setCell ⟨x,5,none⟩ (.slice (some ⟨g7,0,none⟩) (P.length+1) c7))from(qJ.out.tr (FrS.of_ext (S:=FlB x mb L vP) XB.out) fun b hb=>.inl hb).tr FP.out.2 fun b hb=>.inl (hb.elim (fun h=>.inl h) fun h=>.inr (.inr (.inr h))));have F8:=Hx FP.out.1;clear FP A7 qD k7 F6 A4 qJ BW XB F4 B4 qf E2 E3 X1 B1;generalize w7.setCell ⟨x,5,none⟩ (.slice (some ⟨g7,0,none⟩) (P.length+1) c7)=W8 at*;have q0:W8.cell? ⟨x,0,none⟩=some (.int .i64 t.nodes):=F8.out.box.cell 0;have q1:W8.cell? ⟨x,1,none⟩=some (.slice AO t.over.length co):=F8.out.box.cell 1;have q2:W8.cell? ⟨x,2,none⟩=some (.slice AL t.links.length cl):=F8.out.box.cell 2;have qG:IntKind.i64.wrap (2*(t.links.length:Int)+(i:Int))=2*(t.links.length:Int)+(i:Int):=by rw [IntKind.wrap_i64];omega
  go_wp2_with fail
  refine(jzac t AO co AL cl _ (F8.out.top.keep F8.out.ext)).mono ?_;rintro e w9 ⟨rfl,x9⟩;have X9:=Hx x9;clear x9 q0 q1 q2
  go_wp2_with fail
  refine(jzar (-1) _ (by unfold i64;omega)).mono ?_;rintro e wA ⟨neg,A1,k1,c1,qA,qz,qB,rfl,hR,xA⟩;have XA:=Hx (X9.out.tr xA);have RA:=Hx hR;clear xA hR X9;have XT:=Hx ((Ext.refl wA).alloc (.cells #[.int .i64 (2*(t.links.length:Int)+(i:Int)),.bool neg,.slice A1 k1 c1,.slice qA qz qB] 137));have T0:=Hx (show TmO (wA.alloc (.cells #[.int .i64 (2*(t.links.length:Int)+(i:Int)),.bool neg,.slice A1 k1 c1,.slice qA qz qB] 137)) wA.heap.size (.slice (some ⟨wA.heap.size,0,none⟩) 1 1) (pTs (2*t.links.length) (i,ars.take 0))from by
   refine OwL.one (us:=[.int .i64 (2*(t.links.length:Int)+(i:Int)),.bool neg,.slice A1 k1 c1,.slice qA qz qB]) (Blk.new wA _ _) (yX _) rfl ⟨neg,A1,k1,c1,qA,qz,qB,?_,RA.out.keep XT.out⟩;have e9:((2*t.links.length+i:Nat):Int)=2*(t.links.length:Int)+(i:Int):=(by omega);simp only [e9])
  have qV:W8.heap.size<=wA.heap.size:=XA.out.size
  go_upto_region 7 with fail
  clear qG;generalize wA.alloc (.cells #[.int .i64 (2*(t.links.length:Int)+(i:Int)),.bool neg,.slice A1 k1 c1,.slice qA qz qB] 137)=WT at*;generalize wA.heap.size=B8 at*;have E9:=Hx (XA.out.tr XT.out);have qM:B8<=WT.heap.size:=by
   obtain⟨xs,ho⟩:=T0.out.own;have:=(ho.lt B8 rfl).2;omega
  clear RA XT XA;go_wp2
  go_loopg [8,10,49] n (fun q v8 _ it wx=>∃k:Nat,n-k=q/\k<=n/\it=.int .i64 (k:Int)/\Hid (TmO wx B8 v8 (pTs (2*t.links.length) (i,ars.take k))/\Ext W8 wx/\B8<=wx.heap.size))
  case atStart=>exact⟨0,rfl,yZ _,rfl,Hx ⟨T0.out,E9.out,qM⟩⟩
  case round=>
   obtain⟨k,rfl,hk,rfl,I⟩:=hrel;clear T0 E9 qM;obtain⟨A9,c9,qS,qU⟩:=I.out.1.form;have qh:(pTs (2*t.links.length) (i,ars.take k)).length=k+1:=(by unfold pTs;simp;omega);rw [qh]at qS qU;subst qS;have qT:B8<=wr.heap.size:=I.out.2.2;by_cases qW:k<n
   ·obtain⟨a,ha⟩:∃a,ars[k]?=some a:=⟨_,yG (by omega)⟩
    have NX:=Hx (pTs_snoc (2*t.links.length) i ha);obtain⟨b,o,rfl,hb,ca⟩:=jzko ((A8.out.keep I.out.2.1).rd) ha;have nN:(k:Int)<(n:Int):=(by omega);have n0:(0:Int)<=(k:Int):=(by omega);clear ha
    go_wp2_with fail
    refine(jzar 1 _ (by unfold i64;omega)).mono ?_;rintro e w5 ⟨qg,A5,k5,c5,qk,qm,qj,rfl,qK,x5⟩;have R5:=Hx (show RatR (w5.alloc (.cells #[.int .i64 (a:Int),.bool qg,.slice A5 k5 c5,.slice qk qm qj] 137)) qg A5 k5 c5 qk qm qj 1 from qK.keep ((Ext.refl _).alloc _));have XB:=Hx (show Ext wr (w5.alloc (.cells #[.int .i64 (a:Int),.bool qg,.slice A5 k5 c5,.slice qk qm qj] 137))from x5.alloc _);have BW:=Hx (Blk.new w5 137 #[.int .i64 (a:Int),.bool qg,.slice A5 k5 c5,.slice qk qm qj]);have IB:=Hx (I.out.1.keep XB.out fun cs y hy=>hy.keep XB.out);obtain⟨css,h1,h2,qe,h4⟩:=IB.out;rw [qh]at h1 qe;have qC:B8<=(w5.alloc (.cells #[.int .i64 (a:Int),.bool qg,.slice A5 k5 c5,.slice qk qm qj] 137)).heap.size:=yY qT XB.out.size;clear qK x5 ca
    go_wp2_with (at_builtin;refine jz2 _ 135 137 _ 4 64 rfl _ _ rfl Tryz.underlying135 jzhz rfl (by decide) B8 (.slice A9 (k+1) c9) (k+1) css.flatten rfl qe [.int .i64 (a:Int),.bool qg,.slice A5 k5 c5,.slice qk qm qj] rfl (by simp [Value.oneCell']) w5.heap.size rfl BW.out (by unfold maxLen;omega) (by omega) qC ?_)
    intro g7 c7 w7 qi qa qn;have k7:=FrS.of_grown (S:=fun b=>(Value.slice A9 (k+1) c9).ownBlock=some b) qa fun g e=>e;have n7:NoT (fun b=>(Value.slice A9 (k+1) c9).ownBlock=some b) (w5.alloc (.cells #[.int .i64 (a:Int),.bool qg,.slice A5 k5 c5,.slice qk qm qj] 137)) 167:=fun b hb=>jz3 qe hb (by decide);have J:=Hx (show TmO w7 B8 (.slice (some ⟨g7,0,none⟩) (k+1+1) c7) (pTs (2*t.links.length) (i,ars.take (k+1)))/\Ext W8 w7/\B8<=w7.heap.size from by
     refine⟨?_,k7.ext (I.out.2.1.tr XB.out) fun b hb=>yY qV (qe.lt b hb).1,yY qC k7.size⟩;rw [NX.out];exact OwL.pushed (css:=css) (by rw [qh];exact h1) h2 h4 (us:=[.int .i64 (a:Int),.bool qg,.slice A5 k5 c5,.slice qk qm qj]) rfl (fun cs y _ hy=>hy.fr k7 n7) ⟨qg,A5,k5,c5,qk,qm,qj,rfl,k7.ratR n7 R5.out⟩ (by rw [qh];exact qi))
    clear qi qa qn qe h1 h2 h4 css k7 n7 IB BW XB R5 I;go_wp2
    go_roundg (n-(k+1))
    case measure=>omega
    case rel=>exact⟨k+1,rfl,by omega,by go_num,J⟩
   ·obtain rfl:k=n:=by omega
    rw [yU (by omega)]at I qh;clear hk qW;have F9:=Hx (F8.out.keep I.out.2.1);have q4:wr.cell? ⟨x,4,none⟩=some (.pointer (some ⟨L.p,0,none⟩)):=F9.out.box.cell 4;have qX:L.m=2*t.links.length+l.length:=F9.out.m;obtain⟨z1,z2,_⟩:=jzld HF.out.2 hl hD qH.out;obtain⟨y1,y2,y3,y4,y5,y6,y7,y8⟩:=qH.out.shape;obtain⟨x1,x2⟩:=qH.out.cols;have qN:=Hx (add_ok w0.heap.size 20 (k+1) c9 L T wr F9.out.tab F9.out.ext.size z1 z2 (by decide) (by decide) (by omega) (by omega) (by omega) (by omega)
     0 false none 0 0 none 0 0 (jz6 _) (SzQ.zero.mono (by decide)) A9 (pTs (2*t.links.length) (i,ars)) qh (TmO.rd (B:=B8) (c:=c9) (by rw [qh];exact I.out.1)) (by omega) (fun tt htt=>by
       unfold pTs at htt;rcases xZ.1 htt with rfl|htt
       ·simp only;omega
       ·obtain⟨a,ha,rfl⟩:=List.mem_map.1 htt
        have:=HS.out a ha;simp only;omega) (jzf4 _ _ (SzQ.zero.mono (by decide)) fun tt htt=>by
       unfold pTs at htt;rcases xZ.1 htt with rfl|htt
       ·exact(SzQ.int (n:= -1) (by decide)).mono (by decide)
       ·obtain⟨a,ha,rfl⟩:=List.mem_map.1 htt
        exact(SzQ.int (n:=1) (by decide)).mono (by decide)) (fun j hj=>by have:=y6 j hj;omega) (by
       have:=slk_few T (valsOf L.m (pTs (2*t.links.length) (i,ars))) y5 T.fre.length (yX _);rw [jzaf]at this;omega))
    have qx:=Hx (show∀(L':TLoc) (w9:World),L'.p=L.p->L'.m=L.m->TabR w9 w0.heap.size L' (Sx.addT T 0 (valsOf L.m (pTs (2*t.links.length) (i,ars))))->FrS L.S wr w9->(∀b,L'.S b->L.S b\/wr.heap.size<=b)->
      (i,ars)∉P/\FlR w0 w9 x mb t AO co AL cl l AD cd L' (Sx.addT T 0 (valsOf L.m (pTs (2*t.links.length) (i,ars)))) (.slice (some ⟨g7,0,none⟩) (P.length+1) c7) (P++[(i,ars)]) (P++[(i,ars)])/\FrS (FlB x mb L vP) w w9/\∀b,FlB x mb L' (.slice (some ⟨g7,0,none⟩) (P.length+1) c7) b->FlB x mb L vP b\/bp<=b from fun L' w9 h1 h2 h3 h4 h5=>
     ⟨qO.out,F9.out.tabbed h3 h4 h1 h2 h5,((qI.out.tr (FrS.of_ext (S:=FlB x mb L vP) I.out.2.1) fun b hb=>.inl hb).tr h4 fun b hb=>.inl (.inr (.inr (.inl hb)))),fun b hb=>by
      have k1:=qI.out.size;have k2:=I.out.2.1.size;rcases hb with hb|hb|hb|hb
      ·exact .inl (.inl hb)
      ·exact .inl (.inr (.inl hb))
      ·rcases h5 b hb with k3|k3
       ·exact .inl (.inr (.inr (.inl k3)))
       ·exact .inr (by omega)
      ·injection hb with hb
       have hb:g7=b:=hb;subst hb;rcases N7.out with k3|k3
       ·exact .inl (.inr (.inr (.inr k3.symm)))
       ·exact .inr k3⟩)
    clear I F9 F8 A8 z1 z2 y1 y2 y3 y4 y5 y6 y7 y8 x1 x2 qI qO
    go_wp2_with fail
    refine(qN.out).mono ?_;rintro e w9 ⟨L',rfl,g1,g2,g3,g4,g5⟩;have FF:=Hx (qx.out L' w9 g1 g2 g3 g4 g5);clear qN qx g1 g2 g3 g4 g5 q4;go_wp2;go_ret;refine .inr ⟨FF.out.1,rfl,L',_,FF.out.2.1,FF.out.2.2.1,?_⟩;rw [hbp];exact FF.out.2.2.2
theorem jzgv(a b:Rat):cmpQ a b<0↔a<b:=by
 unfold cmpQ
 split
 ·rename_i h;simp [h]
 ·rename_i h
  split <;> simp [h]
theorem jze8(a b:Rat):0<cmpQ a b↔b<a:=by
 unfold cmpQ
 split
 ·rename_i h
  exact⟨fun h2=>by omega,fun h2=>absurd h (Rat.not_lt.2 (vB h2))⟩
 ·rename_i h
  split
  ·rename_i h1
   exact⟨fun h2=>by omega,fun h2=>by rw [h1]at h2;exact absurd h2 Rat.lt_irrefl⟩
  ·rename_i h1
   exact⟨fun _=>Rat.not_le.1 (fun h2=>h1 (Rat.le_antisymm h2 (Rat.not_lt.1 h))),fun _=>by decide⟩
theorem jzas(a b:Rat):cmpQ a b=0↔a=b:=by
 unfold cmpQ
 split
 ·rename_i h
  exact⟨fun h2=>by omega,fun h2=>by rw [h2]at h;exact absurd h Rat.lt_irrefl⟩
 ·split
  ·rename_i h1;simp [h1]
  ·rename_i h1;exact⟨fun h2=>by omega,fun h2=>absurd h2 h1⟩
theorem QL.take{w:World}{A:Option Addr}{qs:List Rat}(h:QL w A qs)(n:Nat):QL w A (qs.take n):=by
 obtain⟨css,h1,h2,h3,h4⟩:=h;have hl:=jzs css h2;have qf:(css.take n).flatten.length=(css.take n).length*3:=jzs _ fun cs hc=>h2 cs (xM hc);refine⟨css.take n,by rw [xF,xF,h1],fun cs hc=>h2 cs (xM hc),?_,fun i q hi=>?_⟩
 ·intro qh
  have qa:css.flatten≠ []:=fun e=>qh (by
   have e1:css.flatten.length=0:=(by rw [e];rfl);rw [hl]at e1;apply List.eq_nil_of_length_eq_zero;rw [qf,xF];omega)
  obtain⟨b,o,e,hb,hc⟩:=h3 qa;refine⟨b,o,e,hb,fun i hi=>?_⟩;have qg:i<css.flatten.length:=by
   rw [hl];rw [qf,xF]at hi;omega
  rw [hc i qg];have e2:css.flatten=(css.take n).flatten++(css.drop n).flatten:=(by rw [<-List.flatten_append,List.take_append_drop]);rw [e2,yR hi]
 ·have qe:i<n:=by
   have:=(yH.1 hi).1;rw [xF]at this;omega
  rw [xG,if_pos qe]at hi;obtain⟨cs,k1,k2⟩:=h4 i q hi;exact⟨cs,by rw [xG,if_pos qe];exact k1,k2⟩
theorem jzds(t:Tp)(AO:Option Addr)(co:Nat)(AL:Option Addr)(cl:Nat)(PP:Option Addr)(np cp:Nat)(ps:List Rat)(hnp:ps.length=np)(P:Nat)(s d:Int)(w:World)(ht:TopR w t AO co AL cl)(hps:QL w PP ps)(hpl:np<=1000000)(hP:1<=P)(hP2:P<=1000000)(hsz:∀q∈ps,SzQ q P):
  Calls Tryz.prog 69 #[.agg #[.int .i64 t.nodes,.slice AO t.over.length co,.slice AL t.links.length cl],.slice none 0 0,.slice PP np cp,.int .i64 s,.int .i64 d] w (ChPostF w ps (chP t [] ps s d)):=by
 subst hnp;exact jzgq t AO co AL cl none 0 [] PP cp ps P s d w ht (Rd.nil _ _) (by decide) (by decide) hps hpl hP hP2 hsz
structure GenI(w0 w wx:World)(x mb:Nat)(t:Tp)(AO:Option Addr)(co:Nat)(AL:Option Addr)(cl:Nat)(l:List Dm)(AD:Option Addr)(cd:Nat)(gl:Nat)(pr:List Rat)(T:Sx.Tb)(P:List (Nat×List Nat))(n:Nat)(more:Bool)(L':TLoc)(T':Sx.Tb)(vP':Value)(P':List (Nat×List Nat)):Prop where
 fl:FlR w0 wx x mb t AO co AL cl l AD cd L' T' vP' P' P'
 lp:Sx.FLP (2*t.links.length) l.length (amQ l) (capQ t) T' P'
 dif:P'.Nodup
 loop:∀p∈P',p.1<l.length/\Lpl t (srcN l p.1) (dstN l p.1) p.2
 few:P'.length<=P.length+n
 mor:more=true->P.length<P'.length
 non:more=false->P'=P/\T'=T/\∀d,d<n->(chP t [] (pr.take (2*t.links.length)) (srcN l d:Int) (dstN l d:Int)).2=0->prQ (pr.take (2*t.links.length)) (chP t [] (pr.take (2*t.links.length)) (srcN l d:Int) (dstN l d:Int)).1<Sx.at_ pr (2*t.links.length+d)->(d,(chP t [] (pr.take (2*t.links.length)) (srcN l d:Int) (dstN l d:Int)).1)∈P
 qb:QB wx gl pr
 far:¬FlB x mb L' vP' gl
 ext:Ext w0 wx
theorem jzi4{w0 w:World}{x mb:Nat}{t:Tp}{AO:Option Addr}{co:Nat}{AL:Option Addr}{cl:Nat}{l:List Dm}{AD:Option Addr}{cd:Nat}{L:TLoc}{T:Sx.Tb}{vP:Value}{P:List (Nat×List Nat)}(F:FlR w0 w x mb t AO co AL cl l AD cd L T vP P P)
  (hf:Fit t l) (hl:t.links.length<=10) (hD:l.length<=4) (hflp:Sx.FLP (2*t.links.length) l.length (amQ l) (capQ t) T P) (hdif:P.Nodup) (hloop:∀p∈P,p.1<l.length/\Lpl t (srcN l p.1) (dstN l p.1) p.2) (hPl:P.length+4<=10000000000)
  (gl:Nat) (pr:List Rat) (hq:QB w gl pr) (hpl:pr.length=2*t.links.length+l.length) (qJ:∀q∈pr,SzQ q 20) (qK:∀q∈pr,0<=q) (hgl:¬FlB x mb L vP gl) (hta:Tab w0):
  Calls Tryz.prog 43 #[.pointer (some ⟨x,0,none⟩),.slice (some ⟨gl,0,none⟩) (2*t.links.length+l.length) (2*t.links.length+l.length)] w fun e w'=>
   ∃(more:Bool) (L':TLoc) (T':Sx.Tb) (vP':Value) (P':List (Nat×List Nat)),e=.returned (.bool more)/\GenI w0 w w' x mb t AO co AL cl l AD cd gl pr T P l.length more L' T' vP' P':=by
 have G0:=Hx (show GenI w0 w w x mb t AO co AL cl l AD cd gl pr T P 0 false L T vP P from⟨F,hflp,hdif,hloop,yX _,(fun h=>by cases h),fun _=>⟨rfl,rfl,fun d hd=>by omega⟩,hq,hgl,F.ext⟩);have HF:=Hx (And.intro hf (And.intro qJ qK));have qz:=Hx hpl;have qX:=F.dem.len;have qZ:=F.top.ll;have q0:w.cell? ⟨x,0,none⟩=some (.int .i64 t.nodes):=F.box.cell 0;have q1:w.cell? ⟨x,1,none⟩=some (.slice AO t.over.length co):=F.box.cell 1;have q2:w.cell? ⟨x,2,none⟩=some (.slice AL t.links.length cl):=F.box.cell 2;have TP:=Hx (And.intro F.top F.dem);have qO:=Hx hta;clear F hflp hdif hloop hq hgl hta hf qJ qK hpl
 go_enter Tryz.func43,Tryz.ntmps43
 go_wp2_with fail
 refine(jzac t AO co AL cl _ (TP.out.1.keep G0.out.ext)).mono ?_;rintro e w1 ⟨rfl,x1⟩;have qN:(2*(t.links.length:Int))=((2*t.links.length:Nat):Int):=(by omega);have G1:=Hx (show GenI w0 w w1 x mb t AO co AL cl l AD cd gl pr T P 0 false L T vP P from⟨G0.out.fl.keep x1,G0.out.lp,G0.out.dif,G0.out.loop,G0.out.few,G0.out.mor,G0.out.non,G0.out.qb.keep x1,G0.out.far,G0.out.ext.tr x1⟩);clear x1 q0 q1 q2 G0 qN;have q3:w1.cell? ⟨x,3,none⟩=some (.slice AD l.length cd):=G1.out.fl.box.cell 3;go_wp2;clear q3
 go_loopg [6,7,8,9,10,11,22] l.length (fun q s6 _ _ _ _ _ it wx=>∃(n:Nat) (more:Bool) (L':TLoc) (T':Sx.Tb) (vP':Value) (P':List (Nat×List Nat)),l.length-n=q/\n<=l.length/\it=.int .i64 (n:Int)/\s6=.bool more/\Hid (GenI w0 w wx x mb t AO co AL cl l AD cd gl pr T P n more L' T' vP' P'))
 case atStart=>exact⟨0,false,L,T,vP,P,rfl,yZ _,rfl,rfl,G1⟩
 case round=>
  obtain⟨n,more,L',T',vP',P',rfl,hn,rfl,rfl,G⟩:=hrel;clear G1;by_cases qx:n<l.length
  ·obtain⟨d,hd⟩:∃d,l[n]?=some d:=⟨_,yG qx⟩
   obtain⟨b,o,rfl,hb,a0,a1,a2,a3⟩:=TP.out.2.at_ hd;have a0:=cellK G.out.ext a0;have a1:=cellK G.out.ext a1;have a2:=cellK G.out.ext a2;have a3:=cellK G.out.ext a3;have hb:b<wr.heap.size:=yL hb G.out.ext.size;have HN:=Hx (show srcN l n<t.nodes.toNat/\dstN l n<t.nodes.toNat/\d.src=(srcN l n:Int)/\d.dst=(dstN l n:Int)from by
    obtain⟨h1,h2,h3,h4,h5⟩:=HF.out.1.nodes qx;have e:l[n]=d:=(yH.1 hd).2;rw [e]at h4 h5;exact⟨h1,h2,h4,h5⟩)
   have nN:(n:Int)<(l.length:Int):=(by omega);have n0:(0:Int)<=(n:Int):=(by omega);have X8:=Hx (show Ext wr (wr.alloc (.cells #[.int .i64 d.src,.int .i64 d.dst,.int .i64 d.amount,.int .i64 d.prio] 27))from(Ext.refl wr).alloc _);have B8:=Hx (Blk.new wr 27 #[.int .i64 d.src,.int .i64 d.dst,.int .i64 d.amount,.int .i64 d.prio]);clear hd
   go_upto_region 6 with fail
   clear a0 a1 a2 a3;generalize wr.alloc (.cells #[.int .i64 d.src,.int .i64 d.dst,.int .i64 d.amount,.int .i64 d.prio] 27)=W8 at*;generalize hbd:wr.heap.size=bd at*;generalize hR:chP t [] (pr.take (2*t.links.length)) d.src d.dst=R;have HR:=Hx hR;clear hR;have XD:=Hx (show Ext W8 W8.drew from(Ext.refl W8).drewN 1);have XA:=Hx (show Ext W8 (W8.alloc (.cells #[.bool false,.slice none 0 0,.slice none 0 0] 35)).drew from((Ext.refl W8).alloc _).drewN 1);have BA:=Hx (show Blk (W8.alloc (.cells #[.bool false,.slice none 0 0,.slice none 0 0] 35)).drew W8.heap.size 35 #[.bool false,.slice none 0 0,.slice none 0 0]from Blk.new W8 _ _);have qa:=Hx (show∀wx,Ext W8 wx->(wx.cell? ⟨x,0,none⟩=some (.int .i64 t.nodes)/\wx.cell? ⟨x,1,none⟩=some (.slice AO t.over.length co)/\wx.cell? ⟨x,2,none⟩=some (.slice AL t.links.length cl)/\wx.cell? ⟨bd,0,none⟩=some (.int .i64 d.src)/\wx.cell? ⟨bd,1,none⟩=some (.int .i64 d.dst))from fun wx hx=>
    ⟨(G.out.fl.box.keep (X8.out.tr hx)).cell 0,(G.out.fl.box.keep (X8.out.tr hx)).cell 1,(G.out.fl.box.keep (X8.out.tr hx)).cell 2,(B8.out.keep hx).cell 0,(B8.out.keep hx).cell 1⟩)
   have CH:=Hx (show∀wx,Ext W8 wx->Calls Tryz.prog 69 #[.agg #[.int .i64 t.nodes,.slice AO t.over.length co,.slice AL t.links.length cl],.slice none 0 0,.slice (some ⟨gl,0,none⟩) (2*(t.links.length:Int)).toNat (2*(t.links.length:Int)).toNat,.int .i64 d.src,.int .i64 d.dst] wx (ChPostF wx (pr.take (2*t.links.length)) R)from fun wx hx=>by
    rw [show(2*(t.links.length:Int)).toNat=2*t.links.length by omega];have h1:=jzds t AO co AL cl (some ⟨gl,0,none⟩) (2*t.links.length) (2*t.links.length) (pr.take (2*t.links.length)) (by rw [xF,qz.out];omega) 20 d.src d.dst wx (TP.out.1.keep (G.out.ext.tr (X8.out.tr hx))) ((G.out.qb.keep (X8.out.tr hx)).ql.take _) (by omega) (by decide) (by decide) (fun q hq=>HF.out.2.1 q (xM hq));rw [HR.out]at h1;exact h1)
   go_cut [9,10,11] (fun s9 s10 s11 wx=>∃(A:Option Addr) (c bx:Nat) (neg:Bool) (A1:Option Addr) (n1 c1:Nat) (A2:Option Addr) (n2 c2:Nat),s9=.slice A R.1.length c/\s10=.pointer (some ⟨bx,0,none⟩)/\s11=.int .i64 R.2/\
    Hid (Blk wx bx 35 #[.bool neg,.slice A1 n1 c1,.slice A2 n2 c2]/\RatR wx neg A1 n1 c1 A2 n2 c2 (prQ (pr.take (2*t.links.length)) R.1)/\RdN W8.heap.size wx A (ints R.1)/\R.1.length<=c/\Ext W8 wx))
   case first=>
    have q4:(0:Int)<=2*(t.links.length:Int):=(by omega);have q5:2*(t.links.length:Int)<=2*(t.links.length:Int)+(l.length:Int):=(by omega);have qY:2*(t.links.length:Int)<=2*(t.links.length:Int):=Int.le_refl _;have bN:bd≠W8.heap.size:=(by have:=B8.out.lt;omega);have xN:x≠W8.heap.size:=(by have:=G.out.fl.box.lt;have:=X8.out.size;omega);obtain⟨c0,c1,c2,c3,c4⟩:=qa.out _ XD.out;obtain⟨y0,y1,y2,y3,y4⟩:=qa.out _ XA.out
    go_region_held3 (fun w'=>w'.cell? ⟨x,0,none⟩=some (.int .i64 t.nodes)/\w'.cell? ⟨x,1,none⟩=some (.slice AO t.over.length co)/\w'.cell? ⟨x,2,none⟩=some (.slice AL t.links.length cl)/\w'.cell? ⟨bd,0,none⟩=some (.int .i64 d.src)/\w'.cell? ⟨bd,1,none⟩=some (.int .i64 d.dst))
     (first|with_reducible exact⟨c0,c1,c2,c3,c4⟩|with_reducible exact⟨y0,y1,y2,y3,y4⟩|with_reducible exact⟨jzc c0 _,jzc c1 _,jzc c2 _,jzc c3 _,jzc c4 _⟩|exact⟨jzb (jzb (jzb c0 xN) xN) xN,jzb (jzb (jzb c1 xN) xN) xN,jzb (jzb (jzb c2 xN) xN) xN,jzb (jzb (jzb c3 bN) bN) bN,jzb (jzb (jzb c4 bN) bN) bN⟩|fail)
     (first
      |(go_at_call 69
        first
        |(with_reducible refine(CH.out _ (by with_reducible exact XD.out)).mono ?_
          rintro e w5 ⟨A,c,neg,A1,n1,d1,A2,n2,d2,rfl,qC,qj,qy,qk⟩;have E5:=Hx (show RatR w5 neg A1 n1 d1 A2 n2 d2 (prQ (pr.take (2*t.links.length)) R.1)/\RdN W8.heap.size w5 A (ints R.1)/\R.1.length<=c/\Ext W8 w5 from⟨qy,⟨qj.1,fun p hp=>yY XD.out.size (qj.2 p hp)⟩,qC,XD.out.tr qk⟩))
        |(with_reducible refine(CH.out _ (by with_reducible exact XA.out)).mono ?_
          rintro e w5 ⟨A,c,neg,A1,n1,d1,A2,n2,d2,rfl,qC,qj,qy,qk⟩;have E5:=Hx (show RatR w5 neg A1 n1 d1 A2 n2 d2 (prQ (pr.take (2*t.links.length)) R.1)/\RdN W8.heap.size w5 A (ints R.1)/\R.1.length<=c/\Ext W8 w5 from⟨qy,⟨qj.1,fun p hp=>yY XA.out.size (qj.2 p hp)⟩,qC,XA.out.tr qk⟩);have B5:=Hx (BA.out.keep qk);obtain⟨⟨m0,m1,m2⟩,r0,r1,r2⟩:=B5.out.three)
        obtain⟨c0,c1,c2,c3,c4⟩:=qa.out _ E5.out.2.2.2;clear qk qC qj qy)
      |fail)
    all_goals
     go_wp2;go_meet
     first
     |exact⟨A,c,_,neg,A1,n1,d1,A2,n2,d2,rfl,rfl,rfl,Hx ⟨Blk.new w5 _ _,E5.out.1.keep ((Ext.refl w5).alloc _),⟨E5.out.2.1.1.keep ((Ext.refl w5).alloc _),E5.out.2.1.2⟩,E5.out.2.2.1,E5.out.2.2.2.alloc _⟩⟩
     |(have b0:=B5.out.set_ 0 (.bool neg)
       have b1:=b0.set_ 1 (.slice A1 n1 d1);have qL:=jzae (w:=W8) E5.out.1 B5.out (yX _) E5.out.2.2.2;exact⟨A,c,W8.heap.size,neg,A1,n1,d1,A2,n2,d2,rfl,rfl,rfl,Hx ⟨b1.set_ 2 (.slice A2 n2 d2),qL.1,⟨((E5.out.2.1.1.set_ (p:=⟨W8.heap.size,0,none⟩) B5.out (by decide) _).set_ (p:=⟨W8.heap.size,1,none⟩) b0 (by decide) _).set_ (p:=⟨W8.heap.size,2,none⟩) b1 (by decide) _,E5.out.2.1.2⟩,E5.out.2.2.1,qL.2⟩⟩)
   case rest=>
    obtain⟨A,c,bx,neg,A1,n1,c1,A2,n2,c2,rfl,rfl,rfl,C⟩:=hcut;clear XD XA BA qa CH;have XC:=Hx (show Ext wr wc from X8.out.tr C.out.2.2.2.2);have qp:(pr.take (2*t.links.length)).length=2*t.links.length:=(by rw [xF,qz.out];omega);have qe:pricedP t (pr.take (2*t.links.length))=true:=jzah qp fun q hq=>HF.out.2.2 q (xM hq);have qE:=Hx (jzdq HF.out.1.v qe HN.out.1 HN.out.2.1);have qA:=Hx (show chP t [] (pr.take (2*t.links.length)) (srcN l n:Int) (dstN l n:Int)=R by rw [<-HN.out.2.2.1, <-HN.out.2.2.2];exact HR.out);rw [qA.out]at qE;clear qp qe B8 HR;have GC:=Hx (show GenI w0 w wc x mb t AO co AL cl l (some ⟨b,o,none⟩) cd gl pr T P n more L' T' vP' P' from⟨G.out.fl.keep XC.out,G.out.lp,G.out.dif,G.out.loop,G.out.few,G.out.mor,G.out.non,G.out.qb.keep XC.out,G.out.far,G.out.ext.tr XC.out⟩);clear XC;obtain⟨ny,Y1,my,fy,qw,qt,qD,⟨s0,s1,s2⟩,_,hy⟩:=GC.out.qb.at_ (jzv (show 2*t.links.length+n<pr.length by rw [qz.out];omega));have RY:=Hx hy;have qf:=GC.out.qb.lt;obtain⟨⟨v0,v1,v2⟩,_⟩:=C.out.1.three;have qg:=C.out.1.lt;have qP:IntKind.i64.wrap (2*(t.links.length:Int)+(n:Int))=2*(t.links.length:Int)+(n:Int):=(by rw [IntKind.wrap_i64];omega);have m0:(0:Int)<=2*(t.links.length:Int)+(n:Int):=(by omega);have m1:2*(t.links.length:Int)+(n:Int)<2*(t.links.length:Int)+(l.length:Int):=(by omega);have qI:=Hx (show R.1.length<=64 from by
     have qM:t.nodes<=64:=by
      have:=HF.out.1.v;unfold validP headOk inB at this;simp at this;exact this.1.1.1.2
     rcases qE.out with⟨y,h1,h2,_⟩|⟨h1,_⟩
     ·rw [h1]
      have:=h2.len HF.out.1.v HN.out.1;simp only;omega
     ·rw [h1];exact yZ _)
    obtain⟨l1,qW⟩:=C.out.2.1.lens ((SzQ.pr (by decide) (fun q hq=>HF.out.2.1 q (xM hq)) R.1).mono (show _<=2000 from by have:=qI.out;omega));obtain⟨l2,qV⟩:=hy.lens (HF.out.2.1 _ (yJ (jzv (show 2*t.links.length+n<pr.length by rw [qz.out];omega))));clear hy;by_cases qh:R.2=0
    ·by_cases qB:prQ (pr.take (2*t.links.length)) R.1<Sx.at_ pr (2*t.links.length+n)
     · --CASEC
       have qH:cmpQ (prQ (pr.take (2*t.links.length)) R.1) (Sx.at_ pr (2*t.links.length+n))<0:=(jzgv _ _).2 qB;have qT:decide (cmpQ (prQ (pr.take (2*t.links.length)) R.1) (Sx.at_ pr (2*t.links.length+n))<0)=true:=yO qH;obtain⟨qm,qF⟩:Lpl t (srcN l n) (dstN l n) R.1/\True:=by
        rcases qE.out with⟨y,h1,h2,_⟩|⟨h1,_⟩
        ·rw [h1];exact⟨h2,trivial⟩
        ·rw [h1]at qh
         exact absurd qh (by decide)
       have qi:=Hx qm;have qa:=Hx (show∀wx,Ext wc wx->(wx.cell? ⟨bx,0,none⟩=some (.bool neg)/\wx.cell? ⟨bx,1,none⟩=some (.slice A1 n1 c1)/\wx.cell? ⟨bx,2,none⟩=some (.slice A2 n2 c2))/\(wx.cell? ⟨gl,(2*(t.links.length:Int)+(n:Int)).toNat*3,none⟩=some (.bool ny)/\wx.cell? ⟨gl,(2*(t.links.length:Int)+(n:Int)).toNat*3+1,none⟩=some (.slice Y1 my fy)/\wx.cell? ⟨gl,(2*(t.links.length:Int)+(n:Int)).toNat*3+2,none⟩=some (.slice qw qt qD))from fun wx hx=>by
        rw [show(2*(t.links.length:Int)+(n:Int)).toNat=2*t.links.length+n by omega];exact⟨⟨cellK hx v0,cellK hx v1,cellK hx v2⟩,cellK hx s0,cellK hx s1,cellK hx s2⟩)
       have XD:=Hx (show Ext wc wc.drew from(Ext.refl wc).drewN 1);have HSW:=Hx (qa.out _ XD.out);generalize hr2':R.2=r2 at*;subst qh;clear qm qF qB qf qg v0 v1 v2 s0 s1 s2
       go_upto_region 7 with fail
       refine jzg (fun w'=>(w'.cell? ⟨bx,0,none⟩=some (.bool neg)/\w'.cell? ⟨bx,1,none⟩=some (.slice A1 n1 c1)/\w'.cell? ⟨bx,2,none⟩=some (.slice A2 n2 c2))/\(w'.cell? ⟨gl,(2*(t.links.length:Int)+(n:Int)).toNat*3,none⟩=some (.bool ny)/\w'.cell? ⟨gl,(2*(t.links.length:Int)+(n:Int)).toNat*3+1,none⟩=some (.slice Y1 my fy)/\w'.cell? ⟨gl,(2*(t.links.length:Int)+(n:Int)).toNat*3+2,none⟩=some (.slice qw qt qD))) 17 (by kernel_rfl) ?_;refine wP 0 rfl HSW.out ?_;try simp only [Act.put,yA,yB,yC,yD,yE,yF]
       refine wP 1 rfl HSW.out ?_;try simp only [Act.put,yA,yB,yC,yD,yE,yF]
       refine wP 2 rfl HSW.out ?_;try simp only [Act.put,yA,yB,yC,yD,yE,yF]
       refine jz5 (path:=[17,13,10]) (i:=3) (v:=?_) rfl (by kernel_rfl) (by kernel_rfl) (by kernel_rfl) (by decide) (by kernel_rfl) (by kernel_rfl) (by kernel_rfl) (fun _ _ _ h=>h) (Or.inl ⟨by rfl,?_⟩) HSW.out ?_;rotate_left
       focus (intro w hSw;obtain⟨⟨s1,s2,s3⟩,s4,s5,s6⟩:=hSw;go_simp;try with_reducible rfl)
       try simp only [Act.put,yA,yB,yC,yD,yE,yF]
       refine wP 4 rfl HSW.out ?_;try simp only [Act.put,yA,yB,yC,yD,yE,yF]
       refine wP 5 rfl HSW.out ?_;try simp only [Act.put,yA,yB,yC,yD,yE,yF]
       refine wP 6 rfl HSW.out ?_;try simp only [Act.put,yA,yB,yC,yD,yE,yF]
       refine wP 7 rfl HSW.out ?_;try simp only [Act.put,yA,yB,yC,yD,yE,yF]
       refine wP 8 rfl HSW.out ?_;try simp only [Act.put,yA,yB,yC,yD,yE,yF]
       refine jz5 (path:=[17,13,10]) (i:=9) (v:=?_) rfl (by kernel_rfl) (by kernel_rfl) (by kernel_rfl) (by decide) (by kernel_rfl) (by kernel_rfl) (by kernel_rfl) (fun _ _ _ h=>h) (Or.inl ⟨by rfl,?_⟩) HSW.out ?_;rotate_left
       focus (intro w hSw;obtain⟨⟨s1,s2,s3⟩,s4,s5,s6⟩:=hSw;go_simp;try with_reducible rfl)
       try simp only [Act.put,yA,yB,yC,yD,yE,yF]
       refine wC 10 rfl (fun KK hK=>?_);go_simp;refine(jz4 neg ny A1 n1 c1 A2 n2 c2 Y1 my fy qw qt qD (prQ (pr.take (2*t.links.length)) R.1) (Sx.at_ pr (2*t.links.length+n)) _ (C.out.2.1.keep XD.out) (RY.out.keep XD.out) (by omega) (by omega) (by omega) (by omega)).mono ?_;rintro e w9 ⟨rfl,x9⟩;have E9:=Hx (XD.out.tr x9);have HSW:=Hx (qa.out _ E9.out);refine hK.out _ _ HSW.out ?_;clear hK KK x9;try simp only [Act.put,yA,yB,yC,yD,yE,yF]
       refine wP 11 rfl HSW.out ?_;try simp only [Act.put,yA,yB,yC,yD,yE,yF]
       refine wP 12 rfl HSW.out ?_;try simp only [Act.put,yA,yB,yC,yD,yE,yF]
       refine wP 13 rfl HSW.out ?_;try simp only [Act.put,yA,yB,yC,yD,yE,yF]
       refine wP 14 rfl HSW.out ?_;try simp only [Act.put,yA,yB,yC,yD,yE,yF]
       refine wP 15 rfl HSW.out ?_;try simp only [Act.put,yA,yB,yC,yD,yE,yF]
       refine wP 16 rfl HSW.out ?_;try simp only [Act.put,yA,yB,yC,yD,yE,yF]
       have G9:=Hx (show GenI w0 w w9 x mb t AO co AL cl l (some ⟨b,o,none⟩) cd gl pr T P n more L' T' vP' P' from⟨GC.out.fl.keep E9.out,GC.out.lp,GC.out.dif,GC.out.loop,GC.out.few,GC.out.mor,GC.out.non,GC.out.qb.keep E9.out,GC.out.far,GC.out.ext.tr E9.out⟩);have qR:=G9.out.few;have qG:=Hx (jzll G9.out.fl HF.out.1 hl hD G9.out.lp (by omega) n qx A R.1.length c R.1 rfl (C.out.2.2.1.1.keep E9.out) (fun hx ad had hs=>by
        have h1:=C.out.2.2.1.2 ad had;have h2:=(G.out.fl.tab.ty hs).2.1;have h3:=X8.out.size;omega) C.out.2.2.2.1 (fun a ha=>jzd0 _ qi.out.1 a ha) qI.out (qO.out.keep G9.out.ext))
       refine jzk (by kernel_rfl) rfl (by rfl) (fun KK hK=>?_);go_simp;refine(qG.out).mono ?_;rintro e wA qn;rcases qn with⟨hin,rfl,hxA⟩|⟨hnin,rfl,L2,vP2,F2,k2,far2⟩
       ·have GG:=Hx (show GenI w0 w wA x mb t AO co AL cl l (some ⟨b,o,none⟩) cd gl pr T P (n+1) more L' T' vP' P' from⟨G9.out.fl.keep hxA,G9.out.lp,G9.out.dif,G9.out.loop,by omega,G9.out.mor,fun hm=>by
         obtain⟨h1,h2,h3⟩:=G9.out.non hm;refine⟨h1,h2,fun d' hd' h4 h5=>?_⟩;by_cases e:d'=n
         ·subst e
          rw [qA.out, <-h1];exact hin
         ·exact h3 d' (by omega) h4 h5,G9.out.qb.keep hxA,G9.out.far,G9.out.ext.tr hxA⟩)
        refine hK.out _ _ ?_;clear hK KK HSW qa XD qG G9 GC E9 hin hxA;try simp only [Act.put,yA,yB,yC,yD,yE,yF]
        refine jzao (i:=18) (by kernel_rfl) rfl (by rfl) (fun KK hK=>?_);go_simp;refine hK.out _ _ ?_;clear hK KK;refine wpAny_done (by kernel_rfl) ?_ _;go_wp2
        go_roundg (l.length-(n+1))
        case measure=>omega
        case rel=>exact⟨n+1,more,L',T',vP',P',rfl,by omega,by go_num,rfl,GG⟩
       ·have qS:L'.m=2*t.links.length+l.length:=G9.out.fl.m
        have GG:=Hx (show GenI w0 w wA x mb t AO co AL cl l (some ⟨b,o,none⟩) cd gl pr T P (n+1) true L2 (Sx.addT T' 0 (valsOf L'.m (pTs (2*t.links.length) (n,R.1)))) vP2 (P'++[(n,R.1)])from
         ⟨F2,by
          rw [qS];exact G9.out.lp.add (jzaf _ _) fun i hi=>jzlb _ _ (n,R.1) (fun a ha=>jzd0 _ qi.out.1 a ha) i hi,by
          rw [List.nodup_append];exact⟨G9.out.dif,by simp,fun p hp q hq e=>hnin (by rw [xD.1 hq]at e;rw [<-e];exact hp)⟩,fun p hp=>by
          rcases xY.1 hp with hp|hp
          ·exact G9.out.loop p hp
          ·rw [xD.1 hp]
           exact⟨qx,qi.out⟩,by rw [yQ,List.length_singleton];omega,fun _=>by
          rw [yQ,List.length_singleton];cases hmore:more
          ·rw [(G9.out.non hmore).1];omega
          ·have:=G9.out.mor hmore;omega,(fun h=>by cases h),G9.out.qb.fr k2 G9.out.fl.lo.2 G9.out.far,fun hb=>by
          rcases far2 gl hb with h1|h1
          ·exact G9.out.far h1
          ·have:=G9.out.qb.lt
           omega,F2.ext⟩)
        refine hK.out _ _ ?_;clear hK KK HSW qa XD qG G9 GC E9 hnin F2 k2 far2;try simp only [Act.put,yA,yB,yC,yD,yE,yF]
        refine jzao (i:=18) (by kernel_rfl) rfl (by rfl) (fun KK hK=>?_);go_simp;refine hK.out _ _ ?_;clear hK KK;refine wpAny_done (by kernel_rfl) ?_ _;go_wp2
        go_roundg (l.length-(n+1))
        case measure=>omega
        case rel=>exact⟨n+1,true,L2,_,vP2,_,rfl,by omega,by go_num,rfl,GG⟩
     ·have qH:decide (cmpQ (prQ (pr.take (2*t.links.length)) R.1) (Sx.at_ pr (2*t.links.length+n))<0)=false:=yP fun h=>qB ((jzgv _ _).1 h)
      have G9:=Hx (show∀wx,Ext wc wx->GenI w0 w wx x mb t AO co AL cl l (some ⟨b,o,none⟩) cd gl pr T P (n+1) more L' T' vP' P' from fun wx hx=>⟨GC.out.fl.keep hx,GC.out.lp,GC.out.dif,GC.out.loop,by have:=GC.out.few;omega,GC.out.mor,fun hm=>by
       obtain⟨h1,h2,h3⟩:=GC.out.non hm;refine⟨h1,h2,fun d' hd' h4 h5=>?_⟩;by_cases e:d'=n
       ·subst e
        rw [qA.out]at h5;exact absurd h5 qB
       ·exact h3 d' (by omega) h4 h5,GC.out.qb.keep hx,GC.out.far,GC.out.ext.tr hx⟩)
      generalize R.2=r2 at*;subst qh;have x0:=XW.cell _ _ _ qg v0;have x1:=XW.cell _ _ _ qg v1;have x2:=XW.cell _ _ _ qg v2;have z0:=XW.cell _ _ _ qf s0;have z1:=XW.cell _ _ _ qf s1;have z2:=XW.cell _ _ _ qf s2
      go_upto_region 7 with fail
      go_cut [62] (fun s wx=>s=.bool false/\Ext wc wx)
      case first=>
       refine jzh (by kernel_rfl) (by kernel_rfl) ?_
       repeat (go_big_quiet_step ((go_at_call 20;exact Calls.ext_of (jz4 neg ny A1 n1 c1 A2 n2 c2 Y1 my fy qw qt qD (prQ (pr.take (2*t.links.length)) R.1) (Sx.at_ pr (2*t.links.length+n)) _ (C.out.2.1.keep (XW.ext _)) (RY.out.keep (XW.ext _)) (by omega) (by omega) (by omega) (by omega)))))
       refine wpQuiet_nil ?_;rintro _ ⟨x,rfl⟩;go_wp2;go_meet;exact⟨rfl,x.ext⟩
      case rest=>
       obtain⟨rfl,qo⟩:=hcut;have GG:=Hx (G9.out _ qo);clear G9 qo GC;go_wp2
       go_roundg (l.length-(n+1))
       case measure=>omega
       case rel=>exact⟨n+1,more,L',T',vP',P',rfl,by omega,by go_num,rfl,GG⟩
    ·have qU:(R.2==0)=false:=yK.2 qh
     have qQ:decide (R.2=0)=false:=yP qh;have G9:=Hx (show∀wx,Ext wc wx->GenI w0 w wx x mb t AO co AL cl l (some ⟨b,o,none⟩) cd gl pr T P (n+1) more L' T' vP' P' from fun wx hx=>⟨GC.out.fl.keep hx,GC.out.lp,GC.out.dif,GC.out.loop,by have:=GC.out.few;omega,GC.out.mor,fun hm=>by
      obtain⟨h1,h2,h3⟩:=GC.out.non hm;refine⟨h1,h2,fun d' hd' h4 h5=>?_⟩;by_cases e:d'=n
      ·subst e
       rw [qA.out]at h4;exact absurd h4 qh
      ·exact h3 d' (by omega) h4 h5,GC.out.qb.keep hx,GC.out.far,GC.out.ext.tr hx⟩)
     generalize R.2=r2 at*
     go_upto_region 7 with fail
     go_cut [62] (fun s wx=>s=.bool false/\Ext wc wx)
     case first=>
      refine jzh (by kernel_rfl) (by kernel_rfl) ?_
      repeat (go_big_quiet_step (fail))
      refine wpQuiet_nil ?_;rintro _ ⟨x,rfl⟩;go_wp2;go_meet;exact⟨rfl,x.ext⟩
     case rest=>
      obtain⟨rfl,qo⟩:=hcut;have GG:=Hx (G9.out _ qo);clear G9 qo GC;go_wp2
      go_roundg (l.length-(n+1))
      case measure=>omega
      case rel=>exact⟨n+1,more,L',T',vP',P',rfl,by omega,by go_num,rfl,GG⟩
  ·obtain rfl:n=l.length:=by omega
   go_wp2;go_ret;exact⟨more,L',T',vP',P',rfl,G.out⟩
structure PthI where
 dem:Int
 arcs:List Int
 flow:Rat
def ldA(L2:Nat)(f:Rat):List Rat->List Int->Option (List Rat)
 |ld,[]=>some ld
 |ld,a::ars=>if 0<=a/\a<(L2:Int)then ldA L2 f (ld.set a.toNat (Sx.at_ ld a.toNat+f)) ars else none
def ldP(L2:Nat):List Rat->List PthI->Option (List Rat)
 |ld,[]=>some ld
 |ld,p::ps=>match ldA L2 p.flow ld p.arcs with
  |none=>none
  |some ld'=>ldP L2 ld' ps
def loadsP(t:Tp)(ps:List PthI):List Rat×Int:=
 if validP t=true then match ldP (2*t.links.length) (List.replicate (2*t.links.length) 0) ps with
  |none=>([],2)
  |some ld=>(ld,0)
 else([],1)
section
variable {L2:Nat}
theorem jzlm(f:Rat):∀(ars bs:List Int) (ld:List Rat),ldA L2 f ld (ars++bs)=(ldA L2 f ld ars).bind fun m=>ldA L2 f m bs
 | [],bs,ld=>rfl
 |a::ars,bs,ld=>by
  show(if 0<=a/\a<(L2:Int)then ldA L2 f (ld.set a.toNat (Sx.at_ ld a.toNat+f)) (ars++bs)else none)=(if 0<=a/\a<(L2:Int)then ldA L2 f (ld.set a.toNat (Sx.at_ ld a.toNat+f)) ars else none).bind _
  split
  ·exact jzlm f ars bs _
  ·rfl
theorem jzln:∀(ars bs:List PthI) (ld:List Rat),ldP L2 ld (ars++bs)=(ldP L2 ld ars).bind fun m=>ldP L2 m bs
 | [],bs,ld=>rfl
 |p::ars,bs,ld=>by
  show(match ldA L2 p.flow ld p.arcs with|none=>none|some ld'=>ldP L2 ld' (ars++bs))=(match ldA L2 p.flow ld p.arcs with|none=>none|some ld'=>ldP L2 ld' ars).bind _;cases ldA L2 p.flow ld p.arcs with
  |none=>rfl
  |some m=>exact jzln ars bs m
theorem jzlo(f:Rat):∀(ars:List Int) {ld ld':List Rat},ldA L2 f ld ars=some ld'->ld'.length=ld.length
 | [],ld,ld',h=>by injection h with h;rw [h]
 |a::ars,ld,ld',h=>by
  have h:(if 0<=a/\a<(L2:Int)then ldA L2 f (ld.set a.toNat (Sx.at_ ld a.toNat+f)) ars else none)=some ld':=h
  split at h
  ·rw [jzlo f ars h,yV]
  ·cases h
theorem jzlp:∀(ps:List PthI) {ld ld':List Rat},ldP L2 ld ps=some ld'->ld'.length=ld.length
 | [],ld,ld',h=>by injection h with h;rw [h]
 |p::ps,ld,ld',h=>by
  have h:(match ldA L2 p.flow ld p.arcs with|none=>none|some ld'=>ldP L2 ld' ps)=some ld':=h;cases h1:ldA L2 p.flow ld p.arcs with
  |none=>rw [h1]at h;cases h
  |some m=>
   rw [h1]at h;rw [jzlp ps h,jzlo p.flow p.arcs h1]
theorem ldA_sz{f:Rat}{P:Nat}(hf:SzQ f P):∀(ars:List Int) {k:Nat} {ld ld':List Rat},(∀q∈ld,SzQ q k)->SzQ 0 k->ldA L2 f ld ars=some ld'->∀q∈ld',SzQ q (k+ars.length*(P+1))
 | [],k,ld,ld',hq,h0,h=>by injection h with h;subst h;intro q qa;exact(hq q qa).mono (by simp)
 |a::ars,k,ld,ld',hq,h0,h=>by
  have h:(if 0<=a/\a<(L2:Int)then ldA L2 f (ld.set a.toNat (Sx.at_ ld a.toNat+f)) ars else none)=some ld':=h
  split at h
  ·have h1:∀q∈ld.set a.toNat (Sx.at_ ld a.toNat+f),SzQ q (k+P+1):=fun q qa=>by
    rcases xE qa with h2|h2
    ·exact(hq q h2).mono (by omega)
    ·rw [h2]
     refine SzQ.add ?_ hf;unfold Sx.at_;cases h3:ld[a.toNat]? with
     |none=>exact h0
     |some y=>exact hq y (yJ h3)
   intro q qa;have h4:=ldA_sz hf ars h1 (h0.mono (by omega)) h q qa;refine h4.mono ?_;rw [List.length_cons,xP,xQ];omega
  ·cases h
def arcN(ps:List PthI):Nat:=(ps.map fun p=>p.arcs.length).sum
theorem ldP_sz{P:Nat}:∀(ps:List PthI) {k:Nat} {ld ld':List Rat},(∀p∈ps,SzQ p.flow P)->(∀q∈ld,SzQ q k)->SzQ 0 k->ldP L2 ld ps=some ld'->∀q∈ld',SzQ q (k+arcN ps*(P+1))
 | [],k,ld,ld',_,hq,h0,h=>by injection h with h;subst h;intro q qa;exact(hq q qa).mono (by simp [arcN])
 |p::ps,k,ld,ld',hp,hq,h0,h=>by
  have h:(match ldA L2 p.flow ld p.arcs with|none=>none|some ld'=>ldP L2 ld' ps)=some ld':=h;cases h1:ldA L2 p.flow ld p.arcs with
  |none=>rw [h1]at h;cases h
  |some m=>
   rw [h1]at h;have h2:=ldA_sz (hp p (by simp)) p.arcs hq h0 h1;intro q qa;refine(ldP_sz ps (fun p' hp'=>hp p' (xO _ hp')) h2 (h0.mono (by omega)) h q qa).mono ?_;have:arcN (p::ps)=p.arcs.length+arcN ps:=(by simp [arcN]);rw [this,xP];omega
theorem ldA_step{f:Rat}{ars:List Int}{ld lc:List Rat}{k:Nat}{a:Int}(h:ldA L2 f ld (ars.take k)=some lc)(ha:ars[k]?=some a)(hin:0<=a/\a<(L2:Int)):ldA L2 f ld (ars.take (k+1))=some (lc.set a.toNat (Sx.at_ lc a.toNat+f)):=by
 rw [List.take_add_one,ha,jzlm,h];show(if 0<=a/\a<(L2:Int)then _ else none)=_;rw [if_pos hin];rfl
theorem ldA_bad{f:Rat}{ars:List Int}{ld lc:List Rat}{k:Nat}{a:Int}(h:ldA L2 f ld (ars.take k)=some lc)(ha:ars[k]?=some a)(hin:¬(0<=a/\a<(L2:Int))):ldA L2 f ld ars=none:=by
 have hk:=(yH.1 ha);have e:ars=ars.take k++a::ars.drop (k+1):=by
  obtain⟨h1,h2⟩:=hk;rw [<-h2,List.getElem_cons_drop,List.take_append_drop]
 rw [e,jzlm,h];show(if 0<=a/\a<(L2:Int)then _ else none)=_;rw [if_neg hin]
theorem ldP_step{ps:List PthI}{ld lc l0:List Rat}{n:Nat}{p:PthI}(h:ldP L2 l0 (ps.take n)=some ld)(hp:ps[n]?=some p)(hl:ldA L2 p.flow ld p.arcs=some lc):ldP L2 l0 (ps.take (n+1))=some lc:=by
 rw [List.take_add_one,hp,jzln,h];show(match ldA L2 p.flow ld p.arcs with|none=>none|some ld'=>ldP L2 ld' [])=some lc;rw [hl];rfl
theorem ldP_bad{ps:List PthI}{ld l0:List Rat}{n:Nat}{p:PthI}(h:ldP L2 l0 (ps.take n)=some ld)(hp:ps[n]?=some p)(hl:ldA L2 p.flow ld p.arcs=none):ldP L2 l0 ps=none:=by
 have e:ps=ps.take n++p::ps.drop (n+1):=by
  obtain⟨h1,h2⟩:=yH.1 hp;rw [<-h2,List.getElem_cons_drop,List.take_append_drop]
 rw [e,jzln,h];show(match ldA L2 p.flow ld p.arcs with|none=>none|some ld'=>ldP L2 ld' (ps.drop (n+1)))=none;rw [hl]
theorem arcN_mem{ps:List PthI}{p:PthI}(h:p∈ps):p.arcs.length<=arcN ps:=by
 induction ps with
 |nil=>cases h
 |cons q ps ih=>
  have e:arcN (q::ps)=q.arcs.length+arcN ps:=(by simp [arcN]);rcases xZ.1 h with rfl|h
  ·omega
  ·have:=ih h;omega
theorem arcN_take(ps:List PthI)(n:Nat):arcN (ps.take n)<=arcN ps:=by
 induction ps generalizing n with
 |nil=>simp [arcN]
 |cons p ps ih=>
  cases n with
  |zero=>simp [arcN]
  |succ n=>
   have:=ih n;simp [arcN]at this⊢;exact this
end
def PzC(w:World)(cs:List Value)(p:PthI):Prop:=
 ∃(A:Option Addr) (c:Nat) (neg:Bool) (A1:Option Addr) (n1 c1:Nat) (A2:Option Addr) (n2 c2:Nat),cs=[.int .i64 p.dem,.slice A p.arcs.length c,.bool neg,.slice A1 n1 c1,.slice A2 n2 c2]/\p.arcs.length<=c/\Rd w A (iints p.arcs)/\RatR w neg A1 n1 c1 A2 n2 c2 p.flow
theorem PzC.keep{w w':World}{cs:List Value}{p:PthI}(h:PzC w cs p)(hx:Ext w w'):PzC w' cs p:=by
 obtain⟨A,c,neg,A1,n1,c1,A2,n2,c2,h1,h2,h3,h4⟩:=h;exact⟨A,c,neg,A1,n1,c1,A2,n2,c2,h1,h2,h3.keep hx,h4.keep hx⟩
def RdL{α:Type}(R:World->List Value->α->Prop)(s:Nat)(w:World)(A:Option Addr)(l:List α):Prop:=
 ∃css:List (List Value),css.length=l.length/\(∀cs∈css,cs.length=s)/\Rd w A css.flatten/\∀(i:Nat) (x:α),l[i]?=some x->∃cs,css[i]?=some cs/\R w cs x
section
variable {α:Type} {R:World->List Value->α->Prop} {s:Nat} {w w':World} {A:Option Addr} {l:List α}
theorem RdL.keep(h:RdL R s w A l)(hx:Ext w w')(hR:∀cs x,R w cs x->R w' cs x):RdL R s w' A l:=by
 obtain⟨css,h1,h2,h3,h4⟩:=h;refine⟨css,h1,h2,h3.keep hx,fun i x hi=>?_⟩;obtain⟨cs,k1,k2⟩:=h4 i x hi;exact⟨cs,k1,hR cs x k2⟩
theorem RdL.at_(h:RdL R s w A l)(hs:0<s){i:Nat}{x:α}(hi:l[i]?=some x):∃(b o:Nat) (cs:List Value),A=some ⟨b,o,none⟩/\b<w.heap.size/\cs.length=s/\(∀k,k<s->w.cell? ⟨b,o+(i*s+k),none⟩=cs[k]?)/\R w cs x:=by
 have qf:=(yH.1 hi).1;obtain⟨css,h1,h2,h3,h4⟩:=h;obtain⟨cs,k1,k2⟩:=h4 i x hi;have qa:=jzs css h2;have hb:∀k,k<s->i*s+k<css.flatten.length:=fun k hk=>by
  rw [qa,h1];have:(i+1)*s<=l.length*s:=xS s qf;rw [xP,xQ]at this;omega
 obtain⟨b,o,e,qe,hc⟩:=h3.at_ (hb 0 hs);refine⟨b,o,cs,e,qe,h2 cs (yJ k1),fun k hk=>?_,k2⟩;rw [hc _ (hb k hk),jzu css h2 i k (by omega) hk,k1];rfl
end
abbrev PLr(w:World)(A:Option Addr)(ps:List PthI):Prop:=RdL PzC 5 w A ps
theorem PLr.at5{w:World}{A:Option Addr}{ps:List PthI}(h:PLr w A ps){i:Nat}{p:PthI}(hi:ps[i]?=some p):∃(b o:Nat) (AA:Option Addr) (c:Nat) (neg:Bool) (A1:Option Addr) (n1 c1:Nat) (A2:Option Addr) (n2 c2:Nat),A=some ⟨b,o,none⟩/\b<w.heap.size/\
  (w.cell? ⟨b,o+i*5,none⟩=some (.int .i64 p.dem)/\w.cell? ⟨b,o+i*5+1,none⟩=some (.slice AA p.arcs.length c)/\w.cell? ⟨b,o+i*5+2,none⟩=some (.bool neg)/\w.cell? ⟨b,o+i*5+3,none⟩=some (.slice A1 n1 c1)/\w.cell? ⟨b,o+i*5+4,none⟩=some (.slice A2 n2 c2))/\
  p.arcs.length<=c/\Rd w AA (iints p.arcs)/\RatR w neg A1 n1 c1 A2 n2 c2 p.flow:=by
 obtain⟨b,o,cs,e,hb,_,hc,AA,c,neg,A1,n1,c1,A2,n2,c2,rfl,h2,h3,h4⟩:=h.at_ (by decide) hi;exact⟨b,o,AA,c,neg,A1,n1,c1,A2,n2,c2,e,hb,⟨hc 0 (by decide),hc 1 (by decide),hc 2 (by decide),hc 3 (by decide),hc 4 (by decide)⟩,h2,h3,h4⟩
theorem gArc_ok(t:Tp)(AO:Option Addr)(co:Nat)(AL:Option Addr)(cl:Nat)(a:Int)(w:World)(ht:TopR w t AO co AL cl):
  Calls Tryz.prog 71 #[.agg #[.int .i64 t.nodes,.slice AO t.over.length co,.slice AL t.links.length cl],.int .i64 a] w fun e w'=>e=.returned (.bool (decide (0<=a/\a<((2*t.links.length:Nat):Int))))/\Ext w w':=by
 have HT:=Hx ht;clear ht;obtain⟨qf,e0⟩:=boxes1 w #[.int .i64 t.nodes,.slice AO t.over.length co,.slice AL t.links.length cl] 25;obtain⟨⟨i0,i1,i2⟩,_⟩:=qf.three;have E0:=Hx e0;have hd:decide (0<=a/\a<((2*t.links.length:Nat):Int))=(decide (0<=a)&&decide (a<2*(t.links.length:Int))):=(by simp);have HD:=Hx hd;clear hd qf e0;by_cases h1:0<=a
 ·have qa:decide (0<=a)=true:=by simpa using h1
  have HR:=Hx (show decide (0<=a/\a<((2*t.links.length:Nat):Int))=decide (a<2*(t.links.length:Int)) by rw [HD.out,qa];rfl)
  go_enter Tryz.func71,Tryz.ntmps71
  go_wp2_with fail
  refine(jzac t AO co AL cl _ (HT.out.keep E0.out)).mono ?_;rintro e w1 ⟨rfl,qe⟩;have E1:=Hx (E0.out.tr qe);clear qe i0 i1 i2;go_wp2;go_ret;rw [HR.out];exact⟨rfl,E1.out⟩
 ·have qa:decide (0<=a)=false:=by simpa using h1
  have HR:=Hx (show decide (0<=a/\a<((2*t.links.length:Nat):Int))=false by rw [HD.out,qa];rfl)
  go_enter Tryz.func71,Tryz.ntmps71
  go_wp2;go_ret;exact⟨rfl,E0.out⟩
def LdPost(w:World)(r:List Rat×Int)(e:Ending)(w':World):Prop:=∃(A:Option Addr),e=.returned (.tuple #[.slice A r.1.length r.1.length,.int .i64 r.2])/\QL w' A r.1/\Ext w w'
theorem QL.nil(w:World)(A:Option Addr):QL w A []:=⟨[],rfl,(fun _ h=>by cases h),Rd.nil _ _,fun i q h=>by simp at h⟩
theorem jzlq(t:Tp)(AO:Option Addr)(co:Nat)(AL:Option Addr)(cl:Nat)(Ps:List PthI)(PA:Option Addr)(np cp P:Nat)(hnp:Ps.length=np)(w:World)(ht:TopR w t AO co AL cl)(hp:PLr w PA Ps)(hnl:np<=1000000)(qF:∀p∈Ps,SzQ p.flow P)(hP1:1<=P)(qA:∀p∈Ps,p.arcs.length<=1000000)(hK:1+arcN Ps*(P+1)<=50000000)(hPb:P<=100000000):
  Calls Tryz.prog 29 #[.agg #[.int .i64 t.nodes,.slice AO t.over.length co,.slice AL t.links.length cl],.slice PA np cp] w (LdPost w (loadsP t Ps)):=by
 have HT:=Hx (And.intro ht (And.intro hp (And.intro qF qA)));obtain⟨qp,e0⟩:=boxes1 w #[.int .i64 t.nodes,.slice AO t.over.length co,.slice AL t.links.length cl] 25;obtain⟨⟨i0,i1,i2⟩,_⟩:=qp.three;have E0:=Hx (And.intro qp e0);have qZ:=ht.ll;have qY:=ht.cl;clear ht hp qF qA qp e0
 go_enter Tryz.func29,Tryz.ntmps29
 go_wp2_with fail
 refine(jzb7 t AO co AL cl _ (HT.out.1.keep E0.out.2)).mono ?_;rintro e w1 ⟨rfl,qm⟩;have E1:=Hx (And.intro (E0.out.1.keep qm) (E0.out.2.tr qm));clear qm i0 i1 i2 E0;obtain⟨⟨i0,i1,i2⟩,_⟩:=E1.out.1.three;cases hv:validP t
 ·have HR:=Hx (show loadsP t Ps=([],1) by unfold loadsP;rw [hv];rfl)
  go_wp2;rw [HR.out];exact bodyPost_ret (v:=.tuple #[.slice none 0 0,.int .i64 1]) (by simp [results,Tryz.results29,go_sem]) rfl ⟨none,rfl,QL.nil _ _,E1.out.2⟩
 have qE:t.links.length<=256:=by
  unfold validP headOk at hv;simp at hv;exact hv.1.1.2
 have HR:=Hx (show loadsP t Ps=match ldP (2*t.links.length) (List.replicate (2*t.links.length) 0) Ps with
  |none=>([],2)
  |some ld=>(ld,0) by unfold loadsP;rw [hv];rfl)
 have qH:=jzaa (2*t.links.length) (by omega);rw [show((2*t.links.length:Nat):Int)=2*(t.links.length:Int) by omega]at qH
 go_wp2_with fail
 refine(jzac t AO co AL cl _ (HT.out.1.keep E1.out.2)).mono ?_;rintro e w2 ⟨rfl,qw⟩;have E2:=Hx (And.intro (E1.out.1.keep qw) (E1.out.2.tr qw));clear qw i0 i1 i2 E1;have Q2:=Hx (show QB (w2.alloc (.cells (madeCells #[.bool false,.slice none 0 0,.slice none 0 0] (2*t.links.length*3)) 35)) w2.heap.size (List.replicate (2*t.links.length) 0)from QB.made w2 (2*t.links.length));have X2:=Hx (show Blk (w2.alloc (.cells (madeCells #[.bool false,.slice none 0 0,.slice none 0 0] (2*t.links.length*3)) 35)) w.heap.size 25 #[.int .i64 t.nodes,.slice AO t.over.length co,.slice AL t.links.length cl]/\Ext w (w2.alloc (.cells (madeCells #[.bool false,.slice none 0 0,.slice none 0 0] (2*t.links.length*3)) 35))from
  ⟨E2.out.1.keep ((Ext.refl w2).alloc _),E2.out.2.alloc _⟩)
 have qS:w.heap.size<w2.heap.size:=E2.out.1.lt
 go_upto_region 4 with fail
 generalize w2.alloc (.cells (madeCells #[.bool false,.slice none 0 0,.slice none 0 0] (2*t.links.length*3)) 35)=W3 at*;generalize w2.heap.size=g at*;clear qH;have I0:=Hx (show QB W3 g (List.replicate (2*t.links.length) 0)/\FrS (fun b=>b=g) W3 W3 from⟨Q2.out,FrS.refl _ _⟩);have q0:g<W3.heap.size:=Q2.out.lt;have qJ:=Hx (show∀(k:Nat) (ld:List Rat),ldP (2*t.links.length) (List.replicate (2*t.links.length) 0) (Ps.take k)=some ld->∀q∈ld,SzQ q (1+arcN Ps*(P+1))from fun k ld h q hq=>by
  have h1:=ldP_sz (P:=P) (Ps.take k) (k:=1) (ld:=List.replicate (2*t.links.length) 0) (fun p hp=>HT.out.2.2.1 p (xM hp)) (fun q hq=>by rw [uF hq];exact SzQ.zero) SzQ.zero h q hq;refine h1.mono ?_;have h2:=xS (P+1) (arcN_take Ps k);omega)
 clear Q2;go_wp2
 go_loopg [8,19] np (fun q _ it wx=>∃(n:Nat) (ld:List Rat),np-n=q/\n<=np/\it=.int .i64 (n:Int)/\ldP (2*t.links.length) (List.replicate (2*t.links.length) 0) (Ps.take n)=some ld/\Hid (QB wx g ld/\FrS (fun b=>b=g) W3 wx))
 case atStart=>exact⟨0,_,rfl,yZ _,rfl,rfl,I0⟩
 case round=>
  obtain⟨n,ld,rfl,hn,rfl,qn,I⟩:=hrel;clear I0;have qh:=Hx qn;have qe:ld.length=2*t.links.length:=(by rw [jzlp _ qn,xC]);have XW:=Hx (show Ext w wr from I.out.2.ext X2.out.2 fun b hb=>by omega);have qQ:g<wr.heap.size:=I.out.1.lt;clear qn;by_cases qO:n<np
  ·obtain⟨p,hp⟩:∃p,Ps[n]?=some p:=⟨_,yG (by omega)⟩
   obtain⟨b,o,AA,ca,neg,A1,n1,c1,A2,n2,c2,rfl,hb,⟨a0,a1,a2,a3,a4⟩,qU,qB,qC⟩:=PLr.at5 HT.out.2.1 hp;have a0:=cellK XW.out a0;have a1:=cellK XW.out a1;have a2:=cellK XW.out a2;have a3:=cellK XW.out a3;have a4:=cellK XW.out a4;have hb:b<wr.heap.size:=yL hb XW.out.size;have HP:=Hx hp;have qR:p.arcs.length<=1000000:=HT.out.2.2.2 p (yJ hp);have nN:(n:Int)<(np:Int):=(by omega);have n0:(0:Int)<=(n:Int):=(by omega);have RA:=Hx (And.intro qB qC);have X8:=Hx (show Ext wr (wr.alloc (.cells #[.int .i64 p.dem,.slice AA p.arcs.length ca,.bool neg,.slice A1 n1 c1,.slice A2 n2 c2] 70))from(Ext.refl wr).alloc _);have B8:=Hx (Blk.new wr 70 #[.int .i64 p.dem,.slice AA p.arcs.length ca,.bool neg,.slice A1 n1 c1,.slice A2 n2 c2]);clear hp qB qC
   go_upto_region 7 with fail
   clear a0 a1 a2 a3 a4;generalize wr.alloc (.cells #[.int .i64 p.dem,.slice AA p.arcs.length ca,.bool neg,.slice A1 n1 c1,.slice A2 n2 c2] 70)=W8 at*;generalize hbd:wr.heap.size=bd at*;have qM:=Hx (show Ext w W8 from XW.out.tr X8.out);have qI:=Hx (show FrS (fun b=>b=g) W3 W8 from I.out.2.tr (FrS.of_ext (S:=fun b=>b=g) X8.out) fun b hb=>.inl hb);have qN:=Hx ((I.out.2.blk X2.out.1 (by omega)).keep X8.out);have b1:W8.cell? ⟨bd,1,none⟩=some (.slice AA p.arcs.length ca):=B8.out.cell 1;have J0:=Hx (show QB W8 g ld/\FrS (fun b=>b=g) W8 W8 from⟨I.out.1.keep X8.out,FrS.refl _ _⟩);go_wp2;clear b1
   go_loopg [10,26] p.arcs.length (fun q _ it wx=>∃(k:Nat) (lc:List Rat),p.arcs.length-k=q/\k<=p.arcs.length/\it=.int .i64 (k:Int)/\ldA (2*t.links.length) p.flow ld (p.arcs.take k)=some lc/\Hid (QB wx g lc/\FrS (fun b=>b=g) W8 wx))
   case atStart=>exact⟨0,ld,rfl,yZ _,rfl,rfl,J0⟩
   case round=>
    obtain⟨k,lc,rfl,hk,rfl,qo,J⟩:=hrel;clear J0 I X8 XW;have XR:=Hx (show Ext w wr from J.out.2.ext qM.out fun b hb=>by omega);have qf:=Hx qo;have qL:lc.length=2*t.links.length:=(by rw [jzlo _ _ qo];exact qe);clear qo;by_cases qK:k<p.arcs.length
    ·obtain⟨a,ha⟩:∃a,p.arcs[k]?=some a:=⟨_,yG qK⟩
     obtain⟨b9,o9,rfl,qW,ca⟩:=(RA.out.1.keep XR.out).iint ha;have qD:=Hx ha;have kN:(k:Int)<(p.arcs.length:Int):=(by omega);have k0:(0:Int)<=(k:Int):=(by omega);obtain⟨⟨i0,i1,i2⟩,_⟩:=(J.out.2.blk qN.out (by omega)).three;clear ha
     go_wp2_with fail
     refine(gArc_ok t AO co AL cl a _ (HT.out.1.keep XR.out)).mono ?_;rintro e w4 ⟨rfl,x4⟩;by_cases qg:0<=a/\a<((2*t.links.length:Nat):Int)
     ·rw [yO qg]
      obtain⟨a',rfl⟩:=Int.eq_ofNat_of_zero_le qg.1;have qP:a'<2*t.links.length:=(by omega);have aN:(a':Int)<2*(t.links.length:Int):=(by omega);have a0:(0:Int)<=(a':Int):=(by omega);have LA:=Hx (ldA_step qf.out qD.out qg);rw [xL]at LA;have Q4:=Hx (J.out.1.keep x4);have F4:=Hx (show FrS (fun b=>b=g) W8 w4 from J.out.2.tr (FrS.of_ext (S:=fun b=>b=g) x4) fun b hb=>.inl hb);obtain⟨ny,Y1,my,fy,qk,qi,qt,⟨s0,s1,s2⟩,_,hy⟩:=Q4.out.at_ (jzv (show a'<lc.length by omega));have B4:=Hx (F4.out.blk B8.out (by omega));have qX:p.arcs.length<=arcN Ps:=arcN_mem (yJ HP.out);have qG:SzQ (Sx.at_ lc a') 100000000:=by
       have h1:=ldA_sz (HT.out.2.2.1 p (yJ HP.out)) (p.arcs.take k) (qJ.out n ld qh.out) (SzQ.zero.mono (by omega)) qf.out _ (yJ (jzv (show a'<lc.length by omega)));refine h1.mono ?_;have h2:(p.arcs.take k).length*(P+1)<=arcN Ps*(P+1):=xS _ (by rw [xF];omega);omega
      obtain⟨l1,qV⟩:=hy.lens qG;obtain⟨l2,qT⟩:=RA.out.2.lens (HT.out.2.2.1 p (yJ HP.out));have RF:=Hx (And.intro hy (RA.out.2.keep (XR.out.tr x4)));have qa:=Hx (show∀wx,Ext w4 wx->(wx.cell? ⟨g,a'*3,none⟩=some (.bool ny)/\wx.cell? ⟨g,a'*3+1,none⟩=some (.slice Y1 my fy)/\wx.cell? ⟨g,a'*3+2,none⟩=some (.slice qk qi qt))/\(wx.cell? ⟨bd,2,none⟩=some (.bool neg)/\wx.cell? ⟨bd,3,none⟩=some (.slice A1 n1 c1)/\wx.cell? ⟨bd,4,none⟩=some (.slice A2 n2 c2))from fun wx hx=>
       ⟨⟨cellK hx s0,cellK hx s1,cellK hx s2⟩,(B4.out.keep hx).cell 2,(B4.out.keep hx).cell 3,(B4.out.keep hx).cell 4⟩)
      have XD:=Hx (show Ext w4 w4.drew from(Ext.refl w4).drewN 1);have HSW:=Hx (qa.out _ XD.out);clear hy s0 s1 s2 i0 i1 i2 ca qG
      go_upto_region 12 with fail
      refine jzg (fun w'=>(w'.cell? ⟨g,a'*3,none⟩=some (.bool ny)/\w'.cell? ⟨g,a'*3+1,none⟩=some (.slice Y1 my fy)/\w'.cell? ⟨g,a'*3+2,none⟩=some (.slice qk qi qt))/\(w'.cell? ⟨bd,2,none⟩=some (.bool neg)/\w'.cell? ⟨bd,3,none⟩=some (.slice A1 n1 c1)/\w'.cell? ⟨bd,4,none⟩=some (.slice A2 n2 c2))) 10 (by kernel_rfl) ?_;refine wP 0 rfl HSW.out ?_;try simp only [Act.put,yD,yE,yF]
      refine wP 1 rfl HSW.out ?_;try simp only [Act.put,yD,yE,yF]
      refine wP 2 rfl HSW.out ?_;try simp only [Act.put,yD,yE,yF]
      refine wP 3 rfl HSW.out ?_;try simp only [Act.put,yD,yE,yF]
      refine wP 4 rfl HSW.out ?_;try simp only [Act.put,yD,yE,yF]
      refine wT 5 (v:=?_) rfl ?_ HSW.out ?_;rotate_left
      focus (intro w hSw;obtain⟨⟨s1,s2,s3⟩,s4,s5,s6⟩:=hSw;go_simp;try with_reducible rfl)
      try simp only [Act.put,yD,yE,yF]
      refine wP 6 rfl HSW.out ?_;try simp only [Act.put,yD,yE,yF]
      refine wT 7 (v:=?_) rfl ?_ HSW.out ?_;rotate_left
      focus (intro w hSw;obtain⟨⟨s1,s2,s3⟩,s4,s5,s6⟩:=hSw;go_simp;try with_reducible rfl)
      try simp only [Act.put,yD,yE,yF]
      refine wC 8 rfl (fun KK hK=>?_);go_simp;refine(jz7 ny neg Y1 my fy qk qi qt A1 n1 c1 A2 n2 c2 (Sx.at_ lc a') p.flow _ (RF.out.1.keep XD.out) (RF.out.2.keep XD.out) (by omega) (by omega) (by omega) (by omega) (jzp (Nat.mul_ne_zero (Rat.den_nz _) (Rat.den_nz _)))).mono ?_;rintro e w5 ⟨n5,A5,l5,c5,qy,qz,qx,rfl,h5,x5⟩;have E5:=Hx (XD.out.tr x5);have HSW:=Hx (qa.out _ E5.out);have Q5:=Hx (Q4.out.keep E5.out);have QP:=Hx (show QB (((w5.setCell ⟨g,a'*3,none⟩ (.bool n5)).setCell ⟨g,a'*3+1,none⟩ (.slice A5 l5 c5)).setCell ⟨g,a'*3+2,none⟩ (.slice qy qz qx)) g (lc.set a' (Sx.at_ lc a'+p.flow))/\FrS (fun b=>b=g) W8 (((w5.setCell ⟨g,a'*3,none⟩ (.bool n5)).setCell ⟨g,a'*3+1,none⟩ (.slice A5 l5 c5)).setCell ⟨g,a'*3+2,none⟩ (.slice qy qz qx))from
       ⟨Q5.out.put (by omega) h5,(F4.out.tr (FrS.of_ext (S:=fun b=>b=g) E5.out) fun b hb=>.inl hb).tr (FrS.of_grown (S:=fun b=>b=g) (grown3 w5 g (a'*3) _ _ _) fun g e=>by injection e with e;exact e.symm) fun b hb=>.inl hb⟩)
      obtain⟨_,_,_,_,_,_,_,_,⟨z0,z1,z2⟩,_⟩:=Q5.out.at_ (jzv (show a'<lc.length by omega));refine hK.out _ _ HSW.out ?_;clear hK KK x5 h5;try simp only [Act.put,yD,yE,yF]
      refine wP 9 rfl HSW.out ?_;try simp only [Act.put,yD,yE,yF]
      obtain⟨⟨t0,t1,t2⟩,_⟩:=HSW.out;refine jzk (by kernel_rfl) rfl (by rfl) (fun KK hK=>?_);go_simp;refine hK.out _ _ ?_;clear hK KK;refine wpAny_done (by kernel_rfl) ?_ _;clear t0 t1 t2 z0 z1 z2 HSW qa XD RF B4 Q4 F4 Q5 E5 J XR;go_wp2
      go_roundg (p.arcs.length-(k+1))
      case measure=>omega
      case rel=>exact⟨k+1,_,rfl,by omega,by go_num,LA.out,QP⟩
     ·rw [yP qg]
      have qj:=Hx (show LdPost w (loadsP t Ps) (.returned (.tuple #[.slice none 0 0,.int .i64 2])) w4 from by
       rw [HR.out,ldP_bad qh.out HP.out (ldA_bad qf.out qD.out qg)];exact⟨none,rfl,QL.nil _ _,XR.out.tr x4⟩)
      go_wp2;exact bodyPost_ret (v:=.tuple #[.slice none 0 0,.int .i64 2]) (by simp [results,Tryz.results29,go_sem]) rfl qj.out
    ·obtain rfl:k=p.arcs.length:=by omega
     rw [yU (yX _)]at qf;have NX:=Hx (ldP_step qh.out HP.out qf.out);have I9:=Hx (show QB wr g lc/\FrS (fun b=>b=g) W3 wr from⟨J.out.1,qI.out.tr J.out.2 fun b hb=>.inl hb⟩);clear J XR;go_wp2
     go_roundg (np-(n+1))
     case measure=>omega
     case rel=>exact⟨n+1,lc,rfl,by omega,by go_num,NX.out,I9⟩
  ·obtain rfl:n=np:=by omega
   have qj:=Hx (show LdPost w (loadsP t Ps) (.returned (.tuple #[.slice (some ⟨g,0,none⟩) (2*t.links.length) (2*t.links.length),.int .i64 0])) wr from by
    have h1:=qh.out;rw [yU (by omega)]at h1;rw [HR.out,h1];refine⟨some ⟨g,0,none⟩,by simp only [qe],I.out.1.ql,XW.out⟩)
   go_wp2;exact bodyPost_ret (v:=.tuple #[.slice (some ⟨g,0,none⟩) (2*t.links.length) (2*t.links.length),.int .i64 0]) (by simp [results,Tryz.results29,go_sem]) rfl qj.out
end Go.Proofs.YthbmikapohlikaaGreatDoor
namespace Go.Proofs.YthbmikapohlikaaGreatDoor.Sx
def cutSt(d:Nat)(s:Rat×List ((Nat×List Nat)×Rat))(z:(Nat×List Nat)×Rat):Rat×List ((Nat×List Nat)×Rat):=
 if z.1.1=d then(s.1-(if s.1<z.2 then s.1 else z.2),if 0<(if s.1<z.2 then s.1 else z.2)then s.2++[(z.1,if s.1<z.2 then s.1 else z.2)]else s.2)else s
theorem cutSt_all(d:Nat):∀(Zs:List ((Nat×List Nat)×Rat)) (r:Rat) (out:List ((Nat×List Nat)×Rat)),(Zs.foldl (cutSt d) (r,out)).2=out++cut d r Zs
 | [],r,out=>by simp [cut]
 |z::Zs,r,out=>by
  show(Zs.foldl (cutSt d) (cutSt d (r,out) z)).2=_;rw [show Zs.foldl (cutSt d) (cutSt d (r,out) z)=Zs.foldl (cutSt d) ((cutSt d (r,out) z).1,(cutSt d (r,out) z).2)from rfl,cutSt_all d Zs];show _=out++(if z.1.1=d then(if 0<(if r<z.2 then r else z.2)then [(z.1,if r<z.2 then r else z.2)]else [])++cut d (r-(if r<z.2 then r else z.2)) Zs else cut d r Zs);by_cases h:z.1.1=d
  ·have e:cutSt d (r,out) z=(r-(if r<z.2 then r else z.2),if 0<(if r<z.2 then r else z.2)then out++[(z.1,if r<z.2 then r else z.2)]else out):=if_pos h
   rw [e,if_pos h];simp only [];by_cases h2:0<(if r<z.2 then r else z.2)
   ·rw [if_pos h2,if_pos h2,List.append_assoc]
   ·rw [if_neg h2,if_neg h2];rfl
  ·have e:cutSt d (r,out) z=(r,out):=if_neg h
   rw [e,if_neg h]
theorem cutSt_rest(d:Nat)(Dn:Int)(r0:Rat):∀(Zs:List ((Nat×List Nat)×Rat)) (r:Rat) (out:List ((Nat×List Nat)×Rat)),(∀z∈Zs,0<=z.2/\isI (z.2*(Dn:Rat)))->0<=r->r<=r0->isI (r*(Dn:Rat))->
  0<=(Zs.foldl (cutSt d) (r,out)).1/\(Zs.foldl (cutSt d) (r,out)).1<=r0/\isI ((Zs.foldl (cutSt d) (r,out)).1*(Dn:Rat))
 | [],r,out,_,h1,h2,h3=>⟨h1,h2,h3⟩
 |z::Zs,r,out,hz,h1,h2,h3=>by
  show 0<=(Zs.foldl (cutSt d) (cutSt d (r,out) z)).1/\(Zs.foldl (cutSt d) (cutSt d (r,out) z)).1<=r0/\isI ((Zs.foldl (cutSt d) (cutSt d (r,out) z)).1*(Dn:Rat));obtain⟨k1,k2⟩:=hz z (by simp);by_cases h:z.1.1=d
  ·have e:cutSt d (r,out) z=(r-(if r<z.2 then r else z.2),if 0<(if r<z.2 then r else z.2)then out++[(z.1,if r<z.2 then r else z.2)]else out):=if_pos h
   rw [e];refine cutSt_rest d Dn r0 Zs _ _ (fun y hy=>hz y (xO _ hy)) ?_ ?_ ?_
   ·split <;> grind
   ·split <;> grind
   ·obtain⟨a,ha⟩:=h3
    obtain⟨b,hb⟩:=k2
    split
    ·exact⟨0,by grind⟩
    ·exact⟨a-b,by rw [Rat.intCast_sub];grind⟩
  ·have e:cutSt d (r,out) z=(r,out):=if_neg h
   rw [e];exact cutSt_rest d Dn r0 Zs r out (fun y hy=>hz y (xO _ hy)) h1 h2 h3
end Go.Proofs.YthbmikapohlikaaGreatDoor.Sx
