/- A part of the proof that vellumlaw12.ShapeAcyclic is true for every input: walks of functions that the row reaches and plain laws that they need. Conditions: none. Joined by merge.py out of C34 S12 C35 B13 C36 T8; a part that began as a print is named P or W there and is trimmed. -/
import Derived.Test.YtfiiihpdekppiaaA4
import Derived.Test.YtfiiihpdekppiaaA15
import Derived.Test.YtfiiihpdekppiaaA18
import Derived.Test.YtfiiihpdekppiaaA19
set_option linter.unusedVariables false
set_option linter.unusedSimpArgs false
section
namespace Go.Proofs.Ytfiiihpdekppiaa
open Go.RowKit Go.Proofs Go.Proofs.YtfiiihpdekppiaaW.PrintWords
open Go.ChangeMaps (setBlock heap_setBlock_same heap_setBlock_other)
open PShapeReducible (S31 k31 at_T31 rd_T31)
set_option maxRecDepth 100000 in
set_option maxHeartbeats 4000000 in
theorem conv71_any (w0:World) (bc:Nat) (gA:Option Addr) (gc:Nat) (bm:Nat) (g:List (List Int)) (b2:Nat) (k:S31) (ih:ConvOk w0 bc gA gc bm g k)
  (F H:List Pc) (c:Ks) (p:Kp) (w:World) (A:Option Addr) (n m:Nat) (M:Mem w0 w F (c.own bc (.slice gA g.length gc) bm p++.blk b2 (.cells #[.pointer (some ⟨bc,0,none⟩)] 82 (0,0)) :: H)) (hok:c.Ok (3 * szF k - 1+m)) (hK:k31.C w0 A k.f3.length k.f3) (hn:k.f3.length<=n) :
  Calls Try.prog 71 #[.agg #[.int .i64 k.f0,.int .i64 k.f1,.int .i64 k.f2,.slice A k.f3.length n],.pointer (some ⟨b2,0,none⟩)] w fun e w'=>e=.returned (.bool (!(convF g k c).1))/\∃ p',Mem w0 w' F ((convF g k c).2.own bc (.slice gA g.length gc) bm p'++.blk b2 (.cells #[.pointer (some ⟨bc,0,none⟩)] 82 (0,0)) :: H):=by
 obtain ⟨b4,w1,z1,a1,M1⟩:=M.alloc (.cells #[.int .i64 k.f0,.int .i64 k.f1,.int .i64 k.f2,.slice A k.f3.length n] 31)
 have q0:w1.cell? ⟨b2,0,none⟩=some (.pointer (some ⟨bc,0,none⟩)):=M1.cell (k:=6) (j:=0) rfl rfl
 have hb4:w1.heap[b4]?=some (.cells #[.int .i64 k.f0,.int .i64 k.f1,.int .i64 k.f2,.slice A k.f3.length n] 31 (0,0)):=M1.says (k:=(c.own bc (.slice gA g.length gc) bm p++.blk b2 (.cells #[.pointer (some ⟨bc,0,none⟩)] 82 (0,0)) :: H).length) (c:=.blk b4 _) (by simp)
 have e0:w1.cell? ⟨b4,0,none⟩=some (.int .i64 k.f0):=cell_blk hb4 rfl
 have e1:w1.cell? ⟨b4,1,none⟩=some (.int .i64 k.f1):=cell_blk hb4 rfl
 have e2:w1.cell? ⟨b4,2,none⟩=some (.int .i64 k.f2):=cell_blk hb4 rfl
 have e3:w1.cell? ⟨b4,3,none⟩=some (.slice A k.f3.length n):=cell_blk hb4 rfl
 have M2:Mem w0 w1 F (c.own bc (.slice gA g.length gc) bm p++.blk b2 (.cells #[.pointer (some ⟨bc,0,none⟩)] 82 (0,0)) :: H):=M.below (by rw [<-a1];exact below_alloc (Below.refl _ _) _)
 have HIH:=ak_ ih
 have M2:=ak_ M2
 have HOK:=ak_ hok
 have HK:=ak_ hK
 have HN:=ak_ hn
 clear M M1 hb4 ih hok hK hn
 go_enter Try.func71,Try.ntmps71
 go_wp2_with (first
  | (go_at_call 50;refine (HIH.out F _ c p w1 A n m M2.out HOK.out HK.out HN.out).mono ?_;rintro e w3 ⟨rfl,p3,M3⟩;have M3:=ak_ M3))
 go_ret
 exact ⟨rfl,p3,M3.out⟩
set_option maxRecDepth 100000 in
set_option maxHeartbeats 4000000 in
theorem idx91_any (w0:World) (bc:Nat) (gA:Option Addr) (gc:Nat) (bm:Nat) (g:List (List Int)) (b2:Nat) (kids:List S31) (ih:∀ k∈kids,ConvOk w0 bc gA gc bm g k)
  (F H:List Pc) (c:Ks) (p:Kp) (w:World) (A:Option Addr) (n m:Nat) (M:Mem w0 w F (c.own bc (.slice gA g.length gc) bm p++.blk b2 (.cells #[.pointer (some ⟨bc,0,none⟩)] 82 (0,0)) :: H)) (hok:c.Ok (3 * szL kids+m)) (hK:k31.C w0 A kids.length kids) (hbig:kids.length < 1000000000) :
  Calls Try.prog 91 #[.slice A kids.length n,.func (.func 71) #[] #[.pointer (some ⟨b2,0,none⟩)]] w fun e w'=>∃ r:Int,e=.returned (.int .i64 r)/\decide (r ≥ 0)=!(convL g kids c).1/\∃ p',Mem w0 w' F ((convL g kids c).2.own bc (.slice gA g.length gc) bm p'++.blk b2 (.cells #[.pointer (some ⟨bc,0,none⟩)] 82 (0,0)) :: H):=by
 obtain ⟨R,hR⟩:∃ R,R=convL g kids c:=⟨_,rfl⟩
 rw [<-hR]
 have HR:=ak_ hR
 have M0:=ak_ M
 have HOK:=ak_ hok
 have HK:=ak_ hK
 have IH:=ak_ ih
 clear M hok hK ih hR
 go_enter Try.func91,Try.ntmps91
 go_wp2
 go_loopw [8] (fun t wr=>∃ (i:Nat) (c':Ks) (p':Kp),t=.int .i64 i/\i<=kids.length/\Aside0 (convL g (kids.drop i) c'=R)/\Aside0 (c'.Ok (3 * szL (kids.drop i)+m)) /\
  Aside0 (Mem w0 wr F (c'.own bc (.slice gA g.length gc) bm p'++.blk b2 (.cells #[.pointer (some ⟨bc,0,none⟩)] 82 (0,0)) :: H))) (fun t _=>kids.length - (intOf t).toNat)
 case atStart=>exact ⟨0,c,p,rfl,Nat.zero_le _,⟨HR.out.symm⟩,HOK,M0⟩
 case round =>
  clear M0 HOK HR
  obtain ⟨i,c',p',rfl,hi,hA,hO,hM⟩:=hrel
  by_cases hlt:i < kids.length
  ·obtain ⟨k,hk⟩:∃ k,k=kids[i]:=⟨_,rfl⟩
   obtain ⟨ad,A3,c3,e,g0,g1,g2,g3,hc3,hC3⟩:=kid_at HK.out i hlt
   subst e
   rw [<-hk] at g0 g1 g2 g3 hc3 hC3
   have hA2:=hA.out
   have hO2:=hO.out
   rw [List.drop_eq_getElem_cons hlt,<-hk] at hA2 hO2
   rw [convL] at hA2
   simp only [szL] at hO2
   have hkm:k∈kids:=by rw [hk];exact List.getElem_mem hlt
   have hkpos:1<=szF k:=by rw [szF_eq];omega
   have q0:=pw_cell_below hM.out.hb g0
   have q1:=pw_cell_below hM.out.hb g1
   have q2:=pw_cell_below hM.out.hb g2
   have q3:=pw_cell_below hM.out.hb g3
   have HO1:=ak_ (show c'.Ok (3 * szF k - 1+(3 * szL (kids.drop (i+1))+m)) from hO2.mono (by omega))
   have CL:=ak_ (conv71_any w0 bc gA gc bm g b2 k (IH.out k hkm) F H c' p' wr A3 c3 _ hM.out HO1.out hC3 hc3)
   have h9:=ak_ (convF_ok g (3 * szL (kids.drop (i+1))+m) k c' HO1.out)
   have hlt':(i:Int) < kids.length:=by omega
   have HLT:=ak_ hlt
   obtain ⟨d,hd⟩:∃ d,d=convF g k c':=⟨_,rfl⟩
   rw [<-hd] at CL h9 hA2
   obtain ⟨db,dc⟩:=d
   have HA:=ak_ hA2
   clear hA hO hA2 hO2 hkm hC3 g0 g1 g2 g3 hk hkpos hd hM
   cases db with
   | false =>
    go_wp2_with (first
     | (go_at_call 71;refine CL.out.mono ?_;rintro e w5 ⟨rfl,p5,M5⟩;have M5:=ak_ M5))
    go_ret
    have h1:(false,dc)=R:=by simpa using HA.out
    rw [<-h1]
    exact ⟨(i:Int),rfl,by simp,p5,M5.out⟩
   | true =>
    have HA2:=ak_ (show convL g (kids.drop (i+1)) dc=R by simpa using HA.out)
    go_wp2_with (first
     | (go_at_call 71;refine CL.out.mono ?_;rintro e w5 ⟨rfl,p5,M5⟩;have M5:=ak_ M5))
    go_roundw
    case rel=>exact ⟨i+1,dc,p5,by go_num,by have:=HLT.out;omega,HA2,⟨h9.out.1⟩,M5⟩
    case measure=>have:=HLT.out;simp [intOf];omega
  ·obtain rfl:i=kids.length:=by omega
   have hA2:=hA.out
   rw [List.drop_length,convL] at hA2
   have HA:=ak_ hA2
   clear hA hA2
   go_wp2
   go_ret
   rw [<-HA.out]
   exact ⟨-1,rfl,by simp,p',hM.out⟩
set_option maxRecDepth 100000 in
set_option maxHeartbeats 4000000 in
theorem cont70_any (w0:World) (bc:Nat) (gA:Option Addr) (gc:Nat) (bm:Nat) (g:List (List Int)) (b2:Nat) (kids:List S31) (ih:∀ k∈kids,ConvOk w0 bc gA gc bm g k)
  (F H:List Pc) (c:Ks) (p:Kp) (w:World) (A:Option Addr) (n m:Nat) (M:Mem w0 w F (c.own bc (.slice gA g.length gc) bm p++.blk b2 (.cells #[.pointer (some ⟨bc,0,none⟩)] 82 (0,0)) :: H)) (hok:c.Ok (3 * szL kids+m)) (hK:k31.C w0 A kids.length kids) (hbig:kids.length < 1000000000) :
  Calls Try.prog 70 #[.slice A kids.length n,.func (.func 71) #[] #[.pointer (some ⟨b2,0,none⟩)]] w fun e w'=>e=.returned (.bool (!(convL g kids c).1))/\∃ p',Mem w0 w' F ((convL g kids c).2.own bc (.slice gA g.length gc) bm p'++.blk b2 (.cells #[.pointer (some ⟨bc,0,none⟩)] 82 (0,0)) :: H):=by
 have CL:=ak_ (idx91_any w0 bc gA gc bm g b2 kids ih F H c p w A n m M hok hK hbig)
 obtain ⟨R,hR⟩:∃ R,R=convL g kids c:=⟨_,rfl⟩
 rw [<-hR] at CL ⊢
 clear M hok hK ih hR
 go_enter Try.func70,Try.ntmps70
 go_wp2_with (first
  | (go_at_call 91;refine CL.out.mono ?_;rintro e w5 ⟨r,rfl,hr,p5,M5⟩;have M5:=ak_ M5;have HR:=ak_ hr;clear hr))
 go_ret
 rw [<-HR.out]
 exact ⟨rfl,p5,M5.out⟩
set_option maxRecDepth 100000 in
set_option maxHeartbeats 4000000 in
theorem kconv_step (w0:World) (bc:Nat) (gA:Option Addr) (gc:Nat) (bm:Nat) (g:List (List Int)) (hG:kG.C w0 gA g.length g) (hg:g.length<=1000000000) (kind node label:Int) (kids:List S31) (ih:∀ k∈kids,ConvOk w0 bc gA gc bm g k)
  (F:List Pc) (c:Ks) (p:Kp) (w:World) (A:Option Addr) (n m:Nat) (M:Mem w0 w F (c.own bc (.slice gA g.length gc) bm p)) (hok:c.Ok (3 * szL kids+2+m)) (hK:k31.C w0 A kids.length kids) (hn:kids.length<=n) :
  Calls Try.prog 50 #[.pointer (some ⟨bc,0,none⟩),.agg #[.int .i64 kind,.int .i64 node,.int .i64 label,.slice A kids.length n]] w fun e w'=>e=.returned (.bool (convF g ⟨kind,node,label,kids⟩ c).1)/\∃ p',Mem w0 w' F ((convF g ⟨kind,node,label,kids⟩ c).2.own bc (.slice gA g.length gc) bm p'):=by
 obtain ⟨b2,w1,z1,a1,M1⟩:=M.alloc (.cells #[.pointer (some ⟨bc,0,none⟩)] 82)
 obtain ⟨b3,w2,z2,a2,M2⟩:=M1.alloc (.cells #[.int .i64 kind,.int .i64 node,.int .i64 label,.slice A kids.length n] 31)
 have M2:=ak_ (show Mem w0 w2 F (c.own bc (.slice gA g.length gc) bm p++.blk b2 (.cells #[.pointer (some ⟨bc,0,none⟩)] 82 (0,0)) :: [.blk b3 (.cells #[.int .i64 kind,.int .i64 node,.int .i64 label,.slice A kids.length n] 31 (0,0))]) from M2)
 have q0:w2.cell? ⟨b2,0,none⟩=some (.pointer (some ⟨bc,0,none⟩)):=M2.out.cell (k:=6) (j:=0) rfl rfl
 have e0:w2.cell? ⟨b3,0,none⟩=some (.int .i64 kind):=M2.out.cell (k:=7) (j:=0) rfl rfl
 have e1:w2.cell? ⟨b3,1,none⟩=some (.int .i64 node):=M2.out.cell (k:=7) (j:=1) rfl rfl
 have e2:w2.cell? ⟨b3,2,none⟩=some (.int .i64 label):=M2.out.cell (k:=7) (j:=2) rfl rfl
 have e3:w2.cell? ⟨b3,3,none⟩=some (.slice A kids.length n):=M2.out.cell (k:=7) (j:=3) rfl rfl
 have hbig:kids.length < 1000000000:=by have h8:=hok.st;have:=szL_len kids;simp only [big] at h8;omega
 have HG:=ak_ hG
 have HK:=ak_ hK
 have IH:=ak_ ih
 have HOK:=ak_ hok
 have HN:=ak_ hn
 clear M M1 hG hK ih hok hn
 by_cases h1:kind=1
 ·subst h1
  by_cases hb:node≠0∨label≠0
  ·have HF:=ak_ (show convF g ⟨1,node,label,kids⟩ c=(false,c) by rw [convF,if_pos rfl,if_pos hb])
   by_cases hn0:node=0
   ·have hl0:(label != 0)=true:=by simpa using hb.resolve_left (by simpa using hn0)
    subst hn0
    clear hb
    go_enter Try.func50,Try.ntmps50
    go_wp2
    go_ret
    rw [HF.out]
    exact ⟨rfl,p,(M2.out.lose (k:=7) rfl).lose (k:=6) rfl⟩
   ·have hl0:(node != 0)=true:=by simpa using hn0
    clear hb hn0
    go_enter Try.func50,Try.ntmps50
    go_wp2
    go_ret
    rw [HF.out]
    exact ⟨rfl,p,(M2.out.lose (k:=7) rfl).lose (k:=6) rfl⟩
  ·have hn0:node=0:=Classical.byContradiction fun h=>hb (.inl h)
   have hl0:label=0:=Classical.byContradiction fun h=>hb (.inr h)
   subst hn0 hl0
   have HF:=ak_ (show convF g ⟨1,0,0,kids⟩ c=convL g kids c by rw [convF,if_pos rfl,if_neg hb])
   have CL:=ak_ (cont70_any w0 bc gA gc bm g b2 kids IH.out F _ c p w2 A n (2+m) M2.out (HOK.out.mono (by omega)) HK.out hbig)
   obtain ⟨R,hR⟩:∃ R,R=convL g kids c:=⟨_,rfl⟩
   rw [<-hR] at CL HF
   clear hb hR
   go_enter Try.func50,Try.ntmps50
   go_wp2_with (first
    | (go_at_call 70;refine CL.out.mono ?_;rintro e w5 ⟨rfl,p5,M5⟩;have M5:=ak_ M5))
   go_ret
   rw [HF.out]
   exact ⟨by simp,p5,(M5.out.lose (k:=7) rfl).lose (k:=6) rfl⟩
 by_cases h2:kind=2
 ·subst h2
  have HF:=ak_ (show convF g ⟨2,node,label,kids⟩ c=kvisF g node label kids c by rw [convF,if_neg (by decide),if_pos rfl];rfl)
  clear h1
  go_enter Try.func50,Try.ntmps50
  go_wp2_with (first
   | (go_at_call 72;refine (kvisits_any w0 bc gA gc bm g HG.out hg 2 node label kids IH.out _ c p w2 A n m M2.out.narrow HOK.out HK.out HN.out).mono ?_;rintro e w8 ⟨rfl,p8,M8⟩;have M9:=M8.wide;have M9:=ak_ M9;clear M8))
  go_ret
  rw [HF.out]
  exact ⟨rfl,p8,(M9.out.lose (k:=7) rfl).lose (k:=6) rfl⟩
 have h1':(kind == 1)=false:=by simpa using h1
 have h2':(kind == 2)=false:=by simpa using h2
 by_cases h34:kind=3∨kind=4
 ·have HF:=ak_ (show convF g ⟨kind,node,label,kids⟩ c=kencF g kind node label kids c by rw [convF,if_neg h1,if_neg h2,if_pos h34];rfl)
  clear h1 h2
  by_cases h3:kind=3
  ·subst h3
   clear h1' h2' h34
   go_enter Try.func50,Try.ntmps50
   go_wp2_with (first
    | (go_at_call 73;refine (kenc_any w0 bc gA gc bm g 3 node label kids IH.out _ c p w2 A n m M2.out.narrow HOK.out HK.out).mono ?_;rintro e w8 ⟨rfl,p8,M8⟩;have M9:=M8.wide;have M9:=ak_ M9;clear M8))
   go_ret
   rw [HF.out]
   exact ⟨rfl,p8,(M9.out.lose (k:=7) rfl).lose (k:=6) rfl⟩
  ·have h4:kind=4:=h34.resolve_left h3
   subst h4
   clear h1' h2' h34 h3
   go_enter Try.func50,Try.ntmps50
   go_wp2_with (first
    | (go_at_call 73;refine (kenc_any w0 bc gA gc bm g 4 node label kids IH.out _ c p w2 A n m M2.out.narrow HOK.out HK.out).mono ?_;rintro e w8 ⟨rfl,p8,M8⟩;have M9:=M8.wide;have M9:=ak_ M9;clear M8))
   go_ret
   rw [HF.out]
   exact ⟨rfl,p8,(M9.out.lose (k:=7) rfl).lose (k:=6) rfl⟩
 have h3':(kind == 3)=false:=by simpa using fun h=>h34 (.inl h)
 have h4':(kind == 4)=false:=by simpa using fun h=>h34 (.inr h)
 by_cases h56:kind=5∨kind=6
 ·have HF:=ak_ (show convF g ⟨kind,node,label,kids⟩ c=c.leave kind node label kids by rw [convF,if_neg h1,if_neg h2,if_neg h34,if_pos h56])
  clear h1 h2 h34
  by_cases h5:kind=5
  ·subst h5
   clear h56 h1' h2' h3' h4'
   go_enter Try.func50,Try.ntmps50
   go_wp2_with (first
    | (go_at_call 74;refine (kleave_any w0 bc _ bm 5 node label kids _ c p w2 A n (3 * szL kids+1+m) M2.out.narrow (HOK.out.mono (by omega)) hbig).mono ?_;rintro e w8 ⟨rfl,p8,M8⟩;have M9:=M8.wide;have M9:=ak_ M9;clear M8))
   go_ret
   rw [HF.out]
   exact ⟨rfl,p8,(M9.out.lose (k:=7) rfl).lose (k:=6) rfl⟩
  ·have h6:kind=6:=h56.resolve_left h5
   subst h6
   clear h56 h1' h2' h3' h4' h5
   go_enter Try.func50,Try.ntmps50
   go_wp2_with (first
    | (go_at_call 74;refine (kleave_any w0 bc _ bm 6 node label kids _ c p w2 A n (3 * szL kids+1+m) M2.out.narrow (HOK.out.mono (by omega)) hbig).mono ?_;rintro e w8 ⟨rfl,p8,M8⟩;have M9:=M8.wide;have M9:=ak_ M9;clear M8))
   go_ret
   rw [HF.out]
   exact ⟨rfl,p8,(M9.out.lose (k:=7) rfl).lose (k:=6) rfl⟩
 have h5':(kind == 5)=false:=by simpa using fun h=>h56 (.inl h)
 have h6':(kind == 6)=false:=by simpa using fun h=>h56 (.inr h)
 have HF:=ak_ (show convF g ⟨kind,node,label,kids⟩ c=(false,c) by rw [convF,if_neg h1,if_neg h2,if_neg h34,if_neg h56])
 clear h1 h2 h34 h56
 go_enter Try.func50,Try.ntmps50
 go_wp2
 go_ret
 rw [HF.out]
 exact ⟨rfl,p,(M2.out.lose (k:=7) rfl).lose (k:=6) rfl⟩
theorem kconv_any (w0:World) (bc:Nat) (gA:Option Addr) (gc:Nat) (bm:Nat) (g:List (List Int)) (hG:kG.C w0 gA g.length g) (hg:g.length<=1000000000):∀ (N:Nat) (s:S31),szF s<=N->ConvOk w0 bc gA gc bm g s
 | 0,s,h=>by rw [szF_eq] at h;omega
 | N+1,s,h=>by
  intro F H c p w A n m M hok hK hn
  rw [szF_eq] at h hok
  obtain ⟨kind,node,label,kids⟩:=s
  refine (kconv_step w0 bc gA gc bm g hG hg kind node label kids (fun k hk=>kconv_any w0 bc gA gc bm g hG hg N k ?_) (H++F) c p w A n m M.narrow (hok.mono (by simp only [];omega)) hK hn).mono ?_
  ·have:=szL_mem hk
   simp only [] at h
   omega
  ·rintro e w' ⟨rfl,p',M'⟩
   exact ⟨rfl,p',M'.wide⟩
end Go.Proofs.Ytfiiihpdekppiaa
end
section
namespace Go.Proofs.Ytfiiihpdekppiaa
open Go.RowKit Go.Proofs Go.Proofs.YtfiiihpdekppiaaW.PrintWords
open PShapeReducible (S31 S77 rd_T77)
def kChk (ss:List S77) (g:List (List Int)):Nat->List (Int × Bool)->List Int->Option Bool
 | 0,_,_=>none
 | _+1,_,[]=>some true
 | k+1,seen,n :: st =>
  if mB0 seen n=true then kChk ss g k seen st
  else if (0<=n/\n < ss.length)/\0<=(rd_T77 ss n).f1/\(rd_T77 ss n).f1 < g.length then
   (rTos ss (g.getD (rd_T77 ss n).f1.toNat []) 0 (rd_T77 ss n).f2 st).bind fun r =>
    match r with
    | none=>some false
    | some st'=>kChk ss g k (mput seen n true) st'
  else none
def kCheckS (ss:List S77) (g:List (List Int)) (k:Nat):Option Bool :=
 (nx ss 0).bind fun f =>
  if f < 0 then some false
  else if f < ss.length then (if (rd_T77 ss f).f1≠0 then some false else kChk ss g k [] [f])
  else none
def kRun (g:List (List Int)) (s:S31):Bool × Ks:=convF g s ⟨[],[],[]⟩
def kPts (g:List (List Int)) (s:S31):List S77:=((kRun g s).2.emit ⟨2,0,[]⟩).pts.map Stp.s77
def CheckIs (s:S31) (g:List (List Int)) (b:Bool):Prop :=
 (ValidIs g false/\b=false)∨(ValidIs g true/\g.length<=1000000000/\szL s.f3<=100000000 /\
  (((kRun g s).1=false/\b=false)∨((kRun g s).1=true/\∃ k,kCheckS (kPts g s) g k=some b)))
end Go.Proofs.Ytfiiihpdekppiaa
end
section
namespace Go.Proofs.Ytfiiihpdekppiaa
open Go.RowKit Go.Proofs Go.Proofs.YtfiiihpdekppiaaW.PrintWords
open Go.ChangeMaps (setBlock heap_setBlock_same heap_setBlock_other)
open PShapeReducible (S31 k31 at_T31 rd_T31 S77 k77 at_T77 rd_T77)
theorem rd_s77 (ss:List Stp) (i:Nat):(rd_T77 (ss.map Stp.s77) i).f1=(((ss.map Stp.cells).getD i []).getD 1 (.int .i64 0) |> fun v=>match v with | .int _ x=>x | _=>0)/\(rd_T77 (ss.map Stp.s77) i).f2=(ss.map Stp.tos).getD i []:=by
 unfold rd_T77
 simp only [Int.toNat_natCast,List.getD_eq_getElem?_getD,List.getElem?_map]
 cases ss[i]? with
 | none=>exact ⟨rfl,rfl⟩
 | some p=>exact ⟨rfl,rfl⟩
theorem Mem.recAt {w0 w:World} {F H:List Pc} {e k j b c:Nat} {ts:List Value} {ss:List Stp} (h:Mem w0 w F H) (hk:H[k]?=some (.row (.slice (some ⟨b,0,none⟩) ss.length c) e 3 ss.length (recs (ss.map Stp.cells) ts))) (hj:H[j]?=some (.rows ts (ss.map Stp.tos))) (i:Nat) (hi:i < ss.length) :
  ∃ A2 c2,ts.getD i nilS=.slice A2 (rd_T77 (ss.map Stp.s77) i).f2.length c2/\kI.C w A2 (rd_T77 (ss.map Stp.s77) i).f2.length (rd_T77 (ss.map Stp.s77) i).f2 /\
   w.cell? ⟨b,i * 3+1,none⟩=some (.int .i64 (rd_T77 (ss.map Stp.s77) i).f1)/\w.cell? ⟨b,i * 3+2,none⟩=some (.slice A2 (rd_T77 (ss.map Stp.s77) i).f2.length c2):=by
 have h2:=h.rows hj
 have hlen:ts.length=ss.length:=by simpa using h2.len
 obtain ⟨b',c',e',_,hcell⟩:=h.rowForm hk (by omega)
 injection e' with e1 _ _
 injection e1 with e1
 injection e1 with e1
 subst e1
 obtain ⟨A,c,e1,e2,e3⟩:=own_C (h2.row i (by omega))
 have er:(rd_T77 (ss.map Stp.s77) i).f2=(ss.map Stp.tos).getD i []:=(rd_s77 ss i).2
 rw [<-er] at e1 e2 e3
 refine ⟨A,c,e1,e3,hcell _ _ ?_,hcell _ _ ?_⟩
 ·rw [step_cell hlen hi (j:=1) (by omega)]
  simp [rd_T77,List.getD_eq_getElem?_getD,hi,Stp.cells,Stp.s77]
 ·rw [step_cell hlen hi (j:=2) (by omega)]
  have h9:((ss.map Stp.cells).getD i []).length=2:=by simp [List.getD_eq_getElem?_getD,hi,Stp.cells]
  rw [List.getElem?_append_right (by omega),h9,e1];rfl
set_option maxRecDepth 100000 in
set_option maxHeartbeats 4000000 in
theorem scheck_any (w:World) (A:Option Addr) (n cg:Nat) (g:List (List Int)) (kind node label:Int) (kids:List S31) (b:Bool) (hG:kG.C w A g.length g) (hgc:g.length<=cg) (A3:Option Addr) (hK:k31.C w A3 kids.length kids) (hn:kids.length<=n)
  (h:CheckIs ⟨kind,node,label,kids⟩ g b) :
  Calls Try.prog 32 #[.agg #[.int .i64 kind,.int .i64 node,.int .i64 label,.slice A3 kids.length n],.agg #[.slice A g.length cg]] w fun e w'=>e=.returned (.bool b)/\Below w.heap.size w w':=by
 obtain ⟨b2,w1,z1,a1,M1⟩:=(Mem.start w).alloc (.cells #[.int .i64 kind,.int .i64 node,.int .i64 label,.slice A3 kids.length n] 31)
 obtain ⟨b3,w2,z2,a2,M2⟩:=M1.alloc (.cells #[.slice A g.length cg] 27)
 obtain ⟨bm,w3,z3,a3,M3⟩:=M2.alloc (.map #[] 0)
 obtain ⟨bc,w4,z4,a4,M4⟩:=M3.alloc (.cells #[.slice A g.length cg,nilS,nilS,.map (some bm)] 86)
 have k1:=M2.cell (k:=1) (j:=0) rfl rfl
 have k1':=M4.cell (k:=1) (j:=0) rfl rfl
 have hmm:=@run_makeMap Try.prog
 have M4:Mem w w4 [] ((Ks.mk [] [] []).own bc (.slice A g.length cg) bm ⟨nilS,nilS,[],[]⟩++[.blk b2 (.cells #[.int .i64 kind,.int .i64 node,.int .i64 label,.slice A3 kids.length n] 31 (0,0)),.blk b3 (.cells #[.slice A g.length cg] 27 (0,0))]):=by
  have h1:=((((M4.nilrow 90 3).norows).nilrow 144 4).norows).order [3,4,5,6,7,2,0,1] rfl
  exact h1
 have HG:=ak_ hG
 have HK:=ak_ hK
 have HN:=ak_ hn
 have HGC:=ak_ hgc
 have M4:=ak_ M4
 clear hG hK M1 M2 M3
 rcases h with ⟨⟨kv,hv⟩,rfl⟩ | ⟨⟨kv,hv⟩,hg9,hsz,h⟩
 ·have HV:=ak_ hv
  clear hv
  go_enter Try.func32,Try.ntmps32
  go_wp2_with (go_at_call 36;refine (PShapeReducible.flow_Valid.calls kv A cg g false w4 (Kd.C_below HG.out M4.out.hb) hgc HV.out).mono ?_;rintro e w5 ⟨rfl,hb5⟩;have M5:=ak_ (M4.out.below hb5);clear hb5)
  go_ret
  exact ⟨rfl,M5.out.hb⟩
 have hsz':szL kids<=100000000:=hsz
 have HV:=ak_ hv
 have CO:=ak_ (kconv_any w bc A cg bm g HG.out hg9 _ ⟨kind,node,label,kids⟩ (Nat.le_refl _))
 have HOK0:=ak_ (show (Ks.mk [] [] []).Ok (3 * szF ⟨kind,node,label,kids⟩ - 1+100000000) from ⟨by simp only [szF_eq,big,List.length_nil];omega,by simp,by simp only [szF_eq,big,List.length_nil];omega,by simp⟩)
 have h9:=ak_ (convF_ok g 100000000 ⟨kind,node,label,kids⟩ ⟨[],[],[]⟩ HOK0.out)
 have e0:=M4.out.cell (k:=6) (j:=0) rfl rfl
 have e1:=M4.out.cell (k:=6) (j:=1) rfl rfl
 have e2:=M4.out.cell (k:=6) (j:=2) rfl rfl
 have e3:=M4.out.cell (k:=6) (j:=3) rfl rfl
 obtain ⟨db,d,hd⟩:∃ db d,kRun g ⟨kind,node,label,kids⟩=(db,d):=⟨_,_,rfl⟩
 have HD:=ak_ (show convF g ⟨kind,node,label,kids⟩ ⟨[],[],[]⟩=(db,d) from hd)
 have hd2:(kPts g ⟨kind,node,label,kids⟩)=(d.emit ⟨2,0,[]⟩).pts.map Stp.s77:=by unfold kPts;rw [hd]
 rw [hd,hd2] at h
 rw [HD.out] at h9
 clear hd hd2 hv e0 e1 e2 e3
 dsimp only at h h9
 rcases h with ⟨rfl,rfl⟩ | ⟨rfl,k,hk⟩
 ·go_enter Try.func32,Try.ntmps32
  go_wp2_with (first
   | (go_at_call 36;refine (PShapeReducible.flow_Valid.calls kv A cg g true w4 (Kd.C_below HG.out M4.out.hb) hgc HV.out).mono ?_;rintro e w5 ⟨rfl,hb5⟩;have M5:=M4.out.below hb5;have e0:=M5.cell (k:=6) (j:=0) rfl rfl;have e1:=M5.cell (k:=6) (j:=1) rfl rfl;have e2:=M5.cell (k:=6) (j:=2) rfl rfl;have e3:=M5.cell (k:=6) (j:=3) rfl rfl;have M5:=ak_ M5;clear hb5)
   | (go_at_call 50;refine (CO.out [] _ ⟨[],[],[]⟩ _ w5 A3 n 100000000 M5.out HOK0.out HK.out HN.out).mono ?_;rintro e w6 ⟨rfl,p6,M6⟩;rw [HD.out] at M6 ⊢;have M6:=ak_ M6))
  go_ret
  exact ⟨rfl,M6.out.hb⟩
 obtain ⟨D,hD⟩:∃ D,D=d.emit ⟨2,0,[]⟩:=⟨_,rfl⟩
 obtain ⟨SS,hSS⟩:∃ SS,SS=D.pts.map Stp.s77:=⟨_,rfl⟩
 have hs:kCheckS SS g k=some b:=by rw [hSS,hD];exact hk
 have HDD:=ak_ hD
 have HSE:=ak_ hSS
 have hpl:d.pts.length < 1000000000:=by have h8:=h9.out.2.1;simp only [big] at h8;omega
 have hN9:SS.length<=1000000000:=by rw [hSS,hD];simp [Ks.emit];omega
 clear hk hD hSS
 unfold kCheckS at hs
 obtain ⟨f,hf,hs⟩:=Option.bind_eq_some_iff.1 hs
 have HF:=ak_ hf
 unfold nx at HF
 by_cases hneg:f < 0
 ·rw [if_pos hneg] at hs
  have HB:=ak_ (Option.some.inj hs)
  clear hs hf
  go_enter Try.func32,Try.ntmps32
  go_wp2_with (first
   | (go_at_call 36;refine (PShapeReducible.flow_Valid.calls kv A cg g true w4 (Kd.C_below HG.out M4.out.hb) hgc HV.out).mono ?_;rintro e w5 ⟨rfl,hb5⟩;have M5:=M4.out.below hb5;have e0:=M5.cell (k:=6) (j:=0) rfl rfl;have e1:=M5.cell (k:=6) (j:=1) rfl rfl;have e2:=M5.cell (k:=6) (j:=2) rfl rfl;have e3:=M5.cell (k:=6) (j:=3) rfl rfl;have M5:=ak_ M5;clear hb5)
   | (go_at_call 50;refine (CO.out [] _ ⟨[],[],[]⟩ _ w5 A3 n 100000000 M5.out HOK0.out HK.out HN.out).mono ?_;rintro e w6 ⟨rfl,p6,M6⟩;rw [HD.out] at M6 ⊢;have M6:=ak_ M6)
   | (go_at_call 51;refine (add0 bc _ d bm p6 2 0 M6.out hpl).mono ?_;rintro e w7 ⟨rfl,p7,M7⟩;rw [<-HDD.out] at M7;obtain ⟨AS,nS,eS,hnS,hCS⟩:=M7.recsC (e:=90) (k:=1) (j:=2) rfl rfl;rw [<-HSE.out] at eS hnS hCS;have KS1:=ak_ (show w7.cell? ⟨bc,1,none⟩=some (.slice AS SS.length nS) from (M7.cell (k:=0) (j:=1) rfl rfl).trans (congrArg some eS));have HCS:=ak_ hCS;have M7:=ak_ M7;clear eS hnS hCS)
   | (go_at_call 52;refine (next_any w7 bc AS nS SS 0 f _ KS1.out HCS.out hN9 HF.out).mono ?_;rintro e w8 ⟨rfl,hb8⟩;have M8:=ak_ (M7.out.below hb8);clear hb8))
  go_ret
  exact ⟨by rw [<-HB.out];rfl,M8.out.hb⟩
 rw [if_neg hneg] at hs
 have hfl:f < SS.length:=Classical.byContradiction fun hc=>by rw [if_neg hc] at hs;cases hs
 rw [if_pos hfl] at hs
 obtain ⟨f,rfl⟩:∃ q:Nat,f=q:=⟨f.toNat,by omega⟩
 have hf0:¬ ((f:Int) < 0):=hneg
 have HFL:=ak_ (show f < SS.length by omega)
 obtain ⟨fn,hfn⟩:∃ fn,fn=(rd_T77 SS f).f1:=⟨_,rfl⟩
 rw [<-hfn] at hs
 have HFN:=ak_ hfn
 by_cases hnz:fn≠0
 ·rw [if_pos hnz] at hs
  have HB:=ak_ (Option.some.inj hs)
  have hnz':(fn != 0)=true:=by simpa using hnz
  clear hs hf hneg hnz hfn
  go_enter Try.func32,Try.ntmps32
  go_wp2_with (first
   | (go_at_call 36;refine (PShapeReducible.flow_Valid.calls kv A cg g true w4 (Kd.C_below HG.out M4.out.hb) hgc HV.out).mono ?_;rintro e w5 ⟨rfl,hb5⟩;have M5:=M4.out.below hb5;have e0:=M5.cell (k:=6) (j:=0) rfl rfl;have e1:=M5.cell (k:=6) (j:=1) rfl rfl;have e2:=M5.cell (k:=6) (j:=2) rfl rfl;have e3:=M5.cell (k:=6) (j:=3) rfl rfl;have M5:=ak_ M5;clear hb5)
   | (go_at_call 50;refine (CO.out [] _ ⟨[],[],[]⟩ _ w5 A3 n 100000000 M5.out HOK0.out HK.out HN.out).mono ?_;rintro e w6 ⟨rfl,p6,M6⟩;rw [HD.out] at M6 ⊢;have M6:=ak_ M6)
   | (go_at_call 51;refine (add0 bc _ d bm p6 2 0 M6.out hpl).mono ?_;rintro e w7 ⟨rfl,p7,M7⟩;rw [<-HDD.out] at M7;obtain ⟨AS,nS,eS,hnS,hCS⟩:=M7.recsC (e:=90) (k:=1) (j:=2) rfl rfl;rw [<-HSE.out] at eS hnS hCS;have KS1:=ak_ (show w7.cell? ⟨bc,1,none⟩=some (.slice AS SS.length nS) from (M7.cell (k:=0) (j:=1) rfl rfl).trans (congrArg some eS));have HCS:=ak_ hCS;have M7:=ak_ M7;clear eS hnS hCS)
   | (go_at_call 52;refine (next_any w7 bc AS nS SS 0 f _ KS1.out HCS.out hN9 HF.out).mono ?_;rintro e w8 ⟨rfl,hb8⟩;have M8:=M7.out.below hb8;obtain ⟨ads,A2,c2,eAs,g0,g1,g2,hc2,hC2⟩:=step_at (Kd.C_below HCS.out hb8) f HFL.out;subst eAs;rw [<-HFN.out] at g1;have k5:=pw_cell_below hb8 KS1.out;have M8:=ak_ M8;clear hb8 hC2 hc2))
  go_ret
  exact ⟨by rw [<-HB.out];rfl,M8.out.hb⟩
 rw [if_neg hnz] at hs
 have hnz':fn=0:=by simpa using hnz
 subst hnz'
 have HS:=ak_ hs
 have hDp:0 < D.pts.length:=by rw [HDD.out];simp [Ks.emit]
 clear hs hf hneg hnz hfn
 go_enter Try.func32,Try.ntmps32
 go_wp2_with (first
  | (go_at_call 36;refine (PShapeReducible.flow_Valid.calls kv A cg g true w4 (Kd.C_below HG.out M4.out.hb) hgc HV.out).mono ?_;rintro e w5 ⟨rfl,hb5⟩;have M5:=M4.out.below hb5;have e0:=M5.cell (k:=6) (j:=0) rfl rfl;have e1:=M5.cell (k:=6) (j:=1) rfl rfl;have e2:=M5.cell (k:=6) (j:=2) rfl rfl;have e3:=M5.cell (k:=6) (j:=3) rfl rfl;have M5:=ak_ M5;clear hb5)
  | (go_at_call 50;refine (CO.out [] _ ⟨[],[],[]⟩ _ w5 A3 n 100000000 M5.out HOK0.out HK.out HN.out).mono ?_;rintro e w6 ⟨rfl,p6,M6⟩;rw [HD.out] at M6 ⊢;have M6:=ak_ M6)
  | (go_at_call 51;refine (add0 bc _ d bm p6 2 0 M6.out hpl).mono ?_;rintro e w7 ⟨rfl,p7,M7⟩;rw [<-HDD.out] at M7;obtain ⟨vS7,vF7,ts7,bs7⟩:=p7;obtain ⟨bS,cS,eS,hcS,_⟩:=M7.rowForm (k:=1) rfl hDp;dsimp only at eS;subst eS;obtain ⟨AS,nS,eS,hnS,hCS⟩:=M7.recsC (e:=90) (k:=1) (j:=2) rfl rfl;rw [<-HSE.out] at eS hnS hCS;injection eS with eA eB eC;subst eA;have hDl:D.pts.length=SS.length:=(by rw [HSE.out];simp);have k5:w7.cell? ⟨bc,1,none⟩=some (.slice (some ⟨bS,0,none⟩) SS.length cS):=(M7.cell (k:=0) (j:=1) rfl rfl).trans (by rw [hDl];rfl);have KS1:=ak_ k5;have HCS:=ak_ hCS;have HDL:=ak_ hDl;have M7:=ak_ M7;clear hnS hCS k5 hDl)
  | (go_at_call 52;refine (next_any w7 bc _ cS SS 0 f _ KS1.out HCS.out hN9 HF.out).mono ?_;rintro e w8 ⟨rfl,hb8⟩;have M8:=M7.out.below hb8;obtain ⟨A2,c2,_,_,g1,_⟩:=M8.recAt (k:=1) (j:=2) rfl rfl f (by have:=HFL.out;have:=HDL.out;omega);rw [<-HSE.out,<-HFN.out] at g1;have k5:=pw_cell_below hb8 KS1.out;have k5':=ak_ k5;obtain ⟨b9,w9,z9,a9,M9⟩:=M8.alloc (.map #[] 0);obtain ⟨b10,w10,z10,a10,M10⟩:=M9.one (f:Int);have M10:=ak_ M10;clear hb8 M8 M9))
 clear k1 k1' e0 e1 e2 e3 g1 k5 z1 z2 z3 z4 a1 a2 a3 a4 z9 a9 z10 a10 hf0 M7 KS1 HCS M6 M5 M4 CO HOK0 h9
 go_loopg [8] k (fun kq v8 wr=>∃ (seen:List (Int × Bool)) (st:List Int),Aside0 (kChk SS g kq seen st=some b)/\Aside0 (Mem w wr [] (D.own bc (.slice A g.length cg) bm ⟨.slice (some ⟨bS,0,none⟩) D.pts.length cS,vF7,ts7,bs7⟩++[.blk b2 (.cells #[.int .i64 kind,.int .i64 node,.int .i64 label,.slice A3 kids.length n] 31 (0,0)),.blk b3 (.cells #[.slice A g.length cg] 27 (0,0)),.blk b9 (mB seen),.row v8 3 1 st.length (nums .i64 st.reverse)])))
 case atStart=>exact ⟨[],[(f:Int)],HS,M10⟩
 case round =>
  clear M10 HS HF
  obtain ⟨seen,st,hH,hM⟩:=hrel
  have h:=hH.out
  have kc1:wr.cell? ⟨bc,1,none⟩=some (.slice (some ⟨bS,0,none⟩) SS.length cS):=(hM.out.cell (k:=0) (j:=1) rfl rfl).trans (by rw [HDL.out];rfl)
  cases hk:gk with
  | zero=>rw [hk] at h;simp [kChk] at h
  | succ gk' =>
   rw [hk] at h
   have HK':=ak_ hk
   clear hH hk
   match st,h,hM with
   | [],h,hM =>
    have HB:=ak_ (show true=b by simpa [kChk] using h)
    obtain ⟨A9,c9,rfl,_⟩:=hM.out.rowSlice' (k:=9) rfl
    clear h
    go_wp2
    go_ret
    exact ⟨by rw [<-HB.out];rfl,hM.out.hb⟩
   | x :: st,h,hM =>
    obtain ⟨b10,c9,rfl,hcap,hcell⟩:=hM.out.rowForm (k:=9) rfl (by simp)
    have hl9:st.length+1<=9223372036854775807:=own_len (hM.out.row (k:=9) rfl)
    have hcap:st.length+1<=c9:=hcap
    have q9:wr.cell? ⟨b10,st.length,none⟩=some (.int .i64 x):=hcell _ _ (by simp [nums])
    have hcut:=hM.out.rowCut (k:=9) st.length rfl (by simp)
    have hM2:Mem w wr [] (D.own bc (.slice A g.length cg) bm ⟨.slice (some ⟨bS,0,none⟩) D.pts.length cS,vF7,ts7,bs7⟩++[.blk b2 (.cells #[.int .i64 kind,.int .i64 node,.int .i64 label,.slice A3 kids.length n] 31 (0,0)),.blk b3 (.cells #[.slice A g.length cg] 27 (0,0)),.blk b9 (mB seen),.row (.slice (some ⟨b10,0,none⟩) st.length c9) 3 1 st.length (nums .i64 st.reverse)]):=by
     have e:(nums .i64 (x :: st).reverse).take (st.length * 1)=nums .i64 st.reverse:=by
      rw [List.reverse_cons,nums_append,Nat.mul_one,List.take_append_of_le_length (by simp [nums_length]),List.take_of_length_le (by simp [nums_length])]
     rw [<-e]
     exact hcut
    have HM2:=ak_ hM2
    have L1:=look_B (hM2.blk (k:=8) rfl) x
    rw [kChk] at h
    cases hsn:mB0 seen x with
    | true =>
     rw [if_pos hsn] at h
     rw [hsn] at L1
     have HH:=ak_ h
     clear h hsn hM hM2 hcell hcut
     go_wp2
     go_roundg gk'
     case measure=>have:=HK'.out;omega
     case rel=>exact ⟨seen,st,HH,HM2⟩
    | false =>
     rw [if_neg (by rw [hsn];decide)] at h
     rw [hsn] at L1
     have hxr:(0<=x/\x < SS.length)/\0<=(rd_T77 SS x).f1/\(rd_T77 SS x).f1 < g.length:=Classical.byContradiction fun hc=>by rw [if_neg hc] at h;cases h
     rw [if_pos hxr] at h
     obtain ⟨hxr,hnode⟩:=hxr
     obtain ⟨x,rfl⟩:∃ q:Nat,x=q:=⟨x.toNat,by omega⟩
     have hx:x < SS.length:=by omega
     have hxl:(x:Int) < SS.length:=hxr.2
     have HX:=ak_ hx
     obtain ⟨nd,hnd⟩:∃ q:Nat,(rd_T77 SS x).f1=q:=⟨(rd_T77 SS x).f1.toNat,by omega⟩
     rw [hnd,Int.toNat_natCast] at h
     obtain ⟨tos,htos⟩:∃ tos,tos=(rd_T77 SS x).f2:=⟨_,rfl⟩
     rw [<-htos] at h
     obtain ⟨row,hrow⟩:∃ row,row=g.getD nd []:=⟨_,rfl⟩
     rw [<-hrow] at h
     obtain ⟨rr,hr1,hr2⟩:=Option.bind_eq_some_iff.1 h
     obtain ⟨w11,p11,M11⟩:=hM2.putB (k:=8) rfl (x:Int) true
     have M11:Mem w w11 [] (D.own bc (.slice A g.length cg) bm ⟨.slice (some ⟨bS,0,none⟩) D.pts.length cS,vF7,ts7,bs7⟩++[.blk b2 (.cells #[.int .i64 kind,.int .i64 node,.int .i64 label,.slice A3 kids.length n] 31 (0,0)),.blk b3 (.cells #[.slice A g.length cg] 27 (0,0)),.blk b9 (mB (mput seen x true)),.row (.slice (some ⟨b10,0,none⟩) st.length c9) 3 1 st.length (nums .i64 st.reverse)]):=M11
     obtain ⟨A2,c2,hts,hC2,_,g2⟩:=M11.recAt (k:=1) (j:=2) rfl rfl x (by have:=HDL.out;omega)
     rw [<-HSE.out,<-htos] at hts hC2 g2
     have kc2:w11.cell? ⟨bc,1,none⟩=some (.slice (some ⟨bS,0,none⟩) SS.length cS):=(M11.cell (k:=0) (j:=1) rfl rfl).trans (by rw [HDL.out];rfl)
     have M11:=ak_ M11
     have HR1:=ak_ hr1
     have HR2:=ak_ hr2
     have HND:=ak_ hnd
     have HNL:=ak_ (show nd < g.length by omega)
     have HTOS:=ak_ htos
     have HROW:=ak_ hrow
     have HTS:=ak_ hts
     have htl:tos.length<=9223372036854775807:=hC2.2.1
     clear h hsn hM hM2 hcell hcut hx hxr hnode hr1 hr2 hrow htos hnd hts hC2
     go_wp2
     clear L1 p11 kc1 kc2 g2 q9
     go_loopw [8,75] (fun v8 t wr=>∃ (j:Nat) (st':List Int),t=.int .i64 j/\j<=tos.length/\Aside0 (rTos SS row j (tos.drop j) st'=some rr)/\Aside0 (Mem w wr [] (D.own bc (.slice A g.length cg) bm ⟨.slice (some ⟨bS,0,none⟩) D.pts.length cS,vF7,ts7,bs7⟩++[.blk b2 (.cells #[.int .i64 kind,.int .i64 node,.int .i64 label,.slice A3 kids.length n] 31 (0,0)),.blk b3 (.cells #[.slice A g.length cg] 27 (0,0)),.blk b9 (mB (mput seen x true)),.row v8 3 1 st'.length (nums .i64 st'.reverse)]))) (fun _ t _=>tos.length - (intOf t).toNat)
     case atStart=>exact ⟨0,st,rfl,Nat.zero_le _,HR1,M11⟩
     case round =>
      clear M11 HM2
      obtain ⟨j,st',rfl,hj,hT,hM⟩:=hrel
      obtain ⟨A9,c9',rfl,hc9⟩:=hM.out.rowSlice' (k:=9) rfl
      obtain ⟨A2',c2',hts',hC2,g1,_⟩:=hM.out.recAt (k:=1) (j:=2) rfl rfl x (by have:=HDL.out;have:=HX.out;omega)
      rw [<-HSE.out] at hts' hC2 g1
      rw [HND.out] at g1
      rw [<-HTOS.out] at hts' hC2
      rw [HTS.out] at hts'
      injection hts' with e1 _ e2
      subst e1 e2
      have ht:=hT.out
      by_cases hjl:j < tos.length
      ·have hjl':(j:Int) < tos.length:=by omega
       have HJL:=ak_ hjl
       obtain ⟨tt,htt⟩:∃ tt,tt=tos[j]:=⟨_,rfl⟩
       rw [List.drop_eq_getElem_cons hjl,<-htt,rTos] at ht
       obtain ⟨mm,hm1,hm2⟩:=Option.bind_eq_some_iff.1 ht
       obtain ⟨ad2,rfl,q2⟩:=C_num hC2 j hjl
       rw [show tos.getD j 0=tt by rw [htt,List.getD_eq_getElem?_getD,List.getElem?_eq_getElem hjl];rfl] at q2
       have HM1:=ak_ hm1
       unfold nx at HM1
       have kc3:wr.cell? ⟨bc,1,none⟩=some (.slice (some ⟨bS,0,none⟩) SS.length cS):=(hM.out.cell (k:=0) (j:=1) rfl rfl).trans (by rw [HDL.out];rfl)
       have HCSr:=ak_ (show k77.C wr (some ⟨bS,0,none⟩) SS.length SS from by
        obtain ⟨A',n',e',hn',hC'⟩:=hM.out.recsC (e:=90) (k:=1) (j:=2) rfl rfl
        rw [<-HSE.out] at hn' hC' e'
        injection e' with e'' _ _
        rw [e''];exact hC')
       have NX:=ak_ (next_any wr bc _ cS SS tt mm _ kc3 HCSr.out hN9 HM1.out)
       by_cases hmn:mm < 0
       ·rw [if_pos hmn] at hm2
        have hrr:=(Option.some.inj hm2).symm
        subst hrr
        have HB:=ak_ (show false=b by simpa using HR2.out)
        clear hm1 hm2 ht htt hC2 hT hjl
        go_wp2_with (first
         | (go_at_call 52;refine NX.out.mono ?_;rintro e w12 ⟨rfl,hb12⟩;have M12:=ak_ (hM.out.below hb12);clear hb12)
         | (refine wp_region_txt (fun _=>True) [] (by kernel_rfl) (by kernel_rfl) ?_) | (with_reducible refine wpT_nil ?_) | (refine wpT_W (v:=?_) trivial (by decide) (by first | exact wn_ rfl | rfl) (fun _ hS_=>?_) ?_;rotate_left;(focus ((try dsimp only at hS_);go_simp;rfl));(simp only [Act.put,sA_,sB_,sC_])) | (refine wpT_R (v:=?_) trivial (by decide) (by first | exact wn_ rfl | rfl) ?_ ?_;rotate_left;(focus (go_simp;rfl));(simp only [Act.put,sA_,sB_,sC_])) | (refine wpT_A (v:=?_) (ob:=?_) trivial (by decide) (by first | exact wn_ rfl | rfl) ?_ ?_ ?_;rotate_left 2;(focus (go_simp;first | (constructor <;> rfl) | rfl));(focus (exact trivial));(simp only [Act.put,sA_,sB_,sC_])) | (refine wpT_no trivial rfl (by decide) ?_;(simp only [Act.put,sA_,sB_,sC_])))
        go_ret
        exact ⟨by rw [<-HB.out];rfl,M12.out.hb.drew⟩
       ·rw [if_neg hmn] at hm2
        have hmr:mm < SS.length/\j < row.length/\st'.length < 1000000000:=Classical.byContradiction fun hc=>by rw [if_neg hc] at hm2;cases hm2
        rw [if_pos hmr] at hm2
        obtain ⟨mm,rfl⟩:∃ q:Nat,mm=q:=⟨mm.toNat,by omega⟩
        obtain ⟨nm,hnm⟩:∃ nm,nm=(rd_T77 SS mm).f1:=⟨_,rfl⟩
        rw [<-hnm] at hm2
        have hmn':¬ ((mm:Int) < 0):=hmn
        have HMM:=ak_ (show mm < SS.length by omega)
        have hmm':(mm:Int) < SS.length:=hmr.1
        have HST:=ak_ hmr.2.2
        obtain ⟨ga,Ar,cr,rfl,j1,hcr,hr⟩:=C_row (Kd.C_below HG.out hM.out.hb) nd HNL.out
        rw [<-HROW.out] at j1 hcr hr
        obtain ⟨ad5,rfl,j2⟩:=C_num hr j hmr.2.1
        obtain ⟨yy,hyy⟩:∃ yy,yy=row.getD j 0:=⟨_,rfl⟩
        rw [<-hyy] at hm2 j2
        have hjr:(j:Int) < row.length:=by omega
        have hndl:(nd:Int) < g.length:=by have:=HNL.out;omega
        have HNM:=ak_ hnm
        have J:=ak_ (And.intro j1 (And.intro j2 g1))
        have N46:∀ w12,Below wr.heap.size wr w12->w12.cell? ⟨bS,mm * 3+1,none⟩=some (.int .i64 nm)/\w12.cell? ⟨bS,x * 3+1,none⟩=some (.int .i64 nd)/\w12.cell? (ga.add nd)=some (.slice (some ad5) row.length cr)/\w12.cell? (ad5.add j)=some (.int .i64 yy)/\w12.cell? ⟨b3,0,none⟩=some (.slice (some ga) g.length cg)/\w12.cell? ⟨bc,1,none⟩=some (.slice (some ⟨bS,0,none⟩) SS.length cS):=by
         intro w12 hb
         obtain ⟨_,_,_,_,h1,_⟩:=(hM.out.below hb).recAt (k:=1) (j:=2) rfl rfl mm (by have:=HDL.out;have:=HMM.out;omega)
         rw [<-HSE.out,<-HNM.out] at h1
         exact ⟨h1,pw_cell_below hb J.out.2.2,pw_cell_below hb J.out.1,pw_cell_below hb J.out.2.1,(hM.out.below hb).cell (k:=7) (j:=0) rfl rfl,((hM.out.below hb).cell (k:=0) (j:=1) rfl rfl).trans (by rw [HDL.out];rfl)⟩
        have N46:=ak_ N46
        by_cases hne:nm≠yy
        ·rw [if_pos hne] at hm2
         have hrr:=(Option.some.inj hm2).symm
         subst hrr
         have HB:=ak_ (show false=b by simpa using HR2.out)
         have hne':(nm != yy)=true:=by simpa using hne
         clear hm1 hm2 ht htt hC2 hT hjl hmn hmr hnm hyy hcr hr hne j1 j2 g1
         go_wp2_with (first
          | (go_at_call 52;refine NX.out.mono ?_;rintro e w12 ⟨rfl,hb12⟩;have M12:=hM.out.below hb12;obtain ⟨t1,t2,t3,t4,t5,t6⟩:=N46.out w12 hb12;obtain ⟨w13,z13,M13⟩:=M12.drew;have t1':=cell_of_drew z13 t1;have t2':=cell_of_drew z13 t2;have t3':=cell_of_drew z13 t3;have t4':=cell_of_drew z13 t4;have t5':=cell_of_drew z13 t5;have t6':=cell_of_drew z13 t6;have M13:=ak_ M13;clear hb12 M12)
          | (rw [z13]) | (refine wp_region_txt (fun _=>True) [] (by kernel_rfl) (by kernel_rfl) ?_) | (with_reducible refine wpT_nil ?_) | (refine wpT_W (v:=?_) trivial (by decide) (by first | exact wn_ rfl | rfl) (fun _ hS_=>?_) ?_;rotate_left;(focus ((try dsimp only at hS_);go_simp;rfl));(simp only [Act.put,sA_,sB_,sC_])) | (refine wpT_R (v:=?_) trivial (by decide) (by first | exact wn_ rfl | rfl) ?_ ?_;rotate_left;(focus (go_simp;rfl));(simp only [Act.put,sA_,sB_,sC_])) | (refine wpT_A (v:=?_) (ob:=?_) trivial (by decide) (by first | exact wn_ rfl | rfl) ?_ ?_ ?_;rotate_left 2;(focus (go_simp;first | (constructor <;> rfl) | rfl));(focus (exact trivial));(simp only [Act.put,sA_,sB_,sC_])) | (refine wpT_no trivial rfl (by decide) ?_;(simp only [Act.put,sA_,sB_,sC_])))
         go_ret
         exact ⟨by rw [<-HB.out];rfl,M13.out.hb⟩
        ·rw [if_neg hne] at hm2
         have hne':nm=yy:=by simpa using hne
         subst hne'
         have HM2':=ak_ hm2
         clear hm1 hm2 ht htt hC2 hT hjl hmn hmr hyy hnm hcr hr hne j1 j2 g1
         go_wp2_with (first
          | (go_at_call 52;refine NX.out.mono ?_;rintro e w12 ⟨rfl,hb12⟩;have M12:=hM.out.below hb12;obtain ⟨t1,t2,t3,t4,t5,t6⟩:=N46.out w12 hb12;obtain ⟨w13,z13,M13⟩:=M12.drew;have t1':=cell_of_drew z13 t1;have t2':=cell_of_drew z13 t2;have t3':=cell_of_drew z13 t3;have t4':=cell_of_drew z13 t4;have t5':=cell_of_drew z13 t5;have t6':=cell_of_drew z13 t6;have M13:=ak_ M13;clear hb12 M12)
          | (rw [z13])
          | ((with_reducible refine gate_dst (N:=114) rfl ?_);refine mem_append 9 (.tmp 111) (.tmp 113) 23 3 (.int .i64 0) 1 8 rfl rfl Try.underlying23 PShapeReducible.info3 rfl (by decide) (by decide) _ st'.length (nums .i64 st'.reverse) [.int .i64 (mm:Int)] rfl rfl rfl (by simp [Value.oneCell']) M13.out rfl (by have:=HST.out;omega) ?_;intro A14 c14 w14 M14;have M14:=ak_ M14)
          | (refine wp_region_txt (fun _=>True) [] (by kernel_rfl) (by kernel_rfl) ?_) | (with_reducible refine wpT_nil ?_) | (refine wpT_W (v:=?_) trivial (by decide) (by first | exact wn_ rfl | rfl) (fun _ hS_=>?_) ?_;rotate_left;(focus ((try dsimp only at hS_);go_simp;rfl));(simp only [Act.put,sA_,sB_,sC_])) | (refine wpT_R (v:=?_) trivial (by decide) (by first | exact wn_ rfl | rfl) ?_ ?_;rotate_left;(focus (go_simp;rfl));(simp only [Act.put,sA_,sB_,sC_])) | (refine wpT_A (v:=?_) (ob:=?_) trivial (by decide) (by first | exact wn_ rfl | rfl) ?_ ?_ ?_;rotate_left 2;(focus (go_simp;first | (constructor <;> rfl) | rfl));(focus (exact trivial));(simp only [Act.put,sA_,sB_,sC_])) | (refine wpT_no trivial rfl (by decide) ?_;(simp only [Act.put,sA_,sB_,sC_])))
         go_roundw
         case rel =>
          refine ⟨j+1,(mm:Int) :: st',by go_num,by have:=HJL.out;omega,HM2',⟨?_⟩⟩
          rw [List.reverse_cons,nums_append]
          exact M14.out
         case measure=>have:=HJL.out;simp [intOf];omega
      ·obtain rfl:j=tos.length:=by omega
       rw [List.drop_length,rTos] at ht
       have hrr:=(Option.some.inj ht).symm
       subst hrr
       have HH:=ak_ (show kChk SS g gk' (mput seen x true) st'=some b from HR2.out)
       clear ht hT hC2 g1
       go_wp2
       go_roundg gk'
       case measure=>have:=HK'.out;omega
       case rel=>exact ⟨mput seen x true,st',HH,hM⟩
end Go.Proofs.Ytfiiihpdekppiaa
end
section
namespace Go.Proofs.Ytfiiihpdekppiaa
open Go.RowKit Go.Proofs Go.Proofs.YtfiiihpdekppiaaW.PrintWords
open PShapeReducible (S31 k31 k31_open)
theorem own_lit (w:World) (e:Nat) (cs:List Value) (hl:cs.length<=1000000) (h1:∀ u∈cs,u.oneCell'=true∨True):(w.alloc (.cells cs.toArray e)).ownsRow w.heap.size e 1 (.slice (some ⟨w.heap.size,0,none⟩) cs.length cs.length) cs.length cs :=
 ⟨by simp,.inr ⟨w.heap.size,cs.length,cs.toArray,rfl,Nat.le_refl _,heap_alloc_new _ _,Nat.le_refl _,by simp only [maxLen];omega,by simp,by simp⟩⟩
section
variable {w0 w w' : World} {F H L : List Pc}
theorem Mem.lit2 (h:Mem w0 w F H) (x y:Int):∃ b w2,w.heap.size=b/\w.alloc (.cells #[.int .i64 x,.int .i64 y] 3)=w2/\Mem w0 w2 F (H++[.row (.slice (some ⟨b,0,none⟩) 2 2) 3 1 2 (nums .i64 [x,y])]) :=
 ⟨_,_,rfl,rfl,h.newrow ((Below.refl _ _).alloc (Nat.le_refl _) _) (own_lit w 3 [.int .i64 x,.int .i64 y] (by simp) (by simp)) (fun k hk=>by simp [Value.ownBlock] at hk;omega)⟩
theorem Mem.lit0 (h:Mem w0 w F H):∃ b w2,w.heap.size=b/\w.alloc (.cells #[] 3)=w2/\Mem w0 w2 F (H++[.row (.slice (some ⟨b,0,none⟩) 0 0) 3 1 0 (nums .i64 [])]) :=
 ⟨_,_,rfl,rfl,h.newrow ((Below.refl _ _).alloc (Nat.le_refl _) _) (own_lit w 3 [] (by simp) (by simp)) (fun k hk=>by simp [Value.ownBlock] at hk;omega)⟩
theorem Mem.litMat {k:Nat} {vs:List Value} {xss:List (List Int)} (h:Mem w0 w F H) (hk:H[k]?=some (.rows vs xss)) (hl:vs.length<=1000000) :
  ∃ b w2,w.heap.size=b/\w.alloc (.cells vs.toArray 23)=w2/\Mem w0 w2 F (.mat (.slice (some ⟨b,0,none⟩) vs.length vs.length) vs xss :: H.eraseIdx k):=by
 refine ⟨_,_,rfl,rfl,?_⟩
 have h1:=h.newrow (w':=w.alloc (.cells vs.toArray 23)) (b:=w.heap.size) (e:=23) (size:=1) (n:=vs.length) (v:=.slice (some ⟨w.heap.size,0,none⟩) vs.length vs.length) (xs:=vs) ((Below.refl _ _).alloc (Nat.le_refl _) _) (own_lit w 23 vs hl (by simp)) (fun k hk=>by simp [Value.ownBlock] at hk;omega)
 have hkl:=(List.getElem?_eq_some_iff.1 hk).1
 have hk':(H++[Pc.row (.slice (some ⟨w.heap.size,0,none⟩) vs.length vs.length) 23 1 vs.length vs])[k]?=some (.rows vs xss):=by rw [List.getElem?_append_left hkl];exact hk
 have h2:=h1.front hk'
 rw [List.eraseIdx_append_of_lt_length hkl] at h2
 have h3:MemL w0 (w.alloc (.cells vs.toArray 23)) (.row (.slice (some ⟨w.heap.size,0,none⟩) vs.length vs.length) 23 1 vs.length vs :: .rows vs xss :: (H.eraseIdx k++F)):=by
  refine MemL.perm h2 ?_
  have e:Pc.rows vs xss :: (H.eraseIdx k++[Pc.row (.slice (some ⟨w.heap.size,0,none⟩) vs.length vs.length) 23 1 vs.length vs]++F)=Pc.rows vs xss :: (H.eraseIdx k++(Pc.row (.slice (some ⟨w.heap.size,0,none⟩) vs.length vs.length) 23 1 vs.length vs :: F)):=by simp
  rw [e]
  exact (List.Perm.swap _ _ _).trans (List.Perm.cons _ List.perm_middle.symm)
 exact h3.merge (e:=.mat (.slice (some ⟨w.heap.size,0,none⟩) vs.length vs.length) vs xss) ⟨h3.says (.row (.slice (some ⟨w.heap.size,0,none⟩) vs.length vs.length) 23 1 vs.length vs) (by simp),h3.says (.rows vs xss) (by simp)⟩ (fun b hb=>hb)
theorem Mem.fkC {k:Nat} {ok:Nat->Prop} {x:Sh} {A:Option Addr} {c:Nat} (h:Mem w0 w F H) (hk:H[k]?=some (.fk ok x (shc x A c))):x.f3.length<=c/\k31.C w A x.f3.length x.f3:=by
 obtain ⟨A3,c3,e,h1,h2⟩:=k31_open (Kd.FK_now (h.fk hk))
 have e2:(shc x A c)[3]?=([.int .i64 x.f0,.int .i64 x.f1,.int .i64 x.f2,.slice A3 x.f3.length c3]:List Value)[3]?:=by rw [<-e]
 simp only [shc,List.getElem?_cons_succ,List.getElem?_cons_zero,Option.some.injEq,Value.slice.injEq] at e2
 obtain ⟨rfl,_,rfl⟩:=e2
 exact ⟨h1,h2⟩
theorem Mem.tuck {R:List Pc} (h:Mem w0 w F (H++R)):Mem w0 w (H++F) R:=h.perm (by
 rw [<-List.append_assoc];exact List.Perm.append_right F List.perm_append_comm)
theorem Mem.untuck {R:List Pc} (h:Mem w0 w (H++F) R):Mem w0 w F (H++R):=h.perm (by
 rw [<-List.append_assoc];exact List.Perm.append_right F List.perm_append_comm)
theorem Mem.graph4 {v1 v2 v3 v4:Value} {l1 l2 l3 l4:List Int} (h:Mem w0 w F (H++[.row v1 3 1 l1.length (nums .i64 l1),.row v2 3 1 l2.length (nums .i64 l2),.row v3 3 1 l3.length (nums .i64 l3),.row v4 3 1 l4.length (nums .i64 l4)])) :
  ∃ b w2,w.heap.size=b/\w.alloc (.cells #[v1,v2,v3,v4] 23)=w2/\Mem w0 w2 F (H++[.mat (.slice (some ⟨b,0,none⟩) 4 4) [v1,v2,v3,v4] [l1,l2,l3,l4]]):=by
 have h1:=((((h.tuck.norows).join (k:=4) (j:=0) (xs:=l1) rfl rfl).join (k:=0) (j:=0) (xs:=l2) rfl rfl).join (k:=0) (j:=0) (xs:=l3) rfl rfl).join (k:=0) (j:=0) (xs:=l4) rfl rfl
 obtain ⟨b,w2,e1,e2,M⟩:=h1.litMat (k:=0) rfl (by simp)
 exact ⟨b,w2,e1,e2,Mem.untuck M⟩
theorem Mem.graph3 {v1 v2 v3:Value} {l1 l2 l3:List Int} (h:Mem w0 w F (H++[.row v1 3 1 l1.length (nums .i64 l1),.row v2 3 1 l2.length (nums .i64 l2),.row v3 3 1 l3.length (nums .i64 l3)])) :
  ∃ b w2,w.heap.size=b/\w.alloc (.cells #[v1,v2,v3] 23)=w2/\Mem w0 w2 F (H++[.mat (.slice (some ⟨b,0,none⟩) 3 3) [v1,v2,v3] [l1,l2,l3]]):=by
 have h1:=(((h.tuck.norows).join (k:=3) (j:=0) (xs:=l1) rfl rfl).join (k:=0) (j:=0) (xs:=l2) rfl rfl).join (k:=0) (j:=0) (xs:=l3) rfl rfl
 obtain ⟨b,w2,e1,e2,M⟩:=h1.litMat (k:=0) rfl (by simp)
 exact ⟨b,w2,e1,e2,Mem.untuck M⟩
end
end Go.Proofs.Ytfiiihpdekppiaa
end
section
namespace Go.Proofs.Ytfiiihpdekppiaa
open Go.RowKit Go.Proofs Go.Proofs.YtfiiihpdekppiaaW.PrintWords
open Go.ChangeMaps (setBlock heap_setBlock_same heap_setBlock_other)
open PShapeReducible (S31 k31 at_T31 rd_T31 S77 k77)
def sanA:List (List Int):=[[1,2],[3],[3],[]]
def sanB:List (List Int):=[[1],[2,3],[1],[]]
def sanC:List (List Int):=[[1,2],[2],[1]]
structure SanFacts (s t u x:S31):Prop where
 hs:StructIs sanA 0 s 0
 ht:StructIs sanB 0 t 0
 hx:StructIs sanC 0 x 50
 hu:StructIs sanC 8 u 0
 r1:RefCheckIs s sanA true
 r2:RefCheckIs t sanB true
 r3:RefCheckIs u sanC true
 c1:CheckIs s sanA true
 c2:CheckIs s sanB false
section
variable {w0 W : World} {F H : List Pc}
theorem Mem.rcheck {k j c n:Nat} {A A3:Option Addr} {vs:List Value} {g:List (List Int)} {ok:Nat->Prop} {x:S31} {b:Bool} (M:Mem w0 W F H) (hk:H[k]?=some (.mat (.slice A g.length c) vs g)) (hj:H[j]?=some (.fk ok x (shc x A3 n))) (h:RefCheckIs x g b) :
  Calls Try.prog 22 #[.agg #[.int .i64 x.f0,.int .i64 x.f1,.int .i64 x.f2,.slice A3 x.f3.length n],.agg #[.slice A g.length c]] W fun e w'=>e=.returned (.bool b)/\Mem w0 w' F H:=by
 obtain ⟨A',c',e,hc,hC⟩:=M.matC hk
 cases e
 obtain ⟨h1,h2⟩:=M.fkC hj
 refine (rcheck_any W A n c g x.f0 x.f1 x.f2 x.f3 b hC hc A3 h2 h1 (by cases x;exact h)).mono ?_
 rintro e w' ⟨rfl,hb⟩
 exact ⟨rfl,M.below hb⟩
theorem Mem.scheck {k j c n:Nat} {A A3:Option Addr} {vs:List Value} {g:List (List Int)} {ok:Nat->Prop} {x:S31} {b:Bool} (M:Mem w0 W F H) (hk:H[k]?=some (.mat (.slice A g.length c) vs g)) (hj:H[j]?=some (.fk ok x (shc x A3 n))) (h:CheckIs x g b) :
  Calls Try.prog 32 #[.agg #[.int .i64 x.f0,.int .i64 x.f1,.int .i64 x.f2,.slice A3 x.f3.length n],.agg #[.slice A g.length c]] W fun e w'=>e=.returned (.bool b)/\Mem w0 w' F H:=by
 obtain ⟨A',c',e,hc,hC⟩:=M.matC hk
 cases e
 obtain ⟨h1,h2⟩:=M.fkC hj
 refine (scheck_any W A n c g x.f0 x.f1 x.f2 x.f3 b hC hc A3 h2 h1 (by cases x;exact h)).mono ?_
 rintro e w' ⟨rfl,hb⟩
 exact ⟨rfl,M.below hb⟩
theorem Mem.struct {k c:Nat} {A:Option Addr} {vs:List Value} {g:List (List Int)} {x:S31} {budget err:Int} (M:Mem w0 W F H) (hk:H[k]?=some (.mat (.slice A g.length c) vs g)) (h:StructIs g budget x err) :
  Calls Try.prog 16 #[.agg #[.slice A g.length c],.int .i64 budget] W fun e w'=>∃ A3 n ok,e=.returned (.tuple #[.agg #[.int .i64 x.f0,.int .i64 x.f1,.int .i64 x.f2,.slice A3 x.f3.length n],.int .i64 err])/\Mem w0 w' F (H++[.fk ok x (shc x A3 n)]):=by
 obtain ⟨A',c',e,hc,hC⟩:=M.matC hk
 cases e
 refine (structure_any W A c g budget x err hC hc h).mono ?_
 rintro e w' ⟨A3,n,ok,rfl,hfk,hok,hb⟩
 exact ⟨A3,n,_,rfl,M.newfk hb hfk hok⟩
end
set_option maxRecDepth 100000 in
set_option maxHeartbeats 4000000 in
theorem sanity_any (s t u x:S31) (h:SanFacts s t u x) (w:World):Calls Try.prog 14 #[] w fun e w'=>e=.returned (.bool true)/\Below w.heap.size w w':=by
 have HH:=ak_ h
 clear h
 obtain ⟨ab0,aw0,az0,aa0,aM0⟩:=Mem.lit2 (Mem.start w) 1 2
 obtain ⟨ab1,aw1,az1,aa1,aM1⟩:=Mem.one (aM0) 3
 obtain ⟨ab2,aw2,az2,aa2,aM2⟩:=Mem.one (aM1) 3
 obtain ⟨ab3,aw3,az3,aa3,aM3⟩:=Mem.lit0 (aM2)
 obtain ⟨abm,awm,azm,aam,aMm⟩:=Mem.graph4 (H:=[]) (show Mem w _ [] ([]++[.row (.slice (some ⟨ab0,0,none⟩) 2 2) 3 1 ([1,2]:List Int).length (nums .i64 [1,2]),.row (.slice (some ⟨ab1,0,none⟩) 1 1) 3 1 ([3]:List Int).length (nums .i64 [3]),.row (.slice (some ⟨ab2,0,none⟩) 1 1) 3 1 ([3]:List Int).length (nums .i64 [3]),.row (.slice (some ⟨ab3,0,none⟩) 0 0) 3 1 ([]:List Int).length (nums .i64 [])]) from aM3)
 clear aM0 aM1 aM2 aM3
 obtain ⟨abg,awg,azg,aag,aMg⟩:=Mem.alloc (show Mem w _ [] ([]++[.mat (.slice (some ⟨abm,0,none⟩) 4 4) [.slice (some ⟨ab0,0,none⟩) 2 2,.slice (some ⟨ab1,0,none⟩) 1 1,.slice (some ⟨ab2,0,none⟩) 1 1,.slice (some ⟨ab3,0,none⟩) 0 0] [[1,2],[3],[3],[]]]) from aMm) (.cells #[.slice none 0 0] 27)
 have agf:=aMg.free (k:=1) (j:=0) rfl
 have agc:=aMg.cell (k:=1) (j:=0) rfl rfl
 obtain ⟨aws,aes,aMs⟩:=aMg.set (k:=1) 0 rfl (.slice (some ⟨abm,0,none⟩) 4 4)
 have agd:aws.cell? ⟨abg,0,none⟩=some (.slice (some ⟨abm,0,none⟩) 4 4):=aMs.cell (k:=1) (j:=0) rfl rfl
 have aMs:=ak_ (show Mem w aws [] [.mat (.slice (some ⟨abm,0,none⟩) 4 4) [.slice (some ⟨ab0,0,none⟩) 2 2,.slice (some ⟨ab1,0,none⟩) 1 1,.slice (some ⟨ab2,0,none⟩) 1 1,.slice (some ⟨ab3,0,none⟩) 0 0] [[1,2],[3],[3],[]],.blk abg (.cells #[.slice (some ⟨abm,0,none⟩) 4 4] 27 (0,0))] from aMs)
 clear aMm aMg
 go_enter Try.func14,Try.ntmps14
 go_wp2_with (fail)
 go_at_call 16
 refine (Mem.struct (g:=sanA) (c:=4) (k:=0) aMs.out rfl HH.out.hs).mono ?_
 rintro e sw ⟨sA,sn,sok,rfl,sM⟩
 obtain ⟨sbb,sw2,sz2,sa2,sM2⟩:=sM.alloc (.cells #[.int .i64 0,.int .i64 0,.int .i64 0,.slice none 0 0] 31)
 obtain ⟨sy1,sy2,sy3,sy4,⟨ss1,ss2,ss3,ss4⟩,⟨sc1,sc2,sc3,sc4⟩,⟨sf1,sf2,sf3,sf4⟩,sM3⟩:=sM2.fill4 (k:=3) rfl (.int .i64 s.f0) (.int .i64 s.f1) (.int .i64 s.f2) (.slice sA s.f3.length sn)
 have sMs:=ak_ (show Mem w sy4 [] [.mat (.slice (some ⟨abm,0,none⟩) 4 4) [.slice (some ⟨ab0,0,none⟩) 2 2,.slice (some ⟨ab1,0,none⟩) 1 1,.slice (some ⟨ab2,0,none⟩) 1 1,.slice (some ⟨ab3,0,none⟩) 0 0] [[1,2],[3],[3],[]],.blk abg (.cells #[.slice (some ⟨abm,0,none⟩) 4 4] 27 (0,0)),.fk sok s (shc s sA sn),.blk sbb (.cells #[.int .i64 s.f0,.int .i64 s.f1,.int .i64 s.f2,.slice sA s.f3.length sn] 31 (0,0))] from sM3)
 clear sM sM2 sM3
 obtain ⟨bb0,bw0,bz0,ba0,bM0⟩:=Mem.one (sMs.out) 1
 obtain ⟨bb1,bw1,bz1,ba1,bM1⟩:=Mem.lit2 (bM0) 2 3
 obtain ⟨bb2,bw2,bz2,ba2,bM2⟩:=Mem.one (bM1) 1
 obtain ⟨bb3,bw3,bz3,ba3,bM3⟩:=Mem.lit0 (bM2)
 obtain ⟨bbm,bwm,bzm,bam,bMm⟩:=Mem.graph4 (H:=[.mat (.slice (some ⟨abm,0,none⟩) 4 4) [.slice (some ⟨ab0,0,none⟩) 2 2,.slice (some ⟨ab1,0,none⟩) 1 1,.slice (some ⟨ab2,0,none⟩) 1 1,.slice (some ⟨ab3,0,none⟩) 0 0] [[1,2],[3],[3],[]],.blk abg (.cells #[.slice (some ⟨abm,0,none⟩) 4 4] 27 (0,0)),.fk sok s (shc s sA sn),.blk sbb (.cells #[.int .i64 s.f0,.int .i64 s.f1,.int .i64 s.f2,.slice sA s.f3.length sn] 31 (0,0))]) (show Mem w _ [] ([.mat (.slice (some ⟨abm,0,none⟩) 4 4) [.slice (some ⟨ab0,0,none⟩) 2 2,.slice (some ⟨ab1,0,none⟩) 1 1,.slice (some ⟨ab2,0,none⟩) 1 1,.slice (some ⟨ab3,0,none⟩) 0 0] [[1,2],[3],[3],[]],.blk abg (.cells #[.slice (some ⟨abm,0,none⟩) 4 4] 27 (0,0)),.fk sok s (shc s sA sn),.blk sbb (.cells #[.int .i64 s.f0,.int .i64 s.f1,.int .i64 s.f2,.slice sA s.f3.length sn] 31 (0,0))]++[.row (.slice (some ⟨bb0,0,none⟩) 1 1) 3 1 ([1]:List Int).length (nums .i64 [1]),.row (.slice (some ⟨bb1,0,none⟩) 2 2) 3 1 ([2,3]:List Int).length (nums .i64 [2,3]),.row (.slice (some ⟨bb2,0,none⟩) 1 1) 3 1 ([1]:List Int).length (nums .i64 [1]),.row (.slice (some ⟨bb3,0,none⟩) 0 0) 3 1 ([]:List Int).length (nums .i64 [])]) from bM3)
 clear bM0 bM1 bM2 bM3
 obtain ⟨bbg,bwg,bzg,bag,bMg⟩:=Mem.alloc (show Mem w _ [] ([.mat (.slice (some ⟨abm,0,none⟩) 4 4) [.slice (some ⟨ab0,0,none⟩) 2 2,.slice (some ⟨ab1,0,none⟩) 1 1,.slice (some ⟨ab2,0,none⟩) 1 1,.slice (some ⟨ab3,0,none⟩) 0 0] [[1,2],[3],[3],[]],.blk abg (.cells #[.slice (some ⟨abm,0,none⟩) 4 4] 27 (0,0)),.fk sok s (shc s sA sn),.blk sbb (.cells #[.int .i64 s.f0,.int .i64 s.f1,.int .i64 s.f2,.slice sA s.f3.length sn] 31 (0,0))]++[.mat (.slice (some ⟨bbm,0,none⟩) 4 4) [.slice (some ⟨bb0,0,none⟩) 1 1,.slice (some ⟨bb1,0,none⟩) 2 2,.slice (some ⟨bb2,0,none⟩) 1 1,.slice (some ⟨bb3,0,none⟩) 0 0] [[1],[2,3],[1],[]]]) from bMm) (.cells #[.slice none 0 0] 27)
 have bgf:=bMg.free (k:=5) (j:=0) rfl
 have bgc:=bMg.cell (k:=5) (j:=0) rfl rfl
 obtain ⟨bws,bes,bMs⟩:=bMg.set (k:=5) 0 rfl (.slice (some ⟨bbm,0,none⟩) 4 4)
 have bgd:bws.cell? ⟨bbg,0,none⟩=some (.slice (some ⟨bbm,0,none⟩) 4 4):=bMs.cell (k:=5) (j:=0) rfl rfl
 have bMs:=ak_ (show Mem w bws [] [.mat (.slice (some ⟨abm,0,none⟩) 4 4) [.slice (some ⟨ab0,0,none⟩) 2 2,.slice (some ⟨ab1,0,none⟩) 1 1,.slice (some ⟨ab2,0,none⟩) 1 1,.slice (some ⟨ab3,0,none⟩) 0 0] [[1,2],[3],[3],[]],.blk abg (.cells #[.slice (some ⟨abm,0,none⟩) 4 4] 27 (0,0)),.fk sok s (shc s sA sn),.blk sbb (.cells #[.int .i64 s.f0,.int .i64 s.f1,.int .i64 s.f2,.slice sA s.f3.length sn] 31 (0,0)),.mat (.slice (some ⟨bbm,0,none⟩) 4 4) [.slice (some ⟨bb0,0,none⟩) 1 1,.slice (some ⟨bb1,0,none⟩) 2 2,.slice (some ⟨bb2,0,none⟩) 1 1,.slice (some ⟨bb3,0,none⟩) 0 0] [[1],[2,3],[1],[]],.blk bbg (.cells #[.slice (some ⟨bbm,0,none⟩) 4 4] 27 (0,0))] from bMs)
 clear bMm bMg
 dsimp only
 go_wp2_with (fail)
 go_at_call 16
 refine (Mem.struct (g:=sanB) (c:=4) (k:=4) bMs.out rfl HH.out.ht).mono ?_
 rintro e tw ⟨tA,tn,tok,rfl,tM⟩
 obtain ⟨tbb,tw2,tz2,ta2,tM2⟩:=tM.alloc (.cells #[.int .i64 0,.int .i64 0,.int .i64 0,.slice none 0 0] 31)
 obtain ⟨ty1,ty2,ty3,ty4,⟨ts1,ts2,ts3,ts4⟩,⟨tc1,tc2,tc3,tc4⟩,⟨tf1,tf2,tf3,tf4⟩,tM3⟩:=tM2.fill4 (k:=7) rfl (.int .i64 t.f0) (.int .i64 t.f1) (.int .i64 t.f2) (.slice tA t.f3.length tn)
 have tMs:=ak_ (show Mem w ty4 [] [.mat (.slice (some ⟨abm,0,none⟩) 4 4) [.slice (some ⟨ab0,0,none⟩) 2 2,.slice (some ⟨ab1,0,none⟩) 1 1,.slice (some ⟨ab2,0,none⟩) 1 1,.slice (some ⟨ab3,0,none⟩) 0 0] [[1,2],[3],[3],[]],.blk abg (.cells #[.slice (some ⟨abm,0,none⟩) 4 4] 27 (0,0)),.fk sok s (shc s sA sn),.blk sbb (.cells #[.int .i64 s.f0,.int .i64 s.f1,.int .i64 s.f2,.slice sA s.f3.length sn] 31 (0,0)),.mat (.slice (some ⟨bbm,0,none⟩) 4 4) [.slice (some ⟨bb0,0,none⟩) 1 1,.slice (some ⟨bb1,0,none⟩) 2 2,.slice (some ⟨bb2,0,none⟩) 1 1,.slice (some ⟨bb3,0,none⟩) 0 0] [[1],[2,3],[1],[]],.blk bbg (.cells #[.slice (some ⟨bbm,0,none⟩) 4 4] 27 (0,0)),.fk tok t (shc t tA tn),.blk tbb (.cells #[.int .i64 t.f0,.int .i64 t.f1,.int .i64 t.f2,.slice tA t.f3.length tn] 31 (0,0))] from tM3)
 clear tM tM2 tM3
 obtain ⟨cb0,cw0,cz0,ca0,cM0⟩:=Mem.lit2 (tMs.out) 1 2
 obtain ⟨cb1,cw1,cz1,ca1,cM1⟩:=Mem.one (cM0) 2
 obtain ⟨cb2,cw2,cz2,ca2,cM2⟩:=Mem.one (cM1) 1
 obtain ⟨cbm,cwm,czm,cam,cMm⟩:=Mem.graph3 (H:=[.mat (.slice (some ⟨abm,0,none⟩) 4 4) [.slice (some ⟨ab0,0,none⟩) 2 2,.slice (some ⟨ab1,0,none⟩) 1 1,.slice (some ⟨ab2,0,none⟩) 1 1,.slice (some ⟨ab3,0,none⟩) 0 0] [[1,2],[3],[3],[]],.blk abg (.cells #[.slice (some ⟨abm,0,none⟩) 4 4] 27 (0,0)),.fk sok s (shc s sA sn),.blk sbb (.cells #[.int .i64 s.f0,.int .i64 s.f1,.int .i64 s.f2,.slice sA s.f3.length sn] 31 (0,0)),.mat (.slice (some ⟨bbm,0,none⟩) 4 4) [.slice (some ⟨bb0,0,none⟩) 1 1,.slice (some ⟨bb1,0,none⟩) 2 2,.slice (some ⟨bb2,0,none⟩) 1 1,.slice (some ⟨bb3,0,none⟩) 0 0] [[1],[2,3],[1],[]],.blk bbg (.cells #[.slice (some ⟨bbm,0,none⟩) 4 4] 27 (0,0)),.fk tok t (shc t tA tn),.blk tbb (.cells #[.int .i64 t.f0,.int .i64 t.f1,.int .i64 t.f2,.slice tA t.f3.length tn] 31 (0,0))]) (show Mem w _ [] ([.mat (.slice (some ⟨abm,0,none⟩) 4 4) [.slice (some ⟨ab0,0,none⟩) 2 2,.slice (some ⟨ab1,0,none⟩) 1 1,.slice (some ⟨ab2,0,none⟩) 1 1,.slice (some ⟨ab3,0,none⟩) 0 0] [[1,2],[3],[3],[]],.blk abg (.cells #[.slice (some ⟨abm,0,none⟩) 4 4] 27 (0,0)),.fk sok s (shc s sA sn),.blk sbb (.cells #[.int .i64 s.f0,.int .i64 s.f1,.int .i64 s.f2,.slice sA s.f3.length sn] 31 (0,0)),.mat (.slice (some ⟨bbm,0,none⟩) 4 4) [.slice (some ⟨bb0,0,none⟩) 1 1,.slice (some ⟨bb1,0,none⟩) 2 2,.slice (some ⟨bb2,0,none⟩) 1 1,.slice (some ⟨bb3,0,none⟩) 0 0] [[1],[2,3],[1],[]],.blk bbg (.cells #[.slice (some ⟨bbm,0,none⟩) 4 4] 27 (0,0)),.fk tok t (shc t tA tn),.blk tbb (.cells #[.int .i64 t.f0,.int .i64 t.f1,.int .i64 t.f2,.slice tA t.f3.length tn] 31 (0,0))]++[.row (.slice (some ⟨cb0,0,none⟩) 2 2) 3 1 ([1,2]:List Int).length (nums .i64 [1,2]),.row (.slice (some ⟨cb1,0,none⟩) 1 1) 3 1 ([2]:List Int).length (nums .i64 [2]),.row (.slice (some ⟨cb2,0,none⟩) 1 1) 3 1 ([1]:List Int).length (nums .i64 [1])]) from cM2)
 clear cM0 cM1 cM2
 obtain ⟨cbg,cwg,czg,cag,cMg⟩:=Mem.alloc (show Mem w _ [] ([.mat (.slice (some ⟨abm,0,none⟩) 4 4) [.slice (some ⟨ab0,0,none⟩) 2 2,.slice (some ⟨ab1,0,none⟩) 1 1,.slice (some ⟨ab2,0,none⟩) 1 1,.slice (some ⟨ab3,0,none⟩) 0 0] [[1,2],[3],[3],[]],.blk abg (.cells #[.slice (some ⟨abm,0,none⟩) 4 4] 27 (0,0)),.fk sok s (shc s sA sn),.blk sbb (.cells #[.int .i64 s.f0,.int .i64 s.f1,.int .i64 s.f2,.slice sA s.f3.length sn] 31 (0,0)),.mat (.slice (some ⟨bbm,0,none⟩) 4 4) [.slice (some ⟨bb0,0,none⟩) 1 1,.slice (some ⟨bb1,0,none⟩) 2 2,.slice (some ⟨bb2,0,none⟩) 1 1,.slice (some ⟨bb3,0,none⟩) 0 0] [[1],[2,3],[1],[]],.blk bbg (.cells #[.slice (some ⟨bbm,0,none⟩) 4 4] 27 (0,0)),.fk tok t (shc t tA tn),.blk tbb (.cells #[.int .i64 t.f0,.int .i64 t.f1,.int .i64 t.f2,.slice tA t.f3.length tn] 31 (0,0))]++[.mat (.slice (some ⟨cbm,0,none⟩) 3 3) [.slice (some ⟨cb0,0,none⟩) 2 2,.slice (some ⟨cb1,0,none⟩) 1 1,.slice (some ⟨cb2,0,none⟩) 1 1] [[1,2],[2],[1]]]) from cMm) (.cells #[.slice none 0 0] 27)
 have cgf:=cMg.free (k:=9) (j:=0) rfl
 have cgc:=cMg.cell (k:=9) (j:=0) rfl rfl
 obtain ⟨cws,ces,cMs⟩:=cMg.set (k:=9) 0 rfl (.slice (some ⟨cbm,0,none⟩) 3 3)
 have cgd:cws.cell? ⟨cbg,0,none⟩=some (.slice (some ⟨cbm,0,none⟩) 3 3):=cMs.cell (k:=9) (j:=0) rfl rfl
 have cMs:=ak_ (show Mem w cws [] [.mat (.slice (some ⟨abm,0,none⟩) 4 4) [.slice (some ⟨ab0,0,none⟩) 2 2,.slice (some ⟨ab1,0,none⟩) 1 1,.slice (some ⟨ab2,0,none⟩) 1 1,.slice (some ⟨ab3,0,none⟩) 0 0] [[1,2],[3],[3],[]],.blk abg (.cells #[.slice (some ⟨abm,0,none⟩) 4 4] 27 (0,0)),.fk sok s (shc s sA sn),.blk sbb (.cells #[.int .i64 s.f0,.int .i64 s.f1,.int .i64 s.f2,.slice sA s.f3.length sn] 31 (0,0)),.mat (.slice (some ⟨bbm,0,none⟩) 4 4) [.slice (some ⟨bb0,0,none⟩) 1 1,.slice (some ⟨bb1,0,none⟩) 2 2,.slice (some ⟨bb2,0,none⟩) 1 1,.slice (some ⟨bb3,0,none⟩) 0 0] [[1],[2,3],[1],[]],.blk bbg (.cells #[.slice (some ⟨bbm,0,none⟩) 4 4] 27 (0,0)),.fk tok t (shc t tA tn),.blk tbb (.cells #[.int .i64 t.f0,.int .i64 t.f1,.int .i64 t.f2,.slice tA t.f3.length tn] 31 (0,0)),.mat (.slice (some ⟨cbm,0,none⟩) 3 3) [.slice (some ⟨cb0,0,none⟩) 2 2,.slice (some ⟨cb1,0,none⟩) 1 1,.slice (some ⟨cb2,0,none⟩) 1 1] [[1,2],[2],[1]],.blk cbg (.cells #[.slice (some ⟨cbm,0,none⟩) 3 3] 27 (0,0))] from cMs)
 clear cMm cMg
 dsimp only
 go_wp2_with (fail)
 go_at_call 16
 refine (Mem.struct (g:=sanC) (c:=3) (k:=8) cMs.out rfl HH.out.hx).mono ?_
 rintro e xw ⟨xA,xn,xok,rfl,xM⟩
 obtain ⟨xbb,xw2,xz2,xa2,xM2⟩:=xM.alloc (.cells #[.int .i64 0,.int .i64 0,.int .i64 0,.slice none 0 0] 31)
 obtain ⟨xy1,xy2,xy3,xy4,⟨xs1,xs2,xs3,xs4⟩,⟨xc1,xc2,xc3,xc4⟩,⟨xf1,xf2,xf3,xf4⟩,xM3⟩:=xM2.fill4 (k:=11) rfl (.int .i64 x.f0) (.int .i64 x.f1) (.int .i64 x.f2) (.slice xA x.f3.length xn)
 have xMs:=ak_ (show Mem w xy4 [] [.mat (.slice (some ⟨abm,0,none⟩) 4 4) [.slice (some ⟨ab0,0,none⟩) 2 2,.slice (some ⟨ab1,0,none⟩) 1 1,.slice (some ⟨ab2,0,none⟩) 1 1,.slice (some ⟨ab3,0,none⟩) 0 0] [[1,2],[3],[3],[]],.blk abg (.cells #[.slice (some ⟨abm,0,none⟩) 4 4] 27 (0,0)),.fk sok s (shc s sA sn),.blk sbb (.cells #[.int .i64 s.f0,.int .i64 s.f1,.int .i64 s.f2,.slice sA s.f3.length sn] 31 (0,0)),.mat (.slice (some ⟨bbm,0,none⟩) 4 4) [.slice (some ⟨bb0,0,none⟩) 1 1,.slice (some ⟨bb1,0,none⟩) 2 2,.slice (some ⟨bb2,0,none⟩) 1 1,.slice (some ⟨bb3,0,none⟩) 0 0] [[1],[2,3],[1],[]],.blk bbg (.cells #[.slice (some ⟨bbm,0,none⟩) 4 4] 27 (0,0)),.fk tok t (shc t tA tn),.blk tbb (.cells #[.int .i64 t.f0,.int .i64 t.f1,.int .i64 t.f2,.slice tA t.f3.length tn] 31 (0,0)),.mat (.slice (some ⟨cbm,0,none⟩) 3 3) [.slice (some ⟨cb0,0,none⟩) 2 2,.slice (some ⟨cb1,0,none⟩) 1 1,.slice (some ⟨cb2,0,none⟩) 1 1] [[1,2],[2],[1]],.blk cbg (.cells #[.slice (some ⟨cbm,0,none⟩) 3 3] 27 (0,0)),.fk xok x (shc x xA xn),.blk xbb (.cells #[.int .i64 x.f0,.int .i64 x.f1,.int .i64 x.f2,.slice xA x.f3.length xn] 31 (0,0))] from xM3)
 clear xM xM2 xM3
 have cgd2:xy4.cell? ⟨cbg,0,none⟩=some (.slice (some ⟨cbm,0,none⟩) 3 3):=xMs.out.cell (k:=9) (j:=0) rfl rfl
 dsimp only
 go_wp2_with (fail)
 go_at_call 16
 refine (Mem.struct (g:=sanC) (c:=3) (k:=8) xMs.out rfl HH.out.hu).mono ?_
 rintro e uw ⟨uA,un,uok,rfl,uM⟩
 obtain ⟨ubb,uw2,uz2,ua2,uM2⟩:=uM.alloc (.cells #[.int .i64 0,.int .i64 0,.int .i64 0,.slice none 0 0] 31)
 obtain ⟨uy1,uy2,uy3,uy4,⟨us1,us2,us3,us4⟩,⟨uc1,uc2,uc3,uc4⟩,⟨uf1,uf2,uf3,uf4⟩,uM3⟩:=uM2.fill4 (k:=13) rfl (.int .i64 u.f0) (.int .i64 u.f1) (.int .i64 u.f2) (.slice uA u.f3.length un)
 have uMs:=ak_ (show Mem w uy4 [] [.mat (.slice (some ⟨abm,0,none⟩) 4 4) [.slice (some ⟨ab0,0,none⟩) 2 2,.slice (some ⟨ab1,0,none⟩) 1 1,.slice (some ⟨ab2,0,none⟩) 1 1,.slice (some ⟨ab3,0,none⟩) 0 0] [[1,2],[3],[3],[]],.blk abg (.cells #[.slice (some ⟨abm,0,none⟩) 4 4] 27 (0,0)),.fk sok s (shc s sA sn),.blk sbb (.cells #[.int .i64 s.f0,.int .i64 s.f1,.int .i64 s.f2,.slice sA s.f3.length sn] 31 (0,0)),.mat (.slice (some ⟨bbm,0,none⟩) 4 4) [.slice (some ⟨bb0,0,none⟩) 1 1,.slice (some ⟨bb1,0,none⟩) 2 2,.slice (some ⟨bb2,0,none⟩) 1 1,.slice (some ⟨bb3,0,none⟩) 0 0] [[1],[2,3],[1],[]],.blk bbg (.cells #[.slice (some ⟨bbm,0,none⟩) 4 4] 27 (0,0)),.fk tok t (shc t tA tn),.blk tbb (.cells #[.int .i64 t.f0,.int .i64 t.f1,.int .i64 t.f2,.slice tA t.f3.length tn] 31 (0,0)),.mat (.slice (some ⟨cbm,0,none⟩) 3 3) [.slice (some ⟨cb0,0,none⟩) 2 2,.slice (some ⟨cb1,0,none⟩) 1 1,.slice (some ⟨cb2,0,none⟩) 1 1] [[1,2],[2],[1]],.blk cbg (.cells #[.slice (some ⟨cbm,0,none⟩) 3 3] 27 (0,0)),.fk xok x (shc x xA xn),.blk xbb (.cells #[.int .i64 x.f0,.int .i64 x.f1,.int .i64 x.f2,.slice xA x.f3.length xn] 31 (0,0)),.fk uok u (shc u uA un),.blk ubb (.cells #[.int .i64 u.f0,.int .i64 u.f1,.int .i64 u.f2,.slice uA u.f3.length un] 31 (0,0))] from uM3)
 clear uM uM2 uM3
 have ps0:=uMs.out.cell (k:=3) (j:=0) rfl rfl
 have ps1:=uMs.out.cell (k:=3) (j:=1) rfl rfl
 have ps2:=uMs.out.cell (k:=3) (j:=2) rfl rfl
 have ps3:=uMs.out.cell (k:=3) (j:=3) rfl rfl
 have pag:=uMs.out.cell (k:=1) (j:=0) rfl rfl
 dsimp only
 go_wp2_with (fail)
 go_at_call 22
 refine (Mem.rcheck (g:=sanA) (c:=4) (k:=0) (j:=2) uMs.out rfl rfl HH.out.r1).mono ?_
 rintro e v1 ⟨rfl,M1⟩
 have M1:=ak_ M1
 have qt0:=M1.out.cell (k:=7) (j:=0) rfl rfl
 have qt1:=M1.out.cell (k:=7) (j:=1) rfl rfl
 have qt2:=M1.out.cell (k:=7) (j:=2) rfl rfl
 have qt3:=M1.out.cell (k:=7) (j:=3) rfl rfl
 have qbg:=M1.out.cell (k:=5) (j:=0) rfl rfl
 dsimp only
 go_wp2_with (fail)
 go_at_call 22
 refine (Mem.rcheck (g:=sanB) (c:=4) (k:=4) (j:=6) M1.out rfl rfl HH.out.r2).mono ?_
 rintro e v2 ⟨rfl,M2⟩
 have M2:=ak_ M2
 have ru0:=M2.out.cell (k:=13) (j:=0) rfl rfl
 have ru1:=M2.out.cell (k:=13) (j:=1) rfl rfl
 have ru2:=M2.out.cell (k:=13) (j:=2) rfl rfl
 have ru3:=M2.out.cell (k:=13) (j:=3) rfl rfl
 have rcg:=M2.out.cell (k:=9) (j:=0) rfl rfl
 dsimp only
 go_wp2_with (fail)
 go_at_call 22
 refine (Mem.rcheck (g:=sanC) (c:=3) (k:=8) (j:=12) M2.out rfl rfl HH.out.r3).mono ?_
 rintro e v3 ⟨rfl,M3⟩
 have M3:=ak_ M3
 have is0:=M3.out.cell (k:=3) (j:=0) rfl rfl
 have is1:=M3.out.cell (k:=3) (j:=1) rfl rfl
 have is2:=M3.out.cell (k:=3) (j:=2) rfl rfl
 have is3:=M3.out.cell (k:=3) (j:=3) rfl rfl
 have iag:=M3.out.cell (k:=1) (j:=0) rfl rfl
 dsimp only
 go_wp2_with (fail)
 go_at_call 32
 refine (Mem.scheck (g:=sanA) (c:=4) (k:=0) (j:=2) M3.out rfl rfl HH.out.c1).mono ?_
 rintro e v4 ⟨rfl,M4⟩
 have M4:=ak_ M4
 have js0:=M4.out.cell (k:=3) (j:=0) rfl rfl
 have js1:=M4.out.cell (k:=3) (j:=1) rfl rfl
 have js2:=M4.out.cell (k:=3) (j:=2) rfl rfl
 have js3:=M4.out.cell (k:=3) (j:=3) rfl rfl
 have jbg:=M4.out.cell (k:=5) (j:=0) rfl rfl
 dsimp only
 go_wp2_with (fail)
 go_at_call 32
 refine (Mem.scheck (g:=sanB) (c:=4) (k:=4) (j:=2) M4.out rfl rfl HH.out.c2).mono ?_
 rintro e v5 ⟨rfl,M5⟩
 have M5:=ak_ M5
 dsimp only
 go_wp2_with (fail)
 go_ret
 exact ⟨rfl,M5.out.hb⟩
end Go.Proofs.Ytfiiihpdekppiaa
end
section
namespace Go.Proofs.Ytfiiihpdekppiaa
open Go.RowKit Go.Proofs Go.Proofs.YtfiiihpdekppiaaW.PrintWords
open PShapeReducible (S31 S77)
def fitG (g:List (List Int)):Prop:=ValidG g/\0 < g.length/\g.length<=1000000/\∀ l∈g,l.length<=1000000000
instance (g:List (List Int)):Decidable (fitG g):=inferInstanceAs (Decidable (ValidG g/\0 < g.length/\g.length<=1000000/\∀ l∈g,l.length<=1000000000))
def domE (k:Nat) (g:List (List Int)):Option (List Int × List (Int × Int) × List (List Int) × List Int) :=
 if fitG g then
  (orderF k g).bind fun r=>(viewLoop g r 0 [] (List.replicate g.length [])).bind fun q=>(domsF k r q.1 q.2 g.length).bind fun d =>
   if r.length<=1000000/\0 < r.length/\q.2.length=g.length/\d.length=g.length/\∀ y∈r,0<=y/\y < d.length then some (r,q.1,q.2,d) else none
 else none
theorem domE_is {k:Nat} {g:List (List Int)} {r:List Int} {m:List (Int × Int)} {p:List (List Int)} {d:List Int} (h:domE k g=some (r,m,p,d)):fitG g/\DomIs g r m p d/\r.length<=1000000/\∀ y∈r,0<=y/\y < d.length:=by
 unfold domE at h
 split at h
 ·next hf =>
  obtain ⟨r',h1,h⟩:=Option.bind_eq_some_iff.1 h
  obtain ⟨q,h2,h⟩:=Option.bind_eq_some_iff.1 h
  obtain ⟨d',h3,h⟩:=Option.bind_eq_some_iff.1 h
  split at h
  ·next hc =>
   injection h with h
   injection h with e1 h
   injection h with e2 h
   injection h with e3 e4
   subst e1 e2 e3 e4
   obtain ⟨c1,c2,c3,c4,c5⟩:=hc
   have hv:=valid_is g (by have:=hf.2.2.1;omega) hf.2.2.2
   rw [decide_eq_true (show ValidG g/\0 < g.length from ⟨hf.1,hf.2.1⟩)] at hv
   exact ⟨hf,⟨⟨⟨hf.2.1,hf.2.2.1,hv,⟨k,h1⟩,reverse_is r' (by omega)⟩,h2,c3⟩,c2,c4,⟨k,h3⟩⟩,c1,c5⟩
  ·cases h
 ·cases h
def buildE (k:Nat) (succ:List (List Int)) (node:List Int):Option S31 :=
 (domE k succ).bind fun q=>(edgesF succ (posF q.1 0 []) q.1 ([],[])).bind fun le =>
  let M:=mergeF le.2 (q.2.2.2.set 0 (-1)) q.1.reverse ([],[])
  (bF ⟨succ,node,posF q.1 0 [],M.2,M.1⟩ k (.tree 0) ⟨le.1,[],0⟩).map (·.1)
theorem buildE_is {k:Nat} {succ:List (List Int)} {node:List Int} {x:S31} (h:buildE k succ node=some x):BuildIs succ node x:=by
 unfold buildE at h
 obtain ⟨⟨r,m,p,d⟩,h1,h⟩:=Option.bind_eq_some_iff.1 h
 obtain ⟨⟨l,e⟩,h2,h⟩:=Option.bind_eq_some_iff.1 h
 obtain ⟨⟨x',s9⟩,h3,h4⟩:=Option.map_eq_some_iff.1 h
 dsimp only at h2 h3 h4
 subst h4
 obtain ⟨hf,hd,h5,h6⟩:=domE_is h1
 exact ⟨r,d.set 0 (-1),l,e,k,s9,hd.1.1,⟨r,m,p,d,hd,rfl⟩,h5,h2,fun y hy=>by rw [List.length_set];exact h6 y hy,h3⟩
def structE (k:Nat) (g:List (List Int)) (budget:Int):Option (S31 × Int) :=
 (domE k g).bind fun q=>(redOut k g q.2.1 q.2.2.2 q.1).bind fun b =>
  if b=true then (buildE k g (rangeI g.length)).map fun x=>(x,0)
  else (splitG isort k ⟨g,rangeI g.length,0,max budget 0⟩ (setF (-1) q.1 [])).bind fun t =>
   match t with
   | none=>some (⟨0,0,0,[]⟩,50)
   | some s=>(buildE k s.succ s.node).map fun x=>(x,0)
theorem structE_is {k:Nat} {g:List (List Int)} {budget:Int} {x:S31} {err:Int} (h:structE k g budget=some (x,err)):StructIs g budget x err:=by
 unfold structE at h
 obtain ⟨⟨r,m,p,d⟩,h1,h⟩:=Option.bind_eq_some_iff.1 h
 obtain ⟨b,h2,h⟩:=Option.bind_eq_some_iff.1 h
 dsimp only at h2 h
 obtain ⟨hf,hd,h5,h6⟩:=domE_is h1
 refine .inr ⟨hd.1.1.2.2.1,⟨hf.2.2.1,hf.2.2.2⟩,?_⟩
 cases b with
 | true =>
  rw [if_pos rfl] at h
  obtain ⟨x',h3,h4⟩:=Option.map_eq_some_iff.1 h
  injection h4 with h4 h5
  subst h4 h5
  exact .inl ⟨.inr ⟨r,m,p,d,k,hd,h2⟩,buildE_is h3,rfl⟩
 | false =>
  rw [if_neg (by decide)] at h
  obtain ⟨t,h3,h4⟩:=Option.bind_eq_some_iff.1 h
  rw [<-split_eval] at h3
  refine .inr ⟨.inr ⟨r,m,p,d,k,hd,h2⟩,r,k,t,hd.1.1,h3,?_⟩
  cases t with
  | none =>
   injection h4 with h4
   injection h4 with h4 h5
   exact .inl ⟨rfl,h4.symm,h5.symm⟩
  | some s =>
   obtain ⟨x',h6,h7⟩:=Option.map_eq_some_iff.1 h4
   injection h7 with h7 h8
   subst h7 h8
   exact .inr ⟨s,rfl,buildE_is h6,rfl⟩
theorem refValid_l1 (g:List (List Int)) (b:Bool) (x3:Int) (h3:0<=x3/\x3 < g.length) (l:List Int) (hl:l=g.getD x3.toNat []) (hll:l.length<=1000000000)
  (hbad:(∃ s∈l,¬ (0<=s/\s < g.length))->b=false) (hgood:(∀ s∈l,0<=s/\s < g.length)->∃ k,PShapeReducible.vellumref06_Valid.l0 k (wrap64 (x3+1)) g=some b) :
  ∀ (m i:Nat),i+m=l.length->(∀ j,j < i->0<=l.getD j 0/\l.getD j 0 < g.length)->∃ k,PShapeReducible.vellumref06_Valid.l1 k x3 i g=some b
 | 0,i,hi,hj=>by
  obtain ⟨k,hk⟩:=hgood (fun s hs=>by
   obtain ⟨j,hjj⟩:=List.mem_iff_getElem?.1 hs
   have:=(List.getElem?_eq_some_iff.1 hjj).1
   have h1:=hj j (by omega)
   rw [List.getD_eq_getElem?_getD,hjj] at h1
   exact h1)
  have e2:PShapeReducible.rd_L1 g x3=l:=hl.symm
  refine ⟨k+1,?_⟩
  rw [PShapeReducible.vellumref06_Valid.l1,if_pos h3.1,if_pos h3.2,e2,if_neg (by omega)]
  exact hk
 | m+1,i,hi,hj=>by
  have hget:l.getD i 0∈l:=by rw [List.getD_eq_getElem?_getD,List.getElem?_eq_getElem (by omega)];exact List.getElem_mem _
  have e:rd l (i:Int)=l.getD i 0:=rfl
  have e2:PShapeReducible.rd_L1 g x3=l:=hl.symm
  by_cases h1:0<=l.getD i 0/\l.getD i 0 < g.length
  ·obtain ⟨k,hk⟩:=refValid_l1 g b x3 h3 l hl hll hbad hgood m (i+1) (by omega) (fun j hjj=>by
    by_cases h:j < i
    ·exact hj j h
    ·have:j=i:=by omega
     rw [this];exact h1)
   refine ⟨k+1,?_⟩
   rw [PShapeReducible.vellumref06_Valid.l1,if_pos h3.1,if_pos h3.2,e2,if_pos (by omega),if_pos (by omega),e,if_neg (by omega),if_neg (by omega),wrap64_in (by omega) (by omega)]
   exact hk
  ·have hb:=hbad ⟨_,hget,h1⟩
   refine ⟨1,?_⟩
   rw [PShapeReducible.vellumref06_Valid.l1,if_pos h3.1,if_pos h3.2,e2,if_pos (by omega),if_pos (by omega),e,hb]
   by_cases h2:l.getD i 0 < 0
   ·rw [if_pos h2]
   ·rw [if_neg h2,if_pos (by omega)]
theorem refValid_l0 (g:List (List Int)) (hg:g.length<=1000000000) (hr:∀ l∈g,l.length<=1000000000) (b:Bool) (hb:b=decide (ValidG g/\0 < g.length)) :
  ∀ (m i:Nat),i+m=g.length->(∀ j,j < i->∀ s∈g.getD j [],0<=s/\s < g.length)->∃ k,PShapeReducible.vellumref06_Valid.l0 k i g=some b
 | 0,i,hi,hj=>by
  refine ⟨1,?_⟩
  rw [PShapeReducible.vellumref06_Valid.l0,if_neg (by omega),hb]
  have hv:ValidG g:=fun l hl s hs=>by
   obtain ⟨j,hjj⟩:=List.mem_iff_getElem?.1 hl
   have:=(List.getElem?_eq_some_iff.1 hjj).1
   have h1:=hj j (by omega) s
   rw [List.getD_eq_getElem?_getD,hjj] at h1
   exact h1 hs
  congr 1
  simp [hv]
 | m+1,i,hi,hj=>by
  have hmem:g.getD i []∈g:=by rw [List.getD_eq_getElem?_getD,List.getElem?_eq_getElem (by omega)];exact List.getElem_mem _
  obtain ⟨k,hk⟩:=refValid_l1 g b i (by omega) (g.getD i []) rfl (hr _ hmem) (by
    rintro ⟨s,hs,hn⟩
    rw [hb]
    exact decide_eq_false (fun h=>hn (h.1 _ hmem s hs))) (by
    intro h
    rw [wrap64_in (by omega) (by omega)]
    exact refValid_l0 g hg hr b hb m (i+1) (by omega) (fun j hjj=>by
     by_cases h':j < i
     ·exact hj j h'
     ·have:j=i:=by omega
      rw [this];exact h)) (g.getD i []).length 0 (by omega) (by omega)
  refine ⟨k+1,?_⟩
  rw [PShapeReducible.vellumref06_Valid.l0,if_pos (by omega)]
  exact hk
theorem refValid_is (g:List (List Int)) (hg:g.length<=1000000000) (hr:∀ l∈g,l.length<=1000000000):RefValidIs g (decide (ValidG g/\0 < g.length)) :=
 refValid_l0 g hg hr _ rfl g.length 0 (by omega) (by omega)
def refCheckE (k:Nat) (s:S31) (g:List (List Int)):Option Bool :=
 if fitG g/\szL s.f3<=100000000 then rCheckS ((compileF g s).map Stp.s77) g k else none
theorem refCheckE_is {k:Nat} {s:S31} {g:List (List Int)} {b:Bool} (h:refCheckE k s g=some b):RefCheckIs s g b:=by
 unfold refCheckE at h
 split at h
 ·next hc =>
  have hv:=refValid_is g (by have:=hc.1.2.2.1;omega) hc.1.2.2.2
  rw [decide_eq_true (show ValidG g/\0 < g.length from ⟨hc.1.1,hc.1.2.1⟩)] at hv
  exact .inr ⟨hv,by have:=hc.1.2.2.1;omega,hc.2,k,h⟩
 ·cases h
def checkE (k:Nat) (s:S31) (g:List (List Int)):Option Bool :=
 if fitG g/\szL s.f3<=100000000 then (if (kRun g s).1=true then kCheckS (kPts g s) g k else some false) else none
theorem checkE_is {k:Nat} {s:S31} {g:List (List Int)} {b:Bool} (h:checkE k s g=some b):CheckIs s g b:=by
 unfold checkE at h
 split at h
 ·next hc =>
  have hv:=valid_is g (by have:=hc.1.2.2.1;omega) hc.1.2.2.2
  rw [decide_eq_true (show ValidG g/\0 < g.length from ⟨hc.1.1,hc.1.2.1⟩)] at hv
  refine .inr ⟨hv,by have:=hc.1.2.2.1;omega,hc.2,?_⟩
  split at h
  ·next h1=>exact .inr ⟨h1,k,h⟩
  ·next h1=>injection h with h;exact .inl ⟨by simpa using h1,h.symm⟩
 ·cases h
def sanS:S31:=⟨1,0,0,[⟨4,0,0,[⟨2,0,0,[⟨2,1,0,[⟨5,0,0,[]⟩]⟩,⟨2,2,0,[⟨5,0,0,[]⟩]⟩]⟩]⟩,⟨2,3,0,[]⟩]⟩
def sanT:S31:=⟨2,0,0,[⟨3,0,0,[⟨2,1,0,[⟨2,2,0,[⟨6,0,0,[]⟩]⟩,⟨2,3,0,[]⟩]⟩]⟩]⟩
def sanU:S31:=⟨1,0,0,[⟨4,0,0,[⟨2,0,0,[⟨5,0,0,[]⟩,⟨2,2,0,[⟨5,0,0,[]⟩]⟩]⟩]⟩,⟨3,0,1,[⟨2,1,0,[⟨2,2,0,[⟨6,0,1,[]⟩]⟩]⟩]⟩]⟩
theorem sanFacts:SanFacts sanS sanT sanU ⟨0,0,0,[]⟩ where
 hs:=structE_is (k:=60) (by kernel_rfl)
 ht:=structE_is (k:=60) (by kernel_rfl)
 hx:=structE_is (k:=60) (by kernel_rfl)
 hu:=structE_is (k:=60) (by kernel_rfl)
 r1:=refCheckE_is (k:=60) (by kernel_rfl)
 r2:=refCheckE_is (k:=60) (by kernel_rfl)
 r3:=refCheckE_is (k:=60) (by kernel_rfl)
 c1:=checkE_is (k:=60) (by kernel_rfl)
 c2:=checkE_is (k:=60) (by kernel_rfl)
#print axioms sanFacts
end Go.Proofs.Ytfiiihpdekppiaa
end
