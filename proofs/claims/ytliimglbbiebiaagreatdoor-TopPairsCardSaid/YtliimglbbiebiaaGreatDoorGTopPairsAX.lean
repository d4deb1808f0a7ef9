/- A part of the proof: Valid, XFetch. -/
import Derived.Test.YtliimglbbiebiaaGreatDoorGTopPairsAW
import Derived.Test.YtliimglbbiebiaaGreatDoorGTopPairsAT
set_option maxRecDepth 100000
set_option maxHeartbeats 6400000
section
namespace Go.Proofs.YtliimglbbiebiaaGreatDoor
open Go.RowKit
theorem requal_no (A:Option Addr) (n c:Nat) (hn:n≠0) (w:World):Calls Tryz.prog 87 #[.slice A n c,.slice none 0 0] w fun e w'=>e=.returned (.bool false)∧w=w':=by
 have h1:((n:Int) != 0)=true:=bne_iff_ne.2 (by omega)
 go_enter Tryz.func87,Tryz.ntmps87
 go_wp2
 go_ret
 exact ⟨rfl,rfl⟩
theorem requal_yes (A:Option Addr) (c:Nat) (w:World):Calls Tryz.prog 87 #[.slice A 0 c,.slice none 0 0] w fun e w'=>e=.returned (.bool true)∧w=w':=by
 go_enter Tryz.func87,Tryz.ntmps87
 go_wp2_with fail
 refine wp_loop_rounds 1 ?_
 rw [rounds_succ]
 go_wp2
 go_ret
 exact ⟨rfl,rfl⟩
theorem conv_bytes {w:World} {A:Option Addr} {n c:Nat} (l:List UInt8) (h:Rd (intE .u8) w (.slice A n c) (nums l)):(convert 23 9 (.slice A n c)).run Tryz.prog w=.ok (.string ⟨l.toArray⟩) w:=by
 obtain ⟨A',c',e,_,hcells⟩:=h
 cases e
 rw [nums_len]
 cases A with
 | none =>
   have hl:l=[]:=by
    refine Decidable.byContradiction fun hl=>?_
    obtain ⟨b,off,e,_⟩:=hcells (by simpa [nums] using hl)
    cases e
   subst hl
   exact Lib.run_convert_nil_bytes w _ _ 5 c Tryz.underlying23 Tryz.underlying5 Tryz.underlying9
 | some a =>
   refine run_convert_bytes_back (P:=Tryz.prog) w 23 9 5 a c l Tryz.underlying23 Tryz.underlying5 Tryz.underlying9 fun j hj=>?_
   obtain ⟨b,off,e,hc⟩:=hcells (by rintro h; rw [List.map_eq_nil_iff.1 h] at hj; simp at hj)
   cases e
   rw [Addr.add_lit]
   have:=hc j (l[j].toNat:Int) (by simp [nums,hj]) 0 (.int .u8 (l[j].toNat:Int)) rfl
   rw [show (intE .u8).sz=1 from rfl,Nat.mul_one,Nat.add_zero] at this
   exact this
theorem same_any0 (m:ByteArray) (A:Option Addr) (n c:Nat) (it mo:Int) (si:Bool) (fl:Int) (dA:Option Addr) (dn dc:Nat) (l:List UInt8):∃ b:Bool,∀ w,Rd (intE .u8) w (.slice dA dn dc) (nums l)→Calls Tryz.prog 64 #[.agg #[.string ⟨#[]⟩,.int .i64 0,.string m,.slice A n c,.int .i64 it,.int .i64 mo,.bool si,.int .u8 fl,.slice dA dn dc],cmd0] w fun e w'=>e=.returned (.bool b)∧New w w':=by
 unfold cmd0
 have hcv:=fun w=>Lib.run_convert_nil_bytes (P:=Tryz.prog) w 23 9 5 0 Tryz.underlying23 Tryz.underlying5 Tryz.underlying9
 have fin:∀ {w:World} {o1 o2:Obj},New w ((w.alloc o1).alloc o2):=((New.refl _).alloc _).alloc _
 rcases h1:m.toList.isEmpty with _ | _
 · refine ⟨false,fun w _=>?_⟩
   go_enter Tryz.func64,Tryz.ntmps64
   go_wp2
   go_ret
   exact ⟨rfl,fin⟩
 by_cases h2:n=0
 case neg =>
  refine ⟨false,fun w _=>?_⟩
  go_enter Tryz.func64,Tryz.ntmps64
  go_wp2_with fail
  refine (requal_no A n c h2 _).mono ?_
  rintro e w1 ⟨rfl,rfl⟩
  go_wp2
  go_ret
  exact ⟨rfl,fin⟩
 subst h2
 rcases h3:(it == 0) with _ | _
 · refine ⟨false,fun w _=>?_⟩
   go_enter Tryz.func64,Tryz.ntmps64
   go_wp2_with fail
   refine (requal_yes A c _).mono ?_
   rintro e w1 ⟨rfl,rfl⟩
   go_wp2
   go_ret
   exact ⟨rfl,fin⟩
 rcases h4:(mo == 0) with _ | _
 · refine ⟨false,fun w _=>?_⟩
   go_enter Tryz.func64,Tryz.ntmps64
   go_wp2_with fail
   refine (requal_yes A c _).mono ?_
   rintro e w1 ⟨rfl,rfl⟩
   go_wp2
   go_ret
   exact ⟨rfl,fin⟩
 rcases si with _ | _
 case true =>
  refine ⟨false,fun w _=>?_⟩
  go_enter Tryz.func64,Tryz.ntmps64
  go_wp2_with fail
  refine (requal_yes A c _).mono ?_
  rintro e w1 ⟨rfl,rfl⟩
  go_wp2
  go_ret
  exact ⟨rfl,fin⟩
 rcases h6:(fl == 0) with _ | _
 · refine ⟨false,fun w _=>?_⟩
   go_enter Tryz.func64,Tryz.ntmps64
   go_wp2_with fail
   refine (requal_yes A c _).mono ?_
   rintro e w1 ⟨rfl,rfl⟩
   go_wp2
   go_ret
   exact ⟨rfl,fin⟩
 all_goals
  refine ⟨l.isEmpty,fun w hd=>?_⟩
  have hv:=fun o1 o2=>conv_bytes (w:=(w.alloc o1).alloc o2) l (hd.new fin)
  go_enter Tryz.func64,Tryz.ntmps64
  go_wp2_with fail
  refine (requal_yes A c _).mono ?_
  rintro e w1 ⟨rfl,rfl⟩
  go_wp2
  go_ret
  exact ⟨rfl,fin⟩
theorem verb_none (k:Int) (h:¬ (1≤k∧k≤8)) (w:World) (ht:Tabs w):Calls Tryz.prog 63 #[.int .i64 k] w fun e w'=>e=.returned (.string ⟨#[]⟩)∧New w w':=by
 have hf:=vfields_any w ht
 have hn:New w (w.alloc (.cells (verbsL.map fun l=>Value.string ⟨l.toArray⟩).toArray 9)):=(New.refl w).alloc _
 by_cases h1:1≤k
 · have d1:decide (1≤k)=true:=decide_eq_true h1
   have d2:decide (k≤8)=false:=decide_eq_false (by omega)
   clear h h1
   go_enter Tryz.func63,Tryz.ntmps63
   go_wp2_with fail
   refine hf.mono ?_
   rintro e w1 ⟨rfl,rfl⟩
   go_wp2
   go_ret
   exact ⟨rfl,hn⟩
 · have d1:decide (1≤k)=false:=decide_eq_false h1
   clear h h1
   go_enter Tryz.func63,Tryz.ntmps63
   go_wp2_with fail
   refine hf.mono ?_
   rintro e w1 ⟨rfl,rfl⟩
   go_wp2
   go_ret
   exact ⟨rfl,hn⟩
theorem valid_pre (t:ByteArray) (hts:t.size≤1000000) (k:Int) (m:ByteArray) (sA:Option Addr) (sn sc:Nat) (it mo:Int) (si:Bool) (fl:Int) (dA:Option Addr) (dn dc:Nat) (l:List UInt8) (hbad:tagS t=false∨¬ (1≤k∧k≤8)∨31 < fl∨(65536:Int) < max (m.size:Int) (dn:Int)):∃ b:Bool,(b=true→1≤k∧k≤8)∧∀ w,Tabs w→Rd (intE .u8) w (.slice dA dn dc) (nums l)→Calls Tryz.prog 38 #[.agg #[.string t,.int .i64 k,.string m,.slice sA sn sc,.int .i64 it,.int .i64 mo,.bool si,.int .u8 fl,.slice dA dn dc]] w fun e w'=>e=.returned (.bool b)∧New w w':=by
 refine ⟨false,by simp,fun w hT hd=>?_⟩
 have hall:=All_tag t hts
 have HT:=Lib.hid hT
 clear hT hd
 rcases h1:tagS t with _ | _
 · rw [h1] at hall
   clear h1 hbad
   have b0:Blk (w.alloc (.cells #[.string t,.int .i64 k,.string m,.slice sA sn sc,.int .i64 it,.int .i64 mo,.bool si,.int .u8 fl,.slice dA dn dc] 47)) w.heap.size 47 #[.string t,.int .i64 k,.string m,.slice sA sn sc,.int .i64 it,.int .i64 mo,.bool si,.int .u8 fl,.slice dA dn dc]:=Blk.new _ _ _
   have n0:New w (w.alloc (.cells #[.string t,.int .i64 k,.string m,.slice sA sn sc,.int .i64 it,.int .i64 mo,.bool si,.int .u8 fl,.slice dA dn dc] 47)):=(New.refl w).alloc _
   go_enter Tryz.func38,Tryz.ntmps38
   go_wp2_with fail
   refine (hall _).mono ?_
   rintro e w1 ⟨rfl,n1⟩
   have b1:=n1.blk b0
   have c0:w1.cell? ⟨w.heap.size,0,none⟩=some (.string t):=b1.cell 0
   have c1:w1.cell? ⟨w.heap.size,1,none⟩=some (.int .i64 k):=b1.cell 1
   go_wp2
   go_ret
   exact ⟨rfl,n0.trans n1⟩
 rw [h1] at hall
 by_cases hk:1≤k∧k≤8
 case neg =>
  clear hbad h1
  have b0:Blk (w.alloc (.cells #[.string t,.int .i64 k,.string m,.slice sA sn sc,.int .i64 it,.int .i64 mo,.bool si,.int .u8 fl,.slice dA dn dc] 47)) w.heap.size 47 #[.string t,.int .i64 k,.string m,.slice sA sn sc,.int .i64 it,.int .i64 mo,.bool si,.int .u8 fl,.slice dA dn dc]:=Blk.new _ _ _
  have n0:New w (w.alloc (.cells #[.string t,.int .i64 k,.string m,.slice sA sn sc,.int .i64 it,.int .i64 mo,.bool si,.int .u8 fl,.slice dA dn dc] 47)):=(New.refl w).alloc _
  go_enter Tryz.func38,Tryz.ntmps38
  go_wp2_with fail
  refine (hall _).mono ?_
  rintro e w1 ⟨rfl,n1⟩
  have b1:=n1.blk b0
  have c0:w1.cell? ⟨w.heap.size,0,none⟩=some (.string t):=b1.cell 0
  have c1:w1.cell? ⟨w.heap.size,1,none⟩=some (.int .i64 k):=b1.cell 1
  go_wp2_with fail
  refine (verb_none k hk w1 (HT.out.new (n0.trans n1))).mono ?_
  rintro e w2 ⟨rfl,n2⟩
  have b2:=n2.blk b1
  have n02:=(n0.trans n1).trans n2
  have d0:w2.cell? ⟨w.heap.size,0,none⟩=some (.string t):=b2.cell 0
  have d1:w2.cell? ⟨w.heap.size,1,none⟩=some (.int .i64 k):=b2.cell 1
  have d2:w2.cell? ⟨w.heap.size,2,none⟩=some (.string m):=b2.cell 2
  have d3:w2.cell? ⟨w.heap.size,3,none⟩=some (.slice sA sn sc):=b2.cell 3
  have d4:w2.cell? ⟨w.heap.size,4,none⟩=some (.int .i64 it):=b2.cell 4
  have d5:w2.cell? ⟨w.heap.size,5,none⟩=some (.int .i64 mo):=b2.cell 5
  have d6:w2.cell? ⟨w.heap.size,6,none⟩=some (.bool si):=b2.cell 6
  have d7:w2.cell? ⟨w.heap.size,7,none⟩=some (.int .u8 fl):=b2.cell 7
  have d8:w2.cell? ⟨w.heap.size,8,none⟩=some (.slice dA dn dc):=b2.cell 8
  clear c0 c1 b1 hk
  go_wp2
  go_ret
  exact ⟨rfl,n02⟩
 have hbad2:31 < fl∨(65536:Int) < max (m.size:Int) (dn:Int):=by
  rcases hbad with h | h | h
  · rw [h1] at h; cases h
  · exact absurd hk h
  · exact h
 clear hbad h1
 have hvs:∀ k:Nat,1≤k→k≤8→(verbS k).toList.isEmpty=false:=by
  intro k h1 h8
  have:k=1∨k=2∨k=3∨k=4∨k=5∨k=6∨k=7∨k=8:=by omega
  rcases this with rfl | rfl | rfl | rfl | rfl | rfl | rfl | rfl <;> (rw [ByteArray.toList_eq]; rfl)
 obtain ⟨kN,rfl⟩:∃ kN:Nat,k=kN:=⟨k.toNat,by omega⟩
 have hk1:1≤kN:=by omega
 have hk8:kN≤8:=by omega
 have hv:=hvs kN hk1 hk8
 clear hvs hk
 by_cases hf:31 < fl
 · have df:decide (31 < fl)=true:=decide_eq_true hf
   clear hbad2 hf
   have b0:Blk (w.alloc (.cells #[.string t,.int .i64 (kN:Int),.string m,.slice sA sn sc,.int .i64 it,.int .i64 mo,.bool si,.int .u8 fl,.slice dA dn dc] 47)) w.heap.size 47 #[.string t,.int .i64 (kN:Int),.string m,.slice sA sn sc,.int .i64 it,.int .i64 mo,.bool si,.int .u8 fl,.slice dA dn dc]:=Blk.new _ _ _
   have n0:New w (w.alloc (.cells #[.string t,.int .i64 (kN:Int),.string m,.slice sA sn sc,.int .i64 it,.int .i64 mo,.bool si,.int .u8 fl,.slice dA dn dc] 47)):=(New.refl w).alloc _
   go_enter Tryz.func38,Tryz.ntmps38
   go_wp2_with fail
   refine (hall _).mono ?_
   rintro e w1 ⟨rfl,n1⟩
   have b1:=n1.blk b0
   have c0:w1.cell? ⟨w.heap.size,0,none⟩=some (.string t):=b1.cell 0
   have c1:w1.cell? ⟨w.heap.size,1,none⟩=some (.int .i64 (kN:Int)):=b1.cell 1
   go_wp2_with fail
   refine (verb_any kN hk1 hk8 w1 (HT.out.new (n0.trans n1))).mono ?_
   rintro e w2 ⟨rfl,n2⟩
   have b2:=n2.blk b1
   have n02:=(n0.trans n1).trans n2
   have d0:w2.cell? ⟨w.heap.size,0,none⟩=some (.string t):=b2.cell 0
   have d1:w2.cell? ⟨w.heap.size,1,none⟩=some (.int .i64 (kN:Int)):=b2.cell 1
   have d2:w2.cell? ⟨w.heap.size,2,none⟩=some (.string m):=b2.cell 2
   have d3:w2.cell? ⟨w.heap.size,3,none⟩=some (.slice sA sn sc):=b2.cell 3
   have d4:w2.cell? ⟨w.heap.size,4,none⟩=some (.int .i64 it):=b2.cell 4
   have d5:w2.cell? ⟨w.heap.size,5,none⟩=some (.int .i64 mo):=b2.cell 5
   have d6:w2.cell? ⟨w.heap.size,6,none⟩=some (.bool si):=b2.cell 6
   have d7:w2.cell? ⟨w.heap.size,7,none⟩=some (.int .u8 fl):=b2.cell 7
   have d8:w2.cell? ⟨w.heap.size,8,none⟩=some (.slice dA dn dc):=b2.cell 8
   clear c0 c1 b1
   go_wp2
   go_ret
   exact ⟨rfl,n02⟩
 have df:decide (31 < fl)=false:=decide_eq_false hf
 have dm:decide ((65536:Int) < max (m.size:Int) (dn:Int))=true:=decide_eq_true (hbad2.resolve_left hf)
 clear hbad2 hf
 have b0:Blk (w.alloc (.cells #[.string t,.int .i64 (kN:Int),.string m,.slice sA sn sc,.int .i64 it,.int .i64 mo,.bool si,.int .u8 fl,.slice dA dn dc] 47)) w.heap.size 47 #[.string t,.int .i64 (kN:Int),.string m,.slice sA sn sc,.int .i64 it,.int .i64 mo,.bool si,.int .u8 fl,.slice dA dn dc]:=Blk.new _ _ _
 have n0:New w (w.alloc (.cells #[.string t,.int .i64 (kN:Int),.string m,.slice sA sn sc,.int .i64 it,.int .i64 mo,.bool si,.int .u8 fl,.slice dA dn dc] 47)):=(New.refl w).alloc _
 go_enter Tryz.func38,Tryz.ntmps38
 go_wp2_with fail
 refine (hall _).mono ?_
 rintro e w1 ⟨rfl,n1⟩
 have b1:=n1.blk b0
 have c0:w1.cell? ⟨w.heap.size,0,none⟩=some (.string t):=b1.cell 0
 have c1:w1.cell? ⟨w.heap.size,1,none⟩=some (.int .i64 (kN:Int)):=b1.cell 1
 go_wp2_with fail
 refine (verb_any kN hk1 hk8 w1 (HT.out.new (n0.trans n1))).mono ?_
 rintro e w2 ⟨rfl,n2⟩
 have b2:=n2.blk b1
 have n02:=(n0.trans n1).trans n2
 have d0:w2.cell? ⟨w.heap.size,0,none⟩=some (.string t):=b2.cell 0
 have d1:w2.cell? ⟨w.heap.size,1,none⟩=some (.int .i64 (kN:Int)):=b2.cell 1
 have d2:w2.cell? ⟨w.heap.size,2,none⟩=some (.string m):=b2.cell 2
 have d3:w2.cell? ⟨w.heap.size,3,none⟩=some (.slice sA sn sc):=b2.cell 3
 have d4:w2.cell? ⟨w.heap.size,4,none⟩=some (.int .i64 it):=b2.cell 4
 have d5:w2.cell? ⟨w.heap.size,5,none⟩=some (.int .i64 mo):=b2.cell 5
 have d6:w2.cell? ⟨w.heap.size,6,none⟩=some (.bool si):=b2.cell 6
 have d7:w2.cell? ⟨w.heap.size,7,none⟩=some (.int .u8 fl):=b2.cell 7
 have d8:w2.cell? ⟨w.heap.size,8,none⟩=some (.slice dA dn dc):=b2.cell 8
 clear c0 c1 b1
 go_wp2
 go_ret
 exact ⟨rfl,n02⟩
theorem valid_post (t:ByteArray) (hts:t.size≤1000000) (k:Int) (m:ByteArray) (sA:Option Addr) (sn sc:Nat) (it mo:Int) (si:Bool) (fl:Int) (dA:Option Addr) (dn dc:Nat) (l:List UInt8) (kN:Nat) (hkN:k=kN) (hk1:1≤kN) (hk8:kN≤8) (htg:tagS t=true) (hfl:¬ 31 < fl) (hmx:¬ (65536:Int) < max (m.size:Int) (dn:Int)):∃ b:Bool,(b=true→1≤k∧k≤8)∧∀ w,Tabs w→Rd (intE .u8) w (.slice dA dn dc) (nums l)→Calls Tryz.prog 38 #[.agg #[.string t,.int .i64 k,.string m,.slice sA sn sc,.int .i64 it,.int .i64 mo,.bool si,.int .u8 fl,.slice dA dn dc]] w fun e w'=>e=.returned (.bool b)∧New w w':=by
 subst hkN
 have hall:=All_tag t hts
 rw [htg] at hall
 have df:decide (31 < fl)=false:=decide_eq_false hfl
 have dm:decide ((65536:Int) < max (m.size:Int) (dn:Int))=false:=decide_eq_false hmx
 clear htg hfl hmx
 have hvs:(verbS kN).toList.isEmpty=false:=by
  have:kN=1∨kN=2∨kN=3∨kN=4∨kN=5∨kN=6∨kN=7∨kN=8:=by omega
  rcases this with rfl | rfl | rfl | rfl | rfl | rfl | rfl | rfl <;> (rw [ByteArray.toList_eq]; rfl)
 have hin:(1:Int)≤kN∧(kN:Int)≤8:=by omega
 by_cases e5:kN=5
 · subst e5
   obtain ⟨b,hb⟩:=same_any0 ⟨#[]⟩ sA sn sc it mo si fl dA dn dc l
   refine ⟨b,fun _=>hin,fun w hT hd=>?_⟩
   have hS:=Lib.hid (fun W (hn:New w W)=>hb W (hd.new hn))
   have HT:=Lib.hid hT
   clear hb hT hd hin
   have b0:Blk (w.alloc (.cells #[.string t,.int .i64 5,.string m,.slice sA sn sc,.int .i64 it,.int .i64 mo,.bool si,.int .u8 fl,.slice dA dn dc] 47)) w.heap.size 47 #[.string t,.int .i64 5,.string m,.slice sA sn sc,.int .i64 it,.int .i64 mo,.bool si,.int .u8 fl,.slice dA dn dc]:=Blk.new _ _ _
   have n0:New w (w.alloc (.cells #[.string t,.int .i64 5,.string m,.slice sA sn sc,.int .i64 it,.int .i64 mo,.bool si,.int .u8 fl,.slice dA dn dc] 47)):=(New.refl w).alloc _
   go_enter Tryz.func38,Tryz.ntmps38
   go_wp2_with fail
   refine (hall _).mono ?_
   rintro e w1 ⟨rfl,n1⟩
   have b1:=n1.blk b0
   have c0:w1.cell? ⟨w.heap.size,0,none⟩=some (.string t):=b1.cell 0
   have c1:w1.cell? ⟨w.heap.size,1,none⟩=some (.int .i64 5):=b1.cell 1
   go_wp2_with fail
   refine (verb_any 5 hk1 hk8 w1 (HT.out.new (n0.trans n1))).mono ?_
   rintro e w2 ⟨rfl,n2⟩
   have b2:=n2.blk b1
   have n02:=(n0.trans n1).trans n2
   have d0:w2.cell? ⟨w.heap.size,0,none⟩=some (.string t):=b2.cell 0
   have d1:w2.cell? ⟨w.heap.size,1,none⟩=some (.int .i64 5):=b2.cell 1
   have d2:w2.cell? ⟨w.heap.size,2,none⟩=some (.string m):=b2.cell 2
   have d3:w2.cell? ⟨w.heap.size,3,none⟩=some (.slice sA sn sc):=b2.cell 3
   have d4:w2.cell? ⟨w.heap.size,4,none⟩=some (.int .i64 it):=b2.cell 4
   have d5:w2.cell? ⟨w.heap.size,5,none⟩=some (.int .i64 mo):=b2.cell 5
   have d6:w2.cell? ⟨w.heap.size,6,none⟩=some (.bool si):=b2.cell 6
   have d7:w2.cell? ⟨w.heap.size,7,none⟩=some (.int .u8 fl):=b2.cell 7
   have d8:w2.cell? ⟨w.heap.size,8,none⟩=some (.slice dA dn dc):=b2.cell 8
   clear c0 c1 n1 n2 b1
   have f0:=b2.frozen 0
   have f1:=b2.frozen 1
   have f2:=b2.frozen 2
   have f3:=b2.frozen 3
   have f4:=b2.frozen 4
   have f5:=b2.frozen 5
   have f6:=b2.frozen 6
   have f7:=b2.frozen 7
   have f8:=b2.frozen 8
   go_wp2_with fail
   refine (hS.out _ (New.one n02 ((((One.refl w.heap.size w2).set 0 _).set 1 _).set 2 _) (Nat.le_refl _))).mono ?_
   rintro e w3 ⟨rfl,n3⟩
   go_wp2
   go_ret
   exact ⟨rfl,(New.one n02 ((((One.refl w.heap.size w2).set 0 _).set 1 _).set 2 _) (Nat.le_refl _)).trans n3⟩
 by_cases e6:kN=6
 · subst e6
   obtain ⟨b,hb⟩:=same_any0 ⟨#[]⟩ sA sn sc it mo si 0 none 0 0 []
   refine ⟨b,fun _=>hin,fun w hT hd=>?_⟩
   have hS:=Lib.hid (fun W (hn:New w W)=>hb W (Rd.nil _ _))
   have HT:=Lib.hid hT
   clear hb hT hd hin
   have b0:Blk (w.alloc (.cells #[.string t,.int .i64 6,.string m,.slice sA sn sc,.int .i64 it,.int .i64 mo,.bool si,.int .u8 fl,.slice dA dn dc] 47)) w.heap.size 47 #[.string t,.int .i64 6,.string m,.slice sA sn sc,.int .i64 it,.int .i64 mo,.bool si,.int .u8 fl,.slice dA dn dc]:=Blk.new _ _ _
   have n0:New w (w.alloc (.cells #[.string t,.int .i64 6,.string m,.slice sA sn sc,.int .i64 it,.int .i64 mo,.bool si,.int .u8 fl,.slice dA dn dc] 47)):=(New.refl w).alloc _
   go_enter Tryz.func38,Tryz.ntmps38
   go_wp2_with fail
   refine (hall _).mono ?_
   rintro e w1 ⟨rfl,n1⟩
   have b1:=n1.blk b0
   have c0:w1.cell? ⟨w.heap.size,0,none⟩=some (.string t):=b1.cell 0
   have c1:w1.cell? ⟨w.heap.size,1,none⟩=some (.int .i64 6):=b1.cell 1
   go_wp2_with fail
   refine (verb_any 6 hk1 hk8 w1 (HT.out.new (n0.trans n1))).mono ?_
   rintro e w2 ⟨rfl,n2⟩
   have b2:=n2.blk b1
   have n02:=(n0.trans n1).trans n2
   have d0:w2.cell? ⟨w.heap.size,0,none⟩=some (.string t):=b2.cell 0
   have d1:w2.cell? ⟨w.heap.size,1,none⟩=some (.int .i64 6):=b2.cell 1
   have d2:w2.cell? ⟨w.heap.size,2,none⟩=some (.string m):=b2.cell 2
   have d3:w2.cell? ⟨w.heap.size,3,none⟩=some (.slice sA sn sc):=b2.cell 3
   have d4:w2.cell? ⟨w.heap.size,4,none⟩=some (.int .i64 it):=b2.cell 4
   have d5:w2.cell? ⟨w.heap.size,5,none⟩=some (.int .i64 mo):=b2.cell 5
   have d6:w2.cell? ⟨w.heap.size,6,none⟩=some (.bool si):=b2.cell 6
   have d7:w2.cell? ⟨w.heap.size,7,none⟩=some (.int .u8 fl):=b2.cell 7
   have d8:w2.cell? ⟨w.heap.size,8,none⟩=some (.slice dA dn dc):=b2.cell 8
   clear c0 c1 n1 n2 b1
   have f0:=b2.frozen 0
   have f1:=b2.frozen 1
   have f2:=b2.frozen 2
   have f3:=b2.frozen 3
   have f4:=b2.frozen 4
   have f5:=b2.frozen 5
   have f6:=b2.frozen 6
   have f7:=b2.frozen 7
   have f8:=b2.frozen 8
   go_wp2_with fail
   refine (hS.out _ (New.one n02 ((((((One.refl w.heap.size w2).set 0 _).set 1 _).set 2 _).set 7 _).set 8 _) (Nat.le_refl _))).mono ?_
   rintro e w3 ⟨rfl,n3⟩
   go_wp2
   go_ret
   exact ⟨rfl,(New.one n02 ((((((One.refl w.heap.size w2).set 0 _).set 1 _).set 2 _).set 7 _).set 8 _) (Nat.le_refl _)).trans n3⟩
 by_cases e7:kN=7
 · subst e7
   rcases h1:((sn:Int) == 0) with _ | _
   case true =>
    refine ⟨false,by simp,fun w hT hd=>?_⟩
    have HT:=Lib.hid hT
    clear hT hd hin
    have b0:Blk (w.alloc (.cells #[.string t,.int .i64 7,.string m,.slice sA sn sc,.int .i64 it,.int .i64 mo,.bool si,.int .u8 fl,.slice dA dn dc] 47)) w.heap.size 47 #[.string t,.int .i64 7,.string m,.slice sA sn sc,.int .i64 it,.int .i64 mo,.bool si,.int .u8 fl,.slice dA dn dc]:=Blk.new _ _ _
    have n0:New w (w.alloc (.cells #[.string t,.int .i64 7,.string m,.slice sA sn sc,.int .i64 it,.int .i64 mo,.bool si,.int .u8 fl,.slice dA dn dc] 47)):=(New.refl w).alloc _
    go_enter Tryz.func38,Tryz.ntmps38
    go_wp2_with fail
    refine (hall _).mono ?_
    rintro e w1 ⟨rfl,n1⟩
    have b1:=n1.blk b0
    have c0:w1.cell? ⟨w.heap.size,0,none⟩=some (.string t):=b1.cell 0
    have c1:w1.cell? ⟨w.heap.size,1,none⟩=some (.int .i64 7):=b1.cell 1
    go_wp2_with fail
    refine (verb_any 7 hk1 hk8 w1 (HT.out.new (n0.trans n1))).mono ?_
    rintro e w2 ⟨rfl,n2⟩
    have b2:=n2.blk b1
    have n02:=(n0.trans n1).trans n2
    have d0:w2.cell? ⟨w.heap.size,0,none⟩=some (.string t):=b2.cell 0
    have d1:w2.cell? ⟨w.heap.size,1,none⟩=some (.int .i64 7):=b2.cell 1
    have d2:w2.cell? ⟨w.heap.size,2,none⟩=some (.string m):=b2.cell 2
    have d3:w2.cell? ⟨w.heap.size,3,none⟩=some (.slice sA sn sc):=b2.cell 3
    have d4:w2.cell? ⟨w.heap.size,4,none⟩=some (.int .i64 it):=b2.cell 4
    have d5:w2.cell? ⟨w.heap.size,5,none⟩=some (.int .i64 mo):=b2.cell 5
    have d6:w2.cell? ⟨w.heap.size,6,none⟩=some (.bool si):=b2.cell 6
    have d7:w2.cell? ⟨w.heap.size,7,none⟩=some (.int .u8 fl):=b2.cell 7
    have d8:w2.cell? ⟨w.heap.size,8,none⟩=some (.slice dA dn dc):=b2.cell 8
    clear c0 c1 n1 n2 b1
    have f0:=b2.frozen 0
    have f1:=b2.frozen 1
    have f2:=b2.frozen 2
    have f3:=b2.frozen 3
    have f4:=b2.frozen 4
    have f5:=b2.frozen 5
    have f6:=b2.frozen 6
    have f7:=b2.frozen 7
    have f8:=b2.frozen 8
    go_wp2
    go_ret
    exact ⟨rfl,New.one n02 (((One.refl w.heap.size w2).set 0 _).set 1 _) (Nat.le_refl _)⟩
   rcases h2:decide (it < 1) with _ | _
   case true =>
    refine ⟨false,by simp,fun w hT hd=>?_⟩
    have HT:=Lib.hid hT
    clear hT hd hin
    have b0:Blk (w.alloc (.cells #[.string t,.int .i64 7,.string m,.slice sA sn sc,.int .i64 it,.int .i64 mo,.bool si,.int .u8 fl,.slice dA dn dc] 47)) w.heap.size 47 #[.string t,.int .i64 7,.string m,.slice sA sn sc,.int .i64 it,.int .i64 mo,.bool si,.int .u8 fl,.slice dA dn dc]:=Blk.new _ _ _
    have n0:New w (w.alloc (.cells #[.string t,.int .i64 7,.string m,.slice sA sn sc,.int .i64 it,.int .i64 mo,.bool si,.int .u8 fl,.slice dA dn dc] 47)):=(New.refl w).alloc _
    go_enter Tryz.func38,Tryz.ntmps38
    go_wp2_with fail
    refine (hall _).mono ?_
    rintro e w1 ⟨rfl,n1⟩
    have b1:=n1.blk b0
    have c0:w1.cell? ⟨w.heap.size,0,none⟩=some (.string t):=b1.cell 0
    have c1:w1.cell? ⟨w.heap.size,1,none⟩=some (.int .i64 7):=b1.cell 1
    go_wp2_with fail
    refine (verb_any 7 hk1 hk8 w1 (HT.out.new (n0.trans n1))).mono ?_
    rintro e w2 ⟨rfl,n2⟩
    have b2:=n2.blk b1
    have n02:=(n0.trans n1).trans n2
    have d0:w2.cell? ⟨w.heap.size,0,none⟩=some (.string t):=b2.cell 0
    have d1:w2.cell? ⟨w.heap.size,1,none⟩=some (.int .i64 7):=b2.cell 1
    have d2:w2.cell? ⟨w.heap.size,2,none⟩=some (.string m):=b2.cell 2
    have d3:w2.cell? ⟨w.heap.size,3,none⟩=some (.slice sA sn sc):=b2.cell 3
    have d4:w2.cell? ⟨w.heap.size,4,none⟩=some (.int .i64 it):=b2.cell 4
    have d5:w2.cell? ⟨w.heap.size,5,none⟩=some (.int .i64 mo):=b2.cell 5
    have d6:w2.cell? ⟨w.heap.size,6,none⟩=some (.bool si):=b2.cell 6
    have d7:w2.cell? ⟨w.heap.size,7,none⟩=some (.int .u8 fl):=b2.cell 7
    have d8:w2.cell? ⟨w.heap.size,8,none⟩=some (.slice dA dn dc):=b2.cell 8
    clear c0 c1 n1 n2 b1
    have f0:=b2.frozen 0
    have f1:=b2.frozen 1
    have f2:=b2.frozen 2
    have f3:=b2.frozen 3
    have f4:=b2.frozen 4
    have f5:=b2.frozen 5
    have f6:=b2.frozen 6
    have f7:=b2.frozen 7
    have f8:=b2.frozen 8
    go_wp2
    go_ret
    exact ⟨rfl,New.one n02 (((One.refl w.heap.size w2).set 0 _).set 1 _) (Nat.le_refl _)⟩
   rcases h3:decide (31 < it) with _ | _
   case true =>
    refine ⟨false,by simp,fun w hT hd=>?_⟩
    have HT:=Lib.hid hT
    clear hT hd hin
    have b0:Blk (w.alloc (.cells #[.string t,.int .i64 7,.string m,.slice sA sn sc,.int .i64 it,.int .i64 mo,.bool si,.int .u8 fl,.slice dA dn dc] 47)) w.heap.size 47 #[.string t,.int .i64 7,.string m,.slice sA sn sc,.int .i64 it,.int .i64 mo,.bool si,.int .u8 fl,.slice dA dn dc]:=Blk.new _ _ _
    have n0:New w (w.alloc (.cells #[.string t,.int .i64 7,.string m,.slice sA sn sc,.int .i64 it,.int .i64 mo,.bool si,.int .u8 fl,.slice dA dn dc] 47)):=(New.refl w).alloc _
    go_enter Tryz.func38,Tryz.ntmps38
    go_wp2_with fail
    refine (hall _).mono ?_
    rintro e w1 ⟨rfl,n1⟩
    have b1:=n1.blk b0
    have c0:w1.cell? ⟨w.heap.size,0,none⟩=some (.string t):=b1.cell 0
    have c1:w1.cell? ⟨w.heap.size,1,none⟩=some (.int .i64 7):=b1.cell 1
    go_wp2_with fail
    refine (verb_any 7 hk1 hk8 w1 (HT.out.new (n0.trans n1))).mono ?_
    rintro e w2 ⟨rfl,n2⟩
    have b2:=n2.blk b1
    have n02:=(n0.trans n1).trans n2
    have d0:w2.cell? ⟨w.heap.size,0,none⟩=some (.string t):=b2.cell 0
    have d1:w2.cell? ⟨w.heap.size,1,none⟩=some (.int .i64 7):=b2.cell 1
    have d2:w2.cell? ⟨w.heap.size,2,none⟩=some (.string m):=b2.cell 2
    have d3:w2.cell? ⟨w.heap.size,3,none⟩=some (.slice sA sn sc):=b2.cell 3
    have d4:w2.cell? ⟨w.heap.size,4,none⟩=some (.int .i64 it):=b2.cell 4
    have d5:w2.cell? ⟨w.heap.size,5,none⟩=some (.int .i64 mo):=b2.cell 5
    have d6:w2.cell? ⟨w.heap.size,6,none⟩=some (.bool si):=b2.cell 6
    have d7:w2.cell? ⟨w.heap.size,7,none⟩=some (.int .u8 fl):=b2.cell 7
    have d8:w2.cell? ⟨w.heap.size,8,none⟩=some (.slice dA dn dc):=b2.cell 8
    clear c0 c1 n1 n2 b1
    have f0:=b2.frozen 0
    have f1:=b2.frozen 1
    have f2:=b2.frozen 2
    have f3:=b2.frozen 3
    have f4:=b2.frozen 4
    have f5:=b2.frozen 5
    have f6:=b2.frozen 6
    have f7:=b2.frozen 7
    have f8:=b2.frozen 8
    go_wp2
    go_ret
    exact ⟨rfl,New.one n02 (((One.refl w.heap.size w2).set 0 _).set 1 _) (Nat.le_refl _)⟩
   obtain ⟨b,hb⟩:=same_any0 m none 0 0 0 mo si fl dA dn dc l
   refine ⟨b,fun _=>hin,fun w hT hd=>?_⟩
   have hS:=Lib.hid (fun W (hn:New w W)=>hb W (hd.new hn))
   have HT:=Lib.hid hT
   clear hb hT hd hin
   have b0:Blk (w.alloc (.cells #[.string t,.int .i64 7,.string m,.slice sA sn sc,.int .i64 it,.int .i64 mo,.bool si,.int .u8 fl,.slice dA dn dc] 47)) w.heap.size 47 #[.string t,.int .i64 7,.string m,.slice sA sn sc,.int .i64 it,.int .i64 mo,.bool si,.int .u8 fl,.slice dA dn dc]:=Blk.new _ _ _
   have n0:New w (w.alloc (.cells #[.string t,.int .i64 7,.string m,.slice sA sn sc,.int .i64 it,.int .i64 mo,.bool si,.int .u8 fl,.slice dA dn dc] 47)):=(New.refl w).alloc _
   go_enter Tryz.func38,Tryz.ntmps38
   go_wp2_with fail
   refine (hall _).mono ?_
   rintro e w1 ⟨rfl,n1⟩
   have b1:=n1.blk b0
   have c0:w1.cell? ⟨w.heap.size,0,none⟩=some (.string t):=b1.cell 0
   have c1:w1.cell? ⟨w.heap.size,1,none⟩=some (.int .i64 7):=b1.cell 1
   go_wp2_with fail
   refine (verb_any 7 hk1 hk8 w1 (HT.out.new (n0.trans n1))).mono ?_
   rintro e w2 ⟨rfl,n2⟩
   have b2:=n2.blk b1
   have n02:=(n0.trans n1).trans n2
   have d0:w2.cell? ⟨w.heap.size,0,none⟩=some (.string t):=b2.cell 0
   have d1:w2.cell? ⟨w.heap.size,1,none⟩=some (.int .i64 7):=b2.cell 1
   have d2:w2.cell? ⟨w.heap.size,2,none⟩=some (.string m):=b2.cell 2
   have d3:w2.cell? ⟨w.heap.size,3,none⟩=some (.slice sA sn sc):=b2.cell 3
   have d4:w2.cell? ⟨w.heap.size,4,none⟩=some (.int .i64 it):=b2.cell 4
   have d5:w2.cell? ⟨w.heap.size,5,none⟩=some (.int .i64 mo):=b2.cell 5
   have d6:w2.cell? ⟨w.heap.size,6,none⟩=some (.bool si):=b2.cell 6
   have d7:w2.cell? ⟨w.heap.size,7,none⟩=some (.int .u8 fl):=b2.cell 7
   have d8:w2.cell? ⟨w.heap.size,8,none⟩=some (.slice dA dn dc):=b2.cell 8
   clear c0 c1 n1 n2 b1
   have f0:=b2.frozen 0
   have f1:=b2.frozen 1
   have f2:=b2.frozen 2
   have f3:=b2.frozen 3
   have f4:=b2.frozen 4
   have f5:=b2.frozen 5
   have f6:=b2.frozen 6
   have f7:=b2.frozen 7
   have f8:=b2.frozen 8
   go_wp2_with fail
   refine (hS.out _ (New.one n02 (((((One.refl w.heap.size w2).set 0 _).set 1 _).set 3 _).set 4 _) (Nat.le_refl _))).mono ?_
   rintro e w3 ⟨rfl,n3⟩
   go_wp2
   go_ret
   exact ⟨rfl,(New.one n02 (((((One.refl w.heap.size w2).set 0 _).set 1 _).set 3 _).set 4 _) (Nat.le_refl _)).trans n3⟩
 by_cases e8:kN=8
 · subst e8
   rcases h1:((sn:Int) == 0) with _ | _
   case true =>
    refine ⟨false,by simp,fun w hT hd=>?_⟩
    have HT:=Lib.hid hT
    clear hT hd hin
    have b0:Blk (w.alloc (.cells #[.string t,.int .i64 8,.string m,.slice sA sn sc,.int .i64 it,.int .i64 mo,.bool si,.int .u8 fl,.slice dA dn dc] 47)) w.heap.size 47 #[.string t,.int .i64 8,.string m,.slice sA sn sc,.int .i64 it,.int .i64 mo,.bool si,.int .u8 fl,.slice dA dn dc]:=Blk.new _ _ _
    have n0:New w (w.alloc (.cells #[.string t,.int .i64 8,.string m,.slice sA sn sc,.int .i64 it,.int .i64 mo,.bool si,.int .u8 fl,.slice dA dn dc] 47)):=(New.refl w).alloc _
    go_enter Tryz.func38,Tryz.ntmps38
    go_wp2_with fail
    refine (hall _).mono ?_
    rintro e w1 ⟨rfl,n1⟩
    have b1:=n1.blk b0
    have c0:w1.cell? ⟨w.heap.size,0,none⟩=some (.string t):=b1.cell 0
    have c1:w1.cell? ⟨w.heap.size,1,none⟩=some (.int .i64 8):=b1.cell 1
    go_wp2_with fail
    refine (verb_any 8 hk1 hk8 w1 (HT.out.new (n0.trans n1))).mono ?_
    rintro e w2 ⟨rfl,n2⟩
    have b2:=n2.blk b1
    have n02:=(n0.trans n1).trans n2
    have d0:w2.cell? ⟨w.heap.size,0,none⟩=some (.string t):=b2.cell 0
    have d1:w2.cell? ⟨w.heap.size,1,none⟩=some (.int .i64 8):=b2.cell 1
    have d2:w2.cell? ⟨w.heap.size,2,none⟩=some (.string m):=b2.cell 2
    have d3:w2.cell? ⟨w.heap.size,3,none⟩=some (.slice sA sn sc):=b2.cell 3
    have d4:w2.cell? ⟨w.heap.size,4,none⟩=some (.int .i64 it):=b2.cell 4
    have d5:w2.cell? ⟨w.heap.size,5,none⟩=some (.int .i64 mo):=b2.cell 5
    have d6:w2.cell? ⟨w.heap.size,6,none⟩=some (.bool si):=b2.cell 6
    have d7:w2.cell? ⟨w.heap.size,7,none⟩=some (.int .u8 fl):=b2.cell 7
    have d8:w2.cell? ⟨w.heap.size,8,none⟩=some (.slice dA dn dc):=b2.cell 8
    clear c0 c1 n1 n2 b1
    have f0:=b2.frozen 0
    have f1:=b2.frozen 1
    have f2:=b2.frozen 2
    have f3:=b2.frozen 3
    have f4:=b2.frozen 4
    have f5:=b2.frozen 5
    have f6:=b2.frozen 6
    have f7:=b2.frozen 7
    have f8:=b2.frozen 8
    go_wp2
    go_ret
    exact ⟨rfl,New.one n02 (((One.refl w.heap.size w2).set 0 _).set 1 _) (Nat.le_refl _)⟩
   rcases h2:decide (mo < 0) with _ | _
   case true =>
    refine ⟨false,by simp,fun w hT hd=>?_⟩
    have HT:=Lib.hid hT
    clear hT hd hin
    have b0:Blk (w.alloc (.cells #[.string t,.int .i64 8,.string m,.slice sA sn sc,.int .i64 it,.int .i64 mo,.bool si,.int .u8 fl,.slice dA dn dc] 47)) w.heap.size 47 #[.string t,.int .i64 8,.string m,.slice sA sn sc,.int .i64 it,.int .i64 mo,.bool si,.int .u8 fl,.slice dA dn dc]:=Blk.new _ _ _
    have n0:New w (w.alloc (.cells #[.string t,.int .i64 8,.string m,.slice sA sn sc,.int .i64 it,.int .i64 mo,.bool si,.int .u8 fl,.slice dA dn dc] 47)):=(New.refl w).alloc _
    go_enter Tryz.func38,Tryz.ntmps38
    go_wp2_with fail
    refine (hall _).mono ?_
    rintro e w1 ⟨rfl,n1⟩
    have b1:=n1.blk b0
    have c0:w1.cell? ⟨w.heap.size,0,none⟩=some (.string t):=b1.cell 0
    have c1:w1.cell? ⟨w.heap.size,1,none⟩=some (.int .i64 8):=b1.cell 1
    go_wp2_with fail
    refine (verb_any 8 hk1 hk8 w1 (HT.out.new (n0.trans n1))).mono ?_
    rintro e w2 ⟨rfl,n2⟩
    have b2:=n2.blk b1
    have n02:=(n0.trans n1).trans n2
    have d0:w2.cell? ⟨w.heap.size,0,none⟩=some (.string t):=b2.cell 0
    have d1:w2.cell? ⟨w.heap.size,1,none⟩=some (.int .i64 8):=b2.cell 1
    have d2:w2.cell? ⟨w.heap.size,2,none⟩=some (.string m):=b2.cell 2
    have d3:w2.cell? ⟨w.heap.size,3,none⟩=some (.slice sA sn sc):=b2.cell 3
    have d4:w2.cell? ⟨w.heap.size,4,none⟩=some (.int .i64 it):=b2.cell 4
    have d5:w2.cell? ⟨w.heap.size,5,none⟩=some (.int .i64 mo):=b2.cell 5
    have d6:w2.cell? ⟨w.heap.size,6,none⟩=some (.bool si):=b2.cell 6
    have d7:w2.cell? ⟨w.heap.size,7,none⟩=some (.int .u8 fl):=b2.cell 7
    have d8:w2.cell? ⟨w.heap.size,8,none⟩=some (.slice dA dn dc):=b2.cell 8
    clear c0 c1 n1 n2 b1
    have f0:=b2.frozen 0
    have f1:=b2.frozen 1
    have f2:=b2.frozen 2
    have f3:=b2.frozen 3
    have f4:=b2.frozen 4
    have f5:=b2.frozen 5
    have f6:=b2.frozen 6
    have f7:=b2.frozen 7
    have f8:=b2.frozen 8
    go_wp2
    go_ret
    exact ⟨rfl,New.one n02 (((One.refl w.heap.size w2).set 0 _).set 1 _) (Nat.le_refl _)⟩
   rcases h3:decide (2 < mo) with _ | _
   case true =>
    refine ⟨false,by simp,fun w hT hd=>?_⟩
    have HT:=Lib.hid hT
    clear hT hd hin
    have b0:Blk (w.alloc (.cells #[.string t,.int .i64 8,.string m,.slice sA sn sc,.int .i64 it,.int .i64 mo,.bool si,.int .u8 fl,.slice dA dn dc] 47)) w.heap.size 47 #[.string t,.int .i64 8,.string m,.slice sA sn sc,.int .i64 it,.int .i64 mo,.bool si,.int .u8 fl,.slice dA dn dc]:=Blk.new _ _ _
    have n0:New w (w.alloc (.cells #[.string t,.int .i64 8,.string m,.slice sA sn sc,.int .i64 it,.int .i64 mo,.bool si,.int .u8 fl,.slice dA dn dc] 47)):=(New.refl w).alloc _
    go_enter Tryz.func38,Tryz.ntmps38
    go_wp2_with fail
    refine (hall _).mono ?_
    rintro e w1 ⟨rfl,n1⟩
    have b1:=n1.blk b0
    have c0:w1.cell? ⟨w.heap.size,0,none⟩=some (.string t):=b1.cell 0
    have c1:w1.cell? ⟨w.heap.size,1,none⟩=some (.int .i64 8):=b1.cell 1
    go_wp2_with fail
    refine (verb_any 8 hk1 hk8 w1 (HT.out.new (n0.trans n1))).mono ?_
    rintro e w2 ⟨rfl,n2⟩
    have b2:=n2.blk b1
    have n02:=(n0.trans n1).trans n2
    have d0:w2.cell? ⟨w.heap.size,0,none⟩=some (.string t):=b2.cell 0
    have d1:w2.cell? ⟨w.heap.size,1,none⟩=some (.int .i64 8):=b2.cell 1
    have d2:w2.cell? ⟨w.heap.size,2,none⟩=some (.string m):=b2.cell 2
    have d3:w2.cell? ⟨w.heap.size,3,none⟩=some (.slice sA sn sc):=b2.cell 3
    have d4:w2.cell? ⟨w.heap.size,4,none⟩=some (.int .i64 it):=b2.cell 4
    have d5:w2.cell? ⟨w.heap.size,5,none⟩=some (.int .i64 mo):=b2.cell 5
    have d6:w2.cell? ⟨w.heap.size,6,none⟩=some (.bool si):=b2.cell 6
    have d7:w2.cell? ⟨w.heap.size,7,none⟩=some (.int .u8 fl):=b2.cell 7
    have d8:w2.cell? ⟨w.heap.size,8,none⟩=some (.slice dA dn dc):=b2.cell 8
    clear c0 c1 n1 n2 b1
    have f0:=b2.frozen 0
    have f1:=b2.frozen 1
    have f2:=b2.frozen 2
    have f3:=b2.frozen 3
    have f4:=b2.frozen 4
    have f5:=b2.frozen 5
    have f6:=b2.frozen 6
    have f7:=b2.frozen 7
    have f8:=b2.frozen 8
    go_wp2
    go_ret
    exact ⟨rfl,New.one n02 (((One.refl w.heap.size w2).set 0 _).set 1 _) (Nat.le_refl _)⟩
   obtain ⟨b,hb⟩:=same_any0 m none 0 0 it 0 false 0 dA dn dc l
   refine ⟨b,fun _=>hin,fun w hT hd=>?_⟩
   have hS:=Lib.hid (fun W (hn:New w W)=>hb W (hd.new hn))
   have HT:=Lib.hid hT
   clear hb hT hd hin
   have b0:Blk (w.alloc (.cells #[.string t,.int .i64 8,.string m,.slice sA sn sc,.int .i64 it,.int .i64 mo,.bool si,.int .u8 fl,.slice dA dn dc] 47)) w.heap.size 47 #[.string t,.int .i64 8,.string m,.slice sA sn sc,.int .i64 it,.int .i64 mo,.bool si,.int .u8 fl,.slice dA dn dc]:=Blk.new _ _ _
   have n0:New w (w.alloc (.cells #[.string t,.int .i64 8,.string m,.slice sA sn sc,.int .i64 it,.int .i64 mo,.bool si,.int .u8 fl,.slice dA dn dc] 47)):=(New.refl w).alloc _
   go_enter Tryz.func38,Tryz.ntmps38
   go_wp2_with fail
   refine (hall _).mono ?_
   rintro e w1 ⟨rfl,n1⟩
   have b1:=n1.blk b0
   have c0:w1.cell? ⟨w.heap.size,0,none⟩=some (.string t):=b1.cell 0
   have c1:w1.cell? ⟨w.heap.size,1,none⟩=some (.int .i64 8):=b1.cell 1
   go_wp2_with fail
   refine (verb_any 8 hk1 hk8 w1 (HT.out.new (n0.trans n1))).mono ?_
   rintro e w2 ⟨rfl,n2⟩
   have b2:=n2.blk b1
   have n02:=(n0.trans n1).trans n2
   have d0:w2.cell? ⟨w.heap.size,0,none⟩=some (.string t):=b2.cell 0
   have d1:w2.cell? ⟨w.heap.size,1,none⟩=some (.int .i64 8):=b2.cell 1
   have d2:w2.cell? ⟨w.heap.size,2,none⟩=some (.string m):=b2.cell 2
   have d3:w2.cell? ⟨w.heap.size,3,none⟩=some (.slice sA sn sc):=b2.cell 3
   have d4:w2.cell? ⟨w.heap.size,4,none⟩=some (.int .i64 it):=b2.cell 4
   have d5:w2.cell? ⟨w.heap.size,5,none⟩=some (.int .i64 mo):=b2.cell 5
   have d6:w2.cell? ⟨w.heap.size,6,none⟩=some (.bool si):=b2.cell 6
   have d7:w2.cell? ⟨w.heap.size,7,none⟩=some (.int .u8 fl):=b2.cell 7
   have d8:w2.cell? ⟨w.heap.size,8,none⟩=some (.slice dA dn dc):=b2.cell 8
   clear c0 c1 n1 n2 b1
   have f0:=b2.frozen 0
   have f1:=b2.frozen 1
   have f2:=b2.frozen 2
   have f3:=b2.frozen 3
   have f4:=b2.frozen 4
   have f5:=b2.frozen 5
   have f6:=b2.frozen 6
   have f7:=b2.frozen 7
   have f8:=b2.frozen 8
   go_wp2_with fail
   refine (hS.out _ (New.one n02 (((((((One.refl w.heap.size w2).set 0 _).set 1 _).set 3 _).set 5 _).set 6 _).set 7 _) (Nat.le_refl _))).mono ?_
   rintro e w3 ⟨rfl,n3⟩
   go_wp2
   go_ret
   exact ⟨rfl,(New.one n02 (((((((One.refl w.heap.size w2).set 0 _).set 1 _).set 3 _).set 5 _).set 6 _).set 7 _) (Nat.le_refl _)).trans n3⟩
 have g5:((kN:Int) == 5)=false:=beq_eq_false_iff_ne.2 (by omega)
 have g6:((kN:Int) == 6)=false:=beq_eq_false_iff_ne.2 (by omega)
 have g7:((kN:Int) == 7)=false:=beq_eq_false_iff_ne.2 (by omega)
 have g8:((kN:Int) == 8)=false:=beq_eq_false_iff_ne.2 (by omega)
 clear e5 e6 e7 e8
 obtain ⟨b,hb⟩:=same_any0 m sA sn sc it mo si fl dA dn dc l
 refine ⟨b,fun _=>hin,fun w hT hd=>?_⟩
 have hS:=Lib.hid (fun W (hn:New w W)=>hb W (hd.new hn))
 have HT:=Lib.hid hT
 clear hb hT hd hin
 have b0:Blk (w.alloc (.cells #[.string t,.int .i64 (kN:Int),.string m,.slice sA sn sc,.int .i64 it,.int .i64 mo,.bool si,.int .u8 fl,.slice dA dn dc] 47)) w.heap.size 47 #[.string t,.int .i64 (kN:Int),.string m,.slice sA sn sc,.int .i64 it,.int .i64 mo,.bool si,.int .u8 fl,.slice dA dn dc]:=Blk.new _ _ _
 have n0:New w (w.alloc (.cells #[.string t,.int .i64 (kN:Int),.string m,.slice sA sn sc,.int .i64 it,.int .i64 mo,.bool si,.int .u8 fl,.slice dA dn dc] 47)):=(New.refl w).alloc _
 go_enter Tryz.func38,Tryz.ntmps38
 go_wp2_with fail
 refine (hall _).mono ?_
 rintro e w1 ⟨rfl,n1⟩
 have b1:=n1.blk b0
 have c0:w1.cell? ⟨w.heap.size,0,none⟩=some (.string t):=b1.cell 0
 have c1:w1.cell? ⟨w.heap.size,1,none⟩=some (.int .i64 (kN:Int)):=b1.cell 1
 go_wp2_with fail
 refine (verb_any kN hk1 hk8 w1 (HT.out.new (n0.trans n1))).mono ?_
 rintro e w2 ⟨rfl,n2⟩
 have b2:=n2.blk b1
 have n02:=(n0.trans n1).trans n2
 have d0:w2.cell? ⟨w.heap.size,0,none⟩=some (.string t):=b2.cell 0
 have d1:w2.cell? ⟨w.heap.size,1,none⟩=some (.int .i64 (kN:Int)):=b2.cell 1
 have d2:w2.cell? ⟨w.heap.size,2,none⟩=some (.string m):=b2.cell 2
 have d3:w2.cell? ⟨w.heap.size,3,none⟩=some (.slice sA sn sc):=b2.cell 3
 have d4:w2.cell? ⟨w.heap.size,4,none⟩=some (.int .i64 it):=b2.cell 4
 have d5:w2.cell? ⟨w.heap.size,5,none⟩=some (.int .i64 mo):=b2.cell 5
 have d6:w2.cell? ⟨w.heap.size,6,none⟩=some (.bool si):=b2.cell 6
 have d7:w2.cell? ⟨w.heap.size,7,none⟩=some (.int .u8 fl):=b2.cell 7
 have d8:w2.cell? ⟨w.heap.size,8,none⟩=some (.slice dA dn dc):=b2.cell 8
 clear c0 c1 n1 n2 b1
 have f0:=b2.frozen 0
 have f1:=b2.frozen 1
 have f2:=b2.frozen 2
 have f3:=b2.frozen 3
 have f4:=b2.frozen 4
 have f5:=b2.frozen 5
 have f6:=b2.frozen 6
 have f7:=b2.frozen 7
 have f8:=b2.frozen 8
 go_wp2_with fail
 refine (hS.out _ (New.one n02 (((One.refl w.heap.size w2).set 0 _).set 1 _) (Nat.le_refl _))).mono ?_
 rintro e w3 ⟨rfl,n3⟩
 go_wp2
 go_ret
 exact ⟨rfl,(New.one n02 (((One.refl w.heap.size w2).set 0 _).set 1 _) (Nat.le_refl _)).trans n3⟩
theorem valid_any (c:Cmd) (hts:c.t.size≤1000000) (l:List UInt8):∃ b:Bool,(b=true→1≤c.k∧c.k≤8)∧∀ w,Tabs w→Rd (intE .u8) w (.slice c.dA c.dn c.dc) (nums l)→Calls Tryz.prog 38 #[c.val] w fun e w'=>e=.returned (.bool b)∧New w w':=by
 by_cases h:tagS c.t=false∨¬ (1≤c.k∧c.k≤8)∨31 < c.fl∨(65536:Int) < max (c.m.size:Int) (c.dn:Int)
 · exact valid_pre c.t hts c.k c.m c.sA c.sn c.sc c.it c.mo c.si c.fl c.dA c.dn c.dc l h
 · have h1:tagS c.t=true:=by
    rcases h1:tagS c.t with _ | _
    · exact absurd (.inl h1) h
    · rfl
   have h2:1≤c.k∧c.k≤8:=Decidable.byContradiction fun h2=>h (.inr (.inl h2))
   exact valid_post c.t hts c.k c.m c.sA c.sn c.sc c.it c.mo c.si c.fl c.dA c.dn c.dc l c.k.toNat (by omega) (by omega) (by omega) h1 (fun h3=>h (.inr (.inr (.inl h3)))) (fun h3=>h (.inr (.inr (.inr h3))))
end Go.Proofs.YtliimglbbiebiaaGreatDoor
end

section
namespace Go.Proofs.YtliimglbbiebiaaGreatDoor
open Go.RowKit Go.Maps
theorem xfetch_any {w0 W:World} {base:Nat} {S:Sx} {Q:Qs} {M:List Msg} {n t f:Int} {i:Int} {xs v x:Nat} {u:Value} {l:List Int} (V:SV w0 base W S Q M n t f i xs v x u l) (hn:n≤5000) (hQ:∀ i ∈ Q.ids,(Q.l i).length≤90000000)
 (c:Cmd) (s:List Rg) (hv:Rd rgE W (.slice c.sA c.sn c.sc) s) (hwf:∀ r ∈ s,r.wf) (hs:s.length≤100000) {bs OB:Nat} {vo:Value} {lo:List Rsp} (ho:OutI bs OB vo lo W) (hlo:lo.length≤1000) (hbb:base≤bs) (hbw:w0.heap.size≤bs) (hbs:bs≤W.heap.size) (hOB:base≤OB) (hOw:w0.heap.size≤OB) :
 Calls Tryz.prog 71 #[.pointer (some ⟨xs,0,none⟩),c.val,addV OB] W fun e W'=>OpR w0 base W W' S Q n f i xs (some (v,x,u,l)) bs OB vo lo e:=by
 have hl:l.length≤5000:=by have:=ascTo_len V.asc V.bd; omega
 have hsn:c.sn=s.length:=by
  obtain ⟨_,_,he,_⟩:=hv
  injection he
 obtain ⟨WA,hWA⟩:∃ WA,WA=((W.alloc (.cells #[.string c.t,.int .i64 c.k,.string c.m,.slice c.sA c.sn c.sc,.int .i64 c.it,.int .i64 c.mo,.bool c.si,.int .u8 c.fl,.slice c.dA c.dn c.dc] 47)).alloc (.cells #[.int .i64 0,.string ⟨#[]⟩] 108)):=⟨_,rfl⟩
 have nA:New W WA:=hWA ▸ ((New.refl W).alloc _).alloc _
 have cA:Blk WA W.heap.size 47 #[.string c.t,.int .i64 c.k,.string c.m,.slice c.sA c.sn c.sc,.int .i64 c.it,.int .i64 c.mo,.bool c.si,.int .u8 c.fl,.slice c.dA c.dn c.dc]:=hWA ▸ (Blk.new _ _ _).alloc _
 have rA:Blk WA (W.heap.size + 1) 108 #[.int .i64 0,.string ⟨#[]⟩]:=hWA ▸ Blk.new1 _ _ _ _
 have VA:=V.new nA
 have hWb:=V.st.hb
 have hW0:=V.st.new.size
 have hib:=V.ib
 have s0:WA.cell? ⟨xs,0,none⟩=some (.pointer (some ⟨S.s,0,none⟩)):=VA.ses.cell 0
 have s1:WA.cell? ⟨xs,1,none⟩=some (.int .i64 i):=VA.ses.cell 1
 have s2:WA.cell? ⟨xs,2,none⟩=some (.pointer (some ⟨v,0,none⟩)):=VA.ses.cell 2
 have d3:WA.cell? ⟨W.heap.size,3,none⟩=some (.slice c.sA c.sn c.sc):=cA.cell 3
 have d4:WA.cell? ⟨W.heap.size,4,none⟩=some (.int .i64 c.it):=cA.cell 4
 have hfar:∀ k,(k=v∨k=x∨u.ownBlock=some k)→¬ S.foot Q k:=by
  rintro k (rfl | rfl | hk)
  · exact VA.fv
  · exact VA.nx
  · exact VA.nu k hk
 have HG:=Lib.hid (fget_any (VA.st.more (New.refl WA).drew) (Blk.drew VA.vw) (VA.ix.new (New.refl WA).drew) (by omega) VA.bd hfar (fun j hj=>by have:=hQ j hj; omega) c.sA c.sc s (by rw [← hsn]; exact (hv.new nA).new (New.refl WA).drew) hwf hs i c.it)
 rw [← hsn] at HG
 have H:=Lib.hid (And.intro VA (And.intro nA (And.intro cA (And.intro rA (And.intro (ho.new nA) hQ)))))
 clear V VA nA cA rA hfar ho hQ hv hwf hsn
 go_enter Tryz.func71,Tryz.ntmps71
 go_wp2_with fail
 rw [← hWA]
 clear hWA
 go_region_held3 (fun W'=>W'.cell? ⟨xs,0,none⟩=some (.pointer (some ⟨S.s,0,none⟩))∧W'.cell? ⟨xs,1,none⟩=some (.int .i64 i)∧W'.cell? ⟨xs,2,none⟩=some (.pointer (some ⟨v,0,none⟩))∧W'.cell? ⟨W.heap.size,3,none⟩=some (.slice c.sA c.sn c.sc)∧W'.cell? ⟨W.heap.size,4,none⟩=some (.int .i64 c.it)) (first | go_keep | (refine ⟨?_,?_,?_,?_,?_⟩ <;> assumption)) ((first
  | (go_at_call 101
     refine HG.out.mono ?_
     rintro e w2 ⟨vo2,lo2,code,rfl,hown,hp,hlo2,hc,j,Q1,M1,hj,hg,hvw2,hix2⟩
     have VD:SV w0 base WA.drew S Q M n t f i xs v x u l:=H.out.1.new (Fr.drew (New.refl WA))
     have V2:=VD.store hg.st rfl hg.fr hg.gr (Int.le_refl _) (by rw [hg.ids]; exact VD.hi) (fun e he=>by
      obtain ⟨L,h1,_,h3⟩:=hg.ev i
      rw [h1] at he
      rcases List.mem_append.1 he with he | he
      · exact VD.ev e he
      · obtain ⟨k1,k2,k3⟩:=h3 e he
        exact ⟨by omega,k2,by omega⟩)
     have c2:=hg.fr.blk (Blk.drew H.out.2.2.1) (VD.st.not_foot (Blk.drew H.out.2.2.1) (by omega) (by decide) (by decide) (by decide) (by decide) (by decide) (by decide))
     have r2:=hg.fr.blk (Blk.drew H.out.2.2.2.1) (VD.st.not_foot (Blk.drew H.out.2.2.2.1) (by omega) (by decide) (by decide) (by decide) (by decide) (by decide) (by decide))
     have p0:w2.cell? ⟨xs,0,none⟩=some (.pointer (some ⟨S.s,0,none⟩)):=V2.ses.cell 0
     have p1:w2.cell? ⟨xs,1,none⟩=some (.int .i64 i):=V2.ses.cell 1
     have p2:w2.cell? ⟨xs,2,none⟩=some (.pointer (some ⟨v,0,none⟩)):=V2.ses.cell 2
     have p3:w2.cell? ⟨W.heap.size,3,none⟩=some (.slice c.sA c.sn c.sc):=c2.cell 3
     have p4:w2.cell? ⟨W.heap.size,4,none⟩=some (.int .i64 c.it):=c2.cell 4
     have H2:=Lib.hid (And.intro V2 (And.intro r2 (And.intro hown (And.intro hp (And.intro hlo2 (And.intro hc (And.intro hj hg)))))))
     clear VD V2 c2 r2 hown hp hlo2 hc hj hg hvw2 hix2)
  | fail))
 have hgg:=H2.out.2.2.2.2.2.2.2
 have hsd:=hgg.fr.size
 have e2:WA.drew.heap.size=WA.heap.size:=rfl
 have hsA:=H.out.2.1.size
 have hnf:∀ k ty cs,Blk WA.drew k ty cs→base≤k→(ty=50∨ty=53∨ty=5)→¬ S.foot Q k:=by
  rintro k ty cs hb hk (rfl | rfl | rfl) <;> exact (H.out.1.st.more (Fr.drew (New.refl WA))).not_foot hb hk (by decide) (by decide) (by decide) (by decide) (by decide) (by decide)
 have ho2:OutI bs OB vo lo w2:=by
  have hoA:=H.out.2.2.2.2.1
  exact (hoA.new (Fr.drew (New.refl WA))).fr hgg.fr fun k ty cs hb hk ht=>hnf k ty cs hb (by omega) ht
 have HO2:=Lib.hid ho2
 have hlen2:=H2.out.2.2.2.2.1
 have hev2:(Q1.l i).length≤91000000:=by
  obtain ⟨L,h1,h2,_⟩:=hgg.ev i
  have:=H.out.2.2.2.2.2 i H.out.1.hi
  have:=H2.out.2.2.2.2.2.2.1
  rw [h1,List.length_append]
  omega
 clear hnf ho2 hgg
 by_cases h3:code=3
 · subst h3
   go_wp2_with fail
   refine (messages_bad xs ⟨#[70,69,84,67,72]⟩ (by decide) vo2 OB w2).mono ?_
   rintro e w3 ⟨st,tx,rfl,hst,htx,n3⟩
   have b3:=n3.blk H2.out.2.1
   have c0:w3.cell? ⟨W.heap.size + 1,0,none⟩=some (.int .i64 0):=b3.cell 0
   have c1:w3.cell? ⟨W.heap.size + 1,1,none⟩=some (.string ⟨#[]⟩):=b3.cell 1
   have ff:=b3.froz
   go_wp2
   refine bodyPost_ret (results_cell1 rfl _ _ rfl (loadOut (b3.over2 (.int .i64 st) (.string tx)))) rfl ?_
   have one:=One.over2 w3 (W.heap.size + 1) (.int .i64 st) (.string tx)
   have V6:=(H2.out.1.new n3).apart one (fun k hk _=>by
    have e:k=W.heap.size + 1:=hk
    rw [e]
    exact ⟨by omega,by omega,_,.inr (.inr b3)⟩)
   have ho6:=(HO2.out.new n3).one one b3 (by decide) (by decide) (by decide)
   have g1:OpS W WA.drew S Q n i xs (some (v,x,u,l)) 0 0 (fun k=>k=OB∨vo.ownBlock=some k) S Q n (some (v,x,u,l)):=OpS.refl (Fr.drew H.out.2.1)
   have g2:=g1.trans (H2.out.2.2.2.2.2.2.2.ops (m:=5000) (R:=fun _=>False) (l:=l) (i:=i) (xs:=xs) (by have:=H2.out.2.2.2.2.2.2.1; omega)) fun _ h=>h.elim
   have g3:=(g2.trans (OpS.refl (R:=fun _=>False) n3) fun _ h=>h.elim).trans (OpS.side one) fun k e=>by have e:k=W.heap.size + 1:=e; exact .inr (by omega)
   exact ⟨st,tx,vo,lo,S,Q1,M1,n,t,some (v,x,u,l),false,rfl,⟨hst,htx⟩,ho6,⟨rfl,V6⟩,g3.weak (by omega) (by omega) fun _ _ h=>h,fun r hr=>.inl hr,by omega⟩
 · go_wp2_with fail
   refine (messages_any H2.out.1 (by omega) (by omega) ⟨#[70,69,84,67,72]⟩ (by decide) code H2.out.2.2.2.2.2.1 h3 vo2 lo2 H2.out.2.2.1.rd (by omega) (fun r hr=>(H2.out.2.2.2.1 r hr).2.mono (by omega)) HO2.out (by omega) hbb hbw (by omega) hOB hOw).mono ?_
   rintro e w3 ⟨st,tx,vo',lo',rfl,hst,ho3,hp3,hl3,v',u',l',V3,hpre,hv3,F3,st3⟩
   have b3:=F3.blk H2.out.2.1 (by
    rintro (e | e | e | e | e | e)
    · exact H2.out.1.st.not_foot H2.out.2.1 (by omega) (by decide) (by decide) (by decide) (by decide) (by decide) (by decide) e
    · exact H2.out.2.1.ne_ H2.out.1.vw (by decide) e
    · exact H2.out.2.1.ne_ H2.out.1.ix.1 (by decide) e
    · obtain ⟨cs,hc⟩:=H2.out.1.ix.2.1.heap e
      exact H2.out.2.1.ne_ hc (by decide) rfl
    · exact H2.out.2.1.ne_ HO2.out.b (by decide) e
    · exact HO2.out.r.ne_blk H2.out.2.1 (by decide) e)
   have c0:w3.cell? ⟨W.heap.size + 1,0,none⟩=some (.int .i64 0):=b3.cell 0
   have c1:w3.cell? ⟨W.heap.size + 1,1,none⟩=some (.string ⟨#[]⟩):=b3.cell 1
   have ff:=b3.froz
   go_wp2
   refine bodyPost_ret (results_cell1 rfl _ _ rfl (loadOut (b3.over2 (.int .i64 st) (.string tx)))) rfl ?_
   have one:=One.over2 w3 (W.heap.size + 1) (.int .i64 st) (.string tx)
   have V6:=V3.apart one (fun k hk _=>by
    have e:k=W.heap.size + 1:=hk
    rw [e]
    exact ⟨by omega,by omega,_,.inr (.inr b3)⟩)
   have ho6:=ho3.one one b3 (by decide) (by decide) (by decide)
   have g1:OpS W WA.drew S Q n i xs (some (v,x,u,l)) 0 0 (fun k=>k=OB∨vo.ownBlock=some k) S Q n (some (v,x,u,l)):=OpS.refl (Fr.drew H.out.2.1)
   have g2:=g1.trans (H2.out.2.2.2.2.2.2.2.ops (m:=5000) (R:=fun _=>False) (l:=l) (i:=i) (xs:=xs) (by have:=H2.out.2.2.2.2.2.2.1; omega)) fun _ h=>h.elim
   have g3:=(g2.trans (OpS.flushed (v':=v') (L:=(Q1.l i).filter fun x=>!(false || decide (x.k≠2))) (l:=l) (l':=l') hv3 F3 st3 (List.length_filter_le _ _)) fun _ h=>.inl h).trans (OpS.side one) fun k e=>by have e:k=W.heap.size + 1:=e; exact .inr (by omega)
   exact ⟨st,tx,vo',lo',S,_,M1,n,t,some (v,x,u',l'),false,rfl,hst,ho6,⟨rfl,V6⟩,g3.weak (by omega) (by omega) fun _ _ h=>h,fun r hr=>(hp3 r hr).imp id (fun h=>h.elim (fun h=>.inr ⟨_,_,_,_,rfl,(H2.out.2.2.2.1 r h).1.up hpre⟩) .inl),by omega⟩
end Go.Proofs.YtliimglbbiebiaaGreatDoor
end

