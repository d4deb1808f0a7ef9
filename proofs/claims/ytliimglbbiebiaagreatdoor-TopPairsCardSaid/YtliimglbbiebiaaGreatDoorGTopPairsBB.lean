/- A part of the proof: Task3, Resp3, Resp4, Task4, Tok2, Parse1, Parse2. -/
import Derived.Test.YtliimglbbiebiaaGreatDoorGTopPairsBA
import Derived.Test.YtliimglbbiebiaaGreatDoorGTopPairsAL
import Derived.Test.YtliimglbbiebiaaGreatDoorGTopPairsAV
import Derived.Test.YtliimglbbiebiaaGreatDoorGTopPairsAW
import Derived.Test.YtliimglbbiebiaaGreatDoorGTopPairsAB
import Derived.Defers
import Derived.Recover
set_option maxRecDepth 100000
set_option maxHeartbeats 6400000
section
namespace Go.Proofs.YtliimglbbiebiaaGreatDoor
open Go.RowKit
theorem int_info:(Tryz.prog.info? 3).map (fun i=>(i.zero,i.size,i.bytes))=some (some (.int .i64 0),1,8):=by kernel_rfl
theorem iclone_any (v:Value) (l:List Int) (w:World) (hv:Rd (intE .i64) w v l) (hl:l.length≤100000) :
 Calls Tryz.prog 32 #[v] w fun e w'=>∃ o,e=.returned o∧Own (intE .i64) 3 w.heap.size w' o l∧New w w':=by
 obtain ⟨i0,hi,hz0,hz1,hz2⟩:=info_parts int_info
 have h0:=Own.iempty .i64 3 w.heap.size w (Nat.le_refl _)
 have HV:=Lib.hid hv
 obtain ⟨A,c,rfl,hc,hcells⟩:=hv
 have hq:=fun n=>Lib.run_eql_slice_nil (P:=Tryz.prog) w 31 _ A n c 0 0 Tryz.underlying31
 cases A with
 | none =>
   have hn:l=[]:=by
    cases l with
    | nil=>rfl
    | cons x l=>obtain ⟨b,off,h,_⟩:=hcells (by simp); cases h
   clear hcells
   subst hn
   simp only [Option.isNone_none] at hq
   go_enter Tryz.func32,Tryz.ntmps32
   go_wp2
   go_ret
   exact ⟨_,rfl,Own.nil _ _ _ _,New.refl _⟩
 | some ad =>
   obtain ⟨b,off,sp⟩:=ad
   clear hcells
   simp only [Option.isNone_some] at hq
   go_enter Tryz.func32,Tryz.ntmps32
   go_wp2_with (at_builtin; refine wpList_append (E:=intE .i64) rfl _ _ _ rfl Tryz.underlying31 hi hz0 hz1 hz2 rfl h0 rfl (HV.out.alloc _) rfl (by unfold maxLen; simp; omega) (by simp; omega) (by simp) ?_; intro v1 w1 hv1 hf1 hl1)
   have hn1:New w w1:=New.append ((New.refl w).alloc _) h0 hf1
   rw [List.nil_append] at hv1
   go_ret
   exact ⟨_,rfl,hv1,hn1⟩
theorem wants1_any (G:Nat) (u:Value) (l:List Int) (k:Int) (w:World) (hG:Blk w G 31 #[u]) (hu:Rd (intE .i64) w u l) (hl:l.length≤100000) :
 Calls Tryz.prog 156 #[.int .i64 k,.pointer (some ⟨G,0,none⟩)] w fun e w'=>e=.returned (.bool (l.contains k))∧w'=w:=by
 have c0:w.cell? ⟨G,0,none⟩=some u:=hG.cell 0
 have hcall:Calls Tryz.prog 157 #[u,.int .i64 k] w fun e w'=>e=.returned (.bool (l.contains k))∧w'=w:=by
  obtain ⟨A,c,rfl,hc,hcell⟩:=hu.ints
  by_cases hne:l=[]
  · subst hne
    exact Tryz.slices_Contains_int_empty A c k w
  · obtain ⟨b,off,rfl,hcl⟩:=hcell hne
    have h:=Tryz.slices_Contains_int b off l.length c l k w (Nat.le_refl _) (by omega) (fun j hj=>by
     have:=hcl j l[j] (List.getElem?_eq_getElem hj)
     rw [this]
     simp [List.getD,hj])
    rw [List.take_length] at h
    exact h
 obtain ⟨A,c,rfl,_⟩:=hu
 go_enter Tryz.func156,Tryz.ntmps156
 go_wp2_with (go_at_call 157; refine hcall.mono ?_; rintro e w1 ⟨rfl,rfl⟩)
 go_ret
 exact ⟨by simp,rfl⟩
section
variable {w:World} {t:Nat} {bz:Bool} {c:Cmd} {ms:ByteArray} {nd:Value} {x sp lk:Nat} {a b:Int} {ah out:Value}
theorem wants_any {bm:Nat} {O:List Int} {N:Int} (h:Tsk w t bz c ms nd x sp lk a b ah out) (bx:Value) (sid:Int) (pv:Option Addr) (dn:Bool) (hs:Ses w x bx sid pv dn) (hT:Tab w lk bm O N) (l:List Int) (hnd:Rd (intE .i64) w nd l) (hok:∀ k ∈ l,okI k) (hl:l.length≤100000) :
 Calls Tryz.prog 111 #[.pointer (some ⟨t,0,none⟩)] w fun e w'=>∃ v,e=.returned v∧Own (intE .i64) 3 w.heap.size w' v (l.filter fun k=>!(heldP O sid).contains k)∧New w w':=by
 have hhl:(heldP O sid).length≤100000:=Nat.le_trans (heldP_len O sid) (Nat.le_trans hT.len (by decide))
 have c14:w.cell? ⟨t,14,none⟩=some (.pointer (some ⟨lk,0,none⟩)):=h.cell 14
 have c12:w.cell? ⟨t,12,none⟩=some (.pointer (some ⟨x,0,none⟩)):=h.cell 12
 have htl:=h.lt
 have HTT:=Lib.hid hT
 have HOK:=Lib.hid hok
 clear hT hok
 go_enter Tryz.func111,Tryz.ntmps111
 go_wp2_with fail
 go_region_held3 (fun W=>W.cell? ⟨t,14,none⟩=some (.pointer (some ⟨lk,0,none⟩))∧W.cell? ⟨t,12,none⟩=some (.pointer (some ⟨x,0,none⟩))) (first | go_keep | (refine ⟨?_,?_⟩ <;> assumption) | exact S0 _) ((first
  | (go_at_call 114
     refine (xid_any x bx sid pv dn _ (Fr.blk (S:=fun _=>False) (by repeat' first | exact New.refl _ | apply Fr.alloc | apply Fr.drewN | apply Fr.drew) hs (fun h=>h))).mono ?_
     rintro e w1 ⟨rfl,rfl⟩)
  | (go_at_call 154
     refine (lheld_any (HTT.out.new (by repeat' first | exact New.refl _ | apply Fr.alloc | apply Fr.drewN | apply Fr.drew)) sid).mono ?_
     rintro e w2 ⟨v2,rfl,hv2,m2⟩
     have n2:New w w2:=Fr.trans (by repeat' first | exact New.refl _ | apply Fr.alloc | apply Fr.drewN | apply Fr.drew) m2
     have h2:=n2.blk h
     have q14:w2.cell? ⟨t,14,none⟩=some (.pointer (some ⟨lk,0,none⟩)):=h2.cell 14
     have q12:w2.cell? ⟨t,12,none⟩=some (.pointer (some ⟨x,0,none⟩)):=h2.cell 12
     have O2:=Lib.hid (hv2.mono (b':=w.heap.size) (by first | (rw [World.size_drew]; exact Nat.le_refl _) | (show w.heap.size≤(w.alloc _).heap.size; rw [World.size_alloc]; omega) | exact Nat.le_refl _))
     obtain ⟨vA,vC,rfl,_⟩:=hv2.form
     have S0:∀ u,(w2.setCell ⟨w.heap.size,0,none⟩ u).cell? ⟨t,14,none⟩=some (.pointer (some ⟨lk,0,none⟩))∧(w2.setCell ⟨w.heap.size,0,none⟩ u).cell? ⟨t,12,none⟩=some (.pointer (some ⟨x,0,none⟩)):=fun u=>⟨Fr.cell ((One.refl w.heap.size w2).set 0 u) q14 (by show ¬ t=w.heap.size; omega),Fr.cell ((One.refl w.heap.size w2).set 0 u) q12 (by show ¬ t=w.heap.size; omega)⟩
     try (have y:=m2.blk (Blk.new w.drew 31 #[.slice none 0 0]); simp only [World.size_drew] at y; have y0:w2.cell? ⟨w.heap.size,0,none⟩=some (.slice none 0 0):=y.cell 0; have z0:w2.frozen? ⟨w.heap.size,0,none⟩=false:=y.frozen 0))
  | fail))
 all_goals
  first
  | (have bG:Blk (w2.setCell ⟨w.heap.size,0,none⟩ (.slice vA (heldP O sid).length vC)) w.heap.size 31 #[.slice vA (heldP O sid).length vC]:=y.set_ 0 _
     have n3:New w (w2.setCell ⟨w.heap.size,0,none⟩ (.slice vA (heldP O sid).length vC)):=New.one n2 ((One.refl w.heap.size w2).set 0 _) (Nat.le_refl _)
     have O3:=Lib.hid (O2.out.fr ((One.refl w.heap.size w2).set 0 (.slice vA (heldP O sid).length vC)) fun z hz e=>O2.out.blk_ne y (by decide) (by have e:z=w.heap.size:=e; rw [← e]; exact hz))
     generalize (w2.setCell ⟨w.heap.size,0,none⟩ (.slice vA (heldP O sid).length vC))=w3 at bG n3 O3 ⊢
     generalize w.heap.size=G at bG ⊢)
  | (have bG:Blk (w2.alloc (.cells #[.slice vA (heldP O sid).length vC] 31)) w2.heap.size 31 #[.slice vA (heldP O sid).length vC]:=Blk.new _ _ _
     have n3:New w (w2.alloc (.cells #[.slice vA (heldP O sid).length vC] 31)):=n2.alloc _
     have O3:=Lib.hid (O2.out.alloc (.cells #[.slice vA (heldP O sid).length vC] 31))
     generalize (w2.alloc (.cells #[.slice vA (heldP O sid).length vC] 31))=w3 at bG n3 O3 ⊢
     generalize w2.heap.size=G at bG ⊢)
  have h3:=n3.blk h
  have c11:w3.cell? ⟨t,11,none⟩=some nd:=h3.cell 11
  have HND:=Lib.hid (hnd.new n3)
  have hp:IsPredI w3 156 #[.pointer (some ⟨G,0,none⟩)] (fun k=>(heldP O sid).contains k):=fun W k _ hW=>(wants1_any G _ (heldP O sid) k W (hW.blk bG) (O3.out.rd.new hW) hhl).mono fun e w' hw=>⟨hw.1,hw.2 ▸ New.refl _⟩
  have HP:=Lib.hid hp
  clear hp h3 c14 c12 S0 q14 q12
  go_wp2_with fail
  refine (iclone_any nd l w3 HND.out hl).mono ?_
  rintro e w4 ⟨v4,rfl,hv4,m4⟩
  have hcall:=idelete_any 156 #[.pointer (some ⟨G,0,none⟩)] (fun k=>(heldP O sid).contains k) (enters_of Tryz.func156 (by kernel_rfl) rfl) v4 l w3 w4 HP.out m4 hv4 HOK.out hl
  have hmf:∀ (fn:Fn) (first cap:Array Value) (w:World),(Instr.makeFunc fn first cap).run Tryz.prog w=.ok (.func fn first cap) w:=fun _ _ _ _=>rfl
  go_wp2_with fail
  refine hcall.mono ?_
  rintro e w5 ⟨v5,rfl,hv5,hf5⟩
  go_wp2
  go_ret
  exact ⟨v5,rfl,hv5.mono n3.size,Fr.trans' (n3.trans m4) hf5 fun i hi hh=>by have:=(hv4.block hh).1; have:=n3.size; omega⟩
end
end Go.Proofs.YtliimglbbiebiaaGreatDoor
end

section
namespace Go.Proofs.YtliimglbbiebiaaGreatDoor
open Go.RowKit Go.Maps
def statS:ByteArray:=⟨#[79,75,32,78,79,32,66,65,68]⟩
def statL:List (List UInt8):=[[79,75],[78,79],[66,65,68]]
theorem stat_fields:Lib.fields statS.data.toList=statL:=by decide +kernel
theorem stat_ascii:∀ b ∈ statS.data.toList,b.toNat < 128:=by decide +kernel
theorem sfields_any (w:World) (ht:Tabs w):Calls Tryz.prog 86 #[.string statS] w fun e w'=>e=.returned (.slice (some ⟨w.heap.size,0,none⟩) 3 3)∧w'=w.alloc (.cells (statL.map fun l=>Value.string ⟨l.toArray⟩).toArray 9):=by
 have h:=Tryz.strings_Fields statS w (by decide) (fun j b hb=>stat_ascii b (List.mem_of_getElem? hb)) ht.sp
 rw [stat_fields] at h
 exact h
def statW (k:Nat):ByteArray:=⟨((statL.getD k []).toArray)⟩
def tagLine (t:ByteArray) (k:Nat) (x:ByteArray):ByteArray:=t ++ ⟨#[32]⟩ ++ statW k ++ ⟨#[32]⟩ ++ x
theorem tagged1_any (t:ByteArray) (k:Nat) (hk:k < 3) (x:ByteArray) (hts:t.size≤1000000) (hxs:x.size≤1000000) (w:World) (hT:Tabs w) :
 Calls Tryz.prog 411 #[repV t k x] w fun e w'=>e=.returned (.string (tagLine t k x))∧New w w':=by
 obtain ⟨w0,hw0⟩:∃ w0,w0=w.alloc (.cells #[.int .i64 9,.int .u32 0,.string t,.int .i64 k,.string x,.int .i64 0,.int .u8 0,.int .u32 0,.int .u32 0,.slice none 0 0] 53):=⟨_,rfl⟩
 have b0:Blk w0 w.heap.size 53 #[.int .i64 9,.int .u32 0,.string t,.int .i64 k,.string x,.int .i64 0,.int .u8 0,.int .u32 0,.int .u32 0,.slice none 0 0]:=hw0 ▸ Blk.new _ _ _
 have n0:New w w0:=hw0 ▸ (New.refl w).alloc _
 obtain ⟨k0,k1,k2,k3,k4,k5,k6,k7,k8,k9⟩:=b0.all10
 have HT:=Lib.hid (hT.new n0)
 clear hT k0 k1 k5 k6 k7 k8 k9
 have hc:∀ W:World,(W.alloc (.cells (statL.map fun l=>Value.string ⟨l.toArray⟩).toArray 9)).cell? ⟨W.heap.size,k,none⟩=some (.string (statW k)):=by
  intro W
  rw [World.cell?_alloc_new]
  have:k=0∨k=1∨k=2:=by omega
  rcases this with rfl | rfl | rfl <;> rfl
 have HC:=Lib.hid hc
 have hws:(statW k).size≤3:=by
  have:k=0∨k=1∨k=2:=by omega
  rcases this with rfl | rfl | rfl <;> decide
 have hk3:(k:Int) < 3:=by omega
 have z1:ByteArray.size ⟨#[32]⟩=1:=rfl
 have a1:¬ 9223372036854775807 < t.size + 1:=by omega
 have a2:¬ 9223372036854775807 < t.size + 1 + (statW k).size:=by omega
 have a3:¬ 9223372036854775807 < t.size + 1 + (statW k).size + 1:=by omega
 have a4:¬ 9223372036854775807 < t.size + 1 + (statW k).size + 1 + x.size:=by omega
 go_enter Tryz.func411,Tryz.ntmps411
 go_wp2_with fail
 rw [← hw0]
 clear hw0
 go_region_law ((first
  | (go_simp
     go_at_call 86
     refine (sfields_any _ (HT.out.new (by repeat' first | exact New.refl _ | apply Fr.alloc | apply Fr.drewN | apply Fr.drew))).mono ?_
     rintro e w2 ⟨rfl,rfl⟩
     have hx:=HC.out w0.drew
     simp only [World.size_drew] at hx
     have n2:New w0 (w0.drew.alloc (.cells (statL.map fun l=>Value.string ⟨l.toArray⟩).toArray 9)):=((New.refl w0).drew).alloc _
     have d2:=Fr.cell n2 k2 id
     have d3:=Fr.cell n2 k3 id
     have d4:=Fr.cell n2 k4 id
     generalize (w0.drew.alloc (.cells (statL.map fun l=>Value.string ⟨l.toArray⟩).toArray 9))=w2 at *
     go_wp2_with fail)
  | fail))
 all_goals
  go_wp2
  go_ret
  exact ⟨rfl,n0.trans n2⟩
theorem tagLine_size (t:ByteArray) (k:Nat) (x:ByteArray) (hk:k < 3) (hts:t.size≤1000000) (hxs:x.size≤1000000):(tagLine t k x).size≤2000005:=by
 have hws:(statW k).size≤3:=by
  have:k=0∨k=1∨k=2:=by omega
  rcases this with rfl | rfl | rfl <;> decide
 have z1:ByteArray.size ⟨#[32]⟩=1:=rfl
 unfold tagLine
 rw [ByteArray.size_append,ByteArray.size_append,ByteArray.size_append,ByteArray.size_append,z1]
 omega
theorem bytes_made (w:World) (s:ByteArray):∃ cap w',(convert 9 23 (.string s)).run Tryz.prog w=.ok (.slice (some ⟨w.heap.size,0,none⟩) s.size cap) w'∧Rd (intE .u8) w' (.slice (some ⟨w.heap.size,0,none⟩) s.size cap) (bytesOf s)∧New w w':=by
 refine ⟨_,_,run_bytes_of_string (P:=Tryz.prog) w 9 23 5 s Tryz.underlying9 Tryz.underlying23 Tryz.underlying5,?_,((New.refl w).drew).alloc _⟩
 refine ⟨_,_,by rw [bytesOf_len],by rw [bytesOf_len]; exact grownCap_ge _ _ _ _,fun _=>⟨_,_,rfl,fun i x hx j u hu=>?_⟩⟩
 have hj:j=0:=by
  rcases j with _ | j
  · rfl
  · simp [intE] at hu
 subst hj
 obtain rfl:u=.int .u8 x:=by simp [intE] at hu; exact hu.symm
 obtain ⟨y,hy,rfl⟩:∃ y:UInt8,s.data.toList[i]? = some y∧x=(y.toNat:Int):=by
  unfold bytesOf at hx
  rw [List.getElem?_map] at hx
  cases h:s.data.toList[i]? with
  | none=>rw [h] at hx; cases hx
  | some y=>rw [h] at hx; exact ⟨y,rfl,by simpa using hx.symm⟩
 have h1:=bytesRow_at s (grownCap w s.size 0 5) i y hy
 show (w.alloc (.cells _ 5 (_,_))).cell? ⟨w.heap.size,0 + (i * 1 + 0),none⟩=_
 simp [World.alloc,World.cell?,-World.alloc_eq,h1]
theorem tag_text (W:World):(Instr.field 428 tagF 0).run Tryz.prog W=.ok (.func (.func 411) #[] #[]) W:=by kernel_rfl
theorem print_tagged (t:ByteArray) (ht:tagS t=true) (k:Nat) (hk:k < 3) (x:ByteArray) (hx:textS x=true) (hts:t.size≤1000000) (hxs:x.size≤1000000) (w:World) (hT:Tabs w) :
 Calls Tryz.prog 272 #[repV t k x] w fun e w'=>∃ v,e=.returned (.tuple #[v,.bool true])∧Rd (intE .u8) w' v (bytesOf (tagLine t k x ++ ⟨#[13,10]⟩))∧New w w':=by
 have hsz:=tagLine_size t k x hk hts hxs
 have ha1:¬ 9223372036854775807 < (tagLine t k x).size + 2:=by omega
 have hta:=fun W (hW:Tabs W)=>tagged1_any t k hk x hts hxs W hW
 obtain ⟨ln,hln⟩:∃ ln,ln=tagLine t k x:=⟨_,rfl⟩
 rw [← hln] at ha1 hta ⊢
 clear hln hsz
 obtain ⟨w0,hw0⟩:∃ w0,w0=w.alloc (.cells #[.int .i64 9,.int .u32 0,.string t,.int .i64 k,.string x,.int .i64 0,.int .u8 0,.int .u32 0,.int .u32 0,.slice none 0 0] 53):=⟨_,rfl⟩
 have b0:Blk w0 w.heap.size 53 #[.int .i64 9,.int .u32 0,.string t,.int .i64 k,.string x,.int .i64 0,.int .u8 0,.int .u32 0,.int .u32 0,.slice none 0 0]:=hw0 ▸ Blk.new _ _ _
 have n0:New w w0:=hw0 ▸ (New.refl w).alloc _
 have HT:=Lib.hid (hT.new n0)
 clear hT
 obtain ⟨k0,k1,k2,k3,k4,k5,k6,k7,k8,k9⟩:=b0.all10
 go_enter Tryz.func272,Tryz.ntmps272
 go_wp2_with fail
 rw [← hw0]
 refine (valid_tagged t ht hts k (by omega) (by omega) x hx hxs w0).mono ?_
 rintro e w1 ⟨rfl,m1⟩
 have b1:=m1.blk b0
 have n1:=n0.trans m1
 have HT1:=Lib.hid (HT.out.new m1)
 clear hw0 k0 k1 k2 k3 k4 k5 k6 k7 k8 k9 b0 n0 HT m1
 obtain ⟨k0,k1,k2,k3,k4,k5,k6,k7,k8,k9⟩:=b1.all10
 go_wp2_with fail
 have hfd0:=tag_text
 go_region_law ((first
  | (go_simp
     go_at_call 316
     refine (forms_any _).mono ?_
     rintro e w2 ⟨rfl,m2,g1,g2,g3,g6,g7,g8,g10,hB2,hM2⟩
     have hnq:New w1 w2:=Fr.trans (by repeat' first | exact New.refl _ | apply Fr.alloc | apply Fr.drewN | apply Fr.drew) m2
     have b2:=hnq.blk b1
     obtain ⟨p0,p1,p2,p3,p4,p5,p6,p7,p8,p9⟩:=b2.all10
     have hl:=hM2.run_look (t:=429) (e:=428) Tryz.underlying429 (zeroForm w2) okI9
     change (Instr.lookup 429 _ (.int .i64 9) false).run Tryz.prog w2=.ok tagF w2 at hl
     simp only [World.size_drew] at hl
     have hfd:=tag_text w2
     have HT2:=Lib.hid (HT1.out.new hnq)
     go_wp2_with fail)
  | (go_simp
     go_at_call 411
     refine (hta _ HT2.out).mono ?_
     rintro e w3 ⟨rfl,m3⟩
     have b3:=m3.blk b2
     obtain ⟨q0,q1,q2,q3,q4,q5,q6,q7,q8,q9⟩:=b3.all10
     obtain ⟨cap,w4,hcv,hrd,m4⟩:=bytes_made w3 (ln ++ ⟨#[13,10]⟩)
     have b4:=m4.blk b3
     obtain ⟨r0,r1,r2,r3,r4,r5,r6,r7,r8,r9⟩:=b4.all10
     have e2:(ln ++ ⟨#[13,10]⟩).size=ln.size + 2:=by rw [ByteArray.size_append]; rfl
     rw [e2] at hrd
     have HRD:=Lib.hid hrd
     clear hrd
     go_wp2_with fail)
  | fail))
 all_goals
  go_wp2
  go_ret2
  exact ⟨_,rfl,HRD.out,((n1.trans hnq).trans m3).trans m4⟩
end Go.Proofs.YtliimglbbiebiaaGreatDoor
end

section
namespace Go.Proofs.YtliimglbbiebiaaGreatDoor
open Go.RowKit
theorem flatTake {α:Type} (f:α→List Int) (l:List α) (k:Nat) (x:α) (h:l[k]? = some x):(l.take (k + 1)).flatMap f=(l.take k).flatMap f ++ f x:=by
 rw [List.take_add_one,h]
 simp
theorem flat_len {α:Type} (f:α→List Int) (B:Nat) (l:List α) (hb:∀ r ∈ l,(f r).length≤B):(l.flatMap f).length≤l.length * B:=by
 induction l with
 | nil=>simp
 | cons a l ih =>
   have h1:=hb a (List.mem_cons_self ..)
   have h2:=ih fun r hr=>hb r (List.mem_cons_of_mem _ hr)
   rw [List.flatMap_cons,List.length_append,List.length_cons,Nat.add_mul]
   omega
theorem rall_any (l:List Rsp) (f:Rsp→List Int) (u:Value) (w:World) (hu:Rd rspE w u l) (hl:l.length≤10000) (hf:∀ r ∈ l,(f r).length≤10000000)
 (hp:∀ r ∈ l,∀ W,New w W→Calls Tryz.prog 272 #[r.val] W fun e W'=>∃ v q,e=.returned (.tuple #[v,.bool q])∧Rd (intE .u8) W' v (f r)∧New W W') :
 Calls Tryz.prog 205 #[u] w fun e w'=>∃ v,e=.returned v∧Own (intE .u8) 5 w.heap.size w' v (l.flatMap f)∧New w w':=by
 obtain ⟨i0,hi,hz0,hz1,hz2⟩:=info_parts u8_info
 obtain ⟨A,C,rfl,hC,hcell⟩:=hu
 have HC:=Lib.hid hcell
 have HP:=Lib.hid hp
 have HF:=Lib.hid hf
 have HCC:=Lib.hid hC
 clear hcell hp hf hC
 go_enter Tryz.func205,Tryz.ntmps205
 go_wp2
 go_loopw [3,10] (fun vo vi wr=>∃ (k:Nat),k≤l.length∧vi=.int .i64 k∧Own (intE .u8) 5 w.heap.size wr vo ((l.take k).flatMap f)∧New w wr) (fun _ vi _=>l.length - (intOf vi).toNat)
 case atStart=>exact ⟨0,Nat.zero_le _,rfl,Own.nil _ _ _ _,New.refl w⟩
 case round =>
  obtain ⟨k,hk,rfl,ho,hn⟩:=hrel
  by_cases hkl:k < l.length
  · obtain ⟨x,hx⟩:∃ x,l[k]? = some x:=⟨_,List.getElem?_eq_getElem hkl⟩
    obtain ⟨bb,off,rfl,hcell⟩:=HC.out (by rintro rfl; simp at hkl)
    have hm:=List.mem_of_getElem? hx
    have hpx:=HP.out x hm
    have hfx:=HF.out x hm
    have hft:=flatTake f l k x hx
    have htl:=flat_len f 10000000 (l.take k) fun r hr=>HF.out r (List.mem_of_mem_take hr)
    rw [List.length_take,Nat.min_eq_left (by omega)] at htl
    have c:=hcell k _ hx
    obtain ⟨rk,rn,rt,rst,rx,rit,rfl',ruid,rsz,rA,rbn,rbc⟩:=x
    have c0:wr.cell? ⟨bb,off + k * 10,none⟩=some (.int .i64 rk):=Fr.cell hn (c 0 _ rfl) id
    have c1:wr.cell? ⟨bb,off + k * 10 + 1,none⟩=some (.int .u32 rn):=Fr.cell hn (c 1 _ rfl) id
    have c2:wr.cell? ⟨bb,off + k * 10 + 2,none⟩=some (.string rt):=Fr.cell hn (c 2 _ rfl) id
    have c3:wr.cell? ⟨bb,off + k * 10 + 3,none⟩=some (.int .i64 rst):=Fr.cell hn (c 3 _ rfl) id
    have c4:wr.cell? ⟨bb,off + k * 10 + 4,none⟩=some (.string rx):=Fr.cell hn (c 4 _ rfl) id
    have c5:wr.cell? ⟨bb,off + k * 10 + 5,none⟩=some (.int .i64 rit):=Fr.cell hn (c 5 _ rfl) id
    have c6:wr.cell? ⟨bb,off + k * 10 + 6,none⟩=some (.int .u8 rfl'):=Fr.cell hn (c 6 _ rfl) id
    have c7:wr.cell? ⟨bb,off + k * 10 + 7,none⟩=some (.int .u32 ruid):=Fr.cell hn (c 7 _ rfl) id
    have c8:wr.cell? ⟨bb,off + k * 10 + 8,none⟩=some (.int .u32 rsz):=Fr.cell hn (c 8 _ rfl) id
    have c9:wr.cell? ⟨bb,off + k * 10 + 9,none⟩=some (.slice rA rbn rbc):=Fr.cell hn (c 9 _ rfl) id
    have HPX:=Lib.hid hpx
    have HFT:=Lib.hid hft
    have HTL:=Lib.hid htl
    obtain ⟨fx,hfxe⟩:∃ fx,fx=f ⟨rk,rn,rt,rst,rx,rit,rfl',ruid,rsz,rA,rbn,rbc⟩:=⟨_,rfl⟩
    rw [← hfxe] at hfx
    have HFXE:=Lib.hid hfxe
    obtain ⟨fk,hfk⟩:∃ fk,fk=(l.take k).flatMap f:=⟨_,rfl⟩
    rw [← hfk] at ho
    have HFK:=Lib.hid hfk
    have hfl:fk.length≤k * 10000000:=by rw [hfk]; exact htl
    clear hcell c hx hm hpx hft htl hfxe hfk
    obtain ⟨oA,oc,rfl,hoc⟩:=ho.form
    go_wp2_with fail
    refine (HPX.out _ (hn.alloc _)).mono ?_
    rintro e w3 ⟨v,q,rfl,hrd,m3⟩
    have n3:=(hn.alloc _).trans m3
    have o3:=(ho.alloc _).new m3
    rw [← HFXE.out] at hrd
    have hbs:=n3.size
    clear ho
    go_wp2_with (at_builtin; refine wpList_append (E:=intE .u8) rfl _ _ _ rfl Tryz.underlying23 hi hz0 hz1 hz2 rfl o3 rfl hrd rfl (by unfold maxLen; omega) (by omega) (by omega) ?_; intro v1 w1 hv1 hf1 hl1; have hn1:New w w1:=New.append n3 o3 hf1)
    go_roundw
    case rel=>exact ⟨k + 1,by omega,by go_num,by rw [HFT.out,← HFXE.out,← HFK.out]; exact hv1,hn1⟩
    case measure=>simp [intOf]; omega
  · go_wp2
    go_ret
    have e1:l.take k=l:=List.take_of_length_le (by omega)
    rw [e1] at ho
    exact ⟨_,rfl,ho,hn⟩
end Go.Proofs.YtliimglbbiebiaaGreatDoor
end

section
namespace Go.Proofs.YtliimglbbiebiaaGreatDoor
open Go.RowKit
section
variable {w:World} {t:Nat} {bz:Bool} {c:Cmd} {ms:ByteArray} {nd:Value} {x sp lk:Nat} {a b:Int} {ah out:Value}
theorem write_any (base:Nat) (u:Value) (lo m:List Int) (h:Tsk w t bz c ms nd x sp lk a b ah out) (ho:Own (intE .u8) 5 base w out lo) (hl:lo.length + m.length≤1000000000000) (hbase:base≤w.heap.size)
 (hA:∀ W,New w W→Calls Tryz.prog 205 #[u] W fun e W'=>∃ v,e=.returned v∧Own (intE .u8) 5 W.heap.size W' v m∧New W W') :
 Calls Tryz.prog 151 #[.pointer (some ⟨t,0,none⟩),u] w fun e w'=>e=.returned (.tuple #[])∧∃ out',Tsk w' t bz c ms nd x sp lk a b ah out'∧Own (intE .u8) 5 base w' out' (lo ++ m)∧Fr (fun k=>k=t∨out.ownBlock=some k) w w':=by
 obtain ⟨i0,hi,hz0,hz1,hz2⟩:=info_parts u8_info
 obtain ⟨oA,oC,rfl,hoC⟩:=ho.form
 have c18:w.cell? ⟨t,18,none⟩=some (.slice oA lo.length oC):=h.cell 18
 have htl:=h.lt
 have HO:=Lib.hid ho
 have HA:=Lib.hid hA
 clear ho hA
 go_enter Tryz.func151,Tryz.ntmps151
 go_wp2_with fail
 go_region_law ((first
  | (go_simp
     go_at_call 205
     refine (HA.out _ (by repeat' first | exact New.refl _ | apply Fr.alloc | apply Fr.drewN | apply Fr.drew)).mono ?_
     rintro e w2 ⟨v2,rfl,hv2,m2⟩
     have n2:New w w2:=Fr.trans (by repeat' first | exact New.refl _ | apply Fr.alloc | apply Fr.drewN | apply Fr.drew) m2
     have h2:=n2.blk h
     have q18:w2.cell? ⟨t,18,none⟩=some (.slice oA lo.length oC):=h2.cell 18
     have O2:=Lib.hid (HO.out.new n2)
     have R2:=Lib.hid hv2.rd
     have N2:=Lib.hid (Nat.le_trans hbase n2.size)
     obtain ⟨vA,vC,rfl,_⟩:=hv2.form
     go_wp2_with fail)
  | (refine step_append_list (E:=intE .u8) (l:=lo) (v:=.slice oA lo.length oC) (by rfl) (.tmp 8) (.tmp 10) 23 (by rfl) Tryz.underlying23 hi hz0 hz1 hz2 rfl (by rfl) (by rfl) m O2.out R2.out (by unfold maxLen; omega) (by omega) N2.out ?_
     intro A7 C7 w7 ho7 hf7 hl7
     rw [List.length_append] at ho7
     have t7:=Fr.blk hf7 h2 (fun e=>O2.out.blk_ne h2 (by decide) e)
     have z18:w7.cell? ⟨t,18,none⟩=some (.slice oA lo.length oC):=t7.cell 18
     have y18:w7.frozen? ⟨t,18,none⟩=false:=t7.frozen 18
     have O7:=Lib.hid ho7
     have F7:=Lib.hid hf7
     clear ho7 hf7 hl7)
  | fail))
 all_goals
  go_end0
  have t8:Tsk (w7.setCell ⟨t,18,none⟩ (.slice A7 (lo.length + m.length) C7)) t bz c ms nd x sp lk a b ah (.slice A7 (lo.length + m.length) C7):=by
   have q:=t7.set_ 18 (.slice A7 (lo.length + m.length) C7)
   simpa using q
  refine ⟨rfl,_,t8,O7.out.fr ((One.refl t w7).set 18 _) fun z hz e=>O7.out.blk_ne t7 (by decide) (by have e:z=t:=e; rw [← e]; exact hz),?_⟩
  exact Fr.trans (Fr.trans (n2.mono fun _ _ h=>h.elim) (F7.out.mono fun k _ hk=>.inr hk)) ((Fr.refl _ w7).setCell (p:=⟨t,18,none⟩) (fun _=>.inl rfl) _)
end
end Go.Proofs.YtliimglbbiebiaaGreatDoor
end

section
namespace Go.Proofs.YtliimglbbiebiaaGreatDoor
open Go.RowKit Go.Maps
abbrev bKeys:KeyEnc Tryz.prog 5 Int:=intKeys Tryz.underlying5
theorem zeroBFn (w:World):(zeroValue 437).run Tryz.prog w=.ok .nilFunc w:=by kernel_rfl
theorem readL_none (p q r s t:Value) (x:Int) (h0:x≠32) (h1:x≠40) (h2:x≠41) (h3:x≠34) (h4:x≠123):get (put (put (put (put (put [] 32 p) 40 q) 41 r) 34 s) 123 t) x=none:=by
 rw [get_put_other _ _ h4,get_put_other _ _ h3,get_put_other _ _ h2,get_put_other _ _ h1,get_put_other _ _ h0,get_nil]
theorem word_not {x:Int} (h:wordB x=true):x≠32∧x≠40∧x≠41∧x≠34∧x≠123:=by
 refine ⟨?_,?_,?_,?_,?_⟩ <;> (rintro rfl; revert h; decide)
theorem next_word (r b off c:Nat) (l:List UInt8) (hl:l.length≤1000000) (hc:l.length≤c) (hw:∀ x ∈ l,wordB (x.toNat:Int)=true) (h0:0 < l.length) (w:World) (hr:Blk w r 433 #[.slice (some ⟨b,off,none⟩) l.length c,.int .i64 0]) (hb:Bts w b off l) (hbr:b≠r) :
 Calls Tryz.prog 317 #[.pointer (some ⟨r,0,none⟩)] w fun e w'=>e=.returned (.tuple #[.agg #[.int .i64 4,.string ⟨l.toArray⟩,.int .i64 0],.bool true])∧Blk w' r 433 #[.slice (some ⟨b,off,none⟩) l.length c,.int .i64 l.length]∧One r w w':=by
 have hlt:=hr.lt
 obtain ⟨x0,hx0⟩:∃ x0,l[0]? = some x0:=⟨_,List.getElem?_eq_getElem h0⟩
 have hwx:=hw x0 (List.mem_of_getElem? hx0)
 have hbx:=hb 0 x0 hx0
 rw [Nat.add_zero] at hbx
 have hok:bKeys.ok (x0.toNat:Int):=by
  have:=x0.toNat_lt
  have h2:IntKind.u8.min≤(x0.toNat:Int):=by rw [show IntKind.u8.min=0 from rfl]; omega
  have h3:(x0.toNat:Int)≤IntKind.u8.max:=by rw [show IntKind.u8.max=255 from rfl]; omega
  show (Lit.int .u8 _).wf=true
  simp [Lit.wf,h2,h3]
 have N0:=Lib.hid (word_not hwx)
 have hblt:b < w.heap.size:=World.block_lt_of_cell? _ _ hbx
 generalize (x0.toNat:Int)=x at *
 have HOK:=Lib.hid hok
 clear hok
 have hmm:=@run_makeMap Tryz.prog
 have hmf:∀ (fn:Fn) (first cap:Array Value) (w:World),(Instr.makeFunc fn first cap).run Tryz.prog w=.ok (.func fn first cap) w:=fun _ _ _ _=>rfl
 have h00:=HasMap.made bKeys (w.alloc (.cells #[.int .i64 0,.string ⟨#[]⟩,.int .i64 0] 435))
 rw [World.size_alloc] at h00
 have c0:w.cell? ⟨r,0,none⟩=some (.slice (some ⟨b,off,none⟩) l.length c):=hr.cell 0
 have c1:w.cell? ⟨r,1,none⟩=some (.int .i64 0):=hr.cell 1
 have e0:((w.alloc (.cells #[.int .i64 0,.string ⟨#[]⟩,.int .i64 0] 435)).alloc (.map #[] 0)).cell? ⟨r,0,none⟩=some (.slice (some ⟨b,off,none⟩) l.length c):=((hr.alloc _).alloc _).cell 0
 have e2:((w.alloc (.cells #[.int .i64 0,.string ⟨#[]⟩,.int .i64 0] 435)).alloc (.map #[] 0)).cell? ⟨b,off,none⟩=some (.int .u8 x):=by
  rw [World.cell?_alloc_past _ _ _ (by simp; omega),World.cell?_alloc_past _ _ _ hblt]
  exact hbx
 go_enter Tryz.func317,Tryz.ntmps317
 go_wp2_with (first
  | (refine wpList_ins (E:=bKeys) rfl _ _ _ 470 437 rfl Tryz.underlying470 h00 (Nat.lt_of_le_of_lt (Nat.le_refl 0) (by unfold maxLen; decide)) 32 (by show (Lit.int .u8 32).wf=true; decide) _ rfl rfl rfl ?_; intro zw1 zm1 zo1)
  | (refine wpList_ins (E:=bKeys) rfl _ _ _ 470 437 rfl Tryz.underlying470 zm1 (Nat.lt_of_le_of_lt (ins_len (Nat.le_refl 0)) (by unfold maxLen; decide)) 40 (by show (Lit.int .u8 40).wf=true; decide) _ rfl rfl rfl ?_; intro zw2 zm2 zo2)
  | (refine wpList_ins (E:=bKeys) rfl _ _ _ 470 437 rfl Tryz.underlying470 zm2 (Nat.lt_of_le_of_lt (ins_len (ins_len (Nat.le_refl 0))) (by unfold maxLen; decide)) 41 (by show (Lit.int .u8 41).wf=true; decide) _ rfl rfl rfl ?_; intro zw3 zm3 zo3)
  | (refine wpList_ins (E:=bKeys) rfl _ _ _ 470 437 rfl Tryz.underlying470 zm3 (Nat.lt_of_le_of_lt (ins_len (ins_len (ins_len (Nat.le_refl 0)))) (by unfold maxLen; decide)) 34 (by show (Lit.int .u8 34).wf=true; decide) _ rfl rfl rfl ?_; intro zw4 zm4 zo4)
  | (refine wpList_ins (E:=bKeys) rfl _ _ _ 470 437 rfl Tryz.underlying470 zm4 (Nat.lt_of_le_of_lt (ins_len (ins_len (ins_len (ins_len (Nat.le_refl 0))))) (by unfold maxLen; decide)) 123 (by show (Lit.int .u8 123).wf=true; decide) _ rfl rfl rfl ?_; intro zw5 zm5 zo5
     have hlk:(Instr.lookup 470 (.map (some (w.heap.size + 1))) (.int .u8 x) true).run Tryz.prog zw5=.ok (.tuple #[.nilFunc,.bool false]) zw5:=by
      have h:=zm5.run_look_ok (t:=470) (e:=437) Tryz.underlying470 (zeroBFn zw5) HOK.out
      rw [readL_none _ _ _ _ _ x N0.out.1 N0.out.2.1 N0.out.2.2.1 N0.out.2.2.2.1 N0.out.2.2.2.2] at h
      exact h
     have hz5:Fr (fun k=>k=w.heap.size + 1) (((w.alloc (.cells #[.int .i64 0,.string ⟨#[]⟩,.int .i64 0] 435)).alloc (.map #[] 0))) zw5:=zo1.trans (zo2.trans (zo3.trans (zo4.trans zo5)))
     have d0:zw5.cell? ⟨r,0,none⟩=some (.slice (some ⟨b,off,none⟩) l.length c):=Fr.cell hz5 e0 (by simp; omega)
     have d2:zw5.cell? ⟨b,off,none⟩=some (.int .u8 x):=Fr.cell hz5 e2 (by simp; omega)))
 have hz:=zo1.trans (zo2.trans (zo3.trans (zo4.trans zo5)))
 have t0:Blk ((w.alloc (.cells #[.int .i64 0,.string ⟨#[]⟩,.int .i64 0] 435)).alloc (.map #[] 0)) w.heap.size 435 #[.int .i64 0,.string ⟨#[]⟩,.int .i64 0]:=(Blk.new _ _ _).alloc _
 have t5:Blk zw5 w.heap.size 435 #[.int .i64 0,.string ⟨#[]⟩,.int .i64 0]:=Fr.blk hz t0 (by omega)
 have r5:Blk zw5 r 433 #[.slice (some ⟨b,off,none⟩) l.length c,.int .i64 0]:=Fr.blk hz ((hr.alloc _).alloc _) (by omega)
 have b5:Bts zw5 b off l:=(hb.new (((New.refl w).alloc _).alloc _)).fr hz (by omega)
 have s5:=hz.size
 rw [World.size_alloc,World.size_alloc] at s5
 have n5:New w zw5:=New.one (((New.refl w).alloc _).alloc _) hz (by omega)
 clear zm1 zm2 zm3 zm4 zm5 zo1 zo2 zo3 zo4 zo5 h00 hz t0
 refine (word_all r b off c l hl hc hw h0 zw5 r5 b5 hbr).mono ?_
 rintro e w6 ⟨rfl,r6,o6⟩
 have t6:Blk w6 w.heap.size 435 #[.int .i64 0,.string ⟨#[]⟩,.int .i64 0]:=o6.blk t5 (by omega)
 have s6:=o6.size
 have n6:One r w w6:=Fr.trans' (fr_or n5 fun _ h=>h.elim) o6 fun i _ h=>h
 have g0:w6.cell? ⟨w.heap.size,0,none⟩=some (.int .i64 0):=t6.cell 0
 have g1:w6.cell? ⟨w.heap.size,1,none⟩=some (.string ⟨#[]⟩):=t6.cell 1
 have g2:w6.cell? ⟨w.heap.size,2,none⟩=some (.int .i64 0):=t6.cell 2
 have k0:w6.frozen? ⟨w.heap.size,0,none⟩=false:=t6.frozen 0
 have k1:w6.frozen? ⟨w.heap.size,1,none⟩=false:=t6.frozen 1
 have k2:w6.frozen? ⟨w.heap.size,2,none⟩=false:=t6.frozen 2
 have hlt6:w.heap.size < w6.heap.size:=by omega
 clear t5 r5 b5 n5 o6 s5 s6
 go_wp2
 have hne:r≠w.heap.size:=by omega
 have q:=(((t6.set_ 0 (.int .i64 4)).set_ 1 (.string ⟨l.toArray⟩)).set_ 2 (.int .i64 0)).alloc (.cells #[.int .i64 4,.string ⟨l.toArray⟩,.int .i64 0] 435)
 refine bodyPost_ret (results_ct rfl _ _ rfl rfl (loadTok q)) rfl ?_
 exact ⟨rfl,(((r6.far (by simpa using hne) _).far (by simpa using hne) _).far (by simpa using hne) _).alloc _,(Fr.setCell (Fr.setCell (Fr.setCell n6 (by simp) _) (by simp) _) (by simp) _).alloc _⟩
theorem next_end (r:Nat) (A:Option Addr) (n c:Nat) (w:World) (hr:Blk w r 433 #[.slice A n c,.int .i64 n]) :
 Calls Tryz.prog 317 #[.pointer (some ⟨r,0,none⟩)] w fun e w'=>e=.returned (.tuple #[.agg #[.int .i64 0,.string ⟨#[]⟩,.int .i64 n],.bool true])∧New w w':=by
 have hlt:=hr.lt
 have c0:w.cell? ⟨r,0,none⟩=some (.slice A n c):=hr.cell 0
 have c1:w.cell? ⟨r,1,none⟩=some (.int .i64 n):=hr.cell 1
 have t0:Blk (w.alloc (.cells #[.int .i64 0,.string ⟨#[]⟩,.int .i64 n] 435)) w.heap.size 435 #[.int .i64 0,.string ⟨#[]⟩,.int .i64 n]:=Blk.new _ _ _
 go_enter Tryz.func317,Tryz.ntmps317
 go_wp2
 refine bodyPost_ret (results_ct rfl _ _ rfl rfl (loadTok t0)) rfl ?_
 exact ⟨rfl,(New.refl w).alloc _⟩
structure Tk where
 k:Int
 s:ByteArray
 at_:Int
def tokE:Elem Tk where
 enc x:=[.int .i64 x.k,.string x.s,.int .i64 x.at_]
 sz:=3
 len _:=rfl
 one x u hu:=by simp at hu; rcases hu with rfl | rfl | rfl <;> rfl
 pos:=by omega
theorem tok_info:(Tryz.prog.info? 435).map (fun i=>(i.zero,i.size,i.bytes))=some (some (.agg #[.int .i64 0,.string ⟨#[]⟩,.int .i64 0]),3,32):=by kernel_rfl
theorem tokens_word (b off c:Nat) (l:List UInt8) (hl:l.length≤1000000) (hc:l.length≤c) (hw:∀ x ∈ l,wordB (x.toNat:Int)=true) (h0:0 < l.length) (w:World) (hb:Bts w b off l) (hblt:b < w.heap.size) :
 Calls Tryz.prog 275 #[.slice (some ⟨b,off,none⟩) l.length c] w fun e w'=>∃ o,e=.returned (.tuple #[o,.int .i64 (-1)])∧Own tokE 435 w.heap.size w' o [⟨4,⟨l.toArray⟩,0⟩,⟨0,⟨#[]⟩,l.length⟩]∧New w w':=by
 obtain ⟨i0,hi,hz0,hz1,hz2⟩:=info_parts tok_info
 have hr0:Blk (w.alloc (.cells #[.slice (some ⟨b,off,none⟩) l.length c,.int .i64 0] 433)) w.heap.size 433 #[.slice (some ⟨b,off,none⟩) l.length c,.int .i64 0]:=Blk.new _ _ _
 go_enter Tryz.func275,Tryz.ntmps275
 go_wp2_with fail
 refine wp_loop_rounds 2 ?_
 rw [rounds_succ]
 go_wp2_with fail
 refine (next_word w.heap.size b off c l hl hc hw h0 _ hr0 (hb.new ((New.refl w).alloc _)) (by omega)).mono ?_
 rintro e w1 ⟨rfl,r1,o1⟩
 have n1:New w w1:=New.one ((New.refl w).alloc _) o1 (Nat.le_refl _)
 have s1:=o1.size
 rw [World.size_alloc] at s1
 go_wp2_with (at_builtin; refine wpList_push (E:=tokE) rfl _ _ _ rfl Tryz.underlying376 hi hz0 hz1 hz2 rfl (Own.nil tokE 435 w.heap.size _) rfl ⟨4,⟨l.toArray⟩,0⟩ (w1.heap.size + 1) (Blk.new1 _ _ _ _) 1 rfl (by unfold maxLen; simp) (by simp) (by simp; omega) ?_; intro v2 w2 hv2 hf2 hl2; have tv2:w2.cell? ⟨w1.heap.size,0,none⟩=some (.int .i64 4):=(Fr.blk hf2 ((Blk.new w1 435 #[.int .i64 4,.string ⟨l.toArray⟩,.int .i64 0]).alloc _) (by simp [Value.ownBlock])).cell 0)
 have r2:Blk w2 w.heap.size 433 #[.slice (some ⟨b,off,none⟩) l.length c,.int .i64 l.length]:=Fr.blk hf2 ((r1.alloc _).alloc _) (by simp [Value.ownBlock])
 have n2:New w w2:=n1.trans (((New.refl w1).alloc _).alloc _ |>.trans (hf2.mono fun _ _ h=>by simp [Value.ownBlock] at h))
 rw [List.nil_append] at hv2
 clear r1 n1 hr0 s1
 have s2:=n2.size
 have rc1:w2.cell? ⟨w.heap.size,1,none⟩=some (.int .i64 l.length):=r2.cell 1
 rw [rounds_succ]
 go_wp2_with fail
 refine (next_end w.heap.size _ l.length c w2 r2).mono ?_
 rintro e w3 ⟨rfl,n3⟩
 have hv3:=hv2.new n3
 have n03:=n2.trans n3
 have s3:=n3.size
 clear hv2 hf2 tv2 r2 n2 n3
 go_wp2_with (at_builtin; refine wpList_push (E:=tokE) rfl _ _ _ rfl Tryz.underlying376 hi hz0 hz1 hz2 rfl ((hv3.alloc _).alloc _) rfl ⟨0,⟨#[]⟩,l.length⟩ (w3.heap.size + 1) (Blk.new1 _ _ _ _) 1 rfl (by unfold maxLen; simp) (by simp) (by simp; omega) ?_; intro v4 w4 hv4 hf4 hl4; have tv4:w4.cell? ⟨w3.heap.size,0,none⟩=some (.int .i64 0):=(Fr.blk hf4 ((Blk.new w3 435 #[.int .i64 0,.string ⟨#[]⟩,.int .i64 l.length]).alloc _) (fun e=>by have:=(hv3.block e).2; omega)).cell 0)
 go_ret2
 refine ⟨_,rfl,hv4,?_⟩
 exact New.append ((n03.alloc _).alloc _) ((hv3.alloc _).alloc _) hf4
end Go.Proofs.YtliimglbbiebiaaGreatDoor
end

section
namespace Go.Proofs.YtliimglbbiebiaaGreatDoor
open Go.RowKit Go.Maps
theorem parse1_idle (a b c:Value) (w:World) :
 CallsD Tryz.prog 273 #[a,b,c] .returning w fun e u' w'=>e=.returned (.tuple #[])∧u'=.returning∧w'=w:=by
 refine callsD_of_wpS Tryz.func273 rfl fun c₀ cs hu=>?_
 apply wpS_seq
 apply wpS_region
 simp [wpOpsS,go_sem,recoverD,hu,Tryz.ntmps273,Exit.thenS]
 refine wpS_of_wp ?_
 go_wp2
 cases c₀
 simp_all [bodyPostS,results,Tryz.results273]
theorem need_true (w:World):Calls Tryz.prog 274 #[.bool true] w fun e w'=>e=.returned (.tuple #[])∧w'=w:=by
 go_enter Tryz.func274,Tryz.ntmps274
 go_wp2
 go_end0
 exact ⟨rfl,rfl⟩
theorem ptake_ok (p g off n c kb kc:Nat) (k:Int) (s:ByteArray) (a:Int) (x0 x1 x2 x3 x4 x5 x6 x7 x8:Value) (_hnc:n + 1≤c) (w:World) (hk:w.cell? ⟨kb,0,none⟩=some (.int .i64 k))
 (hp:Blk w p 381 #[.slice (some ⟨g,off,none⟩) (n + 1) c,x0,x1,x2,x3,x4,x5,x6,x7,x8])
 (t0:w.cell? ⟨g,off,none⟩=some (.int .i64 k)) (t1:w.cell? ⟨g,off + 1,none⟩=some (.string s)) (t2:w.cell? ⟨g,off + 2,none⟩=some (.int .i64 a)) :
 Calls Tryz.prog 277 #[.pointer (some ⟨p,0,none⟩),.slice (some ⟨kb,0,none⟩) 1 kc] w fun e w'=>e=.returned (.string s)∧One p w w' ∧
  ∃ v,Blk w' p 381 #[v,x0,x1,x2,x3,x4,x5,x6,x7,x8]∧(1 < c→v=.slice (some ⟨g,off + 3,none⟩) n (c - 1)):=by
 have c0:w.cell? ⟨p,0,none⟩=some (.slice (some ⟨g,off,none⟩) (n + 1) c):=hp.cell 0
 have hplt:=hp.lt
 have hkb:=World.block_lt_of_cell? _ _ hk
 have hcon:=Tryz.slices_Contains_int kb 0 1 kc [k] k (w.alloc (.cells #[.int .i64 k,.string s,.int .i64 a] 435)) (Nat.le_refl _) (by decide) (fun j hj=>by
  obtain rfl:j=0:=by simpa using hj
  rw [World.cell?_alloc_past _ _ _ hkb]
  exact hk)
 have f0:w.frozen? ⟨p,0,none⟩=false:=hp.frozen 0
 go_enter Tryz.func277,Tryz.ntmps277
 go_wp2_with (go_at_call 157; refine hcon.mono ?_; rintro e w1 ⟨rfl,rfl⟩)
 refine (need_true _).mono ?_
 rintro e w2 ⟨rfl,rfl⟩
 go_wp2
 all_goals
  go_ret
  first
   | exact ⟨rfl,((One.refl p w).set 0 _).alloc _,_,(hp.set_ 0 _).alloc _,fun h=>by first | rfl | omega⟩
   | exact ⟨rfl,((One.refl p w).set 0 _).alloc _,(hp.set_ 0 _).alloc _⟩
   | exact ⟨rfl,((One.refl p w).set 0 _).alloc _,_,(hp.set_ 0 _).alloc _⟩
theorem cplain_any (v:Value) (w:World):Calls Tryz.prog 319 #[v] w fun e w'=>e=.returned (.tuple #[])∧w'=w:=by
 go_enter Tryz.func319,Tryz.ntmps319
 go_wp2
 go_end0
 exact ⟨rfl,rfl⟩
def parsersL:List (Int × Value):=put (put (put (put (put (put (put (put [] 1 (.func (.func 319) #[] #[])) 2 (.func (.func 319) #[] #[])) 3 (.func (.func 319) #[] #[])) 4 (.func (.func 319) #[] #[])) 5 (.func (.func 320) #[] #[])) 6 (.func (.func 321) #[] #[])) 7 (.func (.func 322) #[] #[])) 8 (.func (.func 323) #[] #[])
theorem parsers_any (w:World):Calls Tryz.prog 278 #[] w fun e w'=>e=.returned (.map (some w.heap.size))∧HasMap iKeys w' w.heap.size parsersL∧New w w':=by
 have hmm:=@run_makeMap Tryz.prog
 have h00:=HasMap.made iKeys w
 go_enter Tryz.func278,Tryz.ntmps278
 go_wp2_with (first
  | (refine wpList_ins (E:=iKeys) rfl _ _ _ 385 384 rfl Tryz.underlying385 h00 (Nat.lt_of_le_of_lt (Nat.le_refl 0) (by unfold maxLen; decide)) 1 (by show (Lit.int .i64 1).wf=true; decide) _ rfl rfl rfl ?_; intro zw1 zm1 zo1)
  | (refine wpList_ins (E:=iKeys) rfl _ _ _ 385 384 rfl Tryz.underlying385 zm1 (Nat.lt_of_le_of_lt (ins_len (Nat.le_refl 0)) (by unfold maxLen; decide)) 2 (by show (Lit.int .i64 2).wf=true; decide) _ rfl rfl rfl ?_; intro zw2 zm2 zo2)
  | (refine wpList_ins (E:=iKeys) rfl _ _ _ 385 384 rfl Tryz.underlying385 zm2 (Nat.lt_of_le_of_lt (ins_len (ins_len (Nat.le_refl 0))) (by unfold maxLen; decide)) 3 (by show (Lit.int .i64 3).wf=true; decide) _ rfl rfl rfl ?_; intro zw3 zm3 zo3)
  | (refine wpList_ins (E:=iKeys) rfl _ _ _ 385 384 rfl Tryz.underlying385 zm3 (Nat.lt_of_le_of_lt (ins_len (ins_len (ins_len (Nat.le_refl 0)))) (by unfold maxLen; decide)) 4 (by show (Lit.int .i64 4).wf=true; decide) _ rfl rfl rfl ?_; intro zw4 zm4 zo4)
  | (refine wpList_ins (E:=iKeys) rfl _ _ _ 385 384 rfl Tryz.underlying385 zm4 (Nat.lt_of_le_of_lt (ins_len (ins_len (ins_len (ins_len (Nat.le_refl 0))))) (by unfold maxLen; decide)) 5 (by show (Lit.int .i64 5).wf=true; decide) _ rfl rfl rfl ?_; intro zw5 zm5 zo5)
  | (refine wpList_ins (E:=iKeys) rfl _ _ _ 385 384 rfl Tryz.underlying385 zm5 (Nat.lt_of_le_of_lt (ins_len (ins_len (ins_len (ins_len (ins_len (Nat.le_refl 0)))))) (by unfold maxLen; decide)) 6 (by show (Lit.int .i64 6).wf=true; decide) _ rfl rfl rfl ?_; intro zw6 zm6 zo6)
  | (refine wpList_ins (E:=iKeys) rfl _ _ _ 385 384 rfl Tryz.underlying385 zm6 (Nat.lt_of_le_of_lt (ins_len (ins_len (ins_len (ins_len (ins_len (ins_len (Nat.le_refl 0))))))) (by unfold maxLen; decide)) 7 (by show (Lit.int .i64 7).wf=true; decide) _ rfl rfl rfl ?_; intro zw7 zm7 zo7)
  | (refine wpList_ins (E:=iKeys) rfl _ _ _ 385 384 rfl Tryz.underlying385 zm7 (Nat.lt_of_le_of_lt (ins_len (ins_len (ins_len (ins_len (ins_len (ins_len (ins_len (Nat.le_refl 0)))))))) (by unfold maxLen; decide)) 8 (by show (Lit.int .i64 8).wf=true; decide) _ rfl rfl rfl ?_; intro zw8 zm8 zo8))
 go_ret
 exact ⟨rfl,zm8,New.one ((New.refl w).alloc _) (zo1.trans (zo2.trans (zo3.trans (zo4.trans (zo5.trans (zo6.trans (zo7.trans zo8))))))) (Nat.le_refl _)⟩
end Go.Proofs.YtliimglbbiebiaaGreatDoor
end

section
namespace Go.Proofs.YtliimglbbiebiaaGreatDoor
open Go.RowKit Go.Maps
def noopL:List UInt8:=[78,79,79,80]
theorem noop_words:∀ x ∈ noopL,wordB (x.toNat:Int)=true:=by decide +kernel
theorem noop_kind:kindI ⟨#[78,79,79,80]⟩=0:=by decide +kernel
theorem zeroPFn (w:World):(zeroValue 384).run Tryz.prog w=.ok .nilFunc w:=by kernel_rfl
theorem loadCmd {w:World} {g:Nat} {a0 a1 a2 a3 a4 a5 a6 a7 a8:Value} (h:Blk w g 47 #[a0,a1,a2,a3,a4,a5,a6,a7,a8]):(loadVar 47 ⟨g,0,none⟩).run Tryz.prog w=.ok (.agg #[a0,a1,a2,a3,a4,a5,a6,a7,a8]) w :=
 run_loadVar_row w g _ _ _ _ _ h Tryz.underlying47 rfl (by kernel_rfl)
theorem results_cc {P:Program} {fn:Func} {p q:Tmp} {t t':TypeId} (h:fn.results=#[.cell p t,.cell q t']) (tmps:Array Value) (w:World) {a a':Addr} {v v':Value}
 (hp:tmps[p]? = some (.pointer (some a))) (hq:tmps[q]? = some (.pointer (some a'))) (hv:(loadVar t a).run P w=.ok v w) (hv':(loadVar t' a').run P w=.ok v' w):(results fn tmps).run P w=.ok (.tuple #[v,v']) w:=by
 simp [results,h,hp,hq,asAddr,hv,hv']
theorem parse_line (x:UInt8) (hx:x=97∨x=98) (b off c:Nat) (hc:6≤c) (w:World) (hT:Tabs w) (hb:Bts w b off (lineL x)) (hblt:b < w.heap.size) :
 Calls Tryz.prog 206 #[.slice (some ⟨b,off,none⟩) 6 c] w fun e w'=>e=.returned (.tuple #[cmdV ⟨#[x]⟩ 1 ⟨#[]⟩ 0 (.slice none 0 0),.bool true])∧New w w':=by
 have hmf:∀ (fn:Fn) (first cap:Array Value) (w:World),(Instr.makeFunc fn first cap).run Tryz.prog w=.ok (.func fn first cap) w:=fun _ _ _ _=>rfl
 have HT:=Lib.hid hT
 clear hT
 have n0:New w ((w.alloc (.cells #[.string ⟨#[]⟩,.int .i64 0,.string ⟨#[]⟩,.slice none 0 0,.int .i64 0,.int .i64 0,.bool false,.int .u8 0,.slice none 0 0] 47)).alloc (.cells #[.bool false] 4)):=((New.refl w).alloc _).alloc _
 have rc0:Blk ((w.alloc (.cells #[.string ⟨#[]⟩,.int .i64 0,.string ⟨#[]⟩,.slice none 0 0,.int .i64 0,.int .i64 0,.bool false,.int .u8 0,.slice none 0 0] 47)).alloc (.cells #[.bool false] 4)) w.heap.size 47 #[.string ⟨#[]⟩,.int .i64 0,.string ⟨#[]⟩,.slice none 0 0,.int .i64 0,.int .i64 0,.bool false,.int .u8 0,.slice none 0 0]:=(Blk.new _ _ _).alloc _
 have ro0:Blk ((w.alloc (.cells #[.string ⟨#[]⟩,.int .i64 0,.string ⟨#[]⟩,.slice none 0 0,.int .i64 0,.int .i64 0,.bool false,.int .u8 0,.slice none 0 0] 47)).alloc (.cells #[.bool false] 4)) (w.heap.size + 1) 4 #[.bool false]:=Blk.new1 _ _ _ _
 go_enter_defers Tryz.func206,Tryz.ntmps206
 go_wp2_with fail
 refine (tag_line x hx b off c hc _ (hb.new n0)).mono ?_
 rintro e w1 ⟨rfl,m1⟩
 have n1:=n0.trans m1
 have rc1:=m1.blk rc0
 have ro1:=m1.blk ro0
 have s1:=m1.size
 rw [World.size_alloc,World.size_alloc] at s1
 clear rc0 ro0 m1 n0
 go_wp2_with fail
 refine (need_true _).mono ?_
 rintro e w2 ⟨rfl,rfl⟩
 have n2:=n1.alloc (.cells #[.string ⟨#[x]⟩] 9)
 have hb2:Bts (w1.alloc (.cells #[.string ⟨#[x]⟩] 9)) b (off + 2) noopL:=(hb.new n2).drop 2
 have rt2:Blk (w1.alloc (.cells #[.string ⟨#[x]⟩] 9)) w1.heap.size 9 #[.string ⟨#[x]⟩]:=Blk.new _ _ _
 have rc2:=rc1.alloc (.cells #[.string ⟨#[x]⟩] 9)
 have ro2:=ro1.alloc (.cells #[.string ⟨#[x]⟩] 9)
 have s2:=n2.size
 generalize hw2:(w1.alloc (.cells #[.string ⟨#[x]⟩] 9))=w2 at *
 go_wp2_with fail
 refine (tokens_word b (off + 2) (c - 2) noopL (by decide) (by show 4≤c - 2; omega) noop_words (by decide) w2 hb2 (by omega)).mono ?_
 rintro e w3 ⟨o,rfl,ho,m3⟩
 have n3:=n2.trans m3
 have rc3:=m3.blk rc2
 have ro3:=m3.blk ro2
 have rt3:=m3.blk rt2
 have s3:=m3.size
 obtain ⟨A,C,rfl,hC⟩:=ho.form
 have hC2:2≤C:=hC
 obtain ⟨g,rfl⟩:=ho.some_ (by decide)
 have k0:w3.cell? ⟨g,0,none⟩=some (.int .i64 4):=ho.cell_at (k:=0) rfl (j:=0) rfl
 have k1:w3.cell? ⟨g,0 + 1,none⟩=some (.string ⟨#[78,79,79,80]⟩):=ho.cell_at (k:=0) rfl (j:=1) rfl
 have k2:w3.cell? ⟨g,0 + 2,none⟩=some (.int .i64 0):=ho.cell_at (k:=0) rfl (j:=2) rfl
 have k3:w3.cell? ⟨g,0 + 3,none⟩=some (.int .i64 0):=ho.cell_at (k:=1) rfl (j:=0) rfl
 have k4:w3.cell? ⟨g,0 + 3 + 1,none⟩=some (.string ⟨#[]⟩):=ho.cell_at (k:=1) rfl (j:=1) rfl
 have k5:w3.cell? ⟨g,0 + 3 + 2,none⟩=some (.int .i64 4):=ho.cell_at (k:=1) rfl (j:=2) rfl
 have hg:=(ho.block rfl).1
 have hg3:=(ho.block rfl).2
 clear rc2 ro2 rt2 rc1 ro1 n1 n2 m3 ho hb2 hC
 go_wp2_with fail
 refine (need_true _).mono ?_
 rintro e w4 ⟨rfl,rfl⟩
 have n4:New w ((w4.alloc (.cells #[.slice (some ⟨g,0,none⟩) 2 C,.string ⟨#[]⟩,.int .i64 0,.string ⟨#[]⟩,.slice none 0 0,.int .i64 0,.int .i64 0,.bool false,.int .u8 0,.slice none 0 0] 381)).alloc (.cells #[.int .i64 4] 3)):=(n3.alloc _).alloc _
 have p4:Blk ((w4.alloc (.cells #[.slice (some ⟨g,0,none⟩) 2 C,.string ⟨#[]⟩,.int .i64 0,.string ⟨#[]⟩,.slice none 0 0,.int .i64 0,.int .i64 0,.bool false,.int .u8 0,.slice none 0 0] 381)).alloc (.cells #[.int .i64 4] 3)) w4.heap.size 381 #[.slice (some ⟨g,0,none⟩) 2 C,.string ⟨#[]⟩,.int .i64 0,.string ⟨#[]⟩,.slice none 0 0,.int .i64 0,.int .i64 0,.bool false,.int .u8 0,.slice none 0 0]:=(Blk.new _ _ _).alloc _
 have kb4:Blk ((w4.alloc (.cells #[.slice (some ⟨g,0,none⟩) 2 C,.string ⟨#[]⟩,.int .i64 0,.string ⟨#[]⟩,.slice none 0 0,.int .i64 0,.int .i64 0,.bool false,.int .u8 0,.slice none 0 0] 381)).alloc (.cells #[.int .i64 4] 3)) (w4.heap.size + 1) 3 #[.int .i64 4]:=Blk.new1 _ _ _ _
 have m4:New w4 ((w4.alloc (.cells #[.slice (some ⟨g,0,none⟩) 2 C,.string ⟨#[]⟩,.int .i64 0,.string ⟨#[]⟩,.slice none 0 0,.int .i64 0,.int .i64 0,.bool false,.int .u8 0,.slice none 0 0] 381)).alloc (.cells #[.int .i64 4] 3)):=((New.refl w4).alloc _).alloc _
 go_wp2_with fail
 refine (ptake_ok w4.heap.size g 0 1 C (w4.heap.size + 1) 1 4 ⟨#[78,79,79,80]⟩ 0 _ _ _ _ _ _ _ _ _ (by omega) _ (kb4.cell 0) p4 (Fr.cell m4 k0 id) (Fr.cell m4 k1 id) (Fr.cell m4 k2 id)).mono ?_
 rintro e w5 ⟨rfl,o5,v5,p5,hv5⟩
 obtain rfl:=hv5 (by omega)
 have n5:New w w5:=New.one n4 o5 (by omega)
 have m5:New w4 w5:=New.one m4 o5 (Nat.le_refl _)
 clear n4 p4 kb4 m4 o5
 have hk:=kind_any ⟨#[78,79,79,80]⟩ (by decide) w5 (HT.out.new n5)
 rw [noop_kind] at hk
 go_wp2_with fail
 refine hk.mono ?_
 rintro e w6 ⟨rfl,m6⟩
 have n6:=n5.trans m6
 have m46:=m5.trans m6
 have p6:=m6.blk p5
 clear p5 hk n5 m5 m6
 go_wp2_with fail
 refine (need_true _).mono ?_
 rintro e w7 ⟨rfl,rfl⟩
 have l1:=rt3.lt
 have l2:=ro3.lt
 have l3:=rc3.lt
 have rt7:=New.blk m46 rt3
 have rc7:=New.blk m46 rc3
 have ro7:=New.blk m46 ro3
 have q0:w7.cell? ⟨w1.heap.size,0,none⟩=some (.string ⟨#[x]⟩):=rt7.cell 0
 have q1:w7.cell? ⟨w4.heap.size,1,none⟩=some (.string ⟨#[]⟩):=p6.cell 1
 have q2:w7.cell? ⟨w4.heap.size,2,none⟩=some (.int .i64 0):=p6.cell 2
 have f1:w7.frozen? ⟨w4.heap.size,1,none⟩=false:=p6.frozen 1
 have f2:w7.frozen? ⟨w4.heap.size,2,none⟩=false:=p6.frozen 2
 go_wp2_with fail
 have o8:=((One.refl w4.heap.size w7).set 1 (.string ⟨#[x]⟩)).set 2 (.int .i64 1)
 have p8:=(p6.set_ 1 (.string ⟨#[x]⟩)).set_ 2 (.int .i64 1)
 have s46:=m46.size
 have hne3:∀ k,k < w4.heap.size→¬ k=w4.heap.size:=fun k h=>by omega
 have rt8:=o8.blk rt7 (by omega)
 have rc8:=o8.blk rc7 (by omega)
 have ro8:=o8.blk ro7 (by omega)
 have n8:=New.one n6 o8 (by omega)
 have m48:New w4 _:=New.one m46 o8 (Nat.le_refl _)
 generalize ((w7.setCell ⟨w4.heap.size,1,none⟩ (.string ⟨#[x]⟩)).setCell ⟨w4.heap.size,2,none⟩ (.int .i64 1))=w8 at *
 clear q0 q1 q2 f1 f2 p6 rt7 rc7 ro7 o8 n6 m46
 refine (parsers_any w8).mono ?_
 rintro e w9 ⟨rfl,hm9,m9⟩
 have hlk:(Instr.lookup 385 (.map (some w8.heap.size)) (.int .i64 1) false).run Tryz.prog w9=.ok (.func (.func 319) #[] #[]) w9:=by
  have h:=hm9.run_look (t:=385) (e:=384) Tryz.underlying385 (zeroPFn w9) okI1
  exact h
 go_wp2_with fail
 refine (cplain_any _ _).mono ?_
 rintro e w10 ⟨rfl,rfl⟩
 have n10:=n8.trans m9
 have m410:=m48.trans m9
 have p10:=m9.blk p8
 have rc10:=m9.blk rc8
 have ro10:=m9.blk ro8
 have s10:=m410.size
 clear hm9 p8 rc8 ro8 rt8 m9 n8 m48
 have kb10:Blk (w10.alloc (.cells #[.int .i64 0] 3)) w10.heap.size 3 #[.int .i64 0]:=Blk.new _ _ _
 go_wp2_with fail
 refine (ptake_ok w4.heap.size g 3 0 (C - 1) w10.heap.size 1 0 ⟨#[]⟩ 4 _ _ _ _ _ _ _ _ _ (by omega) _ (kb10.cell 0) (p10.alloc _) (Fr.cell (m410.alloc _) k3 id) (Fr.cell (m410.alloc _) k4 id) (Fr.cell (m410.alloc _) k5 id)).mono ?_
 rintro e w11 ⟨rfl,o11,v11,p11,-⟩
 have n11:=New.one (n10.alloc _) o11 (by omega)
 have rc11:=o11.blk (rc10.alloc _) (by omega)
 have ro11:=o11.blk (ro10.alloc _) (by omega)
 have q0:w11.cell? ⟨w4.heap.size,1,none⟩=some (.string ⟨#[x]⟩):=p11.cell 1
 have q1:w11.cell? ⟨w4.heap.size,2,none⟩=some (.int .i64 1):=p11.cell 2
 have q2:w11.cell? ⟨w4.heap.size,3,none⟩=some (.string ⟨#[]⟩):=p11.cell 3
 have q3:w11.cell? ⟨w4.heap.size,4,none⟩=some (.slice none 0 0):=p11.cell 4
 have q4:w11.cell? ⟨w4.heap.size,5,none⟩=some (.int .i64 0):=p11.cell 5
 have q5:w11.cell? ⟨w4.heap.size,6,none⟩=some (.int .i64 0):=p11.cell 6
 have q6:w11.cell? ⟨w4.heap.size,7,none⟩=some (.bool false):=p11.cell 7
 have q7:w11.cell? ⟨w4.heap.size,8,none⟩=some (.int .u8 0):=p11.cell 8
 have q8:w11.cell? ⟨w4.heap.size,9,none⟩=some (.slice none 0 0):=p11.cell 9
 have y0:∀ i,w11.frozen? ⟨w.heap.size,i,none⟩=false:=rc11.frozen
 have y1:∀ i,w11.frozen? ⟨w.heap.size + 1,i,none⟩=false:=ro11.frozen
 have z0:w11.cell? ⟨w.heap.size,0,none⟩=some (.string ⟨#[]⟩):=rc11.cell 0
 have z1:w11.cell? ⟨w.heap.size,1,none⟩=some (.int .i64 0):=rc11.cell 1
 have z2:w11.cell? ⟨w.heap.size,2,none⟩=some (.string ⟨#[]⟩):=rc11.cell 2
 have z3:w11.cell? ⟨w.heap.size,3,none⟩=some (.slice none 0 0):=rc11.cell 3
 have z4:w11.cell? ⟨w.heap.size,4,none⟩=some (.int .i64 0):=rc11.cell 4
 have z5:w11.cell? ⟨w.heap.size,5,none⟩=some (.int .i64 0):=rc11.cell 5
 have z6:w11.cell? ⟨w.heap.size,6,none⟩=some (.bool false):=rc11.cell 6
 have z7:w11.cell? ⟨w.heap.size,7,none⟩=some (.int .u8 0):=rc11.cell 7
 have z8:w11.cell? ⟨w.heap.size,8,none⟩=some (.slice none 0 0):=rc11.cell 8
 have z9:w11.cell? ⟨w.heap.size + 1,0,none⟩=some (.bool false):=ro11.cell 0
 go_wp2
 have hA:=((((((((rc11.set_ 0 (.string ⟨#[x]⟩)).set_ 1 (.int .i64 1)).set_ 2 (.string ⟨#[]⟩)).set_ 3 (.slice none 0 0)).set_ 4 (.int .i64 0)).set_ 5 (.int .i64 0)).set_ 6 (.bool false)).set_ 7 (.int .u8 0)).set_ 8 (.slice none 0 0)
 have hA2:=hA.far (p:=⟨w.heap.size + 1,0,none⟩) (by simp) (.bool true)
 have hB:=((((((((ro11.far (p:=⟨w.heap.size,0,none⟩) (by simp) (.string ⟨#[x]⟩)).far (p:=⟨w.heap.size,1,none⟩) (by simp) (.int .i64 1)).far (p:=⟨w.heap.size,2,none⟩) (by simp) (.string ⟨#[]⟩)).far (p:=⟨w.heap.size,3,none⟩) (by simp) (.slice none 0 0)).far (p:=⟨w.heap.size,4,none⟩) (by simp) (.int .i64 0)).far (p:=⟨w.heap.size,5,none⟩) (by simp) (.int .i64 0)).far (p:=⟨w.heap.size,6,none⟩) (by simp) (.bool false)).far (p:=⟨w.heap.size,7,none⟩) (by simp) (.int .u8 0)).far (p:=⟨w.heap.size,8,none⟩) (by simp) (.slice none 0 0)
 have hB2:=hB.set_ 0 (.bool true)
 refine leaves_cons (f:=273) (args:=#[.pointer (some ⟨w1.heap.size,0,none⟩),.pointer (some ⟨w.heap.size,0,none⟩),.pointer (some ⟨w.heap.size + 1,0,none⟩)]) (by simp) (by simp [go_sem]) ?_
 refine (parse1_idle _ _ _ _).mono ?_
 rintro e u' w12 ⟨rfl,rfl,rfl⟩
 have hN:New w _:=Fr.setCell (Fr.setCell (Fr.setCell (Fr.setCell (Fr.setCell (Fr.setCell (Fr.setCell (Fr.setCell (Fr.setCell (Fr.setCell n11 (p:=⟨w.heap.size,0,none⟩) (by simp) (.string ⟨#[x]⟩)) (p:=⟨w.heap.size,1,none⟩) (by simp) (.int .i64 1)) (p:=⟨w.heap.size,2,none⟩) (by simp) (.string ⟨#[]⟩)) (p:=⟨w.heap.size,3,none⟩) (by simp) (.slice none 0 0)) (p:=⟨w.heap.size,4,none⟩) (by simp) (.int .i64 0)) (p:=⟨w.heap.size,5,none⟩) (by simp) (.int .i64 0)) (p:=⟨w.heap.size,6,none⟩) (by simp) (.bool false)) (p:=⟨w.heap.size,7,none⟩) (by simp) (.int .u8 0)) (p:=⟨w.heap.size,8,none⟩) (by simp) (.slice none 0 0)) (p:=⟨w.heap.size + 1,0,none⟩) (by simp) (.bool true)
 refine ⟨_,results_cc rfl _ _ rfl rfl (loadCmd hA2) (run_loadVar_one Tryz.underlying4 rfl (hB2.cell 0)),rfl,hN⟩
end Go.Proofs.YtliimglbbiebiaaGreatDoor
end

